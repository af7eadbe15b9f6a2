
/- TroubleBetween, in worlds. -/
import Derived.Test.YtiaenojpbiahgaaTr7
import Derived.Test.YtiaenojpbiahgaaBridge
namespace Go.Proofs.Ytiaenojpbiahgaa
open Go
theorem TroubleBetween_law (a : Option Addr) (len cap : Nat) (turn : Int) (w : World) (h : ArgInts w a len cap) (h0 : 0 ≤ turn) (h1 : turn ≤ 255) :
    Calls Try.prog 3 #[.slice a len cap, .int .u8 turn] w (Ret (.bool true) w) := by
  refine law_ints (us := [.int .u8 turn]) h fun ns hns => ?_
  have := TB_c ns hns turn.toNat (by omega) (0, 0)
  rw [show ((turn.toNat : Nat) : Int) = turn by omega] at this
  exact this
end Go.Proofs.Ytiaenojpbiahgaa
