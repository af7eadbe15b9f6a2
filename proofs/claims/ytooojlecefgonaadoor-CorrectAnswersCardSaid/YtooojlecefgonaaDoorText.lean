/- The walk of Src.Text: one of some strings. -/
import Derived.Test.YtooojlecefgonaaDoorSrc
namespace Go.Proofs.YtooojlecefgonaaDoor
open Go.RowKit
set_option linter.unusedVariables false
set_option linter.unusedSimpArgs false
/-- The call returns some text, and has read a number from the reader. -/
def ReadsS (P : ByteArray → Prop) (base bs : Nat) (w : World) (e : Ending) (w' : World) : Prop :=
  ∃ s : ByteArray, P s ∧ e = .returned (.string s) ∧ IsSrc base w' bs ∧ Only bs w w'
set_option maxHeartbeats 400000 in
theorem Text_any (base : Nat) (w : World) (bs b o len cap : Nat) (P : ByteArray → Prop) (h : IsSrc base w bs) (h1 : 1 ≤ len) (h2 : len ≤ 1000000) (hb : b < w.heap.size) (hn : b ≠ bs) (hr : RowOf w b o len (StrIs P)) :
    Calls Tryd.prog 36 #[.pointer (some ⟨bs, 0, none⟩), .slice (some ⟨b, o, none⟩) len cap] w (ReadsS P base bs w) := by
  have HR := Lib.hid hr
  clear hr
  go_enter Tryd.func36, Tryd.ntmps36
  go_wp2_with fail
  refine (N_any base w bs _ h (by omega) (by omega)).mono ?_
  rintro e w1 ⟨r, ⟨hr1, hr2⟩, rfl, hs, ho⟩
  obtain ⟨k, rfl⟩ := Int.eq_ofNat_of_zero_le hr1
  have hk : k < len := by omega
  obtain ⟨v, ⟨n, hp, rfl⟩, hc⟩ := HR.out.only ho hb hn k hk
  go_wp2
  go_ret
  exact ⟨n, hp, rfl, hs, ho⟩
end Go.Proofs.YtooojlecefgonaaDoor
