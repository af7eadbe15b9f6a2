/- The walk of the statement TroubleAlone. -/
import Derived.Test.YtbodabbgcbjkcaaTrouA1
import Derived.Test.YtbodabbgcbjkcaaTrouA2
import Derived.Test.YtbodabbgcbjkcaaTrouA3
import Derived.Test.YtbodabbgcbjkcaaTrouA4
namespace Go.Proofs.Ytbodabbgcbjkcaa
theorem TroubleAlone_law (x ix v f lg tk : Int) (w : World) (hx0 : 0 ≤ x) (hx : x ≤ 255) (i0 : 0 ≤ ix) (i1 : ix ≤ 255) (v0 : -32768 ≤ v) (v1 : v ≤ 32767) (f0 : 0 ≤ f) (f1 : f ≤ 255) (l0 : 0 ≤ lg) (l1 : lg ≤ 255) (t0 : 0 ≤ tk) (t1 : tk ≤ 255) :
    Calls Try.prog 4 #[.int .u8 x, .int .u8 ix, .int .i16 v, .int .u8 f, .int .u8 lg, .int .u8 tk] w (Ret (.bool true) w) := by
  rcases (show x % 4 = 0 ∨ x % 4 = 1 ∨ x % 4 = 2 ∨ x % 4 = 3 by omega) with h | h | h | h
  · exact TroubleAlone1 x ix v f lg tk w hx0 hx i0 i1 v0 v1 f0 f1 l0 l1 t0 t1 h
  · exact TroubleAlone2 x ix v f lg tk w hx0 hx i0 i1 v0 v1 f0 f1 l0 l1 t0 t1 h
  · exact TroubleAlone3 x ix v f lg tk w hx0 hx i0 i1 v0 v1 f0 f1 l0 l1 t0 t1 h
  · exact TroubleAlone4 x ix v f lg tk w hx0 hx i0 i1 v0 v1 f0 f1 l0 l1 t0 t1 h
end Go.Proofs.Ytbodabbgcbjkcaa
