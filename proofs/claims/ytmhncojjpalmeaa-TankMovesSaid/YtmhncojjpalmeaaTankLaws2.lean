/- The walks of TankRises and TankRoom. -/
import Derived.Test.YtmhncojjpalmeaaTankLaws
namespace Go.Proofs.Ytmhncojjpalmeaa
open Go.RowKit
set_option linter.unusedVariables false
set_option linter.unusedSimpArgs false

/-- A level drawn from a number. -/
theorem mod_in {l : List Strap} (h : Straps l) {x : Int} : InL l ((fst l).lv + x % ((lst l).lv - (fst l).lv + 1)) := by
  have e := (ends_lt h).1
  have q0 := Int.emod_nonneg x (show (lst l).lv - (fst l).lv + 1 ≠ 0 by omega)
  have q1 := Int.emod_lt_of_pos x (show 0 < (lst l).lv - (fst l).lv + 1 by omega)
  exact ⟨by omega, by omega⟩

end Go.Proofs.Ytmhncojjpalmeaa
