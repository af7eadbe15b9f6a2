
/- The walk of CorrectProducts; the reference's Valid (batchlineref04). -/
import Derived.Test.YtbclfphnhbmhoaaDoorGenProd
import Derived.Test.YtbclfphnhbmhoaaDoorRefName
import Derived.Test.YtbclfphnhbmhoaaDoorCorMono
namespace Go.Proofs.YtbclfphnhbmhoaaDoor
open Go.RowKit
set_option linter.unusedVariables false
set_option linter.unusedSimpArgs false

set_option maxHeartbeats 1000000 in
theorem refPrdValid_any (s : ByteArray) (de ex co fr : Int) (w : World) (hs : s.size ≤ 140737488351232) :
    Calls Tryd.prog 45 #[prd s de ex co fr] w (Ret (.bool (pValid s de ex co fr)) w) := by
  have H := Lib.hid (show pValid s de ex co fr = (decide (pNums de ex co fr) && nameOk s) from rfl)
  go_enter Tryd.func45, Tryd.ntmps45
  go_wp2_with (go_at_call 58; refine (refName_any _ _ hs).mono ?_; rintro e w' ⟨rfl, rfl⟩)
  all_goals
    go_ret
    refine ⟨ret_b ?_, (by repeat (first | (with_reducible exact Kept.refl _) | (with_reducible assumption) | (with_reducible refine Kept.alloc ?_ _) | (with_reducible refine Kept.drew ?_) | (with_reducible refine Kept.drewN ?_ _) | (with_reducible refine Kept.setCell ?_ ?_ _) | (with_reducible refine Kept.trans ?_ (by with_reducible assumption)) | (simp only [World.size_alloc, World.size_setCell, World.size_drew, size_drewN]; omega) | omega | (dsimp only; omega)))⟩
    rw [H.out]
    simp only [*, Bool.and_true, Bool.and_false]
    first | done | exact (decide_eq_false (by unfold pNums; omega)).symm | exact decide_eq_decide.2 (by unfold pNums; omega)

theorem name_other : nameOk ⟨#[111, 116, 104, 101, 114]⟩ = true := by decide +kernel
theorem fac_still (t p : Int) : fac 0 0 t p = 1000000 := by
  have h : fHeat 0 t = 1000000 := by unfold fHeat hf; simp
  have h' : fPress 0 p = 1000000 := by unfold fPress hf; simp
  unfold fac
  rw [h, h']
  decide
end Go.Proofs.YtbclfphnhbmhoaaDoor
