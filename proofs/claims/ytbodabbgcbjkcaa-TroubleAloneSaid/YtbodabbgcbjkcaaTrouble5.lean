/- Two plain facts for the walk of TroubleAlone. -/
import Derived.Test.YtbodabbgcbjkcaaTrouble4
namespace Go.Proofs.Ytbodabbgcbjkcaa
open Go.RowKit
set_option linter.unusedVariables false
set_option linter.unusedSimpArgs false

theorem one_at (kd ix v f t K i tk : Int) : tsum [⟨kd, ix, v, f, t⟩] K i tk = if kd = K ∧ ix = i ∧ hereB f t tk = true then v else 0 := by
  rw [tsum_one]
  simp only [Trb.hits, hitsB, Bool.and_eq_true, beq_iff_eq, and_assoc]
theorem any_at (kd ix v f t K i tk : Int) : tany [⟨kd, ix, v, f, t⟩] K i tk = decide (kd = K ∧ ix = i ∧ hereB f t tk = true) := by
  rw [tany_one, Bool.eq_iff_iff]
  simp only [Trb.hits, hitsB, Bool.and_eq_true, beq_iff_eq, and_assoc, decide_eq_true_eq]

end Go.Proofs.Ytbodabbgcbjkcaa
