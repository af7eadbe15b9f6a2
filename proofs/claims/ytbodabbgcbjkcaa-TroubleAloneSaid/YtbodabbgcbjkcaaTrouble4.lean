/- The walk of the statement TroubleAlone, and of the statements' example (awake). -/
import Derived.Test.YtbodabbgcbjkcaaTrouble3
namespace Go.Proofs.Ytbodabbgcbjkcaa
open Go.RowKit
set_option linter.unusedVariables false
set_option linter.unusedSimpArgs false

theorem tsum_one (t : Trb) (kd ix tk : Int) : tsum [t] kd ix tk = if t.hits kd ix tk then t.value else 0 := by simp [tsum]
theorem tany_one (t : Trb) (kd ix tk : Int) : tany [t] kd ix tk = t.hits kd ix tk := by simp [tany]
/-- A slice of one trouble, in a block of its own. -/
theorem TrS_one {w : World} {b : Nat} {k i v f t : Int} (h : Box w b #[.int .i64 k, .int .i64 i, .int .i64 v, .int .i64 f, .int .i64 t]) : TrS w (some ⟨b, 0, none⟩) 1 1 [⟨k, i, v, f, t⟩] := by
  refine ⟨rfl, by omega, fun _ => ⟨b, 0, rfl, h.lt, fun j hj => ?_⟩⟩
  have hj0 : j = 0 := by simpa using hj
  subst hj0
  refine ⟨?_, ?_, ?_, ?_, ?_⟩ <;> (rw [Box.cell h]; rfl)

set_option maxHeartbeats 1000000 in
theorem trAwake (w : World) : Calls Try.prog 15 #[] w (Ret (.bool true) w) := by
  have bd : TrBd [⟨1, 0, 5, 10, 12⟩] := fun t ht => by simp at ht; subst ht; exact ⟨by decide, by decide⟩
  have BD := Lib.hid bd
  clear bd
  have e0 : tnext [⟨1, 0, 5, 10, 12⟩] 10 = (12, true) := by decide
  have e1 : tsum [⟨1, 0, 5, 10, 12⟩] 1 0 9 = 0 := by decide
  have e2 : tsum [⟨1, 0, 5, 10, 12⟩] 1 0 10 = 5 := by decide
  have e3 : tsum [⟨1, 0, 5, 10, 12⟩] 1 0 11 = 5 := by decide
  have e4 : tsum [⟨1, 0, 5, 10, 12⟩] 1 0 12 = 0 := by decide
  go_enter Try.func15, Try.ntmps15
  go_wp2_with fail
  have bx : Box (w.alloc (.cells #[.int .i64 1, .int .i64 0, .int .i64 5, .int .i64 10, .int .i64 12] 37)) w.heap.size #[.int .i64 1, .int .i64 0, .int .i64 5, .int .i64 10, .int .i64 12] := (by repeat (first | (with_reducible assumption) | (with_reducible apply Box.new; first | (with_reducible rfl) | omega | (simp only [World.size_alloc, World.size_setCell, World.size_drew, size_drewN] <;> omega)) | (with_reducible apply Box.old) | (with_reducible apply Box.drew) | (with_reducible apply Box.drewN) | (with_reducible apply Box.set) | (with_reducible apply Box.other) | (with_reducible apply Box.only_ (by with_reducible assumption)) | (with_reducible apply Box.kept_ (by with_reducible assumption)) | (simp only [World.size_alloc, World.size_setCell, World.size_drew, size_drewN]; omega) | omega | (dsimp only; omega) | rfl | (simp; done)))
  refine (Next_any _ _ _ [⟨1, 0, 5, 10, 12⟩] _ _ (TrS_one bx)).mono ?_
  rw [e0]
  rintro e w1 ⟨rfl, k1⟩
  have b1 := bx.kept k1
  go_wp2_with fail
  refine (Leak_any _ _ _ [⟨1, 0, 5, 10, 12⟩] _ _ _ (TrS_one b1) BD.out).mono ?_
  rw [e1]
  rintro e w2 ⟨rfl, k2⟩
  have b2 := b1.kept k2
  go_wp2_with fail
  refine (Leak_any _ _ _ [⟨1, 0, 5, 10, 12⟩] _ _ _ (TrS_one b2) BD.out).mono ?_
  rw [e2]
  rintro e w3 ⟨rfl, k3⟩
  have b3 := b2.kept k3
  go_wp2_with fail
  refine (Leak_any _ _ _ [⟨1, 0, 5, 10, 12⟩] _ _ _ (TrS_one b3) BD.out).mono ?_
  rw [e3]
  rintro e w4 ⟨rfl, k4⟩
  have b4 := b3.kept k4
  go_wp2_with fail
  refine (Leak_any _ _ _ [⟨1, 0, 5, 10, 12⟩] _ _ _ (TrS_one b4) BD.out).mono ?_
  rw [e4]
  rintro e w5 ⟨rfl, k5⟩
  go_wp2
  go_ret
  exact ⟨rfl, (by repeat (first | (with_reducible exact Kept.refl _) | (with_reducible assumption) | (with_reducible refine Kept.alloc ?_ _) | (with_reducible refine Kept.drew ?_) | (with_reducible refine Kept.drewN ?_ _) | (with_reducible refine Kept.setCell ?_ ?_ _) | (with_reducible refine Kept.trans ?_ (by with_reducible assumption)) | (simp only [World.size_alloc, World.size_setCell, World.size_drew, size_drewN]; omega) | omega | (dsimp only; omega)))⟩
end Go.Proofs.Ytbodabbgcbjkcaa
