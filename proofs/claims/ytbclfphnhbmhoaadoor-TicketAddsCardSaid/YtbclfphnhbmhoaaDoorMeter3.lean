
/- Walks of Src.Meter, and the statements' own functions MeterCounts, MeterOrder, MeterScales, MeterVolumes. -/
import Derived.Test.YtbclfphnhbmhoaaDoorMeter2
namespace Go.Proofs.YtbclfphnhbmhoaaDoor
open Go.RowKit
set_option linter.unusedVariables false
set_option linter.unusedSimpArgs false

/-- The call has read a valid meter. -/
def ReadsMeter (base bs : Nat) (w : World) (e : Ending) (w' : World) : Prop :=
  ∃ p b f : Int, mOk p b f ∧ e = .returned (mtr p b f) ∧ IsSrc base w' bs ∧ Only bs w w'

set_option maxHeartbeats 400000 in
theorem SrcMeter_any (base : Nat) (w : World) (bs : Nat) (hs : IsSrc base w bs) :
    Calls Tryd.prog 10 #[.pointer (some ⟨bs, 0, none⟩)] w (ReadsMeter base bs w) := by
  have hlt := hs.lt
  go_enter Tryd.func10, Tryd.ntmps10
  go_wp2_with fail
  refine (Pick_any base _ bs _ _ _ _ (fun n => 1 ≤ n ∧ n ≤ 1048576) (by repeat (first | (with_reducible assumption) | (with_reducible refine IsSrc.alloc ?_ _) | (with_reducible refine IsSrc.drew ?_) | (with_reducible refine IsSrc.drewN ?_ _) | (with_reducible refine IsSrc.setCell ?_ ?_ ?_ _) | (with_reducible refine IsSrc.kept ?_ (by with_reducible assumption)) | omega | (dsimp only; omega))) (by omega) (by omega) (by simp) (by omega) (RowOf.new (by simp) (by simp) (by simp [IntIs]))).mono ?_
  rintro e w1 ⟨p, hp, rfl, hs1, k1⟩
  have k1_c := (ocell k1).1; have k1_f := (ocell k1).2; have k1_z := k1.size; try simp only [World.size_alloc, World.size_setCell, World.size_drew, size_drewN] at k1_c k1_f k1_z
  go_wp2_with fail
  refine (Pick_any base _ bs _ _ _ _ (fun n => n = 16 ∨ n = 32) (by repeat (first | (with_reducible assumption) | (with_reducible refine IsSrc.alloc ?_ _) | (with_reducible refine IsSrc.drew ?_) | (with_reducible refine IsSrc.drewN ?_ _) | (with_reducible refine IsSrc.setCell ?_ ?_ ?_ _) | (with_reducible refine IsSrc.kept ?_ (by with_reducible assumption)) | omega | (dsimp only; omega))) (by omega) (by omega) (by simp) (by omega) (RowOf.new (by simp) (by simp) (by simp [IntIs]))).mono ?_
  rintro e w2 ⟨b, hb, rfl, hs2, k2⟩
  have k2_c := (ocell k2).1; have k2_f := (ocell k2).2; have k2_z := k2.size; try simp only [World.size_alloc, World.size_setCell, World.size_drew, size_drewN] at k2_c k2_f k2_z
  go_wp2_with fail
  refine (Pick_any base _ bs _ _ _ _ (fun n => 50000 ≤ n ∧ n ≤ 200000) (by repeat (first | (with_reducible assumption) | (with_reducible refine IsSrc.alloc ?_ _) | (with_reducible refine IsSrc.drew ?_) | (with_reducible refine IsSrc.drewN ?_ _) | (with_reducible refine IsSrc.setCell ?_ ?_ ?_ _) | (with_reducible refine IsSrc.kept ?_ (by with_reducible assumption)) | omega | (dsimp only; omega))) (by omega) (by omega) (by simp) (by omega) (RowOf.new (by simp) (by simp) (by simp [IntIs]))).mono ?_
  rintro e w3 ⟨f, hf, rfl, hs3, k3⟩
  have k3_c := (ocell k3).1; have k3_f := (ocell k3).2; have k3_z := k3.size; try simp only [World.size_alloc, World.size_setCell, World.size_drew, size_drewN] at k3_c k3_f k3_z
  go_wp2
  refine bodyPost_ret (v := mtr p b f) (by simp [results, Tryd.results10, go_sem, ↓IntWalk.iteOmega, k3_c, k2_c, k1_c]) rfl ⟨p, b, f, ⟨hp.1, hp.2, hb, hf.1, hf.2⟩, rfl, (by repeat (first | (with_reducible assumption) | (with_reducible refine IsSrc.alloc ?_ _) | (with_reducible refine IsSrc.drew ?_) | (with_reducible refine IsSrc.drewN ?_ _) | (with_reducible refine IsSrc.setCell ?_ ?_ ?_ _) | (with_reducible refine IsSrc.kept ?_ (by with_reducible assumption)) | omega | (dsimp only; omega))), (by repeat (first | (with_reducible exact Only.refl _ _) | (with_reducible assumption) | (with_reducible refine Only.alloc ?_ _) | (with_reducible refine Only.drew ?_) | (with_reducible refine Only.drewN ?_ _) | (with_reducible refine Only.setCell ?_ ?_ _) | (with_reducible refine Only.trans ?_ (by with_reducible assumption)) | (with_reducible refine Only.trans ?_ (Only.of_kept (by with_reducible assumption))) | (simp only [World.size_alloc, World.size_setCell, World.size_drew, size_drewN]; omega) | omega | (dsimp only; omega)))⟩

theorem mStep16 {l s x : Int} (h0 : 0 ≤ l) (h1 : l < 65536) (s0 : 0 ≤ s) (s1 : s < 65536) (hx : x = (l + s) % 65536) : mStep 16 l x = s := by
  unfold mStep mSpan
  rw [if_pos rfl]
  omega
theorem mReading16 {x : Int} : mReading 16 x ↔ 0 ≤ x ∧ x < 65536 := by unfold mReading mSpan; rw [if_pos rfl]

end Go.Proofs.YtbclfphnhbmhoaaDoor
