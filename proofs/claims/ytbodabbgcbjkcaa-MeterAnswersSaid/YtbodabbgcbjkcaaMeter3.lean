/- Walks of Src.Meter, and the statements' own functions MeterCounts, MeterOrder, MeterScales, MeterVolumes. -/
import Derived.Test.YtbodabbgcbjkcaaMeter2
namespace Go.Proofs.Ytbodabbgcbjkcaa
open Go.RowKit
set_option linter.unusedVariables false
set_option linter.unusedSimpArgs false

/-- The call has read a valid meter. -/
def ReadsMeter (base bs : Nat) (w : World) (e : Ending) (w' : World) : Prop :=
  ∃ p b f : Int, mOk p b f ∧ e = .returned (mtr p b f) ∧ IsSrc base w' bs ∧ Only bs w w'

set_option maxHeartbeats 400000 in
theorem SrcMeter_any (base : Nat) (w : World) (bs : Nat) (hs : IsSrc base w bs) :
    Calls Try.prog 24 #[.pointer (some ⟨bs, 0, none⟩)] w (ReadsMeter base bs w) := by
  have hlt := hs.lt
  go_enter Try.func24, Try.ntmps24
  go_wp2_with fail
  refine (Pick_any base _ bs _ _ _ _ (fun n => 1 ≤ n ∧ n ≤ 1048576) (by repeat (first | (with_reducible assumption) | (with_reducible refine IsSrc.alloc ?_ _) | (with_reducible refine IsSrc.drew ?_) | (with_reducible refine IsSrc.drewN ?_ _) | (with_reducible refine IsSrc.setCell ?_ ?_ ?_ _) | (with_reducible refine IsSrc.kept ?_ (by with_reducible assumption)) | omega | (dsimp only; omega))) (by omega) (by omega) (by simp) (by omega) (RowOf.new (by simp) (by simp) (by simp [IntIs]))).mono ?_
  rintro e w1 ⟨p, hp, rfl, hs1, k1⟩
  have k1_c := (ocell k1).1; have k1_f := (ocell k1).2; have k1_z := k1.size; try simp only [World.size_alloc, World.size_setCell, World.size_drew, size_drewN] at k1_c k1_f k1_z
  go_wp2_with fail
  refine (Pick_any base _ bs _ _ _ _ (fun n => n = 16 ∨ n = 32) (by repeat (first | (with_reducible assumption) | (with_reducible refine IsSrc.alloc ?_ _) | (with_reducible refine IsSrc.drew ?_) | (with_reducible refine IsSrc.drewN ?_ _) | (with_reducible refine IsSrc.setCell ?_ ?_ ?_ _) | (with_reducible refine IsSrc.kept ?_ (by with_reducible assumption)) | omega | (dsimp only; omega))) (by omega) (by omega) (by simp) (by omega) (RowOf.new (by simp) (by simp) (by simp [IntIs]))).mono ?_
  rintro e w2 ⟨b, hb, rfl, hs2, k2⟩
  have k2_c := (ocell k2).1; have k2_f := (ocell k2).2; have k2_z := k2.size; try simp only [World.size_alloc, World.size_setCell, World.size_drew, size_drewN] at k2_c k2_f k2_z
  go_wp2_with fail
  refine (Pick_any base _ bs _ _ _ _ (fun n => 50000 ≤ n ∧ n ≤ 200000) (by repeat (first | (with_reducible assumption) | (with_reducible refine IsSrc.alloc ?_ _) | (with_reducible refine IsSrc.drew ?_) | (with_reducible refine IsSrc.drewN ?_ _) | (with_reducible refine IsSrc.setCell ?_ ?_ ?_ _) | (with_reducible refine IsSrc.kept ?_ (by with_reducible assumption)) | omega | (dsimp only; omega))) (by omega) (by omega) (by simp) (by omega) (RowOf.new (by simp) (by simp) (by simp [IntIs]))).mono ?_
  rintro e w3 ⟨f, hf, rfl, hs3, k3⟩
  have k3_c := (ocell k3).1; have k3_f := (ocell k3).2; have k3_z := k3.size; try simp only [World.size_alloc, World.size_setCell, World.size_drew, size_drewN] at k3_c k3_f k3_z
  go_wp2
  refine bodyPost_ret (v := mtr p b f) (by simp [results, Try.results24, go_sem, ↓IntWalk.iteOmega, k3_c, k2_c, k1_c]) rfl ⟨p, b, f, ⟨hp.1, hp.2, hb, hf.1, hf.2⟩, rfl, (by repeat (first | (with_reducible assumption) | (with_reducible refine IsSrc.alloc ?_ _) | (with_reducible refine IsSrc.drew ?_) | (with_reducible refine IsSrc.drewN ?_ _) | (with_reducible refine IsSrc.setCell ?_ ?_ ?_ _) | (with_reducible refine IsSrc.kept ?_ (by with_reducible assumption)) | omega | (dsimp only; omega))), (by repeat (first | (with_reducible exact Only.refl _ _) | (with_reducible assumption) | (with_reducible refine Only.alloc ?_ _) | (with_reducible refine Only.drew ?_) | (with_reducible refine Only.drewN ?_ _) | (with_reducible refine Only.setCell ?_ ?_ _) | (with_reducible refine Only.trans ?_ (by with_reducible assumption)) | (with_reducible refine Only.trans ?_ (Only.of_kept (by with_reducible assumption))) | (simp only [World.size_alloc, World.size_setCell, World.size_drew, size_drewN]; omega) | omega | (dsimp only; omega)))⟩

theorem mStep16 {l s x : Int} (h0 : 0 ≤ l) (h1 : l < 65536) (s0 : 0 ≤ s) (s1 : s < 65536) (hx : x = (l + s) % 65536) : mStep 16 l x = s := by
  unfold mStep mSpan
  rw [if_pos rfl]
  omega
theorem mReading16 {x : Int} : mReading 16 x ↔ 0 ≤ x ∧ x < 65536 := by unfold mReading mSpan; rw [if_pos rfl]

set_option maxHeartbeats 1000000 in
theorem MeterOrder_law (a : Option Addr) (len cap : Nat) (x s t : Int) (w : World) (h : ArgInts w a len cap) (x0 : 0 ≤ x) (x1 : x ≤ 65535) (s0 : 0 ≤ s) (s1 : s ≤ 65535) (t0 : 0 ≤ t) (t1 : t ≤ 65535) :
    Calls Try.prog 7 #[.slice a len cap, .int .u16 x, .int .u16 s, .int .u16 t] w (Ret (.bool true) w) := by
  have q0 : 0 ≤ t % (s + 1) := Int.emod_nonneg _ (by omega)
  have q1 : t % (s + 1) ≤ s := by have := Int.emod_lt_of_pos t (show 0 < s + 1 by omega); omega
  have z0 : (s + 1 == 0) = false := by rw [beq_eq_false_iff_ne]; omega
  go_enter Try.func7, Try.ntmps7
  go_wp2_with fail
  refine (New_any _ _ _ _ h).mono ?_
  rintro e w1 ⟨bs, rfl, hs1, k1⟩
  have k1_c := (kcell k1).1; have k1_f := (kcell k1).2; have k1_z := k1.size; try simp only [World.size_alloc, World.size_setCell, World.size_drew, size_drewN] at k1_c k1_f k1_z
  have hlt := hs1.lt
  go_wp2_with fail
  refine (SrcMeter_any _ _ bs hs1).mono ?_
  rintro e w2 ⟨p, b, f, hm, rfl, hs2, k2⟩
  have k2_c := (ocell k2).1; have k2_f := (ocell k2).2; have k2_z := k2.size; try simp only [World.size_alloc, World.size_setCell, World.size_drew, size_drewN] at k2_c k2_f k2_z
  have hm16 : mOk p 16 f := ⟨hm.1, hm.2.1, .inl rfl, hm.2.2.2⟩
  go_wp2_with fail
  refine (Read_ok p 16 f x 0 _ s _ hm16 ⟨mReading16.2 ⟨by omega, by omega⟩, by omega, by omega⟩ (mReading16.2 ⟨by omega, by omega⟩) (by rw [mStep16 x0 (by omega) s0 (by omega) rfl]; omega) (by omega)).mono ?_
  rintro e w3 ⟨rfl, k3⟩
  have k3_c := (kcell k3).1; have k3_f := (kcell k3).2; have k3_z := k3.size; try simp only [World.size_alloc, World.size_setCell, World.size_drew, size_drewN] at k3_c k3_f k3_z
  go_wp2_with fail
  refine (Read_ok p 16 f x 0 _ (t % (s + 1)) _ hm16 ⟨mReading16.2 ⟨by omega, by omega⟩, by omega, by omega⟩ (mReading16.2 ⟨by omega, by omega⟩) (by rw [mStep16 x0 (by omega) q0 (by omega) rfl]; omega) (by omega)).mono ?_
  rintro e w4 ⟨rfl, k4⟩
  have k4_c := (kcell k4).1; have k4_f := (kcell k4).2; have k4_z := k4.size; try simp only [World.size_alloc, World.size_setCell, World.size_drew, size_drewN] at k4_c k4_f k4_z
  go_wp2_with fail
  refine (Read_ok p 16 f _ _ _ s _ hm16 ⟨mReading16.2 ⟨by omega, by omega⟩, by omega, by omega⟩ (mReading16.2 ⟨by omega, by omega⟩) (by rw [mStep16 (s := s - t % (s + 1)) (by omega) (by omega) (by omega) (by omega) (by omega)]; omega) (by omega)).mono ?_
  rintro e w5 ⟨rfl, k5⟩
  have k5_c := (kcell k5).1; have k5_f := (kcell k5).2; have k5_z := k5.size; try simp only [World.size_alloc, World.size_setCell, World.size_drew, size_drewN] at k5_c k5_f k5_z
  go_wp2_with fail
  refine (meterAwake _).mono ?_
  rintro e w6 ⟨rfl, k6⟩
  have k6_c := (kcell k6).1; have k6_f := (kcell k6).2; have k6_z := k6.size; try simp only [World.size_alloc, World.size_setCell, World.size_drew, size_drewN] at k6_c k6_f k6_z
  go_wp2
  go_ret
  exact ⟨rfl, Only.kept (by repeat (first | (with_reducible exact Kept.refl _) | (with_reducible assumption) | (with_reducible refine Kept.alloc ?_ _) | (with_reducible refine Kept.drew ?_) | (with_reducible refine Kept.drewN ?_ _) | (with_reducible refine Kept.setCell ?_ ?_ _) | (with_reducible refine Kept.trans ?_ (by with_reducible assumption)) | (simp only [World.size_alloc, World.size_setCell, World.size_drew, size_drewN]; omega) | omega | (dsimp only; omega))) k2 hlt.1 |>.trans (by repeat (first | (with_reducible exact Kept.refl _) | (with_reducible assumption) | (with_reducible refine Kept.alloc ?_ _) | (with_reducible refine Kept.drew ?_) | (with_reducible refine Kept.drewN ?_ _) | (with_reducible refine Kept.setCell ?_ ?_ _) | (with_reducible refine Kept.trans ?_ (by with_reducible assumption)) | (simp only [World.size_alloc, World.size_setCell, World.size_drew, size_drewN]; omega) | omega | (dsimp only; omega)))⟩
end Go.Proofs.Ytbodabbgcbjkcaa
