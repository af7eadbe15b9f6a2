/- The walk of the statement TroubleAlone, one kind. -/
import Derived.Test.YtbodabbgcbjkcaaTrouble5
namespace Go.Proofs.Ytbodabbgcbjkcaa
open Go.RowKit
set_option linter.unusedVariables false
set_option linter.unusedSimpArgs false

set_option maxRecDepth 100000 in
set_option maxHeartbeats 4000000 in
theorem TroubleAlone2 (x ix v f lg tk : Int) (w : World) (hx0 : 0 ≤ x) (hx : x ≤ 255) (i0 : 0 ≤ ix) (i1 : ix ≤ 255) (v0 : -32768 ≤ v) (v1 : v ≤ 32767) (f0 : 0 ≤ f) (f1 : f ≤ 255) (l0 : 0 ≤ lg) (l1 : lg ≤ 255) (t0 : 0 ≤ tk) (t1 : tk ≤ 255) (hk : x % 4 = 1) :
    Calls Try.prog 4 #[.int .u8 x, .int .u8 ix, .int .i16 v, .int .u8 f, .int .u8 lg, .int .u8 tk] w (Ret (.bool true) w) := by
  have bd : TrBd [⟨2, ix % 9, v, f, f + lg⟩] := fun t ht => by simp at ht; subst ht; dsimp only; omega
  have BD := Lib.hid bd
  clear bd
  have hI0 : 0 ≤ ix % 9 := by omega
  have hI1 : ix % 9 ≤ 8 := by omega
  go_enter Try.func4, Try.ntmps4
  cases hh : hereB f (f + lg) (tk * 2) with
  | false =>
    have hf : f ≤ tk * 2 → ¬ tk * 2 < f + lg := by
      intro h1 h2
      simp [hereB, h1, h2] at hh
    have HF := Lib.hid hf
    clear hf
    by_cases hft : f ≤ tk * 2
    · have hlt : ¬ tk * 2 < f + lg := HF.out hft
      go_wp2_with fail
      generalize ix % 9 = J at *
      clear hk
      go_loopw [17] (fun i wr => ∃ I : Int, i = .int .i64 I ∧ 0 ≤ I ∧ I ≤ 9 ∧ Kept w wr ∧ Box wr w.heap.size #[.int .i64 2, .int .i64 J, .int .i64 v, .int .i64 f, .int .i64 (f + lg)] ∧ Box wr (w.heap.size + 1) #[.int .i64 2, .int .i64 J, .int .i64 v, .int .i64 f, .int .i64 (f + lg)]) (fun i _ => (9 - intOf i).toNat)
      case atStart => exact ⟨0, rfl, by omega, by omega, (by repeat (first | (with_reducible exact Kept.refl _) | (with_reducible assumption) | (with_reducible refine Kept.alloc ?_ _) | (with_reducible refine Kept.drew ?_) | (with_reducible refine Kept.drewN ?_ _) | (with_reducible refine Kept.setCell ?_ ?_ _) | (with_reducible refine Kept.trans ?_ (by with_reducible assumption)) | (simp only [World.size_alloc, World.size_setCell, World.size_drew, size_drewN]; omega) | omega | (dsimp only; omega))), (by repeat (first | (with_reducible assumption) | (with_reducible apply Box.new; first | (with_reducible rfl) | omega | (simp only [World.size_alloc, World.size_setCell, World.size_drew, size_drewN] <;> omega)) | (with_reducible apply Box.old) | (with_reducible apply Box.drew) | (with_reducible apply Box.drewN) | (with_reducible apply Box.set) | (with_reducible apply Box.other) | (with_reducible apply Box.only_ (by with_reducible assumption)) | (with_reducible apply Box.kept_ (by with_reducible assumption)) | (simp only [World.size_alloc, World.size_setCell, World.size_drew, size_drewN]; omega) | omega | (dsimp only; omega) | rfl | (simp; done))), (by repeat (first | (with_reducible assumption) | (with_reducible apply Box.new; first | (with_reducible rfl) | omega | (simp only [World.size_alloc, World.size_setCell, World.size_drew, size_drewN] <;> omega)) | (with_reducible apply Box.old) | (with_reducible apply Box.drew) | (with_reducible apply Box.drewN) | (with_reducible apply Box.set) | (with_reducible apply Box.other) | (with_reducible apply Box.only_ (by with_reducible assumption)) | (with_reducible apply Box.kept_ (by with_reducible assumption)) | (simp only [World.size_alloc, World.size_setCell, World.size_drew, size_drewN]; omega) | omega | (dsimp only; omega) | rfl | (simp; done)))⟩
      case round =>
        obtain ⟨I, rfl, hi0, hi1, hkw, hT, hL⟩ := hrel
        have cT := hT.cell
        by_cases hi : I < 9
        · by_cases hJi : J = I
          · subst hJi
            have hii : (J == J) = true := by simp
            have q1 := Lib.hid (show tsum [⟨2, J, v, f, f + lg⟩] 1 J (tk * 2) = 0 by rw [one_at]; simp [hh])
            have q2 := Lib.hid (show tsum [⟨2, J, v, f, f + lg⟩] 2 J (tk * 2) = 0 by rw [one_at]; simp [hh])
            have q3 := Lib.hid (show tany [⟨2, J, v, f, f + lg⟩] 3 J (tk * 2) = false by rw [any_at]; simp [hh])
            have q4 := Lib.hid (show tany [⟨2, J, v, f, f + lg⟩] 4 J (tk * 2) = false by rw [any_at]; simp [hh])
            go_wp2_with fail
            refine (Leak_any _ _ _ [⟨2, J, v, f, f + lg⟩] _ _ _ (TrS_one hL) BD.out).mono ?_
            rw [q1.out]
            rintro e w1 ⟨rfl, k1⟩
            have b1 := hL.kept k1
            have m1 := hT.kept k1
            have n1 := m1.cell
            go_wp2_with fail
            refine (Drift_any _ _ _ [⟨2, J, v, f, f + lg⟩] _ _ _ (TrS_one b1) BD.out).mono ?_
            rw [q2.out]
            rintro e w2 ⟨rfl, k2⟩
            have b2 := b1.kept k2
            have m2 := m1.kept k2
            have n2 := m2.cell
            go_wp2_with fail
            refine (Stopped_any _ _ _ [⟨2, J, v, f, f + lg⟩] _ _ _ (TrS_one b2)).mono ?_
            rw [q3.out]
            rintro e w3 ⟨rfl, k3⟩
            have b3 := b2.kept k3
            have m3 := m2.kept k3
            have n3 := m3.cell
            go_wp2_with fail
            refine (Stuck_any _ _ _ [⟨2, J, v, f, f + lg⟩] _ _ _ (TrS_one b3)).mono ?_
            rw [q4.out]
            rintro e w4 ⟨rfl, k4⟩
            have b4 := b3.kept k4
            have m4 := m3.kept k4
            have n4 := m4.cell
            go_wp2
            go_roundw
            case rel => exact ⟨J + 1, rfl, by omega, by omega, (by repeat (first | (with_reducible exact Kept.refl _) | (with_reducible assumption) | (with_reducible refine Kept.alloc ?_ _) | (with_reducible refine Kept.drew ?_) | (with_reducible refine Kept.drewN ?_ _) | (with_reducible refine Kept.setCell ?_ ?_ _) | (with_reducible refine Kept.trans ?_ (by with_reducible assumption)) | (simp only [World.size_alloc, World.size_setCell, World.size_drew, size_drewN]; omega) | omega | (dsimp only; omega))), m4, b4⟩
            case measure => simp [intOf]; omega
          · have hii : (I == J) = false := by rw [beq_eq_false_iff_ne]; omega
            have q1 := Lib.hid (show tsum [⟨2, J, v, f, f + lg⟩] 1 I (tk * 2) = 0 by rw [one_at]; simp [hh, hJi])
            have q2 := Lib.hid (show tsum [⟨2, J, v, f, f + lg⟩] 2 I (tk * 2) = 0 by rw [one_at]; simp [hh, hJi])
            have q3 := Lib.hid (show tany [⟨2, J, v, f, f + lg⟩] 3 I (tk * 2) = false by rw [any_at]; simp [hh, hJi])
            have q4 := Lib.hid (show tany [⟨2, J, v, f, f + lg⟩] 4 I (tk * 2) = false by rw [any_at]; simp [hh, hJi])
            go_wp2_with fail
            refine (Leak_any _ _ _ [⟨2, J, v, f, f + lg⟩] _ _ _ (TrS_one hL) BD.out).mono ?_
            rw [q1.out]
            rintro e w1 ⟨rfl, k1⟩
            have b1 := hL.kept k1
            have m1 := hT.kept k1
            have n1 := m1.cell
            go_wp2_with fail
            refine (Drift_any _ _ _ [⟨2, J, v, f, f + lg⟩] _ _ _ (TrS_one b1) BD.out).mono ?_
            rw [q2.out]
            rintro e w2 ⟨rfl, k2⟩
            have b2 := b1.kept k2
            have m2 := m1.kept k2
            have n2 := m2.cell
            go_wp2_with fail
            refine (Stopped_any _ _ _ [⟨2, J, v, f, f + lg⟩] _ _ _ (TrS_one b2)).mono ?_
            rw [q3.out]
            rintro e w3 ⟨rfl, k3⟩
            have b3 := b2.kept k3
            have m3 := m2.kept k3
            have n3 := m3.cell
            go_wp2_with fail
            refine (Stuck_any _ _ _ [⟨2, J, v, f, f + lg⟩] _ _ _ (TrS_one b3)).mono ?_
            rw [q4.out]
            rintro e w4 ⟨rfl, k4⟩
            have b4 := b3.kept k4
            have m4 := m3.kept k4
            have n4 := m4.cell
            go_wp2
            go_roundw
            case rel => exact ⟨I + 1, rfl, by omega, by omega, (by repeat (first | (with_reducible exact Kept.refl _) | (with_reducible assumption) | (with_reducible refine Kept.alloc ?_ _) | (with_reducible refine Kept.drew ?_) | (with_reducible refine Kept.drewN ?_ _) | (with_reducible refine Kept.setCell ?_ ?_ _) | (with_reducible refine Kept.trans ?_ (by with_reducible assumption)) | (simp only [World.size_alloc, World.size_setCell, World.size_drew, size_drewN]; omega) | omega | (dsimp only; omega))), m4, b4⟩
            case measure => simp [intOf]; omega
        · go_wp2_with fail
          refine (trAwake _).mono ?_
          rintro e w1 ⟨rfl, k1⟩
          go_wp2
          go_ret
          exact ⟨rfl, (by repeat (first | (with_reducible exact Kept.refl _) | (with_reducible assumption) | (with_reducible refine Kept.alloc ?_ _) | (with_reducible refine Kept.drew ?_) | (with_reducible refine Kept.drewN ?_ _) | (with_reducible refine Kept.setCell ?_ ?_ _) | (with_reducible refine Kept.trans ?_ (by with_reducible assumption)) | (simp only [World.size_alloc, World.size_setCell, World.size_drew, size_drewN]; omega) | omega | (dsimp only; omega)))⟩

    · go_wp2_with fail
      generalize ix % 9 = J at *
      clear hk
      go_loopw [17] (fun i wr => ∃ I : Int, i = .int .i64 I ∧ 0 ≤ I ∧ I ≤ 9 ∧ Kept w wr ∧ Box wr w.heap.size #[.int .i64 2, .int .i64 J, .int .i64 v, .int .i64 f, .int .i64 (f + lg)] ∧ Box wr (w.heap.size + 1) #[.int .i64 2, .int .i64 J, .int .i64 v, .int .i64 f, .int .i64 (f + lg)]) (fun i _ => (9 - intOf i).toNat)
      case atStart => exact ⟨0, rfl, by omega, by omega, (by repeat (first | (with_reducible exact Kept.refl _) | (with_reducible assumption) | (with_reducible refine Kept.alloc ?_ _) | (with_reducible refine Kept.drew ?_) | (with_reducible refine Kept.drewN ?_ _) | (with_reducible refine Kept.setCell ?_ ?_ _) | (with_reducible refine Kept.trans ?_ (by with_reducible assumption)) | (simp only [World.size_alloc, World.size_setCell, World.size_drew, size_drewN]; omega) | omega | (dsimp only; omega))), (by repeat (first | (with_reducible assumption) | (with_reducible apply Box.new; first | (with_reducible rfl) | omega | (simp only [World.size_alloc, World.size_setCell, World.size_drew, size_drewN] <;> omega)) | (with_reducible apply Box.old) | (with_reducible apply Box.drew) | (with_reducible apply Box.drewN) | (with_reducible apply Box.set) | (with_reducible apply Box.other) | (with_reducible apply Box.only_ (by with_reducible assumption)) | (with_reducible apply Box.kept_ (by with_reducible assumption)) | (simp only [World.size_alloc, World.size_setCell, World.size_drew, size_drewN]; omega) | omega | (dsimp only; omega) | rfl | (simp; done))), (by repeat (first | (with_reducible assumption) | (with_reducible apply Box.new; first | (with_reducible rfl) | omega | (simp only [World.size_alloc, World.size_setCell, World.size_drew, size_drewN] <;> omega)) | (with_reducible apply Box.old) | (with_reducible apply Box.drew) | (with_reducible apply Box.drewN) | (with_reducible apply Box.set) | (with_reducible apply Box.other) | (with_reducible apply Box.only_ (by with_reducible assumption)) | (with_reducible apply Box.kept_ (by with_reducible assumption)) | (simp only [World.size_alloc, World.size_setCell, World.size_drew, size_drewN]; omega) | omega | (dsimp only; omega) | rfl | (simp; done)))⟩
      case round =>
        obtain ⟨I, rfl, hi0, hi1, hkw, hT, hL⟩ := hrel
        have cT := hT.cell
        by_cases hi : I < 9
        · by_cases hJi : J = I
          · subst hJi
            have hii : (J == J) = true := by simp
            have q1 := Lib.hid (show tsum [⟨2, J, v, f, f + lg⟩] 1 J (tk * 2) = 0 by rw [one_at]; simp [hh])
            have q2 := Lib.hid (show tsum [⟨2, J, v, f, f + lg⟩] 2 J (tk * 2) = 0 by rw [one_at]; simp [hh])
            have q3 := Lib.hid (show tany [⟨2, J, v, f, f + lg⟩] 3 J (tk * 2) = false by rw [any_at]; simp [hh])
            have q4 := Lib.hid (show tany [⟨2, J, v, f, f + lg⟩] 4 J (tk * 2) = false by rw [any_at]; simp [hh])
            go_wp2_with fail
            refine (Leak_any _ _ _ [⟨2, J, v, f, f + lg⟩] _ _ _ (TrS_one hL) BD.out).mono ?_
            rw [q1.out]
            rintro e w1 ⟨rfl, k1⟩
            have b1 := hL.kept k1
            have m1 := hT.kept k1
            have n1 := m1.cell
            go_wp2_with fail
            refine (Drift_any _ _ _ [⟨2, J, v, f, f + lg⟩] _ _ _ (TrS_one b1) BD.out).mono ?_
            rw [q2.out]
            rintro e w2 ⟨rfl, k2⟩
            have b2 := b1.kept k2
            have m2 := m1.kept k2
            have n2 := m2.cell
            go_wp2_with fail
            refine (Stopped_any _ _ _ [⟨2, J, v, f, f + lg⟩] _ _ _ (TrS_one b2)).mono ?_
            rw [q3.out]
            rintro e w3 ⟨rfl, k3⟩
            have b3 := b2.kept k3
            have m3 := m2.kept k3
            have n3 := m3.cell
            go_wp2_with fail
            refine (Stuck_any _ _ _ [⟨2, J, v, f, f + lg⟩] _ _ _ (TrS_one b3)).mono ?_
            rw [q4.out]
            rintro e w4 ⟨rfl, k4⟩
            have b4 := b3.kept k4
            have m4 := m3.kept k4
            have n4 := m4.cell
            go_wp2
            go_roundw
            case rel => exact ⟨J + 1, rfl, by omega, by omega, (by repeat (first | (with_reducible exact Kept.refl _) | (with_reducible assumption) | (with_reducible refine Kept.alloc ?_ _) | (with_reducible refine Kept.drew ?_) | (with_reducible refine Kept.drewN ?_ _) | (with_reducible refine Kept.setCell ?_ ?_ _) | (with_reducible refine Kept.trans ?_ (by with_reducible assumption)) | (simp only [World.size_alloc, World.size_setCell, World.size_drew, size_drewN]; omega) | omega | (dsimp only; omega))), m4, b4⟩
            case measure => simp [intOf]; omega
          · have hii : (I == J) = false := by rw [beq_eq_false_iff_ne]; omega
            have q1 := Lib.hid (show tsum [⟨2, J, v, f, f + lg⟩] 1 I (tk * 2) = 0 by rw [one_at]; simp [hh, hJi])
            have q2 := Lib.hid (show tsum [⟨2, J, v, f, f + lg⟩] 2 I (tk * 2) = 0 by rw [one_at]; simp [hh, hJi])
            have q3 := Lib.hid (show tany [⟨2, J, v, f, f + lg⟩] 3 I (tk * 2) = false by rw [any_at]; simp [hh, hJi])
            have q4 := Lib.hid (show tany [⟨2, J, v, f, f + lg⟩] 4 I (tk * 2) = false by rw [any_at]; simp [hh, hJi])
            go_wp2_with fail
            refine (Leak_any _ _ _ [⟨2, J, v, f, f + lg⟩] _ _ _ (TrS_one hL) BD.out).mono ?_
            rw [q1.out]
            rintro e w1 ⟨rfl, k1⟩
            have b1 := hL.kept k1
            have m1 := hT.kept k1
            have n1 := m1.cell
            go_wp2_with fail
            refine (Drift_any _ _ _ [⟨2, J, v, f, f + lg⟩] _ _ _ (TrS_one b1) BD.out).mono ?_
            rw [q2.out]
            rintro e w2 ⟨rfl, k2⟩
            have b2 := b1.kept k2
            have m2 := m1.kept k2
            have n2 := m2.cell
            go_wp2_with fail
            refine (Stopped_any _ _ _ [⟨2, J, v, f, f + lg⟩] _ _ _ (TrS_one b2)).mono ?_
            rw [q3.out]
            rintro e w3 ⟨rfl, k3⟩
            have b3 := b2.kept k3
            have m3 := m2.kept k3
            have n3 := m3.cell
            go_wp2_with fail
            refine (Stuck_any _ _ _ [⟨2, J, v, f, f + lg⟩] _ _ _ (TrS_one b3)).mono ?_
            rw [q4.out]
            rintro e w4 ⟨rfl, k4⟩
            have b4 := b3.kept k4
            have m4 := m3.kept k4
            have n4 := m4.cell
            go_wp2
            go_roundw
            case rel => exact ⟨I + 1, rfl, by omega, by omega, (by repeat (first | (with_reducible exact Kept.refl _) | (with_reducible assumption) | (with_reducible refine Kept.alloc ?_ _) | (with_reducible refine Kept.drew ?_) | (with_reducible refine Kept.drewN ?_ _) | (with_reducible refine Kept.setCell ?_ ?_ _) | (with_reducible refine Kept.trans ?_ (by with_reducible assumption)) | (simp only [World.size_alloc, World.size_setCell, World.size_drew, size_drewN]; omega) | omega | (dsimp only; omega))), m4, b4⟩
            case measure => simp [intOf]; omega
        · go_wp2_with fail
          refine (trAwake _).mono ?_
          rintro e w1 ⟨rfl, k1⟩
          go_wp2
          go_ret
          exact ⟨rfl, (by repeat (first | (with_reducible exact Kept.refl _) | (with_reducible assumption) | (with_reducible refine Kept.alloc ?_ _) | (with_reducible refine Kept.drew ?_) | (with_reducible refine Kept.drewN ?_ _) | (with_reducible refine Kept.setCell ?_ ?_ _) | (with_reducible refine Kept.trans ?_ (by with_reducible assumption)) | (simp only [World.size_alloc, World.size_setCell, World.size_drew, size_drewN]; omega) | omega | (dsimp only; omega)))⟩

  | true =>
    have hf : f ≤ tk * 2 ∧ tk * 2 < f + lg := by
      simpa [hereB] using hh
    obtain ⟨hft, hlt⟩ := hf
    have d1 : decide (f ≤ tk * 2) = true := decide_eq_true hft
    have d2 : decide (tk * 2 < f + lg) = true := decide_eq_true hlt
    go_wp2_with fail
    generalize ix % 9 = J at *
    clear hk
    go_loopw [17] (fun i wr => ∃ I : Int, i = .int .i64 I ∧ 0 ≤ I ∧ I ≤ 9 ∧ Kept w wr ∧ Box wr w.heap.size #[.int .i64 2, .int .i64 J, .int .i64 v, .int .i64 f, .int .i64 (f + lg)] ∧ Box wr (w.heap.size + 1) #[.int .i64 2, .int .i64 J, .int .i64 v, .int .i64 f, .int .i64 (f + lg)]) (fun i _ => (9 - intOf i).toNat)
    case atStart => exact ⟨0, rfl, by omega, by omega, (by repeat (first | (with_reducible exact Kept.refl _) | (with_reducible assumption) | (with_reducible refine Kept.alloc ?_ _) | (with_reducible refine Kept.drew ?_) | (with_reducible refine Kept.drewN ?_ _) | (with_reducible refine Kept.setCell ?_ ?_ _) | (with_reducible refine Kept.trans ?_ (by with_reducible assumption)) | (simp only [World.size_alloc, World.size_setCell, World.size_drew, size_drewN]; omega) | omega | (dsimp only; omega))), (by repeat (first | (with_reducible assumption) | (with_reducible apply Box.new; first | (with_reducible rfl) | omega | (simp only [World.size_alloc, World.size_setCell, World.size_drew, size_drewN] <;> omega)) | (with_reducible apply Box.old) | (with_reducible apply Box.drew) | (with_reducible apply Box.drewN) | (with_reducible apply Box.set) | (with_reducible apply Box.other) | (with_reducible apply Box.only_ (by with_reducible assumption)) | (with_reducible apply Box.kept_ (by with_reducible assumption)) | (simp only [World.size_alloc, World.size_setCell, World.size_drew, size_drewN]; omega) | omega | (dsimp only; omega) | rfl | (simp; done))), (by repeat (first | (with_reducible assumption) | (with_reducible apply Box.new; first | (with_reducible rfl) | omega | (simp only [World.size_alloc, World.size_setCell, World.size_drew, size_drewN] <;> omega)) | (with_reducible apply Box.old) | (with_reducible apply Box.drew) | (with_reducible apply Box.drewN) | (with_reducible apply Box.set) | (with_reducible apply Box.other) | (with_reducible apply Box.only_ (by with_reducible assumption)) | (with_reducible apply Box.kept_ (by with_reducible assumption)) | (simp only [World.size_alloc, World.size_setCell, World.size_drew, size_drewN]; omega) | omega | (dsimp only; omega) | rfl | (simp; done)))⟩
    case round =>
      obtain ⟨I, rfl, hi0, hi1, hkw, hT, hL⟩ := hrel
      have cT := hT.cell
      by_cases hi : I < 9
      · by_cases hJi : J = I
        · subst hJi
          have hii : (J == J) = true := by simp
          have q1 := Lib.hid (show tsum [⟨2, J, v, f, f + lg⟩] 1 J (tk * 2) = 0 by rw [one_at]; simp [hh])
          have q2 := Lib.hid (show tsum [⟨2, J, v, f, f + lg⟩] 2 J (tk * 2) = v by rw [one_at]; simp [hh])
          have q3 := Lib.hid (show tany [⟨2, J, v, f, f + lg⟩] 3 J (tk * 2) = false by rw [any_at]; simp [hh])
          have q4 := Lib.hid (show tany [⟨2, J, v, f, f + lg⟩] 4 J (tk * 2) = false by rw [any_at]; simp [hh])
          go_wp2_with fail
          refine (Leak_any _ _ _ [⟨2, J, v, f, f + lg⟩] _ _ _ (TrS_one hL) BD.out).mono ?_
          rw [q1.out]
          rintro e w1 ⟨rfl, k1⟩
          have b1 := hL.kept k1
          have m1 := hT.kept k1
          have n1 := m1.cell
          go_wp2_with fail
          refine (Drift_any _ _ _ [⟨2, J, v, f, f + lg⟩] _ _ _ (TrS_one b1) BD.out).mono ?_
          rw [q2.out]
          rintro e w2 ⟨rfl, k2⟩
          have b2 := b1.kept k2
          have m2 := m1.kept k2
          have n2 := m2.cell
          go_wp2_with fail
          refine (Stopped_any _ _ _ [⟨2, J, v, f, f + lg⟩] _ _ _ (TrS_one b2)).mono ?_
          rw [q3.out]
          rintro e w3 ⟨rfl, k3⟩
          have b3 := b2.kept k3
          have m3 := m2.kept k3
          have n3 := m3.cell
          go_wp2_with fail
          refine (Stuck_any _ _ _ [⟨2, J, v, f, f + lg⟩] _ _ _ (TrS_one b3)).mono ?_
          rw [q4.out]
          rintro e w4 ⟨rfl, k4⟩
          have b4 := b3.kept k4
          have m4 := m3.kept k4
          have n4 := m4.cell
          go_wp2
          go_roundw
          case rel => exact ⟨J + 1, rfl, by omega, by omega, (by repeat (first | (with_reducible exact Kept.refl _) | (with_reducible assumption) | (with_reducible refine Kept.alloc ?_ _) | (with_reducible refine Kept.drew ?_) | (with_reducible refine Kept.drewN ?_ _) | (with_reducible refine Kept.setCell ?_ ?_ _) | (with_reducible refine Kept.trans ?_ (by with_reducible assumption)) | (simp only [World.size_alloc, World.size_setCell, World.size_drew, size_drewN]; omega) | omega | (dsimp only; omega))), m4, b4⟩
          case measure => simp [intOf]; omega
        · have hii : (I == J) = false := by rw [beq_eq_false_iff_ne]; omega
          have q1 := Lib.hid (show tsum [⟨2, J, v, f, f + lg⟩] 1 I (tk * 2) = 0 by rw [one_at]; simp [hh, hJi])
          have q2 := Lib.hid (show tsum [⟨2, J, v, f, f + lg⟩] 2 I (tk * 2) = 0 by rw [one_at]; simp [hh, hJi])
          have q3 := Lib.hid (show tany [⟨2, J, v, f, f + lg⟩] 3 I (tk * 2) = false by rw [any_at]; simp [hh, hJi])
          have q4 := Lib.hid (show tany [⟨2, J, v, f, f + lg⟩] 4 I (tk * 2) = false by rw [any_at]; simp [hh, hJi])
          go_wp2_with fail
          refine (Leak_any _ _ _ [⟨2, J, v, f, f + lg⟩] _ _ _ (TrS_one hL) BD.out).mono ?_
          rw [q1.out]
          rintro e w1 ⟨rfl, k1⟩
          have b1 := hL.kept k1
          have m1 := hT.kept k1
          have n1 := m1.cell
          go_wp2_with fail
          refine (Drift_any _ _ _ [⟨2, J, v, f, f + lg⟩] _ _ _ (TrS_one b1) BD.out).mono ?_
          rw [q2.out]
          rintro e w2 ⟨rfl, k2⟩
          have b2 := b1.kept k2
          have m2 := m1.kept k2
          have n2 := m2.cell
          go_wp2_with fail
          refine (Stopped_any _ _ _ [⟨2, J, v, f, f + lg⟩] _ _ _ (TrS_one b2)).mono ?_
          rw [q3.out]
          rintro e w3 ⟨rfl, k3⟩
          have b3 := b2.kept k3
          have m3 := m2.kept k3
          have n3 := m3.cell
          go_wp2_with fail
          refine (Stuck_any _ _ _ [⟨2, J, v, f, f + lg⟩] _ _ _ (TrS_one b3)).mono ?_
          rw [q4.out]
          rintro e w4 ⟨rfl, k4⟩
          have b4 := b3.kept k4
          have m4 := m3.kept k4
          have n4 := m4.cell
          go_wp2
          go_roundw
          case rel => exact ⟨I + 1, rfl, by omega, by omega, (by repeat (first | (with_reducible exact Kept.refl _) | (with_reducible assumption) | (with_reducible refine Kept.alloc ?_ _) | (with_reducible refine Kept.drew ?_) | (with_reducible refine Kept.drewN ?_ _) | (with_reducible refine Kept.setCell ?_ ?_ _) | (with_reducible refine Kept.trans ?_ (by with_reducible assumption)) | (simp only [World.size_alloc, World.size_setCell, World.size_drew, size_drewN]; omega) | omega | (dsimp only; omega))), m4, b4⟩
          case measure => simp [intOf]; omega
      · go_wp2_with fail
        refine (trAwake _).mono ?_
        rintro e w1 ⟨rfl, k1⟩
        go_wp2
        go_ret
        exact ⟨rfl, (by repeat (first | (with_reducible exact Kept.refl _) | (with_reducible assumption) | (with_reducible refine Kept.alloc ?_ _) | (with_reducible refine Kept.drew ?_) | (with_reducible refine Kept.drewN ?_ _) | (with_reducible refine Kept.setCell ?_ ?_ _) | (with_reducible refine Kept.trans ?_ (by with_reducible assumption)) | (simp only [World.size_alloc, World.size_setCell, World.size_drew, size_drewN]; omega) | omega | (dsimp only; omega)))⟩


end Go.Proofs.Ytbodabbgcbjkcaa
