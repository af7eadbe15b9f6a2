
/- Walks of package meter: litres, Litres, Between; and the example of the statements (awake). -/
import Derived.Test.YtbclfphnhbmhoaaDoorMeter
namespace Go.Proofs.YtbclfphnhbmhoaaDoor
open Go.RowKit
set_option linter.unusedVariables false
set_option linter.unusedSimpArgs false

/-- The litres of some pulses. -/
def mLit (p f n : Int) : Int := n * f / (100 * p)
theorem mul_bd {n f N F : Int} (h0 : 0 ≤ n) (h1 : n ≤ N) (g0 : 0 ≤ f) (g1 : f ≤ F) : 0 ≤ n * f ∧ n * f ≤ N * F :=
  ⟨Int.mul_nonneg h0 g0, Int.le_trans (Int.mul_le_mul_of_nonneg_right h1 g0) (Int.mul_le_mul_of_nonneg_left g1 (by omega))⟩

set_option maxHeartbeats 400000 in
theorem litres_in (p b f n : Int) (w : World) (h : mOk p b f) (h0 : 0 ≤ n) (h1 : n ≤ 1099511627776) :
    Calls Tryd.prog 52 #[mtr p b f, .int .i64 n] w (Ret (.int .i64 (mLit p f n)) w) := by
  obtain ⟨p1, p2, _, f1, f2⟩ := h
  have hm := mul_bd (N := 1099511627776) (F := 200000) h0 h1 (show 0 ≤ f by omega) f2
  have HD := Lib.hid (show rDown (n * f) (100 * p) = mLit p f n from rDown_in (by omega) (by omega) (by omega) (by omega))
  go_enter Tryd.func52, Tryd.ntmps52
  go_wp2_with fail
  refine (Down_any (n * f) (100 * p) _).mono ?_
  rintro e w1 ⟨rfl, k, rfl⟩
  go_wp2
  go_ret
  exact ⟨ret_i HD.out, (by repeat (first | (with_reducible exact Kept.refl _) | (with_reducible assumption) | (with_reducible refine Kept.alloc ?_ _) | (with_reducible refine Kept.drew ?_) | (with_reducible refine Kept.drewN ?_ _) | (with_reducible refine Kept.setCell ?_ ?_ _) | (with_reducible refine Kept.trans ?_ (by with_reducible assumption)) | (simp only [World.size_alloc, World.size_setCell, World.size_drew, size_drewN]; omega) | omega | (dsimp only; omega)))⟩

theorem mLit_bd (p f n : Int) (p1 : 1 ≤ p) (f1 : 0 ≤ f) (f2 : f ≤ 200000) (h0 : 0 ≤ n) (h1 : n ≤ 1099511627776) : 0 ≤ mLit p f n ∧ mLit p f n ≤ 219902325555200000 := by
  have hm := mul_bd (N := 1099511627776) (F := 200000) h0 h1 f1 f2
  unfold mLit
  exact ⟨Int.ediv_nonneg hm.1 (by omega), Int.le_trans (Int.ediv_le_self _ hm.1) hm.2⟩

set_option maxHeartbeats 400000 in
theorem Between_in (p b f l n l' n' : Int) (w : World) (h : mOk p b f) (hc : cOk b l n) (hc' : cOk b l' n') (hn : n ≤ n') :
    Calls Tryd.prog 38 #[mtr p b f, cnt l n, cnt l' n'] w (RetIE (mLit p f n' - mLit p f n) 0 w) := by
  have hb := h.2.2.1
  have hm : mValid p b f = true := decide_eq_true h
  have d1 : decide (cOk b l n) = true := decide_eq_true hc
  have d2 : decide (cOk b l' n') = true := decide_eq_true hc'
  obtain ⟨_, n1, n2⟩ := id hc
  obtain ⟨_, m1, m2⟩ := id hc'
  have b1 := mLit_bd p f n h.1 (by have := h.2.2.2.1; omega) h.2.2.2.2 n1 n2
  have b2 := mLit_bd p f n' h.1 (by have := h.2.2.2.1; omega) h.2.2.2.2 m1 m2
  by_cases hne : l = l' ∧ n = n'
  · obtain ⟨rfl, rfl⟩ := hne
    go_enter Tryd.func38, Tryd.ntmps38
    go_wp2_with fail
    refine (meterValid_any _ _ _ _).mono ?_
    rintro e w1 ⟨rfl, k1⟩
    rw [hm]
    have k1_c := (kcell k1).1; have k1_f := (kcell k1).2; have k1_z := k1.size; try simp only [World.size_alloc, World.size_setCell, World.size_drew, size_drewN] at k1_c k1_f k1_z
    go_wp2_with fail
    refine (valid_in _ _ _ _ _ _ hb).mono ?_
    rintro e w2 ⟨rfl, k2⟩
    rw [d1]
    have k2_c := (kcell k2).1; have k2_f := (kcell k2).2; have k2_z := k2.size; try simp only [World.size_alloc, World.size_setCell, World.size_drew, size_drewN] at k2_c k2_f k2_z
    go_wp2_with fail
    refine (valid_in _ _ _ _ _ _ hb).mono ?_
    rintro e w3 ⟨rfl, k3⟩
    rw [d2]
    have k3_c := (kcell k3).1; have k3_f := (kcell k3).2; have k3_z := k3.size; try simp only [World.size_alloc, World.size_setCell, World.size_drew, size_drewN] at k3_c k3_f k3_z
    go_wp2
    go_ret2
    exact ⟨ret_ii (Int.sub_self _).symm rfl, (by repeat (first | (with_reducible exact Kept.refl _) | (with_reducible assumption) | (with_reducible refine Kept.alloc ?_ _) | (with_reducible refine Kept.drew ?_) | (with_reducible refine Kept.drewN ?_ _) | (with_reducible refine Kept.setCell ?_ ?_ _) | (with_reducible refine Kept.trans ?_ (by with_reducible assumption)) | (simp only [World.size_alloc, World.size_setCell, World.size_drew, size_drewN]; omega) | omega | (dsimp only; omega)))⟩
  · clear hne
    go_enter Tryd.func38, Tryd.ntmps38
    go_wp2_with fail
    refine (meterValid_any _ _ _ _).mono ?_
    rintro e w1 ⟨rfl, k1⟩
    rw [hm]
    have k1_c := (kcell k1).1; have k1_f := (kcell k1).2; have k1_z := k1.size; try simp only [World.size_alloc, World.size_setCell, World.size_drew, size_drewN] at k1_c k1_f k1_z
    go_wp2_with fail
    refine (valid_in _ _ _ _ _ _ hb).mono ?_
    rintro e w2 ⟨rfl, k2⟩
    rw [d1]
    have k2_c := (kcell k2).1; have k2_f := (kcell k2).2; have k2_z := k2.size; try simp only [World.size_alloc, World.size_setCell, World.size_drew, size_drewN] at k2_c k2_f k2_z
    go_wp2_with fail
    refine (valid_in _ _ _ _ _ _ hb).mono ?_
    rintro e w3 ⟨rfl, k3⟩
    rw [d2]
    have k3_c := (kcell k3).1; have k3_f := (kcell k3).2; have k3_z := k3.size; try simp only [World.size_alloc, World.size_setCell, World.size_drew, size_drewN] at k3_c k3_f k3_z
    go_wp2
    all_goals
      try
        refine wp_region_kw (by kernel_rfl) (by kernel_rfl) ?_
        repeat (go_big_quiet_step ((go_at_call 52; first | exact kw_call (litres_in _ _ _ _ _ h m1 m2) | exact kw_call (litres_in _ _ _ _ _ h n1 n2))))
        refine wpQuiet_nil ?_
        intro _ hw'
        obtain ⟨kq, hw''⟩ := hw'
        subst hw''
        obtain ⟨wq, hwq⟩ := kq
        dsimp only
        go_wp2
      go_ret2
      refine ⟨?_, (by repeat (first | (with_reducible exact Kept.refl _) | (with_reducible assumption) | (with_reducible refine Kept.alloc ?_ _) | (with_reducible refine Kept.drew ?_) | (with_reducible refine Kept.drewN ?_ _) | (with_reducible refine Kept.setCell ?_ ?_ _) | (with_reducible refine Kept.trans ?_ (by with_reducible assumption)) | (simp only [World.size_alloc, World.size_setCell, World.size_drew, size_drewN]; omega) | omega | (dsimp only; omega)))⟩
      first | rfl | exact ret_ii (by rw [show n = n' by assumption]; exact (Int.sub_self _).symm) rfl

set_option maxHeartbeats 400000 in
theorem Between_order (p b f l n l' n' : Int) (w : World) (h : mOk p b f) (hc : cOk b l n) (hc' : cOk b l' n') (hn : n' < n) :
    Calls Tryd.prog 38 #[mtr p b f, cnt l n, cnt l' n'] w (RetIE 0 6 w) := by
  have hb := h.2.2.1
  have hm : mValid p b f = true := decide_eq_true h
  have d1 : decide (cOk b l n) = true := decide_eq_true hc
  have d2 : decide (cOk b l' n') = true := decide_eq_true hc'
  clear hc hc' h
  go_enter Tryd.func38, Tryd.ntmps38
  go_wp2_with fail
  refine (meterValid_any _ _ _ _).mono ?_
  rintro e w1 ⟨rfl, k1⟩
  rw [hm]
  have k1_c := (kcell k1).1; have k1_f := (kcell k1).2; have k1_z := k1.size; try simp only [World.size_alloc, World.size_setCell, World.size_drew, size_drewN] at k1_c k1_f k1_z
  go_wp2_with fail
  refine (valid_in _ _ _ _ _ _ hb).mono ?_
  rintro e w2 ⟨rfl, k2⟩
  rw [d1]
  have k2_c := (kcell k2).1; have k2_f := (kcell k2).2; have k2_z := k2.size; try simp only [World.size_alloc, World.size_setCell, World.size_drew, size_drewN] at k2_c k2_f k2_z
  go_wp2_with fail
  refine (valid_in _ _ _ _ _ _ hb).mono ?_
  rintro e w3 ⟨rfl, k3⟩
  rw [d2]
  have k3_c := (kcell k3).1; have k3_f := (kcell k3).2; have k3_z := k3.size; try simp only [World.size_alloc, World.size_setCell, World.size_drew, size_drewN] at k3_c k3_f k3_z
  go_wp2
  all_goals
    go_ret2
    exact ⟨rfl, (by repeat (first | (with_reducible exact Kept.refl _) | (with_reducible assumption) | (with_reducible refine Kept.alloc ?_ _) | (with_reducible refine Kept.drew ?_) | (with_reducible refine Kept.drewN ?_ _) | (with_reducible refine Kept.setCell ?_ ?_ _) | (with_reducible refine Kept.trans ?_ (by with_reducible assumption)) | (simp only [World.size_alloc, World.size_setCell, World.size_drew, size_drewN]; omega) | omega | (dsimp only; omega)))⟩

set_option maxHeartbeats 400000 in
theorem Between_bad (p b f l n l' n' : Int) (w : World) (h : ¬ (mOk p b f ∧ cOk b l n ∧ cOk b l' n')) :
    Calls Tryd.prog 38 #[mtr p b f, cnt l n, cnt l' n'] w (RetIE 0 9 w) := by
  by_cases hv : mOk p b f
  · have hb := hv.2.2.1
    have hm : mValid p b f = true := decide_eq_true hv
    by_cases hc : cOk b l n
    · have d1 : decide (cOk b l n) = true := decide_eq_true hc
      have d2 : decide (cOk b l' n') = false := decide_eq_false (fun h' => h ⟨hv, hc, h'⟩)
      clear h hv hc
      go_enter Tryd.func38, Tryd.ntmps38
      go_wp2_with fail
      refine (meterValid_any _ _ _ _).mono ?_
      rintro e w1 ⟨rfl, k1⟩
      rw [hm]
      have k1_c := (kcell k1).1; have k1_f := (kcell k1).2; have k1_z := k1.size; try simp only [World.size_alloc, World.size_setCell, World.size_drew, size_drewN] at k1_c k1_f k1_z
      go_wp2_with fail
      refine (valid_in _ _ _ _ _ _ hb).mono ?_
      rintro e w2 ⟨rfl, k2⟩
      rw [d1]
      have k2_c := (kcell k2).1; have k2_f := (kcell k2).2; have k2_z := k2.size; try simp only [World.size_alloc, World.size_setCell, World.size_drew, size_drewN] at k2_c k2_f k2_z
      go_wp2_with fail
      refine (valid_in _ _ _ _ _ _ hb).mono ?_
      rintro e w3 ⟨rfl, k3⟩
      rw [d2]
      have k3_c := (kcell k3).1; have k3_f := (kcell k3).2; have k3_z := k3.size; try simp only [World.size_alloc, World.size_setCell, World.size_drew, size_drewN] at k3_c k3_f k3_z
      go_wp2
      go_ret2
      exact ⟨rfl, (by repeat (first | (with_reducible exact Kept.refl _) | (with_reducible assumption) | (with_reducible refine Kept.alloc ?_ _) | (with_reducible refine Kept.drew ?_) | (with_reducible refine Kept.drewN ?_ _) | (with_reducible refine Kept.setCell ?_ ?_ _) | (with_reducible refine Kept.trans ?_ (by with_reducible assumption)) | (simp only [World.size_alloc, World.size_setCell, World.size_drew, size_drewN]; omega) | omega | (dsimp only; omega)))⟩
    · have d1 : decide (cOk b l n) = false := decide_eq_false hc
      clear h hv hc
      go_enter Tryd.func38, Tryd.ntmps38
      go_wp2_with fail
      refine (meterValid_any _ _ _ _).mono ?_
      rintro e w1 ⟨rfl, k1⟩
      rw [hm]
      have k1_c := (kcell k1).1; have k1_f := (kcell k1).2; have k1_z := k1.size; try simp only [World.size_alloc, World.size_setCell, World.size_drew, size_drewN] at k1_c k1_f k1_z
      go_wp2_with fail
      refine (valid_in _ _ _ _ _ _ hb).mono ?_
      rintro e w2 ⟨rfl, k2⟩
      rw [d1]
      have k2_c := (kcell k2).1; have k2_f := (kcell k2).2; have k2_z := k2.size; try simp only [World.size_alloc, World.size_setCell, World.size_drew, size_drewN] at k2_c k2_f k2_z
      go_wp2
      go_ret2
      exact ⟨rfl, (by repeat (first | (with_reducible exact Kept.refl _) | (with_reducible assumption) | (with_reducible refine Kept.alloc ?_ _) | (with_reducible refine Kept.drew ?_) | (with_reducible refine Kept.drewN ?_ _) | (with_reducible refine Kept.setCell ?_ ?_ _) | (with_reducible refine Kept.trans ?_ (by with_reducible assumption)) | (simp only [World.size_alloc, World.size_setCell, World.size_drew, size_drewN]; omega) | omega | (dsimp only; omega)))⟩
  · have hm : mValid p b f = false := decide_eq_false hv
    clear h hv
    go_enter Tryd.func38, Tryd.ntmps38
    go_wp2_with fail
    refine (meterValid_any _ _ _ _).mono ?_
    rintro e w1 ⟨rfl, k1⟩
    rw [hm]
    have k1_c := (kcell k1).1; have k1_f := (kcell k1).2; have k1_z := k1.size; try simp only [World.size_alloc, World.size_setCell, World.size_drew, size_drewN] at k1_c k1_f k1_z
    go_wp2
    go_ret2
    exact ⟨rfl, (by repeat (first | (with_reducible exact Kept.refl _) | (with_reducible assumption) | (with_reducible refine Kept.alloc ?_ _) | (with_reducible refine Kept.drew ?_) | (with_reducible refine Kept.drewN ?_ _) | (with_reducible refine Kept.setCell ?_ ?_ _) | (with_reducible refine Kept.trans ?_ (by with_reducible assumption)) | (simp only [World.size_alloc, World.size_setCell, World.size_drew, size_drewN]; omega) | omega | (dsimp only; omega)))⟩
end Go.Proofs.YtbclfphnhbmhoaaDoor
