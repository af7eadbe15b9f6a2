
/- Walks of the reference of package meter, continued: Litres, Between; and what both sides return, for every input. -/
import Derived.Test.YtbclfphnhbmhoaaDoorMeter7
namespace Go.Proofs.YtbclfphnhbmhoaaDoor
open Go.RowKit
set_option linter.unusedVariables false
set_option linter.unusedSimpArgs false

set_option maxHeartbeats 400000 in
theorem refLitres_in (p b f n : Int) (w : World) (h : mOk p b f) (h0 : 0 ≤ n) (h1 : n ≤ 1099511627776) :
    Calls Tryd.prog 47 #[mtr p b f, .int .i64 n] w (RetIE (mLit p f n) 0 w) := by
  have hm : mValid p b f = true := decide_eq_true h
  obtain ⟨p1, p2, _, f1, f2⟩ := h
  have hb := mul_bd (N := 1099511627776) (F := 200000) h0 h1 (show 0 ≤ f by omega) f2
  have z0 : (100 * p == 0) = false := by rw [beq_eq_false_iff_ne]; omega
  go_enter Tryd.func47, Tryd.ntmps47
  go_wp2_with (go_at_call 34; refine (refValid_any _ _ _ _).mono ?_; rintro e w1 ⟨rfl, k1⟩; rw [hm]; have k1_c := (kcell k1).1; have k1_f := (kcell k1).2; have k1_z := k1.size; try simp only [World.size_alloc, World.size_setCell, World.size_drew, size_drewN] at k1_c k1_f k1_z)
  go_ret2
  exact ⟨rfl, (by repeat (first | (with_reducible exact Kept.refl _) | (with_reducible assumption) | (with_reducible refine Kept.alloc ?_ _) | (with_reducible refine Kept.drew ?_) | (with_reducible refine Kept.drewN ?_ _) | (with_reducible refine Kept.setCell ?_ ?_ _) | (with_reducible refine Kept.trans ?_ (by with_reducible assumption)) | (simp only [World.size_alloc, World.size_setCell, World.size_drew, size_drewN]; omega) | omega | (dsimp only; omega)))⟩

set_option maxHeartbeats 400000 in
theorem refLitres_out (p b f n : Int) (w : World) (h : mOk p b f) (h0 : n < 0 ∨ 1099511627776 < n) :
    Calls Tryd.prog 47 #[mtr p b f, .int .i64 n] w (RetIE 0 1 w) := by
  have hm : mValid p b f = true := decide_eq_true h
  rcases h0 with h0 | h0
  · go_enter Tryd.func47, Tryd.ntmps47
    go_wp2_with (go_at_call 34; refine (refValid_any _ _ _ _).mono ?_; rintro e w1 ⟨rfl, k1⟩; rw [hm]; have k1_c := (kcell k1).1; have k1_f := (kcell k1).2; have k1_z := k1.size; try simp only [World.size_alloc, World.size_setCell, World.size_drew, size_drewN] at k1_c k1_f k1_z)
    go_ret2
    exact ⟨rfl, (by repeat (first | (with_reducible exact Kept.refl _) | (with_reducible assumption) | (with_reducible refine Kept.alloc ?_ _) | (with_reducible refine Kept.drew ?_) | (with_reducible refine Kept.drewN ?_ _) | (with_reducible refine Kept.setCell ?_ ?_ _) | (with_reducible refine Kept.trans ?_ (by with_reducible assumption)) | (simp only [World.size_alloc, World.size_setCell, World.size_drew, size_drewN]; omega) | omega | (dsimp only; omega)))⟩
  · go_enter Tryd.func47, Tryd.ntmps47
    go_wp2_with (go_at_call 34; refine (refValid_any _ _ _ _).mono ?_; rintro e w1 ⟨rfl, k1⟩; rw [hm]; have k1_c := (kcell k1).1; have k1_f := (kcell k1).2; have k1_z := k1.size; try simp only [World.size_alloc, World.size_setCell, World.size_drew, size_drewN] at k1_c k1_f k1_z)
    go_ret2
    exact ⟨rfl, (by repeat (first | (with_reducible exact Kept.refl _) | (with_reducible assumption) | (with_reducible refine Kept.alloc ?_ _) | (with_reducible refine Kept.drew ?_) | (with_reducible refine Kept.drewN ?_ _) | (with_reducible refine Kept.setCell ?_ ?_ _) | (with_reducible refine Kept.trans ?_ (by with_reducible assumption)) | (simp only [World.size_alloc, World.size_setCell, World.size_drew, size_drewN]; omega) | omega | (dsimp only; omega)))⟩

set_option maxHeartbeats 400000 in
theorem refLitres_bad (p b f n : Int) (w : World) (h : ¬ mOk p b f) :
    Calls Tryd.prog 47 #[mtr p b f, .int .i64 n] w (RetIE 0 9 w) := by
  have hm : mValid p b f = false := decide_eq_false h
  go_enter Tryd.func47, Tryd.ntmps47
  go_wp2_with (go_at_call 34; refine (refValid_any _ _ _ _).mono ?_; rintro e w1 ⟨rfl, k1⟩; rw [hm]; have k1_c := (kcell k1).1; have k1_f := (kcell k1).2; have k1_z := k1.size; try simp only [World.size_alloc, World.size_setCell, World.size_drew, size_drewN] at k1_c k1_f k1_z)
  go_ret2
  exact ⟨rfl, (by repeat (first | (with_reducible exact Kept.refl _) | (with_reducible assumption) | (with_reducible refine Kept.alloc ?_ _) | (with_reducible refine Kept.drew ?_) | (with_reducible refine Kept.drewN ?_ _) | (with_reducible refine Kept.setCell ?_ ?_ _) | (with_reducible refine Kept.trans ?_ (by with_reducible assumption)) | (simp only [World.size_alloc, World.size_setCell, World.size_drew, size_drewN]; omega) | omega | (dsimp only; omega)))⟩

set_option maxHeartbeats 400000 in
theorem refBetween_order (p b f l n l' n' : Int) (w : World) (h : mOk p b f) (hc : cOk b l n) (hc' : cOk b l' n') (hn : n' < n) :
    Calls Tryd.prog 28 #[mtr p b f, cnt l n, cnt l' n'] w (RetIE 0 6 w) := by
  have hb := h.2.2.1
  have hm : mValid p b f = true := decide_eq_true h
  have d1 : decide (cOk b l n) = true := decide_eq_true hc
  have d2 : decide (cOk b l' n') = true := decide_eq_true hc'
  clear hc hc' h
  go_enter Tryd.func28, Tryd.ntmps28
  go_wp2_with fail
  refine (refValid_any _ _ _ _).mono ?_
  rintro e w1 ⟨rfl, k1⟩
  rw [hm]
  have k1_c := (kcell k1).1; have k1_f := (kcell k1).2; have k1_z := k1.size; try simp only [World.size_alloc, World.size_setCell, World.size_drew, size_drewN] at k1_c k1_f k1_z
  go_wp2_with fail
  refine (count_in _ _ _ _ _ _ hb).mono ?_
  rintro e w2 ⟨rfl, k2⟩
  rw [d1]
  have k2_c := (kcell k2).1; have k2_f := (kcell k2).2; have k2_z := k2.size; try simp only [World.size_alloc, World.size_setCell, World.size_drew, size_drewN] at k2_c k2_f k2_z
  go_wp2_with fail
  refine (count_in _ _ _ _ _ _ hb).mono ?_
  rintro e w3 ⟨rfl, k3⟩
  rw [d2]
  have k3_c := (kcell k3).1; have k3_f := (kcell k3).2; have k3_z := k3.size; try simp only [World.size_alloc, World.size_setCell, World.size_drew, size_drewN] at k3_c k3_f k3_z
  go_wp2
  all_goals
    go_ret2
    exact ⟨rfl, (by repeat (first | (with_reducible exact Kept.refl _) | (with_reducible assumption) | (with_reducible refine Kept.alloc ?_ _) | (with_reducible refine Kept.drew ?_) | (with_reducible refine Kept.drewN ?_ _) | (with_reducible refine Kept.setCell ?_ ?_ _) | (with_reducible refine Kept.trans ?_ (by with_reducible assumption)) | (simp only [World.size_alloc, World.size_setCell, World.size_drew, size_drewN]; omega) | omega | (dsimp only; omega)))⟩

set_option maxHeartbeats 400000 in
theorem refBetween_bad (p b f l n l' n' : Int) (w : World) (h : ¬ (mOk p b f ∧ cOk b l n ∧ cOk b l' n')) :
    Calls Tryd.prog 28 #[mtr p b f, cnt l n, cnt l' n'] w (RetIE 0 9 w) := by
  by_cases hv : mOk p b f
  · have hb := hv.2.2.1
    have hm : mValid p b f = true := decide_eq_true hv
    by_cases hc : cOk b l n
    · have d1 : decide (cOk b l n) = true := decide_eq_true hc
      have d2 : decide (cOk b l' n') = false := decide_eq_false (fun h' => h ⟨hv, hc, h'⟩)
      clear h hv hc
      go_enter Tryd.func28, Tryd.ntmps28
      go_wp2_with fail
      refine (refValid_any _ _ _ _).mono ?_
      rintro e w1 ⟨rfl, k1⟩
      rw [hm]
      have k1_c := (kcell k1).1; have k1_f := (kcell k1).2; have k1_z := k1.size; try simp only [World.size_alloc, World.size_setCell, World.size_drew, size_drewN] at k1_c k1_f k1_z
      go_wp2_with fail
      refine (count_in _ _ _ _ _ _ hb).mono ?_
      rintro e w2 ⟨rfl, k2⟩
      rw [d1]
      have k2_c := (kcell k2).1; have k2_f := (kcell k2).2; have k2_z := k2.size; try simp only [World.size_alloc, World.size_setCell, World.size_drew, size_drewN] at k2_c k2_f k2_z
      go_wp2_with fail
      refine (count_in _ _ _ _ _ _ hb).mono ?_
      rintro e w3 ⟨rfl, k3⟩
      rw [d2]
      have k3_c := (kcell k3).1; have k3_f := (kcell k3).2; have k3_z := k3.size; try simp only [World.size_alloc, World.size_setCell, World.size_drew, size_drewN] at k3_c k3_f k3_z
      go_wp2
      go_ret2
      exact ⟨rfl, (by repeat (first | (with_reducible exact Kept.refl _) | (with_reducible assumption) | (with_reducible refine Kept.alloc ?_ _) | (with_reducible refine Kept.drew ?_) | (with_reducible refine Kept.drewN ?_ _) | (with_reducible refine Kept.setCell ?_ ?_ _) | (with_reducible refine Kept.trans ?_ (by with_reducible assumption)) | (simp only [World.size_alloc, World.size_setCell, World.size_drew, size_drewN]; omega) | omega | (dsimp only; omega)))⟩
    · have d1 : decide (cOk b l n) = false := decide_eq_false hc
      clear h hv hc
      go_enter Tryd.func28, Tryd.ntmps28
      go_wp2_with fail
      refine (refValid_any _ _ _ _).mono ?_
      rintro e w1 ⟨rfl, k1⟩
      rw [hm]
      have k1_c := (kcell k1).1; have k1_f := (kcell k1).2; have k1_z := k1.size; try simp only [World.size_alloc, World.size_setCell, World.size_drew, size_drewN] at k1_c k1_f k1_z
      go_wp2_with fail
      refine (count_in _ _ _ _ _ _ hb).mono ?_
      rintro e w2 ⟨rfl, k2⟩
      rw [d1]
      have k2_c := (kcell k2).1; have k2_f := (kcell k2).2; have k2_z := k2.size; try simp only [World.size_alloc, World.size_setCell, World.size_drew, size_drewN] at k2_c k2_f k2_z
      go_wp2
      go_ret2
      exact ⟨rfl, (by repeat (first | (with_reducible exact Kept.refl _) | (with_reducible assumption) | (with_reducible refine Kept.alloc ?_ _) | (with_reducible refine Kept.drew ?_) | (with_reducible refine Kept.drewN ?_ _) | (with_reducible refine Kept.setCell ?_ ?_ _) | (with_reducible refine Kept.trans ?_ (by with_reducible assumption)) | (simp only [World.size_alloc, World.size_setCell, World.size_drew, size_drewN]; omega) | omega | (dsimp only; omega)))⟩
  · have hm : mValid p b f = false := decide_eq_false hv
    clear h hv
    go_enter Tryd.func28, Tryd.ntmps28
    go_wp2_with fail
    refine (refValid_any _ _ _ _).mono ?_
    rintro e w1 ⟨rfl, k1⟩
    rw [hm]
    have k1_c := (kcell k1).1; have k1_f := (kcell k1).2; have k1_z := k1.size; try simp only [World.size_alloc, World.size_setCell, World.size_drew, size_drewN] at k1_c k1_f k1_z
    go_wp2
    go_ret2
    exact ⟨rfl, (by repeat (first | (with_reducible exact Kept.refl _) | (with_reducible assumption) | (with_reducible refine Kept.alloc ?_ _) | (with_reducible refine Kept.drew ?_) | (with_reducible refine Kept.drewN ?_ _) | (with_reducible refine Kept.setCell ?_ ?_ _) | (with_reducible refine Kept.trans ?_ (by with_reducible assumption)) | (simp only [World.size_alloc, World.size_setCell, World.size_drew, size_drewN]; omega) | omega | (dsimp only; omega)))⟩

set_option maxHeartbeats 400000 in
theorem refBetween_in (p b f l n l' n' : Int) (w : World) (h : mOk p b f) (hc : cOk b l n) (hc' : cOk b l' n') (hn : n ≤ n') :
    Calls Tryd.prog 28 #[mtr p b f, cnt l n, cnt l' n'] w (RetIE (mLit p f n' - mLit p f n) 0 w) := by
  have hb := h.2.2.1
  have hm : mValid p b f = true := decide_eq_true h
  have d1 : decide (cOk b l n) = true := decide_eq_true hc
  have d2 : decide (cOk b l' n') = true := decide_eq_true hc'
  obtain ⟨_, n1, n2⟩ := id hc
  obtain ⟨_, m1, m2⟩ := id hc'
  have b1 := mLit_bd p f n h.1 (by have := h.2.2.2.1; omega) h.2.2.2.2 n1 n2
  have b2 := mLit_bd p f n' h.1 (by have := h.2.2.2.1; omega) h.2.2.2.2 m1 m2
  go_enter Tryd.func28, Tryd.ntmps28
  go_wp2_with fail
  refine (refValid_any _ _ _ _).mono ?_
  rintro e w1 ⟨rfl, k1⟩
  rw [hm]
  have k1_c := (kcell k1).1; have k1_f := (kcell k1).2; have k1_z := k1.size; try simp only [World.size_alloc, World.size_setCell, World.size_drew, size_drewN] at k1_c k1_f k1_z
  go_wp2_with fail
  refine (count_in _ _ _ _ _ _ hb).mono ?_
  rintro e w2 ⟨rfl, k2⟩
  rw [d1]
  have k2_c := (kcell k2).1; have k2_f := (kcell k2).2; have k2_z := k2.size; try simp only [World.size_alloc, World.size_setCell, World.size_drew, size_drewN] at k2_c k2_f k2_z
  go_wp2_with fail
  refine (count_in _ _ _ _ _ _ hb).mono ?_
  rintro e w3 ⟨rfl, k3⟩
  rw [d2]
  have k3_c := (kcell k3).1; have k3_f := (kcell k3).2; have k3_z := k3.size; try simp only [World.size_alloc, World.size_setCell, World.size_drew, size_drewN] at k3_c k3_f k3_z
  go_wp2_with fail
  refine (refLitres_in _ _ _ _ _ h n1 n2).mono ?_
  rintro e w4 ⟨rfl, k4⟩
  have k4_c := (kcell k4).1; have k4_f := (kcell k4).2; have k4_z := k4.size; try simp only [World.size_alloc, World.size_setCell, World.size_drew, size_drewN] at k4_c k4_f k4_z
  go_wp2_with fail
  refine (refLitres_in _ _ _ _ _ h m1 m2).mono ?_
  rintro e w5 ⟨rfl, k5⟩
  have k5_c := (kcell k5).1; have k5_f := (kcell k5).2; have k5_z := k5.size; try simp only [World.size_alloc, World.size_setCell, World.size_drew, size_drewN] at k5_c k5_f k5_z
  go_wp2
  go_ret2
  exact ⟨rfl, (by repeat (first | (with_reducible exact Kept.refl _) | (with_reducible assumption) | (with_reducible refine Kept.alloc ?_ _) | (with_reducible refine Kept.drew ?_) | (with_reducible refine Kept.drewN ?_ _) | (with_reducible refine Kept.setCell ?_ ?_ _) | (with_reducible refine Kept.trans ?_ (by with_reducible assumption)) | (simp only [World.size_alloc, World.size_setCell, World.size_drew, size_drewN]; omega) | omega | (dsimp only; omega)))⟩

/-- What Litres and Between return. -/
def mLitres (p b f n : Int) : Int × Int := if mOk p b f then (if 0 ≤ n ∧ n ≤ 1099511627776 then (mLit p f n, 0) else (0, 1)) else (0, 9)
def mBetween (p b f l n l' n' : Int) : Int × Int := if mOk p b f ∧ cOk b l n ∧ cOk b l' n' then (if n ≤ n' then (mLit p f n' - mLit p f n, 0) else (0, 6)) else (0, 9)
theorem Between_any (p b f l n l' n' : Int) (w : World) : Calls Tryd.prog 38 #[mtr p b f, cnt l n, cnt l' n'] w (RetIE (mBetween p b f l n l' n').1 (mBetween p b f l n l' n').2 w) := by
  unfold mBetween
  by_cases h : mOk p b f ∧ cOk b l n ∧ cOk b l' n'
  · rw [if_pos h]
    by_cases hn : n ≤ n'
    · rw [if_pos hn]; exact Between_in p b f l n l' n' w h.1 h.2.1 h.2.2 hn
    · rw [if_neg hn]; exact Between_order p b f l n l' n' w h.1 h.2.1 h.2.2 (by omega)
  · rw [if_neg h]; exact Between_bad p b f l n l' n' w h
theorem refLitres_any (p b f n : Int) (w : World) : Calls Tryd.prog 47 #[mtr p b f, .int .i64 n] w (RetIE (mLitres p b f n).1 (mLitres p b f n).2 w) := by
  unfold mLitres
  by_cases h : mOk p b f
  · rw [if_pos h]
    by_cases hn : 0 ≤ n ∧ n ≤ 1099511627776
    · rw [if_pos hn]; exact refLitres_in p b f n w h hn.1 hn.2
    · rw [if_neg hn]; exact refLitres_out p b f n w h (by omega)
  · rw [if_neg h]; exact refLitres_bad p b f n w h
theorem refBetween_any (p b f l n l' n' : Int) (w : World) : Calls Tryd.prog 28 #[mtr p b f, cnt l n, cnt l' n'] w (RetIE (mBetween p b f l n l' n').1 (mBetween p b f l n l' n').2 w) := by
  unfold mBetween
  by_cases h : mOk p b f ∧ cOk b l n ∧ cOk b l' n'
  · rw [if_pos h]
    by_cases hn : n ≤ n'
    · rw [if_pos hn]; exact refBetween_in p b f l n l' n' w h.1 h.2.1 h.2.2 hn
    · rw [if_neg hn]; exact refBetween_order p b f l n l' n' w h.1 h.2.1 h.2.2 (by omega)
  · rw [if_neg h]; exact refBetween_bad p b f l n l' n' w h
end Go.Proofs.YtbclfphnhbmhoaaDoor
