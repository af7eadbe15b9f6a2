
/- The reference's side of package correct (batchlineref01 Half, batchlineref05), and what both sides return for every input. -/
import Derived.Test.YtbclfphnhbmhoaaDoorCorProd
namespace Go.Proofs.YtbclfphnhbmhoaaDoor
open Go.RowKit
set_option linter.unusedVariables false
set_option linter.unusedSimpArgs false

def divOkB (a b : Int) : Bool := decide (InDiv a b)
set_option maxHeartbeats 400000 in
theorem refProperDiv_any (a b : Int) (w : World) : Calls Tryd.prog 59 #[.int .i64 a, .int .i64 b] w fun e w' => e = .returned (.bool (divOkB a b)) ∧ w = w' := by
  go_enter Tryd.func59, Tryd.ntmps59
  go_wp2
  all_goals
    go_ret
    exact ⟨ret_b (by first | exact (decide_eq_false (by unfold InDiv; omega)).symm | exact decide_eq_decide.2 (by unfold InDiv; omega)), rfl⟩
set_option maxHeartbeats 400000 in
theorem refDown_in (a b : Int) (w : World) (hb : 1 ≤ b) (hb' : b ≤ 1099511627776) (ha : -2305843009213693952 ≤ a) (ha' : a ≤ 2305843009213693952) :
    Calls Tryd.prog 60 #[.int .i64 a, .int .i64 b] w fun e w' => e = .returned (.int .i64 (a / b)) ∧ w = w' := by
  have hd : divOkB a b = true := decide_eq_true ⟨hb, hb', ha, ha'⟩
  have hq := tdiv_bd a b ha ha'
  have l := Int.tmod_lt_of_pos a (show 0 < b by omega)
  have l2 := Int.lt_tmod_of_pos a (show 0 < b by omega)
  have n0 : (b == 0) = false := by rw [beq_eq_false_iff_ne]; omega
  by_cases h : a.tmod b < 0
  · obtain ⟨e1, e2⟩ := tdiv_neg a b hb h
    have H1 := Lib.hid e1
    clear e1 e2
    go_enter Tryd.func60, Tryd.ntmps60
    go_wp2_with fail
    refine (refProperDiv_any _ _ _).mono ?_
    rintro e w' ⟨rfl, rfl⟩
    rw [hd]
    go_wp2
    go_ret
    exact ⟨ret_i H1.out, rfl⟩
  · obtain ⟨e1, e2⟩ := tdiv_pos a b hb (by omega)
    have H1 := Lib.hid e1
    clear e1 e2
    go_enter Tryd.func60, Tryd.ntmps60
    go_wp2_with fail
    refine (refProperDiv_any _ _ _).mono ?_
    rintro e w' ⟨rfl, rfl⟩
    rw [hd]
    go_wp2
    go_ret
    exact ⟨ret_i H1.out, rfl⟩
theorem div_sub {a b : Int} (hb : 0 < b) : a - a / b * b = a % b := by
  have := Int.mul_ediv_add_emod a b
  rw [Int.mul_comm]; omega
set_option maxHeartbeats 400000 in
theorem refHalf_ret (a b : Int) (w : World) (h1 : 1 ≤ b) (h2 : b ≤ 1099511627776) (h3 : -2305843009213693952 ≤ a) (h4 : a ≤ 2305843009213693952) :
    Calls Tryd.prog 48 #[.int .i64 a, .int .i64 b] w fun e w' => e = .returned (.int .i64 (hf a b)) ∧ w = w' := by
  have hd : divOkB a b = true := decide_eq_true ⟨h1, h2, h3, h4⟩
  have m0 := Int.emod_nonneg a (show b ≠ 0 by omega)
  have m1 := Int.emod_lt_of_pos a (show 0 < b by omega)
  have ds := div_sub (a := a) (show 0 < b by omega)
  have hq := tdiv_bd a b h3 h4
  have q1 : -2305843009213693953 ≤ a / b ∧ a / b ≤ 2305843009213693952 := by
    by_cases h : a.tmod b < 0
    · have := (tdiv_neg a b h1 h).1; omega
    · have := (tdiv_pos a b h1 (by omega)).1; omega
  clear hq
  have qb : -4611686018427387904 ≤ a / b * b ∧ a / b * b ≤ 4611686018427387904 := by omega
  have HH := Lib.hid (show hf a b = if b ≤ 2 * (a - a / b * b) then a / b + 1 else a / b by rw [ds]; rfl)
  have x0 : 0 ≤ a - a / b * b := by omega
  have x1 : a - a / b * b < b := by omega
  clear ds m0 m1
  go_enter Tryd.func48, Tryd.ntmps48
  go_wp2_with fail
  refine (refProperDiv_any _ _ _).mono ?_
  rintro e w' ⟨rfl, rfl⟩
  rw [hd]
  go_wp2_with fail
  refine (refDown_in _ _ _ h1 h2 h3 h4).mono ?_
  rintro e w' ⟨rfl, rfl⟩
  go_wp2
  all_goals
    go_ret
    refine ⟨ret_i ?_, rfl⟩
    rw [HH.out]
    first | exact (if_pos (by omega)).symm | exact (if_neg (by omega)).symm

/-- What the functions of package correct return. -/
def cFactor (s : ByteArray) (de ex co fr t p : Int) : Int × Int := if pOk s de ex co fr then (if cOk' t p then (fac ex co t p, 0) else (0, 1)) else (0, 9)
def cStd (g f : Int) : Int × Int := if vfOk g f then (stdV g f, 0) else (0, 1)
def cGrs (g f : Int) : Int × Int := if vfOk g f then (grsV g f, 0) else (0, 1)
def cAdd (v r g f : Int) : Int × Int × Int :=
  if rOk v r then (if vfOk g f then (if v + (g * f + r) / 1000000 ≤ 1099511627776 then (v + (g * f + r) / 1000000, (g * f + r) % 1000000, 0) else (0, 0, 4)) else (0, 0, 1)) else (0, 0, 9)
theorem Factor_any (s : ByteArray) (de ex co fr t p : Int) (w : World) (hs : s.size ≤ 140737488351232) (hsp : Spans w) :
    Calls Tryd.prog 39 #[prd s de ex co fr, cnd t p] w (RetIE (cFactor s de ex co fr t p).1 (cFactor s de ex co fr t p).2 w) := by
  unfold cFactor
  by_cases h : pOk s de ex co fr
  · rw [if_pos h]
    by_cases hc : cOk' t p
    · rw [if_pos hc]; exact Factor_in s de ex co fr t p w hs hsp h hc
    · rw [if_neg hc]; exact Factor_out s de ex co fr t p w hs hsp h hc
  · rw [if_neg h]; exact Factor_bad s de ex co fr t p w hs hsp h
theorem Standard_any (g f : Int) (w : World) : Calls Tryd.prog 40 #[.int .i64 g, .int .i64 f] w (RetIE (cStd g f).1 (cStd g f).2 w) := by
  unfold cStd
  by_cases h : vfOk g f
  · rw [if_pos h]; exact Standard_in g f w h
  · rw [if_neg h]; exact Standard_out g f w h
theorem Add_any (v r g f : Int) (w : World) : Calls Tryd.prog 44 #[rng v r, .int .i64 g, .int .i64 f] w (RetGE (cAdd v r g f).1 (cAdd v r g f).2.1 (cAdd v r g f).2.2 w) := by
  unfold cAdd
  by_cases hr : rOk v r
  · rw [if_pos hr]
    by_cases h : vfOk g f
    · rw [if_pos h]
      have := Add_in v r g f w hr h
      split at this
      · rw [if_pos ‹_›]; exact this
      · rw [if_neg ‹_›]; exact this
    · rw [if_neg h]; exact Add_range v r g f w hr h
  · rw [if_neg hr]; exact Add_bad v r g f w hr

set_option maxHeartbeats 400000 in
theorem refProper_any (g f : Int) (w : World) : Calls Tryd.prog 57 #[.int .i64 g, .int .i64 f] w fun e w' => e = .returned (.bool (vfB g f)) ∧ w = w' := by
  go_enter Tryd.func57, Tryd.ntmps57
  go_wp2
  all_goals
    go_ret
    exact ⟨ret_b (by first | exact (decide_eq_false (by unfold vfOk; omega)).symm | exact decide_eq_decide.2 (by unfold vfOk; omega)), rfl⟩
set_option maxHeartbeats 400000 in
theorem refStandard_any (g f : Int) (w : World) : Calls Tryd.prog 43 #[.int .i64 g, .int .i64 f] w (RetIE (cStd g f).1 (cStd g f).2 w) := by
  unfold cStd
  by_cases h : vfOk g f
  · rw [if_pos h]
    have hb : vfB g f = true := decide_eq_true h
    have m := vf_mul h
    clear h
    go_enter Tryd.func43, Tryd.ntmps43
    go_wp2_with fail
    refine (refProper_any _ _ _).mono ?_
    rintro e w' ⟨rfl, rfl⟩
    rw [hb]
    go_wp2_with fail
    refine (refHalf_ret _ _ _ (by omega) (by omega) (by omega) (by omega)).mono ?_
    rintro e w' ⟨rfl, rfl⟩
    go_wp2
    go_ret2
    exact ⟨rfl, (by repeat (first | (with_reducible exact Kept.refl _) | (with_reducible assumption) | (with_reducible refine Kept.alloc ?_ _) | (with_reducible refine Kept.drew ?_) | (with_reducible refine Kept.drewN ?_ _) | (with_reducible refine Kept.setCell ?_ ?_ _) | (with_reducible refine Kept.trans ?_ (by with_reducible assumption)) | (simp only [World.size_alloc, World.size_setCell, World.size_drew, size_drewN]; omega) | omega | (dsimp only; omega)))⟩
  · rw [if_neg h]
    have hb : vfB g f = false := decide_eq_false h
    clear h
    go_enter Tryd.func43, Tryd.ntmps43
    go_wp2_with fail
    refine (refProper_any _ _ _).mono ?_
    rintro e w' ⟨rfl, rfl⟩
    rw [hb]
    go_wp2
    go_ret2
    exact ⟨rfl, (by repeat (first | (with_reducible exact Kept.refl _) | (with_reducible assumption) | (with_reducible refine Kept.alloc ?_ _) | (with_reducible refine Kept.drew ?_) | (with_reducible refine Kept.drewN ?_ _) | (with_reducible refine Kept.setCell ?_ ?_ _) | (with_reducible refine Kept.trans ?_ (by with_reducible assumption)) | (simp only [World.size_alloc, World.size_setCell, World.size_drew, size_drewN]; omega) | omega | (dsimp only; omega)))⟩
set_option maxHeartbeats 1000000 in
theorem refFactor_any (s : ByteArray) (de ex co fr t p : Int) (w : World) (hs : s.size ≤ 140737488351232) :
    Calls Tryd.prog 29 #[prd s de ex co fr, cnd t p] w (RetIE (cFactor s de ex co fr t p).1 (cFactor s de ex co fr t p).2 w) := by
  unfold cFactor
  by_cases h : pOk s de ex co fr
  · rw [if_pos h]
    have hv := (pValid_iff s de ex co fr).2 h
    by_cases hc : cOk' t p
    · rw [if_pos hc]
      obtain ⟨⟨_, he, hco, _⟩, _⟩ := h
      obtain ⟨ht, hp⟩ := id hc
      have fb := (fac_bd he hco hc).1
      obtain ⟨m1, b1, hb⟩ := heat_bd he ht
      obtain ⟨m2, b2, pb⟩ := press_bd hco hp
      have HF := Lib.hid (show fac ex co t p = hf ((1000000 - hf (ex * (t - 150)) 10) * (1000000 + hf (co * p) 1000)) 1000000 from rfl)
      unfold fHeat fPress at fb
      clear hb pb
      go_enter Tryd.func29, Tryd.ntmps29
      go_wp2_with fail
      refine (refPrdValid_any _ _ _ _ _ _ hs).mono ?_
      rintro e v1 ⟨rfl, c1⟩
      have c1_c := (kcell c1).1; have c1_f := (kcell c1).2; have c1_z := c1.size; try simp only [World.size_alloc, World.size_setCell, World.size_drew, size_drewN] at c1_c c1_f c1_z
      rw [hv]
      go_wp2_with fail
      refine (refHalf_ret _ _ _ (by omega) (by omega) (by omega) (by omega)).mono ?_
      rintro e w' ⟨rfl, rfl⟩
      go_wp2_with fail
      refine (refHalf_ret _ _ _ (by omega) (by omega) (by omega) (by omega)).mono ?_
      rintro e w' ⟨rfl, rfl⟩
      go_wp2_with fail
      refine (refHalf_ret _ _ _ (by omega) (by omega) (by omega) (by omega)).mono ?_
      rintro e w' ⟨rfl, rfl⟩
      go_wp2
      go_ret2
      exact ⟨ret_ii HF.out.symm rfl, (by repeat (first | (with_reducible exact Kept.refl _) | (with_reducible assumption) | (with_reducible refine Kept.alloc ?_ _) | (with_reducible refine Kept.drew ?_) | (with_reducible refine Kept.drewN ?_ _) | (with_reducible refine Kept.setCell ?_ ?_ _) | (with_reducible refine Kept.trans ?_ (by with_reducible assumption)) | (simp only [World.size_alloc, World.size_setCell, World.size_drew, size_drewN]; omega) | omega | (dsimp only; omega)))⟩
    · rw [if_neg hc]
      have hc' : t < -400 ∨ (-400 ≤ t ∧ 1000 < t) ∨ ((-400 ≤ t ∧ t ≤ 1000) ∧ p < 0) ∨ ((-400 ≤ t ∧ t ≤ 1000) ∧ 0 ≤ p ∧ 20000 < p) := by unfold cOk' at hc; omega
      clear h hc
      rcases hc' with h1 | h1 | h1 | h1
      all_goals
        go_enter Tryd.func29, Tryd.ntmps29
        go_wp2_with fail
        refine (refPrdValid_any _ _ _ _ _ _ hs).mono ?_
        rintro e v1 ⟨rfl, c1⟩
        have c1_c := (kcell c1).1; have c1_f := (kcell c1).2; have c1_z := c1.size; try simp only [World.size_alloc, World.size_setCell, World.size_drew, size_drewN] at c1_c c1_f c1_z
        rw [hv]
        go_wp2
        go_ret2
        exact ⟨rfl, (by repeat (first | (with_reducible exact Kept.refl _) | (with_reducible assumption) | (with_reducible refine Kept.alloc ?_ _) | (with_reducible refine Kept.drew ?_) | (with_reducible refine Kept.drewN ?_ _) | (with_reducible refine Kept.setCell ?_ ?_ _) | (with_reducible refine Kept.trans ?_ (by with_reducible assumption)) | (simp only [World.size_alloc, World.size_setCell, World.size_drew, size_drewN]; omega) | omega | (dsimp only; omega)))⟩
  · rw [if_neg h]
    have hv : pValid s de ex co fr = false := by rw [← Bool.not_eq_true, pValid_iff]; exact h
    clear h
    go_enter Tryd.func29, Tryd.ntmps29
    go_wp2_with fail
    refine (refPrdValid_any _ _ _ _ _ _ hs).mono ?_
    rintro e v1 ⟨rfl, c1⟩
    have c1_c := (kcell c1).1; have c1_f := (kcell c1).2; have c1_z := c1.size; try simp only [World.size_alloc, World.size_setCell, World.size_drew, size_drewN] at c1_c c1_f c1_z
    rw [hv]
    go_wp2
    go_ret2
    exact ⟨rfl, (by repeat (first | (with_reducible exact Kept.refl _) | (with_reducible assumption) | (with_reducible refine Kept.alloc ?_ _) | (with_reducible refine Kept.drew ?_) | (with_reducible refine Kept.drewN ?_ _) | (with_reducible refine Kept.setCell ?_ ?_ _) | (with_reducible refine Kept.trans ?_ (by with_reducible assumption)) | (simp only [World.size_alloc, World.size_setCell, World.size_drew, size_drewN]; omega) | omega | (dsimp only; omega)))⟩
set_option maxHeartbeats 1000000 in
theorem refAdd_any (v r g f : Int) (w : World) : Calls Tryd.prog 46 #[rng v r, .int .i64 g, .int .i64 f] w (RetGE (cAdd v r g f).1 (cAdd v r g f).2.1 (cAdd v r g f).2.2 w) := by
  unfold cAdd
  by_cases hr : rOk v r
  · rw [if_pos hr]
    obtain ⟨⟨v0, v1⟩, r0, r1⟩ := hr
    by_cases h : vfOk g f
    · rw [if_pos h]
      have hb : vfB g f = true := decide_eq_true h
      have m := vf_mul h
      clear h
      by_cases hl : v + (g * f + r) / 1000000 ≤ 1099511627776
      · rw [if_pos hl]
        go_enter Tryd.func46, Tryd.ntmps46
        go_wp2_with fail
        refine (refProper_any _ _ _).mono ?_
        rintro e w' ⟨rfl, rfl⟩
        rw [hb]
        go_wp2
        refine bodyPost_ret (v := .tuple #[rng (v + (g * f + r) / 1000000) ((g * f + r) % 1000000), .int .i64 0]) (by simp [results, Tryd.results46, go_sem, ↓IntWalk.iteOmega]) rfl ⟨rfl, (by repeat (first | (with_reducible exact Kept.refl _) | (with_reducible assumption) | (with_reducible refine Kept.alloc ?_ _) | (with_reducible refine Kept.drew ?_) | (with_reducible refine Kept.drewN ?_ _) | (with_reducible refine Kept.setCell ?_ ?_ _) | (with_reducible refine Kept.trans ?_ (by with_reducible assumption)) | (simp only [World.size_alloc, World.size_setCell, World.size_drew, size_drewN]; omega) | omega | (dsimp only; omega)))⟩
      · rw [if_neg hl]
        go_enter Tryd.func46, Tryd.ntmps46
        go_wp2_with fail
        refine (refProper_any _ _ _).mono ?_
        rintro e w' ⟨rfl, rfl⟩
        rw [hb]
        go_wp2
        refine bodyPost_ret (v := .tuple #[rng 0 0, .int .i64 4]) (by simp [results, Tryd.results46, go_sem, ↓IntWalk.iteOmega]) rfl ⟨rfl, (by repeat (first | (with_reducible exact Kept.refl _) | (with_reducible assumption) | (with_reducible refine Kept.alloc ?_ _) | (with_reducible refine Kept.drew ?_) | (with_reducible refine Kept.drewN ?_ _) | (with_reducible refine Kept.setCell ?_ ?_ _) | (with_reducible refine Kept.trans ?_ (by with_reducible assumption)) | (simp only [World.size_alloc, World.size_setCell, World.size_drew, size_drewN]; omega) | omega | (dsimp only; omega)))⟩
    · rw [if_neg h]
      have hb : vfB g f = false := decide_eq_false h
      clear h
      go_enter Tryd.func46, Tryd.ntmps46
      go_wp2_with fail
      refine (refProper_any _ _ _).mono ?_
      rintro e w' ⟨rfl, rfl⟩
      rw [hb]
      go_wp2
      refine bodyPost_ret (v := .tuple #[rng 0 0, .int .i64 1]) (by simp [results, Tryd.results46, go_sem, ↓IntWalk.iteOmega]) rfl ⟨rfl, (by repeat (first | (with_reducible exact Kept.refl _) | (with_reducible assumption) | (with_reducible refine Kept.alloc ?_ _) | (with_reducible refine Kept.drew ?_) | (with_reducible refine Kept.drewN ?_ _) | (with_reducible refine Kept.setCell ?_ ?_ _) | (with_reducible refine Kept.trans ?_ (by with_reducible assumption)) | (simp only [World.size_alloc, World.size_setCell, World.size_drew, size_drewN]; omega) | omega | (dsimp only; omega)))⟩
  · rw [if_neg hr]
    have hc : v < 0 ∨ (0 ≤ v ∧ 1099511627776 < v) ∨ ((0 ≤ v ∧ v ≤ 1099511627776) ∧ r < 0) ∨ ((0 ≤ v ∧ v ≤ 1099511627776) ∧ 0 ≤ r ∧ 1000000 ≤ r) := by unfold rOk at hr; omega
    clear hr
    rcases hc with h1 | h1 | h1 | h1
    all_goals
      go_enter Tryd.func46, Tryd.ntmps46
      go_wp2
      refine bodyPost_ret (v := .tuple #[rng 0 0, .int .i64 9]) (by simp [results, Tryd.results46, go_sem, ↓IntWalk.iteOmega]) rfl ⟨rfl, (by repeat (first | (with_reducible exact Kept.refl _) | (with_reducible assumption) | (with_reducible refine Kept.alloc ?_ _) | (with_reducible refine Kept.drew ?_) | (with_reducible refine Kept.drewN ?_ _) | (with_reducible refine Kept.setCell ?_ ?_ _) | (with_reducible refine Kept.trans ?_ (by with_reducible assumption)) | (simp only [World.size_alloc, World.size_setCell, World.size_drew, size_drewN]; omega) | omega | (dsimp only; omega)))⟩
end Go.Proofs.YtbclfphnhbmhoaaDoor
