/- Stations, for every input: Boost, Raise, of the program and of its reference (batchlineref20); made with one thing wrong. -/
import Derived.Test.YtbodabbgcbjkcaaStation3
import Derived.Test.YtbodabbgcbjkcaaRefName
import Derived.Deep.RegionHeld3
import Derived.Deep.DeepCutAuto
namespace Go.Proofs.Ytbodabbgcbjkcaa
open Go.RowKit
set_option linter.unusedVariables false
set_option linter.unusedSimpArgs false

/-- What Boost and Raise return. -/
def sBoost (s : ByteArray) (nd hd fl su r : Int) : Int × Int := if sOk s nd hd fl su then (if 0 ≤ r ∧ r ≤ 32000 then (bst hd fl r, 0) else (0, 1)) else (0, 9)
def sRaise (s : ByteArray) (nd hd fl su lo hi r : Int) : Int × Int × Int :=
  if (sBoost s nd hd fl su r).2 = 0 then (if bOk lo hi then (lo + (sBoost s nd hd fl su r).1, hi + (sBoost s nd hd fl su r).1, 0) else (0, 0, 1)) else (0, 0, (sBoost s nd hd fl su r).2)
theorem sBoost_bd (s : ByteArray) (nd hd fl su r : Int) : 0 ≤ (sBoost s nd hd fl su r).1 ∧ (sBoost s nd hd fl su r).1 ≤ 100000000 := by
  unfold sBoost
  split
  · rename_i h
    obtain ⟨_, _, hd0, fl0, _⟩ := h
    split
    · exact bst_top hd fl r hd0.1 hd0.2 fl0.1 (by omega)
    · simp
  · simp
theorem Boost_any (s : ByteArray) (nd hd fl su r : Int) (w : World) (hs : s.size ≤ 140737488351232) :
    Calls Try.prog 31 #[stn s nd hd fl su, .int .i64 r] w (RetIE (sBoost s nd hd fl su r).1 (sBoost s nd hd fl su r).2 w) := by
  unfold sBoost
  by_cases h : sOk s nd hd fl su
  · rw [if_pos h]
    by_cases hr : 0 ≤ r ∧ r ≤ 32000
    · rw [if_pos hr]; exact Boost_in s nd hd fl su r w hs h hr.1 hr.2
    · rw [if_neg hr]; exact Boost_out s nd hd fl su r w hs h hr
  · rw [if_neg h]; exact Boost_bad s nd hd fl su r w hs h

set_option maxHeartbeats 1000000 in
theorem refStnValid_any (s : ByteArray) (nd hd fl su : Int) (w : World) (hs : s.size ≤ 140737488351232) :
    Calls Try.prog 34 #[stn s nd hd fl su] w (Ret (.bool (sValid s nd hd fl su)) w) := by
  have H := Lib.hid (show sValid s nd hd fl su = (nameOk s && inB nd 23 && inB hd 100000000 && inB fl 100000 && inB su 100000000) from rfl)
  go_enter Try.func34, Try.ntmps34
  go_wp2_with (go_at_call 62; refine (refName_any _ _ hs).mono ?_; rintro e w' ⟨rfl, rfl⟩)
  all_goals
    go_ret
    refine ⟨ret_b ?_, (by repeat (first | (with_reducible exact Kept.refl _) | (with_reducible assumption) | (with_reducible refine Kept.alloc ?_ _) | (with_reducible refine Kept.drew ?_) | (with_reducible refine Kept.drewN ?_ _) | (with_reducible refine Kept.setCell ?_ ?_ _) | (with_reducible refine Kept.trans ?_ (by with_reducible assumption)) | (simp only [World.size_alloc, World.size_setCell, World.size_drew, size_drewN]; omega) | omega | (dsimp only; omega)))⟩
    rw [H.out]
    unfold inB
    simp only [*, Bool.true_and, Bool.false_and, Bool.and_false, Bool.and_true]
    first | done | (symm; simp; omega) | (simp; omega)

theorem srdiv_bd {f r : Int} (f0 : 0 ≤ f) (f1 : f ≤ 100000) (r0 : 0 ≤ r) (r1 : r ≤ 32000) : 0 ≤ f * r * r / 1000 ∧ f * r * r / 1000 ≤ 102400000000 := by
  have := mul3_bd f0 f1 r0 r1
  omega
set_option maxHeartbeats 1000000 in
theorem refBoost_any (s : ByteArray) (nd hd fl su r : Int) (w : World) (hs : s.size ≤ 140737488351232) :
    Calls Try.prog 35 #[stn s nd hd fl su, .int .i64 r] w (RetIE (sBoost s nd hd fl su r).1 (sBoost s nd hd fl su r).2 w) := by
  unfold sBoost
  by_cases h : sOk s nd hd fl su
  · rw [if_pos h]
    have hv := (sValid_iff s nd hd fl su).2 h
    obtain ⟨_, _, ⟨hd0, hd1⟩, ⟨fl0, fl1⟩, _⟩ := id h
    have h := Lib.hid h
    by_cases hr : 0 ≤ r ∧ r ≤ 32000
    · rw [if_pos hr]
      obtain ⟨r0, r1⟩ := hr
      have mb := mul3_bd fl0 fl1 r0 r1
      have qb := srdiv_bd fl0 fl1 r0 r1
      have HB := Lib.hid (show bst hd fl r = max 0 (hd - fl * r * r / 1000) from rfl)
      go_enter Try.func35, Try.ntmps35
      go_wp2_with fail
      refine (refStnValid_any _ _ _ _ _ _ hs).mono ?_
      rintro e v1 ⟨rfl, c1⟩
      have c1_c := (kcell c1).1; have c1_f := (kcell c1).2; have c1_z := c1.size; try simp only [World.size_alloc, World.size_setCell, World.size_drew, size_drewN] at c1_c c1_f c1_z
      rw [hv]
      go_wp2
      all_goals
        go_ret2
        exact ⟨ret_ii (by rw [HB.out]; first | rfl | omega) rfl, (by repeat (first | (with_reducible exact Kept.refl _) | (with_reducible assumption) | (with_reducible refine Kept.alloc ?_ _) | (with_reducible refine Kept.drew ?_) | (with_reducible refine Kept.drewN ?_ _) | (with_reducible refine Kept.setCell ?_ ?_ _) | (with_reducible refine Kept.trans ?_ (by with_reducible assumption)) | (simp only [World.size_alloc, World.size_setCell, World.size_drew, size_drewN]; omega) | omega | (dsimp only; omega)))⟩
    · rw [if_neg hr]
      by_cases r0 : r < 0
      all_goals
        try (have r1 : 32000 < r := by omega)
        clear hr
        go_enter Try.func35, Try.ntmps35
        go_wp2_with fail
        refine (refStnValid_any _ _ _ _ _ _ hs).mono ?_
        rintro e v1 ⟨rfl, c1⟩
        rw [hv]
        have c1_c := (kcell c1).1; have c1_f := (kcell c1).2; have c1_z := c1.size; try simp only [World.size_alloc, World.size_setCell, World.size_drew, size_drewN] at c1_c c1_f c1_z
        go_wp2
        go_ret2
        exact ⟨rfl, (by repeat (first | (with_reducible exact Kept.refl _) | (with_reducible assumption) | (with_reducible refine Kept.alloc ?_ _) | (with_reducible refine Kept.drew ?_) | (with_reducible refine Kept.drewN ?_ _) | (with_reducible refine Kept.setCell ?_ ?_ _) | (with_reducible refine Kept.trans ?_ (by with_reducible assumption)) | (simp only [World.size_alloc, World.size_setCell, World.size_drew, size_drewN]; omega) | omega | (dsimp only; omega)))⟩
  · rw [if_neg h]
    have hv : sValid s nd hd fl su = false := by rw [← Bool.not_eq_true, sValid_iff]; exact h
    clear h
    go_enter Try.func35, Try.ntmps35
    go_wp2_with fail
    refine (refStnValid_any _ _ _ _ _ _ hs).mono ?_
    rintro e v1 ⟨rfl, c1⟩
    have c1_c := (kcell c1).1; have c1_f := (kcell c1).2; have c1_z := c1.size; try simp only [World.size_alloc, World.size_setCell, World.size_drew, size_drewN] at c1_c c1_f c1_z
    rw [hv]
    go_wp2
    go_ret2
    exact ⟨rfl, (by repeat (first | (with_reducible exact Kept.refl _) | (with_reducible assumption) | (with_reducible refine Kept.alloc ?_ _) | (with_reducible refine Kept.drew ?_) | (with_reducible refine Kept.drewN ?_ _) | (with_reducible refine Kept.setCell ?_ ?_ _) | (with_reducible refine Kept.trans ?_ (by with_reducible assumption)) | (simp only [World.size_alloc, World.size_setCell, World.size_drew, size_drewN]; omega) | omega | (dsimp only; omega)))⟩

set_option maxHeartbeats 1000000 in
theorem Raise_any (s : ByteArray) (nd hd fl su lo hi r : Int) (w : World) (hs : s.size ≤ 140737488351232) :
    Calls Try.prog 36 #[stn s nd hd fl su, bnd lo hi, .int .i64 r] w (RetBE (sRaise s nd hd fl su lo hi r).1 (sRaise s nd hd fl su lo hi r).2.1 (sRaise s nd hd fl su lo hi r).2.2 w) := by
  have hb := sBoost_bd s nd hd fl su r
  obtain ⟨R, HS0⟩ : ∃ R, R = sRaise s nd hd fl su lo hi r := ⟨_, rfl⟩
  rw [← HS0]
  unfold sRaise at HS0
  have hB := Boost_any s nd hd fl su r
  generalize sBoost s nd hd fl su r = b at *
  obtain ⟨n, e'⟩ := b
  dsimp only at hb HS0 hB
  have HB := Lib.hid hB
  have HS := Lib.hid HS0
  clear hB HS0
  by_cases he : e' = 0
  · subst he
    by_cases hbo : bOk lo hi
    · obtain ⟨b1, b2, b3⟩ := id hbo
      have hR : R = (lo + n, hi + n, 0) := by rw [HS.out]; simp [hbo]
      subst hR
      clear HS hbo
      go_enter Try.func36, Try.ntmps36
      go_wp2_with fail
      refine (HB.out _ hs).mono ?_
      rintro e v1 ⟨rfl, c1⟩
      have c1_c := (kcell c1).1; have c1_f := (kcell c1).2; have c1_z := c1.size; try simp only [World.size_alloc, World.size_setCell, World.size_drew, size_drewN] at c1_c c1_f c1_z
      go_wp2
      refine bodyPost_ret (v := .tuple #[bnd (lo + n) (hi + n), .int .i64 0]) (by simp [results, Try.results36, go_sem, ↓IntWalk.iteOmega, c1_c]) rfl ⟨rfl, (by repeat (first | (with_reducible exact Kept.refl _) | (with_reducible assumption) | (with_reducible refine Kept.alloc ?_ _) | (with_reducible refine Kept.drew ?_) | (with_reducible refine Kept.drewN ?_ _) | (with_reducible refine Kept.setCell ?_ ?_ _) | (with_reducible refine Kept.trans ?_ (by with_reducible assumption)) | (simp only [World.size_alloc, World.size_setCell, World.size_drew, size_drewN]; omega) | omega | (dsimp only; omega)))⟩
    · have hR : R = (0, 0, 1) := by rw [HS.out]; simp [hbo]
      have hbo' : hi < lo ∨ (lo ≤ hi ∧ lo < -1125899906842624) ∨ (lo ≤ hi ∧ -1125899906842624 ≤ lo ∧ 1125899906842624 < hi) := by unfold bOk at hbo; omega
      subst hR
      clear HS hbo
      rcases hbo' with h1 | h1 | h1
      all_goals
        go_enter Try.func36, Try.ntmps36
        go_wp2_with fail
        refine (HB.out _ hs).mono ?_
        rintro e v1 ⟨rfl, c1⟩
        have c1_c := (kcell c1).1; have c1_f := (kcell c1).2; have c1_z := c1.size; try simp only [World.size_alloc, World.size_setCell, World.size_drew, size_drewN] at c1_c c1_f c1_z
        go_wp2
        refine bodyPost_ret (v := .tuple #[bnd 0 0, .int .i64 1]) (by simp [results, Try.results36, go_sem, ↓IntWalk.iteOmega, c1_c]) rfl ⟨rfl, (by repeat (first | (with_reducible exact Kept.refl _) | (with_reducible assumption) | (with_reducible refine Kept.alloc ?_ _) | (with_reducible refine Kept.drew ?_) | (with_reducible refine Kept.drewN ?_ _) | (with_reducible refine Kept.setCell ?_ ?_ _) | (with_reducible refine Kept.trans ?_ (by with_reducible assumption)) | (simp only [World.size_alloc, World.size_setCell, World.size_drew, size_drewN]; omega) | omega | (dsimp only; omega)))⟩
  · have hR : R = (0, 0, e') := by rw [HS.out]; simp [he]
    have he' : (e' != 0) = true := by rw [bne_iff_ne]; exact he
    subst hR
    clear HS he
    go_enter Try.func36, Try.ntmps36
    go_wp2_with fail
    refine (HB.out _ hs).mono ?_
    rintro e v1 ⟨rfl, c1⟩
    have c1_c := (kcell c1).1; have c1_f := (kcell c1).2; have c1_z := c1.size; try simp only [World.size_alloc, World.size_setCell, World.size_drew, size_drewN] at c1_c c1_f c1_z
    go_wp2
    refine bodyPost_ret (v := .tuple #[bnd 0 0, .int .i64 e']) (by simp [results, Try.results36, go_sem, ↓IntWalk.iteOmega, c1_c]) rfl ⟨rfl, (by repeat (first | (with_reducible exact Kept.refl _) | (with_reducible assumption) | (with_reducible refine Kept.alloc ?_ _) | (with_reducible refine Kept.drew ?_) | (with_reducible refine Kept.drewN ?_ _) | (with_reducible refine Kept.setCell ?_ ?_ _) | (with_reducible refine Kept.trans ?_ (by with_reducible assumption)) | (simp only [World.size_alloc, World.size_setCell, World.size_drew, size_drewN]; omega) | omega | (dsimp only; omega)))⟩

def bOkB (lo hi : Int) : Bool := decide (bOk lo hi)
set_option maxHeartbeats 400000 in
theorem Proper_any (lo hi : Int) (w : World) : Calls Try.prog 38 #[bnd lo hi] w (Ret (.bool (bOkB lo hi)) w) := by
  go_enter Try.func38, Try.ntmps38
  go_wp2
  all_goals
    go_ret
    exact ⟨ret_b (by first | exact (decide_eq_false (by unfold bOk; omega)).symm | exact decide_eq_decide.2 (by unfold bOk; omega)), (by repeat (first | (with_reducible exact Kept.refl _) | (with_reducible assumption) | (with_reducible refine Kept.alloc ?_ _) | (with_reducible refine Kept.drew ?_) | (with_reducible refine Kept.drewN ?_ _) | (with_reducible refine Kept.setCell ?_ ?_ _) | (with_reducible refine Kept.trans ?_ (by with_reducible assumption)) | (simp only [World.size_alloc, World.size_setCell, World.size_drew, size_drewN]; omega) | omega | (dsimp only; omega)))⟩
set_option maxHeartbeats 1000000 in
theorem refRaise_any (s : ByteArray) (nd hd fl su lo hi r : Int) (w : World) (hs : s.size ≤ 140737488351232) :
    Calls Try.prog 37 #[stn s nd hd fl su, bnd lo hi, .int .i64 r] w (RetBE (sRaise s nd hd fl su lo hi r).1 (sRaise s nd hd fl su lo hi r).2.1 (sRaise s nd hd fl su lo hi r).2.2 w) := by
  have hb := sBoost_bd s nd hd fl su r
  obtain ⟨R, HS0⟩ : ∃ R, R = sRaise s nd hd fl su lo hi r := ⟨_, rfl⟩
  rw [← HS0]
  unfold sRaise at HS0
  have hB := refBoost_any s nd hd fl su r
  generalize sBoost s nd hd fl su r = b at *
  obtain ⟨n, e'⟩ := b
  dsimp only at hb HS0 hB
  have HB := Lib.hid hB
  have HS := Lib.hid HS0
  clear hB HS0
  by_cases he : e' = 0
  · subst he
    by_cases hbo : bOk lo hi
    · obtain ⟨b1, b2, b3⟩ := id hbo
      have hR : R = (lo + n, hi + n, 0) := by rw [HS.out]; simp [hbo]
      have hp : bOkB lo hi = true := decide_eq_true hbo
      subst hR
      clear HS hbo
      go_enter Try.func37, Try.ntmps37
      go_wp2_with fail
      refine (HB.out _ hs).mono ?_
      rintro e v1 ⟨rfl, c1⟩
      have c1_c := (kcell c1).1; have c1_f := (kcell c1).2; have c1_z := c1.size; try simp only [World.size_alloc, World.size_setCell, World.size_drew, size_drewN] at c1_c c1_f c1_z
      go_wp2_with fail
      refine (Proper_any _ _ _).mono ?_
      rintro e v2 ⟨rfl, c2⟩
      have c2_c := (kcell c2).1; have c2_f := (kcell c2).2; have c2_z := c2.size; try simp only [World.size_alloc, World.size_setCell, World.size_drew, size_drewN] at c2_c c2_f c2_z
      rw [hp]
      go_wp2
      refine bodyPost_ret (v := .tuple #[bnd (lo + n) (hi + n), .int .i64 0]) (by simp [results, Try.results37, go_sem, ↓IntWalk.iteOmega, c2_c, c1_c]) rfl ⟨rfl, (by repeat (first | (with_reducible exact Kept.refl _) | (with_reducible assumption) | (with_reducible refine Kept.alloc ?_ _) | (with_reducible refine Kept.drew ?_) | (with_reducible refine Kept.drewN ?_ _) | (with_reducible refine Kept.setCell ?_ ?_ _) | (with_reducible refine Kept.trans ?_ (by with_reducible assumption)) | (simp only [World.size_alloc, World.size_setCell, World.size_drew, size_drewN]; omega) | omega | (dsimp only; omega)))⟩
    · have hR : R = (0, 0, 1) := by rw [HS.out]; simp [hbo]
      have hp : bOkB lo hi = false := decide_eq_false hbo
      subst hR
      clear HS hbo
      go_enter Try.func37, Try.ntmps37
      go_wp2_with fail
      refine (HB.out _ hs).mono ?_
      rintro e v1 ⟨rfl, c1⟩
      have c1_c := (kcell c1).1; have c1_f := (kcell c1).2; have c1_z := c1.size; try simp only [World.size_alloc, World.size_setCell, World.size_drew, size_drewN] at c1_c c1_f c1_z
      go_wp2_with fail
      refine (Proper_any _ _ _).mono ?_
      rintro e v2 ⟨rfl, c2⟩
      have c2_c := (kcell c2).1; have c2_f := (kcell c2).2; have c2_z := c2.size; try simp only [World.size_alloc, World.size_setCell, World.size_drew, size_drewN] at c2_c c2_f c2_z
      rw [hp]
      go_wp2
      refine bodyPost_ret (v := .tuple #[bnd 0 0, .int .i64 1]) (by simp [results, Try.results37, go_sem, ↓IntWalk.iteOmega, c2_c, c1_c]) rfl ⟨rfl, (by repeat (first | (with_reducible exact Kept.refl _) | (with_reducible assumption) | (with_reducible refine Kept.alloc ?_ _) | (with_reducible refine Kept.drew ?_) | (with_reducible refine Kept.drewN ?_ _) | (with_reducible refine Kept.setCell ?_ ?_ _) | (with_reducible refine Kept.trans ?_ (by with_reducible assumption)) | (simp only [World.size_alloc, World.size_setCell, World.size_drew, size_drewN]; omega) | omega | (dsimp only; omega)))⟩
  · have hR : R = (0, 0, e') := by rw [HS.out]; simp [he]
    have he' : (e' != 0) = true := by rw [bne_iff_ne]; exact he
    subst hR
    clear HS he
    go_enter Try.func37, Try.ntmps37
    go_wp2_with fail
    refine (HB.out _ hs).mono ?_
    rintro e v1 ⟨rfl, c1⟩
    have c1_c := (kcell c1).1; have c1_f := (kcell c1).2; have c1_z := c1.size; try simp only [World.size_alloc, World.size_setCell, World.size_drew, size_drewN] at c1_c c1_f c1_z
    go_wp2
    refine bodyPost_ret (v := .tuple #[bnd 0 0, .int .i64 e']) (by simp [results, Try.results37, go_sem, ↓IntWalk.iteOmega, c1_c]) rfl ⟨rfl, (by repeat (first | (with_reducible exact Kept.refl _) | (with_reducible assumption) | (with_reducible refine Kept.alloc ?_ _) | (with_reducible refine Kept.drew ?_) | (with_reducible refine Kept.drewN ?_ _) | (with_reducible refine Kept.setCell ?_ ?_ _) | (with_reducible refine Kept.trans ?_ (by with_reducible assumption)) | (simp only [World.size_alloc, World.size_setCell, World.size_drew, size_drewN]; omega) | omega | (dsimp only; omega)))⟩
end Go.Proofs.Ytbodabbgcbjkcaa
