
/- Walks of the reference of package meter (batchlineref07). -/
import Derived.Test.YtbclfphnhbmhoaaDoorMeter2
namespace Go.Proofs.YtbclfphnhbmhoaaDoor
open Go.RowKit
set_option linter.unusedVariables false
set_option linter.unusedSimpArgs false

set_option maxHeartbeats 400000 in
theorem refValid_any (p b f : Int) (w : World) :
    Calls Tryd.prog 34 #[mtr p b f] w (Ret (.bool (mValid p b f)) w) := by
  go_enter Tryd.func34, Tryd.ntmps34
  go_wp2
  all_goals
    go_ret
    exact ⟨ret_b (by first | exact (decide_eq_false (by unfold mOk; omega)).symm | exact decide_eq_decide.2 (by unfold mOk; omega)), (Kept.refl w).alloc _⟩

set_option maxHeartbeats 400000 in
theorem refReading_in (p b f n : Int) (w : World) (h : b = 16 ∨ b = 32) :
    Calls Tryd.prog 36 #[mtr p b f, .int .i64 n] w (Ret (.bool (decide (mReading b n))) w) := by
  rcases h with rfl | rfl
  all_goals
    by_cases h0 : 0 ≤ n
    · go_enter Tryd.func36, Tryd.ntmps36
      go_wp2
      go_ret
      exact ⟨ret_b (decide_eq_decide.2 (by unfold mReading mSpan; simp; omega)), (by repeat (first | (with_reducible exact Kept.refl _) | (with_reducible assumption) | (with_reducible refine Kept.alloc ?_ _) | (with_reducible refine Kept.drew ?_) | (with_reducible refine Kept.drewN ?_ _) | (with_reducible refine Kept.setCell ?_ ?_ _) | (with_reducible refine Kept.trans ?_ (by with_reducible assumption)) | (simp only [World.size_alloc, World.size_setCell, World.size_drew, size_drewN]; omega) | omega | (dsimp only; omega)))⟩
    · go_enter Tryd.func36, Tryd.ntmps36
      go_wp2
      go_ret
      exact ⟨ret_b (decide_eq_false (by unfold mReading; omega)).symm, (by repeat (first | (with_reducible exact Kept.refl _) | (with_reducible assumption) | (with_reducible refine Kept.alloc ?_ _) | (with_reducible refine Kept.drew ?_) | (with_reducible refine Kept.drewN ?_ _) | (with_reducible refine Kept.setCell ?_ ?_ _) | (with_reducible refine Kept.trans ?_ (by with_reducible assumption)) | (simp only [World.size_alloc, World.size_setCell, World.size_drew, size_drewN]; omega) | omega | (dsimp only; omega)))⟩

set_option maxHeartbeats 400000 in
theorem count_in (p b f l n : Int) (w : World) (h : b = 16 ∨ b = 32) :
    Calls Tryd.prog 35 #[mtr p b f, cnt l n] w (Ret (.bool (decide (cOk b l n))) w) := by
  by_cases hr : mReading b l
  · have hd := decide_eq_true hr
    go_enter Tryd.func35, Tryd.ntmps35
    go_wp2_with (go_at_call 36; refine (refReading_in _ _ _ _ _ h).mono ?_; rintro e w' ⟨rfl, hk⟩; rw [hd]; have hk_c := (kcell hk).1; have hk_f := (kcell hk).2; have hk_z := hk.size; try simp only [World.size_alloc, World.size_setCell, World.size_drew, size_drewN] at hk_c hk_f hk_z)
    all_goals
      go_ret
      exact ⟨ret_b (by first | exact (decide_eq_false (by unfold cOk; omega)).symm | exact decide_eq_decide.2 ⟨fun h => ⟨hr, by omega, by omega⟩, fun h => by have := h.2; omega⟩), (by repeat (first | (with_reducible exact Kept.refl _) | (with_reducible assumption) | (with_reducible refine Kept.alloc ?_ _) | (with_reducible refine Kept.drew ?_) | (with_reducible refine Kept.drewN ?_ _) | (with_reducible refine Kept.setCell ?_ ?_ _) | (with_reducible refine Kept.trans ?_ (by with_reducible assumption)) | (simp only [World.size_alloc, World.size_setCell, World.size_drew, size_drewN]; omega) | omega | (dsimp only; omega)))⟩
  · have hd := decide_eq_false hr
    go_enter Tryd.func35, Tryd.ntmps35
    go_wp2_with (go_at_call 36; refine (refReading_in _ _ _ _ _ h).mono ?_; rintro e w' ⟨rfl, hk⟩; rw [hd]; have hk_c := (kcell hk).1; have hk_f := (kcell hk).2; have hk_z := hk.size; try simp only [World.size_alloc, World.size_setCell, World.size_drew, size_drewN] at hk_c hk_f hk_z)
    go_ret
    exact ⟨ret_b (decide_eq_false (fun h => hr h.1)).symm, (by repeat (first | (with_reducible exact Kept.refl _) | (with_reducible assumption) | (with_reducible refine Kept.alloc ?_ _) | (with_reducible refine Kept.drew ?_) | (with_reducible refine Kept.drewN ?_ _) | (with_reducible refine Kept.setCell ?_ ?_ _) | (with_reducible refine Kept.trans ?_ (by with_reducible assumption)) | (simp only [World.size_alloc, World.size_setCell, World.size_drew, size_drewN]; omega) | omega | (dsimp only; omega)))⟩

set_option maxHeartbeats 400000 in
theorem refRead_bad (p b f l n x : Int) (w : World) (h : ¬ (mOk p b f ∧ cOk b l n)) :
    Calls Tryd.prog 15 #[mtr p b f, cnt l n, .int .i64 x] w (RetCE 0 0 9 w) := by
  by_cases hv : mOk p b f
  · have hb := hv.2.2.1
    have hc : decide (cOk b l n) = false := decide_eq_false (fun hc => h ⟨hv, hc⟩)
    have hm : mValid p b f = true := decide_eq_true hv
    clear h hv
    go_enter Tryd.func15, Tryd.ntmps15
    go_wp2_with (first | (go_at_call 34; refine (refValid_any _ _ _ _).mono ?_; rintro e w1 ⟨rfl, h1⟩; rw [hm]; have h1_c := (kcell h1).1; have h1_f := (kcell h1).2; have h1_z := h1.size; try simp only [World.size_alloc, World.size_setCell, World.size_drew, size_drewN] at h1_c h1_f h1_z) | (go_at_call 35; refine (count_in _ _ _ _ _ _ hb).mono ?_; rintro e w2 ⟨rfl, h2⟩; rw [hc]; have h2_c := (kcell h2).1; have h2_f := (kcell h2).2; have h2_z := h2.size; try simp only [World.size_alloc, World.size_setCell, World.size_drew, size_drewN] at h2_c h2_f h2_z))
    refine bodyPost_ret (v := .tuple #[cnt 0 0, .int .i64 9]) (by simp [results, Tryd.results15, go_sem, ↓IntWalk.iteOmega, h2_c, h1_c]) rfl ⟨rfl, (by repeat (first | (with_reducible exact Kept.refl _) | (with_reducible assumption) | (with_reducible refine Kept.alloc ?_ _) | (with_reducible refine Kept.drew ?_) | (with_reducible refine Kept.drewN ?_ _) | (with_reducible refine Kept.setCell ?_ ?_ _) | (with_reducible refine Kept.trans ?_ (by with_reducible assumption)) | (simp only [World.size_alloc, World.size_setCell, World.size_drew, size_drewN]; omega) | omega | (dsimp only; omega)))⟩
  · have hm : mValid p b f = false := decide_eq_false hv
    clear h hv
    go_enter Tryd.func15, Tryd.ntmps15
    go_wp2_with (go_at_call 34; refine (refValid_any _ _ _ _).mono ?_; rintro e w1 ⟨rfl, h1⟩; rw [hm]; have h1_c := (kcell h1).1; have h1_f := (kcell h1).2; have h1_z := h1.size; try simp only [World.size_alloc, World.size_setCell, World.size_drew, size_drewN] at h1_c h1_f h1_z)
    refine bodyPost_ret (v := .tuple #[cnt 0 0, .int .i64 9]) (by simp [results, Tryd.results15, go_sem, ↓IntWalk.iteOmega, h1_c]) rfl ⟨rfl, (by repeat (first | (with_reducible exact Kept.refl _) | (with_reducible assumption) | (with_reducible refine Kept.alloc ?_ _) | (with_reducible refine Kept.drew ?_) | (with_reducible refine Kept.drewN ?_ _) | (with_reducible refine Kept.setCell ?_ ?_ _) | (with_reducible refine Kept.trans ?_ (by with_reducible assumption)) | (simp only [World.size_alloc, World.size_setCell, World.size_drew, size_drewN]; omega) | omega | (dsimp only; omega)))⟩

theorem refRead_range (p b f l n x : Int) (w : World) (h : mOk p b f) (hc : cOk b l n) (hx : ¬ mReading b x) :
    Calls Tryd.prog 15 #[mtr p b f, cnt l n, .int .i64 x] w (RetCE 0 0 1 w) := by
  have hb := h.2.2.1
  have hm : mValid p b f = true := decide_eq_true h
  have hc : decide (cOk b l n) = true := decide_eq_true hc
  have hx : decide (mReading b x) = false := decide_eq_false hx
  clear h
  go_enter Tryd.func15, Tryd.ntmps15
  go_wp2_with (first | (go_at_call 34; refine (refValid_any _ _ _ _).mono ?_; rintro e w1 ⟨rfl, h1⟩; rw [hm]; have h1_c := (kcell h1).1; have h1_f := (kcell h1).2; have h1_z := h1.size; try simp only [World.size_alloc, World.size_setCell, World.size_drew, size_drewN] at h1_c h1_f h1_z) | (go_at_call 35; refine (count_in _ _ _ _ _ _ hb).mono ?_; rintro e w2 ⟨rfl, h2⟩; rw [hc]; have h2_c := (kcell h2).1; have h2_f := (kcell h2).2; have h2_z := h2.size; try simp only [World.size_alloc, World.size_setCell, World.size_drew, size_drewN] at h2_c h2_f h2_z) | (go_at_call 36; refine (refReading_in _ _ _ _ _ hb).mono ?_; rintro e w3 ⟨rfl, h3⟩; rw [hx]; have h3_c := (kcell h3).1; have h3_f := (kcell h3).2; have h3_z := h3.size; try simp only [World.size_alloc, World.size_setCell, World.size_drew, size_drewN] at h3_c h3_f h3_z))
  refine bodyPost_ret (v := .tuple #[cnt 0 0, .int .i64 1]) (by simp [results, Tryd.results15, go_sem, ↓IntWalk.iteOmega, h3_c, h2_c, h1_c]) rfl ⟨rfl, (by repeat (first | (with_reducible exact Kept.refl _) | (with_reducible assumption) | (with_reducible refine Kept.alloc ?_ _) | (with_reducible refine Kept.drew ?_) | (with_reducible refine Kept.drewN ?_ _) | (with_reducible refine Kept.setCell ?_ ?_ _) | (with_reducible refine Kept.trans ?_ (by with_reducible assumption)) | (simp only [World.size_alloc, World.size_setCell, World.size_drew, size_drewN]; omega) | omega | (dsimp only; omega)))⟩

/-- What Read returns. -/
def mRead (p b f l n x : Int) : Int × Int × Int :=
  if mOk p b f ∧ cOk b l n then (if mReading b x then (if n + mStep b l x ≤ 1099511627776 then (x, n + mStep b l x, 0) else (0, 0, 4)) else (0, 0, 1)) else (0, 0, 9)
theorem mStep_eq (b l x : Int) (hl : mReading b l) (hx : mReading b x) : mStep b l x = if x < l then x - l + mSpan b else x - l := by
  have sb := mSpan_bd b
  obtain ⟨a1, a2⟩ := hl
  obtain ⟨a3, a4⟩ := hx
  unfold mStep
  split
  · exact Int.emod_eq_of_lt (by omega) (by omega)
  · rw [Int.add_emod_right]; exact Int.emod_eq_of_lt (by omega) (by omega)
set_option maxHeartbeats 1000000 in
theorem refRead_in16 (p f l n x : Int) (w : World) (h : mOk p 16 f) (hc : cOk 16 l n) (hx : mReading 16 x) :
    Calls Tryd.prog 15 #[mtr p 16 f, cnt l n, .int .i64 x] w
      (if n + mStep 16 l x ≤ 1099511627776 then RetCE x (n + mStep 16 l x) 0 w else RetCE 0 0 4 w) := by
  have hb := h.2.2.1
  have hm : mValid p 16 f = true := decide_eq_true h
  have hst := mStep_eq 16 l x hc.1 hx
  obtain ⟨⟨l1, l2⟩, n1, n2⟩ := id hc
  obtain ⟨x1, x2⟩ := id hx
  have hc : decide (cOk 16 l n) = true := decide_eq_true hc
  have hx : decide (mReading 16 x) = true := decide_eq_true hx
  have hs : mSpan 16 = 65536 := rfl
  rw [hs] at hst x2 l2
  clear h hs
  by_cases hlt : x < l
  · have e : n + mStep 16 l x = n + x - l + 65536 := by rw [hst, if_pos hlt]; omega
    rw [e]
    clear e hst
    by_cases hlim : n + x - l + 65536 ≤ 1099511627776
    · rw [if_pos hlim]
      go_enter Tryd.func15, Tryd.ntmps15
      go_wp2_with (first | (go_at_call 34; refine (refValid_any _ _ _ _).mono ?_; rintro e w1 ⟨rfl, h1⟩; rw [hm]; have h1_c := (kcell h1).1; have h1_f := (kcell h1).2; have h1_z := h1.size; try simp only [World.size_alloc, World.size_setCell, World.size_drew, size_drewN] at h1_c h1_f h1_z) | (go_at_call 35; refine (count_in _ _ _ _ _ _ (.inl rfl)).mono ?_; rintro e w2 ⟨rfl, h2⟩; rw [hc]; have h2_c := (kcell h2).1; have h2_f := (kcell h2).2; have h2_z := h2.size; try simp only [World.size_alloc, World.size_setCell, World.size_drew, size_drewN] at h2_c h2_f h2_z) | (go_at_call 36; refine (refReading_in _ _ _ _ _ (.inl rfl)).mono ?_; rintro e w3 ⟨rfl, h3⟩; rw [hx]; have h3_c := (kcell h3).1; have h3_f := (kcell h3).2; have h3_z := h3.size; try simp only [World.size_alloc, World.size_setCell, World.size_drew, size_drewN] at h3_c h3_f h3_z))
      have er : IntKind.i64.wrap (n + x - l + 65536) = n + x - l + 65536 := IntWalk.i64_in _ (by omega)
      go_region
      clear er
      go_wp2
      refine bodyPost_ret (v := .tuple #[cnt x (n + x - l + 65536), .int .i64 0]) (by simp [results, Tryd.results15, go_sem, ↓IntWalk.iteOmega, h3_c, h2_c, h1_c]) rfl ⟨rfl, (by repeat (first | (with_reducible exact Kept.refl _) | (with_reducible assumption) | (with_reducible refine Kept.alloc ?_ _) | (with_reducible refine Kept.drew ?_) | (with_reducible refine Kept.drewN ?_ _) | (with_reducible refine Kept.setCell ?_ ?_ _) | (with_reducible refine Kept.trans ?_ (by with_reducible assumption)) | (simp only [World.size_alloc, World.size_setCell, World.size_drew, size_drewN]; omega) | omega | (dsimp only; omega)))⟩
    · rw [if_neg hlim]
      go_enter Tryd.func15, Tryd.ntmps15
      go_wp2_with (first | (go_at_call 34; refine (refValid_any _ _ _ _).mono ?_; rintro e w1 ⟨rfl, h1⟩; rw [hm]; have h1_c := (kcell h1).1; have h1_f := (kcell h1).2; have h1_z := h1.size; try simp only [World.size_alloc, World.size_setCell, World.size_drew, size_drewN] at h1_c h1_f h1_z) | (go_at_call 35; refine (count_in _ _ _ _ _ _ (.inl rfl)).mono ?_; rintro e w2 ⟨rfl, h2⟩; rw [hc]; have h2_c := (kcell h2).1; have h2_f := (kcell h2).2; have h2_z := h2.size; try simp only [World.size_alloc, World.size_setCell, World.size_drew, size_drewN] at h2_c h2_f h2_z) | (go_at_call 36; refine (refReading_in _ _ _ _ _ (.inl rfl)).mono ?_; rintro e w3 ⟨rfl, h3⟩; rw [hx]; have h3_c := (kcell h3).1; have h3_f := (kcell h3).2; have h3_z := h3.size; try simp only [World.size_alloc, World.size_setCell, World.size_drew, size_drewN] at h3_c h3_f h3_z))
      have er : IntKind.i64.wrap (n + x - l + 65536) = n + x - l + 65536 := IntWalk.i64_in _ (by omega)
      go_region
      clear er
      go_wp2
      refine bodyPost_ret (v := .tuple #[cnt 0 0, .int .i64 4]) (by simp [results, Tryd.results15, go_sem, ↓IntWalk.iteOmega, h3_c, h2_c, h1_c]) rfl ⟨rfl, (by repeat (first | (with_reducible exact Kept.refl _) | (with_reducible assumption) | (with_reducible refine Kept.alloc ?_ _) | (with_reducible refine Kept.drew ?_) | (with_reducible refine Kept.drewN ?_ _) | (with_reducible refine Kept.setCell ?_ ?_ _) | (with_reducible refine Kept.trans ?_ (by with_reducible assumption)) | (simp only [World.size_alloc, World.size_setCell, World.size_drew, size_drewN]; omega) | omega | (dsimp only; omega)))⟩
  · have e : n + mStep 16 l x = n + x - l := by rw [hst, if_neg hlt]; omega
    rw [e]
    clear e hst
    by_cases hlim : n + x - l ≤ 1099511627776
    · rw [if_pos hlim]
      go_enter Tryd.func15, Tryd.ntmps15
      go_wp2_with (first | (go_at_call 34; refine (refValid_any _ _ _ _).mono ?_; rintro e w1 ⟨rfl, h1⟩; rw [hm]; have h1_c := (kcell h1).1; have h1_f := (kcell h1).2; have h1_z := h1.size; try simp only [World.size_alloc, World.size_setCell, World.size_drew, size_drewN] at h1_c h1_f h1_z) | (go_at_call 35; refine (count_in _ _ _ _ _ _ (.inl rfl)).mono ?_; rintro e w2 ⟨rfl, h2⟩; rw [hc]; have h2_c := (kcell h2).1; have h2_f := (kcell h2).2; have h2_z := h2.size; try simp only [World.size_alloc, World.size_setCell, World.size_drew, size_drewN] at h2_c h2_f h2_z) | (go_at_call 36; refine (refReading_in _ _ _ _ _ (.inl rfl)).mono ?_; rintro e w3 ⟨rfl, h3⟩; rw [hx]; have h3_c := (kcell h3).1; have h3_f := (kcell h3).2; have h3_z := h3.size; try simp only [World.size_alloc, World.size_setCell, World.size_drew, size_drewN] at h3_c h3_f h3_z))
      refine bodyPost_ret (v := .tuple #[cnt x (n + x - l), .int .i64 0]) (by simp [results, Tryd.results15, go_sem, ↓IntWalk.iteOmega, h3_c, h2_c, h1_c]) rfl ⟨rfl, (by repeat (first | (with_reducible exact Kept.refl _) | (with_reducible assumption) | (with_reducible refine Kept.alloc ?_ _) | (with_reducible refine Kept.drew ?_) | (with_reducible refine Kept.drewN ?_ _) | (with_reducible refine Kept.setCell ?_ ?_ _) | (with_reducible refine Kept.trans ?_ (by with_reducible assumption)) | (simp only [World.size_alloc, World.size_setCell, World.size_drew, size_drewN]; omega) | omega | (dsimp only; omega)))⟩
    · rw [if_neg hlim]
      go_enter Tryd.func15, Tryd.ntmps15
      go_wp2_with (first | (go_at_call 34; refine (refValid_any _ _ _ _).mono ?_; rintro e w1 ⟨rfl, h1⟩; rw [hm]; have h1_c := (kcell h1).1; have h1_f := (kcell h1).2; have h1_z := h1.size; try simp only [World.size_alloc, World.size_setCell, World.size_drew, size_drewN] at h1_c h1_f h1_z) | (go_at_call 35; refine (count_in _ _ _ _ _ _ (.inl rfl)).mono ?_; rintro e w2 ⟨rfl, h2⟩; rw [hc]; have h2_c := (kcell h2).1; have h2_f := (kcell h2).2; have h2_z := h2.size; try simp only [World.size_alloc, World.size_setCell, World.size_drew, size_drewN] at h2_c h2_f h2_z) | (go_at_call 36; refine (refReading_in _ _ _ _ _ (.inl rfl)).mono ?_; rintro e w3 ⟨rfl, h3⟩; rw [hx]; have h3_c := (kcell h3).1; have h3_f := (kcell h3).2; have h3_z := h3.size; try simp only [World.size_alloc, World.size_setCell, World.size_drew, size_drewN] at h3_c h3_f h3_z))
      refine bodyPost_ret (v := .tuple #[cnt 0 0, .int .i64 4]) (by simp [results, Tryd.results15, go_sem, ↓IntWalk.iteOmega, h3_c, h2_c, h1_c]) rfl ⟨rfl, (by repeat (first | (with_reducible exact Kept.refl _) | (with_reducible assumption) | (with_reducible refine Kept.alloc ?_ _) | (with_reducible refine Kept.drew ?_) | (with_reducible refine Kept.drewN ?_ _) | (with_reducible refine Kept.setCell ?_ ?_ _) | (with_reducible refine Kept.trans ?_ (by with_reducible assumption)) | (simp only [World.size_alloc, World.size_setCell, World.size_drew, size_drewN]; omega) | omega | (dsimp only; omega)))⟩

set_option maxHeartbeats 1000000 in
theorem refRead_in32 (p f l n x : Int) (w : World) (h : mOk p 32 f) (hc : cOk 32 l n) (hx : mReading 32 x) :
    Calls Tryd.prog 15 #[mtr p 32 f, cnt l n, .int .i64 x] w
      (if n + mStep 32 l x ≤ 1099511627776 then RetCE x (n + mStep 32 l x) 0 w else RetCE 0 0 4 w) := by
  have hb := h.2.2.1
  have hm : mValid p 32 f = true := decide_eq_true h
  have hst := mStep_eq 32 l x hc.1 hx
  obtain ⟨⟨l1, l2⟩, n1, n2⟩ := id hc
  obtain ⟨x1, x2⟩ := id hx
  have hc : decide (cOk 32 l n) = true := decide_eq_true hc
  have hx : decide (mReading 32 x) = true := decide_eq_true hx
  have hs : mSpan 32 = 4294967296 := rfl
  rw [hs] at hst x2 l2
  clear h hs
  by_cases hlt : x < l
  · have e : n + mStep 32 l x = n + x - l + 4294967296 := by rw [hst, if_pos hlt]; omega
    rw [e]
    clear e hst
    by_cases hlim : n + x - l + 4294967296 ≤ 1099511627776
    · rw [if_pos hlim]
      go_enter Tryd.func15, Tryd.ntmps15
      go_wp2_with (first | (go_at_call 34; refine (refValid_any _ _ _ _).mono ?_; rintro e w1 ⟨rfl, h1⟩; rw [hm]; have h1_c := (kcell h1).1; have h1_f := (kcell h1).2; have h1_z := h1.size; try simp only [World.size_alloc, World.size_setCell, World.size_drew, size_drewN] at h1_c h1_f h1_z) | (go_at_call 35; refine (count_in _ _ _ _ _ _ (.inr rfl)).mono ?_; rintro e w2 ⟨rfl, h2⟩; rw [hc]; have h2_c := (kcell h2).1; have h2_f := (kcell h2).2; have h2_z := h2.size; try simp only [World.size_alloc, World.size_setCell, World.size_drew, size_drewN] at h2_c h2_f h2_z) | (go_at_call 36; refine (refReading_in _ _ _ _ _ (.inr rfl)).mono ?_; rintro e w3 ⟨rfl, h3⟩; rw [hx]; have h3_c := (kcell h3).1; have h3_f := (kcell h3).2; have h3_z := h3.size; try simp only [World.size_alloc, World.size_setCell, World.size_drew, size_drewN] at h3_c h3_f h3_z))
      have er : IntKind.i64.wrap (n + x - l + 4294967296) = n + x - l + 4294967296 := IntWalk.i64_in _ (by omega)
      go_region
      clear er
      go_wp2
      refine bodyPost_ret (v := .tuple #[cnt x (n + x - l + 4294967296), .int .i64 0]) (by simp [results, Tryd.results15, go_sem, ↓IntWalk.iteOmega, h3_c, h2_c, h1_c]) rfl ⟨rfl, (by repeat (first | (with_reducible exact Kept.refl _) | (with_reducible assumption) | (with_reducible refine Kept.alloc ?_ _) | (with_reducible refine Kept.drew ?_) | (with_reducible refine Kept.drewN ?_ _) | (with_reducible refine Kept.setCell ?_ ?_ _) | (with_reducible refine Kept.trans ?_ (by with_reducible assumption)) | (simp only [World.size_alloc, World.size_setCell, World.size_drew, size_drewN]; omega) | omega | (dsimp only; omega)))⟩
    · rw [if_neg hlim]
      go_enter Tryd.func15, Tryd.ntmps15
      go_wp2_with (first | (go_at_call 34; refine (refValid_any _ _ _ _).mono ?_; rintro e w1 ⟨rfl, h1⟩; rw [hm]; have h1_c := (kcell h1).1; have h1_f := (kcell h1).2; have h1_z := h1.size; try simp only [World.size_alloc, World.size_setCell, World.size_drew, size_drewN] at h1_c h1_f h1_z) | (go_at_call 35; refine (count_in _ _ _ _ _ _ (.inr rfl)).mono ?_; rintro e w2 ⟨rfl, h2⟩; rw [hc]; have h2_c := (kcell h2).1; have h2_f := (kcell h2).2; have h2_z := h2.size; try simp only [World.size_alloc, World.size_setCell, World.size_drew, size_drewN] at h2_c h2_f h2_z) | (go_at_call 36; refine (refReading_in _ _ _ _ _ (.inr rfl)).mono ?_; rintro e w3 ⟨rfl, h3⟩; rw [hx]; have h3_c := (kcell h3).1; have h3_f := (kcell h3).2; have h3_z := h3.size; try simp only [World.size_alloc, World.size_setCell, World.size_drew, size_drewN] at h3_c h3_f h3_z))
      have er : IntKind.i64.wrap (n + x - l + 4294967296) = n + x - l + 4294967296 := IntWalk.i64_in _ (by omega)
      go_region
      clear er
      go_wp2
      refine bodyPost_ret (v := .tuple #[cnt 0 0, .int .i64 4]) (by simp [results, Tryd.results15, go_sem, ↓IntWalk.iteOmega, h3_c, h2_c, h1_c]) rfl ⟨rfl, (by repeat (first | (with_reducible exact Kept.refl _) | (with_reducible assumption) | (with_reducible refine Kept.alloc ?_ _) | (with_reducible refine Kept.drew ?_) | (with_reducible refine Kept.drewN ?_ _) | (with_reducible refine Kept.setCell ?_ ?_ _) | (with_reducible refine Kept.trans ?_ (by with_reducible assumption)) | (simp only [World.size_alloc, World.size_setCell, World.size_drew, size_drewN]; omega) | omega | (dsimp only; omega)))⟩
  · have e : n + mStep 32 l x = n + x - l := by rw [hst, if_neg hlt]; omega
    rw [e]
    clear e hst
    by_cases hlim : n + x - l ≤ 1099511627776
    · rw [if_pos hlim]
      go_enter Tryd.func15, Tryd.ntmps15
      go_wp2_with (first | (go_at_call 34; refine (refValid_any _ _ _ _).mono ?_; rintro e w1 ⟨rfl, h1⟩; rw [hm]; have h1_c := (kcell h1).1; have h1_f := (kcell h1).2; have h1_z := h1.size; try simp only [World.size_alloc, World.size_setCell, World.size_drew, size_drewN] at h1_c h1_f h1_z) | (go_at_call 35; refine (count_in _ _ _ _ _ _ (.inr rfl)).mono ?_; rintro e w2 ⟨rfl, h2⟩; rw [hc]; have h2_c := (kcell h2).1; have h2_f := (kcell h2).2; have h2_z := h2.size; try simp only [World.size_alloc, World.size_setCell, World.size_drew, size_drewN] at h2_c h2_f h2_z) | (go_at_call 36; refine (refReading_in _ _ _ _ _ (.inr rfl)).mono ?_; rintro e w3 ⟨rfl, h3⟩; rw [hx]; have h3_c := (kcell h3).1; have h3_f := (kcell h3).2; have h3_z := h3.size; try simp only [World.size_alloc, World.size_setCell, World.size_drew, size_drewN] at h3_c h3_f h3_z))
      refine bodyPost_ret (v := .tuple #[cnt x (n + x - l), .int .i64 0]) (by simp [results, Tryd.results15, go_sem, ↓IntWalk.iteOmega, h3_c, h2_c, h1_c]) rfl ⟨rfl, (by repeat (first | (with_reducible exact Kept.refl _) | (with_reducible assumption) | (with_reducible refine Kept.alloc ?_ _) | (with_reducible refine Kept.drew ?_) | (with_reducible refine Kept.drewN ?_ _) | (with_reducible refine Kept.setCell ?_ ?_ _) | (with_reducible refine Kept.trans ?_ (by with_reducible assumption)) | (simp only [World.size_alloc, World.size_setCell, World.size_drew, size_drewN]; omega) | omega | (dsimp only; omega)))⟩
    · rw [if_neg hlim]
      go_enter Tryd.func15, Tryd.ntmps15
      go_wp2_with (first | (go_at_call 34; refine (refValid_any _ _ _ _).mono ?_; rintro e w1 ⟨rfl, h1⟩; rw [hm]; have h1_c := (kcell h1).1; have h1_f := (kcell h1).2; have h1_z := h1.size; try simp only [World.size_alloc, World.size_setCell, World.size_drew, size_drewN] at h1_c h1_f h1_z) | (go_at_call 35; refine (count_in _ _ _ _ _ _ (.inr rfl)).mono ?_; rintro e w2 ⟨rfl, h2⟩; rw [hc]; have h2_c := (kcell h2).1; have h2_f := (kcell h2).2; have h2_z := h2.size; try simp only [World.size_alloc, World.size_setCell, World.size_drew, size_drewN] at h2_c h2_f h2_z) | (go_at_call 36; refine (refReading_in _ _ _ _ _ (.inr rfl)).mono ?_; rintro e w3 ⟨rfl, h3⟩; rw [hx]; have h3_c := (kcell h3).1; have h3_f := (kcell h3).2; have h3_z := h3.size; try simp only [World.size_alloc, World.size_setCell, World.size_drew, size_drewN] at h3_c h3_f h3_z))
      refine bodyPost_ret (v := .tuple #[cnt 0 0, .int .i64 4]) (by simp [results, Tryd.results15, go_sem, ↓IntWalk.iteOmega, h3_c, h2_c, h1_c]) rfl ⟨rfl, (by repeat (first | (with_reducible exact Kept.refl _) | (with_reducible assumption) | (with_reducible refine Kept.alloc ?_ _) | (with_reducible refine Kept.drew ?_) | (with_reducible refine Kept.drewN ?_ _) | (with_reducible refine Kept.setCell ?_ ?_ _) | (with_reducible refine Kept.trans ?_ (by with_reducible assumption)) | (simp only [World.size_alloc, World.size_setCell, World.size_drew, size_drewN]; omega) | omega | (dsimp only; omega)))⟩

theorem refRead_any (p b f l n x : Int) (w : World) :
    Calls Tryd.prog 15 #[mtr p b f, cnt l n, .int .i64 x] w (RetCE (mRead p b f l n x).1 (mRead p b f l n x).2.1 (mRead p b f l n x).2.2 w) := by
  unfold mRead
  by_cases h : mOk p b f ∧ cOk b l n
  · rw [if_pos h]
    by_cases hx : mReading b x
    · rw [if_pos hx]
      rcases h.1.2.2.1 with rfl | rfl
      · have := refRead_in16 p f l n x w h.1 h.2 hx
        split
        · rw [if_pos ‹_›] at this; exact this
        · rw [if_neg ‹_›] at this; exact this
      · have := refRead_in32 p f l n x w h.1 h.2 hx
        split
        · rw [if_pos ‹_›] at this; exact this
        · rw [if_neg ‹_›] at this; exact this
    · rw [if_neg hx]; exact refRead_range p b f l n x w h.1 h.2 hx
  · rw [if_neg h]; exact refRead_bad p b f l n x w h
end Go.Proofs.YtbclfphnhbmhoaaDoor
