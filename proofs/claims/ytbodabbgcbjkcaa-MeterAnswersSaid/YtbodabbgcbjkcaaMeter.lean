/- Walks of package meter and its reference: Valid, reading, valid, Read, litres, Litres, Between. -/
import Derived.Test.YtbodabbgcbjkcaaRows
import Derived.Test.YtbodabbgcbjkcaaBase
import Derived.Test.YtbodabbgcbjkcaaRound
import Derived.Test.YtbodabbgcbjkcaaSrc
namespace Go.Proofs.Ytbodabbgcbjkcaa
open Go.RowKit
set_option linter.unusedVariables false
set_option linter.unusedSimpArgs false

abbrev mtr (p b f : Int) : Value := .agg #[.int .i64 p, .int .i64 b, .int .i64 f]
abbrev cnt (l n : Int) : Value := .agg #[.int .i64 l, .int .i64 n]
def mOk (p b f : Int) : Prop := 1 ≤ p ∧ p ≤ 1048576 ∧ (b = 16 ∨ b = 32) ∧ 50000 ≤ f ∧ f ≤ 200000
instance (p b f : Int) : Decidable (mOk p b f) := by unfold mOk; infer_instance
def mValid (p b f : Int) : Bool := decide (mOk p b f)
def mSpan (b : Int) : Int := if b = 16 then 65536 else 4294967296
set_option maxHeartbeats 400000 in
theorem meterValid_any (p b f : Int) (w : World) :
    Calls Try.prog 39 #[mtr p b f] w (Ret (.bool (mValid p b f)) w) := by
  go_enter Try.func39, Try.ntmps39
  go_wp2
  all_goals
    go_ret
    exact ⟨ret_b (by first | exact (decide_eq_false (by unfold mOk; omega)).symm | exact decide_eq_decide.2 (by unfold mOk; omega)), (Kept.refl w).alloc _⟩

set_option maxHeartbeats 400000 in
theorem span_in (b : Int) (w : World) (h : b = 16 ∨ b = 32) :
    Calls Try.prog 55 #[.int .i64 b] w (Ret (.int .i64 (mSpan b)) w) := by
  rcases h with rfl | rfl
  all_goals
    go_enter Try.func55, Try.ntmps55
    go_wp2
    go_ret
    exact ⟨by rfl, Kept.refl _⟩

def mReading (b n : Int) : Prop := 0 ≤ n ∧ n < mSpan b
instance (b n : Int) : Decidable (mReading b n) := by unfold mReading; infer_instance
theorem mSpan_bd (b : Int) : 65536 ≤ mSpan b ∧ mSpan b ≤ 4294967296 := by unfold mSpan; split <;> omega

set_option maxHeartbeats 400000 in
theorem reading_in (p b f n : Int) (w : World) (h : b = 16 ∨ b = 32) :
    Calls Try.prog 54 #[mtr p b f, .int .i64 n] w (Ret (.bool (decide (mReading b n))) w) := by
  by_cases h0 : 0 ≤ n
  · go_enter Try.func54, Try.ntmps54
    go_wp2_with (go_at_call 55; refine (span_in b _ h).mono ?_; rintro e w' ⟨rfl, hk⟩)
    go_ret
    exact ⟨ret_b (decide_eq_decide.2 (by unfold mReading; omega)), ((Kept.refl w).alloc _).trans hk⟩
  · go_enter Try.func54, Try.ntmps54
    go_wp2
    go_ret
    exact ⟨ret_b (decide_eq_false (by unfold mReading; omega)).symm, (Kept.refl w).alloc _⟩

def cOk (b l n : Int) : Prop := mReading b l ∧ 0 ≤ n ∧ n ≤ 1099511627776
instance (b l n : Int) : Decidable (cOk b l n) := by unfold cOk; infer_instance

set_option maxHeartbeats 400000 in
theorem valid_in (p b f l n : Int) (w : World) (h : b = 16 ∨ b = 32) :
    Calls Try.prog 53 #[mtr p b f, cnt l n] w (Ret (.bool (decide (cOk b l n))) w) := by
  by_cases hr : mReading b l
  · have hd := decide_eq_true hr
    go_enter Try.func53, Try.ntmps53
    go_wp2_with (go_at_call 54; refine (reading_in _ _ _ _ _ h).mono ?_; rintro e w' ⟨rfl, hk⟩; rw [hd]; have hk_c := (kcell hk).1; have hk_f := (kcell hk).2; have hk_z := hk.size; try simp only [World.size_alloc, World.size_setCell, World.size_drew, size_drewN] at hk_c hk_f hk_z)
    all_goals
      go_ret
      exact ⟨ret_b (by first | exact (decide_eq_false (by unfold cOk; omega)).symm | exact decide_eq_decide.2 ⟨fun h => ⟨hr, by omega, by omega⟩, fun h => by have := h.2; omega⟩), (by repeat (first | (with_reducible exact Kept.refl _) | (with_reducible assumption) | (with_reducible refine Kept.alloc ?_ _) | (with_reducible refine Kept.drew ?_) | (with_reducible refine Kept.drewN ?_ _) | (with_reducible refine Kept.setCell ?_ ?_ _) | (with_reducible refine Kept.trans ?_ (by with_reducible assumption)) | (simp only [World.size_alloc, World.size_setCell, World.size_drew, size_drewN]; omega) | omega | (dsimp only; omega)))⟩
  · have hd := decide_eq_false hr
    go_enter Try.func53, Try.ntmps53
    go_wp2_with (go_at_call 54; refine (reading_in _ _ _ _ _ h).mono ?_; rintro e w' ⟨rfl, hk⟩; rw [hd]; have hk_c := (kcell hk).1; have hk_f := (kcell hk).2; have hk_z := hk.size; try simp only [World.size_alloc, World.size_setCell, World.size_drew, size_drewN] at hk_c hk_f hk_z)
    go_ret
    exact ⟨ret_b (decide_eq_false (fun h => hr h.1)).symm, (by repeat (first | (with_reducible exact Kept.refl _) | (with_reducible assumption) | (with_reducible refine Kept.alloc ?_ _) | (with_reducible refine Kept.drew ?_) | (with_reducible refine Kept.drewN ?_ _) | (with_reducible refine Kept.setCell ?_ ?_ _) | (with_reducible refine Kept.trans ?_ (by with_reducible assumption)) | (simp only [World.size_alloc, World.size_setCell, World.size_drew, size_drewN]; omega) | omega | (dsimp only; omega)))⟩

/-- A count and an error number. -/
def RetCE (l n e' : Int) (w : World) (e : Ending) (w' : World) : Prop := Ret (.tuple #[cnt l n, .int .i64 e']) w e w'

set_option maxHeartbeats 400000 in
theorem Read_bad (p b f l n x : Int) (w : World) (h : ¬ (mOk p b f ∧ cOk b l n)) :
    Calls Try.prog 27 #[mtr p b f, cnt l n, .int .i64 x] w (RetCE 0 0 9 w) := by
  by_cases hv : mOk p b f
  · have hb := hv.2.2.1
    have hc : decide (cOk b l n) = false := decide_eq_false (fun hc => h ⟨hv, hc⟩)
    have hm : mValid p b f = true := decide_eq_true hv
    clear h hv
    go_enter Try.func27, Try.ntmps27
    go_wp2_with (first | (go_at_call 39; refine (meterValid_any _ _ _ _).mono ?_; rintro e w1 ⟨rfl, h1⟩; rw [hm]; have h1_c := (kcell h1).1; have h1_f := (kcell h1).2; have h1_z := h1.size; try simp only [World.size_alloc, World.size_setCell, World.size_drew, size_drewN] at h1_c h1_f h1_z) | (go_at_call 53; refine (valid_in _ _ _ _ _ _ hb).mono ?_; rintro e w2 ⟨rfl, h2⟩; rw [hc]; have h2_c := (kcell h2).1; have h2_f := (kcell h2).2; have h2_z := h2.size; try simp only [World.size_alloc, World.size_setCell, World.size_drew, size_drewN] at h2_c h2_f h2_z))
    refine bodyPost_ret (v := .tuple #[cnt 0 0, .int .i64 9]) (by simp [results, Try.results27, go_sem, ↓IntWalk.iteOmega, h2_c, h1_c]) rfl ⟨rfl, (by repeat (first | (with_reducible exact Kept.refl _) | (with_reducible assumption) | (with_reducible refine Kept.alloc ?_ _) | (with_reducible refine Kept.drew ?_) | (with_reducible refine Kept.drewN ?_ _) | (with_reducible refine Kept.setCell ?_ ?_ _) | (with_reducible refine Kept.trans ?_ (by with_reducible assumption)) | (simp only [World.size_alloc, World.size_setCell, World.size_drew, size_drewN]; omega) | omega | (dsimp only; omega)))⟩
  · have hm : mValid p b f = false := decide_eq_false hv
    clear h hv
    go_enter Try.func27, Try.ntmps27
    go_wp2_with (go_at_call 39; refine (meterValid_any _ _ _ _).mono ?_; rintro e w1 ⟨rfl, h1⟩; rw [hm]; have h1_c := (kcell h1).1; have h1_f := (kcell h1).2; have h1_z := h1.size; try simp only [World.size_alloc, World.size_setCell, World.size_drew, size_drewN] at h1_c h1_f h1_z)
    refine bodyPost_ret (v := .tuple #[cnt 0 0, .int .i64 9]) (by simp [results, Try.results27, go_sem, ↓IntWalk.iteOmega, h1_c]) rfl ⟨rfl, (by repeat (first | (with_reducible exact Kept.refl _) | (with_reducible assumption) | (with_reducible refine Kept.alloc ?_ _) | (with_reducible refine Kept.drew ?_) | (with_reducible refine Kept.drewN ?_ _) | (with_reducible refine Kept.setCell ?_ ?_ _) | (with_reducible refine Kept.trans ?_ (by with_reducible assumption)) | (simp only [World.size_alloc, World.size_setCell, World.size_drew, size_drewN]; omega) | omega | (dsimp only; omega)))⟩

/-- The pulses between two readings. -/
def mStep (b l x : Int) : Int := (x - l + mSpan b) % mSpan b
theorem mStep_bd (b l x : Int) : 0 ≤ mStep b l x ∧ mStep b l x < mSpan b := by
  have := mSpan_bd b
  exact ⟨Int.emod_nonneg _ (by omega), Int.emod_lt_of_pos _ (by omega)⟩

set_option maxHeartbeats 400000 in
theorem Read_range (p b f l n x : Int) (w : World) (h : mOk p b f) (hc : cOk b l n) (hx : ¬ mReading b x) :
    Calls Try.prog 27 #[mtr p b f, cnt l n, .int .i64 x] w (RetCE 0 0 1 w) := by
  have hb := h.2.2.1
  have hm : mValid p b f = true := decide_eq_true h
  have hc : decide (cOk b l n) = true := decide_eq_true hc
  have hx : decide (mReading b x) = false := decide_eq_false hx
  clear h
  go_enter Try.func27, Try.ntmps27
  go_wp2_with (first | (go_at_call 39; refine (meterValid_any _ _ _ _).mono ?_; rintro e w1 ⟨rfl, h1⟩; rw [hm]; have h1_c := (kcell h1).1; have h1_f := (kcell h1).2; have h1_z := h1.size; try simp only [World.size_alloc, World.size_setCell, World.size_drew, size_drewN] at h1_c h1_f h1_z) | (go_at_call 53; refine (valid_in _ _ _ _ _ _ hb).mono ?_; rintro e w2 ⟨rfl, h2⟩; rw [hc]; have h2_c := (kcell h2).1; have h2_f := (kcell h2).2; have h2_z := h2.size; try simp only [World.size_alloc, World.size_setCell, World.size_drew, size_drewN] at h2_c h2_f h2_z) | (go_at_call 54; refine (reading_in _ _ _ _ _ hb).mono ?_; rintro e w3 ⟨rfl, h3⟩; rw [hx]; have h3_c := (kcell h3).1; have h3_f := (kcell h3).2; have h3_z := h3.size; try simp only [World.size_alloc, World.size_setCell, World.size_drew, size_drewN] at h3_c h3_f h3_z))
  refine bodyPost_ret (v := .tuple #[cnt 0 0, .int .i64 1]) (by simp [results, Try.results27, go_sem, ↓IntWalk.iteOmega, h3_c, h2_c, h1_c]) rfl ⟨rfl, (by repeat (first | (with_reducible exact Kept.refl _) | (with_reducible assumption) | (with_reducible refine Kept.alloc ?_ _) | (with_reducible refine Kept.drew ?_) | (with_reducible refine Kept.drewN ?_ _) | (with_reducible refine Kept.setCell ?_ ?_ _) | (with_reducible refine Kept.trans ?_ (by with_reducible assumption)) | (simp only [World.size_alloc, World.size_setCell, World.size_drew, size_drewN]; omega) | omega | (dsimp only; omega)))⟩

set_option maxHeartbeats 1000000 in
theorem Read_in (p b f l n x : Int) (w : World) (h : mOk p b f) (hc : cOk b l n) (hx : mReading b x) :
    Calls Try.prog 27 #[mtr p b f, cnt l n, .int .i64 x] w
      (if n + mStep b l x ≤ 1099511627776 then RetCE x (n + mStep b l x) 0 w else RetCE 0 0 4 w) := by
  have hb := h.2.2.1
  have hm : mValid p b f = true := decide_eq_true h
  obtain ⟨⟨l1, l2⟩, n1, n2⟩ := id hc
  obtain ⟨x1, x2⟩ := id hx
  have hc : decide (cOk b l n) = true := decide_eq_true hc
  have hx : decide (mReading b x) = true := decide_eq_true hx
  have sb := mSpan_bd b
  have tb := mStep_bd b l x
  have s0 : (mSpan b == 0) = false := by rw [beq_eq_false_iff_ne]; omega
  have HM := Lib.hid (show (x - l + mSpan b) % mSpan b = mStep b l x from rfl)
  clear h
  by_cases hlim : n + mStep b l x ≤ 1099511627776
  · rw [if_pos hlim]
    go_enter Try.func27, Try.ntmps27
    go_wp2_with (first | (go_at_call 39; refine (meterValid_any _ _ _ _).mono ?_; rintro e w1 ⟨rfl, h1⟩; rw [hm]; have h1_c := (kcell h1).1; have h1_f := (kcell h1).2; have h1_z := h1.size; try simp only [World.size_alloc, World.size_setCell, World.size_drew, size_drewN] at h1_c h1_f h1_z) | (go_at_call 53; refine (valid_in _ _ _ _ _ _ hb).mono ?_; rintro e w2 ⟨rfl, h2⟩; rw [hc]; have h2_c := (kcell h2).1; have h2_f := (kcell h2).2; have h2_z := h2.size; try simp only [World.size_alloc, World.size_setCell, World.size_drew, size_drewN] at h2_c h2_f h2_z) | (go_at_call 54; refine (reading_in _ _ _ _ _ hb).mono ?_; rintro e w3 ⟨rfl, h3⟩; rw [hx]; have h3_c := (kcell h3).1; have h3_f := (kcell h3).2; have h3_z := h3.size; try simp only [World.size_alloc, World.size_setCell, World.size_drew, size_drewN] at h3_c h3_f h3_z) | (go_at_call 55; refine (span_in _ _ hb).mono ?_; rintro e w4 ⟨rfl, h4⟩; have h4_c := (kcell h4).1; have h4_f := (kcell h4).2; have h4_z := h4.size; try simp only [World.size_alloc, World.size_setCell, World.size_drew, size_drewN] at h4_c h4_f h4_z))
    have e1 : IntKind.i64.wrap (x - l) = x - l := IntWalk.i64_in _ (by omega)
    have e2 : IntKind.i64.wrap (x - l + mSpan b) = x - l + mSpan b := IntWalk.i64_in _ (by omega)
    have e3 : (x - l + mSpan b).tmod (mSpan b) = mStep b l x := Int.tmod_eq_emod_of_nonneg (by omega)
    have e4 : IntKind.i64.wrap (n + mStep b l x) = n + mStep b l x := IntWalk.i64_in _ (by omega)
    have e5 : IntKind.i64.wrap (mStep b l x) = mStep b l x := IntWalk.i64_in _ (by omega)
    go_region
    clear e1 e2 e3 e4 e5
    go_wp2
    refine bodyPost_ret (v := .tuple #[cnt x (n + mStep b l x), .int .i64 0]) (by simp [results, Try.results27, go_sem, ↓IntWalk.iteOmega, h4_c, h3_c, h2_c, h1_c]) rfl ⟨rfl, (by repeat (first | (with_reducible exact Kept.refl _) | (with_reducible assumption) | (with_reducible refine Kept.alloc ?_ _) | (with_reducible refine Kept.drew ?_) | (with_reducible refine Kept.drewN ?_ _) | (with_reducible refine Kept.setCell ?_ ?_ _) | (with_reducible refine Kept.trans ?_ (by with_reducible assumption)) | (simp only [World.size_alloc, World.size_setCell, World.size_drew, size_drewN]; omega) | omega | (dsimp only; omega)))⟩
  · rw [if_neg hlim]
    go_enter Try.func27, Try.ntmps27
    go_wp2_with (first | (go_at_call 39; refine (meterValid_any _ _ _ _).mono ?_; rintro e w1 ⟨rfl, h1⟩; rw [hm]; have h1_c := (kcell h1).1; have h1_f := (kcell h1).2; have h1_z := h1.size; try simp only [World.size_alloc, World.size_setCell, World.size_drew, size_drewN] at h1_c h1_f h1_z) | (go_at_call 53; refine (valid_in _ _ _ _ _ _ hb).mono ?_; rintro e w2 ⟨rfl, h2⟩; rw [hc]; have h2_c := (kcell h2).1; have h2_f := (kcell h2).2; have h2_z := h2.size; try simp only [World.size_alloc, World.size_setCell, World.size_drew, size_drewN] at h2_c h2_f h2_z) | (go_at_call 54; refine (reading_in _ _ _ _ _ hb).mono ?_; rintro e w3 ⟨rfl, h3⟩; rw [hx]; have h3_c := (kcell h3).1; have h3_f := (kcell h3).2; have h3_z := h3.size; try simp only [World.size_alloc, World.size_setCell, World.size_drew, size_drewN] at h3_c h3_f h3_z) | (go_at_call 55; refine (span_in _ _ hb).mono ?_; rintro e w4 ⟨rfl, h4⟩; have h4_c := (kcell h4).1; have h4_f := (kcell h4).2; have h4_z := h4.size; try simp only [World.size_alloc, World.size_setCell, World.size_drew, size_drewN] at h4_c h4_f h4_z))
    have e1 : IntKind.i64.wrap (x - l) = x - l := IntWalk.i64_in _ (by omega)
    have e2 : IntKind.i64.wrap (x - l + mSpan b) = x - l + mSpan b := IntWalk.i64_in _ (by omega)
    have e3 : (x - l + mSpan b).tmod (mSpan b) = mStep b l x := Int.tmod_eq_emod_of_nonneg (by omega)
    have e4 : IntKind.i64.wrap (n + mStep b l x) = n + mStep b l x := IntWalk.i64_in _ (by omega)
    have e5 : IntKind.i64.wrap (mStep b l x) = mStep b l x := IntWalk.i64_in _ (by omega)
    go_region
    clear e1 e2 e3 e4 e5
    go_wp2
    refine bodyPost_ret (v := .tuple #[cnt 0 0, .int .i64 4]) (by simp [results, Try.results27, go_sem, ↓IntWalk.iteOmega, h4_c, h3_c, h2_c, h1_c]) rfl ⟨rfl, (by repeat (first | (with_reducible exact Kept.refl _) | (with_reducible assumption) | (with_reducible refine Kept.alloc ?_ _) | (with_reducible refine Kept.drew ?_) | (with_reducible refine Kept.drewN ?_ _) | (with_reducible refine Kept.setCell ?_ ?_ _) | (with_reducible refine Kept.trans ?_ (by with_reducible assumption)) | (simp only [World.size_alloc, World.size_setCell, World.size_drew, size_drewN]; omega) | omega | (dsimp only; omega)))⟩
end Go.Proofs.Ytbodabbgcbjkcaa
