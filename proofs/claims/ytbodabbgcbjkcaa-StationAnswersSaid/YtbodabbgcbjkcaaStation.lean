/- Walks of package station: Valid, boost, Boost, Raise; and the statements' example. -/
import Derived.Test.YtbodabbgcbjkcaaName
import Derived.Test.YtbodabbgcbjkcaaRound
import Derived.Test.YtbodabbgcbjkcaaSrc
namespace Go.Proofs.Ytbodabbgcbjkcaa
open Go.RowKit
set_option linter.unusedVariables false
set_option linter.unusedSimpArgs false

abbrev stn (s : ByteArray) (nd hd fl su : Int) : Value := .agg #[.string s, .int .i64 nd, .int .i64 hd, .int .i64 fl, .int .i64 su]
def sOk (s : ByteArray) (nd hd fl su : Int) : Prop := nameOk s = true ∧ (0 ≤ nd ∧ nd ≤ 23) ∧ (0 ≤ hd ∧ hd ≤ 100000000) ∧ (0 ≤ fl ∧ fl ≤ 100000) ∧ (0 ≤ su ∧ su ≤ 100000000)
instance (s : ByteArray) (nd hd fl su : Int) : Decidable (sOk s nd hd fl su) := by unfold sOk; infer_instance

/-- Whether a number is from 0 to m. -/
def inB (n m : Int) : Bool := decide (0 ≤ n ∧ n ≤ m)
theorem inB_t {n m : Int} (h : 0 ≤ n ∧ n ≤ m) : inB n m = true := decide_eq_true h
theorem inB_f {n m : Int} (h : ¬ (0 ≤ n ∧ n ≤ m)) : inB n m = false := decide_eq_false h

set_option maxHeartbeats 400000 in
theorem stnIn_any (n m : Int) (w : World) : Calls Try.prog 60 #[.int .i64 n, .int .i64 m] w fun e w' => e = .returned (.bool (inB n m)) ∧ w = w' := by
  by_cases h0 : 0 ≤ n
  · have H := Lib.hid (show decide (n ≤ m) = inB n m from decide_eq_decide.2 (by omega))
    go_enter Try.func60, Try.ntmps60
    go_wp2
    go_ret
    exact ⟨ret_b H.out, rfl⟩
  · have H := Lib.hid (inB_f (m := m) (show ¬ (0 ≤ n ∧ n ≤ m) by omega))
    go_enter Try.func60, Try.ntmps60
    go_wp2
    go_ret
    exact ⟨ret_b H.out.symm, rfl⟩

def sValid (s : ByteArray) (nd hd fl su : Int) : Bool := nameOk s && inB nd 23 && inB hd 100000000 && inB fl 100000 && inB su 100000000
theorem sValid_iff (s : ByteArray) (nd hd fl su : Int) : sValid s nd hd fl su = true ↔ sOk s nd hd fl su := by
  unfold sValid sOk inB
  simp only [Bool.and_eq_true, decide_eq_true_eq]
  exact ⟨fun ⟨⟨⟨⟨a, b⟩, c⟩, d⟩, e⟩ => ⟨a, b, c, d, e⟩, fun ⟨a, b, c, d, e⟩ => ⟨⟨⟨⟨a, b⟩, c⟩, d⟩, e⟩⟩

set_option maxHeartbeats 1000000 in
theorem stnValid_any (s : ByteArray) (nd hd fl su : Int) (w : World) (hs : s.size ≤ 140737488351232) :
    Calls Try.prog 33 #[stn s nd hd fl su] w (Ret (.bool (sValid s nd hd fl su)) w) := by
  have H := Lib.hid (show sValid s nd hd fl su = (nameOk s && inB nd 23 && inB hd 100000000 && inB fl 100000 && inB su 100000000) from rfl)
  go_enter Try.func33, Try.ntmps33
  go_wp2_with (first | (go_at_call 61; refine (Name_any _ _ hs).mono ?_; rintro e w' ⟨rfl, rfl⟩) | (go_at_call 60; refine (stnIn_any _ _ _).mono ?_; rintro e w' ⟨rfl, rfl⟩))
  all_goals
    go_ret
    refine ⟨ret_b ?_, (by repeat (first | (with_reducible exact Kept.refl _) | (with_reducible assumption) | (with_reducible refine Kept.alloc ?_ _) | (with_reducible refine Kept.drew ?_) | (with_reducible refine Kept.drewN ?_ _) | (with_reducible refine Kept.setCell ?_ ?_ _) | (with_reducible refine Kept.trans ?_ (by with_reducible assumption)) | (simp only [World.size_alloc, World.size_setCell, World.size_drew, size_drewN]; omega) | omega | (dsimp only; omega)))⟩
    rw [H.out]
    first | rfl | (simp [*]; done)

theorem mul3_bd {f r : Int} (f0 : 0 ≤ f) (f1 : f ≤ 100000) (r0 : 0 ≤ r) (r1 : r ≤ 32000) : 0 ≤ f * r ∧ f * r ≤ 3200000000 ∧ 0 ≤ f * r * r ∧ f * r * r ≤ 102400000000000 := by
  have h1 := Int.mul_nonneg f0 r0
  have h2 : f * r ≤ 100000 * 32000 := Int.le_trans (Int.mul_le_mul_of_nonneg_right f1 r0) (Int.mul_le_mul_of_nonneg_left r1 (by omega))
  have h3 := Int.mul_nonneg h1 r0
  have h4 : f * r * r ≤ 3200000000 * 32000 := Int.le_trans (Int.mul_le_mul_of_nonneg_right (show f * r ≤ 3200000000 by omega) r0) (Int.mul_le_mul_of_nonneg_left r1 (by omega))
  omega

/-- The boost of a station. -/
def bst (hd fl r : Int) : Int := max 0 (hd - fl * r * r / 1000)

set_option maxHeartbeats 1000000 in
theorem boost_in (s : ByteArray) (nd hd fl su r : Int) (w : World) (h : sOk s nd hd fl su) (r0 : 0 ≤ r) (r1 : r ≤ 32000) :
    Calls Try.prog 58 #[.agg #[.string s, .int .i64 nd, .int .i64 hd, .int .i64 fl, .int .i64 su], .int .i64 r] w (Ret (.int .i64 (bst hd fl r)) w) := by
  obtain ⟨_, _, ⟨hd0, hd1⟩, ⟨fl0, fl1⟩, _⟩ := h
  have mb := mul3_bd fl0 fl1 r0 r1
  have HD := Lib.hid (show rDown (fl * r * r) 1000 = fl * r * r / 1000 from rDown_in (by omega) (by omega) (by omega) (by omega))
  have q0 : 0 ≤ fl * r * r / 1000 := by omega
  have q1 : fl * r * r / 1000 ≤ 102400000000 := by omega
  go_enter Try.func58, Try.ntmps58
  go_wp2_with fail
  have e1 : IntKind.i64.wrap (fl * r) = fl * r := IntWalk.i64_in _ (by omega)
  have e2 : IntKind.i64.wrap (fl * r * r) = fl * r * r := IntWalk.i64_in _ (by omega)
  have e3 : IntKind.i64.wrap (hd - fl * r * r / 1000) = hd - fl * r * r / 1000 := IntWalk.i64_in _ (by omega)
  refine wp_region_kw (by kernel_rfl) (by kernel_rfl) ?_
  repeat (go_big_quiet_step ((go_at_call 68; exact kw_call (Down_ret _ _ _ (by omega) (by omega) (by omega) (by omega)))))
  refine wpQuiet_nil ?_
  intro _ hw'
  obtain ⟨kq, hw''⟩ := hw'
  subst hw''
  obtain ⟨wq, hwq⟩ := kq
  dsimp only
  go_wp2
  all_goals
    go_ret
    exact ⟨ret_i (by unfold bst; first | rfl | omega), (by repeat (first | (with_reducible exact Kept.refl _) | (with_reducible assumption) | (with_reducible refine Kept.alloc ?_ _) | (with_reducible refine Kept.drew ?_) | (with_reducible refine Kept.drewN ?_ _) | (with_reducible refine Kept.setCell ?_ ?_ _) | (with_reducible refine Kept.trans ?_ (by with_reducible assumption)) | (simp only [World.size_alloc, World.size_setCell, World.size_drew, size_drewN]; omega) | omega | (dsimp only; omega)))⟩

set_option maxHeartbeats 400000 in
theorem Boost_in (s : ByteArray) (nd hd fl su r : Int) (w : World) (hs : s.size ≤ 140737488351232) (h : sOk s nd hd fl su) (r0 : 0 ≤ r) (r1 : r ≤ 32000) :
    Calls Try.prog 31 #[stn s nd hd fl su, .int .i64 r] w (RetIE (bst hd fl r) 0 w) := by
  have hv := (sValid_iff s nd hd fl su).2 h
  have h := Lib.hid h
  go_enter Try.func31, Try.ntmps31
  go_wp2_with fail
  refine (stnValid_any _ _ _ _ _ _ hs).mono ?_
  rintro e w1 ⟨rfl, k1⟩
  rw [hv]
  have k1_c := (kcell k1).1; have k1_f := (kcell k1).2; have k1_z := k1.size; try simp only [World.size_alloc, World.size_setCell, World.size_drew, size_drewN] at k1_c k1_f k1_z
  go_wp2_with fail
  refine (boost_in _ _ _ _ _ _ _ h.out r0 r1).mono ?_
  rintro e w2 ⟨rfl, k2⟩
  go_wp2
  go_ret2
  exact ⟨rfl, (by repeat (first | (with_reducible exact Kept.refl _) | (with_reducible assumption) | (with_reducible refine Kept.alloc ?_ _) | (with_reducible refine Kept.drew ?_) | (with_reducible refine Kept.drewN ?_ _) | (with_reducible refine Kept.setCell ?_ ?_ _) | (with_reducible refine Kept.trans ?_ (by with_reducible assumption)) | (simp only [World.size_alloc, World.size_setCell, World.size_drew, size_drewN]; omega) | omega | (dsimp only; omega)))⟩

set_option maxHeartbeats 400000 in
theorem Boost_out (s : ByteArray) (nd hd fl su r : Int) (w : World) (hs : s.size ≤ 140737488351232) (h : sOk s nd hd fl su) (hr : ¬ (0 ≤ r ∧ r ≤ 32000)) :
    Calls Try.prog 31 #[stn s nd hd fl su, .int .i64 r] w (RetIE 0 1 w) := by
  have hv := (sValid_iff s nd hd fl su).2 h
  clear h
  by_cases r0 : r < 0
  all_goals
    try (have r1 : 32000 < r := by omega)
    clear hr
    go_enter Try.func31, Try.ntmps31
    go_wp2_with fail
    refine (stnValid_any _ _ _ _ _ _ hs).mono ?_
    rintro e w1 ⟨rfl, k1⟩
    rw [hv]
    have k1_c := (kcell k1).1; have k1_f := (kcell k1).2; have k1_z := k1.size; try simp only [World.size_alloc, World.size_setCell, World.size_drew, size_drewN] at k1_c k1_f k1_z
    go_wp2
    go_ret2
    exact ⟨rfl, (by repeat (first | (with_reducible exact Kept.refl _) | (with_reducible assumption) | (with_reducible refine Kept.alloc ?_ _) | (with_reducible refine Kept.drew ?_) | (with_reducible refine Kept.drewN ?_ _) | (with_reducible refine Kept.setCell ?_ ?_ _) | (with_reducible refine Kept.trans ?_ (by with_reducible assumption)) | (simp only [World.size_alloc, World.size_setCell, World.size_drew, size_drewN]; omega) | omega | (dsimp only; omega)))⟩

set_option maxHeartbeats 400000 in
theorem Boost_bad (s : ByteArray) (nd hd fl su r : Int) (w : World) (hs : s.size ≤ 140737488351232) (h : ¬ sOk s nd hd fl su) :
    Calls Try.prog 31 #[stn s nd hd fl su, .int .i64 r] w (RetIE 0 9 w) := by
  have hv : sValid s nd hd fl su = false := by rw [← Bool.not_eq_true, sValid_iff]; exact h
  clear h
  go_enter Try.func31, Try.ntmps31
  go_wp2_with fail
  refine (stnValid_any _ _ _ _ _ _ hs).mono ?_
  rintro e w1 ⟨rfl, k1⟩
  rw [hv]
  have k1_c := (kcell k1).1; have k1_f := (kcell k1).2; have k1_z := k1.size; try simp only [World.size_alloc, World.size_setCell, World.size_drew, size_drewN] at k1_c k1_f k1_z
  go_wp2
  go_ret2
  exact ⟨rfl, (by repeat (first | (with_reducible exact Kept.refl _) | (with_reducible assumption) | (with_reducible refine Kept.alloc ?_ _) | (with_reducible refine Kept.drew ?_) | (with_reducible refine Kept.drewN ?_ _) | (with_reducible refine Kept.setCell ?_ ?_ _) | (with_reducible refine Kept.trans ?_ (by with_reducible assumption)) | (simp only [World.size_alloc, World.size_setCell, World.size_drew, size_drewN]; omega) | omega | (dsimp only; omega)))⟩

set_option maxHeartbeats 400000 in
theorem example_any (w : World) : Calls Try.prog 59 #[] w (Ret (stn ⟨#[115]⟩ 0 500000 200 0) w) := by
  go_enter Try.func59, Try.ntmps59
  go_wp2
  exact bodyPost_ret (v := stn ⟨#[115]⟩ 0 500000 200 0) (by simp [results, Try.results59, go_sem, ↓IntWalk.iteOmega]) rfl ⟨rfl, (by repeat (first | (with_reducible exact Kept.refl _) | (with_reducible assumption) | (with_reducible refine Kept.alloc ?_ _) | (with_reducible refine Kept.drew ?_) | (with_reducible refine Kept.drewN ?_ _) | (with_reducible refine Kept.setCell ?_ ?_ _) | (with_reducible refine Kept.trans ?_ (by with_reducible assumption)) | (simp only [World.size_alloc, World.size_setCell, World.size_drew, size_drewN]; omega) | omega | (dsimp only; omega)))⟩

theorem name_s : nameOk ⟨#[115]⟩ = true := by decide +kernel
theorem name_sa : nameOk ⟨#[115, 97]⟩ = true := by decide +kernel

set_option maxHeartbeats 400000 in
theorem stnAwake (w : World) : Calls Try.prog 32 #[] w (Ret (.bool true) w) := by
  have ho : sOk ⟨#[115]⟩ 0 500000 200 0 := ⟨name_s, by omega, by omega, by omega, by omega⟩
  have hz : (⟨#[115]⟩ : ByteArray).size ≤ 140737488351232 := by decide
  have hv := (sValid_iff _ _ _ _ _).2 ho
  have e1 : bst 500000 200 100 = 498000 := by decide
  have e2 : bst 500000 200 2000 = 0 := by decide
  go_enter Try.func32, Try.ntmps32
  go_wp2_with fail
  refine (example_any _).mono ?_
  rintro e w1 ⟨rfl, k1⟩
  go_wp2_with fail
  refine (Boost_in _ _ _ _ _ _ _ hz ho (by omega) (by omega)).mono ?_
  rw [e1]
  rintro e w2 ⟨rfl, k2⟩
  go_wp2_with fail
  refine (example_any _).mono ?_
  rintro e w3 ⟨rfl, k3⟩
  go_wp2_with fail
  refine (Boost_in _ _ _ _ _ _ _ hz ho (by omega) (by omega)).mono ?_
  rw [e2]
  rintro e w4 ⟨rfl, k4⟩
  go_wp2_with fail
  refine (example_any _).mono ?_
  rintro e w5 ⟨rfl, k5⟩
  go_wp2_with fail
  refine (stnValid_any _ _ _ _ _ _ hz).mono ?_
  rintro e w6 ⟨rfl, k6⟩
  rw [hv]
  go_wp2
  go_ret
  exact ⟨rfl, (by repeat (first | (with_reducible exact Kept.refl _) | (with_reducible assumption) | (with_reducible refine Kept.alloc ?_ _) | (with_reducible refine Kept.drew ?_) | (with_reducible refine Kept.drewN ?_ _) | (with_reducible refine Kept.setCell ?_ ?_ _) | (with_reducible refine Kept.trans ?_ (by with_reducible assumption)) | (simp only [World.size_alloc, World.size_setCell, World.size_drew, size_drewN]; omega) | omega | (dsimp only; omega)))⟩
end Go.Proofs.Ytbodabbgcbjkcaa
