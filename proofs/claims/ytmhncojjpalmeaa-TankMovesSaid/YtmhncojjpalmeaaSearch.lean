/- The walk of sort.Search, once for each function that is handed to it. -/
import Derived.Test.YtmhncojjpalmeaaRows
import Derived.Test.YtmhncojjpalmeaaBase
namespace Go.Proofs.Ytmhncojjpalmeaa
open Go.RowKit
set_option linter.unusedVariables false
set_option linter.unusedSimpArgs false

/-- Where a search by halving ends: behind a place where the test says no, at one where it says yes. -/
def Found (n : Nat) (p : Nat → Bool) (w : World) (e : Ending) (w' : World) : Prop :=
  ∃ r : Nat, r ≤ n ∧ (r = 0 ∨ p (r - 1) = false) ∧ (r = n ∨ p r = true) ∧ e = .returned (.int .i64 r) ∧ Kept w w'

set_option maxHeartbeats 1000000 in
theorem Search_vol (c0 c1 : Value) (n : Nat) (p : Nat → Bool) (w : World) (hn : n ≤ 1073741824)
    (hf : ∀ (i : Nat) (W : World), i < n → Kept w W → Calls Try.prog 33 #[.int .i64 i, c0, c1] W (Ret (.bool (p i)) W)) :
    Calls Try.prog 31 #[.int .i64 n, .func (.func 33) #[] #[c0, c1]] w (Found n p w) := by
  have HF := Lib.hid hf
  clear hf
  go_enter Try.func31, Try.ntmps31
  go_wp2
  go_loopw [5, 6] (fun i j wr => ∃ a b : Nat, a ≤ b ∧ b ≤ n ∧ i = .int .i64 a ∧ j = .int .i64 b ∧ Hid (a = 0 ∨ p (a - 1) = false) ∧ Hid (b = n ∨ p b = true) ∧ Kept w wr) (fun i j _ => (intOf j).toNat - (intOf i).toNat)
  case atStart => exact ⟨0, n, Nat.zero_le _, Nat.le_refl _, rfl, rfl, .inl rfl, .inl rfl, Kept.refl _⟩
  case round =>
    obtain ⟨a, b, hab, hbn, rfl, rfl, ha, hb, hk⟩ := hrel
    by_cases hlt : a < b
    · obtain ⟨h, hh⟩ : ∃ h : Nat, h = (a + b) / 2 := ⟨_, rfl⟩
      have h1 : a ≤ h := by omega
      have h2 : h < b := by omega
      have hv : (((a : Int) + (b : Int)) / 2) = (h : Int) := by omega
      have HV := Lib.hid hv
      clear hv hh
      cases hp : p h with
      | true =>
        have HP := Lib.hid hp
        clear hp
        go_wp2_with fail
        rw [HV.out]
        refine (HF.out h _ (by omega) hk).mono ?_
        rintro e w1 ⟨rfl, k1⟩
        rw [HP.out]
        go_wp2
        go_roundw
        case rel => exact ⟨a, h, by omega, by omega, rfl, rfl, ha, .inr HP.out, hk.trans k1⟩
        case measure => simp [intOf]; omega
      | false =>
        have HP := Lib.hid hp
        clear hp
        go_wp2_with fail
        rw [HV.out]
        refine (HF.out h _ (by omega) hk).mono ?_
        rintro e w1 ⟨rfl, k1⟩
        rw [HP.out]
        go_wp2
        go_roundw
        case rel => exact ⟨h + 1, b, by omega, by omega, by go_num, rfl, .inr (by rw [Nat.add_sub_cancel]; exact HP.out), hb, hk.trans k1⟩
        case measure => simp [intOf]; omega
    · obtain rfl : a = b := by omega
      go_wp2
      go_ret
      exact ⟨a, hbn, ha.out, hb.out, rfl, hk⟩

set_option maxHeartbeats 1000000 in
theorem Search_lev (c0 c1 c2 : Value) (n : Nat) (p : Nat → Bool) (w : World) (hn : n ≤ 1073741824)
    (hf : ∀ (i : Nat) (W : World), i < n → Kept w W → Calls Try.prog 32 #[.int .i64 i, c0, c1, c2] W (Ret (.bool (p i)) W)) :
    Calls Try.prog 31 #[.int .i64 n, .func (.func 32) #[] #[c0, c1, c2]] w (Found n p w) := by
  have HF := Lib.hid hf
  clear hf
  go_enter Try.func31, Try.ntmps31
  go_wp2
  go_loopw [5, 6] (fun i j wr => ∃ a b : Nat, a ≤ b ∧ b ≤ n ∧ i = .int .i64 a ∧ j = .int .i64 b ∧ Hid (a = 0 ∨ p (a - 1) = false) ∧ Hid (b = n ∨ p b = true) ∧ Kept w wr) (fun i j _ => (intOf j).toNat - (intOf i).toNat)
  case atStart => exact ⟨0, n, Nat.zero_le _, Nat.le_refl _, rfl, rfl, .inl rfl, .inl rfl, Kept.refl _⟩
  case round =>
    obtain ⟨a, b, hab, hbn, rfl, rfl, ha, hb, hk⟩ := hrel
    by_cases hlt : a < b
    · obtain ⟨h, hh⟩ : ∃ h : Nat, h = (a + b) / 2 := ⟨_, rfl⟩
      have h1 : a ≤ h := by omega
      have h2 : h < b := by omega
      have hv : (((a : Int) + (b : Int)) / 2) = (h : Int) := by omega
      have HV := Lib.hid hv
      clear hv hh
      cases hp : p h with
      | true =>
        have HP := Lib.hid hp
        clear hp
        go_wp2_with fail
        rw [HV.out]
        refine (HF.out h _ (by omega) hk).mono ?_
        rintro e w1 ⟨rfl, k1⟩
        rw [HP.out]
        go_wp2
        go_roundw
        case rel => exact ⟨a, h, by omega, by omega, rfl, rfl, ha, .inr HP.out, hk.trans k1⟩
        case measure => simp [intOf]; omega
      | false =>
        have HP := Lib.hid hp
        clear hp
        go_wp2_with fail
        rw [HV.out]
        refine (HF.out h _ (by omega) hk).mono ?_
        rintro e w1 ⟨rfl, k1⟩
        rw [HP.out]
        go_wp2
        go_roundw
        case rel => exact ⟨h + 1, b, by omega, by omega, by go_num, rfl, .inr (by rw [Nat.add_sub_cancel]; exact HP.out), hb, hk.trans k1⟩
        case measure => simp [intOf]; omega
    · obtain rfl : a = b := by omega
      go_wp2
      go_ret
      exact ⟨a, hbn, ha.out, hb.out, rfl, hk⟩
end Go.Proofs.Ytmhncojjpalmeaa
