
/- The walk of the reference's Name (batchlineref03): whether a text is a name. -/
import Derived.Test.YtbclfphnhbmhoaaDoorName
namespace Go.Proofs.YtbclfphnhbmhoaaDoor
open Go.RowKit
set_option linter.unusedVariables false
set_option linter.unusedSimpArgs false

theorem plc_one {c : Int} : plc c = 1 ↔ 97 ≤ c ∧ c ≤ 122 := by unfold plc; repeat' split
                                                               all_goals simp; omega
theorem plc_zero {c : Int} : plc c = 0 ↔ ¬ (97 ≤ c ∧ c ≤ 122) ∧ ¬ (48 ≤ c ∧ c ≤ 57) ∧ c ≠ 45 := by
  unfold plc; repeat' split
  all_goals simp; omega
theorem nameOk_false_first {s : ByteArray} (h : 0 < s.size) (hb : plc (s[0].toNat) ≠ 1) : nameOk s = false := decide_eq_false (fun h' => hb (h'.2.2.1 h))
theorem nameOk_false_at {s : ByteArray} {k : Nat} (h : k < s.size) (hb : plc (s[k].toNat) = 0) : nameOk s = false := decide_eq_false (fun h' => h'.2.2.2 k h hb)

set_option maxHeartbeats 2000000 in
theorem refName_any (s : ByteArray) (w : World) (hs : s.size ≤ 140737488351232) :
    Calls Tryd.prog 58 #[.string s] w fun e w' => e = .returned (.bool (nameOk s)) ∧ w = w' := by
  by_cases h1 : s.size < 1
  · have H := Lib.hid (show nameOk s = false from decide_eq_false (by omega))
    go_enter Tryd.func58, Tryd.ntmps58
    go_wp2_with fail
    go_ret
    exact ⟨ret_b H.out.symm, rfl⟩
  by_cases h2 : 12 < s.size
  · have H := Lib.hid (show nameOk s = false from decide_eq_false (by omega))
    go_enter Tryd.func58, Tryd.ntmps58
    go_wp2_with fail
    go_ret
    exact ⟨ret_b H.out.symm, rfl⟩
  have hp : 0 < s.size := by omega
  have b0 := byte_bd s[0]
  by_cases h3 : (s[0].toNat : Int) < 97
  · have H := Lib.hid (nameOk_false_first hp (by rw [Ne, plc_one]; omega))
    go_enter Tryd.func58, Tryd.ntmps58
    go_wp2_with fail
    go_ret
    exact ⟨ret_b H.out.symm, rfl⟩
  by_cases h4 : 122 < (s[0].toNat : Int)
  · have H := Lib.hid (nameOk_false_first hp (by rw [Ne, plc_one]; omega))
    go_enter Tryd.func58, Tryd.ntmps58
    go_wp2_with fail
    go_ret
    exact ⟨ret_b H.out.symm, rfl⟩
  have H3 := Lib.hid (show plc (s[0].toNat) = 1 by rw [plc_one]; omega)
  go_enter Tryd.func58, Tryd.ntmps58
  go_wp2_with fail
  go_loop [3] (fun i => ∃ k : Nat, k ≤ s.size ∧ i = .int .i64 k ∧ Hid (∀ (j : Nat) (h : j < s.size), j < k → plc (s[j].toNat) ≠ 0)) (fun i => s.size - (intOf i).toNat)
  case atStart => exact ⟨0, Nat.zero_le _, rfl, fun j _ h => absurd h (by omega)⟩
  case round =>
    clear b0 h3 h4
    obtain ⟨k, hk, rfl, hall⟩ := hrel
    by_cases hlt : k < s.size
    · have bk := byte_bd s[k]
      by_cases hz : plc (s[k].toNat) = 0
      · have H := Lib.hid (nameOk_false_at hlt hz)
        rw [plc_zero] at hz
        obtain ⟨z1, z2, z3⟩ := hz
        have z4 : ((s[k].toNat : Int) != 45) = true := by rw [bne_iff_ne]; exact z3
        clear z3
        by_cases c1 : (s[k].toNat : Int) < 97
        · by_cases c2 : (s[k].toNat : Int) < 48
          · go_wp2_with fail
            go_ret
            exact ⟨ret_b H.out.symm, rfl⟩
          · have c3 : 57 < (s[k].toNat : Int) := by omega
            go_wp2_with fail
            go_ret
            exact ⟨ret_b H.out.symm, rfl⟩
        · have c3 : 122 < (s[k].toNat : Int) := by omega
          go_wp2_with fail
          go_ret
          exact ⟨ret_b H.out.symm, rfl⟩
      · have HA : Hid (∀ (j : Nat) (h : j < s.size), j < k + 1 → plc (s[j].toNat) ≠ 0) := fun j hj hlt2 => by
          rcases Nat.lt_or_eq_of_le (Nat.lt_succ_iff.1 hlt2) with h | rfl
          · exact hall.out j hj h
          · exact hz
        rw [plc_zero] at hz
        by_cases c1 : (s[k].toNat : Int) < 97
        · by_cases c2 : (s[k].toNat : Int) < 48
          · have z4 : ((s[k].toNat : Int) != 45) = false := by rw [bne_eq_false_iff_eq]; omega
            clear hz
            go_wp2_with fail
            go_round
            case rel => exact ⟨k + 1, by omega, by go_num, HA⟩
            case measure => simp [intOf]; omega
          · by_cases c3 : 57 < (s[k].toNat : Int)
            · exfalso; omega
            · clear hz
              go_wp2_with fail
              go_round
              case rel => exact ⟨k + 1, by omega, by go_num, HA⟩
              case measure => simp [intOf]; omega
        · by_cases c3 : 122 < (s[k].toNat : Int)
          · exfalso; omega
          · clear hz
            go_wp2_with fail
            go_round
            case rel => exact ⟨k + 1, by omega, by go_num, HA⟩
            case measure => simp [intOf]; omega
    · have H := Lib.hid (show nameOk s = true from decide_eq_true ⟨by omega, by omega, fun _ => H3.out, fun i hi => hall.out i hi (by omega)⟩)
      go_wp2_with fail
      go_ret
      exact ⟨ret_b H.out.symm, rfl⟩
end Go.Proofs.YtbclfphnhbmhoaaDoor
