
/- Walks of lines.place, lines.Name: whether a text is a name. -/
import Derived.Test.YtbclfphnhbmhoaaDoorRows
import Derived.Test.YtbclfphnhbmhoaaDoorBase
namespace Go.Proofs.YtbclfphnhbmhoaaDoor
open Go.RowKit
set_option linter.unusedVariables false
set_option linter.unusedSimpArgs false

/-- Where in a name a byte may stand: 1 at first and later, 2 later, 0 nowhere. -/
def plc (c : Int) : Int := if 97 ≤ c ∧ c ≤ 122 then 1 else if (48 ≤ c ∧ c ≤ 57) ∨ c = 45 then 2 else 0

set_option maxHeartbeats 400000 in
theorem place_any (c : Int) (w : World) (h0 : 0 ≤ c) (h1 : c ≤ 255) :
    Calls Tryd.prog 66 #[.int .u8 c] w fun e w' => e = .returned (.int .i64 (plc c)) ∧ w = w' := by
  go_enter Tryd.func66, Tryd.ntmps66
  go_wp2
  all_goals
    go_ret
    refine ⟨ret_i ?_, rfl⟩
    try simp only [beq_iff_eq, beq_eq_false_iff_ne, ne_eq] at *
    unfold plc
    repeat' split
    all_goals first | rfl | omega

/-- Whether a text is a name. -/
def nameOk (s : ByteArray) : Bool := decide (1 ≤ s.size ∧ s.size ≤ 12 ∧ (∀ h : 0 < s.size, plc (s[0].toNat) = 1) ∧ ∀ (i : Nat) (h : i < s.size), plc (s[i].toNat) ≠ 0)

theorem byte_bd (b : UInt8) : (0 : Int) ≤ b.toNat ∧ (b.toNat : Int) ≤ 255 := by
  have := b.toNat_lt
  omega

set_option maxHeartbeats 1000000 in
theorem Name_any (s : ByteArray) (w : World) (hs : s.size ≤ 140737488351232) :
    Calls Tryd.prog 62 #[.string s] w fun e w' => e = .returned (.bool (nameOk s)) ∧ w = w' := by
  by_cases h1 : s.size < 1
  · have H := Lib.hid (show nameOk s = false from decide_eq_false (by omega))
    go_enter Tryd.func62, Tryd.ntmps62
    go_wp2_with fail
    go_ret
    exact ⟨ret_b H.out.symm, rfl⟩
  by_cases h2 : 12 < s.size
  · have H := Lib.hid (show nameOk s = false from decide_eq_false (by omega))
    go_enter Tryd.func62, Tryd.ntmps62
    go_wp2_with fail
    go_ret
    exact ⟨ret_b H.out.symm, rfl⟩
  have hp : 0 < s.size := by omega
  have b0 := byte_bd s[0]
  by_cases h3 : plc (s[0].toNat) = 1
  · have h3' : (plc (s[0].toNat) == 1) = true := by rw [h3]; rfl
    have h3'' : (plc (s[0].toNat) != 1) = false := by rw [h3]; rfl
    have H3 := Lib.hid h3
    clear h3
    go_enter Tryd.func62, Tryd.ntmps62
    go_wp2_with fail
    refine (place_any _ _ b0.1 b0.2).mono ?_
    rintro e w' ⟨rfl, rfl⟩
    go_wp2_with fail
    go_loop [20] (fun i => ∃ k : Nat, k ≤ s.size ∧ i = .int .i64 k ∧ Hid (∀ (j : Nat) (h : j < s.size), j < k → plc (s[j].toNat) ≠ 0)) (fun i => s.size - (intOf i).toNat)
    case atStart => exact ⟨0, Nat.zero_le _, rfl, fun j _ h => absurd h (by omega)⟩
    case round =>
      obtain ⟨k, hk, rfl, hall⟩ := hrel
      by_cases hlt : k < s.size
      · have bk := byte_bd s[k]
        by_cases h4 : plc (s[k].toNat) = 0
        · have H := Lib.hid (show nameOk s = false from decide_eq_false (fun h => h.2.2.2 k hlt h4))
          have h4' : (plc (s[k].toNat) == 0) = true := by rw [h4]; rfl
          clear h4
          go_wp2_with fail
          refine (place_any _ _ bk.1 bk.2).mono ?_
          rintro e w' ⟨rfl, rfl⟩
          go_wp2_with fail
          go_ret
          exact ⟨ret_b H.out.symm, rfl⟩
        · have h4' : (plc (s[k].toNat) == 0) = false := by rw [beq_eq_false_iff_ne]; exact h4
          have H4 := Lib.hid h4
          clear h4
          go_wp2_with fail
          refine (place_any _ _ bk.1 bk.2).mono ?_
          rintro e w' ⟨rfl, rfl⟩
          go_wp2_with fail
          go_round
          case rel => exact ⟨k + 1, by omega, by go_num, fun j hj hlt2 => by
            rcases Nat.lt_or_eq_of_le (Nat.lt_succ_iff.1 hlt2) with h | rfl
            · exact hall.out j hj h
            · exact H4.out⟩
          case measure => simp [intOf]; omega
      · have H := Lib.hid (show nameOk s = true from decide_eq_true ⟨by omega, by omega, fun _ => H3.out, fun i hi => hall.out i hi (by omega)⟩)
        go_wp2_with fail
        go_ret
        exact ⟨ret_b H.out.symm, rfl⟩
  · have h3' : (plc (s[0].toNat) == 1) = false := by rw [beq_eq_false_iff_ne]; exact h3
    have h3'' : (plc (s[0].toNat) != 1) = true := by rw [bne_iff_ne]; exact h3
    have H := Lib.hid (show nameOk s = false from decide_eq_false (fun h => h3 (h.2.2.1 hp)))
    clear h3
    go_enter Tryd.func62, Tryd.ntmps62
    go_wp2_with fail
    refine (place_any _ _ b0.1 b0.2).mono ?_
    rintro e w' ⟨rfl, rfl⟩
    go_wp2_with fail
    go_ret
    exact ⟨ret_b H.out.symm, rfl⟩
end Go.Proofs.YtbclfphnhbmhoaaDoor
