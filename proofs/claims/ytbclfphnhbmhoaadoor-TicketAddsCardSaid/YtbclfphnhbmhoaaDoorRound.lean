
/- Walks of round.divide, round.Down, round.Up, round.Half: what these functions of package round compute, as plain integers. -/
import Derived.Test.YtbclfphnhbmhoaaDoorRows
import Derived.Test.YtbclfphnhbmhoaaDoorBase
namespace Go.Proofs.YtbclfphnhbmhoaaDoor
open Go.RowKit
set_option linter.unusedVariables false
set_option linter.unusedSimpArgs false

theorem tdiv_pos (a b : Int) (hb : 1 ≤ b) (h : 0 ≤ a.tmod b) : a.tdiv b = a / b ∧ a.tmod b = a % b := by
  have e := Int.tmod_add_mul_tdiv a b
  have l := Int.tmod_lt_of_pos a (show 0 < b by omega)
  have := (Int.ediv_emod_unique (a := a) (b := b) (r := a.tmod b) (q := a.tdiv b) (by omega)).2 ⟨e, h, l⟩
  exact ⟨this.1.symm, this.2.symm⟩

theorem tdiv_neg (a b : Int) (hb : 1 ≤ b) (h : a.tmod b < 0) : a.tdiv b - 1 = a / b ∧ a.tmod b + b = a % b := by
  have e := Int.tmod_add_mul_tdiv a b
  have l := Int.lt_tmod_of_pos a (show 0 < b by omega)
  have := (Int.ediv_emod_unique (a := a) (b := b) (r := a.tmod b + b) (q := a.tdiv b - 1) (by omega)).2 ⟨by rw [Int.mul_sub]; omega, by omega, by omega⟩
  exact ⟨this.1.symm, this.2.symm⟩

theorem tdiv_bd (a b : Int) (ha : -2305843009213693952 ≤ a) (ha' : a ≤ 2305843009213693952) :
    -2305843009213693952 ≤ a.tdiv b ∧ a.tdiv b ≤ 2305843009213693952 := by
  have h : (a.tdiv b).natAbs = a.natAbs / b.natAbs := Int.natAbs_tdiv a b
  have h2 : a.natAbs / b.natAbs ≤ a.natAbs := Nat.div_le_self _ _
  generalize a.natAbs / b.natAbs = q at h h2
  generalize a.tdiv b = x at *
  omega

set_option maxHeartbeats 400000 in
theorem divide_in (a b : Int) (w : World) (hb : 1 ≤ b) (hb' : b ≤ 1099511627776) (ha : -2305843009213693952 ≤ a) (ha' : a ≤ 2305843009213693952) :
    Calls Tryd.prog 65 #[.int .i64 a, .int .i64 b] w fun e w' => e = .returned (.tuple #[.int .i64 (a / b), .int .i64 (a % b), .bool true]) ∧ ∃ n, w' = w.drewN n := by
  have hq := tdiv_bd a b ha ha'
  have l := Int.tmod_lt_of_pos a (show 0 < b by omega)
  have l2 := Int.lt_tmod_of_pos a (show 0 < b by omega)
  have n0 : (b == 0) = false := by rw [beq_eq_false_iff_ne]; omega
  by_cases h : a.tmod b < 0
  · obtain ⟨e1, e2⟩ := tdiv_neg a b hb h
    have H1 := Lib.hid e1
    have H2 := Lib.hid e2
    clear e1 e2
    go_enter Tryd.func65, Tryd.ntmps65
    go_wp2
    go_quiet (fail)
    go_wp2
    go_ret3
    exact ⟨ret_iib H1.out H2.out rfl, _, rfl⟩
  · obtain ⟨e1, e2⟩ := tdiv_pos a b hb (by omega)
    have H1 := Lib.hid e1
    have H2 := Lib.hid e2
    clear e1 e2
    go_enter Tryd.func65, Tryd.ntmps65
    go_wp2
    go_quiet (fail)
    go_wp2
    go_ret3
    exact ⟨ret_iib H1.out H2.out rfl, _, rfl⟩

/-- Numbers that round's functions divide. -/
def InDiv (a b : Int) : Prop := 1 ≤ b ∧ b ≤ 1099511627776 ∧ -2305843009213693952 ≤ a ∧ a ≤ 2305843009213693952
theorem divide_out (a b : Int) (w : World) (h : ¬ InDiv a b) :
    Calls Tryd.prog 65 #[.int .i64 a, .int .i64 b] w fun e w' => e = .returned (.tuple #[.int .i64 0, .int .i64 0, .bool false]) ∧ w = w' := by
  have hx : b < 1 ∨ 1099511627776 < b ∨ a < -2305843009213693952 ∨ 2305843009213693952 < a := by unfold InDiv at h; omega
  have H := Lib.hid hx
  clear h hx
  by_cases h1 : b < 1
  · go_enter Tryd.func65, Tryd.ntmps65
    go_wp2
    go_ret3
    exact ⟨rfl, rfl⟩
  by_cases h2 : 1099511627776 < b
  · go_enter Tryd.func65, Tryd.ntmps65
    go_wp2
    go_ret3
    exact ⟨rfl, rfl⟩
  by_cases h3 : a < -2305843009213693952
  · go_enter Tryd.func65, Tryd.ntmps65
    go_wp2
    go_ret3
    exact ⟨rfl, rfl⟩
  have h4 : 2305843009213693952 < a := by have := H.out; omega
  go_enter Tryd.func65, Tryd.ntmps65
  go_wp2
  go_ret3
  exact ⟨rfl, rfl⟩

instance (a b : Int) : Decidable (InDiv a b) := by unfold InDiv; infer_instance
def rDown (a b : Int) : Int := if InDiv a b then a / b else 0
def rUp (a b : Int) : Int := if InDiv a b then (if 0 < a % b then a / b + 1 else a / b) else 0
def rHalf (a b : Int) : Int := if InDiv a b then (if b ≤ 2 * (a % b) then a / b + 1 else a / b) else 0

theorem rDown_in {a b : Int} (h1 : 1 ≤ b) (h2 : b ≤ 1099511627776) (h3 : -2305843009213693952 ≤ a) (h4 : a ≤ 2305843009213693952) : rDown a b = a / b := if_pos ⟨h1, h2, h3, h4⟩
theorem rHalf_in {a b : Int} (h1 : 1 ≤ b) (h2 : b ≤ 1099511627776) (h3 : -2305843009213693952 ≤ a) (h4 : a ≤ 2305843009213693952) : rHalf a b = if b ≤ 2 * (a % b) then a / b + 1 else a / b := if_pos ⟨h1, h2, h3, h4⟩
set_option maxHeartbeats 400000 in
theorem Down_any (a b : Int) (w : World) :
    Calls Tryd.prog 64 #[.int .i64 a, .int .i64 b] w fun e w' => e = .returned (.int .i64 (rDown a b)) ∧ ∃ n, w' = w.drewN n := by
  by_cases h : InDiv a b
  · obtain ⟨h1, h2, h3, h4⟩ := id h
    have H := Lib.hid (show rDown a b = a / b by unfold rDown; rw [if_pos h])
    clear h
    go_enter Tryd.func64, Tryd.ntmps64
    go_wp2_with fail
    refine (divide_in a b _ h1 h2 h3 h4).mono ?_
    rintro e w' ⟨rfl, n, rfl⟩
    go_wp2
    go_ret
    exact ⟨ret_i H.out.symm, n, rfl⟩
  · have H := Lib.hid (show rDown a b = 0 by unfold rDown; rw [if_neg h])
    go_enter Tryd.func64, Tryd.ntmps64
    go_wp2_with fail
    refine (divide_out a b _ h).mono ?_
    rintro e w' ⟨rfl, rfl⟩
    go_wp2
    go_ret
    exact ⟨ret_i H.out.symm, 0, rfl⟩
theorem Down_ret (a b : Int) (w : World) (h1 : 1 ≤ b) (h2 : b ≤ 1099511627776) (h3 : -2305843009213693952 ≤ a) (h4 : a ≤ 2305843009213693952) :
    Calls Tryd.prog 64 #[.int .i64 a, .int .i64 b] w (Ret (.int .i64 (a / b)) w) := by
  have h := Down_any a b w
  rw [rDown_in h1 h2 h3 h4] at h
  exact h.mono fun e w' ⟨he, n, hw⟩ => ⟨he, by rw [hw]; exact (Kept.refl w).drewN n⟩
end Go.Proofs.YtbclfphnhbmhoaaDoor
