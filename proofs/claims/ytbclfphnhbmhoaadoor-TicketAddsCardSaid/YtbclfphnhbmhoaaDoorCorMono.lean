
/- The walk of CorrectMonotone; and of CorrectBack. -/
import Derived.Test.YtbclfphnhbmhoaaDoorGenProd
import Derived.Deep.DeepCutAuto
namespace Go.Proofs.YtbclfphnhbmhoaaDoor
open Go.RowKit
set_option linter.unusedVariables false
set_option linter.unusedSimpArgs false

theorem hf_mono {a a' b : Int} (hb : 0 < b) (h : a ≤ a') : hf a b ≤ hf a' b := by
  have e := Int.mul_ediv_add_emod a b
  have e' := Int.mul_ediv_add_emod a' b
  have m1 := Int.emod_lt_of_pos a hb
  have m0 := Int.emod_nonneg a (show b ≠ 0 by omega)
  have n1 := Int.emod_lt_of_pos a' hb
  have n0 := Int.emod_nonneg a' (show b ≠ 0 by omega)
  have q := Int.ediv_le_ediv hb h
  unfold hf
  rcases Int.lt_or_eq_of_le q with hq | hq
  · split <;> split <;> omega
  · rw [hq] at e ⊢
    split <;> split <;> omega
theorem fac_anti {ex co t t' p : Int} (he : 0 ≤ ex ∧ ex ≤ 2000) (hc : 0 ≤ co ∧ co ≤ 5000) (h : cOk' t p) (h' : cOk' t' p) (ht : t ≤ t') : fac ex co t' p ≤ fac ex co t p := by
  have m1 : ex * (t - 150) ≤ ex * (t' - 150) := Int.mul_le_mul_of_nonneg_left (by omega) he.1
  have m2 := hf_mono (b := 10) (by omega) m1
  have pb := (press_bd hc h.2).2.2
  have m3 : fHeat ex t' ≤ fHeat ex t := by unfold fHeat; omega
  exact hf_mono (by omega) (Int.mul_le_mul_of_nonneg_right m3 (by omega))
theorem fac_mono {ex co t p p' : Int} (he : 0 ≤ ex ∧ ex ≤ 2000) (hc : 0 ≤ co ∧ co ≤ 5000) (h : cOk' t p) (h' : cOk' t p') (hp : p ≤ p') : fac ex co t p ≤ fac ex co t p' := by
  have m1 : co * p ≤ co * p' := Int.mul_le_mul_of_nonneg_left hp hc.1
  have m2 := hf_mono (b := 1000) (by omega) m1
  have hb := (heat_bd he h.1).2.2
  have m3 : fPress co p ≤ fPress co p' := by unfold fPress; omega
  exact hf_mono (by omega) (Int.mul_le_mul_of_nonneg_left m3 (by omega))
theorem fac_one (ex co : Int) : fac ex co 150 0 = 1000000 := by
  have h : fHeat ex 150 = 1000000 := by unfold fHeat hf; simp
  have h' : fPress co 0 = 1000000 := by unfold fPress hf; simp
  unfold fac
  rw [h, h']
  decide

theorem std_mono {g g' f f' : Int} (h : vfOk g f) (h' : vfOk g' f') (hg : g ≤ g') (hf' : f ≤ f') : stdV g f ≤ stdV g' f' :=
  hf_mono (by omega) (Int.le_trans (Int.mul_le_mul_of_nonneg_right hg (by have := h.2; omega)) (Int.mul_le_mul_of_nonneg_left hf' (by have := h'.1; omega)))
theorem std_bd {g f : Int} (h : vfOk g f) : 0 ≤ stdV g f ∧ stdV g f ≤ 2199023255552 := by
  have m := vf_mul h
  exact hf_rng (by omega) (by omega) (by omega)
/-- With a factor of at least one the volume comes back. -/
theorem grs_back {g f : Int} (h0 : 0 ≤ g) (f0 : 1000000 ≤ f) : grsV (stdV g f) f = g := by
  by_cases hf1 : f = 1000000
  · subst hf1
    have h1 : stdV g 1000000 = g := by unfold stdV hf; split <;> omega
    rw [h1]
    unfold grsV hf; split <;> omega
  have e1 := Int.mul_ediv_add_emod (g * f) 1000000
  have a1 := Int.emod_nonneg (g * f) (show (1000000 : Int) ≠ 0 by omega)
  have a2 := Int.emod_lt_of_pos (g * f) (show (0 : Int) < 1000000 by omega)
  -- the volume, times a million, is off from g * f by at most half a million
  have hv : -500000 < stdV g f * 1000000 - g * f + 1 ∧ stdV g f * 1000000 - g * f ≤ 500000 := by
    unfold stdV hf
    split <;> omega
  generalize stdV g f = v at hv
  have e2 := Int.mul_ediv_add_emod (v * 1000000) f
  have b1 := Int.emod_nonneg (v * 1000000) (show f ≠ 0 by omega)
  have b2 := Int.emod_lt_of_pos (v * 1000000) (show 0 < f by omega)
  unfold grsV hf
  have k1 : f * (g - 1) = g * f - f := by rw [Int.mul_sub, Int.mul_comm f g]; omega
  have k2 : f * (g + 1) = g * f + f := by rw [Int.mul_add, Int.mul_comm f g]; omega
  have k0 : f * g = g * f := Int.mul_comm _ _
  have q1 : g - 1 ≤ (v * 1000000) / f := (Int.le_ediv_iff_mul_le (by omega)).2 (by rw [Int.mul_comm (g - 1) f, k1]; omega)
  have q2 : (v * 1000000) / f ≤ g := by
    have : (v * 1000000) / f < g + 1 := Int.ediv_lt_of_lt_mul (by omega) (by rw [Int.mul_comm (g + 1) f, k2]; omega)
    omega
  generalize (v * 1000000) / f = Q at *
  rcases Int.lt_or_eq_of_le q2 with hq | hq
  · have : Q = g - 1 := by omega
    subst this
    rw [k1] at e2
    rw [if_pos (by omega)]; omega
  · subst hq
    rw [k0] at e2
    rw [if_neg (by omega)]

end Go.Proofs.YtbclfphnhbmhoaaDoor
