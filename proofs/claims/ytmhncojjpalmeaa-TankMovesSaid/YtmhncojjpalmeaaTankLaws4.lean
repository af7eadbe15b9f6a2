/- The walk of TankStraps. -/
import Derived.Test.YtmhncojjpalmeaaTankLaws3
namespace Go.Proofs.Ytmhncojjpalmeaa
open Go.RowKit
set_option linter.unusedVariables false
set_option linter.unusedSimpArgs false

def l3 (A V D : Int) : List Strap := [⟨A, V⟩, ⟨A + D, V + 3 * D⟩, ⟨A + 2 * D, V + 6 * D⟩]
def l2 (A V D : Int) : List Strap := [⟨A, V⟩, ⟨A + 2 * D, V + 6 * D⟩]
theorem seg_lin {a b : Strap} {x k : Int} (h : b.vl - a.vl = k * (b.lv - a.lv)) (hp : 0 < b.lv - a.lv) : segV a b x = a.vl + k * (x - a.lv) := by
  unfold segV
  rw [h, Int.mul_assoc, Int.mul_comm (b.lv - a.lv), ← Int.mul_assoc, Int.mul_ediv_cancel _ (by omega)]
theorem l3_ok {nm : ByteArray} (hn : nameOk nm = true) {A V D : Int} (a0 : 0 ≤ A) (a1 : A ≤ 7000) (v0 : 0 ≤ V) (v1 : V ≤ 7000000) (d0 : 0 < D) (d1 : D ≤ 7000) : tOk nm (l3 A V D) A (A + 2 * D) := by
  refine ⟨hn, ⟨by show 2 ≤ 3; omega, by show 3 ≤ 16; omega⟩, fun i hi => ?_, Int.le_refl _, Int.le_refl _, by omega⟩
  have hi : i < 3 := hi
  obtain rfl | rfl | rfl : i = 0 ∨ i = 1 ∨ i = 2 := by omega
  · exact ⟨⟨⟨a0, by show A ≤ _; omega⟩, v0, by show V ≤ _; omega⟩, fun h => absurd h (by omega)⟩
  · exact ⟨⟨⟨by show 0 ≤ A + D; omega, by show A + D ≤ _; omega⟩, by show 0 ≤ V + 3 * D; omega, by show V + 3 * D ≤ _; omega⟩, fun _ => ⟨by show A < A + D; omega, by show V < V + 3 * D; omega⟩⟩
  · exact ⟨⟨⟨by show 0 ≤ A + 2 * D; omega, by show A + 2 * D ≤ _; omega⟩, by show 0 ≤ V + 6 * D; omega, by show V + 6 * D ≤ _; omega⟩, fun _ => ⟨by show A + D < A + 2 * D; omega, by show V + 3 * D < V + 6 * D; omega⟩⟩
theorem l2_ok {nm : ByteArray} (hn : nameOk nm = true) {A V D : Int} (a0 : 0 ≤ A) (a1 : A ≤ 7000) (v0 : 0 ≤ V) (v1 : V ≤ 7000000) (d0 : 0 < D) (d1 : D ≤ 7000) : tOk nm (l2 A V D) A (A + 2 * D) := by
  refine ⟨hn, ⟨by show 2 ≤ 2; omega, by show 2 ≤ 16; omega⟩, fun i hi => ?_, Int.le_refl _, Int.le_refl _, by omega⟩
  have hi : i < 2 := hi
  obtain rfl | rfl : i = 0 ∨ i = 1 := by omega
  · exact ⟨⟨⟨a0, by show A ≤ _; omega⟩, v0, by show V ≤ _; omega⟩, fun h => absurd h (by omega)⟩
  · exact ⟨⟨⟨by show 0 ≤ A + 2 * D; omega, by show A + 2 * D ≤ _; omega⟩, by show 0 ≤ V + 6 * D; omega, by show V + 6 * D ≤ _; omega⟩, fun _ => ⟨by show A < A + 2 * D; omega, by show V < V + 6 * D; omega⟩⟩
theorem l2_vol {nm : ByteArray} {A V D x : Int} (h : tOk nm (l2 A V D) A (A + 2 * D)) (d0 : 0 < D) (hx : A ≤ x ∧ x ≤ A + 2 * D) : InL (l2 A V D) x ∧ vol (l2 A V D) x = V + 3 * (x - A) := by
  have hin : InL (l2 A V D) x := hx
  refine ⟨hin, ?_⟩
  have har : Around (l2 A V D) x 0 := ⟨by show 0 + 1 < 2; omega, hx.1, hx.2, fun h => absurd h (by omega)⟩
  rw [vol_at (straps_of h) har hin]
  exact seg_lin (a := ⟨A, V⟩) (b := ⟨A + 2 * D, V + 6 * D⟩) (by show V + 6 * D - V = 3 * (A + 2 * D - A); omega) (by show 0 < A + 2 * D - A; omega)
theorem l3_vol {nm : ByteArray} {A V D x : Int} (h : tOk nm (l3 A V D) A (A + 2 * D)) (d0 : 0 < D) (hx : A ≤ x ∧ x ≤ A + 2 * D) : InL (l3 A V D) x ∧ vol (l3 A V D) x = V + 3 * (x - A) := by
  have hin : InL (l3 A V D) x := hx
  refine ⟨hin, ?_⟩
  by_cases hc : x ≤ A + D
  · have har : Around (l3 A V D) x 0 := ⟨by show 0 + 1 < 3; omega, hx.1, hc, fun h => absurd h (by omega)⟩
    rw [vol_at (straps_of h) har hin]
    exact seg_lin (a := ⟨A, V⟩) (b := ⟨A + D, V + 3 * D⟩) (by show V + 3 * D - V = 3 * (A + D - A); omega) (by show 0 < A + D - A; omega)
  · have har : Around (l3 A V D) x 1 := ⟨by show 1 + 1 < 3; omega, by show A + D ≤ x; omega, hx.2, fun _ => by show A + D < x; omega⟩
    rw [vol_at (straps_of h) har hin]
    have := seg_lin (a := ⟨A + D, V + 3 * D⟩) (b := ⟨A + 2 * D, V + 6 * D⟩) (x := x) (k := 3) (by show V + 6 * D - (V + 3 * D) = 3 * (A + 2 * D - (A + D)); omega) (by show 0 < A + 2 * D - (A + D); omega)
    refine this.trans ?_
    show V + 3 * D + 3 * (x - (A + D)) = V + 3 * (x - A)
    omega

end Go.Proofs.Ytmhncojjpalmeaa
