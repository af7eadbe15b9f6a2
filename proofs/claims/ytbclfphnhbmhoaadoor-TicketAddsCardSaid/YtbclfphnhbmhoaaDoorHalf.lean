
/- The walk of round.Half. -/
import Derived.Test.YtbclfphnhbmhoaaDoorRound
namespace Go.Proofs.YtbclfphnhbmhoaaDoor
open Go.RowKit
set_option linter.unusedVariables false
set_option linter.unusedSimpArgs false

/-- a / b, rounded to the nearest, halves up. -/
def hf (a b : Int) : Int := if b ≤ 2 * (a % b) then a / b + 1 else a / b
theorem Half_ret (a b : Int) (w : World) (h1 : 1 ≤ b) (h2 : b ≤ 1099511627776) (h3 : -2305843009213693952 ≤ a) (h4 : a ≤ 2305843009213693952) :
    Calls Tryd.prog 55 #[.int .i64 a, .int .i64 b] w (Ret (.int .i64 (hf a b)) w) := by
  have m0 := Int.emod_nonneg a (show b ≠ 0 by omega)
  have m1 := Int.emod_lt_of_pos a (show 0 < b by omega)
  have hq := tdiv_bd a b h3 h4
  have q1 : -2305843009213693953 ≤ a / b ∧ a / b ≤ 2305843009213693952 := by
    by_cases h : a.tmod b < 0
    · have := (tdiv_neg a b h1 h).1; omega
    · have := (tdiv_pos a b h1 (by omega)).1; omega
  clear hq
  by_cases hc : b ≤ 2 * (a % b)
  · have H := Lib.hid (show hf a b = a / b + 1 from if_pos hc)
    go_enter Tryd.func55, Tryd.ntmps55
    go_wp2_with fail
    refine (divide_in a b _ h1 h2 h3 h4).mono ?_
    rintro e w' ⟨rfl, n, rfl⟩
    go_wp2
    go_ret
    exact ⟨ret_i H.out.symm, (by repeat (first | (with_reducible exact Kept.refl _) | (with_reducible assumption) | (with_reducible refine Kept.alloc ?_ _) | (with_reducible refine Kept.drew ?_) | (with_reducible refine Kept.drewN ?_ _) | (with_reducible refine Kept.setCell ?_ ?_ _) | (with_reducible refine Kept.trans ?_ (by with_reducible assumption)) | (simp only [World.size_alloc, World.size_setCell, World.size_drew, size_drewN]; omega) | omega | (dsimp only; omega)))⟩
  · have H := Lib.hid (show hf a b = a / b from if_neg hc)
    go_enter Tryd.func55, Tryd.ntmps55
    go_wp2_with fail
    refine (divide_in a b _ h1 h2 h3 h4).mono ?_
    rintro e w' ⟨rfl, n, rfl⟩
    go_wp2
    go_ret
    exact ⟨ret_i H.out.symm, (by repeat (first | (with_reducible exact Kept.refl _) | (with_reducible assumption) | (with_reducible refine Kept.alloc ?_ _) | (with_reducible refine Kept.drew ?_) | (with_reducible refine Kept.drewN ?_ _) | (with_reducible refine Kept.setCell ?_ ?_ _) | (with_reducible refine Kept.trans ?_ (by with_reducible assumption)) | (simp only [World.size_alloc, World.size_setCell, World.size_drew, size_drewN]; omega) | omega | (dsimp only; omega)))⟩
end Go.Proofs.YtbclfphnhbmhoaaDoor
