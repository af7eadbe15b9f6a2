/- The walk of MeterScales. -/
import Derived.Test.YtbodabbgcbjkcaaMeter3
namespace Go.Proofs.Ytbodabbgcbjkcaa
open Go.RowKit
set_option linter.unusedVariables false
set_option linter.unusedSimpArgs false

theorem mLit_twice (p f n : Int) : mLit (p * 2) f (2 * n) = mLit p f n := by
  unfold mLit
  have e1 : 2 * n * f = (2 : Int) * (n * f) := by rw [Int.mul_assoc]
  have e2 : 100 * (p * 2) = (2 : Int) * (100 * p) := by omega
  rw [e1, e2, Int.mul_ediv_mul_of_pos _ _ (by omega)]
theorem mLit_mono (p f f' n : Int) (hp : 1 ≤ p) (h : f ≤ f') (h0 : 0 ≤ n) : mLit p f n ≤ mLit p f' n :=
  Int.ediv_le_ediv (by omega) (Int.mul_le_mul_of_nonneg_left h h0)

set_option maxHeartbeats 1000000 in
theorem MeterScales_law (n k f g : Int) (w : World) (n0 : 0 ≤ n) (n1 : n ≤ 4294967295) (k0 : 0 ≤ k) (k1 : k ≤ 65535) (f0 : 0 ≤ f) (f1 : f ≤ 65535) (g0 : 0 ≤ g) (g1 : g ≤ 65535) :
    Calls Try.prog 6 #[.int .u32 n, .int .u16 k, .int .u16 f, .int .u16 g] w (Ret (.bool true) w) := by
  rcases Int.lt_trichotomy f g with hfg | hfg | hfg
  · have m1 : mOk (1 + k) 32 (50000 + f) := ⟨by omega, by omega, .inr rfl, by omega, by omega⟩
    have m2 : mOk ((1 + k) * 2) 32 (50000 + f) := ⟨by omega, by omega, .inr rfl, by omega, by omega⟩
    have m3 : mOk (1 + k) 32 (50000 + g) := ⟨by omega, by omega, .inr rfl, by omega, by omega⟩
    have e1 := Lib.hid (mLit_twice (1 + k) (50000 + f) n)
    have e2 := mLit_mono (1 + k) (50000 + f) (50000 + g) n (by omega) (by omega) n0
    go_enter Try.func6, Try.ntmps6
    go_wp2_with fail
    go_region
    all_goals
      go_wp2_with fail
      refine (Litres_in _ _ _ _ _ m1 (by omega) (by omega)).mono ?_
      rintro e w1 ⟨rfl, c1⟩
      have c1_c := (kcell c1).1; have c1_f := (kcell c1).2; have c1_z := c1.size; try simp only [World.size_alloc, World.size_setCell, World.size_drew, size_drewN] at c1_c c1_f c1_z
      go_wp2_with fail
      refine (Litres_in _ _ _ _ _ m2 (by omega) (by omega)).mono ?_
      rw [e1.out]
      rintro e w2 ⟨rfl, c2⟩
      have c2_c := (kcell c2).1; have c2_f := (kcell c2).2; have c2_z := c2.size; try simp only [World.size_alloc, World.size_setCell, World.size_drew, size_drewN] at c2_c c2_f c2_z
      go_wp2_with fail
      refine (Litres_in _ _ _ _ _ m3 (by omega) (by omega)).mono ?_
      rintro e w3 ⟨rfl, c3⟩
      have c3_c := (kcell c3).1; have c3_f := (kcell c3).2; have c3_z := c3.size; try simp only [World.size_alloc, World.size_setCell, World.size_drew, size_drewN] at c3_c c3_f c3_z
      go_wp2_with fail
      refine (meterAwake _).mono ?_
      rintro e w4 ⟨rfl, c4⟩
      go_wp2
      go_ret
      exact ⟨rfl, (by repeat (first | (with_reducible exact Kept.refl _) | (with_reducible assumption) | (with_reducible refine Kept.alloc ?_ _) | (with_reducible refine Kept.drew ?_) | (with_reducible refine Kept.drewN ?_ _) | (with_reducible refine Kept.setCell ?_ ?_ _) | (with_reducible refine Kept.trans ?_ (by with_reducible assumption)) | (simp only [World.size_alloc, World.size_setCell, World.size_drew, size_drewN]; omega) | omega | (dsimp only; omega)))⟩
  · subst hfg
    have m1 : mOk (1 + k) 32 (50000 + f) := ⟨by omega, by omega, .inr rfl, by omega, by omega⟩
    have m2 : mOk ((1 + k) * 2) 32 (50000 + f) := ⟨by omega, by omega, .inr rfl, by omega, by omega⟩
    have m3 : mOk (1 + k) 32 (50000 + f) := ⟨by omega, by omega, .inr rfl, by omega, by omega⟩
    have e1 := Lib.hid (mLit_twice (1 + k) (50000 + f) n)
    have e2 := mLit_mono (1 + k) (50000 + f) (50000 + f) n (by omega) (by omega) n0
    go_enter Try.func6, Try.ntmps6
    go_wp2_with fail
    go_region
    all_goals
      go_wp2_with fail
      refine (Litres_in _ _ _ _ _ m1 (by omega) (by omega)).mono ?_
      rintro e w1 ⟨rfl, c1⟩
      have c1_c := (kcell c1).1; have c1_f := (kcell c1).2; have c1_z := c1.size; try simp only [World.size_alloc, World.size_setCell, World.size_drew, size_drewN] at c1_c c1_f c1_z
      go_wp2_with fail
      refine (Litres_in _ _ _ _ _ m2 (by omega) (by omega)).mono ?_
      rw [e1.out]
      rintro e w2 ⟨rfl, c2⟩
      have c2_c := (kcell c2).1; have c2_f := (kcell c2).2; have c2_z := c2.size; try simp only [World.size_alloc, World.size_setCell, World.size_drew, size_drewN] at c2_c c2_f c2_z
      go_wp2_with fail
      refine (Litres_in _ _ _ _ _ m3 (by omega) (by omega)).mono ?_
      rintro e w3 ⟨rfl, c3⟩
      have c3_c := (kcell c3).1; have c3_f := (kcell c3).2; have c3_z := c3.size; try simp only [World.size_alloc, World.size_setCell, World.size_drew, size_drewN] at c3_c c3_f c3_z
      go_wp2_with fail
      refine (meterAwake _).mono ?_
      rintro e w4 ⟨rfl, c4⟩
      go_wp2
      go_ret
      exact ⟨rfl, (by repeat (first | (with_reducible exact Kept.refl _) | (with_reducible assumption) | (with_reducible refine Kept.alloc ?_ _) | (with_reducible refine Kept.drew ?_) | (with_reducible refine Kept.drewN ?_ _) | (with_reducible refine Kept.setCell ?_ ?_ _) | (with_reducible refine Kept.trans ?_ (by with_reducible assumption)) | (simp only [World.size_alloc, World.size_setCell, World.size_drew, size_drewN]; omega) | omega | (dsimp only; omega)))⟩
  · have m1 : mOk (1 + k) 32 (50000 + g) := ⟨by omega, by omega, .inr rfl, by omega, by omega⟩
    have m2 : mOk ((1 + k) * 2) 32 (50000 + g) := ⟨by omega, by omega, .inr rfl, by omega, by omega⟩
    have m3 : mOk (1 + k) 32 (50000 + f) := ⟨by omega, by omega, .inr rfl, by omega, by omega⟩
    have e1 := Lib.hid (mLit_twice (1 + k) (50000 + g) n)
    have e2 := mLit_mono (1 + k) (50000 + g) (50000 + f) n (by omega) (by omega) n0
    go_enter Try.func6, Try.ntmps6
    go_wp2_with fail
    go_region
    all_goals
      go_wp2_with fail
      refine (Litres_in _ _ _ _ _ m1 (by omega) (by omega)).mono ?_
      rintro e w1 ⟨rfl, c1⟩
      have c1_c := (kcell c1).1; have c1_f := (kcell c1).2; have c1_z := c1.size; try simp only [World.size_alloc, World.size_setCell, World.size_drew, size_drewN] at c1_c c1_f c1_z
      go_wp2_with fail
      refine (Litres_in _ _ _ _ _ m2 (by omega) (by omega)).mono ?_
      rw [e1.out]
      rintro e w2 ⟨rfl, c2⟩
      have c2_c := (kcell c2).1; have c2_f := (kcell c2).2; have c2_z := c2.size; try simp only [World.size_alloc, World.size_setCell, World.size_drew, size_drewN] at c2_c c2_f c2_z
      go_wp2_with fail
      refine (Litres_in _ _ _ _ _ m3 (by omega) (by omega)).mono ?_
      rintro e w3 ⟨rfl, c3⟩
      have c3_c := (kcell c3).1; have c3_f := (kcell c3).2; have c3_z := c3.size; try simp only [World.size_alloc, World.size_setCell, World.size_drew, size_drewN] at c3_c c3_f c3_z
      go_wp2_with fail
      refine (meterAwake _).mono ?_
      rintro e w4 ⟨rfl, c4⟩
      go_wp2
      go_ret
      exact ⟨rfl, (by repeat (first | (with_reducible exact Kept.refl _) | (with_reducible assumption) | (with_reducible refine Kept.alloc ?_ _) | (with_reducible refine Kept.drew ?_) | (with_reducible refine Kept.drewN ?_ _) | (with_reducible refine Kept.setCell ?_ ?_ _) | (with_reducible refine Kept.trans ?_ (by with_reducible assumption)) | (simp only [World.size_alloc, World.size_setCell, World.size_drew, size_drewN]; omega) | omega | (dsimp only; omega)))⟩
end Go.Proofs.Ytbodabbgcbjkcaa
