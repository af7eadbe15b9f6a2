/- The walk of CorrectMonotone; and of CorrectBack. -/
import Derived.Test.YtooojlecefgonaaDoorGenProd
import Derived.Deep.DeepCutAuto
namespace Go.Proofs.YtooojlecefgonaaDoor
open Go.RowKit
set_option linter.unusedVariables false
set_option linter.unusedSimpArgs false

theorem hf_mono {a a' b : Int} (hb : 0 < b) (h : a ≤ a') : hf a b ≤ hf a' b := by
  have e := Int.mul_ediv_add_emod a b
  have e' := Int.mul_ediv_add_emod a' b
  have m1 := Int.emod_lt_of_pos a hb
  have m0 := Int.emod_nonneg a (show b ≠ 0 by omega)
  have n1 := Int.emod_lt_of_pos a' hb
  have n0 := Int.emod_nonneg a' (show b ≠ 0 by omega)
  have q := Int.ediv_le_ediv hb h
  unfold hf
  rcases Int.lt_or_eq_of_le q with hq | hq
  · split <;> split <;> omega
  · rw [hq] at e ⊢
    split <;> split <;> omega
theorem fac_anti {ex co t t' p : Int} (he : 0 ≤ ex ∧ ex ≤ 2000) (hc : 0 ≤ co ∧ co ≤ 5000) (h : cOk' t p) (h' : cOk' t' p) (ht : t ≤ t') : fac ex co t' p ≤ fac ex co t p := by
  have m1 : ex * (t - 150) ≤ ex * (t' - 150) := Int.mul_le_mul_of_nonneg_left (by omega) he.1
  have m2 := hf_mono (b := 10) (by omega) m1
  have pb := (press_bd hc h.2).2.2
  have m3 : fHeat ex t' ≤ fHeat ex t := by unfold fHeat; omega
  exact hf_mono (by omega) (Int.mul_le_mul_of_nonneg_right m3 (by omega))
theorem fac_mono {ex co t p p' : Int} (he : 0 ≤ ex ∧ ex ≤ 2000) (hc : 0 ≤ co ∧ co ≤ 5000) (h : cOk' t p) (h' : cOk' t p') (hp : p ≤ p') : fac ex co t p ≤ fac ex co t p' := by
  have m1 : co * p ≤ co * p' := Int.mul_le_mul_of_nonneg_left hp hc.1
  have m2 := hf_mono (b := 1000) (by omega) m1
  have hb := (heat_bd he h.1).2.2
  have m3 : fPress co p ≤ fPress co p' := by unfold fPress; omega
  exact hf_mono (by omega) (Int.mul_le_mul_of_nonneg_left m3 (by omega))
theorem fac_one (ex co : Int) : fac ex co 150 0 = 1000000 := by
  have h : fHeat ex 150 = 1000000 := by unfold fHeat hf; simp
  have h' : fPress co 0 = 1000000 := by unfold fPress hf; simp
  unfold fac
  rw [h, h']
  decide

set_option maxRecDepth 100000 in
set_option maxHeartbeats 4000000 in
theorem CorrectMonotone_law (a : Option Addr) (len cap : Nat) (x y p q : Int) (w : World) (h : ArgInts w a len cap) (x0 : 0 ≤ x) (x1 : x ≤ 65535) (y0 : 0 ≤ y) (y1 : y ≤ 65535) (p0 : 0 ≤ p) (p1 : p ≤ 65535) (q0 : 0 ≤ q) (q1 : q ≤ 65535) (hsp : Spans w) :
    Calls Tryd.prog 3 #[.slice a len cap, .int .u16 x, .int .u16 y, .int .u16 p, .int .u16 q] w (Ret (.bool true) w) := by
  go_enter Tryd.func3, Tryd.ntmps3
  go_wp2_with fail
  refine (New_any _ _ _ _ h).mono ?_
  rintro e w1 ⟨bs, rfl, hs1, k1⟩
  have k1_c := (kcell k1).1; have k1_f := (kcell k1).2; have k1_z := k1.size; try simp only [World.size_alloc, World.size_setCell, World.size_drew, size_drewN] at k1_c k1_f k1_z
  have hlt := hs1.lt
  go_wp2_with fail
  refine (Product_any _ _ bs 2 hs1 (by omega) (by omega)).mono ?_
  rintro e v2 ⟨de, ex, co, fr, hn, rfl, s2, o2⟩
  have o2_c := (ocell o2).1; have o2_f := (ocell o2).2; have o2_z := o2.size; try simp only [World.size_alloc, World.size_setCell, World.size_drew, size_drewN] at o2_c o2_f o2_z
  have kw2 : Kept w v2 := Only.kept k1 o2 hlt.1
  clear k1_c k1_f k1_z o2_c o2_f o2_z k1 o2 s2 hs1
  obtain ⟨_, he, hco, _⟩ := id hn
  have hp := pOk_made (n := 2) hn
  have hz := pName_size 2
  have HP := Lib.hid hp
  have HN := Lib.hid hn
  clear hp hn
  generalize nmOf ⟨#[112]⟩ 2 = nm at *
  go_upto_region 2 with fail
  have bP : Box (v2.alloc (Obj.cells #[.string nm, .int .i64 de, .int .i64 ex, .int .i64 co, .int .i64 fr] 25)) v2.heap.size #[.string nm, .int .i64 de, .int .i64 ex, .int .i64 co, .int .i64 fr] := Box.new rfl
  have kw3 : Kept w (v2.alloc (Obj.cells #[.string nm, .int .i64 de, .int .i64 ex, .int .i64 co, .int .i64 fr] 25)) := (by repeat (first | (with_reducible exact Kept.refl _) | (with_reducible assumption) | (with_reducible refine Kept.alloc ?_ _) | (with_reducible refine Kept.drew ?_) | (with_reducible refine Kept.drewN ?_ _) | (with_reducible refine Kept.setCell ?_ ?_ _) | (with_reducible refine Kept.trans ?_ (by with_reducible assumption)) | (simp only [World.size_alloc, World.size_setCell, World.size_drew, size_drewN]; omega) | omega | (dsimp only; omega)))
  go_cut [12, 13] (fun s t wx => ∃ T U : Int, s = .int .i64 T ∧ t = .int .i64 U ∧ (-400 ≤ T ∧ T ≤ 1000) ∧ (-400 ≤ U ∧ U ≤ 1000) ∧ Box wx v2.heap.size #[.string nm, .int .i64 de, .int .i64 ex, .int .i64 co, .int .i64 fr] ∧ Kept w wx)
  case first =>
    rcases Int.lt_trichotomy x y with hxy | hxy | hxy
    all_goals
      try subst hxy
      go_wp2
      go_meet
      exact ⟨_, _, rfl, rfl, by omega, by omega, bP, kw3⟩
  case rest =>
    clear bP kw3
    obtain ⟨T, U, rfl, rfl, hT, hU, bP, kw3⟩ := hcut
    go_upto_if 41 with fail
    go_cut [12, 13] (fun s t wx => ∃ T U : Int, s = .int .i64 T ∧ t = .int .i64 U ∧ -400 ≤ T ∧ T ≤ U ∧ U ≤ 1000 ∧ Box wx v2.heap.size #[.string nm, .int .i64 de, .int .i64 ex, .int .i64 co, .int .i64 fr] ∧ Kept w wx)
    case first =>
      by_cases hTU : U < T
      all_goals
        go_wp2
        go_meet
        exact ⟨_, _, rfl, rfl, by omega, by omega, by omega, bP, kw3⟩
    case rest =>
      clear bP kw3 hT hU T U
      obtain ⟨T, U, rfl, rfl, hT, hTU, hU, bP, kw3⟩ := hcut
      go_upto_region 5 with fail
      go_cut [14, 15] (fun s t wx => ∃ P Q : Int, s = .int .i64 P ∧ t = .int .i64 Q ∧ 0 ≤ P ∧ P ≤ Q ∧ Q ≤ 20000 ∧ Box wx v2.heap.size #[.string nm, .int .i64 de, .int .i64 ex, .int .i64 co, .int .i64 fr] ∧ Kept w wx)
      case first =>
        rcases Int.lt_trichotomy (p % 20001) (q % 20001) with hxy | hxy | hxy
        all_goals
          go_wp2
          go_meet
          exact ⟨_, _, rfl, rfl, by omega, by omega, by omega, bP, kw3⟩
      case rest =>
        clear bP kw3
        obtain ⟨P, Q, rfl, rfl, hP, hPQ, hQ, bP, kw3⟩ := hcut
        have hsp3 : Spans wc := Box.kept hsp kw3
        have eP := bP.cell
        have lP := bP.lt
        clear hsp
        have c0 : cOk' 150 0 := by decide
        have c1 : cOk' U P := ⟨by omega, by omega⟩
        have c2 : cOk' T P := ⟨by omega, by omega⟩
        have c3 : cOk' T Q := ⟨by omega, by omega⟩
        have f0 := fac_one ex co
        have f1 := fac_anti he hco c2 c1 hTU
        have f2 := fac_mono he hco c2 c3 hPQ
        have f3 := (fac_bd he hco c1).2.1
        have f4 := (fac_bd he hco c3).2.2
        have F0 := Lib.hid f0
        clear f0
        go_wp2_with fail
        refine (Factor_in _ _ _ _ _ _ _ _ hz (Box.kept hsp3 (by repeat (first | (with_reducible exact Kept.refl _) | (with_reducible assumption) | (with_reducible refine Kept.alloc ?_ _) | (with_reducible refine Kept.drew ?_) | (with_reducible refine Kept.drewN ?_ _) | (with_reducible refine Kept.setCell ?_ ?_ _) | (with_reducible refine Kept.trans ?_ (by with_reducible assumption)) | (simp only [World.size_alloc, World.size_setCell, World.size_drew, size_drewN]; omega) | omega | (dsimp only; omega)))) HP.out c0).mono ?_
        rw [F0.out]
        rintro e v4 ⟨rfl, c4⟩
        have c4_c := (kcell c4).1; have c4_f := (kcell c4).2; have c4_z := c4.size; try simp only [World.size_alloc, World.size_setCell, World.size_drew, size_drewN] at c4_c c4_f c4_z
        go_wp2_with fail
        refine (Factor_in _ _ _ _ _ _ _ _ hz (Box.kept hsp3 (by repeat (first | (with_reducible exact Kept.refl _) | (with_reducible assumption) | (with_reducible refine Kept.alloc ?_ _) | (with_reducible refine Kept.drew ?_) | (with_reducible refine Kept.drewN ?_ _) | (with_reducible refine Kept.setCell ?_ ?_ _) | (with_reducible refine Kept.trans ?_ (by with_reducible assumption)) | (simp only [World.size_alloc, World.size_setCell, World.size_drew, size_drewN]; omega) | omega | (dsimp only; omega)))) HP.out c1).mono ?_
        rintro e v5 ⟨rfl, c5⟩
        have c5_c := (kcell c5).1; have c5_f := (kcell c5).2; have c5_z := c5.size; try simp only [World.size_alloc, World.size_setCell, World.size_drew, size_drewN] at c5_c c5_f c5_z
        go_wp2_with fail
        refine (Factor_in _ _ _ _ _ _ _ _ hz (Box.kept hsp3 (by repeat (first | (with_reducible exact Kept.refl _) | (with_reducible assumption) | (with_reducible refine Kept.alloc ?_ _) | (with_reducible refine Kept.drew ?_) | (with_reducible refine Kept.drewN ?_ _) | (with_reducible refine Kept.setCell ?_ ?_ _) | (with_reducible refine Kept.trans ?_ (by with_reducible assumption)) | (simp only [World.size_alloc, World.size_setCell, World.size_drew, size_drewN]; omega) | omega | (dsimp only; omega)))) HP.out c2).mono ?_
        rintro e v6 ⟨rfl, c6⟩
        have c6_c := (kcell c6).1; have c6_f := (kcell c6).2; have c6_z := c6.size; try simp only [World.size_alloc, World.size_setCell, World.size_drew, size_drewN] at c6_c c6_f c6_z
        go_wp2_with fail
        refine (Factor_in _ _ _ _ _ _ _ _ hz (Box.kept hsp3 (by repeat (first | (with_reducible exact Kept.refl _) | (with_reducible assumption) | (with_reducible refine Kept.alloc ?_ _) | (with_reducible refine Kept.drew ?_) | (with_reducible refine Kept.drewN ?_ _) | (with_reducible refine Kept.setCell ?_ ?_ _) | (with_reducible refine Kept.trans ?_ (by with_reducible assumption)) | (simp only [World.size_alloc, World.size_setCell, World.size_drew, size_drewN]; omega) | omega | (dsimp only; omega)))) HP.out c3).mono ?_
        rintro e v7 ⟨rfl, c7⟩
        have c7_c := (kcell c7).1; have c7_f := (kcell c7).2; have c7_z := c7.size; try simp only [World.size_alloc, World.size_setCell, World.size_drew, size_drewN] at c7_c c7_f c7_z
        go_wp2_with fail
        refine (corAwake _ (Box.kept hsp3 (by repeat (first | (with_reducible exact Kept.refl _) | (with_reducible assumption) | (with_reducible refine Kept.alloc ?_ _) | (with_reducible refine Kept.drew ?_) | (with_reducible refine Kept.drewN ?_ _) | (with_reducible refine Kept.setCell ?_ ?_ _) | (with_reducible refine Kept.trans ?_ (by with_reducible assumption)) | (simp only [World.size_alloc, World.size_setCell, World.size_drew, size_drewN]; omega) | omega | (dsimp only; omega))))).mono ?_
        rintro e v8 ⟨rfl, c8⟩
        have c8_c := (kcell c8).1; have c8_f := (kcell c8).2; have c8_z := c8.size; try simp only [World.size_alloc, World.size_setCell, World.size_drew, size_drewN] at c8_c c8_f c8_z
        go_wp2
        go_ret
        exact ⟨rfl, (by repeat (first | (with_reducible exact Kept.refl _) | (with_reducible assumption) | (with_reducible refine Kept.alloc ?_ _) | (with_reducible refine Kept.drew ?_) | (with_reducible refine Kept.drewN ?_ _) | (with_reducible refine Kept.setCell ?_ ?_ _) | (with_reducible refine Kept.trans ?_ (by with_reducible assumption)) | (simp only [World.size_alloc, World.size_setCell, World.size_drew, size_drewN]; omega) | omega | (dsimp only; omega)))⟩

theorem std_mono {g g' f f' : Int} (h : vfOk g f) (h' : vfOk g' f') (hg : g ≤ g') (hf' : f ≤ f') : stdV g f ≤ stdV g' f' :=
  hf_mono (by omega) (Int.le_trans (Int.mul_le_mul_of_nonneg_right hg (by have := h.2; omega)) (Int.mul_le_mul_of_nonneg_left hf' (by have := h'.1; omega)))
theorem std_bd {g f : Int} (h : vfOk g f) : 0 ≤ stdV g f ∧ stdV g f ≤ 2199023255552 := by
  have m := vf_mul h
  exact hf_rng (by omega) (by omega) (by omega)
/-- With a factor of at least one the volume comes back. -/
theorem grs_back {g f : Int} (h0 : 0 ≤ g) (f0 : 1000000 ≤ f) : grsV (stdV g f) f = g := by
  by_cases hf1 : f = 1000000
  · subst hf1
    have h1 : stdV g 1000000 = g := by unfold stdV hf; split <;> omega
    rw [h1]
    unfold grsV hf; split <;> omega
  have e1 := Int.mul_ediv_add_emod (g * f) 1000000
  have a1 := Int.emod_nonneg (g * f) (show (1000000 : Int) ≠ 0 by omega)
  have a2 := Int.emod_lt_of_pos (g * f) (show (0 : Int) < 1000000 by omega)
  -- the volume, times a million, is off from g * f by at most half a million
  have hv : -500000 < stdV g f * 1000000 - g * f + 1 ∧ stdV g f * 1000000 - g * f ≤ 500000 := by
    unfold stdV hf
    split <;> omega
  generalize stdV g f = v at hv
  have e2 := Int.mul_ediv_add_emod (v * 1000000) f
  have b1 := Int.emod_nonneg (v * 1000000) (show f ≠ 0 by omega)
  have b2 := Int.emod_lt_of_pos (v * 1000000) (show 0 < f by omega)
  unfold grsV hf
  have k1 : f * (g - 1) = g * f - f := by rw [Int.mul_sub, Int.mul_comm f g]; omega
  have k2 : f * (g + 1) = g * f + f := by rw [Int.mul_add, Int.mul_comm f g]; omega
  have k0 : f * g = g * f := Int.mul_comm _ _
  have q1 : g - 1 ≤ (v * 1000000) / f := (Int.le_ediv_iff_mul_le (by omega)).2 (by rw [Int.mul_comm (g - 1) f, k1]; omega)
  have q2 : (v * 1000000) / f ≤ g := by
    have : (v * 1000000) / f < g + 1 := Int.ediv_lt_of_lt_mul (by omega) (by rw [Int.mul_comm (g + 1) f, k2]; omega)
    omega
  generalize (v * 1000000) / f = Q at *
  rcases Int.lt_or_eq_of_le q2 with hq | hq
  · have : Q = g - 1 := by omega
    subst this
    rw [k1] at e2
    rw [if_pos (by omega)]; omega
  · subst hq
    rw [k0] at e2
    rw [if_neg (by omega)]

set_option maxRecDepth 100000 in
set_option maxHeartbeats 4000000 in
theorem CorrectBack_law (a b c d : Int) (w : World) (a0 : 0 ≤ a) (a1 : a ≤ 4294967295) (b0 : 0 ≤ b) (b1 : b ≤ 4294967295) (c0 : 0 ≤ c) (c1 : c ≤ 4294967295) (d0 : 0 ≤ d) (d1 : d ≤ 4294967295) (hsp : Spans w) :
    Calls Tryd.prog 8 #[.int .u32 a, .int .u32 b, .int .u32 c, .int .u32 d] w (Ret (.bool true) w) := by
  go_enter Tryd.func8, Tryd.ntmps8
  go_upto_region 1 with fail
  go_cut [9, 10] (fun s t wx => ∃ X Y : Int, s = .int .i64 X ∧ t = .int .i64 Y ∧ 0 ≤ X ∧ X ≤ Y ∧ Y ≤ 4294967295 ∧ wx = w)
  case first =>
    rcases Int.lt_trichotomy a b with hxy | hxy | hxy
    all_goals
      try subst hxy
      go_wp2
      go_meet
      exact ⟨_, _, rfl, rfl, by omega, by omega, by omega, rfl⟩
  case rest =>
    obtain ⟨X, Y, rfl, rfl, hX, hXY, hY, rfl⟩ := hcut
    go_upto_region 2 with fail
    go_cut [11, 12] (fun s t wx => ∃ M N : Int, s = .int .i64 M ∧ t = .int .i64 N ∧ (1 ≤ M ∧ M ≤ 2000000) ∧ (1 ≤ N ∧ N ≤ 2000000) ∧ wx = wc)
    case first =>
      rcases Int.lt_trichotomy c d with hxy | hxy | hxy
      all_goals
        try subst hxy
        go_wp2
        go_meet
        exact ⟨_, _, rfl, rfl, by omega, by omega, rfl⟩
    case rest =>
      obtain ⟨M, N, rfl, rfl, hM, hN, rfl⟩ := hcut
      go_upto_if 50 with fail
      go_cut [11, 12] (fun s t wx => ∃ M N : Int, s = .int .i64 M ∧ t = .int .i64 N ∧ 1 ≤ M ∧ M ≤ N ∧ N ≤ 2000000 ∧ wx = wc)
      case first =>
        by_cases hMN : N < M
        all_goals
          go_wp2
          go_meet
          exact ⟨_, _, rfl, rfl, by omega, by omega, by omega, rfl⟩
      case rest =>
        clear hM hN M N
        obtain ⟨M, N, rfl, rfl, hM, hMN, hN, rfl⟩ := hcut
        have k0 : 1000000 ≤ 1000000 + c % 1000001 ∧ 1000000 + c % 1000001 ≤ 2000000 := by omega
        have g1 : vfOk X M := ⟨⟨by omega, by omega⟩, by omega, by omega⟩
        have g2 : vfOk Y M := ⟨⟨by omega, by omega⟩, by omega, by omega⟩
        have g3 : vfOk Y N := ⟨⟨by omega, by omega⟩, by omega, by omega⟩
        have g4 : vfOk X (1000000 + c % 1000001) := ⟨⟨by omega, by omega⟩, by omega, by omega⟩
        have s4 := std_bd g4
        have s4' : stdV X (1000000 + c % 1000001) ≤ 8589934590 + 1 := (hf_rng (by omega) (L := 0) (by have := vf_mul g4; omega) (by
          have := mul_rng (E := 4294967295) (D1 := 0) (D2 := 2000000) (show 0 ≤ X by omega) (by omega) (show 0 ≤ 1000000 + c % 1000001 by omega) k0.2 (by omega) (by omega)
          omega)).2
        have g5 : vfOk (stdV X (1000000 + c % 1000001)) (1000000 + c % 1000001) := ⟨⟨by omega, by omega⟩, by omega, by omega⟩
        have m1 := std_mono g1 g2 hXY (Int.le_refl M)
        have m2 := std_mono g2 g3 (Int.le_refl Y) hMN
        have BK := Lib.hid (grs_back (g := X) (f := 1000000 + c % 1000001) hX k0.1)
        clear s4 s4'
        go_wp2_with fail
        refine (Standard_in _ _ _ g1).mono ?_
        rintro e v1 ⟨rfl, c1⟩
        have c1_c := (kcell c1).1; have c1_f := (kcell c1).2; have c1_z := c1.size; try simp only [World.size_alloc, World.size_setCell, World.size_drew, size_drewN] at c1_c c1_f c1_z
        go_wp2_with fail
        refine (Standard_in _ _ _ g2).mono ?_
        rintro e v2 ⟨rfl, c2⟩
        have c2_c := (kcell c2).1; have c2_f := (kcell c2).2; have c2_z := c2.size; try simp only [World.size_alloc, World.size_setCell, World.size_drew, size_drewN] at c2_c c2_f c2_z
        go_wp2_with fail
        refine (Standard_in _ _ _ g3).mono ?_
        rintro e v3 ⟨rfl, c3⟩
        have c3_c := (kcell c3).1; have c3_f := (kcell c3).2; have c3_z := c3.size; try simp only [World.size_alloc, World.size_setCell, World.size_drew, size_drewN] at c3_c c3_f c3_z
        go_wp2_with fail
        refine (Standard_in _ _ _ g4).mono ?_
        rintro e v4 ⟨rfl, c4⟩
        have c4_c := (kcell c4).1; have c4_f := (kcell c4).2; have c4_z := c4.size; try simp only [World.size_alloc, World.size_setCell, World.size_drew, size_drewN] at c4_c c4_f c4_z
        go_wp2_with fail
        refine (Gross_in _ _ _ g5).mono ?_
        rw [BK.out]
        rintro e v5 ⟨rfl, c5⟩
        have c5_c := (kcell c5).1; have c5_f := (kcell c5).2; have c5_z := c5.size; try simp only [World.size_alloc, World.size_setCell, World.size_drew, size_drewN] at c5_c c5_f c5_z
        go_wp2_with fail
        refine (corAwake _ (Box.kept hsp (by repeat (first | (with_reducible exact Kept.refl _) | (with_reducible assumption) | (with_reducible refine Kept.alloc ?_ _) | (with_reducible refine Kept.drew ?_) | (with_reducible refine Kept.drewN ?_ _) | (with_reducible refine Kept.setCell ?_ ?_ _) | (with_reducible refine Kept.trans ?_ (by with_reducible assumption)) | (simp only [World.size_alloc, World.size_setCell, World.size_drew, size_drewN]; omega) | omega | (dsimp only; omega))))).mono ?_
        rintro e v6 ⟨rfl, c6⟩
        have c6_c := (kcell c6).1; have c6_f := (kcell c6).2; have c6_z := c6.size; try simp only [World.size_alloc, World.size_setCell, World.size_drew, size_drewN] at c6_c c6_f c6_z
        go_wp2
        go_ret
        exact ⟨rfl, (by repeat (first | (with_reducible exact Kept.refl _) | (with_reducible assumption) | (with_reducible refine Kept.alloc ?_ _) | (with_reducible refine Kept.drew ?_) | (with_reducible refine Kept.drewN ?_ _) | (with_reducible refine Kept.setCell ?_ ?_ _) | (with_reducible refine Kept.trans ?_ (by with_reducible assumption)) | (simp only [World.size_alloc, World.size_setCell, World.size_drew, size_drewN]; omega) | omega | (dsimp only; omega)))⟩
end Go.Proofs.YtooojlecefgonaaDoor
