
/- Walks of package correct: heat, press, Factor, right, Standard, Gross, Add. -/
import Derived.Test.YtbclfphnhbmhoaaDoorCorrect
namespace Go.Proofs.YtbclfphnhbmhoaaDoor
open Go.RowKit
set_option linter.unusedVariables false
set_option linter.unusedSimpArgs false

theorem mul_rng {e d E D1 D2 : Int} (e0 : 0 ≤ e) (e1 : e ≤ E) (d1 : D1 ≤ d) (d2 : d ≤ D2) (h1 : D1 ≤ 0) (h2 : 0 ≤ D2) : E * D1 ≤ e * d ∧ e * d ≤ E * D2 :=
  ⟨Int.le_trans (Int.mul_le_mul_of_nonpos_right e1 h1) (Int.mul_le_mul_of_nonneg_left d1 e0), Int.le_trans (Int.mul_le_mul_of_nonneg_left d2 e0) (Int.mul_le_mul_of_nonneg_right e1 h2)⟩
theorem hf_rng {a b : Int} (hb : 0 < b) {L U : Int} (h1 : b * L ≤ a) (h2 : a ≤ b * U) : L ≤ hf a b ∧ hf a b ≤ U := by
  have e := Int.mul_ediv_add_emod a b
  have m0 := Int.emod_nonneg a (show b ≠ 0 by omega)
  have m1 := Int.emod_lt_of_pos a hb
  have l1 : L ≤ a / b := (Int.le_ediv_iff_mul_le hb).2 (by rw [Int.mul_comm]; exact h1)
  have l2 : a / b ≤ U := Int.ediv_le_of_le_mul hb (by rw [Int.mul_comm]; exact h2)
  unfold hf
  split
  · refine ⟨by omega, ?_⟩
    rcases Int.lt_or_eq_of_le l2 with h | h
    · omega
    · rw [h] at e; omega
  · exact ⟨l1, l2⟩
def fHeat (ex t : Int) : Int := 1000000 - hf (ex * (t - 150)) 10
def fPress (co p : Int) : Int := 1000000 + hf (co * p) 1000
/-- The factor of a product at a condition. -/
def fac (ex co t p : Int) : Int := hf (fHeat ex t * fPress co p) 1000000
def cOk' (t p : Int) : Prop := (-400 ≤ t ∧ t ≤ 1000) ∧ (0 ≤ p ∧ p ≤ 20000)
instance (t p : Int) : Decidable (cOk' t p) := by unfold cOk'; infer_instance
theorem heat_bd {ex t : Int} (h : 0 ≤ ex ∧ ex ≤ 2000) (ht : -400 ≤ t ∧ t ≤ 1000) : (-1100000 ≤ ex * (t - 150) ∧ ex * (t - 150) ≤ 1700000) ∧ (-110000 ≤ hf (ex * (t - 150)) 10 ∧ hf (ex * (t - 150)) 10 ≤ 170000) ∧ (830000 ≤ fHeat ex t ∧ fHeat ex t ≤ 1110000) := by
  have h1 := mul_rng (E := 2000) (D1 := -550) (D2 := 850) h.1 h.2 (show -550 ≤ t - 150 by omega) (by omega) (by omega) (by omega)
  have h2 := hf_rng (a := ex * (t - 150)) (b := 10) (by omega) (L := -110000) (U := 170000) (by omega) (by omega)
  refine ⟨by omega, h2, ?_⟩
  unfold fHeat
  omega
theorem press_bd {co p : Int} (h : 0 ≤ co ∧ co ≤ 5000) (hp : 0 ≤ p ∧ p ≤ 20000) : (0 ≤ co * p ∧ co * p ≤ 100000000) ∧ (0 ≤ hf (co * p) 1000 ∧ hf (co * p) 1000 ≤ 100000) ∧ (1000000 ≤ fPress co p ∧ fPress co p ≤ 1100000) := by
  have h1 := mul_rng (E := 5000) (D1 := 0) (D2 := 20000) h.1 h.2 hp.1 hp.2 (by omega) (by omega)
  have h2 := hf_rng (a := co * p) (b := 1000) (by omega) (L := 0) (U := 100000) (by omega) (by omega)
  refine ⟨by omega, h2, ?_⟩
  unfold fPress
  omega
theorem fac_bd {ex co t p : Int} (he : 0 ≤ ex ∧ ex ≤ 2000) (hc : 0 ≤ co ∧ co ≤ 5000) (h : cOk' t p) : (0 ≤ fHeat ex t * fPress co p ∧ fHeat ex t * fPress co p ≤ 1221000000000) ∧ (830000 ≤ fac ex co t p ∧ fac ex co t p ≤ 1221000) := by
  have a := (heat_bd he h.1).2.2
  have b := (press_bd hc h.2).2.2
  have h1 := mul_rng (E := 1110000) (D1 := 0) (D2 := 1100000) (show 0 ≤ fHeat ex t by omega) a.2 (show 0 ≤ fPress co p by omega) b.2 (by omega) (by omega)
  have h2 : 830000 * 1000000 ≤ fHeat ex t * fPress co p := Int.le_trans (Int.mul_le_mul_of_nonneg_right a.1 (by omega)) (Int.mul_le_mul_of_nonneg_left b.1 (by omega))
  have h3 := hf_rng (a := fHeat ex t * fPress co p) (b := 1000000) (by omega) (L := 830000) (U := 1221000) (by omega) (by omega)
  exact ⟨by omega, h3⟩

set_option maxHeartbeats 400000 in
theorem heat_in (s : ByteArray) (de ex co fr t p : Int) (w : World) (h : 0 ≤ ex ∧ ex ≤ 2000) (ht : -400 ≤ t ∧ t ≤ 1000) :
    Calls Tryd.prog 53 #[prd s de ex co fr, cnd t p] w (Ret (.int .i64 (fHeat ex t)) w) := by
  obtain ⟨m, b, _⟩ := heat_bd h ht
  go_enter Tryd.func53, Tryd.ntmps53
  go_wp2_with fail
  refine (Half_ret _ _ _ (by omega) (by omega) (by omega) (by omega)).mono ?_
  rintro e v1 ⟨rfl, c1⟩
  have c1_c := (kcell c1).1; have c1_f := (kcell c1).2; have c1_z := c1.size; try simp only [World.size_alloc, World.size_setCell, World.size_drew, size_drewN] at c1_c c1_f c1_z
  go_wp2
  go_ret
  exact ⟨rfl, (by repeat (first | (with_reducible exact Kept.refl _) | (with_reducible assumption) | (with_reducible refine Kept.alloc ?_ _) | (with_reducible refine Kept.drew ?_) | (with_reducible refine Kept.drewN ?_ _) | (with_reducible refine Kept.setCell ?_ ?_ _) | (with_reducible refine Kept.trans ?_ (by with_reducible assumption)) | (simp only [World.size_alloc, World.size_setCell, World.size_drew, size_drewN]; omega) | omega | (dsimp only; omega)))⟩
set_option maxHeartbeats 400000 in
theorem press_in (s : ByteArray) (de ex co fr t p : Int) (w : World) (h : 0 ≤ co ∧ co ≤ 5000) (ht : 0 ≤ p ∧ p ≤ 20000) :
    Calls Tryd.prog 54 #[prd s de ex co fr, cnd t p] w (Ret (.int .i64 (fPress co p)) w) := by
  obtain ⟨m, b, _⟩ := press_bd h ht
  go_enter Tryd.func54, Tryd.ntmps54
  go_wp2_with fail
  refine (Half_ret _ _ _ (by omega) (by omega) (by omega) (by omega)).mono ?_
  rintro e v1 ⟨rfl, c1⟩
  have c1_c := (kcell c1).1; have c1_f := (kcell c1).2; have c1_z := c1.size; try simp only [World.size_alloc, World.size_setCell, World.size_drew, size_drewN] at c1_c c1_f c1_z
  go_wp2
  go_ret
  exact ⟨rfl, (by repeat (first | (with_reducible exact Kept.refl _) | (with_reducible assumption) | (with_reducible refine Kept.alloc ?_ _) | (with_reducible refine Kept.drew ?_) | (with_reducible refine Kept.drewN ?_ _) | (with_reducible refine Kept.setCell ?_ ?_ _) | (with_reducible refine Kept.trans ?_ (by with_reducible assumption)) | (simp only [World.size_alloc, World.size_setCell, World.size_drew, size_drewN]; omega) | omega | (dsimp only; omega)))⟩

set_option maxHeartbeats 1000000 in
theorem Factor_in (s : ByteArray) (de ex co fr t p : Int) (w : World) (hs : s.size ≤ 140737488351232) (hsp : Spans w) (h : pOk s de ex co fr) (hc : cOk' t p) :
    Calls Tryd.prog 39 #[prd s de ex co fr, cnd t p] w (RetIE (fac ex co t p) 0 w) := by
  have hv := (pValid_iff s de ex co fr).2 h
  obtain ⟨⟨_, he, hco, _⟩, _⟩ := h
  obtain ⟨ht, hp⟩ := id hc
  have fb := (fac_bd he hco hc).1
  have hb := (heat_bd he ht).2.2
  have pb := (press_bd hco hp).2.2
  go_enter Tryd.func39, Tryd.ntmps39
  go_wp2_with fail
  refine (prodValid_any _ _ _ _ _ _ hs (Box.kept hsp (by repeat (first | (with_reducible exact Kept.refl _) | (with_reducible assumption) | (with_reducible refine Kept.alloc ?_ _) | (with_reducible refine Kept.drew ?_) | (with_reducible refine Kept.drewN ?_ _) | (with_reducible refine Kept.setCell ?_ ?_ _) | (with_reducible refine Kept.trans ?_ (by with_reducible assumption)) | (simp only [World.size_alloc, World.size_setCell, World.size_drew, size_drewN]; omega) | omega | (dsimp only; omega))))).mono ?_
  rintro e v1 ⟨rfl, c1⟩
  have c1_c := (kcell c1).1; have c1_f := (kcell c1).2; have c1_z := c1.size; try simp only [World.size_alloc, World.size_setCell, World.size_drew, size_drewN] at c1_c c1_f c1_z
  rw [hv]
  go_wp2_with fail
  have bC : Box v1 (w.heap.size + 1) #[.int .i64 t, .int .i64 p] := Box.kept (Box.new (by simp)) c1
  have kz := c1_z
  clear c1_c c1_f c1_z
  go_loopw [6, 36] (fun f i wr => ∃ k : Nat, k ≤ 2 ∧ i = .int .i64 k ∧ Kept w wr ∧ Box wr (w.heap.size + 1) #[.int .i64 t, .int .i64 p] ∧ Box wr v1.heap.size #[.func (.func 53) #[prd s de ex co fr] #[], .func (.func 54) #[prd s de ex co fr] #[]] ∧ ((k = 0 ∧ f = .int .i64 1) ∨ (k = 1 ∧ f = .int .i64 (fHeat ex t)) ∨ (k = 2 ∧ f = .int .i64 (fHeat ex t * fPress co p)))) (fun _ i _ => 2 - (intOf i).toNat)
  case atStart => exact ⟨0, by omega, rfl, (by repeat (first | (with_reducible exact Kept.refl _) | (with_reducible assumption) | (with_reducible refine Kept.alloc ?_ _) | (with_reducible refine Kept.drew ?_) | (with_reducible refine Kept.drewN ?_ _) | (with_reducible refine Kept.setCell ?_ ?_ _) | (with_reducible refine Kept.trans ?_ (by with_reducible assumption)) | (simp only [World.size_alloc, World.size_setCell, World.size_drew, size_drewN]; omega) | omega | (dsimp only; omega))), Box.old bC _, Box.new rfl, .inl ⟨rfl, rfl⟩⟩
  case round =>
    clear bC c1
    obtain ⟨k, hk, rfl, kw, bC, bF, hk2⟩ := hrel
    have eC := bC.cell
    have lC := bC.lt
    have eF := bF.cell
    have lF := bF.lt
    rcases hk2 with ⟨rfl, rfl⟩ | ⟨rfl, rfl⟩ | ⟨rfl, rfl⟩
    · go_wp2_with fail
      refine (heat_in s de ex co fr t p _ he ht).mono ?_
      rintro e v2 ⟨rfl, c2⟩
      go_wp2
      go_roundw
      case rel => exact ⟨1, by omega, by go_num, (by repeat (first | (with_reducible exact Kept.refl _) | (with_reducible assumption) | (with_reducible refine Kept.alloc ?_ _) | (with_reducible refine Kept.drew ?_) | (with_reducible refine Kept.drewN ?_ _) | (with_reducible refine Kept.setCell ?_ ?_ _) | (with_reducible refine Kept.trans ?_ (by with_reducible assumption)) | (simp only [World.size_alloc, World.size_setCell, World.size_drew, size_drewN]; omega) | omega | (dsimp only; omega))), Box.kept bC c2, Box.kept bF c2, .inr (.inl ⟨rfl, by simp⟩)⟩
      case measure => simp [intOf]
    · go_wp2_with fail
      refine (press_in s de ex co fr t p _ hco hp).mono ?_
      rintro e v2 ⟨rfl, c2⟩
      go_wp2
      go_roundw
      case rel => exact ⟨2, by omega, by go_num, (by repeat (first | (with_reducible exact Kept.refl _) | (with_reducible assumption) | (with_reducible refine Kept.alloc ?_ _) | (with_reducible refine Kept.drew ?_) | (with_reducible refine Kept.drewN ?_ _) | (with_reducible refine Kept.setCell ?_ ?_ _) | (with_reducible refine Kept.trans ?_ (by with_reducible assumption)) | (simp only [World.size_alloc, World.size_setCell, World.size_drew, size_drewN]; omega) | omega | (dsimp only; omega))), Box.kept bC c2, Box.kept bF c2, .inr (.inr ⟨rfl, rfl⟩)⟩
      case measure => simp [intOf]
    · go_wp2_with fail
      refine (Half_ret _ _ _ (by omega) (by omega) (by omega) (by omega)).mono ?_
      rintro e v2 ⟨rfl, c2⟩
      have c2_c := (kcell c2).1; have c2_f := (kcell c2).2; have c2_z := c2.size; try simp only [World.size_alloc, World.size_setCell, World.size_drew, size_drewN] at c2_c c2_f c2_z
      go_wp2
      go_ret2
      exact ⟨rfl, (by repeat (first | (with_reducible exact Kept.refl _) | (with_reducible assumption) | (with_reducible refine Kept.alloc ?_ _) | (with_reducible refine Kept.drew ?_) | (with_reducible refine Kept.drewN ?_ _) | (with_reducible refine Kept.setCell ?_ ?_ _) | (with_reducible refine Kept.trans ?_ (by with_reducible assumption)) | (simp only [World.size_alloc, World.size_setCell, World.size_drew, size_drewN]; omega) | omega | (dsimp only; omega)))⟩

set_option maxHeartbeats 1000000 in
theorem Factor_out (s : ByteArray) (de ex co fr t p : Int) (w : World) (hs : s.size ≤ 140737488351232) (hsp : Spans w) (h : pOk s de ex co fr) (hc : ¬ cOk' t p) :
    Calls Tryd.prog 39 #[prd s de ex co fr, cnd t p] w (RetIE 0 1 w) := by
  have hv := (pValid_iff s de ex co fr).2 h
  have hc' : t < -400 ∨ (-400 ≤ t ∧ 1000 < t) ∨ ((-400 ≤ t ∧ t ≤ 1000) ∧ p < 0) ∨ ((-400 ≤ t ∧ t ≤ 1000) ∧ 0 ≤ p ∧ 20000 < p) := by unfold cOk' at hc; omega
  clear h hc
  rcases hc' with h1 | h1 | h1 | h1
  all_goals
    go_enter Tryd.func39, Tryd.ntmps39
    go_wp2_with fail
    refine (prodValid_any _ _ _ _ _ _ hs (Box.kept hsp (by repeat (first | (with_reducible exact Kept.refl _) | (with_reducible assumption) | (with_reducible refine Kept.alloc ?_ _) | (with_reducible refine Kept.drew ?_) | (with_reducible refine Kept.drewN ?_ _) | (with_reducible refine Kept.setCell ?_ ?_ _) | (with_reducible refine Kept.trans ?_ (by with_reducible assumption)) | (simp only [World.size_alloc, World.size_setCell, World.size_drew, size_drewN]; omega) | omega | (dsimp only; omega))))).mono ?_
    rintro e v1 ⟨rfl, c1⟩
    have c1_c := (kcell c1).1; have c1_f := (kcell c1).2; have c1_z := c1.size; try simp only [World.size_alloc, World.size_setCell, World.size_drew, size_drewN] at c1_c c1_f c1_z
    rw [hv]
    go_wp2
    go_ret2
    exact ⟨rfl, (by repeat (first | (with_reducible exact Kept.refl _) | (with_reducible assumption) | (with_reducible refine Kept.alloc ?_ _) | (with_reducible refine Kept.drew ?_) | (with_reducible refine Kept.drewN ?_ _) | (with_reducible refine Kept.setCell ?_ ?_ _) | (with_reducible refine Kept.trans ?_ (by with_reducible assumption)) | (simp only [World.size_alloc, World.size_setCell, World.size_drew, size_drewN]; omega) | omega | (dsimp only; omega)))⟩
set_option maxHeartbeats 400000 in
theorem Factor_bad (s : ByteArray) (de ex co fr t p : Int) (w : World) (hs : s.size ≤ 140737488351232) (hsp : Spans w) (h : ¬ pOk s de ex co fr) :
    Calls Tryd.prog 39 #[prd s de ex co fr, cnd t p] w (RetIE 0 9 w) := by
  have hv : pValid s de ex co fr = false := by rw [← Bool.not_eq_true, pValid_iff]; exact h
  clear h
  go_enter Tryd.func39, Tryd.ntmps39
  go_wp2_with fail
  refine (prodValid_any _ _ _ _ _ _ hs (Box.kept hsp (by repeat (first | (with_reducible exact Kept.refl _) | (with_reducible assumption) | (with_reducible refine Kept.alloc ?_ _) | (with_reducible refine Kept.drew ?_) | (with_reducible refine Kept.drewN ?_ _) | (with_reducible refine Kept.setCell ?_ ?_ _) | (with_reducible refine Kept.trans ?_ (by with_reducible assumption)) | (simp only [World.size_alloc, World.size_setCell, World.size_drew, size_drewN]; omega) | omega | (dsimp only; omega))))).mono ?_
  rintro e v1 ⟨rfl, c1⟩
  have c1_c := (kcell c1).1; have c1_f := (kcell c1).2; have c1_z := c1.size; try simp only [World.size_alloc, World.size_setCell, World.size_drew, size_drewN] at c1_c c1_f c1_z
  rw [hv]
  go_wp2
  go_ret2
  exact ⟨rfl, (by repeat (first | (with_reducible exact Kept.refl _) | (with_reducible assumption) | (with_reducible refine Kept.alloc ?_ _) | (with_reducible refine Kept.drew ?_) | (with_reducible refine Kept.drewN ?_ _) | (with_reducible refine Kept.setCell ?_ ?_ _) | (with_reducible refine Kept.trans ?_ (by with_reducible assumption)) | (simp only [World.size_alloc, World.size_setCell, World.size_drew, size_drewN]; omega) | omega | (dsimp only; omega)))⟩

/-- A volume and a factor in their ranges. -/
def vfOk (g f : Int) : Prop := (0 ≤ g ∧ g ≤ 1099511627776) ∧ (1 ≤ f ∧ f ≤ 2000000)
instance (g f : Int) : Decidable (vfOk g f) := by unfold vfOk; infer_instance
def vfB (g f : Int) : Bool := decide (vfOk g f)
set_option maxHeartbeats 400000 in
theorem right_any (g f : Int) (w : World) : Calls Tryd.prog 56 #[.int .i64 g, .int .i64 f] w fun e w' => e = .returned (.bool (vfB g f)) ∧ w = w' := by
  go_enter Tryd.func56, Tryd.ntmps56
  go_wp2
  all_goals
    go_ret
    exact ⟨ret_b (by first | exact (decide_eq_false (by unfold vfOk; omega)).symm | exact decide_eq_decide.2 (by unfold vfOk; omega)), rfl⟩
theorem vf_mul {g f : Int} (h : vfOk g f) : 0 ≤ g * f ∧ g * f ≤ 2199023255552000000 := by
  have := mul_rng (E := 1099511627776) (D1 := 0) (D2 := 2000000) h.1.1 h.1.2 (show 0 ≤ f by have := h.2; omega) h.2.2 (by omega) (by omega)
  omega
def stdV (g f : Int) : Int := hf (g * f) 1000000
def grsV (v f : Int) : Int := hf (v * 1000000) f

set_option maxHeartbeats 400000 in
theorem Standard_in (g f : Int) (w : World) (h : vfOk g f) : Calls Tryd.prog 40 #[.int .i64 g, .int .i64 f] w (RetIE (stdV g f) 0 w) := by
  have hb : vfB g f = true := decide_eq_true h
  have m := vf_mul h
  clear h
  go_enter Tryd.func40, Tryd.ntmps40
  go_wp2_with fail
  refine (right_any _ _ _).mono ?_
  rintro e w' ⟨rfl, rfl⟩
  rw [hb]
  go_wp2_with fail
  refine (Half_ret _ _ _ (by omega) (by omega) (by omega) (by omega)).mono ?_
  rintro e v1 ⟨rfl, c1⟩
  have c1_c := (kcell c1).1; have c1_f := (kcell c1).2; have c1_z := c1.size; try simp only [World.size_alloc, World.size_setCell, World.size_drew, size_drewN] at c1_c c1_f c1_z
  go_wp2
  go_ret2
  exact ⟨rfl, (by repeat (first | (with_reducible exact Kept.refl _) | (with_reducible assumption) | (with_reducible refine Kept.alloc ?_ _) | (with_reducible refine Kept.drew ?_) | (with_reducible refine Kept.drewN ?_ _) | (with_reducible refine Kept.setCell ?_ ?_ _) | (with_reducible refine Kept.trans ?_ (by with_reducible assumption)) | (simp only [World.size_alloc, World.size_setCell, World.size_drew, size_drewN]; omega) | omega | (dsimp only; omega)))⟩
set_option maxHeartbeats 400000 in
theorem Standard_out (g f : Int) (w : World) (h : ¬ vfOk g f) : Calls Tryd.prog 40 #[.int .i64 g, .int .i64 f] w (RetIE 0 1 w) := by
  have hb : vfB g f = false := decide_eq_false h
  clear h
  go_enter Tryd.func40, Tryd.ntmps40
  go_wp2_with fail
  refine (right_any _ _ _).mono ?_
  rintro e w' ⟨rfl, rfl⟩
  rw [hb]
  go_wp2
  go_ret2
  exact ⟨rfl, (by repeat (first | (with_reducible exact Kept.refl _) | (with_reducible assumption) | (with_reducible refine Kept.alloc ?_ _) | (with_reducible refine Kept.drew ?_) | (with_reducible refine Kept.drewN ?_ _) | (with_reducible refine Kept.setCell ?_ ?_ _) | (with_reducible refine Kept.trans ?_ (by with_reducible assumption)) | (simp only [World.size_alloc, World.size_setCell, World.size_drew, size_drewN]; omega) | omega | (dsimp only; omega)))⟩

abbrev rng (v r : Int) : Value := .agg #[.int .i64 v, .int .i64 r]
/-- A sum and an error number. -/
def RetGE (v r e' : Int) (w : World) (e : Ending) (w' : World) : Prop := Ret (.tuple #[rng v r, .int .i64 e']) w e w'
def rOk (v r : Int) : Prop := (0 ≤ v ∧ v ≤ 1099511627776) ∧ (0 ≤ r ∧ r ≤ 999999)
instance (v r : Int) : Decidable (rOk v r) := by unfold rOk; infer_instance

set_option maxHeartbeats 1000000 in
theorem Add_in (v r g f : Int) (w : World) (hr : rOk v r) (h : vfOk g f) :
    Calls Tryd.prog 44 #[rng v r, .int .i64 g, .int .i64 f] w
      (if v + (g * f + r) / 1000000 ≤ 1099511627776 then RetGE (v + (g * f + r) / 1000000) ((g * f + r) % 1000000) 0 w else RetGE 0 0 4 w) := by
  have hb : vfB g f = true := decide_eq_true h
  have m := vf_mul h
  obtain ⟨⟨v0, v1⟩, r0, r1⟩ := hr
  clear h
  by_cases hl : v + (g * f + r) / 1000000 ≤ 1099511627776
  · rw [if_pos hl]
    go_enter Tryd.func44, Tryd.ntmps44
    go_wp2_with fail
    refine (right_any _ _ _).mono ?_
    rintro e w' ⟨rfl, rfl⟩
    rw [hb]
    go_wp2
    refine bodyPost_ret (v := .tuple #[rng (v + (g * f + r) / 1000000) ((g * f + r) % 1000000), .int .i64 0]) (by simp [results, Tryd.results44, go_sem, ↓IntWalk.iteOmega]) rfl ⟨rfl, (by repeat (first | (with_reducible exact Kept.refl _) | (with_reducible assumption) | (with_reducible refine Kept.alloc ?_ _) | (with_reducible refine Kept.drew ?_) | (with_reducible refine Kept.drewN ?_ _) | (with_reducible refine Kept.setCell ?_ ?_ _) | (with_reducible refine Kept.trans ?_ (by with_reducible assumption)) | (simp only [World.size_alloc, World.size_setCell, World.size_drew, size_drewN]; omega) | omega | (dsimp only; omega)))⟩
  · rw [if_neg hl]
    go_enter Tryd.func44, Tryd.ntmps44
    go_wp2_with fail
    refine (right_any _ _ _).mono ?_
    rintro e w' ⟨rfl, rfl⟩
    rw [hb]
    go_wp2
    refine bodyPost_ret (v := .tuple #[rng 0 0, .int .i64 4]) (by simp [results, Tryd.results44, go_sem, ↓IntWalk.iteOmega]) rfl ⟨rfl, (by repeat (first | (with_reducible exact Kept.refl _) | (with_reducible assumption) | (with_reducible refine Kept.alloc ?_ _) | (with_reducible refine Kept.drew ?_) | (with_reducible refine Kept.drewN ?_ _) | (with_reducible refine Kept.setCell ?_ ?_ _) | (with_reducible refine Kept.trans ?_ (by with_reducible assumption)) | (simp only [World.size_alloc, World.size_setCell, World.size_drew, size_drewN]; omega) | omega | (dsimp only; omega)))⟩
set_option maxHeartbeats 1000000 in
theorem Add_range (v r g f : Int) (w : World) (hr : rOk v r) (h : ¬ vfOk g f) :
    Calls Tryd.prog 44 #[rng v r, .int .i64 g, .int .i64 f] w (RetGE 0 0 1 w) := by
  have hb : vfB g f = false := decide_eq_false h
  obtain ⟨⟨v0, v1⟩, r0, r1⟩ := hr
  clear h
  go_enter Tryd.func44, Tryd.ntmps44
  go_wp2_with fail
  refine (right_any _ _ _).mono ?_
  rintro e w' ⟨rfl, rfl⟩
  rw [hb]
  go_wp2
  refine bodyPost_ret (v := .tuple #[rng 0 0, .int .i64 1]) (by simp [results, Tryd.results44, go_sem, ↓IntWalk.iteOmega]) rfl ⟨rfl, (by repeat (first | (with_reducible exact Kept.refl _) | (with_reducible assumption) | (with_reducible refine Kept.alloc ?_ _) | (with_reducible refine Kept.drew ?_) | (with_reducible refine Kept.drewN ?_ _) | (with_reducible refine Kept.setCell ?_ ?_ _) | (with_reducible refine Kept.trans ?_ (by with_reducible assumption)) | (simp only [World.size_alloc, World.size_setCell, World.size_drew, size_drewN]; omega) | omega | (dsimp only; omega)))⟩
set_option maxHeartbeats 1000000 in
theorem Add_bad (v r g f : Int) (w : World) (hr : ¬ rOk v r) :
    Calls Tryd.prog 44 #[rng v r, .int .i64 g, .int .i64 f] w (RetGE 0 0 9 w) := by
  have hc : v < 0 ∨ (0 ≤ v ∧ 1099511627776 < v) ∨ ((0 ≤ v ∧ v ≤ 1099511627776) ∧ r < 0) ∨ ((0 ≤ v ∧ v ≤ 1099511627776) ∧ 0 ≤ r ∧ 1000000 ≤ r) := by unfold rOk at hr; omega
  clear hr
  rcases hc with h1 | h1 | h1 | h1
  all_goals
    go_enter Tryd.func44, Tryd.ntmps44
    go_wp2
    refine bodyPost_ret (v := .tuple #[rng 0 0, .int .i64 9]) (by simp [results, Tryd.results44, go_sem, ↓IntWalk.iteOmega]) rfl ⟨rfl, (by repeat (first | (with_reducible exact Kept.refl _) | (with_reducible assumption) | (with_reducible refine Kept.alloc ?_ _) | (with_reducible refine Kept.drew ?_) | (with_reducible refine Kept.drewN ?_ _) | (with_reducible refine Kept.setCell ?_ ?_ _) | (with_reducible refine Kept.trans ?_ (by with_reducible assumption)) | (simp only [World.size_alloc, World.size_setCell, World.size_drew, size_drewN]; omega) | omega | (dsimp only; omega)))⟩
end Go.Proofs.YtbclfphnhbmhoaaDoor
