/- PackMade: Pk9 PkA Vr Vz PkF CodePS Pk8 Spn. -/
import Derived.Test.YtehmmnnmkapfeaaDoorCx13
import Derived.Test.YtehmmnnmkapfeaaDoorCx15
import Derived.Test.YtehmmnnmkapfeaaDoorCx4
import Derived.Test.YtehmmnnmkapfeaaDoorCx5
import Derived.Test.YtehmmnnmkapfeaaDoorCx3
import Derived.Test.YtehmmnnmkapfeaaDoorProg
import Derived.Test.YtehmmnnmkapfeaaDoorRows
set_option linter.defProp false
set_option linter.unusedSimpArgs false
set_option linter.unusedVariables false
set_option maxRecDepth 100000

/- Tables of products and batches, fills, out of a source. -/
namespace Go.Proofs.YtehmmnnmkapfeaaDoor
open Go
structure PrdsIn (l : List Prd) : Prop where
  len : 1 ≤ l.length ∧ l.length ≤ 4
  at' : ∀ j : Nat, j < l.length → PrdIn (j : Int) (pdA l j)
structure BatsIn (n np : Int) (l : List Bat) : Prop where
  len : (l.length : Int) = n
  at' : ∀ b, b ∈ l → 0 ≤ b.pr ∧ b.pr < np
def PoT : Tbl := tc 13 (rowSrc selPd Prd.enc) T2
theorem PoT_ok : TblOk Tryd.prog PoT := tc_prod T2_ok
theorem pd_left {l : List Prd} {c : Prd} {j : Nat} (h : j < l.length) : pdA (l ++ [c]) j = pdA l j := by
  unfold pdA
  rw [List.getD_eq_getElem?_getD, List.getD_eq_getElem?_getD, List.getElem?_append_left h]
theorem pd_right (l : List Prd) (c : Prd) : pdA (l ++ [c]) l.length = c := by
  unfold pdA
  rw [List.getD_eq_getElem?_getD, List.getElem?_append_right (Nat.le_refl _), Nat.sub_self]
  rfl
def PoF (i nn : Nm) (g n : Nat) (k : Int) : List (Nat × D) := [(0, .ptr i 0 0 0), (3, .own nn g 0 n), (4, di k)]
def PoH (i nn : Nm) (L : List (List D)) (at' : Int) (g : Nat) (l : List Prd) : Hp := (Hp.none.put nn ⟨g, 5, l.map Prd.row⟩).put i (sE L at')
def PoI (i nn : Nm) (L : List (List D)) (K : Nat) (k : Nat) (s : St) : Prop := ∃ at' g l, SrcOk L at' ∧ (∀ j : Nat, j < l.length → PrdIn (j : Int) (pdA l j)) ∧ l.length + k = K ∧ s = ⟨fr (PoF i nn g l.length k), PoH i nn L at' g l⟩
set_option maxHeartbeats 8000000 in
theorem Products_o : ∀ i L at' nn, SrcOk L at' → nn.1 ≤ i.1 → nn ≠ i → CallsA Tryd.prog 29 [.ptr i 0 0 0] (Hp.none.put i (sE L at')) nn (SrcO i nn L 5 Prd.row PrdsIn) := by
  intro i L at' nn ho hn1 hn2
  have hn3 : ¬ i = nn := fun e => hn2 e.symm
  have hn4 : ∀ t : Nat, ¬ nn = (i.1 + 1, t) := fun t e => by rw [e] at hn1; dsimp only at hn1; omega
  have hn5 : ∀ t : Nat, ¬ (i.1 + 1, t) = nn := fun t e => hn4 t e.symm
  have hn6 : ¬ nn = i := hn2
  obtain ⟨code, h1, h2⟩ := c29_ok
  refine callsA_of PoT_ok mixed (N := fun t => if t = 17 then nn else (i.1 + 1, t)) Tryd.func29 h1 h2 r29_ok [i, nn] true (js_two i nn _) (js_two' i nn _) (by simp [Tryd.f29]) ?_
  simp (maxSteps:=500000) only [↓vp, vv, ↓reduceIte, simprocAttr, c29, r29, c29_1, c29_2, c29_3, hn3, hn4, hn5, hn6, PoT, T2, T1, selRange, ho]
  intro a1 K hK
  unfold RPost at hK
  rw [vc_loop]
  refine ⟨PoI i nn L K.toNat, ⟨K.toNat, _, (weak_own 3 nn 5 (by simp (maxSteps:=500000) only [↓vp, vv, ↓reduceIte, simprocAttr, ]) (by simp (maxSteps:=500000) only [↓vp, vv, ↓reduceIte, simprocAttr, hn3, hn4, hn5, hn6])).trans (weak_eq [] [i, nn] (PoF i nn 0 0 K) (by simp (maxSteps:=500000) only [↓vp, vv, ↓reduceIte, simprocAttr, coverS, PoF, hn3, hn4, hn5, hn6]) (by simp (maxSteps:=500000) only [↓vp, vv, ↓reduceIte, simprocAttr, refsF, PoF, hn3, hn4, hn5, hn6]) (by simp (maxSteps:=500000) only [↓vp, vv, ↓reduceIte, simprocAttr, PoF, hn3, hn4, hn5, hn6]) (by simp) (by simp (maxSteps:=500000) only [↓vp, vv, ↓reduceIte, simprocAttr, PoF, hn3, hn4, hn5, hn6]; try rfl)), a1.1, 0, [], a1.2, fun j hj => (by cases hj), by simp, by rw [show ((K.toNat : Nat) : Int) = K by omega]; rfl⟩, ?_⟩
  rintro k s ⟨at1, g, l, o1, hl, hlk, rfl⟩
  by_cases hk : (0 : Int) < k
  · have y1 : (l.length + 1) * 48 ≤ 140737488355328 := by omega
    have y2 : l.length + 1 ≤ 4611686018427387904 := by omega
    have w1 : IntKind.i64.wrap ((k : Int) - 1) = ((k - 1 : Nat) : Int) := by rw [wrap_i (by omega)]; omega
    have w3 : (l.length : Int) < 26 := by omega
    simp (maxSteps:=500000) only [↓vp, vv, ↓reduceIte, simprocAttr, c29, r29, c29_1, c29_2, c29_3, hn3, hn4, hn5, hn6, PoT, T2, T1, selRange, selPd, o1, PoF, PoH, hk, y1, y2, w3, idx_nn, Prd.enc, Prd.row]
    intro a2 p hp
    refine ⟨k - 1, ⟨fr (PoF i nn (g + 1) (l ++ [p]).length ((k - 1 : Nat) : Int)), PoH i nn L a2.1 (g + 1) (l ++ [p])⟩, by omega, ?_, a2.1, g + 1, l ++ [p], a2.2, fun j hj => ?_, by simp; omega, rfl⟩
    · exact (weak_eq [] [i, nn] (PoF i nn (g + 1) (l ++ [p]).length ((k - 1 : Nat) : Int)) (by simp (maxSteps:=500000) only [↓vp, vv, ↓reduceIte, simprocAttr, coverS, PoF, PoH, Prd.row, hn3, hn4, hn5, hn6, w1, List.map_append, List.map_cons, List.map_nil, List.length_append, List.length_cons, List.length_nil]) (by simp (maxSteps:=500000) only [↓vp, vv, ↓reduceIte, simprocAttr, refsF, PoF, PoH, Prd.row, hn3, hn4, hn5, hn6, w1, List.map_append, List.map_cons, List.map_nil, List.length_append, List.length_cons, List.length_nil]) (by simp (maxSteps:=500000) only [↓vp, vv, ↓reduceIte, simprocAttr, PoF, PoH, Prd.row, hn3, hn4, hn5, hn6, w1, List.map_append, List.map_cons, List.map_nil, List.length_append, List.length_cons, List.length_nil]) (by simp) (by simp (maxSteps:=500000) only [↓vp, vv, ↓reduceIte, simprocAttr, PoF, PoH, Prd.row, hn3, hn4, hn5, hn6, w1, List.map_append, List.map_cons, List.map_nil, List.length_append, List.length_cons, List.length_nil]; try rfl))
    · simp only [List.length_append, List.length_cons, List.length_nil] at hj
      by_cases h : j < l.length
      · rw [pd_left h]; exact hl j h
      · obtain rfl : j = l.length := by omega
        rw [pd_right]; exact hp
  · have tk : (l.map Prd.row).take l.length = l.map Prd.row := List.take_of_length_le (by simp)
    simp (maxSteps:=500000) only [↓vp, vv, ↓reduceIte, simprocAttr, c29, r29, c29_1, c29_2, c29_3, r29, hn3, hn4, hn5, hn6, PoT, T2, T1, o1, PoF, PoH, hk, tk]
    exact ⟨fun j hj => rfl, at1, g, l, o1, ⟨by omega, hl⟩, rfl, rfl⟩
def BoF (i nn : Nm) (n np : Int) (g m : Nat) (j : Int) : List (Nat × D) := [(0, .ptr i 0 0 0), (1, di n), (2, di np), (7, .own nn g 0 m), (8, di j)]
def BoH (i nn : Nm) (L : List (List D)) (at' : Int) (g : Nat) (l : List Bat) : Hp := (Hp.none.put nn ⟨g, 4, l.map Bat.row⟩).put i (sE L at')
set_option maxHeartbeats 8000000 in
theorem Batches_o (n np : Int) (h0 : 0 ≤ n ∧ n ≤ 100) (h3 : 1 ≤ np ∧ np ≤ 100) : ∀ i L at' nn, SrcOk L at' → nn.1 ≤ i.1 → nn ≠ i → CallsA Tryd.prog 30 [.ptr i 0 0 0, di n, di np] (Hp.none.put i (sE L at')) nn (SrcO i nn L 4 Bat.row (BatsIn n np)) := by
  intro i L at' nn ho hn1 hn2
  have hn3 : ¬ i = nn := fun e => hn2 e.symm
  have hn4 : ∀ t : Nat, ¬ nn = (i.1 + 1, t) := fun t e => by rw [e] at hn1; dsimp only at hn1; omega
  have hn5 : ∀ t : Nat, ¬ (i.1 + 1, t) = nn := fun t e => hn4 t e.symm
  have hn6 : ¬ nn = i := hn2
  have i1 : InI np := by unfold InI; omega
  have i2 : InI 3 := by unfold InI; decide
  obtain ⟨code, h1, h2⟩ := c30_ok
  refine callsA_of T2_ok mixed (N := fun t => if t = 23 then nn else (i.1 + 1, t)) Tryd.func30 h1 h2 r30_ok [i, nn] true (js_two i nn _) (js_two' i nn _) (by simp [Tryd.f30]) ?_
  simp (maxSteps:=500000) only [↓vp, vv, ↓reduceIte, simprocAttr, c30, r30, c30_1, c30_2, c30_3, hn3, hn4, hn5, hn6, T2, T1, ho]
  refine rng_loopP n.toNat (fun j (u : SA L × Nat × List Bat) => ⟨fr (BoF i nn n np u.2.1 u.2.2.length (j : Nat)), BoH i nn L u.1.1 u.2.1 u.2.2⟩) (fun j u => u.2.2.length = j ∧ ∀ b, b ∈ u.2.2 → 0 ≤ b.pr ∧ b.pr < np) (u0 := (⟨at', ho⟩, 0, [])) ((weak_own 7 nn 4 (by simp (maxSteps:=500000) only [↓vp, vv, ↓reduceIte, simprocAttr, ]) (by simp (maxSteps:=500000) only [↓vp, vv, ↓reduceIte, simprocAttr, hn3, hn4, hn5, hn6])).trans (weak_eq [] [i, nn] (BoF i nn n np 0 0 0) (by simp (maxSteps:=500000) only [↓vp, vv, ↓reduceIte, simprocAttr, coverS, BoF, BoH, hn3, hn4, hn5, hn6, List.map_nil, List.length_nil]) (by simp (maxSteps:=500000) only [↓vp, vv, ↓reduceIte, simprocAttr, refsF, BoF, BoH, hn3, hn4, hn5, hn6, List.map_nil, List.length_nil]) (by simp (maxSteps:=500000) only [↓vp, vv, ↓reduceIte, simprocAttr, BoF, BoH, hn3, hn4, hn5, hn6, List.map_nil, List.length_nil]) (by simp) (by simp (maxSteps:=500000) only [↓vp, vv, ↓reduceIte, simprocAttr, BoF, BoH, hn3, hn4, hn5, hn6, List.map_nil, List.length_nil]; try rfl))) ⟨rfl, fun b hb => (by cases hb)⟩ (fun j hj u hP => ?_) (fun u hP => ?_)
  · obtain ⟨a1, g, l⟩ := u
    obtain ⟨h4, h5⟩ := hP
    dsimp only at h4 h5
    have oa := a1.2
    have hj' : (j : Int) < n := by omega
    have w1 := idx_next (j := j) (by omega)
    have y1 : (l.length + 1) * 40 ≤ 140737488355328 := by omega
    have y2 : l.length + 1 ≤ 4611686018427387904 := by omega
    simp (maxSteps:=500000) only [↓vp, vv, ↓reduceIte, simprocAttr, c30, r30, c30_1, c30_2, c30_3, hn3, hn4, hn5, hn6, T2, T1, selI, selName, i1, i2, oa, BoF, BoH, hj', y1, y2]
    intro a2 x hx a3 y hy
    unfold NPost at hx hy
    refine ⟨by decide, ?_⟩
    have nx : (l ++ [(⟨x, nm1B ⟨#[102]⟩ y, 0, 1⟩ : Bat)]).length = j + 1 ∧ ∀ b, b ∈ l ++ [(⟨x, nm1B ⟨#[102]⟩ y, 0, 1⟩ : Bat)] → 0 ≤ b.pr ∧ b.pr < np := ⟨by simp; omega, fun b hb => by
      rcases List.mem_append.1 hb with hb | hb
      · exact h5 b hb
      · rw [List.mem_singleton.1 hb]; dsimp only; omega⟩
    refine rng_nextP hj (a3, g + 1, l ++ [(⟨x, nm1B ⟨#[102]⟩ y, 0, 1⟩ : Bat)]) ?_ nx
    exact (weak_eq [] [i, nn] (BoF i nn n np (g + 1) (l ++ [(⟨x, nm1B ⟨#[102]⟩ y, 0, 1⟩ : Bat)]).length ((j + 1 : Nat) : Int)) (by simp (maxSteps:=500000) only [↓vp, vv, ↓reduceIte, simprocAttr, coverS, BoF, BoH, Bat.row, hn3, hn4, hn5, hn6, w1, List.map_append, List.map_cons, List.map_nil, List.length_append, List.length_cons, List.length_nil]) (by simp (maxSteps:=500000) only [↓vp, vv, ↓reduceIte, simprocAttr, refsF, BoF, BoH, Bat.row, hn3, hn4, hn5, hn6, w1, List.map_append, List.map_cons, List.map_nil, List.length_append, List.length_cons, List.length_nil]) (by simp (maxSteps:=500000) only [↓vp, vv, ↓reduceIte, simprocAttr, BoF, BoH, Bat.row, hn3, hn4, hn5, hn6, w1, List.map_append, List.map_cons, List.map_nil, List.length_append, List.length_cons, List.length_nil]) (by simp) (by simp (maxSteps:=500000) only [↓vp, vv, ↓reduceIte, simprocAttr, BoF, BoH, Bat.row, hn3, hn4, hn5, hn6, w1, List.map_append, List.map_cons, List.map_nil, List.length_append, List.length_cons, List.length_nil]; try rfl))
  · obtain ⟨a1, g, l⟩ := u
    obtain ⟨h4, h5⟩ := hP
    dsimp only at h4 h5
    have tk : (l.map Bat.row).take l.length = l.map Bat.row := List.take_of_length_le (by simp)
    have hj' : ¬ ((n.toNat : Nat) : Int) < n := by omega
    simp (maxSteps:=500000) only [↓vp, vv, ↓reduceIte, simprocAttr, c30, r30, c30_1, c30_2, c30_3, r30, hn3, hn4, hn5, hn6, T2, T1, BoF, BoH, hj', tk]
    exact ⟨fun j hj => rfl, a1.1, g, l, a1.2, ⟨by omega, h5⟩, rfl, rfl⟩
def volS (l : List Pce) : Int := (l.map (·.vo)).sum
structure FillP (v : Int) (l : List Pce) (vol : Int) : Prop where
  len : l.length ≤ 12
  at' : ∀ p, p ∈ l → (0 ≤ p.ba ∧ p.ba < 4) ∧ 1 ≤ p.vo
  nb : ∀ j, j + 1 < l.length → (pcA l j).ba ≠ (pcA l (j + 1)).ba
  sum : volS l + vol = v
  v0 : 0 ≤ vol
  fin : l.length = 12 → vol = 0
  le : vol ≤ v
structure FillIn (v : Int) (l : List Pce) : Prop where
  len : l.length ≤ 12
  at' : ∀ p, p ∈ l → (0 ≤ p.ba ∧ p.ba < 4) ∧ 1 ≤ p.vo
  nb : ∀ j, j + 1 < l.length → (pcA l j).ba ≠ (pcA l (j + 1)).ba
  sum : volS l = v
theorem pc_left {l : List Pce} {c : Pce} {j : Nat} (h : j < l.length) : pcA (l ++ [c]) j = pcA l j := by
  unfold pcA
  rw [List.getD_eq_getElem?_getD, List.getD_eq_getElem?_getD, List.getElem?_append_left h]
theorem pc_right (l : List Pce) (c : Pce) : pcA (l ++ [c]) l.length = c := by
  unfold pcA
  rw [List.getD_eq_getElem?_getD, List.getElem?_append_right (Nat.le_refl _), Nat.sub_self]
  rfl
theorem volS_app (l : List Pce) (p : Pce) : volS (l ++ [p]) = volS l + p.vo := by
  unfold volS
  induction l with
  | nil => simp
  | cons y l ih => rw [List.cons_append, List.map_cons, List.map_cons, List.sum_cons, List.sum_cons, ih]; omega
theorem fill_next {v : Int} {l : List Pce} {vol : Int} (h : FillP v l vol) (hl : l.length < 12) {x z : Int} (hx : 0 ≤ x ∧ x < 4) (hz : 1 ≤ z ∧ z ≤ vol) (hn : 0 < l.length → (pcA l (l.length - 1)).ba ≠ x) (he : l.length = 11 → z = vol) : FillP v (l ++ [⟨x, z⟩]) (vol - z) := by
  refine ⟨by simp; omega, fun p hp => ?_, fun j hj => ?_, ?_, by omega, fun e => ?_, by have := h.le; omega⟩
  · rcases List.mem_append.1 hp with hp | hp
    · exact h.at' p hp
    · rw [List.mem_singleton.1 hp]; exact ⟨hx, hz.1⟩
  · simp only [List.length_append, List.length_cons, List.length_nil] at hj
    by_cases hjl : j + 1 < l.length
    · rw [pc_left hjl, pc_left (by omega)]; exact h.nb j hjl
    · have e : l.length = j + 1 := by omega
      have hr := pc_right l ⟨x, z⟩
      rw [e] at hr
      rw [hr, pc_left (by omega)]
      have := hn (by omega)
      rw [e, Nat.add_sub_cancel] at this
      exact this
  · rw [volS_app]; have := h.sum; dsimp only; omega
  · simp only [List.length_append, List.length_cons, List.length_nil] at e
    have := he (by omega)
    omega
def FoF (i nn : Nm) (vol : Int) (g m : Nat) : List (Nat × D) := [(0, .ptr i 0 0 0), (1, di vol), (2, di 4), (7, .own nn g 0 m)]
def FoH (i nn : Nm) (L : List (List D)) (at' : Int) (g : Nat) (l : List Pce) : Hp := (Hp.none.put nn ⟨g, 2, l.map Pce.row⟩).put i (sE L at')
def FoI (i nn : Nm) (L : List (List D)) (v : Int) (k : Nat) (s : St) : Prop := ∃ at' g l vol, SrcOk L at' ∧ FillP v l vol ∧ (k : Int) = vol ∧ s = ⟨fr (FoF i nn vol g l.length), FoH i nn L at' g l⟩
set_option maxHeartbeats 16000000 in
theorem Fill_o (v : Int) (hv : 1 ≤ v ∧ v ≤ 1000000) : ∀ i L at' nn, SrcOk L at' → nn.1 ≤ i.1 → nn ≠ i → CallsA Tryd.prog 31 [.ptr i 0 0 0, di v, di 4] (Hp.none.put i (sE L at')) nn (SrcO i nn L 2 Pce.row (FillIn v)) := by
  intro i L at' nn ho hn1 hn2
  have hn3 : ¬ i = nn := fun e => hn2 e.symm
  have hn4 : ∀ t : Nat, ¬ nn = (i.1 + 1, t) := fun t e => by rw [e] at hn1; dsimp only at hn1; omega
  have hn5 : ∀ t : Nat, ¬ (i.1 + 1, t) = nn := fun t e => hn4 t e.symm
  have hn6 : ¬ nn = i := hn2
  have i1 : InI 4 := by unfold InI; decide
  obtain ⟨code, h1, h2⟩ := c31_ok
  refine callsA_of T2_ok mixed (N := fun t => if t = 90 then nn else (i.1 + 1, t)) Tryd.func31 h1 h2 r31_ok [i, nn] true (js_two i nn _) (js_two' i nn _) (by simp [Tryd.f31]) ?_
  simp (maxSteps:=500000) only [↓vp, vv, ↓reduceIte, simprocAttr, c31, r31, c31_1, c31_2, c31_3, c31_4, c31_5, hn3, hn4, hn5, hn6, T2, T1, ho]
  rw [vc_loop]
  refine ⟨FoI i nn L v, ⟨v.toNat, _, (weak_own 7 nn 2 (by simp (maxSteps:=500000) only [↓vp, vv, ↓reduceIte, simprocAttr, ]) (by simp (maxSteps:=500000) only [↓vp, vv, ↓reduceIte, simprocAttr, hn3, hn4, hn5, hn6])).trans (weak_eq [] [i, nn] (FoF i nn v 0 0) (by simp (maxSteps:=500000) only [↓vp, vv, ↓reduceIte, simprocAttr, coverS, FoF, hn3, hn4, hn5, hn6]) (by simp (maxSteps:=500000) only [↓vp, vv, ↓reduceIte, simprocAttr, refsF, FoF, hn3, hn4, hn5, hn6]) (by simp (maxSteps:=500000) only [↓vp, vv, ↓reduceIte, simprocAttr, FoF, hn3, hn4, hn5, hn6]) (by simp) (by simp (maxSteps:=500000) only [↓vp, vv, ↓reduceIte, simprocAttr, FoF, hn3, hn4, hn5, hn6]; try rfl)), at', 0, [], v, ho, ⟨by simp, fun p hp => (by cases hp), fun j hj => (by simp at hj), by simp [volS], by omega, fun e => (by simp at e), Int.le_refl _⟩, by omega, rfl⟩, ?_⟩
  rintro k s ⟨at1, g, l, vol, o1, hl, hlk, rfl⟩
  have hlen := hl.len
  have hv0 := hl.v0
  have hvs : vol ≤ 1000000 := by have := hl.le; omega
  by_cases hk : (0 : Int) < vol
  · have hl2 : l.length < 12 := by
      rcases Nat.lt_or_ge l.length 12 with h | h
      · exact h
      · have := hl.fin (by omega); omega
    have hl2' : (l.length : Int) < 12 := by omega
    have w1 : IntKind.i64.wrap (vol * 2) = vol * 2 := wrap_i (by omega)
    have w2 : (vol * 2).tdiv 3 = vol * 2 / 3 := Int.tdiv_eq_ediv_of_nonneg (by omega)
    obtain ⟨q, hq⟩ : ∃ q, vol * 2 / 3 = q := ⟨_, rfl⟩
    have q0 : 0 ≤ q ∧ q ≤ 1000000 := by omega
    have y1 : (l.length + 1) * 16 ≤ 140737488355328 := by omega
    have y2 : l.length + 1 ≤ 4611686018427387904 := by omega
    have w3 : IntKind.i64.wrap q = q := wrap_i (by omega)
    obtain ⟨mm, hmm⟩ : ∃ mm, (if 1 < q then q else 1) = mm := ⟨_, rfl⟩
    have m0 : 1 ≤ mm ∧ mm ≤ 1000000 := by rw [← hmm]; split <;> omega
    have m1 : InI mm := by unfold InI; omega
    have m2 : InI (mm - 1) := by unfold InI; omega
    have m3 : mm - 1 < 9223372036854775807 := by omega
    by_cases h0 : l.length = 0
    · obtain rfl : l = [] := List.length_eq_zero_iff.1 h0
      simp (maxSteps:=500000) only [↓vp, vv, ↓reduceIte, simprocAttr, c31, r31, c31_1, c31_2, c31_3, c31_4, c31_5, hn3, hn4, hn5, hn6, T2, T1, selI, selRange, i1, m1, m2, m3, o1, FoF, FoH, hk, hl2', w1, w2, w3, hq, hmm, y1, y2, idx_nn, Int.toNat_natCast, List.length_nil]
      intro a2 x hx a3 y hy
      unfold NPost at hx
      unfold RPost at hy
      obtain ⟨z, hz⟩ : ∃ z, (if vol < y then vol else y) = z := ⟨_, rfl⟩
      have z0 : 1 ≤ z ∧ z ≤ vol := by rw [← hz]; split <;> omega
      have wz : IntKind.i64.wrap (vol - z) = vol - z := wrap_i (by omega)
      refine ⟨(vol - z).toNat, ⟨fr (FoF i nn (vol - z) (g + 1) (([] : List Pce) ++ [(⟨x, z⟩ : Pce)]).length), FoH i nn L a3.1 (g + 1) (([] : List Pce) ++ [(⟨x, z⟩ : Pce)])⟩, by omega, ?_, a3.1, g + 1, ([] : List Pce) ++ [(⟨x, z⟩ : Pce)], vol - z, a3.2, fill_next hl (by omega) (by omega) (by omega) (fun h => (by simp at h)) (fun h => (by simp at h)), by omega, rfl⟩
      exact (weak_eq [] [i, nn] (FoF i nn (vol - z) (g + 1) (([] : List Pce) ++ [(⟨x, z⟩ : Pce)]).length) (by simp (maxSteps:=500000) only [↓vp, vv, ↓reduceIte, simprocAttr, coverS, FoF, FoH, Pce.row, hn3, hn4, hn5, hn6, wz, hz, List.map_append, List.map_cons, List.map_nil, List.length_append, List.length_cons, List.length_nil]) (by simp (maxSteps:=500000) only [↓vp, vv, ↓reduceIte, simprocAttr, refsF, FoF, FoH, Pce.row, hn3, hn4, hn5, hn6, wz, hz, List.map_append, List.map_cons, List.map_nil, List.length_append, List.length_cons, List.length_nil]) (by simp (maxSteps:=500000) only [↓vp, vv, ↓reduceIte, simprocAttr, FoF, FoH, Pce.row, hn3, hn4, hn5, hn6, wz, hz, List.map_append, List.map_cons, List.map_nil, List.length_append, List.length_cons, List.length_nil]) (by simp) (by simp (maxSteps:=500000) only [↓vp, vv, ↓reduceIte, simprocAttr, FoF, FoH, Pce.row, hn3, hn4, hn5, hn6, wz, hz, List.map_append, List.map_cons, List.map_nil, List.length_append, List.length_cons, List.length_nil]; try rfl))
    have c0 : (0 : Int) < l.length := by omega
    have wl : IntKind.i64.wrap ((l.length : Int) - 1) = ((l.length - 1 : Nat) : Int) := by rw [wrap_i (by omega)]; omega
    have c1 : ((l.length - 1 : Nat) : Int) < l.length := by omega
    have c2 : l.length - 1 < l.length := by omega
    have gl := pc_get c2
    have hlast := hl.at' (pcA l (l.length - 1)) (by rw [← pc_at c2]; exact List.getElem_mem c2)
    by_cases h11 : l.length = 11
    · have k11 : ((l.length : Int) == 11) = true := by rw [beq_iff_eq]; omega
      simp (maxSteps:=500000) only [↓vp, vv, ↓reduceIte, simprocAttr, c31, r31, c31_1, c31_2, c31_3, c31_4, c31_5, hn3, hn4, hn5, hn6, T2, T1, selI, selRange, i1, m1, m2, m3, o1, FoF, FoH, hk, hl2', w1, w2, w3, hq, hmm, y1, y2, idx_nn, Int.toNat_natCast, c0, wl, c1, c2, gl, k11, Int.lt_irrefl]
      intro a2 x hx a3 y hy
      unfold NPost at hx
      have wz : IntKind.i64.wrap (vol - vol) = vol - vol := wrap_i (by omega)
      have wx : IntKind.i64.wrap (x + 1) = x + 1 := wrap_i (by omega)
      have tx : (x + 1).tmod 4 = (x + 1) % 4 := Int.tmod_eq_emod_of_nonneg (by omega)
      split
      · rename_i hb
        have hb := eq_of_beq hb
        rw [wx, tx, if_neg (by rw [beq_iff_eq]; omega)]
        refine ⟨(vol - vol).toNat, ⟨fr (FoF i nn (vol - vol) (g + 1) (l ++ [(⟨(x + 1) % 4, vol⟩ : Pce)]).length), FoH i nn L a3.1 (g + 1) (l ++ [(⟨(x + 1) % 4, vol⟩ : Pce)])⟩, by omega, ?_, a3.1, g + 1, l ++ [(⟨(x + 1) % 4, vol⟩ : Pce)], vol - vol, a3.2, fill_next hl (by omega) (by omega) (by omega) (fun h => (by omega)) (by omega), by omega, rfl⟩
        exact (weak_eq [] [i, nn] (FoF i nn (vol - vol) (g + 1) (l ++ [(⟨(x + 1) % 4, vol⟩ : Pce)]).length) (by simp (maxSteps:=500000) only [↓vp, vv, ↓reduceIte, simprocAttr, coverS, FoF, FoH, Pce.row, hn3, hn4, hn5, hn6, wz, Int.lt_irrefl, wx, tx, List.map_append, List.map_cons, List.map_nil, List.length_append, List.length_cons, List.length_nil]) (by simp (maxSteps:=500000) only [↓vp, vv, ↓reduceIte, simprocAttr, refsF, FoF, FoH, Pce.row, hn3, hn4, hn5, hn6, wz, Int.lt_irrefl, wx, tx, List.map_append, List.map_cons, List.map_nil, List.length_append, List.length_cons, List.length_nil]) (by simp (maxSteps:=500000) only [↓vp, vv, ↓reduceIte, simprocAttr, FoF, FoH, Pce.row, hn3, hn4, hn5, hn6, wz, Int.lt_irrefl, wx, tx, List.map_append, List.map_cons, List.map_nil, List.length_append, List.length_cons, List.length_nil]) (by simp) (by simp (maxSteps:=500000) only [↓vp, vv, ↓reduceIte, simprocAttr, FoF, FoH, Pce.row, hn3, hn4, hn5, hn6, wz, Int.lt_irrefl, wx, tx, List.map_append, List.map_cons, List.map_nil, List.length_append, List.length_cons, List.length_nil]; try rfl))
      · rename_i hb
        have hb : (pcA l (l.length - 1)).ba ≠ x := fun e => hb (by rw [e]; exact beq_self_eq_true _)
        refine ⟨(vol - vol).toNat, ⟨fr (FoF i nn (vol - vol) (g + 1) (l ++ [(⟨x, vol⟩ : Pce)]).length), FoH i nn L a3.1 (g + 1) (l ++ [(⟨x, vol⟩ : Pce)])⟩, by omega, ?_, a3.1, g + 1, l ++ [(⟨x, vol⟩ : Pce)], vol - vol, a3.2, fill_next hl (by omega) (by omega) (by omega) (fun h => hb) (by omega), by omega, rfl⟩
        exact (weak_eq [] [i, nn] (FoF i nn (vol - vol) (g + 1) (l ++ [(⟨x, vol⟩ : Pce)]).length) (by simp (maxSteps:=500000) only [↓vp, vv, ↓reduceIte, simprocAttr, coverS, FoF, FoH, Pce.row, hn3, hn4, hn5, hn6, wz, Int.lt_irrefl, List.map_append, List.map_cons, List.map_nil, List.length_append, List.length_cons, List.length_nil]) (by simp (maxSteps:=500000) only [↓vp, vv, ↓reduceIte, simprocAttr, refsF, FoF, FoH, Pce.row, hn3, hn4, hn5, hn6, wz, Int.lt_irrefl, List.map_append, List.map_cons, List.map_nil, List.length_append, List.length_cons, List.length_nil]) (by simp (maxSteps:=500000) only [↓vp, vv, ↓reduceIte, simprocAttr, FoF, FoH, Pce.row, hn3, hn4, hn5, hn6, wz, Int.lt_irrefl, List.map_append, List.map_cons, List.map_nil, List.length_append, List.length_cons, List.length_nil]) (by simp) (by simp (maxSteps:=500000) only [↓vp, vv, ↓reduceIte, simprocAttr, FoF, FoH, Pce.row, hn3, hn4, hn5, hn6, wz, Int.lt_irrefl, List.map_append, List.map_cons, List.map_nil, List.length_append, List.length_cons, List.length_nil]; try rfl))
    · have k11 : ((l.length : Int) == 11) = false := by rw [beq_eq_false_iff_ne]; omega
      simp (maxSteps:=500000) only [↓vp, vv, ↓reduceIte, simprocAttr, c31, r31, c31_1, c31_2, c31_3, c31_4, c31_5, hn3, hn4, hn5, hn6, T2, T1, selI, selRange, i1, m1, m2, m3, o1, FoF, FoH, hk, hl2', w1, w2, w3, hq, hmm, y1, y2, idx_nn, Int.toNat_natCast, c0, wl, c1, c2, gl, k11, Int.lt_irrefl]
      intro a2 x hx a3 y hy
      unfold NPost at hx
      unfold RPost at hy
      obtain ⟨z, hz⟩ : ∃ z, (if vol < y then vol else y) = z := ⟨_, rfl⟩
      have z0 : 1 ≤ z ∧ z ≤ vol := by rw [← hz]; split <;> omega
      have wz : IntKind.i64.wrap (vol - z) = vol - z := wrap_i (by omega)
      have wx : IntKind.i64.wrap (x + 1) = x + 1 := wrap_i (by omega)
      have tx : (x + 1).tmod 4 = (x + 1) % 4 := Int.tmod_eq_emod_of_nonneg (by omega)
      split
      · rename_i hb
        have hb := eq_of_beq hb
        rw [wx, tx, if_neg (by rw [beq_iff_eq]; omega)]
        refine ⟨(vol - z).toNat, ⟨fr (FoF i nn (vol - z) (g + 1) (l ++ [(⟨(x + 1) % 4, z⟩ : Pce)]).length), FoH i nn L a3.1 (g + 1) (l ++ [(⟨(x + 1) % 4, z⟩ : Pce)])⟩, by omega, ?_, a3.1, g + 1, l ++ [(⟨(x + 1) % 4, z⟩ : Pce)], vol - z, a3.2, fill_next hl (by omega) (by omega) (by omega) (fun h => (by omega)) (by omega), by omega, rfl⟩
        exact (weak_eq [] [i, nn] (FoF i nn (vol - z) (g + 1) (l ++ [(⟨(x + 1) % 4, z⟩ : Pce)]).length) (by simp (maxSteps:=500000) only [↓vp, vv, ↓reduceIte, simprocAttr, coverS, FoF, FoH, Pce.row, hn3, hn4, hn5, hn6, wz, hz, wx, tx, List.map_append, List.map_cons, List.map_nil, List.length_append, List.length_cons, List.length_nil]) (by simp (maxSteps:=500000) only [↓vp, vv, ↓reduceIte, simprocAttr, refsF, FoF, FoH, Pce.row, hn3, hn4, hn5, hn6, wz, hz, wx, tx, List.map_append, List.map_cons, List.map_nil, List.length_append, List.length_cons, List.length_nil]) (by simp (maxSteps:=500000) only [↓vp, vv, ↓reduceIte, simprocAttr, FoF, FoH, Pce.row, hn3, hn4, hn5, hn6, wz, hz, wx, tx, List.map_append, List.map_cons, List.map_nil, List.length_append, List.length_cons, List.length_nil]) (by simp) (by simp (maxSteps:=500000) only [↓vp, vv, ↓reduceIte, simprocAttr, FoF, FoH, Pce.row, hn3, hn4, hn5, hn6, wz, hz, wx, tx, List.map_append, List.map_cons, List.map_nil, List.length_append, List.length_cons, List.length_nil]; try rfl))
      · rename_i hb
        have hb : (pcA l (l.length - 1)).ba ≠ x := fun e => hb (by rw [e]; exact beq_self_eq_true _)
        refine ⟨(vol - z).toNat, ⟨fr (FoF i nn (vol - z) (g + 1) (l ++ [(⟨x, z⟩ : Pce)]).length), FoH i nn L a3.1 (g + 1) (l ++ [(⟨x, z⟩ : Pce)])⟩, by omega, ?_, a3.1, g + 1, l ++ [(⟨x, z⟩ : Pce)], vol - z, a3.2, fill_next hl (by omega) (by omega) (by omega) (fun h => hb) (by omega), by omega, rfl⟩
        exact (weak_eq [] [i, nn] (FoF i nn (vol - z) (g + 1) (l ++ [(⟨x, z⟩ : Pce)]).length) (by simp (maxSteps:=500000) only [↓vp, vv, ↓reduceIte, simprocAttr, coverS, FoF, FoH, Pce.row, hn3, hn4, hn5, hn6, wz, hz, List.map_append, List.map_cons, List.map_nil, List.length_append, List.length_cons, List.length_nil]) (by simp (maxSteps:=500000) only [↓vp, vv, ↓reduceIte, simprocAttr, refsF, FoF, FoH, Pce.row, hn3, hn4, hn5, hn6, wz, hz, List.map_append, List.map_cons, List.map_nil, List.length_append, List.length_cons, List.length_nil]) (by simp (maxSteps:=500000) only [↓vp, vv, ↓reduceIte, simprocAttr, FoF, FoH, Pce.row, hn3, hn4, hn5, hn6, wz, hz, List.map_append, List.map_cons, List.map_nil, List.length_append, List.length_cons, List.length_nil]) (by simp) (by simp (maxSteps:=500000) only [↓vp, vv, ↓reduceIte, simprocAttr, FoF, FoH, Pce.row, hn3, hn4, hn5, hn6, wz, hz, List.map_append, List.map_cons, List.map_nil, List.length_append, List.length_cons, List.length_nil]; try rfl))
  · have hvz : vol = 0 := by omega
    subst hvz
    have tk : (l.map Pce.row).take l.length = l.map Pce.row := List.take_of_length_le (by simp)
    simp (maxSteps:=500000) only [↓vp, vv, ↓reduceIte, simprocAttr, c31, r31, c31_1, c31_2, c31_3, c31_4, c31_5, r31, hn3, hn4, hn5, hn6, T2, T1, o1, FoF, FoH, tk, Int.lt_irrefl]
    exact ⟨fun j hj => rfl, at1, g, l, o1, ⟨hlen, hl.at', hl.nb, by have := hl.sum; omega⟩, rfl, rfl⟩
def rowPdO : List D → Hp → Nm → Option (Prop × (D → Hp → Prop)) := fun args Hs nn =>
  match args with
  | [.ptr i g r c] =>
    match Hs i with
    | some ⟨_, _, [[.sl L, .v (.int .i64 at')]]⟩ => some ((Hs = Hp.none.put i (sE L at') ∧ g = 0 ∧ r = 0 ∧ c = 0) ∧ SrcOk L at' ∧ (nn.1 ≤ i.1 ∧ nn ≠ i), SrcO i nn L 5 Prd.row PrdsIn)
    | _ => Option.none
  | _ => Option.none
theorem prds_one : PrdsIn [⟨nm1B ⟨#[112]⟩ 0, 800, 0, 0, 1000⟩] := ⟨by simp, fun j hj => by
  obtain rfl : j = 0 := by simp at hj; exact hj
  exact ⟨rfl, by decide, by decide, by decide, by decide⟩⟩
theorem tc_pdO {T : Tbl} (hT : TblOk Tryd.prog T) : TblOk Tryd.prog (tc 29 rowPdO T) :=
  tc_row f29_ok (fun args Hs nn pre R hr hp => by
    unfold rowPdO at hr
    split at hr
    · split at hr
      · cases hr
        obtain ⟨⟨h1, rfl, rfl, rfl⟩, h2, h3⟩ := hp
        rw [h1]
        exact ⟨⟨_, _, _, 0, _, h2, prds_one, rfl, rfl⟩, Products_o _ _ _ _ h2 h3.1 h3.2⟩
      · cases hr
    · cases hr) hT
def rowBtO : List D → Hp → Nm → Option (Prop × (D → Hp → Prop)) := fun args Hs nn =>
  match args with
  | [.ptr i g r c, .v (.int .i64 n), .v (.int .i64 np)] =>
    match Hs i with
    | some ⟨_, _, [[.sl L, .v (.int .i64 at')]]⟩ => some ((Hs = Hp.none.put i (sE L at') ∧ g = 0 ∧ r = 0 ∧ c = 0) ∧ SrcOk L at' ∧ (nn.1 ≤ i.1 ∧ nn ≠ i) ∧ (0 ≤ n ∧ n ≤ 100) ∧ (1 ≤ np ∧ np ≤ 100), SrcO i nn L 4 Bat.row (BatsIn n np))
    | _ => Option.none
  | _ => Option.none
theorem bats_ex {n np : Int} (h : 0 ≤ n) (h2 : 1 ≤ np) : BatsIn n np (List.replicate n.toNat ⟨0, ⟨#[]⟩, 0, 1⟩) := ⟨by simp; omega, fun b hb => by
  rw [List.eq_of_mem_replicate hb]
  exact ⟨Int.le_refl _, by dsimp only; omega⟩⟩
theorem tc_btO {T : Tbl} (hT : TblOk Tryd.prog T) : TblOk Tryd.prog (tc 30 rowBtO T) :=
  tc_row f30_ok (fun args Hs nn pre R hr hp => by
    unfold rowBtO at hr
    split at hr
    · split at hr
      · cases hr
        obtain ⟨⟨h1, rfl, rfl, rfl⟩, h2, h3, h4, h5⟩ := hp
        rw [h1]
        exact ⟨⟨_, _, _, 0, _, h2, bats_ex h4.1 h5.1, rfl, rfl⟩, Batches_o _ _ h4 h5 _ _ _ _ h2 h3.1 h3.2⟩
      · cases hr
    · cases hr) hT
def rowFlO : List D → Hp → Nm → Option (Prop × (D → Hp → Prop)) := fun args Hs nn =>
  match args with
  | [.ptr i g r c, .v (.int .i64 v), .v (.int .i64 n)] =>
    match Hs i with
    | some ⟨_, _, [[.sl L, .v (.int .i64 at')]]⟩ => some ((Hs = Hp.none.put i (sE L at') ∧ g = 0 ∧ r = 0 ∧ c = 0) ∧ SrcOk L at' ∧ (nn.1 ≤ i.1 ∧ nn ≠ i) ∧ (1 ≤ v ∧ v ≤ 1000000) ∧ n = 4, SrcO i nn L 2 Pce.row (FillIn v))
    | _ => Option.none
  | _ => Option.none
theorem fill_ex {v : Int} (h : 1 ≤ v) : FillIn v [⟨0, v⟩] := ⟨by simp, fun p hp => by
  rw [List.mem_singleton.1 hp]
  exact ⟨⟨Int.le_refl _, by dsimp only; omega⟩, h⟩, fun j hj => by simp at hj, by simp [volS]⟩
theorem tc_flO {T : Tbl} (hT : TblOk Tryd.prog T) : TblOk Tryd.prog (tc 31 rowFlO T) :=
  tc_row f31_ok (fun args Hs nn pre R hr hp => by
    unfold rowFlO at hr
    split at hr
    · split at hr
      · cases hr
        obtain ⟨⟨h1, rfl, rfl, rfl⟩, h2, h3, h4, rfl⟩ := hp
        rw [h1]
        exact ⟨⟨_, _, _, 0, _, h2, fill_ex h4.1, rfl, rfl⟩, Fill_o _ h4 _ _ _ _ h2 h3.1 h3.2⟩
      · cases hr
    · cases hr) hT
/-! ### what holds of them -/
def rnm (i j k : Nm) : Nm := if k = i then j else k
mutual
def D.ren (i j : Nm) : D → D
  | .v x => .v x
  | .any => .any
  | .agg cs => .agg (renDs i j cs)
  | .tup cs => .tup (renDs i j cs)
  | .sl l => .sl l
  | .ip f => .ip f
  | .mt => .mt
  | .own k g off n => .own (rnm i j k) g off n
  | .ptr k g r c => .ptr (rnm i j k) g r c
  | .clo f fs cs => .clo f (renDs i j fs) (renDs i j cs)
def renDs (i j : Nm) : List D → List D
  | [] => []
  | d :: ds => d.ren i j :: renDs i j ds
end
theorem renDs_map (i j : Nm) : ∀ l : List D, renDs i j l = l.map (D.ren i j)
  | [] => by rw [renDs]; rfl
  | d :: l => by rw [renDs, renDs_map i j l]; rfl
def En.ren (i j : Nm) (e : En) : En := ⟨e.g, e.sz, e.rows.map (renDs i j)⟩
def Hp.ren (i j : Nm) (H : Hp) : Hp := fun k => if k = j then (match H i with | some e => some (e.ren i j) | Option.none => Option.none) else if k = i then Option.none else (match H k with | some e => some (e.ren i j) | Option.none => Option.none)
theorem ren_plain {Im : Nat → Prop} {h : Array Obj} {d : D} {x : Value} (r : RelP Im h d x) (i j : Nm) : d.ren i j = d := by
  cases r <;> rw [D.ren]
theorem hren_some {i j k : Nm} {H : Hp} {e : En} (hk : H k = some e) (hj : H j = Option.none) : (H.ren i j) (rnm i j k) = some (e.ren i j) := by
  unfold rnm Hp.ren
  by_cases h : k = i
  · subst h
    rw [if_pos rfl, if_pos rfl, hk]
  · rw [if_neg h, if_neg (fun e' => by rw [e', hj] at hk; cases hk), if_neg h, hk]
theorem prn {p : Pl} {i j k : Nm} {H : Hp} {e : En} (hk : H k = some e) (hj : H j = Option.none) : (p.put j (p i)) (rnm i j k) = p k := by
  unfold rnm
  by_cases h : k = i
  · subst h
    rw [if_pos rfl, Pl.put_same]
  · rw [if_neg h, Pl.put_other _ (fun e' => by rw [e', hj] at hk; cases hk)]
theorem Rel.ren {Im : Nat → Prop} {p : Pl} {H : Hp} {h : Array Obj} {d : D} {x : Value} (i j : Nm) (hj : H j = Option.none) (r : Rel Im p H h d x) : Rel Im (p.put j (p i)) (H.ren i j) h (d.ren i j) x := by
  induction r with
  | p r => rw [ren_plain r]; exact .p r
  | agg cs us hl h1 hr ih =>
    rw [D.ren, renDs_map]
    refine .agg _ us (by simpa using hl) h1 fun m d u hd hu => ?_
    rw [List.getElem?_map] at hd
    cases e : cs[m]? with
    | none => rw [e] at hd; cases hd
    | some d' => rw [e] at hd; cases hd; exact ih m d' u e hu
  | tup cs us hl hr ih =>
    rw [D.ren, renDs_map]
    refine .tup _ us (by simpa using hl) fun m d u hd hu => ?_
    rw [List.getElem?_map] at hd
    cases e : cs[m]? with
    | none => rw [e] at hd; cases hd
    | some d' => rw [e] at hd; cases hd; exact ih m d' u e hu
  | ip f b o u him hcell hr => rw [D.ren]; exact .ip f b o u him hcell hr
  | own k g off n a cap e hH hg hn hl =>
    rw [D.ren]
    refine .own _ g off n a cap _ (hren_some hH hj) hg hn fun hge hc => ?_
    obtain ⟨q1, q2, c, t, q3, q4⟩ := hl hge hc
    rw [prn hH hj]
    exact ⟨q1, by simpa [En.ren] using q2, c, t, q3, q4⟩
  | ptr k g r c x h1 e hH hg hx =>
    rw [D.ren]
    refine .ptr _ g r c x h1 _ (hren_some hH hj) hg fun hge => ?_
    rw [prn hH hj]
    exact hx hge
  | clo f fs cs us vs hl hl' hr hr' ih ih' =>
    rw [D.ren, renDs_map, renDs_map]
    refine .clo f _ _ us vs (by simpa using hl) (by simpa using hl') (fun m d u hd hu => ?_) fun m d u hd hu => ?_
    · rw [List.getElem?_map] at hd
      cases e : fs[m]? with
      | none => rw [e] at hd; cases hd
      | some d' => rw [e] at hd; cases hd; exact ih m d' u e hu
    · rw [List.getElem?_map] at hd
      cases e : cs[m]? with
      | none => rw [e] at hd; cases hd
      | some d' => rw [e] at hd; cases hd; exact ih' m d' u e hu
theorem hren_inv {i j k : Nm} {H : Hp} {e : En} (hj : H j = Option.none) (hk : (H.ren i j) k = some e) : ∃ k' e', H k' = some e' ∧ k = rnm i j k' ∧ e = e'.ren i j := by
  unfold Hp.ren at hk
  split at hk
  · rename_i h
    split at hk
    · rename_i e' h'
      cases hk
      exact ⟨i, e', h', by unfold rnm; rw [if_pos rfl, h], rfl⟩
    · cases hk
  · rename_i h
    split at hk
    · cases hk
    · rename_i h2
      split at hk
      · rename_i e' h'
        cases hk
        exact ⟨k, e', h', by unfold rnm; rw [if_neg h2], rfl⟩
      · cases hk
theorem RowsAt.ren {Im : Nat → Prop} {p : Pl} {H : Hp} {h : Array Obj} {c : Array Value} {s sz : Nat} {rows : List (List D)} (i j : Nm) (hj : H j = Option.none) (r : RowsAt Im p H h c s sz rows) : RowsAt Im (p.put j (p i)) (H.ren i j) h c s sz (rows.map (renDs i j)) := by
  refine ⟨fun x hx => ?_, by rw [List.length_map]; exact r.le, fun a b row d ha hb => ?_⟩
  · obtain ⟨y, hy, rfl⟩ := List.mem_map.1 hx
    rw [renDs_map, List.length_map]
    exact r.len y hy
  · rw [List.getElem?_map] at ha
    cases e : rows[a]? with
    | none => rw [e] at ha; cases ha
    | some row' =>
      rw [e] at ha
      cases ha
      rw [renDs_map, List.getElem?_map] at hb
      cases e2 : row'[b]? with
      | none => rw [e2] at hb; cases hb
      | some d' =>
        rw [e2] at hb
        cases hb
        obtain ⟨u, u1, u2, u3⟩ := r.cell a b row' d' e e2
        exact ⟨u, u1, u2.ren i j hj, u3⟩
theorem weak_ren {J : List Nm} {F : Fr} {H : Hp} (i j : Nm) (hj : H j = Option.none) (hJ : i ∉ J) : Weak J ⟨F, H⟩ ⟨fun t => (F t).ren i j, H.ren i j⟩ := by
  intro E hE Im p a w hR
  have hni : ∀ {k k' e e'}, H k = some e → H k' = some e' → rnm i j k = rnm i j k' → k = k' := fun {k k' e e'} hk hk' h => by
    have nk : k ≠ j := fun h' => by rw [h', hj] at hk; cases hk
    have nk' : k' ≠ j := fun h' => by rw [h', hj] at hk'; cases hk'
    unfold rnm at h
    split at h <;> split at h
    · rename_i h1 h2; rw [h1, h2]
    · exact absurd h.symm nk'
    · exact absurd h nk
    · exact h
  refine ⟨Im, p.put j (p i), hR.sz, fun t => (hR.fr t).ren i j hj, ⟨fun k e hk hn => ?_, fun k l e e' hk hl nk nl hkl => ?_, hR.hp.im⟩, ⟨hR.en.os, hR.en.tape, hR.en.output, hR.en.size, hR.en.block, hR.en.im, hR.en.im', fun k e hk hn => ?_⟩, ⟨hR.gr.im, hR.gr.blk, fun k e hk => ?_⟩, hR.df⟩
  · obtain ⟨k', e', h1, rfl, rfl⟩ := hren_inv hj hk
    have hn' : e'.rows ≠ [] := fun h => hn (by simp [En.ren, h])
    obtain ⟨c, t, q1, q2, q3⟩ := hR.hp.cell k' e' h1 hn'
    rw [prn h1 hj]
    exact ⟨c, t, q1, q2, q3.ren i j hj⟩
  · obtain ⟨k', e1, h1, rfl, rfl⟩ := hren_inv hj hk
    obtain ⟨l', e2, h2, rfl, rfl⟩ := hren_inv hj hl
    rw [prn h1 hj, prn h2 hj]
    exact hR.hp.inj k' l' e1 e2 h1 h2 (fun h => nk (by simp [En.ren, h])) (fun h => nl (by simp [En.ren, h])) (fun h => hkl (by rw [h]))
  · obtain ⟨k', e', h1, rfl, rfl⟩ := hren_inv hj hk
    rw [prn h1 hj]
    exact hR.en.ids k' e' h1 (fun h => hn (by simp [En.ren, h]))
  · obtain ⟨e', h1, h2, h3⟩ := hR.gr.ids k e hk
    have hki : k ≠ i := fun h => hJ (h ▸ hE k e hk)
    have ek : rnm i j k = k := by unfold rnm; rw [if_neg hki]
    have hs := hren_some (i := i) h1 hj
    have hp := prn (p := p) (i := i) h1 hj
    rw [ek] at hs hp
    refine ⟨_, hs, h2, fun he => ?_⟩
    obtain ⟨q1, q2, q3⟩ := h3 he
    rw [hp]
    exact ⟨q1, q2, fun hn => ⟨by simpa [En.ren] using (q3 hn).1, (q3 hn).2⟩⟩
def D.nil : D → D
  | .mt => .sl []
  | d => d
theorem Rel.nil {Im : Nat → Prop} {p : Pl} {H : Hp} {h : Array Obj} {d : D} {x : Value} (r : Rel Im p H h d x) : Rel Im p H h d.nil x := by
  cases d with
  | mt =>
    cases r with
    | p r =>
      cases r with
      | mt a => exact .p (.sl0 a 0)
  | _ => exact r
theorem hren_at (i j k : Nm) (H : Hp) : (H.ren i j) k = if k = j then (match H i with | some e => some (e.ren i j) | Option.none => Option.none) else if k = i then Option.none else (match H k with | some e => some (e.ren i j) | Option.none => Option.none) := rfl
theorem hp_at (i : Nm) (e : En) (l : List (Nm × En)) (j : Nm) : hp ((i, e) :: l) j = if j = i then some e else hp l j := by rw [hp_cons]; rfl
theorem hp_no (j : Nm) : hp [] j = Option.none := rfl
theorem weak_restr {J : List Nm} {F : Fr} {H : Hp} (js : List Nm) (h2 : ∀ t, (F t).refsIn js = true) (h3 : ClosedH H js js) (h4 : ∀ i ∈ J, i ∈ js) : Weak J ⟨F, H⟩ ⟨F, H.restr js⟩ := by
  intro E hE Im p a w hR
  refine ⟨Im, p, hR.sz, fun t => (hR.fr t).restr (h2 t), hR.hp.restr h3, hR.en.restr js, ⟨hR.gr.im, hR.gr.blk, fun i e hi => ?_⟩, hR.df⟩
  dsimp only
  rw [restr_in (h4 i (hE i e hi))]
  exact hR.gr.ids i e hi
def frzP (ks : List Nm) (H : Hp) : Hp := fun i => (H.kills ks i).map (frzRows ks H)
theorem frzP_at (ks : List Nm) (H : Hp) (i : Nm) : frzP ks H i = (H.kills ks i).map (frzRows ks H) := rfl
theorem frzP_eq (ks : List Nm) (h : List (Nm × En)) : hp (frzH ks (hp h) (killsL h ks)) = frzP ks (hp h) := by
  funext i
  rw [frzP_at, ← killsL_eq]
  exact frzH_at ks (hp h) i _
theorem weak_fz {J : List Nm} (ks js : List Nm) {l l' : List (Nat × D)} {h : List (Nm × En)} {H' : Hp} (c1 : listB (fun q => okKd ks (hp h) q.2) l = true) (c2 : listB (fun q => listB (fun r => listB (okK ks (hp h)) r) q.2.rows) h = true) (c3 : frzF ks (hp h) l = l')
    (c4 : (frzP ks (hp h)).restr js = H') (c5 : refsF js l' = true) (c6 : ClosedH (frzP ks (hp h)) js js) (c7 : ∀ i ∈ J, i ∈ js) : Weak J ⟨fr l, hp h⟩ ⟨fr l', H'⟩ := by
  have w := freeze_weak J ks ⟨false, l, h⟩
  have e1 : (⟨false, l, h⟩ : SL).st = ⟨fr l, hp h⟩ := by simp only [SL.st, frB_fr]
  have e2 : (freeze ks ⟨false, l, h⟩).st = ⟨fr l', frzP ks (hp h)⟩ := by
    unfold freeze
    dsimp only
    rw [c1, c2]
    simp only [Bool.and_self, cond_true, SL.st, frB_fr, c3, frzP_eq]
  rw [e1, e2] at w
  refine w.trans ?_
  rw [← c4]
  exact weak_restr js (fun t => refsF_at c5 t) c6 c7
theorem listB_m {α β : Type} (p : β → Bool) (f : α → β) (h : ∀ x, p (f x) = true) : ∀ l : List α, listB p (l.map f) = true
  | [] => rfl
  | x :: l => by rw [List.map_cons, listB, h x, listB_m p f h l]; rfl
def rowV (r : List D) : Bool := r.all fun d => match d with | .v _ => true | .sl _ => true | _ => false
theorem rowV_ok {r : List D} (h : rowV r = true) (ks : List Nm) (H : Hp) : listB D.plain r = true ∧ listB (okK ks H) r = true ∧ r.map (lendK ks H) = r := by
  induction r with
  | nil => exact ⟨rfl, rfl, rfl⟩
  | cons d r ih =>
    unfold rowV at h
    rw [List.all_cons, Bool.and_eq_true] at h
    obtain ⟨a, b, c⟩ := ih h.2
    cases d with
    | v x => exact ⟨by rw [listB, a]; rfl, by rw [listB, b]; rfl, by rw [List.map_cons, c]; rfl⟩
    | sl x => exact ⟨by rw [listB, a]; rfl, by rw [listB, b]; rfl, by rw [List.map_cons, c]; rfl⟩
    | _ => cases h.1
theorem rows_pl {α : Type} (f : α → List D) (h : ∀ x, rowV (f x) = true) (l : List α) : listB (fun r => listB D.plain r) (l.map f) = true := listB_m _ _ (fun x => (rowV_ok (h x) [] Hp.none).1) l
theorem rows_ok {α : Type} (f : α → List D) (h : ∀ x, rowV (f x) = true) (ks : List Nm) (H : Hp) (l : List α) : listB (fun r => listB (okK ks H) r) (l.map f) = true := listB_m _ _ (fun x => (rowV_ok (h x) ks H).2.1) l
theorem frzRows_at (ks : List Nm) (H : Hp) (g sz : Nat) (rows : List (List D)) : frzRows ks H ⟨g, sz, rows⟩ = ⟨g, sz, rows.map fun r => r.map (lendK ks H)⟩ := rfl
def vz := And.intro @hp_at (And.intro @hp_no (And.intro @frzP_at @frzRows_at))
structure FlsIn (segs : List Seg) (fs : List (List Pce)) : Prop where
  len : fs.length = segs.length
  at' : ∀ j (h : j < segs.length), FillIn (segs[j]).cap (fA fs j)
def FlsO (L : List (List D)) (n : Net) : D → Hp → Prop := fun v H' => ∃ at' g g1 f0 rest, SrcOk L at' ∧ FlsIn n.segs (f0 :: rest) ∧ v = .own (0, 49) g 0 (rest.length + 1) ∧ H' = ((Hp.none.put (0, 5049) ⟨g1, 2, f0.map Pce.row⟩).put (0, 49) ⟨g, 1, [.own (0, 5049) g1 0 f0.length] :: rest.map fR⟩).put (0, 38) (sE L at')
def FsF (n : Net) (g m : Nat) (j : Nat) : List (Nat × D) := [(0, .ptr (0, 38) 0 0 0), (2, di 4), (7, .own (0, 49) g 0 m), (11, .sl (n.segs.map Seg.row)), (12, di n.segs.length), (13, di (j : Int))]
def FsA (L : List (List D)) (at' : Int) : Hp := (Hp.none.put (0, 49) ⟨0, 1, []⟩).put (0, 38) (sE L at')
def FsB (L : List (List D)) (at' : Int) (g g1 : Nat) (f0 : List Pce) (rest : List (List Pce)) : Hp := ((Hp.none.put (0, 5049) ⟨g1, 2, f0.map Pce.row⟩).put (0, 49) ⟨g, 1, [.own (0, 5049) g1 0 f0.length] :: rest.map fR⟩).put (0, 38) (sE L at')
def FsQ (L : List (List D)) (at' : Int) (g1 : Nat) (f0 : List Pce) : Hp := ((Hp.none.put (0, 22) ⟨g1, 2, f0.map Pce.row⟩).put (0, 49) ⟨1, 1, [[.own (0, 22) g1 0 f0.length]]⟩).put (0, 38) (sE L at')
theorem ref_pce (js : List Nm) (x : Pce) : refsInL js x.row = true := rfl
theorem pce_v (x : Pce) : rowV x.row = true := rfl
theorem fR_v (x : List Pce) : rowV (fR x) = true := rfl
theorem ren_pces (i j : Nm) (w : List Pce) : (w.map Pce.row).map (renDs i j) = w.map Pce.row := by
  rw [List.map_map]
  exact List.map_congr_left fun x _ => rfl
theorem fs_ren (L : List (List D)) (at' : Int) (n : Net) (g1 : Nat) (f0 : List Pce) (m j : Nat) : Weak [(0, 38), (0, 49), (0, 5049)] ⟨fr (FsF n 1 m j), FsQ L at' g1 f0⟩ ⟨fr (FsF n 1 m j), FsB L at' 1 g1 f0 []⟩ := by
  refine (weak_ren (0, 22) (0, 5049) (by simp (maxSteps:=500000) only [↓vp, vv, ↓reduceIte, simprocAttr, FsQ]) (by simp)).trans ?_
  exact weak_eq [] [(0, 38), (0, 49), (0, 5049)] (FsF n 1 m j) (by simp (maxSteps:=500000) only [↓vp, vv, ↓reduceIte, simprocAttr, coverS, FsF, D.ren, rnm]) (by simp (maxSteps:=500000) only [↓vp, vv, ↓reduceIte, simprocAttr, refsF, FsF]) (by simp (maxSteps:=500000) only [↓vp, vv, ↓reduceIte, simprocAttr, hren_at, FsQ, En.ren, renDs, D.ren, rnm, sE, ren_pces, ref_pce]) (by simp) (by simp (maxSteps:=500000) only [↓vp, vv, ↓reduceIte, simprocAttr, hren_at, FsQ, FsB, En.ren, renDs, D.ren, rnm, sE, ren_pces]; try rfl)
def FsW (L : List (List D)) (at' : Int) (g g1 g2 : Nat) (f0 : List Pce) (rest : List (List Pce)) (f : List Pce) : List (Nm × En) := [((0, 38), sE L at'), ((0, 49), ⟨g, 1, [.own (0, 5049) g1 0 f0.length] :: (rest.map fR ++ [[.own (0, 22) g2 0 f.length]])⟩), ((0, 5049), ⟨g1, 2, f0.map Pce.row⟩), ((0, 22), ⟨g2, 2, f.map Pce.row⟩)]
theorem rows_fz {α : Type} (f : α → List D) (h : ∀ x, rowV (f x) = true) (ks : List Nm) (H : Hp) (l : List α) : (l.map f).map (fun r => r.map (lendK ks H)) = l.map f := by
  rw [List.map_map]
  exact List.map_congr_left fun x _ => (rowV_ok (h x) ks H).2.2
theorem listB_app {α : Type} (p : α → Bool) : ∀ a b : List α, listB p (a ++ b) = (listB p a && listB p b)
  | [], b => by simp [listB]
  | x :: a, b => by rw [List.cons_append, listB, listB_app p a b, listB]; cases p x <;> cases listB p a <;> cases listB p b <;> rfl
theorem fs_frz (L : List (List D)) (at' : Int) (n : Net) (g g1 g2 : Nat) (f0 : List Pce) (rest : List (List Pce)) (f : List Pce) (m j : Nat) : Weak [(0, 38), (0, 49), (0, 5049)] ⟨fr (FsF n g m j), hp (FsW L at' g g1 g2 f0 rest f)⟩ ⟨fr (FsF n g m j), FsB L at' g g1 f0 (rest ++ [f])⟩ := by
  have ra := fun ks H => rows_ok fR fR_v ks H rest
  have rb := fun ks H => fun w => rows_ok Pce.row pce_v ks H w
  have rc := fun ks H => rows_fz fR fR_v ks H rest
  have rd := fun ks H => fun w => rows_fz Pce.row pce_v ks H w
  have re := fun w => rows_pl Pce.row pce_v w
  have t3 : (f.map Pce.row).take f.length = f.map Pce.row := List.take_of_length_le (by simp)
  have rf : (rest ++ [f]).map fR = rest.map fR ++ [[.sl (f.map Pce.row)]] := by rw [List.map_append]; rfl
  have rg : ∀ js, (∀ j ∈ rest, refsInL js (fR j) = true) = True := fun js => eq_true fun j _ => rfl
  exact (Weak.refl [(0, 38), (0, 49), (0, 5049)] _).trans (weak_fz [(0, 22)] [(0, 38), (0, 49), (0, 5049)] (l := (FsF n g m j)) (h := (FsW L at' g g1 g2 f0 rest f)) (l' := (FsF n g m j)) (H' := (FsB L at' g g1 f0 (rest ++ [f]))) (by simp (maxSteps:=500000) only [↓vp, vv, ↓reduceIte, simprocAttr, vz, listB, okKd, okK, lendKd, lendK, lendOk1B, frzF, Option.map_some, cond_true, cond_false, decide_true, decide_false, Bool.and_self, FsW, FsF, FsB, sE, listB_app, ra, rb, rc, rd, re, rf, rg, t3, ref_pce, List.map_append, List.map_cons, List.map_nil]) (by simp (maxSteps:=500000) only [↓vp, vv, ↓reduceIte, simprocAttr, vz, listB, okKd, okK, lendKd, lendK, lendOk1B, frzF, Option.map_some, cond_true, cond_false, decide_true, decide_false, Bool.and_self, FsW, FsF, FsB, sE, listB_app, ra, rb, rc, rd, re, rf, rg, t3, ref_pce, List.map_append, List.map_cons, List.map_nil]) (by simp (maxSteps:=500000) only [↓vp, vv, ↓reduceIte, simprocAttr, vz, listB, okKd, okK, lendKd, lendK, lendOk1B, frzF, Option.map_some, cond_true, cond_false, decide_true, decide_false, Bool.and_self, FsW, FsF, FsB, sE, listB_app, ra, rb, rc, rd, re, rf, rg, t3, ref_pce, List.map_append, List.map_cons, List.map_nil]; try rfl) (by simp (maxSteps:=500000) only [↓vp, vv, ↓reduceIte, simprocAttr, vz, listB, okKd, okK, lendKd, lendK, lendOk1B, frzF, Option.map_some, cond_true, cond_false, decide_true, decide_false, Bool.and_self, FsW, FsF, FsB, sE, listB_app, ra, rb, rc, rd, re, rf, rg, t3, ref_pce, List.map_append, List.map_cons, List.map_nil]; try rfl) (by simp (maxSteps:=500000) only [↓vp, vv, ↓reduceIte, simprocAttr, vz, listB, okKd, okK, lendKd, lendK, lendOk1B, frzF, Option.map_some, cond_true, cond_false, decide_true, decide_false, Bool.and_self, refsF, FsW, FsF, FsB, sE, listB_app, ra, rb, rc, rd, re, rf, rg, t3, ref_pce, List.map_append, List.map_cons, List.map_nil]) (by simp (maxSteps:=500000) only [↓vp, vv, ↓reduceIte, simprocAttr, vz, listB, okKd, okK, lendKd, lendK, lendOk1B, frzF, Option.map_some, cond_true, cond_false, decide_true, decide_false, Bool.and_self, FsW, FsF, FsB, sE, listB_app, ra, rb, rc, rd, re, rf, rg, t3, ref_pce, List.map_append, List.map_cons, List.map_nil]) (by simp))
def FsT : Tbl := tc 31 rowFlO T0
theorem FsT_ok : TblOk Tryd.prog FsT := tc_flO (T0_ok _)
def FsS (L : List (List D)) (n : Net) : Nat → (SA L × Nat × List Pce × List (List Pce)) → St
  | 0, u => ⟨fr (FsF n 0 0 0), FsA L u.1.1⟩
  | j + 1, u => ⟨fr (FsF n (j + 1) (j + 1) (j + 1)), FsB L u.1.1 (j + 1) u.2.1 u.2.2.1 u.2.2.2⟩
def FsP (L : List (List D)) (n : Net) (j : Nat) (u : SA L × Nat × List Pce × List (List Pce)) : Prop := match j with
  | 0 => True
  | j + 1 => u.2.2.2.length = j ∧ ∀ k, (h : k < n.segs.length) → k < j + 1 → FillIn (n.segs[k]).cap (fA (u.2.2.1 :: u.2.2.2) k)
theorem fs_js (L : List (List D)) (at' : Int) : ∀ (j : Nm) (x : En), (Hp.none.put (0, 38) (sE L at')) j = some x → j ∈ [((0, 38) : Nm), (0, 49), (0, 5049)] := fun j x h => by
  by_cases hj : j = (0, 38)
  · rw [hj]; exact List.mem_cons_self ..
  · rw [Hp.put_other _ hj] at h; cases h
theorem fs_js' (L : List (List D)) (at' : Int) : ∀ j ∈ [((0, 38) : Nm), (0, 49), (0, 5049)], ((Hp.none.put (0, 38) (sE L at')) j).isSome = true ∨ j ∈ nms (0, 49) := fun j h => by
  rcases List.mem_cons.1 h with h | h
  · rw [h, Hp.put_same]; exact .inl rfl
  · rcases List.mem_cons.1 h with h | h
    · rw [h]; exact .inr (by simp [nms])
    · rw [List.mem_singleton.1 h]; exact .inr (by simp [nms])
set_option maxHeartbeats 16000000 in
theorem Fills_o (L : List (List D)) (at' : Int) (ho : SrcOk L at') (n : Net) (hn : NetOk n) : CallsA Tryd.prog 40 [.ptr (0, 38) 0 0 0, n.enc, di 4] (Hp.none.put (0, 38) (sE L at')) (0, 49) (FlsO L n) := by
  obtain ⟨code, h1, h2⟩ := c40_ok
  refine callsA_ofM FsT_ok mixed (N := fun t => if t = 24 then (0, 49) else if t = 22 then (0, 22) else (1, t)) Tryd.func40 h1 h2 r40_ok [(0, 38), (0, 49), (0, 5049)] true (fs_js L at') (fs_js' L at') (by simp [Tryd.f40]) ?_
  have hsl := hn.slen
  have hnl := hn.nlen
  simp (maxSteps:=500000) only [↓vp, vv, ↓reduceIte, simprocAttr, c40, r40, c40_1, c40_2, c40_3, FsT, ho, Net.enc, netD]
  refine rng_loopP n.segs.length (FsS L n) (FsP L n) (u0 := (⟨at', ho⟩, 0, [], [])) ((weak_own 7 (0, 49) 1 (by simp (maxSteps:=500000) only [↓vp, vv, ↓reduceIte, simprocAttr, ]) (by simp (maxSteps:=500000) only [↓vp, vv, ↓reduceIte, simprocAttr, ])).trans (weak_eq [] [(0, 38), (0, 49), (0, 5049)] (FsF n 0 0 0) (by simp (maxSteps:=500000) only [↓vp, vv, ↓reduceIte, simprocAttr, coverS, FsF, FsA, sE]) (by simp (maxSteps:=500000) only [↓vp, vv, ↓reduceIte, simprocAttr, refsF, FsF, FsA, sE]) (by simp (maxSteps:=500000) only [↓vp, vv, ↓reduceIte, simprocAttr, FsF, FsA, sE]) (by simp) (by simp (maxSteps:=500000) only [↓vp, vv, ↓reduceIte, simprocAttr, FsF, FsA, sE]; try rfl))) trivial (fun j hj u hP => ?_) (fun u hP => ?_)
  · obtain ⟨a, g1, f0, rest⟩ := u
    have hj' : (j : Int) < n.segs.length := by omega
    have w1 := idx_next (j := j) (by omega)
    have gs := getD_map Seg.row n.segs j hj
    have hs : 1 ≤ (n.segs[j]).cap ∧ (n.segs[j]).cap ≤ 1000 := by
      obtain ⟨k, x, y, _, _, _, h, _⟩ := hn.segs.mem (List.getElem_mem hj)
      exact h.cap
    have oa := a.2
    obtain ⟨sg, hsg⟩ : ∃ sg, n.segs[j] = sg := ⟨_, rfl⟩
    rw [hsg] at gs hs
    have hc : 1 ≤ sg.cap ∧ sg.cap ≤ 1000000 := by omega
    have y1 : (j + 1) * 24 ≤ 140737488355328 := by omega
    have y2 : j + 1 ≤ 4611686018427387904 := by omega
    rcases j with _ | j
    · show vc _ _ _ _ _ ⟨fr (FsF n 0 0 0), FsA L a.1⟩
      have w0 : IntKind.i64.wrap 1 = 1 := by decide
      have hj0 : (0 : Int) < n.segs.length := hj'
      simp (maxSteps:=500000) only [↓vp, vv, ↓reduceIte, simprocAttr, c40, r40, c40_1, c40_2, c40_3, FsT, rowFlO, SrcO_all, oa, hc, FsF, FsA, sE, hj, hj0, gs, Seg.row, Int.toNat_natCast, idx_nn]
      intro a2 g2 f hf
      refine rng_nextP (st := FsS L n) (P := FsP L n) hj (a2, g2, f, []) ?_ ⟨rfl, fun k h hk => ?_⟩
      · show Weak _ _ ⟨fr (FsF n 1 1 1), FsB L a2.1 1 g2 f []⟩
        exact Weak.trans (weak_eq [] [(0, 38), (0, 49), (0, 22), (0, 5049)] (FsF n 1 1 1) (by simp (maxSteps:=500000) only [↓vp, vv, ↓reduceIte, simprocAttr, coverS, FsF, FsQ, sE, w0, ref_pce]) (by simp (maxSteps:=500000) only [↓vp, vv, ↓reduceIte, simprocAttr, refsF, FsF, FsQ, sE, w0, ref_pce]) (by simp (maxSteps:=500000) only [↓vp, vv, ↓reduceIte, simprocAttr, FsF, FsQ, sE, w0, ref_pce]) (by simp) (by simp (maxSteps:=500000) only [↓vp, vv, ↓reduceIte, simprocAttr, FsF, FsQ, sE, w0, ref_pce]; try rfl)) (fs_ren L a2.1 n g2 f 1 1)
      · obtain rfl : k = 0 := Nat.lt_one_iff.1 hk
        rw [hsg]
        exact hf
    · show vc _ _ _ _ _ ⟨fr (FsF n (j + 1) (j + 1) (j + 1)), FsB L a.1 (j + 1) g1 f0 rest⟩
      obtain ⟨hr, hP⟩ := hP
      dsimp only at hr hP
      have hk : ([D.own (0, 5049) g1 0 f0.length] :: rest.map fR).length = j + 1 := by simp [hr]
      simp (maxSteps:=500000) only [↓vp, vv, ↓reduceIte, simprocAttr, c40, r40, c40_1, c40_2, c40_3, FsT, rowFlO, SrcO_all, oa, hc, FsF, FsB, sE, hj, hj', gs, hk, y1, y2, Seg.row, Int.toNat_natCast, idx_nn]
      intro a2 g2 f hf
      refine rng_nextP (st := FsS L n) (P := FsP L n) hj (a2, g1, f0, rest ++ [f]) ?_ ⟨by simp [hr], fun k h hk => ?_⟩
      · show Weak _ _ ⟨fr (FsF n (j + 1 + 1) (j + 1 + 1) (j + 1 + 1)), FsB L a2.1 (j + 1 + 1) g1 f0 (rest ++ [f])⟩
        have rg : ∀ js, (∀ j ∈ rest, refsInL js (fR j) = true) = True := fun js => eq_true fun j _ => rfl
        exact (weak_eq [] [(0, 38), (0, 49), (0, 5049), (0, 22)] (FsF n (j + 1 + 1) (j + 1 + 1) (j + 1 + 1)) (H' := hp (FsW L a2.1 (j + 1 + 1) g1 g2 f0 rest f)) (by simp (maxSteps:=500000) only [↓vp, vv, ↓reduceIte, simprocAttr, coverS, FsF, w1]) (by simp (maxSteps:=500000) only [↓vp, vv, ↓reduceIte, simprocAttr, refsF, FsF]) (by simp (maxSteps:=500000) only [↓vp, vv, ↓reduceIte, simprocAttr, ref_pce, rg]) (by simp) (by simp (maxSteps:=500000) only [↓vp, vv, ↓reduceIte, simprocAttr, hp_cons, hp_nil, FsW, sE, List.cons_append]; try rfl)).trans (fs_frz L a2.1 n (j + 1 + 1) g1 g2 f0 rest f (j + 1 + 1) (j + 1 + 1))
      · by_cases hkj : k < j + 1
        · have := hP k h hkj
          unfold fA at this ⊢
          rw [← List.cons_append, List.getD_eq_getElem?_getD, List.getElem?_append_left (by simp; omega), ← List.getD_eq_getElem?_getD]
          exact this
        · obtain rfl : k = j + 1 := by omega
          rw [hsg]
          have : fA (f0 :: (rest ++ [f])) (j + 1) = f := by
            unfold fA
            rw [← List.cons_append, List.getD_eq_getElem?_getD, List.getElem?_append_right (by simp; omega)]
            simp [hr]
          rw [this]
          exact hf
  · obtain ⟨a, g1, f0, rest⟩ := u
    obtain ⟨m, hm⟩ : ∃ m, n.segs.length = m + 1 := ⟨n.segs.length - 1, by omega⟩
    rw [hm] at hP
    obtain ⟨hr, hP⟩ := hP
    dsimp only at hr hP
    have hin : FlsIn n.segs (f0 :: rest) := ⟨by rw [List.length_cons, hr, hm], fun j h => hP j h (by omega)⟩
    have e : FsS L n n.segs.length (a, g1, f0, rest) = ⟨fr (FsF n n.segs.length n.segs.length n.segs.length), FsB L a.1 n.segs.length g1 f0 rest⟩ := by rw [hm]; rfl
    rw [e]
    have hk : ([D.own (0, 5049) g1 0 f0.length] :: rest.map fR).length = n.segs.length := by simp [hr, hm]
    have tk : ([D.own (0, 5049) g1 0 f0.length] :: rest.map fR).take n.segs.length = [D.own (0, 5049) g1 0 f0.length] :: rest.map fR := List.take_of_length_le (by omega)
    simp (maxSteps:=500000) only [↓vp, vv, ↓reduceIte, simprocAttr, c40, r40, c40_1, c40_2, c40_3, r40, FsT, FsF, FsB, sE, Int.lt_irrefl, hk, tk]
    have hq : n.segs.length = rest.length + 1 := by rw [hm, hr]
    exact ⟨⟨fun j _ => rfl, fun j _ => rfl⟩, a.1, n.segs.length, g1, f0, rest, a.2, hin, by rw [← hq], rfl⟩
theorem flsO_all (L : List (List D)) (n : Net) (K : D → Hp → Prop) : (∀ v H', FlsO L n v H' → K v H') = ∀ (a : SA L) (g g1 : Nat) (f0 : List Pce) (rest : List (List Pce)), FlsIn n.segs (f0 :: rest) → K (.own (0, 49) g 0 (rest.length + 1)) (((Hp.none.put (0, 5049) ⟨g1, 2, f0.map Pce.row⟩).put (0, 49) ⟨g, 1, [.own (0, 5049) g1 0 f0.length] :: rest.map fR⟩).put (0, 38) (sE L a.1)) :=
  propext ⟨fun h a g g1 f0 rest h2 => h _ _ ⟨a.1, g, g1, f0, rest, a.2, h2, rfl, rfl⟩, fun h v H' ⟨at', g, g1, f0, rest, h1, h2, e1, e2⟩ => by rw [e1, e2]; exact h ⟨at', h1⟩ g g1 f0 rest h2⟩
def rowFls : List D → Hp → Nm → Option (Prop × (D → Hp → Prop)) := fun args Hs nn =>
  match args with
  | [.ptr i g r c, .agg x, .v (.int .i64 k)] =>
    match Hs i, netOf1 x with
    | some ⟨_, _, [[.sl L, .v (.int .i64 at')]]⟩, some n => some ((Hs = Hp.none.put i (sE L at') ∧ g = 0 ∧ r = 0 ∧ c = 0 ∧ i = (0, 38) ∧ nn = (0, 49) ∧ k = 4) ∧ SrcOk L at' ∧ NetOk n, FlsO L n)
    | _, _ => Option.none
  | _ => Option.none
theorem fls_ex {L : List (List D)} {at' : Int} (ho : SrcOk L at') {n : Net} (hn : NetOk n) : ∃ v H', FlsO L n v H' := by
  have h1 := hn.slen
  have h2 := hn.nlen
  have hc : ∀ s, s ∈ n.segs → 1 ≤ s.cap := fun s hs => by
    obtain ⟨k, x, y, _, _, _, h, _⟩ := hn.segs.mem hs
    exact h.cap.1
  obtain ⟨s0, ss, hs⟩ : ∃ s0 ss, n.segs = s0 :: ss := by
    match hh : n.segs with
    | [] => rw [hh] at h1; simp at h1; omega
    | s :: l => exact ⟨s, l, rfl⟩
  refine ⟨_, _, at', 0, 0, [⟨0, s0.cap⟩], ss.map (fun s => [⟨0, s.cap⟩]), ho, ⟨by rw [hs]; simp, fun j h => ?_⟩, rfl, rfl⟩
  have e : fA ([⟨0, s0.cap⟩] :: ss.map (fun s => [(⟨0, s.cap⟩ : Pce)])) j = [⟨0, (n.segs[j]).cap⟩] := by
    have e1 : [(⟨0, s0.cap⟩ : Pce)] :: ss.map (fun s => [(⟨0, s.cap⟩ : Pce)]) = n.segs.map fun s => [⟨0, s.cap⟩] := by rw [hs]; rfl
    rw [e1]
    unfold fA
    rw [List.getD_eq_getElem?_getD, List.getElem?_map, List.getElem?_eq_getElem h]
    rfl
  rw [e]
  exact fill_ex (hc _ (List.getElem_mem h))
theorem tc_fls {T : Tbl} (hT : TblOk Tryd.prog T) : TblOk Tryd.prog (tc 40 rowFls T) :=
  tc_row f40_ok (fun args Hs nn pre R hr hp => by
    unfold rowFls at hr
    split at hr
    · split at hr
      · rename_i e
        cases hr
        obtain ⟨⟨h1, rfl, rfl, rfl, rfl, rfl, rfl⟩, h2, h3⟩ := hp
        rw [h1, netOf1_eq e]
        exact ⟨fls_ex h2 h3, Fills_o _ _ h2 _ h3⟩
      · cases hr
    · cases hr) hT
def c6_1 : C := (.ops false [oP 42 (.mv (.t 12)), oP 43 (.bin .add (.t 42) (cI 1)), oP 12 (.mv (.t 43))])
def c6_2 : C := (.seq (.block 1 (.seq (.ops true [oP 44 (.mv (.t 7)), oP 45 (.mv (.t 0)), oP 46 (.mv (.t 12)), oA 47 (.iaS 1 (.t 45) (.t 46)) [2, 1], oA 48 (.ld 1 false (.t 47)) [1, 2, 3], oA 49 (.cvi .i64 (.t 48)) [3, 2, 1, 4], oA 50 (.bsl 1 1 [(.v (.int .i64 0))] [(0, (.t 49))]) [4, 1, 2, 3, 5], oA 51 (.app 1 8 (.t 44) (.t 50)) [5, 3, 2, 1, 4, 6, 0], oP 52 (.mv (.t 8)), oP 53 (.mv (.t 1)), oP 54 (.mv (.t 12)),
  oA 55 (.iaS 1 (.t 53) (.t 54)) [10, 9], oA 56 (.ld 1 false (.t 55)) [9, 10, 11], oA 57 (.cvi .i64 (.t 56)) [11, 10, 9, 12], oA 58 (.bsl 1 1 [(.v (.int .i64 0))] [(0, (.t 57))]) [12, 9, 10, 11, 13], oA 59 (.app 1 8 (.t 52) (.t 58)) [0, 6, 4, 1, 2, 3, 5, 13, 11, 10, 9, 12, 7, 14, 8], oP 60 (.mv (.t 11)), oP 61 (.mv (.t 12)), oA 62 (.bsl 1 1 [(.v (.int .i64 0))] [(0, (.t 61))]) [17],
  oA 63 (.app 1 8 (.t 60) (.t 62)) [8, 14, 7, 12, 9, 10, 11, 13, 5, 3, 2, 1, 4, 6, 0, 17, 15, 18, 16], oA 7 (.mv (.t 51)) [16, 18, 15, 17, 13, 11, 10, 9, 12, 14, 8, 6, 5, 4, 3, 2, 1, 0, 19, 7], oA 8 (.mv (.t 59)) [19, 17, 18, 16, 14, 13, 12, 11, 10, 9, 8, 7, 6, 5, 4, 3, 2, 1, 0, 20, 15], oA 11 (.mv (.t 63)) [20, 18, 17, 16, 15, 14, 13, 12, 11, 10, 9, 8, 7, 6, 5, 4, 3, 2, 1, 0, 21, 19]])
  (.seq (.ops false [oP 64 (.mv (.t 12)), oP 65 (.mv (.t 2)), oP 66 (.len (.t 65)), oP 67 (.bin .lss (.t 64) (.t 66)), oP 68 (.mv (.t 67)), oG 69 68 true (.mv (.t 2)), oG 70 68 true (.mv (.t 12)), oG 71 68 true (.iaS 1 (.t 69) (.t 70)), oG 72 68 true (.ld 1 false (.t 71)), oP 73 (.pick (.t 68) (.t 72) (cB false))]) (.cond (.t 73) (.ops false [oP 74 (.mv (.t 9)), oP 75 (.mv (.t 12)),
  oP 76 (.bsl 1 1 [(.v (.int .i64 0))] [(0, (.t 75))]), oP 77 (.app 1 8 (.t 74) (.t 76)), oP 9 (.mv (.t 77))]) (.ops false [oP 78 (.mv (.t 10)), oP 79 (.mv (.t 12)), oP 80 (.bsl 1 1 [(.v (.int .i64 0))] [(0, (.t 79))]), oP 81 (.app 1 8 (.t 78) (.t 80)), oP 10 (.mv (.t 81))]))))) c6_1)
def c6_3 : C := (.seq (.seq (.ops false [oP 38 (.mv (.t 12)), oP 39 (.mv (.t 0)), oP 40 (.len (.t 39)), oP 41 (.bin .lss (.t 38) (.t 40))]) (.cond (.t 41) .skip (.exit 0))) c6_2)
def c6_4 : C := (.seq (.ops false [oP 83 (.mv (.t 7)), oP 84 (.mv (.t 9)), oB 85 (.call 37 [(.t 83), (.t 84)]), oP 82 (.mv (.t 85)), oP 86 (.ext (.t 82) 0), oP 87 (.ext (.t 82) 1), oP 13 (.mv (.t 86)), oP 14 (.mv (.t 87))]) (.seq (.ops false [oP 89 (.mv (.t 7)), oP 90 (.mv (.t 10)), oB 91 (.call 37 [(.t 89), (.t 90)]), oP 88 (.mv (.t 91)), oP 92 (.ext (.t 88) 0), oP 93 (.ext (.t 88) 1), oP 15 (.mv (.t 92)),
  oP 16 (.mv (.t 93))]) (.seq (.ops false [oP 95 (.mv (.t 7)), oP 96 (.mv (.t 11)), oB 97 (.call 37 [(.t 95), (.t 96)]), oP 94 (.mv (.t 97)), oP 98 (.ext (.t 94) 0), oP 99 (.ext (.t 94) 1), oP 17 (.mv (.t 98)), oP 18 (.mv (.t 99))]) (.seq (.ops false [oP 101 (.mv (.t 7)), oP 102 (.mv (.t 8)), oP 103 (.mv (.t 9)), oB 104 (.call 38 [(.t 101), (.t 102), (.t 103)]), oP 100 (.mv (.t 104)),
  oP 105 (.ext (.t 100) 0), oP 106 (.ext (.t 100) 1), oP 19 (.mv (.t 105)), oP 20 (.mv (.t 106))]) (.seq (.ops false [oP 108 (.mv (.t 7)), oP 109 (.mv (.t 8)), oP 110 (.mv (.t 10)), oB 111 (.call 38 [(.t 108), (.t 109), (.t 110)]), oP 107 (.mv (.t 111)), oP 112 (.ext (.t 107) 0), oP 113 (.ext (.t 107) 1), oP 21 (.mv (.t 112)), oP 22 (.mv (.t 113))]) (.seq (.ops false [oP 115 (.mv (.t 7)),
  oP 116 (.mv (.t 8)), oP 117 (.mv (.t 11)), oB 118 (.call 38 [(.t 115), (.t 116), (.t 117)]), oP 114 (.mv (.t 118)), oP 119 (.ext (.t 114) 0), oP 120 (.ext (.t 114) 1), oP 23 (.mv (.t 119)), oP 24 (.mv (.t 120))]) (.seq (.ops false [oP 122 (.mv (.t 8)), oP 123 (.mv (.t 7)), oP 124 (.mv (.t 11)), oB 125 (.call 38 [(.t 122), (.t 123), (.t 124)]), oP 121 (.mv (.t 125)), oP 126 (.ext (.t 121) 0),
  oP 127 (.ext (.t 121) 1), oP 25 (.mv (.t 126)), oP 26 (.mv (.t 127))]) (.seq (.ops false [oP 128 (.mv (.t 14)), oP 129 (.bin .eql (.t 128) (cI 0)), oP 130 (.mv (.t 129)), oG 131 130 true (.mv (.t 16)), oG 132 130 true (.bin .eql (.t 131) (cI 0)), oP 133 (.pick (.t 130) (.t 132) (cB false)), oP 134 (.mv (.t 133)), oG 135 134 true (.mv (.t 18)), oG 136 134 true (.bin .eql (.t 135) (cI 0)),
  oP 137 (.pick (.t 134) (.t 136) (cB false)), oP 138 (.mv (.t 137)), oG 139 138 true (.mv (.t 20)), oG 140 138 true (.bin .eql (.t 139) (cI 0)), oP 141 (.pick (.t 138) (.t 140) (cB false)), oP 142 (.mv (.t 141)), oG 143 142 true (.mv (.t 22)), oG 144 142 true (.bin .eql (.t 143) (cI 0)), oP 145 (.pick (.t 142) (.t 144) (cB false)), oP 146 (.mv (.t 145)), oG 147 146 true (.mv (.t 24)),
  oG 148 146 true (.bin .eql (.t 147) (cI 0)), oP 149 (.pick (.t 146) (.t 148) (cB false)), oP 150 (.mv (.t 149)), oG 151 150 true (.mv (.t 26)), oG 152 150 true (.bin .eql (.t 151) (cI 0)), oP 153 (.pick (.t 150) (.t 152) (cB false)), oP 154 (.mv (.t 153)), oG 155 154 true (.mv (.t 13)), oG 156 154 true (.mv (.t 15)), oG 157 154 true (.bin .add (.t 155) (.t 156)), oG 158 154 true (.mv (.t 17)),
  oG 159 154 true (.bin .eql (.t 157) (.t 158)), oP 160 (.pick (.t 154) (.t 159) (cB false)), oP 161 (.mv (.t 160)), oG 162 161 true (.mv (.t 19)), oG 163 161 true (.mv (.t 21)), oG 164 161 true (.bin .add (.t 162) (.t 163)), oG 165 161 true (.mv (.t 23)), oG 166 161 true (.bin .eql (.t 164) (.t 165)), oP 167 (.pick (.t 161) (.t 166) (cB false)), oP 168 (.mv (.t 167)), oG 169 168 true (.mv (.t 25)),
  oG 170 168 true (.mv (.t 23)), oG 171 168 true (.neg (.t 170)), oG 172 168 true (.bin .eql (.t 169) (.t 171)), oP 173 (.pick (.t 168) (.t 172) (cB false)), oP 174 (.mv (.t 173)), oD 175 174 true (.call 28 []) [], oP 176 (.pick (.t 174) (.t 175) (cB false)), oP 6 (.mv (.t 176))]) .ret))))))))
def c6_5 : C := (.seq (.ops false [oP 7 (.mv (.c .mt)), oP 8 (.mv (.c .mt)), oP 9 (.mv (.c .mt)), oP 10 (.mv (.c .mt)), oP 11 (.mv (.c .mt))]) (.seq (.seq (.ops false [oP 12 (.mv (cI 0))]) (.block 0 (.loop c6_3))) (.weak c6_4)))
def c6 : C := (.seq (.ops false [oP 6 (.mv (cB false))]) (.seq (.seq (.ops false [oP 27 (.mv (.t 0)), oP 28 (.len (.t 27)), oP 29 (.bin .gtr (.t 28) (cI 30)), oP 30 (.mv (.t 29)), oG 31 30 false (.mv (.t 1)), oG 32 30 false (.len (.t 31)), oG 33 30 false (.mv (.t 0)), oG 34 30 false (.len (.t 33)), oG 35 30 false (.bin .lss (.t 32) (.t 34)), oP 36 (.pick (.t 30) (cB true) (.t 35))]) (.cond (.t 36)
  (.seq (.ops false [oB 37 (.call 28 []), oP 6 (.mv (.t 37))]) .ret) .skip)) c6_5))
def r6 : List RV := [(.tmp 6)]
theorem tc_aw33 {T : Tbl} (hT : TblOk Tryd.prog T) : TblOk Tryd.prog (tc 28 (rowPu selAw) T) :=
  tc_pu f28_ok (fun args pre d h hp nn => by
    unfold selAw at h
    split at h <;> cases h
    exact awake33_c nn) hT
abbrev spansC : Array Value := #[.int .i64 400, .int .i64 1200, .int .i64 0, .int .i64 2000, .int .i64 0, .int .i64 5000, .int .i64 1, .int .i64 2000]
abbrev Spans (w : World) : Prop := Box w 0 spansC
end Go.Proofs.YtehmmnnmkapfeaaDoor
