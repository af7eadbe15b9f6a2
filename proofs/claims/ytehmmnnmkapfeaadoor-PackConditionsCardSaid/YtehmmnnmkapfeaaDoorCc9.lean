/- PackConditions: Pk9 Pk7 NkOk PkA Fl1 CodePS Pk8 Spn Laid CtH CodePC CodeSE. -/
import Derived.Test.YtehmmnnmkapfeaaDoorCc8
import Derived.Test.YtehmmnnmkapfeaaDoorCc5
import Derived.Test.YtehmmnnmkapfeaaDoorCc3
import Derived.Test.YtehmmnnmkapfeaaDoorProg
import Derived.Test.YtehmmnnmkapfeaaDoorRows
import Derived.Test.YtehmmnnmkapfeaaDoorCc4
import Derived.OpenShut
import Derived.LaidLaws
import Derived.ChangeArms
set_option linter.unusedSimpArgs false
set_option linter.unusedVariables false
set_option maxRecDepth 100000

/- Tables of products and batches, fills, out of a source. -/
namespace Go.Proofs.YtehmmnnmkapfeaaDoor
open Go
structure PrdsIn (l : List Prd) : Prop where
  len : 1 ≤ l.length ∧ l.length ≤ 4
  at' : ∀ j : Nat, j < l.length → PrdIn (j : Int) (pdA l j)
structure BatsIn (n np : Int) (l : List Bat) : Prop where
  len : (l.length : Int) = n
  at' : ∀ b, b ∈ l → 0 ≤ b.pr ∧ b.pr < np
def PoT : Tbl := tc 13 (rowSrc selPd Prd.enc) T2
theorem PoT_ok : TblOk Tryd.prog PoT := tc_prod T2_ok
theorem pd_left {l : List Prd} {c : Prd} {j : Nat} (h : j < l.length) : pdA (l ++ [c]) j = pdA l j := by
  unfold pdA
  rw [List.getD_eq_getElem?_getD, List.getD_eq_getElem?_getD, List.getElem?_append_left h]
theorem pd_right (l : List Prd) (c : Prd) : pdA (l ++ [c]) l.length = c := by
  unfold pdA
  rw [List.getD_eq_getElem?_getD, List.getElem?_append_right (Nat.le_refl _), Nat.sub_self]
  rfl
def PoF (i nn : Nm) (g n : Nat) (k : Int) : List (Nat × D) := [(0, .ptr i 0 0 0), (3, .own nn g 0 n), (4, di k)]
def PoH (i nn : Nm) (L : List (List D)) (at' : Int) (g : Nat) (l : List Prd) : Hp := (Hp.none.put nn ⟨g, 5, l.map Prd.row⟩).put i (sE L at')
def PoI (i nn : Nm) (L : List (List D)) (K : Nat) (k : Nat) (s : St) : Prop := ∃ at' g l, SrcOk L at' ∧ (∀ j : Nat, j < l.length → PrdIn (j : Int) (pdA l j)) ∧ l.length + k = K ∧ s = ⟨fr (PoF i nn g l.length k), PoH i nn L at' g l⟩
set_option maxHeartbeats 8000000 in
theorem Products_o : ∀ i L at' nn, SrcOk L at' → nn.1 ≤ i.1 → nn ≠ i → CallsA Tryd.prog 29 [.ptr i 0 0 0] (Hp.none.put i (sE L at')) nn (SrcO i nn L 5 Prd.row PrdsIn) := by
  intro i L at' nn ho hn1 hn2
  have hn3 : ¬ i = nn := fun e => hn2 e.symm
  have hn4 : ∀ t : Nat, ¬ nn = (i.1 + 1, t) := fun t e => by rw [e] at hn1; dsimp only at hn1; omega
  have hn5 : ∀ t : Nat, ¬ (i.1 + 1, t) = nn := fun t e => hn4 t e.symm
  have hn6 : ¬ nn = i := hn2
  obtain ⟨code, h1, h2⟩ := c29_ok
  refine callsA_of PoT_ok mixed (N := fun t => if t = 17 then nn else (i.1 + 1, t)) Tryd.func29 h1 h2 r29_ok [i, nn] true (js_two i nn _) (js_two' i nn _) (by simp [Tryd.f29]) ?_
  simp (maxSteps:=500000) only [↓vp, vv, ↓reduceIte, simprocAttr, c29, r29, c29_1, c29_2, c29_3, hn3, hn4, hn5, hn6, PoT, T2, T1, selRange, ho]
  intro a1 K hK
  unfold RPost at hK
  rw [vc_loop]
  refine ⟨PoI i nn L K.toNat, ⟨K.toNat, _, (weak_own 3 nn 5 (by simp (maxSteps:=500000) only [↓vp, vv, ↓reduceIte, simprocAttr, ]) (by simp (maxSteps:=500000) only [↓vp, vv, ↓reduceIte, simprocAttr, hn3, hn4, hn5, hn6])).trans (weak_eq [] [i, nn] (PoF i nn 0 0 K) (by simp (maxSteps:=500000) only [↓vp, vv, ↓reduceIte, simprocAttr, coverS, PoF, hn3, hn4, hn5, hn6]) (by simp (maxSteps:=500000) only [↓vp, vv, ↓reduceIte, simprocAttr, refsF, PoF, hn3, hn4, hn5, hn6]) (by simp (maxSteps:=500000) only [↓vp, vv, ↓reduceIte, simprocAttr, PoF, hn3, hn4, hn5, hn6]) (by simp) (by simp (maxSteps:=500000) only [↓vp, vv, ↓reduceIte, simprocAttr, PoF, hn3, hn4, hn5, hn6]; try rfl)), a1.1, 0, [], a1.2, fun j hj => (by cases hj), by simp, by rw [show ((K.toNat : Nat) : Int) = K by omega]; rfl⟩, ?_⟩
  rintro k s ⟨at1, g, l, o1, hl, hlk, rfl⟩
  by_cases hk : (0 : Int) < k
  · have y1 : (l.length + 1) * 48 ≤ 140737488355328 := by omega
    have y2 : l.length + 1 ≤ 4611686018427387904 := by omega
    have w1 : IntKind.i64.wrap ((k : Int) - 1) = ((k - 1 : Nat) : Int) := by rw [wrap_i (by omega)]; omega
    have w3 : (l.length : Int) < 26 := by omega
    simp (maxSteps:=500000) only [↓vp, vv, ↓reduceIte, simprocAttr, c29, r29, c29_1, c29_2, c29_3, hn3, hn4, hn5, hn6, PoT, T2, T1, selRange, selPd, o1, PoF, PoH, hk, y1, y2, w3, idx_nn, Prd.enc, Prd.row]
    intro a2 p hp
    refine ⟨k - 1, ⟨fr (PoF i nn (g + 1) (l ++ [p]).length ((k - 1 : Nat) : Int)), PoH i nn L a2.1 (g + 1) (l ++ [p])⟩, by omega, ?_, a2.1, g + 1, l ++ [p], a2.2, fun j hj => ?_, by simp; omega, rfl⟩
    · exact (weak_eq [] [i, nn] (PoF i nn (g + 1) (l ++ [p]).length ((k - 1 : Nat) : Int)) (by simp (maxSteps:=500000) only [↓vp, vv, ↓reduceIte, simprocAttr, coverS, PoF, PoH, Prd.row, hn3, hn4, hn5, hn6, w1, List.map_append, List.map_cons, List.map_nil, List.length_append, List.length_cons, List.length_nil]) (by simp (maxSteps:=500000) only [↓vp, vv, ↓reduceIte, simprocAttr, refsF, PoF, PoH, Prd.row, hn3, hn4, hn5, hn6, w1, List.map_append, List.map_cons, List.map_nil, List.length_append, List.length_cons, List.length_nil]) (by simp (maxSteps:=500000) only [↓vp, vv, ↓reduceIte, simprocAttr, PoF, PoH, Prd.row, hn3, hn4, hn5, hn6, w1, List.map_append, List.map_cons, List.map_nil, List.length_append, List.length_cons, List.length_nil]) (by simp) (by simp (maxSteps:=500000) only [↓vp, vv, ↓reduceIte, simprocAttr, PoF, PoH, Prd.row, hn3, hn4, hn5, hn6, w1, List.map_append, List.map_cons, List.map_nil, List.length_append, List.length_cons, List.length_nil]; try rfl))
    · simp only [List.length_append, List.length_cons, List.length_nil] at hj
      by_cases h : j < l.length
      · rw [pd_left h]; exact hl j h
      · obtain rfl : j = l.length := by omega
        rw [pd_right]; exact hp
  · have tk : (l.map Prd.row).take l.length = l.map Prd.row := List.take_of_length_le (by simp)
    simp (maxSteps:=500000) only [↓vp, vv, ↓reduceIte, simprocAttr, c29, r29, c29_1, c29_2, c29_3, r29, hn3, hn4, hn5, hn6, PoT, T2, T1, o1, PoF, PoH, hk, tk]
    exact ⟨fun j hj => rfl, at1, g, l, o1, ⟨by omega, hl⟩, rfl, rfl⟩
def BoF (i nn : Nm) (n np : Int) (g m : Nat) (j : Int) : List (Nat × D) := [(0, .ptr i 0 0 0), (1, di n), (2, di np), (7, .own nn g 0 m), (8, di j)]
def BoH (i nn : Nm) (L : List (List D)) (at' : Int) (g : Nat) (l : List Bat) : Hp := (Hp.none.put nn ⟨g, 4, l.map Bat.row⟩).put i (sE L at')
set_option maxHeartbeats 8000000 in
theorem Batches_o (n np : Int) (h0 : 0 ≤ n ∧ n ≤ 100) (h3 : 1 ≤ np ∧ np ≤ 100) : ∀ i L at' nn, SrcOk L at' → nn.1 ≤ i.1 → nn ≠ i → CallsA Tryd.prog 30 [.ptr i 0 0 0, di n, di np] (Hp.none.put i (sE L at')) nn (SrcO i nn L 4 Bat.row (BatsIn n np)) := by
  intro i L at' nn ho hn1 hn2
  have hn3 : ¬ i = nn := fun e => hn2 e.symm
  have hn4 : ∀ t : Nat, ¬ nn = (i.1 + 1, t) := fun t e => by rw [e] at hn1; dsimp only at hn1; omega
  have hn5 : ∀ t : Nat, ¬ (i.1 + 1, t) = nn := fun t e => hn4 t e.symm
  have hn6 : ¬ nn = i := hn2
  have i1 : InI np := by unfold InI; omega
  have i2 : InI 3 := by unfold InI; decide
  obtain ⟨code, h1, h2⟩ := c30_ok
  refine callsA_of T2_ok mixed (N := fun t => if t = 23 then nn else (i.1 + 1, t)) Tryd.func30 h1 h2 r30_ok [i, nn] true (js_two i nn _) (js_two' i nn _) (by simp [Tryd.f30]) ?_
  simp (maxSteps:=500000) only [↓vp, vv, ↓reduceIte, simprocAttr, c30, r30, c30_1, c30_2, c30_3, hn3, hn4, hn5, hn6, T2, T1, ho]
  refine rng_loopP n.toNat (fun j (u : SA L × Nat × List Bat) => ⟨fr (BoF i nn n np u.2.1 u.2.2.length (j : Nat)), BoH i nn L u.1.1 u.2.1 u.2.2⟩) (fun j u => u.2.2.length = j ∧ ∀ b, b ∈ u.2.2 → 0 ≤ b.pr ∧ b.pr < np) (u0 := (⟨at', ho⟩, 0, [])) ((weak_own 7 nn 4 (by simp (maxSteps:=500000) only [↓vp, vv, ↓reduceIte, simprocAttr, ]) (by simp (maxSteps:=500000) only [↓vp, vv, ↓reduceIte, simprocAttr, hn3, hn4, hn5, hn6])).trans (weak_eq [] [i, nn] (BoF i nn n np 0 0 0) (by simp (maxSteps:=500000) only [↓vp, vv, ↓reduceIte, simprocAttr, coverS, BoF, BoH, hn3, hn4, hn5, hn6, List.map_nil, List.length_nil]) (by simp (maxSteps:=500000) only [↓vp, vv, ↓reduceIte, simprocAttr, refsF, BoF, BoH, hn3, hn4, hn5, hn6, List.map_nil, List.length_nil]) (by simp (maxSteps:=500000) only [↓vp, vv, ↓reduceIte, simprocAttr, BoF, BoH, hn3, hn4, hn5, hn6, List.map_nil, List.length_nil]) (by simp) (by simp (maxSteps:=500000) only [↓vp, vv, ↓reduceIte, simprocAttr, BoF, BoH, hn3, hn4, hn5, hn6, List.map_nil, List.length_nil]; try rfl))) ⟨rfl, fun b hb => (by cases hb)⟩ (fun j hj u hP => ?_) (fun u hP => ?_)
  · obtain ⟨a1, g, l⟩ := u
    obtain ⟨h4, h5⟩ := hP
    dsimp only at h4 h5
    have oa := a1.2
    have hj' : (j : Int) < n := by omega
    have w1 := idx_next (j := j) (by omega)
    have y1 : (l.length + 1) * 40 ≤ 140737488355328 := by omega
    have y2 : l.length + 1 ≤ 4611686018427387904 := by omega
    simp (maxSteps:=500000) only [↓vp, vv, ↓reduceIte, simprocAttr, c30, r30, c30_1, c30_2, c30_3, hn3, hn4, hn5, hn6, T2, T1, selI, selName, i1, i2, oa, BoF, BoH, hj', y1, y2]
    intro a2 x hx a3 y hy
    unfold NPost at hx hy
    refine ⟨by decide, ?_⟩
    have nx : (l ++ [(⟨x, nm1B ⟨#[102]⟩ y, 0, 1⟩ : Bat)]).length = j + 1 ∧ ∀ b, b ∈ l ++ [(⟨x, nm1B ⟨#[102]⟩ y, 0, 1⟩ : Bat)] → 0 ≤ b.pr ∧ b.pr < np := ⟨by simp; omega, fun b hb => by
      rcases List.mem_append.1 hb with hb | hb
      · exact h5 b hb
      · rw [List.mem_singleton.1 hb]; dsimp only; omega⟩
    refine rng_nextP hj (a3, g + 1, l ++ [(⟨x, nm1B ⟨#[102]⟩ y, 0, 1⟩ : Bat)]) ?_ nx
    exact (weak_eq [] [i, nn] (BoF i nn n np (g + 1) (l ++ [(⟨x, nm1B ⟨#[102]⟩ y, 0, 1⟩ : Bat)]).length ((j + 1 : Nat) : Int)) (by simp (maxSteps:=500000) only [↓vp, vv, ↓reduceIte, simprocAttr, coverS, BoF, BoH, Bat.row, hn3, hn4, hn5, hn6, w1, List.map_append, List.map_cons, List.map_nil, List.length_append, List.length_cons, List.length_nil]) (by simp (maxSteps:=500000) only [↓vp, vv, ↓reduceIte, simprocAttr, refsF, BoF, BoH, Bat.row, hn3, hn4, hn5, hn6, w1, List.map_append, List.map_cons, List.map_nil, List.length_append, List.length_cons, List.length_nil]) (by simp (maxSteps:=500000) only [↓vp, vv, ↓reduceIte, simprocAttr, BoF, BoH, Bat.row, hn3, hn4, hn5, hn6, w1, List.map_append, List.map_cons, List.map_nil, List.length_append, List.length_cons, List.length_nil]) (by simp) (by simp (maxSteps:=500000) only [↓vp, vv, ↓reduceIte, simprocAttr, BoF, BoH, Bat.row, hn3, hn4, hn5, hn6, w1, List.map_append, List.map_cons, List.map_nil, List.length_append, List.length_cons, List.length_nil]; try rfl))
  · obtain ⟨a1, g, l⟩ := u
    obtain ⟨h4, h5⟩ := hP
    dsimp only at h4 h5
    have tk : (l.map Bat.row).take l.length = l.map Bat.row := List.take_of_length_le (by simp)
    have hj' : ¬ ((n.toNat : Nat) : Int) < n := by omega
    simp (maxSteps:=500000) only [↓vp, vv, ↓reduceIte, simprocAttr, c30, r30, c30_1, c30_2, c30_3, r30, hn3, hn4, hn5, hn6, T2, T1, BoF, BoH, hj', tk]
    exact ⟨fun j hj => rfl, a1.1, g, l, a1.2, ⟨by omega, h5⟩, rfl, rfl⟩
def volS (l : List Pce) : Int := (l.map (·.vo)).sum
structure FillP (v : Int) (l : List Pce) (vol : Int) : Prop where
  len : l.length ≤ 12
  at' : ∀ p, p ∈ l → (0 ≤ p.ba ∧ p.ba < 4) ∧ 1 ≤ p.vo
  nb : ∀ j, j + 1 < l.length → (pcA l j).ba ≠ (pcA l (j + 1)).ba
  sum : volS l + vol = v
  v0 : 0 ≤ vol
  fin : l.length = 12 → vol = 0
  le : vol ≤ v
structure FillIn (v : Int) (l : List Pce) : Prop where
  len : l.length ≤ 12
  at' : ∀ p, p ∈ l → (0 ≤ p.ba ∧ p.ba < 4) ∧ 1 ≤ p.vo
  nb : ∀ j, j + 1 < l.length → (pcA l j).ba ≠ (pcA l (j + 1)).ba
  sum : volS l = v
theorem pc_left {l : List Pce} {c : Pce} {j : Nat} (h : j < l.length) : pcA (l ++ [c]) j = pcA l j := by
  unfold pcA
  rw [List.getD_eq_getElem?_getD, List.getD_eq_getElem?_getD, List.getElem?_append_left h]
theorem pc_right (l : List Pce) (c : Pce) : pcA (l ++ [c]) l.length = c := by
  unfold pcA
  rw [List.getD_eq_getElem?_getD, List.getElem?_append_right (Nat.le_refl _), Nat.sub_self]
  rfl
theorem volS_app (l : List Pce) (p : Pce) : volS (l ++ [p]) = volS l + p.vo := by
  unfold volS
  induction l with
  | nil => simp
  | cons y l ih => rw [List.cons_append, List.map_cons, List.map_cons, List.sum_cons, List.sum_cons, ih]; omega
theorem fill_next {v : Int} {l : List Pce} {vol : Int} (h : FillP v l vol) (hl : l.length < 12) {x z : Int} (hx : 0 ≤ x ∧ x < 4) (hz : 1 ≤ z ∧ z ≤ vol) (hn : 0 < l.length → (pcA l (l.length - 1)).ba ≠ x) (he : l.length = 11 → z = vol) : FillP v (l ++ [⟨x, z⟩]) (vol - z) := by
  refine ⟨by simp; omega, fun p hp => ?_, fun j hj => ?_, ?_, by omega, fun e => ?_, by have := h.le; omega⟩
  · rcases List.mem_append.1 hp with hp | hp
    · exact h.at' p hp
    · rw [List.mem_singleton.1 hp]; exact ⟨hx, hz.1⟩
  · simp only [List.length_append, List.length_cons, List.length_nil] at hj
    by_cases hjl : j + 1 < l.length
    · rw [pc_left hjl, pc_left (by omega)]; exact h.nb j hjl
    · have e : l.length = j + 1 := by omega
      have hr := pc_right l ⟨x, z⟩
      rw [e] at hr
      rw [hr, pc_left (by omega)]
      have := hn (by omega)
      rw [e, Nat.add_sub_cancel] at this
      exact this
  · rw [volS_app]; have := h.sum; dsimp only; omega
  · simp only [List.length_append, List.length_cons, List.length_nil] at e
    have := he (by omega)
    omega
def FoF (i nn : Nm) (vol : Int) (g m : Nat) : List (Nat × D) := [(0, .ptr i 0 0 0), (1, di vol), (2, di 4), (7, .own nn g 0 m)]
def FoH (i nn : Nm) (L : List (List D)) (at' : Int) (g : Nat) (l : List Pce) : Hp := (Hp.none.put nn ⟨g, 2, l.map Pce.row⟩).put i (sE L at')
def FoI (i nn : Nm) (L : List (List D)) (v : Int) (k : Nat) (s : St) : Prop := ∃ at' g l vol, SrcOk L at' ∧ FillP v l vol ∧ (k : Int) = vol ∧ s = ⟨fr (FoF i nn vol g l.length), FoH i nn L at' g l⟩
set_option maxHeartbeats 16000000 in
theorem Fill_o (v : Int) (hv : 1 ≤ v ∧ v ≤ 1000000) : ∀ i L at' nn, SrcOk L at' → nn.1 ≤ i.1 → nn ≠ i → CallsA Tryd.prog 31 [.ptr i 0 0 0, di v, di 4] (Hp.none.put i (sE L at')) nn (SrcO i nn L 2 Pce.row (FillIn v)) := by
  intro i L at' nn ho hn1 hn2
  have hn3 : ¬ i = nn := fun e => hn2 e.symm
  have hn4 : ∀ t : Nat, ¬ nn = (i.1 + 1, t) := fun t e => by rw [e] at hn1; dsimp only at hn1; omega
  have hn5 : ∀ t : Nat, ¬ (i.1 + 1, t) = nn := fun t e => hn4 t e.symm
  have hn6 : ¬ nn = i := hn2
  have i1 : InI 4 := by unfold InI; decide
  obtain ⟨code, h1, h2⟩ := c31_ok
  refine callsA_of T2_ok mixed (N := fun t => if t = 90 then nn else (i.1 + 1, t)) Tryd.func31 h1 h2 r31_ok [i, nn] true (js_two i nn _) (js_two' i nn _) (by simp [Tryd.f31]) ?_
  simp (maxSteps:=500000) only [↓vp, vv, ↓reduceIte, simprocAttr, c31, r31, c31_1, c31_2, c31_3, c31_4, c31_5, hn3, hn4, hn5, hn6, T2, T1, ho]
  rw [vc_loop]
  refine ⟨FoI i nn L v, ⟨v.toNat, _, (weak_own 7 nn 2 (by simp (maxSteps:=500000) only [↓vp, vv, ↓reduceIte, simprocAttr, ]) (by simp (maxSteps:=500000) only [↓vp, vv, ↓reduceIte, simprocAttr, hn3, hn4, hn5, hn6])).trans (weak_eq [] [i, nn] (FoF i nn v 0 0) (by simp (maxSteps:=500000) only [↓vp, vv, ↓reduceIte, simprocAttr, coverS, FoF, hn3, hn4, hn5, hn6]) (by simp (maxSteps:=500000) only [↓vp, vv, ↓reduceIte, simprocAttr, refsF, FoF, hn3, hn4, hn5, hn6]) (by simp (maxSteps:=500000) only [↓vp, vv, ↓reduceIte, simprocAttr, FoF, hn3, hn4, hn5, hn6]) (by simp) (by simp (maxSteps:=500000) only [↓vp, vv, ↓reduceIte, simprocAttr, FoF, hn3, hn4, hn5, hn6]; try rfl)), at', 0, [], v, ho, ⟨by simp, fun p hp => (by cases hp), fun j hj => (by simp at hj), by simp [volS], by omega, fun e => (by simp at e), Int.le_refl _⟩, by omega, rfl⟩, ?_⟩
  rintro k s ⟨at1, g, l, vol, o1, hl, hlk, rfl⟩
  have hlen := hl.len
  have hv0 := hl.v0
  have hvs : vol ≤ 1000000 := by have := hl.le; omega
  by_cases hk : (0 : Int) < vol
  · have hl2 : l.length < 12 := by
      rcases Nat.lt_or_ge l.length 12 with h | h
      · exact h
      · have := hl.fin (by omega); omega
    have hl2' : (l.length : Int) < 12 := by omega
    have w1 : IntKind.i64.wrap (vol * 2) = vol * 2 := wrap_i (by omega)
    have w2 : (vol * 2).tdiv 3 = vol * 2 / 3 := Int.tdiv_eq_ediv_of_nonneg (by omega)
    obtain ⟨q, hq⟩ : ∃ q, vol * 2 / 3 = q := ⟨_, rfl⟩
    have q0 : 0 ≤ q ∧ q ≤ 1000000 := by omega
    have y1 : (l.length + 1) * 16 ≤ 140737488355328 := by omega
    have y2 : l.length + 1 ≤ 4611686018427387904 := by omega
    have w3 : IntKind.i64.wrap q = q := wrap_i (by omega)
    obtain ⟨mm, hmm⟩ : ∃ mm, (if 1 < q then q else 1) = mm := ⟨_, rfl⟩
    have m0 : 1 ≤ mm ∧ mm ≤ 1000000 := by rw [← hmm]; split <;> omega
    have m1 : InI mm := by unfold InI; omega
    have m2 : InI (mm - 1) := by unfold InI; omega
    have m3 : mm - 1 < 9223372036854775807 := by omega
    by_cases h0 : l.length = 0
    · obtain rfl : l = [] := List.length_eq_zero_iff.1 h0
      simp (maxSteps:=500000) only [↓vp, vv, ↓reduceIte, simprocAttr, c31, r31, c31_1, c31_2, c31_3, c31_4, c31_5, hn3, hn4, hn5, hn6, T2, T1, selI, selRange, i1, m1, m2, m3, o1, FoF, FoH, hk, hl2', w1, w2, w3, hq, hmm, y1, y2, idx_nn, Int.toNat_natCast, List.length_nil]
      intro a2 x hx a3 y hy
      unfold NPost at hx
      unfold RPost at hy
      obtain ⟨z, hz⟩ : ∃ z, (if vol < y then vol else y) = z := ⟨_, rfl⟩
      have z0 : 1 ≤ z ∧ z ≤ vol := by rw [← hz]; split <;> omega
      have wz : IntKind.i64.wrap (vol - z) = vol - z := wrap_i (by omega)
      refine ⟨(vol - z).toNat, ⟨fr (FoF i nn (vol - z) (g + 1) (([] : List Pce) ++ [(⟨x, z⟩ : Pce)]).length), FoH i nn L a3.1 (g + 1) (([] : List Pce) ++ [(⟨x, z⟩ : Pce)])⟩, by omega, ?_, a3.1, g + 1, ([] : List Pce) ++ [(⟨x, z⟩ : Pce)], vol - z, a3.2, fill_next hl (by omega) (by omega) (by omega) (fun h => (by simp at h)) (fun h => (by simp at h)), by omega, rfl⟩
      exact (weak_eq [] [i, nn] (FoF i nn (vol - z) (g + 1) (([] : List Pce) ++ [(⟨x, z⟩ : Pce)]).length) (by simp (maxSteps:=500000) only [↓vp, vv, ↓reduceIte, simprocAttr, coverS, FoF, FoH, Pce.row, hn3, hn4, hn5, hn6, wz, hz, List.map_append, List.map_cons, List.map_nil, List.length_append, List.length_cons, List.length_nil]) (by simp (maxSteps:=500000) only [↓vp, vv, ↓reduceIte, simprocAttr, refsF, FoF, FoH, Pce.row, hn3, hn4, hn5, hn6, wz, hz, List.map_append, List.map_cons, List.map_nil, List.length_append, List.length_cons, List.length_nil]) (by simp (maxSteps:=500000) only [↓vp, vv, ↓reduceIte, simprocAttr, FoF, FoH, Pce.row, hn3, hn4, hn5, hn6, wz, hz, List.map_append, List.map_cons, List.map_nil, List.length_append, List.length_cons, List.length_nil]) (by simp) (by simp (maxSteps:=500000) only [↓vp, vv, ↓reduceIte, simprocAttr, FoF, FoH, Pce.row, hn3, hn4, hn5, hn6, wz, hz, List.map_append, List.map_cons, List.map_nil, List.length_append, List.length_cons, List.length_nil]; try rfl))
    have c0 : (0 : Int) < l.length := by omega
    have wl : IntKind.i64.wrap ((l.length : Int) - 1) = ((l.length - 1 : Nat) : Int) := by rw [wrap_i (by omega)]; omega
    have c1 : ((l.length - 1 : Nat) : Int) < l.length := by omega
    have c2 : l.length - 1 < l.length := by omega
    have gl := pc_get c2
    have hlast := hl.at' (pcA l (l.length - 1)) (by rw [← pc_at c2]; exact List.getElem_mem c2)
    by_cases h11 : l.length = 11
    · have k11 : ((l.length : Int) == 11) = true := by rw [beq_iff_eq]; omega
      simp (maxSteps:=500000) only [↓vp, vv, ↓reduceIte, simprocAttr, c31, r31, c31_1, c31_2, c31_3, c31_4, c31_5, hn3, hn4, hn5, hn6, T2, T1, selI, selRange, i1, m1, m2, m3, o1, FoF, FoH, hk, hl2', w1, w2, w3, hq, hmm, y1, y2, idx_nn, Int.toNat_natCast, c0, wl, c1, c2, gl, k11, Int.lt_irrefl]
      intro a2 x hx a3 y hy
      unfold NPost at hx
      have wz : IntKind.i64.wrap (vol - vol) = vol - vol := wrap_i (by omega)
      have wx : IntKind.i64.wrap (x + 1) = x + 1 := wrap_i (by omega)
      have tx : (x + 1).tmod 4 = (x + 1) % 4 := Int.tmod_eq_emod_of_nonneg (by omega)
      split
      · rename_i hb
        have hb := eq_of_beq hb
        rw [wx, tx, if_neg (by rw [beq_iff_eq]; omega)]
        refine ⟨(vol - vol).toNat, ⟨fr (FoF i nn (vol - vol) (g + 1) (l ++ [(⟨(x + 1) % 4, vol⟩ : Pce)]).length), FoH i nn L a3.1 (g + 1) (l ++ [(⟨(x + 1) % 4, vol⟩ : Pce)])⟩, by omega, ?_, a3.1, g + 1, l ++ [(⟨(x + 1) % 4, vol⟩ : Pce)], vol - vol, a3.2, fill_next hl (by omega) (by omega) (by omega) (fun h => (by omega)) (by omega), by omega, rfl⟩
        exact (weak_eq [] [i, nn] (FoF i nn (vol - vol) (g + 1) (l ++ [(⟨(x + 1) % 4, vol⟩ : Pce)]).length) (by simp (maxSteps:=500000) only [↓vp, vv, ↓reduceIte, simprocAttr, coverS, FoF, FoH, Pce.row, hn3, hn4, hn5, hn6, wz, Int.lt_irrefl, wx, tx, List.map_append, List.map_cons, List.map_nil, List.length_append, List.length_cons, List.length_nil]) (by simp (maxSteps:=500000) only [↓vp, vv, ↓reduceIte, simprocAttr, refsF, FoF, FoH, Pce.row, hn3, hn4, hn5, hn6, wz, Int.lt_irrefl, wx, tx, List.map_append, List.map_cons, List.map_nil, List.length_append, List.length_cons, List.length_nil]) (by simp (maxSteps:=500000) only [↓vp, vv, ↓reduceIte, simprocAttr, FoF, FoH, Pce.row, hn3, hn4, hn5, hn6, wz, Int.lt_irrefl, wx, tx, List.map_append, List.map_cons, List.map_nil, List.length_append, List.length_cons, List.length_nil]) (by simp) (by simp (maxSteps:=500000) only [↓vp, vv, ↓reduceIte, simprocAttr, FoF, FoH, Pce.row, hn3, hn4, hn5, hn6, wz, Int.lt_irrefl, wx, tx, List.map_append, List.map_cons, List.map_nil, List.length_append, List.length_cons, List.length_nil]; try rfl))
      · rename_i hb
        have hb : (pcA l (l.length - 1)).ba ≠ x := fun e => hb (by rw [e]; exact beq_self_eq_true _)
        refine ⟨(vol - vol).toNat, ⟨fr (FoF i nn (vol - vol) (g + 1) (l ++ [(⟨x, vol⟩ : Pce)]).length), FoH i nn L a3.1 (g + 1) (l ++ [(⟨x, vol⟩ : Pce)])⟩, by omega, ?_, a3.1, g + 1, l ++ [(⟨x, vol⟩ : Pce)], vol - vol, a3.2, fill_next hl (by omega) (by omega) (by omega) (fun h => hb) (by omega), by omega, rfl⟩
        exact (weak_eq [] [i, nn] (FoF i nn (vol - vol) (g + 1) (l ++ [(⟨x, vol⟩ : Pce)]).length) (by simp (maxSteps:=500000) only [↓vp, vv, ↓reduceIte, simprocAttr, coverS, FoF, FoH, Pce.row, hn3, hn4, hn5, hn6, wz, Int.lt_irrefl, List.map_append, List.map_cons, List.map_nil, List.length_append, List.length_cons, List.length_nil]) (by simp (maxSteps:=500000) only [↓vp, vv, ↓reduceIte, simprocAttr, refsF, FoF, FoH, Pce.row, hn3, hn4, hn5, hn6, wz, Int.lt_irrefl, List.map_append, List.map_cons, List.map_nil, List.length_append, List.length_cons, List.length_nil]) (by simp (maxSteps:=500000) only [↓vp, vv, ↓reduceIte, simprocAttr, FoF, FoH, Pce.row, hn3, hn4, hn5, hn6, wz, Int.lt_irrefl, List.map_append, List.map_cons, List.map_nil, List.length_append, List.length_cons, List.length_nil]) (by simp) (by simp (maxSteps:=500000) only [↓vp, vv, ↓reduceIte, simprocAttr, FoF, FoH, Pce.row, hn3, hn4, hn5, hn6, wz, Int.lt_irrefl, List.map_append, List.map_cons, List.map_nil, List.length_append, List.length_cons, List.length_nil]; try rfl))
    · have k11 : ((l.length : Int) == 11) = false := by rw [beq_eq_false_iff_ne]; omega
      simp (maxSteps:=500000) only [↓vp, vv, ↓reduceIte, simprocAttr, c31, r31, c31_1, c31_2, c31_3, c31_4, c31_5, hn3, hn4, hn5, hn6, T2, T1, selI, selRange, i1, m1, m2, m3, o1, FoF, FoH, hk, hl2', w1, w2, w3, hq, hmm, y1, y2, idx_nn, Int.toNat_natCast, c0, wl, c1, c2, gl, k11, Int.lt_irrefl]
      intro a2 x hx a3 y hy
      unfold NPost at hx
      unfold RPost at hy
      obtain ⟨z, hz⟩ : ∃ z, (if vol < y then vol else y) = z := ⟨_, rfl⟩
      have z0 : 1 ≤ z ∧ z ≤ vol := by rw [← hz]; split <;> omega
      have wz : IntKind.i64.wrap (vol - z) = vol - z := wrap_i (by omega)
      have wx : IntKind.i64.wrap (x + 1) = x + 1 := wrap_i (by omega)
      have tx : (x + 1).tmod 4 = (x + 1) % 4 := Int.tmod_eq_emod_of_nonneg (by omega)
      split
      · rename_i hb
        have hb := eq_of_beq hb
        rw [wx, tx, if_neg (by rw [beq_iff_eq]; omega)]
        refine ⟨(vol - z).toNat, ⟨fr (FoF i nn (vol - z) (g + 1) (l ++ [(⟨(x + 1) % 4, z⟩ : Pce)]).length), FoH i nn L a3.1 (g + 1) (l ++ [(⟨(x + 1) % 4, z⟩ : Pce)])⟩, by omega, ?_, a3.1, g + 1, l ++ [(⟨(x + 1) % 4, z⟩ : Pce)], vol - z, a3.2, fill_next hl (by omega) (by omega) (by omega) (fun h => (by omega)) (by omega), by omega, rfl⟩
        exact (weak_eq [] [i, nn] (FoF i nn (vol - z) (g + 1) (l ++ [(⟨(x + 1) % 4, z⟩ : Pce)]).length) (by simp (maxSteps:=500000) only [↓vp, vv, ↓reduceIte, simprocAttr, coverS, FoF, FoH, Pce.row, hn3, hn4, hn5, hn6, wz, hz, wx, tx, List.map_append, List.map_cons, List.map_nil, List.length_append, List.length_cons, List.length_nil]) (by simp (maxSteps:=500000) only [↓vp, vv, ↓reduceIte, simprocAttr, refsF, FoF, FoH, Pce.row, hn3, hn4, hn5, hn6, wz, hz, wx, tx, List.map_append, List.map_cons, List.map_nil, List.length_append, List.length_cons, List.length_nil]) (by simp (maxSteps:=500000) only [↓vp, vv, ↓reduceIte, simprocAttr, FoF, FoH, Pce.row, hn3, hn4, hn5, hn6, wz, hz, wx, tx, List.map_append, List.map_cons, List.map_nil, List.length_append, List.length_cons, List.length_nil]) (by simp) (by simp (maxSteps:=500000) only [↓vp, vv, ↓reduceIte, simprocAttr, FoF, FoH, Pce.row, hn3, hn4, hn5, hn6, wz, hz, wx, tx, List.map_append, List.map_cons, List.map_nil, List.length_append, List.length_cons, List.length_nil]; try rfl))
      · rename_i hb
        have hb : (pcA l (l.length - 1)).ba ≠ x := fun e => hb (by rw [e]; exact beq_self_eq_true _)
        refine ⟨(vol - z).toNat, ⟨fr (FoF i nn (vol - z) (g + 1) (l ++ [(⟨x, z⟩ : Pce)]).length), FoH i nn L a3.1 (g + 1) (l ++ [(⟨x, z⟩ : Pce)])⟩, by omega, ?_, a3.1, g + 1, l ++ [(⟨x, z⟩ : Pce)], vol - z, a3.2, fill_next hl (by omega) (by omega) (by omega) (fun h => hb) (by omega), by omega, rfl⟩
        exact (weak_eq [] [i, nn] (FoF i nn (vol - z) (g + 1) (l ++ [(⟨x, z⟩ : Pce)]).length) (by simp (maxSteps:=500000) only [↓vp, vv, ↓reduceIte, simprocAttr, coverS, FoF, FoH, Pce.row, hn3, hn4, hn5, hn6, wz, hz, List.map_append, List.map_cons, List.map_nil, List.length_append, List.length_cons, List.length_nil]) (by simp (maxSteps:=500000) only [↓vp, vv, ↓reduceIte, simprocAttr, refsF, FoF, FoH, Pce.row, hn3, hn4, hn5, hn6, wz, hz, List.map_append, List.map_cons, List.map_nil, List.length_append, List.length_cons, List.length_nil]) (by simp (maxSteps:=500000) only [↓vp, vv, ↓reduceIte, simprocAttr, FoF, FoH, Pce.row, hn3, hn4, hn5, hn6, wz, hz, List.map_append, List.map_cons, List.map_nil, List.length_append, List.length_cons, List.length_nil]) (by simp) (by simp (maxSteps:=500000) only [↓vp, vv, ↓reduceIte, simprocAttr, FoF, FoH, Pce.row, hn3, hn4, hn5, hn6, wz, hz, List.map_append, List.map_cons, List.map_nil, List.length_append, List.length_cons, List.length_nil]; try rfl))
  · have hvz : vol = 0 := by omega
    subst hvz
    have tk : (l.map Pce.row).take l.length = l.map Pce.row := List.take_of_length_le (by simp)
    simp (maxSteps:=500000) only [↓vp, vv, ↓reduceIte, simprocAttr, c31, r31, c31_1, c31_2, c31_3, c31_4, c31_5, r31, hn3, hn4, hn5, hn6, T2, T1, o1, FoF, FoH, tk, Int.lt_irrefl]
    exact ⟨fun j hj => rfl, at1, g, l, o1, ⟨hlen, hl.at', hl.nb, by have := hl.sum; omega⟩, rfl, rfl⟩
def decI2 : List D → Option (List Int × List Int)
  | [.sl x, .sl y] => match intsOf x, intsOf y with
    | some a, some b => some (a, b)
    | _, _ => Option.none
  | _ => Option.none
theorem decI2_eq : ∀ l a, decI2 l = some a → l = [.sl (a.1.map iR), .sl (a.2.map iR)] := fun l a h => by
  unfold decI2 at h
  split at h
  · split at h
    · rename_i e e'; cases h; rw [intsOf_eqR e, intsOf_eqR e']
    · cases h
  · cases h
def Sc2 (a : List Int × List Int) : Prop := SecPre a.1 a.2
def selSc := selX decI2 Sc2 fun a => ie (secI a.1 a.2)
theorem tc_sc {T : Tbl} (hT : TblOk Tryd.prog T) : TblOk Tryd.prog (tc 37 (rowPu selSc) T) := tc_x f37_ok decI2_eq (fun a h nn => psec_c _ _ h nn) hT
def ChgT : Tbl := tc 37 (rowPu selSc) T0
theorem ChgT_ok : TblOk Tryd.prog ChgT := tc_sc (T0_ok _)
structure ChgPre (a b s : List Int) : Prop where
  a : SecPre a s
  b : SecPre b s
set_option maxHeartbeats 4000000 in
theorem pchg_c (a b s : List Int) (h : ChgPre a b s) (nn : Nm) : CallsA Tryd.prog 38 [.sl (a.map iR), .sl (b.map iR), .sl (s.map iR)] Hp.none nn (Pu (ie (chgI a b s)) Hp.none) := by
  obtain ⟨code, h1, h2⟩ := c38_ok
  refine callsA_of ChgT_ok mixed (N := fun t => (0, t)) Tryd.func38 h1 h2 r38_ok [] false js_nil js_nil' (by simp [Tryd.f38]) ?_
  have p1 : Sc2 (a, s) := h.a
  have p2 : Sc2 (b, s) := h.b
  have e0 : chgI a b s = if (secI a s).2 = 0 then (if (secI b s).2 = 0 then (IntKind.i64.wrap ((secI b s).1 - (secI a s).1), 0) else (0, (secI b s).2)) else (0, (secI a s).2) := rfl
  cases c1 : ((secI a s).2 != 0) with
  | true =>
    rw [if_neg (neq_b c1)] at e0
    simp (maxSteps:=500000) only [↓vp, vv, ↓reduceIte, simprocAttr, c38, r38, c38_1, c38_2, r38, ChgT, selSc, selX, decI2, intsOf_iR, p1, p2, c1, e0, ie, Pu]
  | false =>
  have k1 := eq_b c1
  rw [if_pos k1] at e0
  cases c2 : ((secI b s).2 != 0) with
  | true =>
    rw [if_neg (neq_b c2)] at e0
    simp (maxSteps:=500000) only [↓vp, vv, ↓reduceIte, simprocAttr, c38, r38, c38_1, c38_2, r38, ChgT, selSc, selX, decI2, intsOf_iR, p1, p2, k1, c2, e0, ie, Pu]
  | false =>
    have k2 := eq_b c2
    rw [if_pos k2] at e0
    simp (maxSteps:=500000) only [↓vp, vv, ↓reduceIte, simprocAttr, c38, r38, c38_1, c38_2, r38, ChgT, selSc, selX, decI2, intsOf_iR, p1, p2, k1, k2, e0, ie, Pu]
def decI3 : List D → Option (List Int × List Int × List Int)
  | [.sl x, .sl y, .sl z] => match intsOf x, intsOf y, intsOf z with
    | some a, some b, some c => some (a, b, c)
    | _, _, _ => Option.none
  | _ => Option.none
theorem decI3_eq : ∀ l a, decI3 l = some a → l = [.sl (a.1.map iR), .sl (a.2.1.map iR), .sl (a.2.2.map iR)] := fun l a h => by
  unfold decI3 at h
  split at h
  · split at h
    · rename_i e e' e''; cases h; rw [intsOf_eqR e, intsOf_eqR e', intsOf_eqR e'']
    · cases h
  · cases h
def Ch3 (a : List Int × List Int × List Int) : Prop := ChgPre a.1 a.2.1 a.2.2
def selCg := selX decI3 Ch3 fun a => ie (chgI a.1 a.2.1 a.2.2)
theorem tc_cg {T : Tbl} (hT : TblOk Tryd.prog T) : TblOk Tryd.prog (tc 38 (rowPu selCg) T) := tc_x f38_ok decI3_eq (fun a h nn => pchg_c _ _ _ h nn) hT
def AwT : Tbl := tc 34 (rowPu selSg) (tc 38 (rowPu selCg) T0)
theorem AwT_ok : TblOk Tryd.prog AwT := tc_sg (tc_cg (T0_ok _))
set_option maxHeartbeats 4000000 in
theorem awake33_c (nn : Nm) : CallsA Tryd.prog 28 [] Hp.none nn (Pu (db true) Hp.none) := by
  obtain ⟨code, h1, h2⟩ := c28_ok
  refine callsA_of AwT_ok mixed (N := fun t => (0, t)) Tryd.func28 h1 h2 r28_ok [] false js_nil js_nil' (by simp [Tryd.f28]) ?_
  have d1 : prdsOf [[ds ⟨#[112]⟩, di 800, di 800, di 0, di 1000]] = some [⟨⟨#[112]⟩, 800, 800, 0, 1000⟩] := rfl
  have d2 : btsOf [[di 0, ds ⟨#[115]⟩, di 0, di 0]] = some [⟨0, ⟨#[115]⟩, 0, 0⟩] := rfl
  have d3 : pcsOf [[di 0, di 100]] = some [⟨0, 100⟩] := rfl
  have d4 : cndOf [di 150, di 0] = some ⟨150, 0⟩ := rfl
  have d5 : intsOf [[di 5], [di 7]] = some [5, 7] := rfl
  have d6 : intsOf [[di 6], [di 9]] = some [6, 9] := rfl
  have d7 : intsOf [[di 1]] = some [1] := rfl
  have o1 : SgOk ⟨[⟨⟨#[112]⟩, 800, 800, 0, 1000⟩], [⟨0, ⟨#[115]⟩, 0, 0⟩], [⟨0, 100⟩], ⟨150, 0⟩⟩ := ⟨by simp, by simp, by simp⟩
  have o2 : Ch3 ([5, 7], [6, 9], [1]) := ⟨⟨by simp, by simp, by unfold InI; simp⟩, ⟨by simp, by simp, by unfold InI; simp⟩⟩
  have v1 : segI [⟨⟨#[112]⟩, 800, 800, 0, 1000⟩] [⟨0, ⟨#[115]⟩, 0, 0⟩] [⟨0, 100⟩] ⟨150, 0⟩ = (100, 0) := by decide +kernel
  have v2 : chgI [5, 7] [6, 9] [1] = (2, 0) := by decide +kernel
  simp (maxSteps:=500000) only [↓vp, vv, ↓reduceIte, simprocAttr, c28, r28, r28, AwT, selSg, selCg, selX, decSg, decI3, d1, d2, d3, d4, d5, d6, d7, o1, o2, v1, v2, ie, Pu]
theorem nm_two (c : UInt8) (j : Nat) (h : j < 26) : nm1B ⟨#[c]⟩ (j : Int) = ⟨#[c, UInt8.ofNat (97 + j)]⟩ := by
  have e : (j : Int).tmod 26 = j := by rw [Int.tmod_eq_emod_of_nonneg (by omega)]; omega
  have e2 : IntKind.i64.wrap (97 + (j : Int)) = 97 + j := wrap_i (by omega)
  have e3 : IntKind.u8.wrap (97 + (j : Int)) = 97 + j := by
    simp [IntKind.wrap, IntKind.signed, IntKind.bits]
    omega
  unfold nm1B
  rw [e, e2, e3]
  have e4 : (97 + (j : Int)).toNat = 97 + j := by omega
  simp only [strOf, List.foldl_cons, List.foldl_nil, e4]
  rfl
theorem toList_two (a b : UInt8) : (ByteArray.mk #[a, b]).toList = [a, b] := by rw [ba_toList]
theorem nm_ne (c : UInt8) (i j : Nat) (hi : i < 26) (hj : j < 26) (h : i ≠ j) : eqS (nm1B ⟨#[c]⟩ (i : Int)) (nm1B ⟨#[c]⟩ (j : Int)) = false := by
  rw [nm_two c i hi, nm_two c j hj]
  unfold eqS
  rw [toList_two, toList_two]
  refine beq_false_of_ne fun e => h ?_
  simp at e
  have := congrArg UInt8.toNat e
  simp at this
  omega
theorem AllI.map {α β : Type} {P : Nat → β → Prop} {Q : Nat → α → Prop} {l : List α} (f : α → β) (h : AllI Q l) (hq : ∀ j x, Q j x → P j (f x)) : AllI P (l.map f) := fun j y hj => by
  rw [List.getElem?_map] at hj
  cases hx : l[j]? with
  | none => rw [hx] at hj; cases hj
  | some x => rw [hx] at hj; cases hj; exact hq j x (h j x hx)
def rowPdO : List D → Hp → Nm → Option (Prop × (D → Hp → Prop)) := fun args Hs nn =>
  match args with
  | [.ptr i g r c] =>
    match Hs i with
    | some ⟨_, _, [[.sl L, .v (.int .i64 at')]]⟩ => some ((Hs = Hp.none.put i (sE L at') ∧ g = 0 ∧ r = 0 ∧ c = 0) ∧ SrcOk L at' ∧ (nn.1 ≤ i.1 ∧ nn ≠ i), SrcO i nn L 5 Prd.row PrdsIn)
    | _ => Option.none
  | _ => Option.none
theorem prds_one : PrdsIn [⟨nm1B ⟨#[112]⟩ 0, 800, 0, 0, 1000⟩] := ⟨by simp, fun j hj => by
  obtain rfl : j = 0 := by simp at hj; exact hj
  exact ⟨rfl, by decide, by decide, by decide, by decide⟩⟩
theorem tc_pdO {T : Tbl} (hT : TblOk Tryd.prog T) : TblOk Tryd.prog (tc 29 rowPdO T) :=
  tc_row f29_ok (fun args Hs nn pre R hr hp => by
    unfold rowPdO at hr
    split at hr
    · split at hr
      · cases hr
        obtain ⟨⟨h1, rfl, rfl, rfl⟩, h2, h3⟩ := hp
        rw [h1]
        exact ⟨⟨_, _, _, 0, _, h2, prds_one, rfl, rfl⟩, Products_o _ _ _ _ h2 h3.1 h3.2⟩
      · cases hr
    · cases hr) hT
def rowBtO : List D → Hp → Nm → Option (Prop × (D → Hp → Prop)) := fun args Hs nn =>
  match args with
  | [.ptr i g r c, .v (.int .i64 n), .v (.int .i64 np)] =>
    match Hs i with
    | some ⟨_, _, [[.sl L, .v (.int .i64 at')]]⟩ => some ((Hs = Hp.none.put i (sE L at') ∧ g = 0 ∧ r = 0 ∧ c = 0) ∧ SrcOk L at' ∧ (nn.1 ≤ i.1 ∧ nn ≠ i) ∧ (0 ≤ n ∧ n ≤ 100) ∧ (1 ≤ np ∧ np ≤ 100), SrcO i nn L 4 Bat.row (BatsIn n np))
    | _ => Option.none
  | _ => Option.none
theorem bats_ex {n np : Int} (h : 0 ≤ n) (h2 : 1 ≤ np) : BatsIn n np (List.replicate n.toNat ⟨0, ⟨#[]⟩, 0, 1⟩) := ⟨by simp; omega, fun b hb => by
  rw [List.eq_of_mem_replicate hb]
  exact ⟨Int.le_refl _, by dsimp only; omega⟩⟩
theorem tc_btO {T : Tbl} (hT : TblOk Tryd.prog T) : TblOk Tryd.prog (tc 30 rowBtO T) :=
  tc_row f30_ok (fun args Hs nn pre R hr hp => by
    unfold rowBtO at hr
    split at hr
    · split at hr
      · cases hr
        obtain ⟨⟨h1, rfl, rfl, rfl⟩, h2, h3, h4, h5⟩ := hp
        rw [h1]
        exact ⟨⟨_, _, _, 0, _, h2, bats_ex h4.1 h5.1, rfl, rfl⟩, Batches_o _ _ h4 h5 _ _ _ _ h2 h3.1 h3.2⟩
      · cases hr
    · cases hr) hT
def rowFlO : List D → Hp → Nm → Option (Prop × (D → Hp → Prop)) := fun args Hs nn =>
  match args with
  | [.ptr i g r c, .v (.int .i64 v), .v (.int .i64 n)] =>
    match Hs i with
    | some ⟨_, _, [[.sl L, .v (.int .i64 at')]]⟩ => some ((Hs = Hp.none.put i (sE L at') ∧ g = 0 ∧ r = 0 ∧ c = 0) ∧ SrcOk L at' ∧ (nn.1 ≤ i.1 ∧ nn ≠ i) ∧ (1 ≤ v ∧ v ≤ 1000000) ∧ n = 4, SrcO i nn L 2 Pce.row (FillIn v))
    | _ => Option.none
  | _ => Option.none
theorem fill_ex {v : Int} (h : 1 ≤ v) : FillIn v [⟨0, v⟩] := ⟨by simp, fun p hp => by
  rw [List.mem_singleton.1 hp]
  exact ⟨⟨Int.le_refl _, by dsimp only; omega⟩, h⟩, fun j hj => by simp at hj, by simp [volS]⟩
theorem tc_flO {T : Tbl} (hT : TblOk Tryd.prog T) : TblOk Tryd.prog (tc 31 rowFlO T) :=
  tc_row f31_ok (fun args Hs nn pre R hr hp => by
    unfold rowFlO at hr
    split at hr
    · split at hr
      · cases hr
        obtain ⟨⟨h1, rfl, rfl, rfl⟩, h2, h3, h4, rfl⟩ := hp
        rw [h1]
        exact ⟨⟨_, _, _, 0, _, h2, fill_ex h4.1, rfl, rfl⟩, Fill_o _ h4 _ _ _ _ h2 h3.1 h3.2⟩
      · cases hr
    · cases hr) hT
/-! ### what holds of them -/
theorem nm4 (j : Nat) (h : j < 4) : nameB (nm1B ⟨#[112]⟩ (j : Int)) = true := by
  match j, h with
  | 0, _ => decide
  | 1, _ => decide
  | 2, _ => decide
  | 3, _ => decide
theorem prds_ok {l : List Prd} (h : PrdsIn l) (j : Nat) (hj : j < l.length) : PrdOk (pdA l j) := by
  have k := h.at' j hj
  have := h.len
  exact ⟨by rw [k.nm]; exact nm4 j (by omega), k.de, k.ex, k.co, k.fr⟩
theorem prds_ck {l : List Prd} (h : PrdsIn l) : pckI l = 0 := by
  have hl := h.len
  unfold pckI
  rw [if_neg (by omega)]
  have h1 : l.all pV = true := by
    rw [List.all_eq_true]
    intro x hx
    obtain ⟨j, hj, rfl⟩ := List.getElem_of_mem hx
    rw [pd_at hj]
    exact pV_t (prds_ok h j hj)
  have h2 : dupB eqPn l = false := by
    unfold dupB
    rw [List.any_eq_false]
    intro j hj
    have hj := List.mem_range.1 hj
    rw [dup_at hj, Bool.not_eq_true, List.any_eq_false]
    intro y hy
    obtain ⟨i, hi, rfl⟩ := List.getElem_of_mem hy
    rw [List.length_take] at hi
    rw [List.getElem_take, pd_at hj, pd_at (by omega)]
    unfold eqPn
    rw [(h.at' j hj).nm, (h.at' i (by omega)).nm, nm_ne 112 i j (by omega) (by omega) (by omega)]
    simp
  rw [h1, h2]
  rfl
theorem volW_in : ∀ (l : List Pce) (s : Int), (∀ p, p ∈ l → 1 ≤ p.vo) → 0 ≤ s → s + volS l ≤ 1000000000000 → volW l s = s + volS l ∧ 0 ≤ volS l
  | [], s, _, _, _ => by simp [volW, volS]
  | p :: l, s, h, h0, h1 => by
    have hp := h p (List.mem_cons_self ..)
    have e : volS (p :: l) = p.vo + volS l := by unfold volS; rw [List.map_cons, List.sum_cons]
    have nn : ∀ l : List Pce, (∀ p, p ∈ l → 1 ≤ p.vo) → 0 ≤ volS l := fun l => by
      induction l with
      | nil => intro _; simp [volS]
      | cons q l ih =>
        intro h
        have := ih (fun x hx => h x (List.mem_cons_of_mem _ hx))
        have hq := h q (List.mem_cons_self ..)
        unfold volS at this ⊢
        rw [List.map_cons, List.sum_cons]
        omega
    have n0 := nn l (fun x hx => h x (List.mem_cons_of_mem _ hx))
    rw [e] at h1 ⊢
    rw [volW, wrap_i (by omega)]
    have := volW_in l (s + p.vo) (fun x hx => h x (List.mem_cons_of_mem _ hx)) (by omega) (by omega)
    omega
theorem fill_le {v : Int} {l : List Pce} (h : FillIn v l) : ∀ p, p ∈ l → p.vo ≤ v := by
  intro p hp
  have nn : ∀ l : List Pce, (∀ p, p ∈ l → 1 ≤ p.vo) → 0 ≤ volS l ∧ ∀ p, p ∈ l → p.vo ≤ volS l := fun l => by
    induction l with
    | nil => intro _; exact ⟨by simp [volS], fun p hp => by cases hp⟩
    | cons q l ih =>
      intro h
      obtain ⟨a, b⟩ := ih (fun x hx => h x (List.mem_cons_of_mem _ hx))
      have hq := h q (List.mem_cons_self ..)
      have e : volS (q :: l) = q.vo + volS l := by unfold volS; rw [List.map_cons, List.sum_cons]
      rw [e]
      refine ⟨by omega, fun p hp => ?_⟩
      rcases List.mem_cons.1 hp with rfl | hp
      · omega
      · have := b p hp; omega
  have := (nn l (fun p hp => (h.at' p hp).2)).2 p hp
  rw [h.sum] at this
  exact this
theorem fill_ok {v : Int} {l : List Pce} (h : FillIn v l) (hv : v ≤ 1000000) : flV l = true ∧ volW l 0 = v := by
  have hl := h.len
  have hw := volW_in l 0 (fun p hp => (h.at' p hp).2) (Int.le_refl _) (by rw [h.sum]; omega)
  rw [h.sum, Int.zero_add] at hw
  refine ⟨?_, hw.1⟩
  unfold flV
  rw [if_neg (by omega), hw.1]
  have : (List.range l.length).any (pcBad l) = false := by
    rw [List.any_eq_false]
    intro j hj
    have hj := List.mem_range.1 hj
    have hp := h.at' (pcA l j) (by rw [← pc_at hj]; exact List.getElem_mem hj)
    have hle := fill_le h (pcA l j) (by rw [← pc_at hj]; exact List.getElem_mem hj)
    have hnb : 0 < j → (pcA l (j - 1)).ba ≠ (pcA l j).ba := fun h0 => by
      have := h.nb (j - 1) (by omega)
      rw [show j - 1 + 1 = j by omega] at this
      exact this
    unfold pcBad litB
    simp only [Bool.or_eq_true, Bool.not_eq_true', Bool.and_eq_true, Bool.and_eq_false_iff, decide_eq_true_eq, decide_eq_false_iff_not, beq_iff_eq]
    omega
  rw [this]
  simp
  omega
def prdOfP (ps : List Prd) (bs : List Bat) (p : Pce) : Prd := pdA ps (btA bs p.ba.toNat).pr.toNat
def stS (ps : List Prd) (bs : List Bat) (c : Cnd) (l : List Pce) : Int := (l.map fun p => stdV p.vo (fac (prdOfP ps bs p).ex (prdOfP ps bs p).co c.te c.pr)).sum
structure SgIn (ps : List Prd) (bs : List Bat) (l : List Pce) : Prop where
  p : ∀ p, p ∈ l → PrdOk (prdOfP ps bs p)
  v : ∀ p, p ∈ l → 1 ≤ p.vo ∧ p.vo ≤ 1000000
theorem vf_in {ps : List Prd} {bs : List Bat} {l : List Pce} (h : SgIn ps bs l) {c : Cnd} (hc : cdOk c.te c.pr) {p : Pce} (hp : p ∈ l) : vfOk p.vo (fac (prdOfP ps bs p).ex (prdOfP ps bs p).co c.te c.pr) ∧ (0 ≤ stdV p.vo (fac (prdOfP ps bs p).ex (prdOfP ps bs p).co c.te c.pr) ∧ stdV p.vo (fac (prdOfP ps bs p).ex (prdOfP ps bs p).co c.te c.pr) ≤ 2199023255552) := by
  have k := h.p p hp
  have f := (fac_bd k.ex k.co hc).2
  have v := h.v p hp
  have : vfOk p.vo (fac (prdOfP ps bs p).ex (prdOfP ps bs p).co c.te c.pr) := ⟨⟨by omega, by omega⟩, by omega, by omega⟩
  exact ⟨this, std_bd this⟩
theorem segV_in {ps : List Prd} {bs : List Bat} {l : List Pce} (h : SgIn ps bs l) {c : Cnd} (hc : cdOk c.te c.pr) {p : Pce} (hp : p ∈ l) : segV ps bs c p = (stdV p.vo (fac (prdOfP ps bs p).ex (prdOfP ps bs p).co c.te c.pr), 0) := by
  have e : facI (prdOfP ps bs p) c = (fac (prdOfP ps bs p).ex (prdOfP ps bs p).co c.te c.pr, 0) := by unfold facI; rw [pV_t (h.p p hp), cdV_t hc]; simp
  unfold prdOfP at e
  unfold segV
  rw [e]
  have := (vf_in h hc hp).1
  unfold prdOfP at this ⊢
  simp only [if_true]
  unfold stdI
  rw [vfV_t this]
  simp
theorem segGo_in {ps : List Prd} {bs : List Bat} {c : Cnd} (hc : cdOk c.te c.pr) : ∀ (l : List Pce) (s : Int), SgIn ps bs l → 0 ≤ s → s + 2199023255552 * (l.length : Int) ≤ 1000000000000000000 → segGo ps bs c l s = (s + stS ps bs c l, 0)
  | [], s, _, _, _ => by simp [segGo, stS]
  | p :: l, s, h, h0, h1 => by
    have v := (vf_in h hc (List.mem_cons_self ..)).2
    simp only [List.length_cons] at h1
    rw [segGo, segV_in h hc (List.mem_cons_self ..), if_pos rfl]
    dsimp only
    rw [wrap_i (by omega), segGo_in hc l _ ⟨fun p hp => h.p p (List.mem_cons_of_mem _ hp), fun p hp => h.v p (List.mem_cons_of_mem _ hp)⟩ (by omega) (by omega)]
    have e : stS ps bs c (p :: l) = stdV p.vo (fac (prdOfP ps bs p).ex (prdOfP ps bs p).co c.te c.pr) + stS ps bs c l := by unfold stS; rw [List.map_cons, List.sum_cons]
    rw [e, Int.add_assoc]
theorem bats_in {np : Int} {bs : List Bat} {ps : List Prd} (hb : BatsIn 4 np bs) (hnp : np = (ps.length : Int)) {p : Pce} (hp : 0 ≤ p.ba ∧ p.ba < 4) : unkB ps bs p = false ∧ (btA bs p.ba.toNat).pr.toNat < ps.length := by
  have hl := hb.len
  have hm : btA bs p.ba.toNat ∈ bs := by
    unfold btA
    rw [List.getD_eq_getElem?_getD, List.getElem?_eq_getElem (by omega)]
    exact List.getElem_mem (by omega)
  have := hb.at' _ hm
  refine ⟨?_, by omega⟩
  unfold unkB
  simp only [Bool.or_eq_false_iff, decide_eq_false_iff_not]
  omega
theorem sg_in {ps : List Prd} {bs : List Bat} {l : List Pce} {v : Int} (h1 : PrdsIn ps) (h2 : BatsIn 4 (ps.length : Int) bs) (h3 : FillIn v l) (hv : v ≤ 1000000) : SgIn ps bs l :=
  ⟨fun p hp => prds_ok h1 _ (bats_in h2 rfl (h3.at' p hp).1).2, fun p hp => ⟨(h3.at' p hp).2, by have := fill_le h3 p hp; omega⟩⟩
theorem seg_in {ps : List Prd} {bs : List Bat} {l : List Pce} {v : Int} (h1 : PrdsIn ps) (h2 : BatsIn 4 (ps.length : Int) bs) (h3 : FillIn v l) (hv : v ≤ 1000000) {c : Cnd} (hc : cdOk c.te c.pr) : segI ps bs l c = (stS ps bs c l, 0) := by
  have hl := h3.len
  unfold segI
  rw [if_pos (prds_ck h1), (fill_ok h3 hv).1, if_pos rfl]
  have : l.any (unkB ps bs) = false := by
    rw [List.any_eq_false]
    intro p hp
    rw [(bats_in h2 rfl (h3.at' p hp).1).1]
    simp
  rw [this]
  simp only [Bool.false_eq_true, if_false]
  rw [segGo_in hc l 0 (sg_in h1 h2 h3 hv) (Int.le_refl _) (by omega), Int.zero_add]
theorem sum_le {f g : Pce → Int} : ∀ {l : List Pce}, (∀ p, p ∈ l → f p ≤ g p) → (l.map f).sum ≤ (l.map g).sum
  | [], _ => by simp
  | p :: l, h => by
    have h1 := h p (List.mem_cons_self ..)
    have h2 := sum_le (l := l) (f := f) (g := g) fun x hx => h x (List.mem_cons_of_mem _ hx)
    rw [List.map_cons, List.map_cons, List.sum_cons, List.sum_cons]
    omega
theorem stS_press {ps : List Prd} {bs : List Bat} {l : List Pce} (h : SgIn ps bs l) {t p q : Int} (h1 : cdOk t p) (h2 : cdOk t q) (hpq : p ≤ q) : stS ps bs ⟨t, p⟩ l ≤ stS ps bs ⟨t, q⟩ l :=
  sum_le fun x hx => std_mono (vf_in h h1 hx).1 (vf_in h h2 hx).1 (Int.le_refl _) (fac_mono (h.p x hx).ex (h.p x hx).co h1 h2 hpq)
theorem stS_temp {ps : List Prd} {bs : List Bat} {l : List Pce} (h : SgIn ps bs l) {t u p : Int} (h1 : cdOk t p) (h2 : cdOk u p) (htu : t ≤ u) : stS ps bs ⟨u, p⟩ l ≤ stS ps bs ⟨t, p⟩ l :=
  sum_le fun x hx => std_mono (vf_in h h2 hx).1 (vf_in h h1 hx).1 (Int.le_refl _) (fac_anti (h.p x hx).ex (h.p x hx).co h1 h2 htu)
theorem hf_mul (v : Int) : hf (v * 1000000) 1000000 = v := by
  unfold hf
  rw [Int.mul_ediv_cancel _ (by decide), Int.mul_emod_left]
  simp
theorem stS_std (ps : List Prd) (bs : List Bat) (l : List Pce) : stS ps bs ⟨150, 0⟩ l = volS l := by
  unfold stS volS
  congr 1
  refine List.map_congr_left fun p hp => ?_
  dsimp only
  rw [fac_one]
  exact hf_mul _
structure Pln where
  rates : List Int
  ports : List Int
  pumps : List Bool
def bRow (b : Bool) : List D := [db b]
def plnD (p : Pln) : List D := [.sl (p.rates.map iRow), .sl (p.ports.map iRow), .sl (p.pumps.map bRow)]
def Pln.enc (p : Pln) : D := .agg (plnD p)
def blk (th : List Bool) (k : Nat) (x : Seg × Int) : Bool := if (x.2 == 0) = true then false else if ((if x.2 < 0 then x.1.fr else x.1.to) == (k : Int)) = true then !(th.getD (if x.2 < 0 then x.1.to else x.1.fr).toNat false) else false
theorem getD_none {th : List Bool} {k : Nat} (h : th.getD k true = false) : th[k]? = some false := by
  rw [List.getD_eq_getElem?_getD] at h
  cases e : th[k]? with
  | none => rw [e] at h; cases h
  | some b => rw [e] at h; exact congrArg some h
def c6_1 : C := (.ops false [oP 42 (.mv (.t 12)), oP 43 (.bin .add (.t 42) (cI 1)), oP 12 (.mv (.t 43))])
def c6_2 : C := (.seq (.block 1 (.seq (.ops true [oP 44 (.mv (.t 7)), oP 45 (.mv (.t 0)), oP 46 (.mv (.t 12)), oA 47 (.iaS 1 (.t 45) (.t 46)) [2, 1], oA 48 (.ld 1 false (.t 47)) [1, 2, 3], oA 49 (.cvi .i64 (.t 48)) [3, 2, 1, 4], oA 50 (.bsl 1 1 [(.v (.int .i64 0))] [(0, (.t 49))]) [4, 1, 2, 3, 5], oA 51 (.app 1 8 (.t 44) (.t 50)) [5, 3, 2, 1, 4, 6, 0], oP 52 (.mv (.t 8)), oP 53 (.mv (.t 1)), oP 54 (.mv (.t 12)),
  oA 55 (.iaS 1 (.t 53) (.t 54)) [10, 9], oA 56 (.ld 1 false (.t 55)) [9, 10, 11], oA 57 (.cvi .i64 (.t 56)) [11, 10, 9, 12], oA 58 (.bsl 1 1 [(.v (.int .i64 0))] [(0, (.t 57))]) [12, 9, 10, 11, 13], oA 59 (.app 1 8 (.t 52) (.t 58)) [0, 6, 4, 1, 2, 3, 5, 13, 11, 10, 9, 12, 7, 14, 8], oP 60 (.mv (.t 11)), oP 61 (.mv (.t 12)), oA 62 (.bsl 1 1 [(.v (.int .i64 0))] [(0, (.t 61))]) [17],
  oA 63 (.app 1 8 (.t 60) (.t 62)) [8, 14, 7, 12, 9, 10, 11, 13, 5, 3, 2, 1, 4, 6, 0, 17, 15, 18, 16], oA 7 (.mv (.t 51)) [16, 18, 15, 17, 13, 11, 10, 9, 12, 14, 8, 6, 5, 4, 3, 2, 1, 0, 19, 7], oA 8 (.mv (.t 59)) [19, 17, 18, 16, 14, 13, 12, 11, 10, 9, 8, 7, 6, 5, 4, 3, 2, 1, 0, 20, 15], oA 11 (.mv (.t 63)) [20, 18, 17, 16, 15, 14, 13, 12, 11, 10, 9, 8, 7, 6, 5, 4, 3, 2, 1, 0, 21, 19]])
  (.seq (.ops false [oP 64 (.mv (.t 12)), oP 65 (.mv (.t 2)), oP 66 (.len (.t 65)), oP 67 (.bin .lss (.t 64) (.t 66)), oP 68 (.mv (.t 67)), oG 69 68 true (.mv (.t 2)), oG 70 68 true (.mv (.t 12)), oG 71 68 true (.iaS 1 (.t 69) (.t 70)), oG 72 68 true (.ld 1 false (.t 71)), oP 73 (.pick (.t 68) (.t 72) (cB false))]) (.cond (.t 73) (.ops false [oP 74 (.mv (.t 9)), oP 75 (.mv (.t 12)),
  oP 76 (.bsl 1 1 [(.v (.int .i64 0))] [(0, (.t 75))]), oP 77 (.app 1 8 (.t 74) (.t 76)), oP 9 (.mv (.t 77))]) (.ops false [oP 78 (.mv (.t 10)), oP 79 (.mv (.t 12)), oP 80 (.bsl 1 1 [(.v (.int .i64 0))] [(0, (.t 79))]), oP 81 (.app 1 8 (.t 78) (.t 80)), oP 10 (.mv (.t 81))]))))) c6_1)
def c6_3 : C := (.seq (.seq (.ops false [oP 38 (.mv (.t 12)), oP 39 (.mv (.t 0)), oP 40 (.len (.t 39)), oP 41 (.bin .lss (.t 38) (.t 40))]) (.cond (.t 41) .skip (.exit 0))) c6_2)
def c6_4 : C := (.seq (.ops false [oP 83 (.mv (.t 7)), oP 84 (.mv (.t 9)), oB 85 (.call 37 [(.t 83), (.t 84)]), oP 82 (.mv (.t 85)), oP 86 (.ext (.t 82) 0), oP 87 (.ext (.t 82) 1), oP 13 (.mv (.t 86)), oP 14 (.mv (.t 87))]) (.seq (.ops false [oP 89 (.mv (.t 7)), oP 90 (.mv (.t 10)), oB 91 (.call 37 [(.t 89), (.t 90)]), oP 88 (.mv (.t 91)), oP 92 (.ext (.t 88) 0), oP 93 (.ext (.t 88) 1), oP 15 (.mv (.t 92)),
  oP 16 (.mv (.t 93))]) (.seq (.ops false [oP 95 (.mv (.t 7)), oP 96 (.mv (.t 11)), oB 97 (.call 37 [(.t 95), (.t 96)]), oP 94 (.mv (.t 97)), oP 98 (.ext (.t 94) 0), oP 99 (.ext (.t 94) 1), oP 17 (.mv (.t 98)), oP 18 (.mv (.t 99))]) (.seq (.ops false [oP 101 (.mv (.t 7)), oP 102 (.mv (.t 8)), oP 103 (.mv (.t 9)), oB 104 (.call 38 [(.t 101), (.t 102), (.t 103)]), oP 100 (.mv (.t 104)),
  oP 105 (.ext (.t 100) 0), oP 106 (.ext (.t 100) 1), oP 19 (.mv (.t 105)), oP 20 (.mv (.t 106))]) (.seq (.ops false [oP 108 (.mv (.t 7)), oP 109 (.mv (.t 8)), oP 110 (.mv (.t 10)), oB 111 (.call 38 [(.t 108), (.t 109), (.t 110)]), oP 107 (.mv (.t 111)), oP 112 (.ext (.t 107) 0), oP 113 (.ext (.t 107) 1), oP 21 (.mv (.t 112)), oP 22 (.mv (.t 113))]) (.seq (.ops false [oP 115 (.mv (.t 7)),
  oP 116 (.mv (.t 8)), oP 117 (.mv (.t 11)), oB 118 (.call 38 [(.t 115), (.t 116), (.t 117)]), oP 114 (.mv (.t 118)), oP 119 (.ext (.t 114) 0), oP 120 (.ext (.t 114) 1), oP 23 (.mv (.t 119)), oP 24 (.mv (.t 120))]) (.seq (.ops false [oP 122 (.mv (.t 8)), oP 123 (.mv (.t 7)), oP 124 (.mv (.t 11)), oB 125 (.call 38 [(.t 122), (.t 123), (.t 124)]), oP 121 (.mv (.t 125)), oP 126 (.ext (.t 121) 0),
  oP 127 (.ext (.t 121) 1), oP 25 (.mv (.t 126)), oP 26 (.mv (.t 127))]) (.seq (.ops false [oP 128 (.mv (.t 14)), oP 129 (.bin .eql (.t 128) (cI 0)), oP 130 (.mv (.t 129)), oG 131 130 true (.mv (.t 16)), oG 132 130 true (.bin .eql (.t 131) (cI 0)), oP 133 (.pick (.t 130) (.t 132) (cB false)), oP 134 (.mv (.t 133)), oG 135 134 true (.mv (.t 18)), oG 136 134 true (.bin .eql (.t 135) (cI 0)),
  oP 137 (.pick (.t 134) (.t 136) (cB false)), oP 138 (.mv (.t 137)), oG 139 138 true (.mv (.t 20)), oG 140 138 true (.bin .eql (.t 139) (cI 0)), oP 141 (.pick (.t 138) (.t 140) (cB false)), oP 142 (.mv (.t 141)), oG 143 142 true (.mv (.t 22)), oG 144 142 true (.bin .eql (.t 143) (cI 0)), oP 145 (.pick (.t 142) (.t 144) (cB false)), oP 146 (.mv (.t 145)), oG 147 146 true (.mv (.t 24)),
  oG 148 146 true (.bin .eql (.t 147) (cI 0)), oP 149 (.pick (.t 146) (.t 148) (cB false)), oP 150 (.mv (.t 149)), oG 151 150 true (.mv (.t 26)), oG 152 150 true (.bin .eql (.t 151) (cI 0)), oP 153 (.pick (.t 150) (.t 152) (cB false)), oP 154 (.mv (.t 153)), oG 155 154 true (.mv (.t 13)), oG 156 154 true (.mv (.t 15)), oG 157 154 true (.bin .add (.t 155) (.t 156)), oG 158 154 true (.mv (.t 17)),
  oG 159 154 true (.bin .eql (.t 157) (.t 158)), oP 160 (.pick (.t 154) (.t 159) (cB false)), oP 161 (.mv (.t 160)), oG 162 161 true (.mv (.t 19)), oG 163 161 true (.mv (.t 21)), oG 164 161 true (.bin .add (.t 162) (.t 163)), oG 165 161 true (.mv (.t 23)), oG 166 161 true (.bin .eql (.t 164) (.t 165)), oP 167 (.pick (.t 161) (.t 166) (cB false)), oP 168 (.mv (.t 167)), oG 169 168 true (.mv (.t 25)),
  oG 170 168 true (.mv (.t 23)), oG 171 168 true (.neg (.t 170)), oG 172 168 true (.bin .eql (.t 169) (.t 171)), oP 173 (.pick (.t 168) (.t 172) (cB false)), oP 174 (.mv (.t 173)), oD 175 174 true (.call 28 []) [], oP 176 (.pick (.t 174) (.t 175) (cB false)), oP 6 (.mv (.t 176))]) .ret))))))))
def c6_5 : C := (.seq (.ops false [oP 7 (.mv (.c .mt)), oP 8 (.mv (.c .mt)), oP 9 (.mv (.c .mt)), oP 10 (.mv (.c .mt)), oP 11 (.mv (.c .mt))]) (.seq (.seq (.ops false [oP 12 (.mv (cI 0))]) (.block 0 (.loop c6_3))) (.weak c6_4)))
def c6 : C := (.seq (.ops false [oP 6 (.mv (cB false))]) (.seq (.seq (.ops false [oP 27 (.mv (.t 0)), oP 28 (.len (.t 27)), oP 29 (.bin .gtr (.t 28) (cI 30)), oP 30 (.mv (.t 29)), oG 31 30 false (.mv (.t 1)), oG 32 30 false (.len (.t 31)), oG 33 30 false (.mv (.t 0)), oG 34 30 false (.len (.t 33)), oG 35 30 false (.bin .lss (.t 32) (.t 34)), oP 36 (.pick (.t 30) (cB true) (.t 35))]) (.cond (.t 36)
  (.seq (.ops false [oB 37 (.call 28 []), oP 6 (.mv (.t 37))]) .ret) .skip)) c6_5))
theorem tc_aw33 {T : Tbl} (hT : TblOk Tryd.prog T) : TblOk Tryd.prog (tc 28 (rowPu selAw) T) :=
  tc_pu f28_ok (fun args pre d h hp nn => by
    unfold selAw at h
    split at h <;> cases h
    exact awake33_c nn) hT
abbrev spansC : Array Value := #[.int .i64 400, .int .i64 1200, .int .i64 0, .int .i64 2000, .int .i64 0, .int .i64 5000, .int .i64 1, .int .i64 2000]
abbrev Spans (w : World) : Prop := Box w 0 spansC
end Go.Proofs.YtehmmnnmkapfeaaDoor

/- The package's table of ranges, as the condition of the tied rows gives it. -/
namespace Go.Proofs.YtehmmnnmkapfeaaDoor
open Go.RowKit Go.ChangeShapes Go.WideShapes
theorem spans_glob : Tryd.prog.globalNamed "batchline/product.spans" = some 0 := by kernel_rfl
theorem spans_type : (Tryd.prog.globals[0]?).map (·.type) = some 167 := by kernel_rfl
theorem spans_cells4 : Tryd.prog.cellsOf 167 = 8 := by kernel_rfl
theorem spans_cells1 : Tryd.prog.cellsOf 166 = 2 := by kernel_rfl
theorem spans_cells0 : Tryd.prog.cellsOf 3 = 1 := by kernel_rfl
theorem span_of_trod {W : World} {fuel : Nat} {c d : Value} {x y : Int} {p : List MemPlace} (h : DataW.trod (fun _ => ()) Tryd.prog W 0 (fun _ => true) false fuel 166 [c, d] = some (.agg [.lit (.int .i64 x), .lit (.int .i64 y)], p)) :
    c = .int .i64 x ∧ d = .int .i64 y := by
  obtain ⟨xs, n, _, hx, _, hl, hf⟩ := DataW.trod_struct Tryd.underlying166 h
  obtain ⟨a, b, rfl⟩ : ∃ a b, xs = [a, b] := match xs, hl with | [a, b], _ => ⟨a, b, rfl⟩
  have h0 := hf 0 _ rfl
  have h1 := hf 1 _ rfl
  simp only [spans_cells0, List.drop_zero, List.take_succ_cons, List.take_zero, List.drop_succ_cons, List.getElem?_cons_zero, List.getElem?_cons_succ] at h0 h1
  obtain ⟨m, hm, rfl, _⟩ := DataW.trod_int Tryd.underlying3 h0
  obtain ⟨k, hk, rfl, _⟩ := DataW.trod_int Tryd.underlying3 h1
  injection hm with hm _
  injection hk with hk _
  subst hm hk
  simp at hx
  obtain ⟨⟨rfl, rfl⟩, _⟩ := hx
  exact ⟨rfl, rfl⟩
theorem spans_of_laid {W : World} (h : laidMet Tryd.prog [("batchline/product.spans", Rows.laid_batchline_product_spans)] W) : Spans W := by
  obtain ⟨ps, ⟨g, t, cs, fuel, p, q, hg, ht, hvar, hd, _, hps⟩, _, hcell⟩ := h
  obtain rfl := Option.some.inj (spans_glob.symm.trans hg)
  obtain rfl := Option.some.inj (spans_type.symm.trans ht)
  obtain ⟨xs, m, _, hx, hcl, hl, hf⟩ := DataW.trod_array Tryd.underlying167 hd
  rw [spans_cells4] at hcl
  obtain ⟨l⟩ := cs
  simp only at hcl hf
  obtain ⟨c0, c1, c2, c3, c4, c5, c6, c7, rfl⟩ : ∃ c0 c1 c2 c3 c4 c5 c6 c7, l = [c0, c1, c2, c3, c4, c5, c6, c7] := match l, hcl with | [a, b, c, d, e, f, g, h], _ => ⟨a, b, c, d, e, f, g, h, rfl⟩
  obtain ⟨y0, y1, y2, y3, rfl⟩ : ∃ a b c d, xs = [a, b, c, d] := match xs, hl with | [a, b, c, d], _ => ⟨a, b, c, d, rfl⟩
  have h0 := hf 0 (by omega)
  have h1 := hf 1 (by omega)
  have h2 := hf 2 (by omega)
  have h3 := hf 3 (by omega)
  rw [spans_cells1] at h0 h1 h2 h3
  simp at h0 h1 h2 h3
  obtain ⟨d0, p0⟩ := y0
  obtain ⟨d1, p1⟩ := y1
  obtain ⟨d2, p2⟩ := y2
  obtain ⟨d3, p3⟩ := y3
  simp [Rows.laid_batchline_product_spans] at hx
  obtain ⟨⟨rfl, rfl, rfl, rfl⟩, _⟩ := hx
  obtain ⟨rfl, rfl⟩ := span_of_trod h0
  obtain ⟨rfl, rfl⟩ := span_of_trod h1
  obtain ⟨rfl, rfl⟩ := span_of_trod h2
  obtain ⟨rfl, rfl⟩ := span_of_trod h3
  obtain ⟨⟨c, t, hb⟩, _⟩ := hcell 0 0 (by rw [hps]; simp [MemPlace.row])
  refine ⟨t, ?_⟩
  rw [hb]
  unfold World.var? at hvar
  rw [spans_glob] at hvar
  simp only [Option.bind_some, hb, Option.some.injEq] at hvar
  rw [hvar]
abbrev LaidFacts (w : World) : Prop := Spans w
theorem laidFacts_of {W : World} (h : laidMetH Tryd.prog [("batchline/product.spans", Rows.laid_batchline_product_spans)] W) : LaidFacts W := spans_of_laid h
theorem glOk_of {w : World} (h : LaidFacts w) : GlOk (AllIm w) w.heap := by
  obtain ⟨t, hb⟩ := h
  intro g f hg
  unfold GL glAt at hg
  split at hg
  · rename_i e
    cases hg
    subst e
    refine ⟨lt_of_some hb, fun j => spansC[j]?.getD undef, fun j hj => ?_, fun j d hd => ?_⟩
    · unfold hc
      rw [hb]
      dsimp only
      simp only [List.length_cons, List.length_nil] at hj
      match j, hj with
      | 0, _ => exact ⟨rfl, rfl⟩
      | 1, _ => exact ⟨rfl, rfl⟩
      | 2, _ => exact ⟨rfl, rfl⟩
      | 3, _ => exact ⟨rfl, rfl⟩
      | 4, _ => exact ⟨rfl, rfl⟩
      | 5, _ => exact ⟨rfl, rfl⟩
      | 6, _ => exact ⟨rfl, rfl⟩
      | 7, _ => exact ⟨rfl, rfl⟩
    · match j, hd with
      | 0, hd => cases hd; exact .v _
      | 1, hd => cases hd; exact .v _
      | 2, hd => cases hd; exact .v _
      | 3, hd => cases hd; exact .v _
      | 4, hd => cases hd; exact .v _
      | 5, hd => cases hd; exact .v _
      | 6, hd => cases hd; exact .v _
      | 7, hd => cases hd; exact .v _
      | j + 8, hd => simp at hd
  · unfold glAt at hg
    cases hg
def c5_1 : C := (.seq (.ops false [oP 54 (.mv (.t 8)), oP 55 (.mv (.t 9)), oP 56 (.mv (.t 10)), oP 57 (.bld [(.v (.int .i64 0)), (.v (.int .i64 0))] [(0, (1, (cI 150)))]), oB 58 (.call 34 [(.t 54), (.t 55), (.t 56), (.t 57)]), oP 53 (.mv (.t 58)), oP 59 (.ext (.t 53) 0), oP 60 (.ext (.t 53) 1), oP 14 (.mv (.t 59)), oP 15 (.mv (.t 60))]) (.seq (.ops false [oP 62 (.mv (.t 8)), oP 63 (.mv (.t 9)),
  oP 64 (.mv (.t 10)), oP 65 (.mv (.t 11)), oP 66 (.mv (.t 12)), oP 67 (.bld [(.v (.int .i64 0)), (.v (.int .i64 0))] [(0, (1, (.t 65))), (1, (1, (.t 66)))]), oB 68 (.call 34 [(.t 62), (.t 63), (.t 64), (.t 67)]), oP 61 (.mv (.t 68)), oP 69 (.ext (.t 61) 0), oP 70 (.ext (.t 61) 1), oP 16 (.mv (.t 69)), oP 17 (.mv (.t 70))]) (.seq (.ops false [oP 72 (.mv (.t 8)), oP 73 (.mv (.t 9)),
  oP 74 (.mv (.t 10)), oP 75 (.mv (.t 11)), oP 76 (.mv (.t 13)), oP 77 (.bld [(.v (.int .i64 0)), (.v (.int .i64 0))] [(0, (1, (.t 75))), (1, (1, (.t 76)))]), oB 78 (.call 34 [(.t 72), (.t 73), (.t 74), (.t 77)]), oP 71 (.mv (.t 78)), oP 79 (.ext (.t 71) 0), oP 80 (.ext (.t 71) 1), oP 18 (.mv (.t 79)), oP 19 (.mv (.t 80))]) (.seq (.ops false [oP 82 (.mv (.t 8)), oP 83 (.mv (.t 9)),
  oP 84 (.mv (.t 10)), oP 85 (.mv (.t 11)), oP 86 (.mv (.t 2)), oP 87 (.cvi .i64 (.t 86)), oP 88 (.bin .add (.t 85) (.t 87)), oP 89 (.mv (.t 12)), oP 90 (.bld [(.v (.int .i64 0)), (.v (.int .i64 0))] [(0, (1, (.t 88))), (1, (1, (.t 89)))]), oB 91 (.call 34 [(.t 82), (.t 83), (.t 84), (.t 90)]), oP 81 (.mv (.t 91)), oP 92 (.ext (.t 81) 0), oP 93 (.ext (.t 81) 1), oP 20 (.mv (.t 92)),
  oP 21 (.mv (.t 93))]) (.seq (.ops false [oP 95 (.mv (.t 8)), oP 96 (.iaS 5 (.t 95) (cI 0)), oP 97 (.ld 5 true (.t 96)), oP 98 (.bld [(.v (.int .i64 0)), (.v (.int .i64 0))] [(0, (1, (cI 150)))]), oB 99 (.call 35 [(.t 97), (.t 98)]), oP 94 (.mv (.t 99)), oP 100 (.ext (.t 94) 0), oP 101 (.ext (.t 94) 1), oP 22 (.mv (.t 100)), oP 23 (.mv (.t 101))]) (.seq (.ops false [oP 102 (.mv (.t 15)),
  oP 103 (.bin .eql (.t 102) (cI 0)), oP 104 (.mv (.t 103)), oG 105 104 true (.mv (.t 17)), oG 106 104 true (.bin .eql (.t 105) (cI 0)), oP 107 (.pick (.t 104) (.t 106) (cB false)), oP 108 (.mv (.t 107)), oG 109 108 true (.mv (.t 19)), oG 110 108 true (.bin .eql (.t 109) (cI 0)), oP 111 (.pick (.t 108) (.t 110) (cB false)), oP 112 (.mv (.t 111)), oG 113 112 true (.mv (.t 21)),
  oG 114 112 true (.bin .eql (.t 113) (cI 0)), oP 115 (.pick (.t 112) (.t 114) (cB false)), oP 116 (.mv (.t 115)), oG 117 116 true (.mv (.t 23)), oG 118 116 true (.bin .eql (.t 117) (cI 0)), oP 119 (.pick (.t 116) (.t 118) (cB false)), oP 120 (.mv (.t 119)), oG 121 120 true (.mv (.t 22)), oG 122 120 true (.bin .eql (.t 121) (cI 1000000)), oP 123 (.pick (.t 120) (.t 122) (cB false)),
  oP 124 (.mv (.t 123)), oG 125 124 true (.mv (.t 14)), oG 126 124 true (.mv (.t 10)), oD 127 124 true (.call 36 [(.t 126)]) [], oG 128 124 true (.bin .eql (.t 125) (.t 127)), oP 129 (.pick (.t 124) (.t 128) (cB false)), oP 130 (.mv (.t 129)), oG 131 130 true (.mv (.t 16)), oG 132 130 true (.mv (.t 18)), oG 133 130 true (.bin .leq (.t 131) (.t 132)), oP 134 (.pick (.t 130) (.t 133) (cB false)),
  oP 135 (.mv (.t 134)), oG 136 135 true (.mv (.t 20)), oG 137 135 true (.mv (.t 16)), oG 138 135 true (.bin .leq (.t 136) (.t 137)), oP 139 (.pick (.t 135) (.t 138) (cB false)), oP 140 (.mv (.t 139)), oD 141 140 true (.call 28 []) [], oP 142 (.pick (.t 140) (.t 141) (cB false)), oP 6 (.mv (.t 142))]) .ret))))))
def c5_2 : C := (.seq (.ops false [oP 28 (.mv (.t 0)), oP 29 (.call 11 [(.t 28)]), oP 7 (.mv (.t 29))]) (.seq (.ops false [oP 30 (.mv (.t 7)), oP 31 (.call 29 [(.t 30)]), oP 8 (.mv (.t 31))]) (.seq (.ops false [oP 32 (.mv (.t 7)), oP 33 (.mv (.t 8)), oP 34 (.len (.t 33)), oP 35 (.call 30 [(.t 32), (cI 4), (.t 34)]), oP 9 (.mv (.t 35))]) (.seq (.ops false [oP 36 (.mv (.t 7)), oP 37 (.mv (.t 7)),
  oB 38 (.call 32 [(.t 37), (cI 1), (cI 2000)]), oP 39 (.call 31 [(.t 36), (.t 38), (cI 4)]), oP 10 (.mv (.t 39))]) (.seq (.ops false [oP 40 (.mv (.t 7)), oP 41 (.bsl 1 3 [(.v (.int .i64 0))] [(0, (cI 0)), (1, (cI 150)), (2, (cI 400))]), oB 42 (.call 33 [(.t 40), (.t 41)]), oP 43 (.mv (.t 1)), oP 44 (.cvi .i64 (.t 43)), oP 45 (.bin .mul (.t 44) (cI 10)), oP 46 (.mv (.t 1)),
  oP 47 (.cvi .i64 (.t 46)), oP 48 (.bin .mul (.t 47) (cI 10)), oP 49 (.mv (.t 2)), oP 50 (.cvi .i64 (.t 49)), oP 51 (.bin .mul (.t 50) (cI 10)), oP 52 (.bin .add (.t 48) (.t 51)), oP 11 (.mv (.t 42)), oP 12 (.mv (.t 45)), oP 13 (.mv (.t 52))]) (.weak c5_1))))))
def c5 : C := (.seq (.ops false [oP 6 (.mv (cB false))]) (.seq (.seq (.ops false [oP 24 (.mv (.t 0)), oB 25 (.call 9 [(.t 24)]), oP 26 (.not (.t 25))]) (.cond (.t 26) (.seq (.ops false [oB 27 (.call 28 []), oP 6 (.mv (.t 27))]) .ret) .skip)) c5_2))
def r5 : List RV := [(.tmp 6)]
theorem c5_ok : ∃ code, Tryd.f5.body = some code ∧ compC Tryd.prog Tryd.f5.ntmps code = some (C.strip c5) := ⟨_, rfl, by kernel_rfl⟩
theorem r5_ok : compRes Tryd.prog Tryd.f5.results.toList = some r5 := by kernel_rfl
def c9 : C := (.seq (.ops false [oP 2 (.mv (cB false))]) (.seq (.ops false [oP 3 (.mv (.t 0)), oP 4 (.len (.t 3)), oP 5 (.bin .leq (.t 4) (cI 400)), oP 2 (.mv (.t 5))]) .ret))
def r9 : List RV := [(.tmp 2)]
theorem c9_ok : ∃ code, Tryd.f9.body = some code ∧ compC Tryd.prog Tryd.f9.ntmps code = some (C.strip c9) := ⟨_, rfl, by kernel_rfl⟩
theorem r9_ok : compRes Tryd.prog Tryd.f9.results.toList = some r9 := by kernel_rfl
theorem f9_ok : fnOk Tryd.prog 9 = true := by kernel_rfl
end Go.Proofs.YtehmmnnmkapfeaaDoor
