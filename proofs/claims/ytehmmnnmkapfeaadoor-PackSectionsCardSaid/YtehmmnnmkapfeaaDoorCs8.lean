/- PackSections: Pk8 Raw Spn Laid CtH PkS. -/
import Derived.Test.YtehmmnnmkapfeaaDoorCs7
import Derived.Test.YtehmmnnmkapfeaaDoorCs4
import Derived.Test.YtehmmnnmkapfeaaDoorCs5
import Derived.Deep.Fields
import Derived.Test.YtehmmnnmkapfeaaDoorRows
import Derived.OpenShut
import Derived.LaidLaws
import Derived.ChangeArms
set_option linter.unusedSectionVars false
set_option linter.unusedSimpArgs false
set_option linter.unusedVariables false
set_option maxRecDepth 100000

/- PackSections: the walk and the law. -/
namespace Go.Proofs.YtehmmnnmkapfeaaDoor
open Go
abbrev U16 := { n : Int // 0 ≤ n ∧ n ≤ 65535 }
def uR (x : U16) : List D := [.v (.int .u16 x.1)]
def uA (l : List U16) (j : Nat) : U16 := l.getD j ⟨0, by decide, by decide⟩
theorem u_get {l : List U16} {j : Nat} (h : j < l.length) : (l.map uR).getD j [] = [.v (.int .u16 (uA l j).1)] := by
  unfold uA
  rw [List.getD_eq_getElem?_getD, List.getElem?_map, List.getD_eq_getElem?_getD, List.getElem?_eq_getElem h]
  rfl
def uL (l : List U16) (j : Nat) : List Int := (l.take j).map (·.1)
theorem uL_next {l : List U16} {j : Nat} (h : j < l.length) : uL l j ++ [(uA l j).1] = uL l (j + 1) := by
  unfold uL uA
  rw [List.take_add_one, List.getElem?_eq_getElem h, List.getD_eq_getElem?_getD, List.getElem?_eq_getElem h, List.map_append]
  rfl
theorem uL_len {l : List U16} {j : Nat} (h : j ≤ l.length) : (uL l j).length = j := by unfold uL; simp; omega
def rgI (j : Nat) : List Int := (List.range j).map fun i : Nat => (i : Int)
theorem rgI_next (j : Nat) : rgI j ++ [(j : Int)] = rgI (j + 1) := by unfold rgI; rw [List.range_succ, List.map_append]; rfl
theorem rgI_len (j : Nat) : (rgI j).length = j := by unfold rgI; simp
structure PartP (j : Nat) (u : List Int × List Int) : Prop where
  n1 : u.1.Nodup
  n2 : u.2.Nodup
  i1 : ∀ x, x ∈ u.1 → 0 ≤ x ∧ x < (j : Int)
  i2 : ∀ x, x ∈ u.2 → 0 ≤ x ∧ x < (j : Int)
  l : u.1.length + u.2.length = j
  s : ∀ f : Int → Int, (u.1.map f).sum + (u.2.map f).sum = ((rgI j).map f).sum
theorem sum_app (l : List Int) (x : Int) : (l ++ [x]).sum = l.sum + x := by
  induction l with
  | nil => simp
  | cons y l ih => rw [List.cons_append, List.sum_cons, List.sum_cons, ih, Int.add_assoc]
theorem part_1 {j : Nat} {one other : List Int} (h : PartP j (one, other)) : PartP (j + 1) (one ++ [(j : Int)], other) := by
  refine ⟨?_, h.n2, fun x hx => ?_, fun x hx => ?_, ?_, fun f => ?_⟩
  · rw [List.nodup_append]
    refine ⟨h.n1, by simp, fun a ha b hb e => ?_⟩
    rw [List.mem_singleton] at hb
    have := h.i1 a ha
    omega
  · rcases List.mem_append.1 hx with hx | hx
    · have := h.i1 x hx; omega
    · rw [List.mem_singleton] at hx; omega
  · have := h.i2 x hx; omega
  · have := h.l
    simp only [List.length_append, List.length_cons, List.length_nil] at this ⊢
    omega
  · have := h.s f
    rw [← rgI_next, List.map_append, List.map_append, List.map_cons, List.map_nil, sum_app, sum_app]
    dsimp only at this ⊢
    omega
theorem part_2 {j : Nat} {one other : List Int} (h : PartP j (one, other)) : PartP (j + 1) (one, other ++ [(j : Int)]) := by
  refine ⟨h.n1, ?_, fun x hx => ?_, fun x hx => ?_, ?_, fun f => ?_⟩
  · rw [List.nodup_append]
    refine ⟨h.n2, by simp, fun a ha b hb e => ?_⟩
    rw [List.mem_singleton] at hb
    have := h.i2 a ha
    omega
  · have := h.i1 x hx; omega
  · rcases List.mem_append.1 hx with hx | hx
    · have := h.i2 x hx; omega
    · rw [List.mem_singleton] at hx; omega
  · have := h.l
    simp only [List.length_append, List.length_cons, List.length_nil] at this ⊢
    omega
  · have := h.s f
    rw [← rgI_next, List.map_append, List.map_append, List.map_cons, List.map_nil, sum_app, sum_app]
    dsimp only at this ⊢
    omega
theorem sumW_in : ∀ (l : List Int) (s : Int), (∀ x, x ∈ l → 0 ≤ x ∧ x ≤ 65535) → 0 ≤ s → s + 65535 * (l.length : Int) ≤ 1000000000000 → sumW l s = s + l.sum ∧ 0 ≤ l.sum ∧ l.sum ≤ 65535 * (l.length : Int)
  | [], s, _, _, _ => by simp [sumW]
  | x :: l, s, h, h0, h1 => by
    have hx := h x (List.mem_cons_self ..)
    simp only [List.length_cons] at h1 ⊢
    rw [sumW, wrap_i (by omega)]
    have := sumW_in l (s + x) (fun y hy => h y (List.mem_cons_of_mem _ hy)) (by omega) (by omega)
    rw [List.sum_cons]
    omega
theorem sec_of {p s : List Int} (hp : ∀ x, x ∈ p → 0 ≤ x ∧ x ≤ 65535) (hn : s.Nodup) (hs : ∀ x, x ∈ s → 0 ≤ x ∧ x < (p.length : Int)) (hl : s.length ≤ 100) : secI p s = ((s.map fun i => iA p i.toNat).sum, 0) ∧ (0 ≤ (s.map fun i => iA p i.toNat).sum ∧ (s.map fun i => iA p i.toNat).sum ≤ 6553500) := by
  have h1 : s.any (secBad p.length) = false := by
    rw [List.any_eq_false]
    intro x hx
    have := hs x hx
    unfold secBad
    simp only [Bool.or_eq_true, decide_eq_true_eq]
    omega
  have h2 : ptB s = false := by unfold ptB; rw [decide_eq_true hn]; rfl
  have h3 : p.any pkBad = false := by
    rw [List.any_eq_false]
    intro x hx
    have := hp x hx
    unfold pkBad
    simp only [Bool.or_eq_true, decide_eq_true_eq]
    omega
  have h4 := sumW_in (pick p s) 0 (fun x hx => by
    unfold pick at hx
    obtain ⟨i, hi, rfl⟩ := List.mem_map.1 hx
    have := hs i hi
    refine hp _ ?_
    unfold iA
    rw [List.getD_eq_getElem?_getD, List.getElem?_eq_getElem (by omega)]
    exact List.getElem_mem _) (Int.le_refl _) (by unfold pick; rw [List.length_map]; omega)
  have h5 : (pick p s).length ≤ 100 := by unfold pick; rw [List.length_map]; exact hl
  rw [Int.zero_add] at h4
  unfold secI
  rw [h1, h2, h3]
  simp only [Bool.false_eq_true, if_false]
  rw [h4.1]
  unfold pick at h4 h5 ⊢
  exact ⟨rfl, h4.2.1, by omega⟩
theorem chg_of {a b s : List Int} {x y : Int} (ha : secI a s = (x, 0)) (hb : secI b s = (y, 0)) (hx : 0 ≤ x ∧ x ≤ 6553500) (hy : 0 ≤ y ∧ y ≤ 6553500) : chgI a b s = (y - x, 0) := by
  unfold chgI
  rw [ha, hb]
  simp only [if_true]
  rw [wrap_i (by omega)]
def PsT : Tbl := tc 28 (rowPu selAw) (tc 37 (rowPu selSc) (tc 38 (rowPu selCg) T0))
theorem tc_aw33 {T : Tbl} (hT : TblOk Tryd.prog T) : TblOk Tryd.prog (tc 28 (rowPu selAw) T) :=
  tc_pu f28_ok (fun args pre d h hp nn => by
    unfold selAw at h
    split at h <;> cases h
    exact awake33_c nn) hT
theorem PsT_ok : TblOk Tryd.prog PsT := tc_aw33 (tc_sc (tc_cg (T0_ok _)))
structure PsG where
  x : Nat
  y : Nat
  o : Nat
  q : Nat
  a : Nat
def PsF (a b : List U16) (c : List Bool) (u : List Int × List Int) (g : PsG) (j : Nat) : List (Nat × D) := [(0, .sl (a.map uR)), (1, .sl (b.map uR)), (2, .sl (c.map bRow)), (7, .own (0, 51) g.x 0 j), (8, .own (0, 59) g.y 0 j), (9, .own (0, 77) g.o 0 u.1.length), (10, .own (0, 81) g.q 0 u.2.length), (11, .own (0, 63) g.a 0 j), (12, di (j : Int))]
def PsH (a b : List U16) (u : List Int × List Int) (g : PsG) (j : Nat) : Hp := ((((Hp.none.put (0, 63) ⟨g.a, 1, (rgI j).map iR⟩).put (0, 81) ⟨g.q, 1, u.2.map iR⟩).put (0, 77) ⟨g.o, 1, u.1.map iR⟩).put (0, 59) ⟨g.y, 1, (uL b j).map iR⟩).put (0, 51) ⟨g.x, 1, (uL a j).map iR⟩
set_option maxHeartbeats 16000000 in
theorem PSec_c (a b : List U16) (c : List Bool) (nn : Nm) : CallsA Tryd.prog 6 [.sl (a.map uR), .sl (b.map uR), .sl (c.map bRow)] Hp.none nn (Pu (db true) Hp.none) := by
  obtain ⟨code, h1, h2⟩ := c6_ok
  refine callsA_of PsT_ok mixed (N := fun t => (0, t)) Tryd.func6 h1 h2 r6_ok [] false js_nil js_nil' (by simp [Tryd.f6]) ?_
  cases c1 : decide ((30 : Int) < (a.length : Int)) with
  | true => simp (maxSteps:=500000) only [↓vp, vv, ↓reduceIte, simprocAttr, c6, r6, PsT, selAw, c1, Pu]
  | false =>
  cases c2 : decide ((b.length : Int) < (a.length : Int)) with
  | true => simp (maxSteps:=500000) only [↓vp, vv, ↓reduceIte, simprocAttr, c6, r6, PsT, selAw, c1, c2, Pu]
  | false =>
  have ha : a.length ≤ 30 := by have := of_decide_eq_false c1; omega
  have hb : a.length ≤ b.length := by have := of_decide_eq_false c2; omega
  simp (maxSteps:=500000) only [↓vp, vv, ↓reduceIte, simprocAttr, c6, c6_5, PsT, c1, c2]
  refine rng_loopP a.length (fun j (u : (List Int × List Int) × PsG) => ⟨fr (PsF a b c u.1 u.2 j), PsH a b u.1 u.2 j⟩) (fun j u => PartP j u.1) (u0 := (([], []), ⟨0, 0, 0, 0, 0⟩))
    ((weak_own 7 (0, 51) 1 (by simp (maxSteps:=500000) only [↓vp, vv, ↓reduceIte, simprocAttr, ]) (by simp (maxSteps:=500000) only [↓vp, vv, ↓reduceIte, simprocAttr, ])).trans ((weak_own 8 (0, 59) 1 (by simp (maxSteps:=500000) only [↓vp, vv, ↓reduceIte, simprocAttr, ]) (by simp (maxSteps:=500000) only [↓vp, vv, ↓reduceIte, simprocAttr, ])).trans ((weak_own 9 (0, 77) 1 (by simp (maxSteps:=500000) only [↓vp, vv, ↓reduceIte, simprocAttr, ]) (by simp (maxSteps:=500000) only [↓vp, vv, ↓reduceIte, simprocAttr, ])).trans ((weak_own 10 (0, 81) 1 (by simp (maxSteps:=500000) only [↓vp, vv, ↓reduceIte, simprocAttr, ]) (by simp (maxSteps:=500000) only [↓vp, vv, ↓reduceIte, simprocAttr, ])).trans ((weak_own 11 (0, 63) 1 (by simp (maxSteps:=500000) only [↓vp, vv, ↓reduceIte, simprocAttr, ]) (by simp (maxSteps:=500000) only [↓vp, vv, ↓reduceIte, simprocAttr, ])).trans (weak_eq [] [(0, 51), (0, 59), (0, 77), (0, 81), (0, 63)] (PsF a b c ([], []) ⟨0, 0, 0, 0, 0⟩ 0) (by simp (maxSteps:=500000) only [↓vp, vv, ↓reduceIte, simprocAttr, coverS, PsF, PsH, uL, rgI, List.take_zero, List.range_zero, List.map_nil]) (by simp (maxSteps:=500000) only [↓vp, vv, ↓reduceIte, simprocAttr, refsF, PsF, PsH, uL, rgI, List.take_zero, List.range_zero, List.map_nil]) (by simp (maxSteps:=500000) only [↓vp, vv, ↓reduceIte, simprocAttr, PsF, PsH, uL, rgI, List.take_zero, List.range_zero, List.map_nil]) (by simp) (by simp (maxSteps:=500000) only [↓vp, vv, ↓reduceIte, simprocAttr, PsF, PsH, uL, rgI, List.take_zero, List.range_zero, List.map_nil]; try rfl)))))))
    ⟨by simp, by simp, fun x hx => (by cases hx), fun x hx => (by cases hx), rfl, fun f => by simp [rgI]⟩ (fun j hj u hP => ?_) (fun u hP => ?_)
  · obtain ⟨⟨one, other⟩, gx, gy, go, gq, ga⟩ := u
    dsimp only at hP
    have hl := hP.l
    dsimp only at hl
    have hj' : (j : Int) < a.length := by omega
    have hjb : j < b.length := by omega
    have hjb' : (j : Int) < b.length := by omega
    have w1 := idx_next (j := j) (by omega)
    have g1 := u_get hj
    have g2 := u_get hjb
    have m1 := uL_next hj
    have m2 := uL_next hjb
    have m3 := rgI_next j
    have x1 := (uA a j).2
    have x2 := (uA b j).2
    have v1 : IntKind.i64.wrap (uA a j).1 = (uA a j).1 := wrap_i (by omega)
    have v2 : IntKind.i64.wrap (uA b j).1 = (uA b j).1 := wrap_i (by omega)
    have l1 : (uL a j).length = j := uL_len (by omega)
    have l2 : (uL b j).length = j := uL_len (by omega)
    have l3 : (rgI j).length = j := rgI_len j
    have y1 : (j + 1) * 8 ≤ 140737488355328 := by omega
    have y2 : j + 1 ≤ 4611686018427387904 := by omega
    have y3 : (one.length + 1) * 8 ≤ 140737488355328 := by omega
    have y4 : one.length + 1 ≤ 4611686018427387904 := by omega
    have y5 : (other.length + 1) * 8 ≤ 140737488355328 := by omega
    have y6 : other.length + 1 ≤ 4611686018427387904 := by omega
    have nx1 := part_1 hP
    have nx2 := part_2 hP
    generalize (uA a j).1 = xa at g1 m1 v1 x1
    generalize (uA b j).1 = xb at g2 m2 v2 x2
    cases d1 : decide ((j : Int) < (c.length : Int)) with
    | false =>
      simp (maxSteps:=500000) only [↓vp, vv, ↓reduceIte, simprocAttr, c6_3, c6_2, c6_1, PsT, PsF, PsH, hj, hj', hjb, hjb', g1, g2, v1, v2, l1, l2, l3, y1, y2, y3, y4, y5, y6, d1, Int.toNat_natCast, idx_nn]
      refine rng_nextP hj ((one, other ++ [(j : Int)]), (⟨gx + 1, gy + 1, go, gq + 1, ga + 1⟩ : PsG)) ?_ nx2
      exact (weak_eq [] [(0, 51), (0, 59), (0, 77), (0, 81), (0, 63)] (PsF a b c (one, other ++ [(j : Int)]) ⟨gx + 1, gy + 1, go, gq + 1, ga + 1⟩ (j + 1)) (by simp (maxSteps:=500000) only [↓vp, vv, ↓reduceIte, simprocAttr, coverS, PsF, PsH, ← m1, ← m2, ← m3, iR, w1, List.map_append, List.map_cons, List.map_nil, List.length_append, List.length_cons, List.length_nil]) (by simp (maxSteps:=500000) only [↓vp, vv, ↓reduceIte, simprocAttr, refsF, PsF, PsH, ← m1, ← m2, ← m3, iR, w1, List.map_append, List.map_cons, List.map_nil, List.length_append, List.length_cons, List.length_nil]) (by simp (maxSteps:=500000) only [↓vp, vv, ↓reduceIte, simprocAttr, PsF, PsH, ← m1, ← m2, ← m3, iR, w1, List.map_append, List.map_cons, List.map_nil, List.length_append, List.length_cons, List.length_nil]) (by simp) (by simp (maxSteps:=500000) only [↓vp, vv, ↓reduceIte, simprocAttr, PsF, PsH, ← m1, ← m2, ← m3, iR, w1, List.map_append, List.map_cons, List.map_nil, List.length_append, List.length_cons, List.length_nil]; try rfl))
    | true =>
    have hc : j < c.length := by have := of_decide_eq_true d1; omega
    have hc' : (j : Int) < c.length := by omega
    have g3 : (c.map bRow).getD j [] = [db c[j]] := getD_map bRow c j hc
    cases d2 : c[j] with
    | false =>
      rw [d2] at g3
      simp (maxSteps:=500000) only [↓vp, vv, ↓reduceIte, simprocAttr, c6_3, c6_2, c6_1, PsT, PsF, PsH, hj, hj', hjb, hjb', hc, hc', g1, g2, g3, v1, v2, l1, l2, l3, y1, y2, y3, y4, y5, y6, d1, Int.toNat_natCast, idx_nn]
      refine rng_nextP hj ((one, other ++ [(j : Int)]), (⟨gx + 1, gy + 1, go, gq + 1, ga + 1⟩ : PsG)) ?_ nx2
      exact (weak_eq [] [(0, 51), (0, 59), (0, 77), (0, 81), (0, 63)] (PsF a b c (one, other ++ [(j : Int)]) ⟨gx + 1, gy + 1, go, gq + 1, ga + 1⟩ (j + 1)) (by simp (maxSteps:=500000) only [↓vp, vv, ↓reduceIte, simprocAttr, coverS, PsF, PsH, ← m1, ← m2, ← m3, iR, w1, List.map_append, List.map_cons, List.map_nil, List.length_append, List.length_cons, List.length_nil]) (by simp (maxSteps:=500000) only [↓vp, vv, ↓reduceIte, simprocAttr, refsF, PsF, PsH, ← m1, ← m2, ← m3, iR, w1, List.map_append, List.map_cons, List.map_nil, List.length_append, List.length_cons, List.length_nil]) (by simp (maxSteps:=500000) only [↓vp, vv, ↓reduceIte, simprocAttr, PsF, PsH, ← m1, ← m2, ← m3, iR, w1, List.map_append, List.map_cons, List.map_nil, List.length_append, List.length_cons, List.length_nil]) (by simp) (by simp (maxSteps:=500000) only [↓vp, vv, ↓reduceIte, simprocAttr, PsF, PsH, ← m1, ← m2, ← m3, iR, w1, List.map_append, List.map_cons, List.map_nil, List.length_append, List.length_cons, List.length_nil]; try rfl))
    | true =>
      rw [d2] at g3
      simp (maxSteps:=500000) only [↓vp, vv, ↓reduceIte, simprocAttr, c6_3, c6_2, c6_1, PsT, PsF, PsH, hj, hj', hjb, hjb', hc, hc', g1, g2, g3, v1, v2, l1, l2, l3, y1, y2, y3, y4, y5, y6, d1, Int.toNat_natCast, idx_nn]
      refine rng_nextP hj ((one ++ [(j : Int)], other), (⟨gx + 1, gy + 1, go + 1, gq, ga + 1⟩ : PsG)) ?_ nx1
      exact (weak_eq [] [(0, 51), (0, 59), (0, 77), (0, 81), (0, 63)] (PsF a b c (one ++ [(j : Int)], other) ⟨gx + 1, gy + 1, go + 1, gq, ga + 1⟩ (j + 1)) (by simp (maxSteps:=500000) only [↓vp, vv, ↓reduceIte, simprocAttr, coverS, PsF, PsH, ← m1, ← m2, ← m3, iR, w1, List.map_append, List.map_cons, List.map_nil, List.length_append, List.length_cons, List.length_nil]) (by simp (maxSteps:=500000) only [↓vp, vv, ↓reduceIte, simprocAttr, refsF, PsF, PsH, ← m1, ← m2, ← m3, iR, w1, List.map_append, List.map_cons, List.map_nil, List.length_append, List.length_cons, List.length_nil]) (by simp (maxSteps:=500000) only [↓vp, vv, ↓reduceIte, simprocAttr, PsF, PsH, ← m1, ← m2, ← m3, iR, w1, List.map_append, List.map_cons, List.map_nil, List.length_append, List.length_cons, List.length_nil]) (by simp) (by simp (maxSteps:=500000) only [↓vp, vv, ↓reduceIte, simprocAttr, PsF, PsH, ← m1, ← m2, ← m3, iR, w1, List.map_append, List.map_cons, List.map_nil, List.length_append, List.length_cons, List.length_nil]; try rfl))
  · obtain ⟨⟨one, other⟩, gx, gy, go, gq, ga⟩ := u
    dsimp only at hP
    have l1 : (uL a a.length).length = a.length := uL_len (by omega)
    have l2 : (uL b a.length).length = a.length := uL_len (by omega)
    have l3 : (rgI a.length).length = a.length := rgI_len _
    have bx : ∀ (d : List U16) (n : Nat), ∀ x, x ∈ uL d n → 0 ≤ x ∧ x ≤ 65535 := fun d n x hx => by
      unfold uL at hx
      obtain ⟨z, _, rfl⟩ := List.mem_map.1 hx
      exact z.2
    have hX : ∀ x, x ∈ uL a a.length → 0 ≤ x ∧ x ≤ 65535 := bx a _
    have hY : ∀ x, x ∈ uL b a.length → 0 ≤ x ∧ x ≤ 65535 := bx b _
    have nd : (rgI a.length).Nodup := by
      unfold rgI
      refine List.Pairwise.map _ (fun x y h e => h (by omega)) List.nodup_range
    have iv : ∀ x, x ∈ rgI a.length → 0 ≤ x ∧ x < (a.length : Int) := fun x hx => by
      unfold rgI at hx
      obtain ⟨i, hi, rfl⟩ := List.mem_map.1 hx
      have := List.mem_range.1 hi
      omega
    generalize hXg : uL a a.length = X at *
    generalize hYg : uL b a.length = Y at *
    generalize hRg : rgI a.length = R at *
    have hl := hP.l
    have hs := hP.s
    have hn1 := hP.n1
    have hn2 := hP.n2
    have hi1 := hP.i1
    have hi2 := hP.i2
    dsimp only at hl hs hn1 hn2 hi1 hi2
    rw [hRg] at hs
    obtain ⟨s1, b1⟩ := sec_of hX hn1 (by rw [l1]; exact hi1) (by omega)
    obtain ⟨s2, b2⟩ := sec_of hX hn2 (by rw [l1]; exact hi2) (by omega)
    obtain ⟨s3, b3⟩ := sec_of hX nd (by rw [l1]; exact iv) (by omega)
    obtain ⟨r1, d1⟩ := sec_of hY hn1 (by rw [l2]; exact hi1) (by omega)
    obtain ⟨r2, d2⟩ := sec_of hY hn2 (by rw [l2]; exact hi2) (by omega)
    obtain ⟨r3, d3⟩ := sec_of hY nd (by rw [l2]; exact iv) (by omega)
    have e1 := chg_of s1 r1 b1 d1
    have e2 := chg_of s2 r2 b2 d2
    have e3 := chg_of s3 r3 b3 d3
    have e4 := chg_of r3 s3 d3 b3
    have q1 := hs fun i => iA X i.toNat
    have q2 := hs fun i => iA Y i.toNat
    generalize (one.map fun i => iA X i.toNat).sum = P1 at *
    generalize (other.map fun i => iA X i.toNat).sum = P2 at *
    generalize (R.map fun i => iA X i.toNat).sum = P3 at *
    generalize (one.map fun i => iA Y i.toNat).sum = Q1 at *
    generalize (other.map fun i => iA Y i.toNat).sum = Q2 at *
    generalize (R.map fun i => iA Y i.toNat).sum = Q3 at *
    have pre : ∀ (p s : List Int), p.length = a.length → s.length ≤ a.length → (∀ x, x ∈ s → 0 ≤ x ∧ x < (a.length : Int)) → SecPre p s := fun p s h1 h2 h3 => ⟨by omega, by omega, fun x hx => by have := h3 x hx; unfold InI; omega⟩
    have x1 := pre X one l1 (by omega) hi1
    have x2 := pre X other l1 (by omega) hi2
    have x3 := pre X R l1 (by omega) iv
    have x4 := pre Y one l2 (by omega) hi1
    have x5 := pre Y other l2 (by omega) hi2
    have x6 := pre Y R l2 (by omega) iv
    have z1 : Sc2 (X, one) := x1
    have z2 : Sc2 (X, other) := x2
    have z3 : Sc2 (X, R) := x3
    have y1 : Ch3 (X, Y, one) := ⟨x1, x4⟩
    have y2 : Ch3 (X, Y, other) := ⟨x2, x5⟩
    have y3 : Ch3 (X, Y, R) := ⟨x3, x6⟩
    have y4 : Ch3 (Y, X, R) := ⟨x6, x3⟩
    have t1 : (X.map iR).take a.length = X.map iR := List.take_of_length_le (by simp; omega)
    have t2 : (Y.map iR).take a.length = Y.map iR := List.take_of_length_le (by simp; omega)
    have t3 : (R.map iR).take a.length = R.map iR := List.take_of_length_le (by simp; omega)
    have t4 : (one.map iR).take one.length = one.map iR := List.take_of_length_le (by simp)
    have t5 : (other.map iR).take other.length = other.map iR := List.take_of_length_le (by simp)
    have v1 : (IntKind.i64.wrap (P1 + P2) == P3) = true := by rw [wrap_i (by omega), beq_iff_eq]; exact q1
    have v2 : (IntKind.i64.wrap (Q1 - P1 + (Q2 - P2)) == Q3 - P3) = true := by rw [wrap_i (by omega), beq_iff_eq]; omega
    have v3 : (P3 - Q3 == IntKind.i64.wrap (0 - (Q3 - P3))) = true := by rw [wrap_i (by omega), beq_iff_eq]; omega
    simp (maxSteps:=500000) only [↓vp, vv, ↓reduceIte, simprocAttr, c6_3, PsT, PsF, PsH, hXg, hYg, hRg, Int.lt_irrefl]
    refine vc_wk (weak_eq [(0, 51), (0, 59), (0, 77), (0, 81), (0, 63)] [] [(7, .sl (X.map iR)), (8, .sl (Y.map iR)), (9, .sl (one.map iR)), (10, .sl (other.map iR)), (11, .sl (R.map iR))] (by simp (maxSteps:=500000) only [↓vp, vv, ↓reduceIte, simprocAttr, coverS, t1, t2, t3, t4, t5]; exact ⟨⟨⟨i_pl X, by omega⟩, by simp⟩, ⟨⟨i_pl Y, by omega⟩, by simp⟩, ⟨i_pl one, by simp⟩, ⟨i_pl other, by simp⟩, ⟨i_pl R, by omega⟩, by simp⟩) (by simp (maxSteps:=500000) only [↓vp, vv, ↓reduceIte, simprocAttr, refsF]) (by simp (maxSteps:=500000) only [↓vp, vv, ↓reduceIte, simprocAttr, ]) (by simp) (by simp (maxSteps:=500000) only [↓vp, vv, ↓reduceIte, simprocAttr, ]; try rfl)) ?_
    simp (maxSteps:=500000) only [↓vp, vv, ↓reduceIte, simprocAttr, c6_4, r6, PsT, selAw, selSc, selCg, selX, decI2, decI3, intsOf_iR, z1, z2, z3, y1, y2, y3, y4, s1, s2, s3, e1, e2, e3, e4, v1, v2, v3, ie, Pu]
end Go.Proofs.YtehmmnnmkapfeaaDoor

/- Networks, plans and lists that came in: what a program's reader reads of them is data. -/
namespace Go.Proofs.YtehmmnnmkapfeaaDoor
open Go Go.ChangeShapes Go.WideShapes Go.Deep
def ImW (w : World) : Nat → Prop := fun b => b < w.heap.size
def RW (w : World) (d : D) (u : Value) : Prop := one u = true ∧ RelP (ImW w) w.heap d u
def RWs (w : World) (ds : List D) (us : List Value) : Prop := ∀ (j : Nat) (d : D) (u : Value), ds[j]? = some d → us[j]? = some u → RW w d u
theorem RWs.nil {w : World} {us : List Value} : RWs w [] us := fun j d u hd => by simp at hd
theorem RWs.cons {w : World} {d : D} {u : Value} {ds : List D} {us : List Value} (h : RW w d u) (t : RWs w ds us) : RWs w (d :: ds) (u :: us) := fun j d' u' hd hu => by
  cases j with
  | zero => simp at hd hu; subst hd hu; exact h
  | succ j => exact t j d' u' (by simpa using hd) (by simpa using hu)
theorem RW.v {w : World} {u : Value} (h : one u = true) : RW w (.v u) u := ⟨h, .v u⟩
def Arg (w : World) (d : D) (v : Value) : Prop := ∀ p : Pl, Rel (ImW w) p Hp.none w.heap d v
theorem RW.arg {w : World} {d : D} {u : Value} (h : RW w d u) : Arg w d u := fun _ => .p h.2
theorem list_of {α : Type} {Q : Nat → α → Prop} : ∀ n : Nat, (∀ i, i < n → ∃ a, Q i a) → ∃ l : List α, l.length = n ∧ ∀ i a, l[i]? = some a → Q i a
  | 0, _ => ⟨[], rfl, fun i a h => by simp at h⟩
  | n + 1, h => by
    obtain ⟨l, hl, hq⟩ := list_of n fun i hi => h i (by omega)
    obtain ⟨a, ha⟩ := h n (by omega)
    refine ⟨l ++ [a], by simp [hl], fun i b hb => ?_⟩
    rcases Nat.lt_or_ge i n with hi | hi
    · rw [List.getElem?_append_left (by omega)] at hb
      exact hq i b hb
    · rw [List.getElem?_append_right (by omega)] at hb
      have : i - l.length = 0 := by
        rcases Nat.eq_zero_or_pos (i - l.length) with h | h
        · exact h
        · rw [List.getElem?_eq_none (by simp; omega)] at hb; cases hb
      rw [this] at hb
      obtain rfl : a = b := by simpa using hb
      obtain rfl : i = n := by omega
      exact ha
theorem cell_at {w : World} {a : Addr} {v : Value} (h : w.cell? a = some v) : a.spot = none ∧ a.block < w.heap.size := by
  unfold World.cell? at h
  split at h
  · rename_i hb
    split at h
    · cases h
    · rename_i hs
      exact ⟨by simpa using hs, (Array.getElem?_eq_some_iff.1 hb).1⟩
  · cases h
section
variable {H : Type} {enc : TypeId × Value → H} {P : Program} {w : World} {base : Nat} {spare : Nat → Bool} {held : Bool}
theorem cells_get {a : Addr} {n : Nat} {us : List Value} (h : w.cells? base a n = some us) : us.length = n ∧ ∀ i, i < n → w.cell? (a.add i) = us[i]? := by
  unfold World.cells? at h
  split at h
  · exact ⟨by simpa using mapM_some_length h, fun i hi => mapM_some_get h i i (by simp [hi])⟩
  · cases h
def Dec (enc : TypeId × Value → H) (P : Program) (w : World) (base : Nat) (spare : Nat → Bool) (held : Bool) {α : Type} (e : TypeId) (row : α → List D) (sz : Nat) : Prop :=
  ∀ (n : Nat) (us : List Value) (y : DataW H × List MemPlace), DataW.trod enc P w base spare held n e us = some y → ∃ a : α, us.length = sz ∧ (row a).length = sz ∧ RWs w (row a) us
theorem dec_slice {α : Type} {row : α → List D} {sz : Nat} {t e : TypeId} (ht : P.underlying t = some (.slice e)) (hsz : P.cellsOf e = sz) (h0 : 0 < sz) (hel : Dec enc P w base spare held e row sz) : Dec enc P w base spare held t (fun l : List α => [D.sl (l.map row)]) 1 := by
  intro fuel cs x h
  rcases DataW.trod_slice ht h with ⟨rfl, _⟩ | ⟨a, len, cap, elems, rest, n, _, rfl, _, hb, hl, hm, hlen, hget, _, _⟩
  · exact ⟨[], rfl, rfl, .cons ⟨rfl, .sl0 none 0⟩ .nil⟩
  rcases Nat.eq_zero_or_pos len with z | hp
  · subst z
    exact ⟨[], rfl, rfl, .cons ⟨rfl, .sl0 _ _⟩ .nil⟩
  have each : ∀ i, i < len → ∃ a' : α, ∃ us : List Value, us.length = sz ∧ (∀ j, j < sz → w.cell? ((a.add (i * sz)).add j) = us[j]?) ∧ (row a').length = sz ∧ RWs w (row a') us := by
    intro i hi
    have h1 := hget i hi
    rw [List.getElem?_eq_getElem (by omega), Option.bind_eq_some_iff] at h1
    obtain ⟨us, hc, ht'⟩ := h1
    rw [hsz] at hc
    obtain ⟨c1, c2⟩ := cells_get hc
    obtain ⟨a', e1, e2, e3⟩ := hel _ _ _ ht'
    exact ⟨a', us, c1, c2, e2, e3⟩
  obtain ⟨hs, hbl⟩ : a.spot = none ∧ a.block < w.heap.size := by
    obtain ⟨_, us, u1, u2, _, _⟩ := each 0 hp
    have := u2 0 h0
    rw [List.getElem?_eq_getElem (by omega)] at this
    have k := cell_at this
    simpa [Addr.add] using k
  obtain ⟨b, o, s⟩ := a
  dsimp only at hs hbl
  subst hs
  obtain ⟨l, hll, hq⟩ := list_of len each
  have hat : ∀ i j, w.cell? (((⟨b, o, none⟩ : Addr).add (i * sz)).add j) = hc w.heap b (o + i * sz + j) := fun i j => by
    have e : (((⟨b, o, none⟩ : Addr).add (i * sz)).add j) = ⟨b, o + i * sz + j, none⟩ := by
      unfold Addr.add
      by_cases h1 : j = 0 <;> by_cases h2 : i * sz = 0 <;> simp only [h1, h2, if_true, if_false, Nat.add_zero]
    rw [← hc_cell, e]
  refine ⟨l, rfl, rfl, .cons ⟨rfl, .sl1 (l.map row) b o len cap sz (fun i j => (hc w.heap b (o + i * sz + j)).getD (.bool false)) (by simp [hll]) hl (fun r hr => ?_) hbl (fun i j hi hj => ?_) (fun i j hi hj => ?_)⟩ .nil⟩
  · obtain ⟨a', ha, rfl⟩ := List.mem_map.1 hr
    obtain ⟨i, hi⟩ := List.getElem?_of_mem ha
    obtain ⟨_, _, _, h3, _⟩ := hq i a' hi
    exact h3
  · obtain ⟨us, u1, u2, u3, u4⟩ := hq i l[i] (List.getElem?_eq_getElem (by omega))
    have h1 := u2 j hj
    rw [hat, List.getElem?_eq_getElem (by omega)] at h1
    have h2 := u4 j _ _ (List.getElem?_eq_getElem (by omega)) (List.getElem?_eq_getElem (by omega : j < us.length))
    rw [h1]
    exact ⟨rfl, h2.1⟩
  · have hi' : i < l.length := by simpa using hi
    obtain ⟨us, u1, u2, u3, u4⟩ := hq i l[i] (List.getElem?_eq_getElem (by omega))
    have e : ((l.map row)[i]'hi) = row l[i] := by simp
    have hj' : j < (row l[i]).length := by rw [← e]; exact hj
    have h1 := u2 j (by omega)
    rw [hat, List.getElem?_eq_getElem (by omega)] at h1
    have h2 := u4 j _ _ (List.getElem?_eq_getElem hj') (List.getElem?_eq_getElem (by omega : j < us.length))
    rw [h1]
    have e2 : (((l.map row)[i]'hi)[j]'hj) = (row l[i])[j] := by simp
    rw [e2]
    exact h2.2
theorem dec_arg1 {α : Type} {row : α → D} {t : TypeId} {v : Value} {d : DataW H} {p : List MemPlace} (hel : Dec enc P w base spare held t (fun a => [row a]) 1) (hv : v.cells.toList = [v]) (h : DataW.Trod enc P w base spare held t v d p) : ∃ a : α, Arg w (row a) v := by
  obtain ⟨fuel, hf⟩ := h
  obtain ⟨a, h1, h2, h3⟩ := hel _ _ _ hf
  rw [hv] at h3
  exact ⟨a, (h3 0 _ _ rfl rfl).arg⟩
end
section
variable {H : Type} {enc : TypeId × Value → H} {w : World} {base : Nat} {spare : Nat → Bool} {held : Bool}
theorem dec_bool : Dec enc Tryd.prog w base spare held 4 bRow 1 := fun n us y h => by
  obtain ⟨k, rfl, _⟩ := DataW.trod_bool Tryd.underlying4 h
  exact ⟨k, rfl, rfl, .cons (.v rfl) .nil⟩
theorem dec_bools : Dec enc Tryd.prog w base spare held 72 (fun l : List Bool => [D.sl (l.map bRow)]) 1 := dec_slice Tryd.underlying72 (by kernel_rfl) (by omega) dec_bool
end
def Args (w : World) (ds : List D) (us : List Value) : Prop := ds.length = us.length ∧ ∀ (j : Nat) (d : D) (u : Value), ds[j]? = some d → us[j]? = some u → Arg w d u
theorem Args.nil {w : World} : Args w [] [] := ⟨rfl, fun j d u hd => by simp at hd⟩
theorem Args.cons {w : World} {d : D} {u : Value} {ds : List D} {us : List Value} (h : Arg w d u) (t : Args w ds us) : Args w (d :: ds) (u :: us) := ⟨by simp [t.1], fun j d' u' hd hu => by
  cases j with
  | zero => simp at hd hu; subst hd hu; exact h
  | succ j => exact t.2 j d' u' (by simpa using hd) (by simpa using hu)⟩
theorem Arg.v {w : World} (u : Value) : Arg w (.v u) u := fun _ => .p (.v u)
theorem law_anyG {f : FuncId} {w : World} {ds : List D} {us : List Value} (hg : GlOk (ImW w) w.heap) (ha : Args w ds us) (hc : CallsA Tryd.prog f ds Hp.none (0, 0) (Pu (db true) Hp.none)) : Calls Tryd.prog f us.toArray w (Ret (.bool true) w) := by
  refine (hc w (ImW w) (fun _ => (0, 0)) us.toArray (by simpa using ha.1) (fun j d u hd hu => ?_) ⟨fun i e hi => (by cases hi), fun i j e e' hi => (by cases hi), fun b hb => hb⟩ (fun k _ => rfl) hg).mono ?_
  · exact ha.2 j d u hd (by simpa using hu) _
  · rintro e w' ⟨Im', p', v, H', u, L⟩
    obtain ⟨rfl, rfl⟩ := L.post
    have := rel_v L.rel
    subst this
    exact ⟨L.end_, kept_of L⟩
abbrev spansC : Array Value := #[.int .i64 400, .int .i64 1200, .int .i64 0, .int .i64 2000, .int .i64 0, .int .i64 5000, .int .i64 1, .int .i64 2000]
abbrev Spans (w : World) : Prop := Box w 0 spansC
end Go.Proofs.YtehmmnnmkapfeaaDoor

/- The package's table of ranges, as the condition of the tied rows gives it. -/
namespace Go.Proofs.YtehmmnnmkapfeaaDoor
open Go.RowKit Go.ChangeShapes Go.WideShapes
theorem spans_glob : Tryd.prog.globalNamed "batchline/product.spans" = some 0 := by kernel_rfl
theorem spans_type : (Tryd.prog.globals[0]?).map (·.type) = some 167 := by kernel_rfl
theorem spans_cells4 : Tryd.prog.cellsOf 167 = 8 := by kernel_rfl
theorem spans_cells1 : Tryd.prog.cellsOf 166 = 2 := by kernel_rfl
theorem spans_cells0 : Tryd.prog.cellsOf 3 = 1 := by kernel_rfl
theorem span_of_trod {W : World} {fuel : Nat} {c d : Value} {x y : Int} {p : List MemPlace} (h : DataW.trod (fun _ => ()) Tryd.prog W 0 (fun _ => true) false fuel 166 [c, d] = some (.agg [.lit (.int .i64 x), .lit (.int .i64 y)], p)) :
    c = .int .i64 x ∧ d = .int .i64 y := by
  obtain ⟨xs, n, _, hx, _, hl, hf⟩ := DataW.trod_struct Tryd.underlying166 h
  obtain ⟨a, b, rfl⟩ : ∃ a b, xs = [a, b] := match xs, hl with | [a, b], _ => ⟨a, b, rfl⟩
  have h0 := hf 0 _ rfl
  have h1 := hf 1 _ rfl
  simp only [spans_cells0, List.drop_zero, List.take_succ_cons, List.take_zero, List.drop_succ_cons, List.getElem?_cons_zero, List.getElem?_cons_succ] at h0 h1
  obtain ⟨m, hm, rfl, _⟩ := DataW.trod_int Tryd.underlying3 h0
  obtain ⟨k, hk, rfl, _⟩ := DataW.trod_int Tryd.underlying3 h1
  injection hm with hm _
  injection hk with hk _
  subst hm hk
  simp at hx
  obtain ⟨⟨rfl, rfl⟩, _⟩ := hx
  exact ⟨rfl, rfl⟩
theorem spans_of_laid {W : World} (h : laidMet Tryd.prog [("batchline/product.spans", Rows.laid_batchline_product_spans)] W) : Spans W := by
  obtain ⟨ps, ⟨g, t, cs, fuel, p, q, hg, ht, hvar, hd, _, hps⟩, _, hcell⟩ := h
  obtain rfl := Option.some.inj (spans_glob.symm.trans hg)
  obtain rfl := Option.some.inj (spans_type.symm.trans ht)
  obtain ⟨xs, m, _, hx, hcl, hl, hf⟩ := DataW.trod_array Tryd.underlying167 hd
  rw [spans_cells4] at hcl
  obtain ⟨l⟩ := cs
  simp only at hcl hf
  obtain ⟨c0, c1, c2, c3, c4, c5, c6, c7, rfl⟩ : ∃ c0 c1 c2 c3 c4 c5 c6 c7, l = [c0, c1, c2, c3, c4, c5, c6, c7] := match l, hcl with | [a, b, c, d, e, f, g, h], _ => ⟨a, b, c, d, e, f, g, h, rfl⟩
  obtain ⟨y0, y1, y2, y3, rfl⟩ : ∃ a b c d, xs = [a, b, c, d] := match xs, hl with | [a, b, c, d], _ => ⟨a, b, c, d, rfl⟩
  have h0 := hf 0 (by omega)
  have h1 := hf 1 (by omega)
  have h2 := hf 2 (by omega)
  have h3 := hf 3 (by omega)
  rw [spans_cells1] at h0 h1 h2 h3
  simp at h0 h1 h2 h3
  obtain ⟨d0, p0⟩ := y0
  obtain ⟨d1, p1⟩ := y1
  obtain ⟨d2, p2⟩ := y2
  obtain ⟨d3, p3⟩ := y3
  simp [Rows.laid_batchline_product_spans] at hx
  obtain ⟨⟨rfl, rfl, rfl, rfl⟩, _⟩ := hx
  obtain ⟨rfl, rfl⟩ := span_of_trod h0
  obtain ⟨rfl, rfl⟩ := span_of_trod h1
  obtain ⟨rfl, rfl⟩ := span_of_trod h2
  obtain ⟨rfl, rfl⟩ := span_of_trod h3
  obtain ⟨⟨c, t, hb⟩, _⟩ := hcell 0 0 (by rw [hps]; simp [MemPlace.row])
  refine ⟨t, ?_⟩
  rw [hb]
  unfold World.var? at hvar
  rw [spans_glob] at hvar
  simp only [Option.bind_some, hb, Option.some.injEq] at hvar
  rw [hvar]
abbrev LaidFacts (w : World) : Prop := Spans w
theorem laidFacts_of {W : World} (h : laidMetH Tryd.prog [("batchline/product.spans", Rows.laid_batchline_product_spans)] W) : LaidFacts W := spans_of_laid h
theorem glOk_of {w : World} (h : LaidFacts w) : GlOk (AllIm w) w.heap := by
  obtain ⟨t, hb⟩ := h
  intro g f hg
  unfold GL glAt at hg
  split at hg
  · rename_i e
    cases hg
    subst e
    refine ⟨lt_of_some hb, fun j => spansC[j]?.getD undef, fun j hj => ?_, fun j d hd => ?_⟩
    · unfold hc
      rw [hb]
      dsimp only
      simp only [List.length_cons, List.length_nil] at hj
      match j, hj with
      | 0, _ => exact ⟨rfl, rfl⟩
      | 1, _ => exact ⟨rfl, rfl⟩
      | 2, _ => exact ⟨rfl, rfl⟩
      | 3, _ => exact ⟨rfl, rfl⟩
      | 4, _ => exact ⟨rfl, rfl⟩
      | 5, _ => exact ⟨rfl, rfl⟩
      | 6, _ => exact ⟨rfl, rfl⟩
      | 7, _ => exact ⟨rfl, rfl⟩
    · match j, hd with
      | 0, hd => cases hd; exact .v _
      | 1, hd => cases hd; exact .v _
      | 2, hd => cases hd; exact .v _
      | 3, hd => cases hd; exact .v _
      | 4, hd => cases hd; exact .v _
      | 5, hd => cases hd; exact .v _
      | 6, hd => cases hd; exact .v _
      | 7, hd => cases hd; exact .v _
      | j + 8, hd => simp at hd
  · unfold glAt at hg
    cases hg
end Go.Proofs.YtehmmnnmkapfeaaDoor

/- PackSections: its end. -/
namespace Go.Proofs.YtehmmnnmkapfeaaDoor
open Go Go.ChangeShapes Go.WideShapes Go.Deep
section
variable {H : Type} {enc : TypeId × Value → H} {w : World} {base : Nat} {spare : Nat → Bool} {held : Bool}
theorem dec_u16 : Dec enc Tryd.prog w base spare held 73 uR 1 := fun n us y h => by
  obtain ⟨k, rfl, _, hk⟩ := DataW.trod_int Tryd.underlying73 h
  exact ⟨⟨k, by simp [Lit.wf, IntKind.min, IntKind.max, IntKind.signed, IntKind.bits] at hk; omega⟩, rfl, rfl, .cons (.v rfl) .nil⟩
theorem dec_u16s : Dec enc Tryd.prog w base spare held 71 (fun l : List U16 => [D.sl (l.map uR)]) 1 := dec_slice Tryd.underlying71 (by kernel_rfl) (by omega) dec_u16
end
theorem PackSections_law (v0 v1 v2 : Value) (w : World) (h0 : ∃ x : List U16, Arg w (.sl (x.map uR)) v0) (h1 : ∃ x : List U16, Arg w (.sl (x.map uR)) v1) (h2 : ∃ x : List Bool, Arg w (.sl (x.map bRow)) v2) (hsp : LaidFacts w) :
    Calls Tryd.prog 6 #[v0, v1, v2] w (Ret (.bool true) w) := by
  obtain ⟨a, g0⟩ := h0
  obtain ⟨b, g1⟩ := h1
  obtain ⟨c, g2⟩ := h2
  exact law_anyG (us := [v0, v1, v2]) (glOk_of hsp) (.cons g0 (.cons g1 (.cons g2 .nil))) (PSec_c a b c (0, 0))
end Go.Proofs.YtehmmnnmkapfeaaDoor
