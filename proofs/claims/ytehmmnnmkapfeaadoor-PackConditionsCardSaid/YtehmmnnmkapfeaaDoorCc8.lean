/- PackConditions: Pk5 Pk6 CtG CtO E1 Hints CtE Nw CtR CodePG. -/
import Derived.Test.YtehmmnnmkapfeaaDoorCc7
import Derived.Test.YtehmmnnmkapfeaaDoorCc3
import Derived.Test.YtehmmnnmkapfeaaDoorCc4
import Derived.Test.YtehmmnnmkapfeaaDoorCc5
import Derived.Test.YtehmmnnmkapfeaaDoorProg
set_option linter.unusedSimpArgs false
set_option linter.unusedVariables false
set_option maxRecDepth 100000

/- Fills: what both call valid. -/
namespace Go.Proofs.YtehmmnnmkapfeaaDoor
open Go
structure Pce where
  ba : Int
  vo : Int
def Pce.row (p : Pce) : List D := [di p.ba, di p.vo]
def pcA (l : List Pce) (j : Nat) : Pce := l.getD j ⟨0, 0⟩
theorem pc_get {l : List Pce} {j : Nat} (h : j < l.length) : (l.map Pce.row).getD j [] = [di (pcA l j).ba, di (pcA l j).vo] := by
  unfold pcA
  rw [List.getD_eq_getElem?_getD, List.getElem?_map, List.getD_eq_getElem?_getD, List.getElem?_eq_getElem h]
  rfl
theorem pc_at {l : List Pce} {j : Nat} (h : j < l.length) : l[j] = pcA l j := by
  unfold pcA
  rw [List.getD_eq_getElem?_getD, List.getElem?_eq_getElem h]
  rfl
theorem pc_drop {l : List Pce} {j : Nat} (h : j < l.length) : l.drop j = pcA l j :: l.drop (j + 1) := by
  rw [List.drop_eq_getElem_cons h, pc_at h]
def pcOf : List D → Option Pce
  | [.v (.int .i64 a), .v (.int .i64 b)] => some ⟨a, b⟩
  | _ => Option.none
theorem pcOf_x (p : Pce) : pcOf [di p.ba, di p.vo] = some p := rfl
theorem pcOf_eq {l : List D} {m : Pce} (h : pcOf l = some m) : l = m.row := by unfold pcOf at h; split at h <;> cases h; rfl
def pcsOf : List (List D) → Option (List Pce)
  | [] => some []
  | r :: l => match pcOf r, pcsOf l with
    | some c, some cs => some (c :: cs)
    | _, _ => Option.none
theorem pcsOf_map (l : List Pce) : pcsOf (l.map Pce.row) = some l := by
  induction l with
  | nil => rfl
  | cons c l ih => rw [List.map_cons, pcsOf, ih]; rfl
theorem pcsOf_eq : ∀ {l : List (List D)} {cs : List Pce}, pcsOf l = some cs → l = cs.map Pce.row
  | [], cs, h => by cases h; rfl
  | r :: l, cs, h => by
    rw [pcsOf] at h
    split at h
    · rename_i e e'; cases h; rw [List.map_cons, pcOf_eq e, pcsOf_eq e']
    · cases h
def litB (p : Pce) : Bool := decide (0 ≤ p.ba) && (decide (p.ba < 1000) && (decide (0 ≤ p.vo) && decide (p.vo ≤ 1000000)))
def pcBad (l : List Pce) (i : Nat) : Bool := !litB (pcA l i) || ((pcA l i).vo == 0 || (decide (0 < i) && ((pcA l (i - 1)).ba == (pcA l i).ba)))
def volW : List Pce → Int → Int
  | [], s => s
  | p :: l, s => volW l (IntKind.i64.wrap (s + p.vo))
def flV (l : List Pce) : Bool := if 200 < l.length then false else if (List.range l.length).any (pcBad l) then false else decide (volW l 0 ≤ 1000000)
theorem bad_step {l : List Pce} {i : Nat} (hi : i < l.length) {b : Bool} (he : ((List.range l.length).drop i).any (pcBad l) = b) : (pcBad l i = true → b = true) ∧ (pcBad l i = false → ((List.range l.length).drop (i + 1)).any (pcBad l) = b) := by
  have h := drop_any (p := pcBad l) (l := List.range l.length) (j := i) (by simpa using hi) he
  rw [range_at] at h
  exact h
def decPc : List D → Option Pce
  | [.agg x] => pcOf x
  | _ => Option.none
theorem decPc_eq : ∀ l a, decPc l = some a → l = [.agg a.row] := fun l a h => by
  unfold decPc at h
  split at h
  · rw [pcOf_eq h]
  · cases h
theorem litre_c (p : Pce) (nn : Nm) : CallsA Tryd.prog 103 [.agg p.row] Hp.none nn (Pu (db (litB p)) Hp.none) := by
  obtain ⟨code, h1, h2⟩ := c103_ok
  refine callsA_of (T0_ok _) mixed (N := fun t => (0, t)) Tryd.func103 h1 h2 r103_ok [] false js_nil js_nil' (by simp [Tryd.f103]) ?_
  unfold litB
  cases c1 : decide (0 ≤ p.ba) with
  | false => simp (maxSteps:=500000) only [↓vp, vv, ↓reduceIte, simprocAttr, c103, r103, r103, Pce.row, c1, Pu, Bool.false_and]
  | true =>
  cases c2 : decide (p.ba < 1000) with
  | false => simp (maxSteps:=500000) only [↓vp, vv, ↓reduceIte, simprocAttr, c103, r103, r103, Pce.row, c1, c2, Pu, Bool.false_and, Bool.true_and]
  | true =>
  cases c3 : decide (0 ≤ p.vo) with
  | false => simp (maxSteps:=500000) only [↓vp, vv, ↓reduceIte, simprocAttr, c103, r103, r103, Pce.row, c1, c2, c3, Pu, Bool.false_and, Bool.true_and]
  | true => simp (maxSteps:=500000) only [↓vp, vv, ↓reduceIte, simprocAttr, c103, r103, r103, Pce.row, c1, c2, c3, Pu, Bool.true_and]
def selLi := selX decPc tt fun p => db (litB p)
theorem tc_li {T : Tbl} (hT : TblOk Tryd.prog T) : TblOk Tryd.prog (tc 103 (rowPu selLi) T) := tc_x f103_ok decPc_eq (fun a h nn => litre_c _ nn) hT
def ToF (l : List Pce) (s : Int) (j : Int) : List (Nat × D) := [(3, di s), (6, .sl (l.map Pce.row)), (7, di l.length), (8, di j)]
set_option maxHeartbeats 4000000 in
theorem total_c (l : List Pce) (hl : l.length ≤ 1000000) (nn : Nm) : CallsA Tryd.prog 104 [.sl (l.map Pce.row)] Hp.none nn (Pu (di (volW l 0)) Hp.none) := by
  obtain ⟨code, h1, h2⟩ := c104_ok
  refine callsA_of (T0_ok _) mixed (N := fun t => (0, t)) Tryd.func104 h1 h2 r104_ok [] false js_nil js_nil' (by simp [Tryd.f104]) ?_
  generalize hX : volW l 0 = X
  simp (maxSteps:=500000) only [↓vp, vv, ↓reduceIte, simprocAttr, c104, r104, c104_1, c104_2, c104_3]
  refine rng_loopP l.length (fun j (s : Int) => ⟨fr (ToF l s (j : Nat)), Hp.none⟩) (fun j s => volW (l.drop j) s = X) (u0 := 0) (weak0 (by simp (maxSteps:=500000) only [↓vp, vv, ↓reduceIte, simprocAttr, coverS, ToF]) (by simp (maxSteps:=500000) only [↓vp, vv, ↓reduceIte, simprocAttr, refsF, ToF])) hX (fun j hj s hP => ?_) (fun s hP => ?_)
  · have hj' : (j : Int) < l.length := by omega
    have w1 := idx_next (j := j) (by omega)
    have g1 := pc_get hj
    have nx := hP
    rw [pc_drop hj, volW] at nx
    simp (maxSteps:=500000) only [↓vp, vv, ↓reduceIte, simprocAttr, c104, r104, c104_1, c104_2, c104_3, ToF, hj', hj, g1, Int.toNat_natCast, idx_nn]
    refine rng_nextP hj (IntKind.i64.wrap (s + (pcA l j).vo)) ?_ nx
    exact (weak_eq [] [] (ToF l (IntKind.i64.wrap (s + (pcA l j).vo)) ((j + 1 : Nat) : Int)) (by simp (maxSteps:=500000) only [↓vp, vv, ↓reduceIte, simprocAttr, coverS, ToF, w1]) (by simp (maxSteps:=500000) only [↓vp, vv, ↓reduceIte, simprocAttr, refsF, ToF, w1]) (by simp (maxSteps:=500000) only [↓vp, vv, ↓reduceIte, simprocAttr, ToF, w1]) (by simp) (by simp (maxSteps:=500000) only [↓vp, vv, ↓reduceIte, simprocAttr, ToF, w1]; try rfl))
  · rw [List.drop_of_length_le (Nat.le_refl _), volW] at hP
    simp (maxSteps:=500000) only [↓vp, vv, ↓reduceIte, simprocAttr, c104, r104, c104_1, c104_2, c104_3, r104, Int.lt_irrefl, ToF, hP, Pu]
def decPf : List D → Option (List Pce)
  | [.sl x] => pcsOf x
  | _ => Option.none
theorem decPf_eq : ∀ l a, decPf l = some a → l = [.sl (a.map Pce.row)] := fun l a h => by
  unfold decPf at h
  split at h
  · rw [pcsOf_eq h]
  · cases h
def PfOk (a : List Pce) : Prop := a.length ≤ 1000000
def selTo := selX decPf PfOk fun a => di (volW a 0)
theorem tc_to {T : Tbl} (hT : TblOk Tryd.prog T) : TblOk Tryd.prog (tc 104 (rowPu selTo) T) := tc_x f104_ok decPf_eq (fun a h nn => total_c _ h nn) hT
def VlT : Tbl := tc 103 (rowPu selLi) (tc 104 (rowPu selTo) T0)
theorem VlT_ok : TblOk Tryd.prog VlT := tc_li (tc_to (T0_ok _))
def VlF (l : List Pce) (j : Int) : List (Nat × D) := [(0, .sl (l.map Pce.row)), (8, .sl (l.map Pce.row)), (9, di l.length), (10, di j)]
set_option maxHeartbeats 8000000 in
theorem fvalid_c (l : List Pce) (hl : l.length ≤ 1000000) (nn : Nm) : CallsA Tryd.prog 67 [.sl (l.map Pce.row)] Hp.none nn (Pu (db (flV l)) Hp.none) := by
  obtain ⟨code, h1, h2⟩ := c67_ok
  refine callsA_of VlT_ok mixed (N := fun t => (0, t)) Tryd.func67 h1 h2 r67_ok [] false js_nil js_nil' (by simp [Tryd.f67]) ?_
  cases c0 : decide ((200 : Int) < (l.length : Int)) with
  | true =>
    have e : flV l = false := by unfold flV; rw [if_pos (by have := of_decide_eq_true c0; omega)]
    simp (maxSteps:=500000) only [↓vp, vv, ↓reduceIte, simprocAttr, c67, r67, c67_1, c67_2, c67_3, c67_4, c67_5, r67, VlT, c0, e, Pu]
  | false =>
  have e0 : flV l = if (List.range l.length).any (pcBad l) then false else decide (volW l 0 ≤ 1000000) := by unfold flV; rw [if_neg (by have := of_decide_eq_false c0; omega)]
  generalize hb : (List.range l.length).any (pcBad l) = b at e0
  have hto : PfOk l := hl
  simp (maxSteps:=500000) only [↓vp, vv, ↓reduceIte, simprocAttr, c67, r67, c67_1, c67_2, c67_3, c67_4, c67_5, VlT, c0]
  refine rng_loop l.length (fun j => ⟨fr (VlF l (j : Nat)), Hp.none⟩) (fun j => ((List.range l.length).drop j).any (pcBad l) = b) (weak0 (by simp (maxSteps:=500000) only [↓vp, vv, ↓reduceIte, simprocAttr, coverS, VlF]) (by simp (maxSteps:=500000) only [↓vp, vv, ↓reduceIte, simprocAttr, refsF, VlF])) hb (fun j hj hP => ?_) (fun hP => ?_)
  · have hj' : (j : Int) < l.length := by omega
    have w1 := idx_next (j := j) (by omega)
    have g1 := pc_get hj
    obtain ⟨n1, n2⟩ := bad_step hj hP
    have hb2 : pcBad l j = (!litB (pcA l j) || ((pcA l j).vo == 0 || (decide (0 < j) && ((pcA l (j - 1)).ba == (pcA l j).ba)))) := rfl
    by_cases z : j = 0
    · subst z
      have hj0 : (0 : Int) < l.length := hj'
      have w0 : IntKind.i64.wrap 1 = 1 := by decide
      generalize pcA l 0 = p at g1 hb2
      cases c1 : litB p with
      | false =>
        have := n1 (by rw [hb2, c1]; rfl)
        subst this
        simp (maxSteps:=500000) only [↓vp, vv, ↓reduceIte, simprocAttr, c67, r67, c67_1, c67_2, c67_3, c67_4, c67_5, r67, VlT, selLi, selX, decPc, tt, pcOf_x, VlF, hj0, hj, g1, Int.toNat_natCast, idx_nn, c1, e0, Pu]
      | true =>
      cases c2 : (p.vo == 0) with
      | true =>
        have := n1 (by rw [hb2, c1, c2]; rfl)
        subst this
        simp (maxSteps:=500000) only [↓vp, vv, ↓reduceIte, simprocAttr, c67, r67, c67_1, c67_2, c67_3, c67_4, c67_5, r67, VlT, selLi, selX, decPc, tt, pcOf_x, VlF, hj0, hj, g1, Int.toNat_natCast, idx_nn, c1, c2, e0, Pu]
      | false =>
        have nx := n2 (by rw [hb2, c1, c2]; rfl)
        simp (maxSteps:=500000) only [↓vp, vv, ↓reduceIte, simprocAttr, c67, r67, c67_1, c67_2, c67_3, c67_4, c67_5, r67, VlT, selLi, selX, decPc, tt, pcOf_x, VlF, hj0, hj, g1, Int.toNat_natCast, idx_nn, c1, c2]
        refine rng_next hj ?_ nx
        exact (weak_eq [] [] (VlF l ((0 + 1 : Nat) : Int)) (by simp (maxSteps:=500000) only [↓vp, vv, ↓reduceIte, simprocAttr, coverS, VlF, w1, w0]) (by simp (maxSteps:=500000) only [↓vp, vv, ↓reduceIte, simprocAttr, refsF, VlF, w1, w0]) (by simp (maxSteps:=500000) only [↓vp, vv, ↓reduceIte, simprocAttr, VlF, w1, w0]) (by simp) (by simp (maxSteps:=500000) only [↓vp, vv, ↓reduceIte, simprocAttr, VlF, w1, w0]; try rfl))
    · have z1 : decide ((0 : Int) < (j : Int)) = true := decide_eq_true (by omega)
      have z2 : decide (0 < j) = true := decide_eq_true (by omega)
      have w2 : IntKind.i64.wrap ((j : Int) - 1) = ((j - 1 : Nat) : Int) := by rw [wrap_i (by omega)]; omega
      have hp : j - 1 < l.length := by omega
      have hp' : ((j - 1 : Nat) : Int) < l.length := by omega
      have g2 := pc_get hp
      rw [z2] at hb2
      generalize pcA l j = p at g1 hb2
      generalize pcA l (j - 1) = q at g2 hb2
      cases c1 : litB p with
      | false =>
        have := n1 (by rw [hb2, c1]; rfl)
        subst this
        simp (maxSteps:=500000) only [↓vp, vv, ↓reduceIte, simprocAttr, c67, r67, c67_1, c67_2, c67_3, c67_4, c67_5, r67, VlT, selLi, selX, decPc, tt, pcOf_x, VlF, hj', hj, g1, Int.toNat_natCast, idx_nn, c1, e0, Pu]
      | true =>
      cases c2 : (p.vo == 0) with
      | true =>
        have := n1 (by rw [hb2, c1, c2]; rfl)
        subst this
        simp (maxSteps:=500000) only [↓vp, vv, ↓reduceIte, simprocAttr, c67, r67, c67_1, c67_2, c67_3, c67_4, c67_5, r67, VlT, selLi, selX, decPc, tt, pcOf_x, VlF, hj', hj, g1, Int.toNat_natCast, idx_nn, c1, c2, e0, Pu]
      | false =>
      cases c3 : (q.ba == p.ba) with
      | true =>
        have := n1 (by rw [hb2, c1, c2, c3]; rfl)
        subst this
        simp (maxSteps:=500000) only [↓vp, vv, ↓reduceIte, simprocAttr, c67, r67, c67_1, c67_2, c67_3, c67_4, c67_5, r67, VlT, selLi, selX, decPc, tt, pcOf_x, VlF, hj', hj, hp, hp', g1, g2, z1, w2, Int.toNat_natCast, idx_nn, c1, c2, c3, e0, Pu]
      | false =>
        have nx := n2 (by rw [hb2, c1, c2, c3]; rfl)
        simp (maxSteps:=500000) only [↓vp, vv, ↓reduceIte, simprocAttr, c67, r67, c67_1, c67_2, c67_3, c67_4, c67_5, r67, VlT, selLi, selX, decPc, tt, pcOf_x, VlF, hj', hj, hp, hp', g1, g2, z1, w2, Int.toNat_natCast, idx_nn, c1, c2, c3]
        refine rng_next hj ?_ nx
        exact (weak_eq [] [] (VlF l ((j + 1 : Nat) : Int)) (by simp (maxSteps:=500000) only [↓vp, vv, ↓reduceIte, simprocAttr, coverS, VlF, w1]) (by simp (maxSteps:=500000) only [↓vp, vv, ↓reduceIte, simprocAttr, refsF, VlF, w1]) (by simp (maxSteps:=500000) only [↓vp, vv, ↓reduceIte, simprocAttr, VlF, w1]) (by simp) (by simp (maxSteps:=500000) only [↓vp, vv, ↓reduceIte, simprocAttr, VlF, w1]; try rfl))
  · have : b = false := drop_any_end (by simp) hP
    subst this
    simp (maxSteps:=500000) only [↓vp, vv, ↓reduceIte, simprocAttr, c67, r67, c67_1, c67_2, c67_3, c67_4, c67_5, r67, VlT, selTo, selX, decPf, pcsOf_map, hto, VlF, Int.lt_irrefl, e0, Pu]
def selFv := selX decPf PfOk fun a => db (flV a)
theorem tc_fv {T : Tbl} (hT : TblOk Tryd.prog T) : TblOk Tryd.prog (tc 67 (rowPu selFv) T) := tc_x f67_ok decPf_eq (fun a h nn => fvalid_c _ h nn) hT
def prB2 (n : Int) : Bool := decide (0 ≤ n) && decide (n < 1000)
theorem rfproper_c (n : Int) (nn : Nm) : CallsA Tryd.prog 107 [di n] Hp.none nn (Pu (db (prB2 n)) Hp.none) := by
  obtain ⟨code, h1, h2⟩ := c107_ok
  refine callsA_of (T0_ok _) mixed (N := fun t => (0, t)) Tryd.func107 h1 h2 r107_ok [] false js_nil js_nil' (by simp [Tryd.f107]) ?_
  unfold prB2
  cases c1 : decide (0 ≤ n) with
  | false => simp (maxSteps:=500000) only [↓vp, vv, ↓reduceIte, simprocAttr, c107, r107, r107, c1, Pu, Bool.false_and]
  | true => simp (maxSteps:=500000) only [↓vp, vv, ↓reduceIte, simprocAttr, c107, r107, r107, c1, Pu, Bool.true_and]
def decI0 : List D → Option Int
  | [.v (.int .i64 n)] => some n
  | _ => Option.none
theorem decI0_eq : ∀ l a, decI0 l = some a → l = [di a] := fun l a h => by unfold decI0 at h; split at h <;> cases h; rfl
def selPr2 := selX decI0 tt fun n => db (prB2 n)
theorem tc_pr2 {T : Tbl} (hT : TblOk Tryd.prog T) : TblOk Tryd.prog (tc 107 (rowPu selPr2) T) := tc_x f107_ok decI0_eq (fun a h nn => rfproper_c _ nn) hT
theorem bad_eq (l : List Pce) (j : Nat) (p q : Pce) (hp : pcA l j = p) (hq : pcA l (j - 1) = q) : pcBad l j = (!prB2 p.ba || (decide (p.vo < 1) || (decide (1000000 < p.vo) || (decide (0 < j) && (p.ba == q.ba))))) := by
  unfold pcBad litB prB2
  rw [hp, hq, show (q.ba == p.ba) = (p.ba == q.ba) from by rw [Bool.eq_iff_iff, beq_iff_eq, beq_iff_eq]; exact eq_comm]
  rw [Bool.eq_iff_iff]
  simp only [Bool.or_eq_true, Bool.not_eq_true', Bool.and_eq_true, Bool.and_eq_false_iff, decide_eq_true_eq, decide_eq_false_iff_not, beq_iff_eq]
  omega
def RvT : Tbl := tc 107 (rowPu selPr2) T0
theorem RvT_ok : TblOk Tryd.prog RvT := tc_pr2 (T0_ok _)
def RvF (l : List Pce) (s : Int) (j : Int) : List (Nat × D) := [(0, .sl (l.map Pce.row)), (3, di s), (9, .sl (l.map Pce.row)), (10, di l.length), (11, di j)]
set_option maxHeartbeats 8000000 in
theorem rfvalid_c (l : List Pce) (hl : l.length ≤ 1000000) (nn : Nm) : CallsA Tryd.prog 70 [.sl (l.map Pce.row)] Hp.none nn (Pu (db (flV l)) Hp.none) := by
  obtain ⟨code, h1, h2⟩ := c70_ok
  refine callsA_of RvT_ok mixed (N := fun t => (0, t)) Tryd.func70 h1 h2 r70_ok [] false js_nil js_nil' (by simp [Tryd.f70]) ?_
  cases c0 : decide ((200 : Int) < (l.length : Int)) with
  | true =>
    have e : flV l = false := by unfold flV; rw [if_pos (by have := of_decide_eq_true c0; omega)]
    simp (maxSteps:=500000) only [↓vp, vv, ↓reduceIte, simprocAttr, c70, r70, c70_1, c70_2, c70_3, c70_4, c70_5, c70_6, r70, RvT, c0, e, Pu]
  | false =>
  have e0 : flV l = if (List.range l.length).any (pcBad l) then false else decide (volW l 0 ≤ 1000000) := by unfold flV; rw [if_neg (by have := of_decide_eq_false c0; omega)]
  generalize hb : (List.range l.length).any (pcBad l) = b at e0
  generalize hX : volW l 0 = X at e0
  simp (maxSteps:=500000) only [↓vp, vv, ↓reduceIte, simprocAttr, c70, r70, c70_1, c70_2, c70_3, c70_4, c70_5, c70_6, RvT, c0]
  refine rng_loopP l.length (fun j (s : Int) => ⟨fr (RvF l s (j : Nat)), Hp.none⟩) (fun j s => ((List.range l.length).drop j).any (pcBad l) = b ∧ volW (l.drop j) s = X) (u0 := 0) (weak0 (by simp (maxSteps:=500000) only [↓vp, vv, ↓reduceIte, simprocAttr, coverS, RvF]) (by simp (maxSteps:=500000) only [↓vp, vv, ↓reduceIte, simprocAttr, refsF, RvF])) ⟨hb, hX⟩ (fun j hj s hP => ?_) (fun s hP => ?_)
  · obtain ⟨hP, hV⟩ := hP
    have hj' : (j : Int) < l.length := by omega
    have w1 := idx_next (j := j) (by omega)
    have g1 := pc_get hj
    obtain ⟨n1, n2⟩ := bad_step hj hP
    rw [pc_drop hj, volW] at hV
    have hb2 := bad_eq l j _ _ rfl rfl
    have nx := fun h => (⟨n2 h, hV⟩ : _ ∧ _)
    by_cases z : j = 0
    · subst z
      have hj0 : (0 : Int) < l.length := hj'
      have w0 : IntKind.i64.wrap 1 = 1 := by decide
      generalize pcA l 0 = p at g1 hb2 hV nx
      cases c1 : prB2 p.ba with
      | false =>
        have := n1 (by rw [hb2, c1]; rfl)
        subst this
        simp (maxSteps:=500000) only [↓vp, vv, ↓reduceIte, simprocAttr, c70, r70, c70_1, c70_2, c70_3, c70_4, c70_5, c70_6, r70, RvT, selPr2, selX, decI0, tt, RvF, hj0, hj, g1, Int.toNat_natCast, idx_nn, c1, e0, Pu]
      | true =>
      cases c2 : decide (p.vo < 1) with
      | true =>
        have := n1 (by rw [hb2, c1, c2]; rfl)
        subst this
        simp (maxSteps:=500000) only [↓vp, vv, ↓reduceIte, simprocAttr, c70, r70, c70_1, c70_2, c70_3, c70_4, c70_5, c70_6, r70, RvT, selPr2, selX, decI0, tt, RvF, hj0, hj, g1, Int.toNat_natCast, idx_nn, c1, c2, e0, Pu]
      | false =>
      cases c3 : decide (1000000 < p.vo) with
      | true =>
        have := n1 (by rw [hb2, c1, c2, c3]; rfl)
        subst this
        simp (maxSteps:=500000) only [↓vp, vv, ↓reduceIte, simprocAttr, c70, r70, c70_1, c70_2, c70_3, c70_4, c70_5, c70_6, r70, RvT, selPr2, selX, decI0, tt, RvF, hj0, hj, g1, Int.toNat_natCast, idx_nn, c1, c2, c3, e0, Pu]
      | false =>
        have nx := nx (by rw [hb2, c1, c2, c3]; rfl)
        simp (maxSteps:=500000) only [↓vp, vv, ↓reduceIte, simprocAttr, c70, r70, c70_1, c70_2, c70_3, c70_4, c70_5, c70_6, r70, RvT, selPr2, selX, decI0, tt, RvF, hj0, hj, g1, Int.toNat_natCast, idx_nn, c1, c2, c3]
        refine rng_nextP hj (IntKind.i64.wrap (s + p.vo)) ?_ nx
        exact (weak_eq [] [] (RvF l (IntKind.i64.wrap (s + p.vo)) ((0 + 1 : Nat) : Int)) (by simp (maxSteps:=500000) only [↓vp, vv, ↓reduceIte, simprocAttr, coverS, RvF, w1, w0]) (by simp (maxSteps:=500000) only [↓vp, vv, ↓reduceIte, simprocAttr, refsF, RvF, w1, w0]) (by simp (maxSteps:=500000) only [↓vp, vv, ↓reduceIte, simprocAttr, RvF, w1, w0]) (by simp) (by simp (maxSteps:=500000) only [↓vp, vv, ↓reduceIte, simprocAttr, RvF, w1, w0]; try rfl))
    · have z1 : decide ((0 : Int) < (j : Int)) = true := decide_eq_true (by omega)
      have z2 : decide (0 < j) = true := decide_eq_true (by omega)
      have w2 : IntKind.i64.wrap ((j : Int) - 1) = ((j - 1 : Nat) : Int) := by rw [wrap_i (by omega)]; omega
      have hp : j - 1 < l.length := by omega
      have hp' : ((j - 1 : Nat) : Int) < l.length := by omega
      have g2 := pc_get hp
      rw [z2] at hb2
      generalize pcA l j = p at g1 hb2 hV nx
      generalize pcA l (j - 1) = q at g2 hb2
      cases c1 : prB2 p.ba with
      | false =>
        have := n1 (by rw [hb2, c1]; rfl)
        subst this
        simp (maxSteps:=500000) only [↓vp, vv, ↓reduceIte, simprocAttr, c70, r70, c70_1, c70_2, c70_3, c70_4, c70_5, c70_6, r70, RvT, selPr2, selX, decI0, tt, RvF, hj', hj, g1, Int.toNat_natCast, idx_nn, c1, e0, Pu]
      | true =>
      cases c2 : decide (p.vo < 1) with
      | true =>
        have := n1 (by rw [hb2, c1, c2]; rfl)
        subst this
        simp (maxSteps:=500000) only [↓vp, vv, ↓reduceIte, simprocAttr, c70, r70, c70_1, c70_2, c70_3, c70_4, c70_5, c70_6, r70, RvT, selPr2, selX, decI0, tt, RvF, hj', hj, g1, Int.toNat_natCast, idx_nn, c1, c2, e0, Pu]
      | false =>
      cases c3 : decide (1000000 < p.vo) with
      | true =>
        have := n1 (by rw [hb2, c1, c2, c3]; rfl)
        subst this
        simp (maxSteps:=500000) only [↓vp, vv, ↓reduceIte, simprocAttr, c70, r70, c70_1, c70_2, c70_3, c70_4, c70_5, c70_6, r70, RvT, selPr2, selX, decI0, tt, RvF, hj', hj, g1, Int.toNat_natCast, idx_nn, c1, c2, c3, e0, Pu]
      | false =>
      cases c4 : (p.ba == q.ba) with
      | true =>
        have := n1 (by rw [hb2, c1, c2, c3, c4]; rfl)
        subst this
        simp (maxSteps:=500000) only [↓vp, vv, ↓reduceIte, simprocAttr, c70, r70, c70_1, c70_2, c70_3, c70_4, c70_5, c70_6, r70, RvT, selPr2, selX, decI0, tt, RvF, hj', hj, hp, hp', g1, g2, z1, w2, Int.toNat_natCast, idx_nn, c1, c2, c3, c4, e0, Pu]
      | false =>
        have nx := nx (by rw [hb2, c1, c2, c3, c4]; rfl)
        simp (maxSteps:=500000) only [↓vp, vv, ↓reduceIte, simprocAttr, c70, r70, c70_1, c70_2, c70_3, c70_4, c70_5, c70_6, r70, RvT, selPr2, selX, decI0, tt, RvF, hj', hj, hp, hp', g1, g2, z1, w2, Int.toNat_natCast, idx_nn, c1, c2, c3, c4]
        refine rng_nextP hj (IntKind.i64.wrap (s + p.vo)) ?_ nx
        exact (weak_eq [] [] (RvF l (IntKind.i64.wrap (s + p.vo)) ((j + 1 : Nat) : Int)) (by simp (maxSteps:=500000) only [↓vp, vv, ↓reduceIte, simprocAttr, coverS, RvF, w1]) (by simp (maxSteps:=500000) only [↓vp, vv, ↓reduceIte, simprocAttr, refsF, RvF, w1]) (by simp (maxSteps:=500000) only [↓vp, vv, ↓reduceIte, simprocAttr, RvF, w1]) (by simp) (by simp (maxSteps:=500000) only [↓vp, vv, ↓reduceIte, simprocAttr, RvF, w1]; try rfl))
  · obtain ⟨hP, hV⟩ := hP
    have : b = false := drop_any_end (by simp) hP
    subst this
    rw [List.drop_of_length_le (Nat.le_refl _), volW] at hV
    simp (maxSteps:=500000) only [↓vp, vv, ↓reduceIte, simprocAttr, c70, r70, c70_1, c70_2, c70_3, c70_4, c70_5, c70_6, r70, RvT, RvF, Int.lt_irrefl, hV, e0, Pu]
theorem tc_rfv {T : Tbl} (hT : TblOk Tryd.prog T) : TblOk Tryd.prog (tc 70 (rowPu selFv) T) := tc_x f70_ok decPf_eq (fun a h nn => rfvalid_c _ h nn) hT
def SuF2 (l : List Pce) (s : Int) (j : Int) : List (Nat × D) := [(0, .sl (l.map Pce.row)), (3, di s), (6, di l.length), (7, di j)]
set_option maxHeartbeats 4000000 in
theorem rsum_c (l : List Pce) (hl : l.length ≤ 1000000) (nn : Nm) : CallsA Tryd.prog 71 [.sl (l.map Pce.row)] Hp.none nn (Pu (di (volW l 0)) Hp.none) := by
  obtain ⟨code, h1, h2⟩ := c71_ok
  refine callsA_of (T0_ok _) mixed (N := fun t => (0, t)) Tryd.func71 h1 h2 r71_ok [] false js_nil js_nil' (by simp [Tryd.f71]) ?_
  generalize hX : volW l 0 = X
  simp (maxSteps:=500000) only [↓vp, vv, ↓reduceIte, simprocAttr, c71, r71, c71_1, c71_2, c71_3]
  refine rng_loopP l.length (fun j (s : Int) => ⟨fr (SuF2 l s (j : Nat)), Hp.none⟩) (fun j s => volW (l.drop j) s = X) (u0 := 0) (weak0 (by simp (maxSteps:=500000) only [↓vp, vv, ↓reduceIte, simprocAttr, coverS, SuF2]) (by simp (maxSteps:=500000) only [↓vp, vv, ↓reduceIte, simprocAttr, refsF, SuF2])) hX (fun j hj s hP => ?_) (fun s hP => ?_)
  · have hj' : (j : Int) < l.length := by omega
    have w1 := idx_next (j := j) (by omega)
    have g1 := pc_get hj
    have nx := hP
    rw [pc_drop hj, volW] at nx
    simp (maxSteps:=500000) only [↓vp, vv, ↓reduceIte, simprocAttr, c71, r71, c71_1, c71_2, c71_3, SuF2, hj', hj, g1, Int.toNat_natCast, idx_nn]
    refine rng_nextP hj (IntKind.i64.wrap (s + (pcA l j).vo)) ?_ nx
    exact (weak_eq [] [] (SuF2 l (IntKind.i64.wrap (s + (pcA l j).vo)) ((j + 1 : Nat) : Int)) (by simp (maxSteps:=500000) only [↓vp, vv, ↓reduceIte, simprocAttr, coverS, SuF2, w1]) (by simp (maxSteps:=500000) only [↓vp, vv, ↓reduceIte, simprocAttr, refsF, SuF2, w1]) (by simp (maxSteps:=500000) only [↓vp, vv, ↓reduceIte, simprocAttr, SuF2, w1]) (by simp) (by simp (maxSteps:=500000) only [↓vp, vv, ↓reduceIte, simprocAttr, SuF2, w1]; try rfl))
  · rw [List.drop_of_length_le (Nat.le_refl _), volW] at hP
    simp (maxSteps:=500000) only [↓vp, vv, ↓reduceIte, simprocAttr, c71, r71, c71_1, c71_2, c71_3, r71, Int.lt_irrefl, SuF2, hP, Pu]
theorem tc_rsu {T : Tbl} (hT : TblOk Tryd.prog T) : TblOk Tryd.prog (tc 71 (rowPu selTo) T) := tc_x f71_ok decPf_eq (fun a h nn => rsum_c _ h nn) hT
def VoT : Tbl := tc 70 (rowPu selFv) (tc 71 (rowPu selTo) T0)
theorem VoT_ok : TblOk Tryd.prog VoT := tc_rfv (tc_rsu (T0_ok _))
theorem rvol_c (l : List Pce) (hl : l.length ≤ 1000000) (nn : Nm) : CallsA Tryd.prog 36 [.sl (l.map Pce.row)] Hp.none nn (Pu (di (if flV l = true then volW l 0 else 0)) Hp.none) := by
  obtain ⟨code, h1, h2⟩ := c36_ok
  refine callsA_of VoT_ok mixed (N := fun t => (0, t)) Tryd.func36 h1 h2 r36_ok [] false js_nil js_nil' (by simp [Tryd.f36]) ?_
  have hto : PfOk l := hl
  cases c : flV l with
  | true => simp (maxSteps:=500000) only [↓vp, vv, ↓reduceIte, simprocAttr, c36, r36, c36_1, r36, VoT, selFv, selTo, selX, decPf, pcsOf_map, hto, c, Pu]
  | false => simp (maxSteps:=500000) only [↓vp, vv, ↓reduceIte, simprocAttr, c36, r36, c36_1, r36, VoT, selFv, selTo, selX, decPf, pcsOf_map, hto, c, Pu]
def selVo := selX decPf PfOk fun l => di (if flV l = true then volW l 0 else 0)
theorem tc_rvo {T : Tbl} (hT : TblOk Tryd.prog T) : TblOk Tryd.prog (tc 36 (rowPu selVo) T) := tc_x f36_ok decPf_eq (fun a h nn => rvol_c _ h nn) hT
structure Bat where
  pr : Int
  sh : ByteArray
  fr : Int
  to : Int
def Bat.row (b : Bat) : List D := [di b.pr, ds b.sh, di b.fr, di b.to]
def btA (l : List Bat) (j : Nat) : Bat := l.getD j ⟨0, ⟨#[]⟩, 0, 0⟩
theorem bt_get {l : List Bat} {j : Nat} (h : j < l.length) : (l.map Bat.row).getD j [] = [di (btA l j).pr, ds (btA l j).sh, di (btA l j).fr, di (btA l j).to] := by
  unfold btA
  rw [List.getD_eq_getElem?_getD, List.getElem?_map, List.getD_eq_getElem?_getD, List.getElem?_eq_getElem h]
  rfl
def btOf : List D → Option Bat
  | [.v (.int .i64 a), .v (.string s), .v (.int .i64 b), .v (.int .i64 c)] => some ⟨a, s, b, c⟩
  | _ => Option.none
theorem btOf_eq {l : List D} {m : Bat} (h : btOf l = some m) : l = m.row := by unfold btOf at h; split at h <;> cases h; rfl
def btsOf : List (List D) → Option (List Bat)
  | [] => some []
  | r :: l => match btOf r, btsOf l with
    | some c, some cs => some (c :: cs)
    | _, _ => Option.none
theorem btsOf_map (l : List Bat) : btsOf (l.map Bat.row) = some l := by
  induction l with
  | nil => rfl
  | cons c l ih => rw [List.map_cons, btsOf, ih]; rfl
theorem btsOf_eq : ∀ {l : List (List D)} {cs : List Bat}, btsOf l = some cs → l = cs.map Bat.row
  | [], cs, h => by cases h; rfl
  | r :: l, cs, h => by
    rw [btsOf] at h
    split at h
    · rename_i e e'; cases h; rw [List.map_cons, btOf_eq e, btsOf_eq e']
    · cases h
def unkB (ps : List Prd) (bs : List Bat) (p : Pce) : Bool := decide ((bs.length : Int) ≤ p.ba) || (decide ((btA bs p.ba.toNat).pr < 0) || decide ((ps.length : Int) ≤ (btA bs p.ba.toNat).pr))
def segV (ps : List Prd) (bs : List Bat) (c : Cnd) (p : Pce) : Int × Int :=
  if (facI (pdA ps (btA bs p.ba.toNat).pr.toNat) c).2 = 0 then stdI p.vo (facI (pdA ps (btA bs p.ba.toNat).pr.toNat) c).1 else (0, (facI (pdA ps (btA bs p.ba.toNat).pr.toNat) c).2)
def segGo (ps : List Prd) (bs : List Bat) (c : Cnd) : List Pce → Int → Int × Int
  | [], s => (s, 0)
  | p :: l, s => if (segV ps bs c p).2 = 0 then segGo ps bs c l (IntKind.i64.wrap (s + (segV ps bs c p).1)) else (0, (segV ps bs c p).2)
def segI (ps : List Prd) (bs : List Bat) (f : List Pce) (c : Cnd) : Int × Int :=
  if pckI ps = 0 then (if flV f then (if f.any (unkB ps bs) then (0, 8) else segGo ps bs c f 0) else (0, 14)) else (0, pckI ps)
theorem sumW_app (x : Int) : ∀ (l : List Int) (s : Int), sumW (l ++ [x]) s = IntKind.i64.wrap (sumW l s + x)
  | [], s => rfl
  | y :: l, s => by rw [List.cons_append, sumW, sumW, sumW_app x l]
theorem flV_o {f : List Pce} (h : flV f = true) : f.length ≤ 200 ∧ ∀ j, j < f.length → pcBad f j = false := by
  unfold flV at h
  split at h
  · cases h
  · split at h
    · cases h
    · rename_i h1 h2
      refine ⟨by omega, fun j hj => ?_⟩
      have := List.any_eq_false.1 (by simpa using h2) j (List.mem_range.2 hj)
      simpa using this
theorem pcBad_o {f : List Pce} {j : Nat} (h : pcBad f j = false) : (0 ≤ (pcA f j).ba ∧ (pcA f j).ba < 1000) ∧ (1 ≤ (pcA f j).vo ∧ (pcA f j).vo ≤ 1000000) := by
  unfold pcBad litB at h
  simp only [Bool.or_eq_false_iff, Bool.not_eq_false', Bool.and_eq_true, decide_eq_true_eq, beq_eq_false_iff_ne] at h
  omega
theorem any_drop {q : Pce → Bool} {l : List Pce} {j : Nat} (h : j < l.length) {b : Bool} (he : (l.drop j).any q = b) : (q (pcA l j) = true → b = true) ∧ (q (pcA l j) = false → (l.drop (j + 1)).any q = b) := by
  have := drop_any h he
  rw [pc_at h] at this
  exact this
structure SgPre (ps : List Prd) (bs : List Bat) (f : List Pce) : Prop where
  ps : ps.length ≤ 1000000
  bs : bs.length ≤ 1000000
  f : f.length ≤ 1000000
def SgT : Tbl := tc 66 (rowPu selPk) (tc 67 (rowPu selFv) (tc 57 (rowPu selFa) (tc 58 (rowPu selSd) (tc 68 (rowPu selSu) T0))))
theorem SgT_ok : TblOk Tryd.prog SgT := tc_pck (tc_fv (tc_fa (tc_sd (tc_su (T0_ok _)))))
def SgH (c : Cnd) : Hp := Hp.none.put (0, 7) ⟨0, 2, [c.row]⟩
def SgB (ps : List Prd) (bs : List Bat) (e : List (Nat × D)) : List (Nat × D) := (0, .sl (ps.map Prd.row)) :: (1, .sl (bs.map Bat.row)) :: (7, .ptr (0, 7) 0 0 0) :: e
def SgF1 (ps : List Prd) (bs : List Bat) (f : List Pce) (j : Int) : List (Nat × D) := SgB ps bs [(2, .sl (f.map Pce.row)), (27, .sl (f.map Pce.row)), (28, di f.length), (29, di j)]
def SgF2 (ps : List Prd) (bs : List Bat) (f : List Pce) (out : List Int) (g : Nat) (j : Int) : List (Nat × D) := SgB ps bs [(13, .own (0, 1000) g 0 out.length), (59, .sl (f.map Pce.row)), (60, di f.length), (61, di j)]
def SgH2 (c : Cnd) (out : List Int) (g : Nat) : Hp := (SgH c).put (0, 1000) ⟨g, 1, out.map iR⟩
set_option maxHeartbeats 16000000 in
theorem pseg_c (ps : List Prd) (bs : List Bat) (f : List Pce) (c : Cnd) (h : SgPre ps bs f) (nn : Nm) : CallsA Tryd.prog 34 [.sl (ps.map Prd.row), .sl (bs.map Bat.row), .sl (f.map Pce.row), c.enc] Hp.none nn (Pu (ie (segI ps bs f c)) Hp.none) := by
  obtain ⟨code, h1, h2⟩ := c34_ok
  refine callsA_of SgT_ok mixed (N := fun t => (0, t)) Tryd.func34 h1 h2 r34_ok [] false js_nil js_nil' (by simp [Tryd.f34]) ?_
  have b1 : PsOk ps := h.ps
  have b2 : PfOk f := h.f
  have b3 := h.bs
  have b4 := h.f
  have b5 := h.ps
  cases a0 : (pckI ps != 0) with
  | true =>
    have e : segI ps bs f c = (0, pckI ps) := by unfold segI; rw [if_neg (neq_b a0)]
    simp (maxSteps:=500000) only [↓vp, vv, ↓reduceIte, simprocAttr, c34, r34, c34_1, c34_10, c34_11, c34_12, c34_2, c34_3, c34_4, c34_5, c34_6, c34_7, c34_8, c34_9, r34, SgT, selPk, selX, decPs, prdsOf_map, b1, a0, e, ie, Cnd.enc, Cnd.row, Pu]
  | false =>
  have k0 := eq_b a0
  cases a1 : flV f with
  | false =>
    have e : segI ps bs f c = (0, 14) := by unfold segI; rw [if_pos k0, a1]; rfl
    simp (maxSteps:=500000) only [↓vp, vv, ↓reduceIte, simprocAttr, c34, r34, c34_1, c34_10, c34_11, c34_12, c34_2, c34_3, c34_4, c34_5, c34_6, c34_7, c34_8, c34_9, r34, SgT, selPk, selFv, selX, decPs, decPf, prdsOf_map, pcsOf_map, b1, b2, k0, a1, e, ie, Cnd.enc, Cnd.row, Pu]
  | true =>
  have e0 : segI ps bs f c = if f.any (unkB ps bs) then (0, 8) else segGo ps bs c f 0 := by unfold segI; rw [if_pos k0, a1, if_pos rfl]
  have hf := flV_o a1
  generalize hb : f.any (unkB ps bs) = b at e0
  generalize hX : segGo ps bs c f 0 = X at e0
  simp (maxSteps:=500000) only [↓vp, vv, ↓reduceIte, simprocAttr, c34, r34, c34_1, c34_10, c34_11, c34_12, c34_2, c34_3, c34_4, c34_5, c34_6, c34_7, c34_8, c34_9, SgT, selPk, selFv, selX, decPs, decPf, prdsOf_map, pcsOf_map, b1, b2, k0, a1, Cnd.enc, Cnd.row]
  refine rng_loop f.length (fun j => ⟨fr (SgF1 ps bs f (j : Nat)), SgH c⟩) (fun j => (f.drop j).any (unkB ps bs) = b) (weak_eq [] [(0, 7)] (SgF1 ps bs f 0) (by simp (maxSteps:=500000) only [↓vp, vv, ↓reduceIte, simprocAttr, coverS, SgF1, SgB, SgH, Cnd.row]) (by simp (maxSteps:=500000) only [↓vp, vv, ↓reduceIte, simprocAttr, refsF, SgF1, SgB, SgH, Cnd.row]) (by simp (maxSteps:=500000) only [↓vp, vv, ↓reduceIte, simprocAttr, SgF1, SgB, SgH, Cnd.row]) (by simp) (by simp (maxSteps:=500000) only [↓vp, vv, ↓reduceIte, simprocAttr, SgF1, SgB, SgH, Cnd.row]; try rfl)) hb (fun j hj hP => ?_) (fun hP => ?_)
  · have hj' : (j : Int) < f.length := by omega
    have w1 := idx_next (j := j) (by omega)
    have g1 := pc_get hj
    obtain ⟨n1, n2⟩ := any_drop hj hP
    obtain ⟨⟨p0, p1⟩, _⟩ := pcBad_o (hf.2 j hj)
    have hu : unkB ps bs (pcA f j) = (decide ((bs.length : Int) ≤ (pcA f j).ba) || (decide ((btA bs (pcA f j).ba.toNat).pr < 0) || decide ((ps.length : Int) ≤ (btA bs (pcA f j).ba.toNat).pr))) := rfl
    generalize pcA f j = p at g1 n1 n2 p0 p1 hu
    cases c1 : decide ((bs.length : Int) ≤ p.ba) with
    | true =>
      have := n1 (by rw [hu, c1]; rfl)
      subst this
      simp (maxSteps:=500000) only [↓vp, vv, ↓reduceIte, simprocAttr, c34, r34, c34_1, c34_10, c34_11, c34_12, c34_2, c34_3, c34_4, c34_5, c34_6, c34_7, c34_8, c34_9, r34, SgT, SgF1, SgB, SgH, Cnd.row, hj', hj, g1, Int.toNat_natCast, idx_nn, c1, e0, ie, Pu]
    | false =>
    have q1 : p.ba < (bs.length : Int) := by have := of_decide_eq_false c1; omega
    have q2 : p.ba.toNat < bs.length := by omega
    have g2 := bt_get q2
    generalize btA bs p.ba.toNat = t at g2 hu
    cases c2 : decide (t.pr < 0) with
    | true =>
      have := n1 (by rw [hu, c1, c2]; rfl)
      subst this
      simp (maxSteps:=500000) only [↓vp, vv, ↓reduceIte, simprocAttr, c34, r34, c34_1, c34_10, c34_11, c34_12, c34_2, c34_3, c34_4, c34_5, c34_6, c34_7, c34_8, c34_9, r34, SgT, SgF1, SgB, SgH, Cnd.row, hj', hj, g1, g2, p0, q1, q2, Int.toNat_natCast, idx_nn, c1, c2, e0, ie, Pu]
    | false =>
    cases c3 : decide ((ps.length : Int) ≤ t.pr) with
    | true =>
      have := n1 (by rw [hu, c1, c2, c3]; rfl)
      subst this
      simp (maxSteps:=500000) only [↓vp, vv, ↓reduceIte, simprocAttr, c34, r34, c34_1, c34_10, c34_11, c34_12, c34_2, c34_3, c34_4, c34_5, c34_6, c34_7, c34_8, c34_9, r34, SgT, SgF1, SgB, SgH, Cnd.row, hj', hj, g1, g2, p0, q1, q2, Int.toNat_natCast, idx_nn, c1, c2, c3, e0, ie, Pu]
    | false =>
      have nx := n2 (by rw [hu, c1, c2, c3]; rfl)
      simp (maxSteps:=500000) only [↓vp, vv, ↓reduceIte, simprocAttr, c34, r34, c34_1, c34_10, c34_11, c34_12, c34_2, c34_3, c34_4, c34_5, c34_6, c34_7, c34_8, c34_9, r34, SgT, SgF1, SgB, SgH, Cnd.row, hj', hj, g1, g2, p0, q1, q2, Int.toNat_natCast, idx_nn, c1, c2, c3]
      refine rng_next hj ?_ nx
      exact (weak_eq [] [(0, 7)] (SgF1 ps bs f ((j + 1 : Nat) : Int)) (by simp (maxSteps:=500000) only [↓vp, vv, ↓reduceIte, simprocAttr, coverS, SgF1, SgB, SgH, Cnd.row, w1]) (by simp (maxSteps:=500000) only [↓vp, vv, ↓reduceIte, simprocAttr, refsF, SgF1, SgB, SgH, Cnd.row, w1]) (by simp (maxSteps:=500000) only [↓vp, vv, ↓reduceIte, simprocAttr, SgF1, SgB, SgH, Cnd.row, w1]) (by simp) (by simp (maxSteps:=500000) only [↓vp, vv, ↓reduceIte, simprocAttr, SgF1, SgB, SgH, Cnd.row, w1]; try rfl))
  · rw [List.drop_of_length_le (Nat.le_refl _)] at hP
    have : b = false := hP.symm
    subst this
    have hin : ∀ j, j < f.length → unkB ps bs (pcA f j) = false := fun j hj => by
      have := List.any_eq_false.1 hb (pcA f j) (by rw [← pc_at hj]; exact List.getElem_mem hj)
      simpa using this
    simp (maxSteps:=500000) only [↓vp, vv, ↓reduceIte, simprocAttr, c34, r34, c34_1, c34_10, c34_11, c34_12, c34_2, c34_3, c34_4, c34_5, c34_6, c34_7, c34_8, c34_9, SgT, SgF1, SgB, SgH, Cnd.row, Int.lt_irrefl]
    refine rng_loopP f.length (fun j (u : List Int × Nat) => ⟨fr (SgF2 ps bs f u.1 u.2 (j : Nat)), SgH2 c u.1 u.2⟩) (fun j u => u.1.length = j ∧ segGo ps bs c (f.drop j) (sumW u.1 0) = X) (u0 := ([], 0)) ((weak_own 13 (0, 1000) 1 (by simp (maxSteps:=500000) only [↓vp, vv, ↓reduceIte, simprocAttr, ]) (by simp (maxSteps:=500000) only [↓vp, vv, ↓reduceIte, simprocAttr, ])).trans (weak_eq [] [(0, 1000), (0, 7)] (SgF2 ps bs f [] 0 0) (by simp (maxSteps:=500000) only [↓vp, vv, ↓reduceIte, simprocAttr, coverS, SgF2, SgB, SgH2, SgH, Cnd.row, List.map_nil]) (by simp (maxSteps:=500000) only [↓vp, vv, ↓reduceIte, simprocAttr, refsF, SgF2, SgB, SgH2, SgH, Cnd.row, List.map_nil]) (by simp (maxSteps:=500000) only [↓vp, vv, ↓reduceIte, simprocAttr, SgF2, SgB, SgH2, SgH, Cnd.row, List.map_nil]) (by simp) (by simp (maxSteps:=500000) only [↓vp, vv, ↓reduceIte, simprocAttr, SgF2, SgB, SgH2, SgH, Cnd.row, List.map_nil]; try rfl))) ⟨rfl, hX⟩ (fun j hj u hP => ?_) (fun u hP => ?_)
    · obtain ⟨out, g⟩ := u
      obtain ⟨ho, hP⟩ := hP
      dsimp only at ho hP
      have y1 : (out.length + 1) * 8 ≤ 140737488355328 := by omega
      have y2 : out.length + 1 ≤ 4611686018427387904 := by omega
      have hj' : (j : Int) < f.length := by omega
      have w1 := idx_next (j := j) (by omega)
      have g1 := pc_get hj
      have hu := hin j hj
      obtain ⟨⟨p0, p1⟩, _⟩ := pcBad_o (hf.2 j hj)
      rw [pc_drop hj, segGo] at hP
      generalize pcA f j = p at g1 hu p0 p1 hP
      unfold unkB at hu
      simp only [Bool.or_eq_false_iff, decide_eq_false_iff_not] at hu
      obtain ⟨u1, u2, u3⟩ := hu
      have q1 : p.ba < (bs.length : Int) := by omega
      have q2 : p.ba.toNat < bs.length := by omega
      have g2 := bt_get q2
      have hv : segV ps bs c p = if (facI (pdA ps (btA bs p.ba.toNat).pr.toNat) c).2 = 0 then stdI p.vo (facI (pdA ps (btA bs p.ba.toNat).pr.toNat) c).1 else (0, (facI (pdA ps (btA bs p.ba.toNat).pr.toNat) c).2) := rfl
      generalize btA bs p.ba.toNat = t at g2 hv u2 u3
      have r0 : 0 ≤ t.pr := by omega
      have r1 : t.pr < (ps.length : Int) := by omega
      have r2 : t.pr.toNat < ps.length := by omega
      have g3 := pd_get r2
      generalize pdA ps t.pr.toNat = z at g3 hv
      cases d1 : ((facI z c).2 != 0) with
      | true =>
        rw [if_neg (neq_b d1)] at hv
        rw [hv, if_neg (neq_b d1)] at hP
        simp (maxSteps:=500000) only [↓vp, vv, ↓reduceIte, simprocAttr, c34, r34, c34_1, c34_10, c34_11, c34_12, c34_2, c34_3, c34_4, c34_5, c34_6, c34_7, c34_8, c34_9, r34, SgT, SgF2, SgB, SgH2, SgH, selFa, selSd, selX, decPC, decII, tt, prdOf_x, cndOf_x, Cnd.row, Prd.row, ie, y1, y2, hj', hj, g1, g2, g3, p0, q1, q2, r0, r1, r2, Int.toNat_natCast, idx_nn, d1, e0, ← hP, Pu]
      | false =>
      have k1 := eq_b d1
      rw [if_pos k1] at hv
      rw [hv] at hP
      cases d2 : ((stdI p.vo (facI z c).1).2 != 0) with
      | true =>
        rw [if_neg (neq_b d2)] at hP
        simp (maxSteps:=500000) only [↓vp, vv, ↓reduceIte, simprocAttr, c34, r34, c34_1, c34_10, c34_11, c34_12, c34_2, c34_3, c34_4, c34_5, c34_6, c34_7, c34_8, c34_9, r34, SgT, SgF2, SgB, SgH2, SgH, selFa, selSd, selX, decPC, decII, tt, prdOf_x, cndOf_x, Cnd.row, Prd.row, ie, y1, y2, hj', hj, g1, g2, g3, p0, q1, q2, r0, r1, r2, Int.toNat_natCast, idx_nn, k1, d2, e0, ← hP, Pu]
      | false =>
        have k2 := eq_b d2
        rw [if_pos k2] at hP
        have nx : (out ++ [(stdI p.vo (facI z c).1).1]).length = j + 1 ∧ segGo ps bs c (f.drop (j + 1)) (sumW (out ++ [(stdI p.vo (facI z c).1).1]) 0) = X := ⟨by simp; omega, by rw [sumW_app]; exact hP⟩
        generalize hq : (stdI p.vo (facI z c).1).1 = v at nx
        simp (maxSteps:=500000) only [↓vp, vv, ↓reduceIte, simprocAttr, c34, r34, c34_1, c34_10, c34_11, c34_12, c34_2, c34_3, c34_4, c34_5, c34_6, c34_7, c34_8, c34_9, r34, SgT, SgF2, SgB, SgH2, SgH, selFa, selSd, selX, decPC, decII, tt, prdOf_x, cndOf_x, Cnd.row, Prd.row, ie, y1, y2, hj', hj, g1, g2, g3, p0, q1, q2, r0, r1, r2, Int.toNat_natCast, idx_nn, k1, k2, hq]
        refine rng_nextP hj (out ++ [v], g + 1) ?_ nx
        exact (weak_eq [] [(0, 1000), (0, 7)] (SgF2 ps bs f (out ++ [v]) (g + 1) ((j + 1 : Nat) : Int)) (by simp (maxSteps:=500000) only [↓vp, vv, ↓reduceIte, simprocAttr, coverS, SgF2, SgB, SgH2, SgH, Cnd.row, iR, w1, List.map_append, List.map_cons, List.map_nil, List.length_append, List.length_cons, List.length_nil]) (by simp (maxSteps:=500000) only [↓vp, vv, ↓reduceIte, simprocAttr, refsF, SgF2, SgB, SgH2, SgH, Cnd.row, iR, w1, List.map_append, List.map_cons, List.map_nil, List.length_append, List.length_cons, List.length_nil]) (by simp (maxSteps:=500000) only [↓vp, vv, ↓reduceIte, simprocAttr, SgF2, SgB, SgH2, SgH, Cnd.row, iR, w1, List.map_append, List.map_cons, List.map_nil, List.length_append, List.length_cons, List.length_nil]) (by simp) (by simp (maxSteps:=500000) only [↓vp, vv, ↓reduceIte, simprocAttr, SgF2, SgB, SgH2, SgH, Cnd.row, iR, w1, List.map_append, List.map_cons, List.map_nil, List.length_append, List.length_cons, List.length_nil]; try rfl))
    · obtain ⟨out, g⟩ := u
      obtain ⟨ho, hP⟩ := hP
      dsimp only at ho hP
      rw [List.drop_of_length_le (Nat.le_refl _), segGo] at hP
      have tk : (out.map iR).take out.length = out.map iR := List.take_of_length_le (by simp)
      have bo : I1Ok out := by unfold I1Ok; omega
      simp (maxSteps:=500000) only [↓vp, vv, ↓reduceIte, simprocAttr, c34, r34, c34_1, c34_10, c34_11, c34_12, c34_2, c34_3, c34_4, c34_5, c34_6, c34_7, c34_8, c34_9, r34, SgT, selSu, selX, decI1, intsOf_iR, tk, bo, SgF2, SgB, SgH2, SgH, Cnd.row, Int.lt_irrefl, eq_true (i_pl out), e0, ← hP, ie, Pu]
structure SgA where
  ps : List Prd
  bs : List Bat
  f : List Pce
  c : Cnd
def decSg : List D → Option SgA
  | [.sl x, .sl y, .sl z, .agg w] => match prdsOf x, btsOf y, pcsOf z, cndOf w with
    | some a, some b, some c, some d => some ⟨a, b, c, d⟩
    | _, _, _, _ => Option.none
  | _ => Option.none
theorem decSg_eq : ∀ l a, decSg l = some a → l = [.sl (a.ps.map Prd.row), .sl (a.bs.map Bat.row), .sl (a.f.map Pce.row), a.c.enc] := fun l a h => by
  unfold decSg at h
  split at h
  · split at h
    · rename_i e1 e2 e3 e4; cases h; rw [prdsOf_eq e1, btsOf_eq e2, pcsOf_eq e3, cndOf_eq e4]; rfl
    · cases h
  · cases h
def SgOk (a : SgA) : Prop := SgPre a.ps a.bs a.f
def selSg := selX decSg SgOk fun a => ie (segI a.ps a.bs a.f a.c)
theorem tc_sg {T : Tbl} (hT : TblOk Tryd.prog T) : TblOk Tryd.prog (tc 34 (rowPu selSg) T) := tc_x f34_ok decSg_eq (fun a h nn => pseg_c _ _ _ _ h nn) hT
def SrcO {α : Type} (i nn : Nm) (L : List (List D)) (sz : Nat) (row : α → List D) (post : List α → Prop) : D → Hp → Prop := fun v H' => ∃ at' g l, SrcOk L at' ∧ post l ∧ v = .own nn g 0 l.length ∧ H' = (Hp.none.put nn ⟨g, sz, l.map row⟩).put i (sE L at')
theorem SrcO_all {α : Type} (i nn : Nm) (L : List (List D)) (sz : Nat) (row : α → List D) (post : List α → Prop) (K : D → Hp → Prop) : (∀ v H', SrcO i nn L sz row post v H' → K v H') = ∀ (at' : SA L) (g : Nat) (l : List α), post l → K (.own nn g 0 l.length) ((Hp.none.put nn ⟨g, sz, l.map row⟩).put i (sE L at'.1)) :=
  propext ⟨fun h at' g l h2 => h _ _ ⟨at'.1, g, l, at'.2, h2, rfl, rfl⟩, fun h v H' ⟨at', g, l, h1, h2, e1, e2⟩ => by rw [e1, e2]; exact h ⟨at', h1⟩ g l h2⟩
theorem js_two (i nn : Nm) (e : En) : ∀ (j : Nm) (x : En), (Hp.none.put i e) j = some x → j ∈ [i, nn] := fun j x h => by
  by_cases hj : j = i
  · rw [hj]; exact List.mem_cons_self ..
  · rw [Hp.put_other _ hj] at h; cases h
theorem js_two' (i nn : Nm) (e : En) : ∀ j ∈ [i, nn], ((Hp.none.put i e) j).isSome = true ∨ j = nn := fun j h => by
  rcases List.mem_cons.1 h with h | h
  · rw [h, Hp.put_same]; exact .inl rfl
  · exact .inr (List.mem_singleton.1 h)
end Go.Proofs.YtehmmnnmkapfeaaDoor

/- Functions over abstract data, run by the kernel: what a run yields is a contract. No program in sight. -/
/- Functions over abstract data, run by the kernel: what a run yields is a contract. No program in sight. -/
namespace Go.Proofs.YtehmmnnmkapfeaaDoor
open Go
def lookF (b : Bool) (t : Nat) : List (Nat × D) → D
  | [] => bif b then .v undef else .any
  | (k, d) :: l => bif Nat.beq t k then d else lookF b t l
def frB (b : Bool) (l : List (Nat × D)) : Fr := fun t => lookF b t l
def nmEq (i j : Nm) : Bool := Nat.beq i.1 j.1 && Nat.beq i.2 j.2
def lookH (i : Nm) : List (Nm × En) → Option En
  | [] => Option.none
  | (j, e) :: l => bif nmEq i j then some e else lookH i l
def hp (l : List (Nm × En)) : Hp := fun i => lookH i l
structure SL where
  b : Bool
  F : List (Nat × D)
  H : List (Nm × En)
def SL.st (s : SL) : St := ⟨frB s.b s.F, hp s.H⟩
end Go.Proofs.YtehmmnnmkapfeaaDoor
/- Functions over abstract data, run by the kernel: code and functions. No program in sight. -/
namespace Go.Proofs.YtehmmnnmkapfeaaDoor
open Go
mutual
def D.owns : D → List Nm
  | .own i _ _ _ => [i]
  | .agg cs => ownsL cs
  | .tup cs => ownsL cs
  | .clo _ fs cs => ownsL fs ++ ownsL cs
  | _ => []
def ownsL : List D → List Nm
  | [] => []
  | d :: ds => d.owns ++ ownsL ds
end
end Go.Proofs.YtehmmnnmkapfeaaDoor

/- What runs of functions must know of their loops (printed by a program). -/
namespace Go.Proofs.YtehmmnnmkapfeaaDoor
open Go
end Go.Proofs.YtehmmnnmkapfeaaDoor

/- Sources: a new one, networks out of it. -/
namespace Go.Proofs.YtehmmnnmkapfeaaDoor
open Go
def rowNew : List D → Hp → Nm → Option (Prop × (D → Hp → Prop)) := fun args Hs nn =>
  match args with
  | [.sl L] => some (Hs = Hp.none, Pu (.ptr nn 0 0 0) (Hp.none.put nn (sE (L.take 2000) 0)))
  | _ => Option.none
theorem tc_new {T : Tbl} (hT : TblOk Tryd.prog T) : TblOk Tryd.prog (tc 11 rowNew T) :=
  tc_row f11_ok (fun args Hs nn pre R hr hp => by
    unfold rowNew at hr
    split at hr
    · cases hr
      subst hp
      exact ⟨⟨_, _, rfl, rfl⟩, New_c _ nn⟩
    · cases hr) hT
theorem AllI.one {α : Type} {P : Nat → α → Prop} {x : α} (h : P 0 x) : AllI P [x] := (AllI.nil P).snoc h
theorem AllI.two {α : Type} {P : Nat → α → Prop} {x y : α} (h : P 0 x) (k : P 1 y) : AllI P [x, y] := (AllI.one h).snoc k
def selAw : List D → Option (Prop × D)
  | [] => some (True, db true)
  | _ => Option.none
theorem src_new (ns : List Int) (h : ∀ n ∈ ns, InI n) : SrcOk ((ns.map fun n => [di n]).take 2000) 0 :=
  ⟨Int.le_refl _, Int.natCast_nonneg _, by rw [List.length_take]; omega, ns.take 2000, by rw [List.map_take], fun n hn => h n (List.mem_of_mem_take hn)⟩
def selPd : List D → Option (Prop × (Prd → Prop))
  | [.v (.int .i64 n)] => some (0 ≤ n ∧ n < 26, PrdIn n)
  | _ => Option.none
theorem tc_prod {T : Tbl} (hT : TblOk Tryd.prog T) : TblOk Tryd.prog (tc 13 (rowSrc selPd Prd.enc) T) :=
  tc_src f13_ok (fun args pre post h hp => by
    unfold selPd at h
    split at h <;> cases h
    exact ⟨⟨⟨nm1B ⟨#[112]⟩ _, 800, 0, 0, 1000⟩, rfl, ⟨by dsimp only; omega, by dsimp only; omega⟩, ⟨by dsimp only; omega, by dsimp only; omega⟩, ⟨by dsimp only; omega, by dsimp only; omega⟩, ⟨by dsimp only; omega, by dsimp only; omega⟩⟩, Product_s _ hp⟩) hT
def c29_1 : C := (.seq (.block 1 (.ops false [oP 11 (.mv (.t 3)), oP 12 (.mv (.t 0)), oP 13 (.mv (.t 3)), oP 14 (.len (.t 13)), oB 15 (.call 13 [(.t 12), (.t 14)]), oP 16 (.bsl 5 1 [(.v (.string ({ data := #[] }))), (.v (.int .i64 0)), (.v (.int .i64 0)), (.v (.int .i64 0)), (.v (.int .i64 0))] [(0, (.t 15))]), oP 17 (.app 5 48 (.t 11) (.t 16)), oP 3 (.mv (.t 17))])) (.ops false [oP 9 (.mv (.t 4)),
  oP 10 (.bin .sub (.t 9) (cI 1)), oP 4 (.mv (.t 10))]))
def c29_2 : C := (.seq (.seq (.ops false [oP 7 (.mv (.t 4)), oP 8 (.bin .gtr (.t 7) (cI 0))]) (.cond (.t 8) .skip (.exit 0))) c29_1)
def c29_3 : C := (.seq (.ops false [oP 18 (.mv (.t 3)), oP 2 (.mv (.t 18))]) .ret)
def c29 : C := (.seq (.ops false [oP 2 (.mv (.c .mt))]) (.seq (.ops false [oP 3 (.mv (.c .mt))]) (.seq (.seq (.ops false [oP 5 (.mv (.t 0)), oB 6 (.call 32 [(.t 5), (cI 1), (cI 4)]), oP 4 (.mv (.t 6))]) (.block 0 (.loop c29_2))) c29_3)))
def r29 : List RV := [(.tmp 2)]
theorem c29_ok : ∃ code, Tryd.f29.body = some code ∧ compC Tryd.prog Tryd.f29.ntmps code = some (C.strip c29) := ⟨_, rfl, by kernel_rfl⟩
theorem r29_ok : compRes Tryd.prog Tryd.f29.results.toList = some r29 := by kernel_rfl
theorem f29_ok : fnOk Tryd.prog 29 = true := by kernel_rfl
def c30_1 : C := (.seq (.block 1 (.ops false [oP 14 (.mv (.t 7)), oP 15 (.mv (.t 0)), oP 16 (.mv (.t 2)), oB 17 (.call 14 [(.t 15), (.t 16)]), oP 18 (.mv (.t 0)), oB 19 (.call 14 [(.t 18), (cI 3)]), oB 20 (.call 51 [(.c (.v (.string ({ data := #[102] })))), (.t 19)]), oP 21 (.bld [(.v (.int .i64 0)), (.v (.string ({ data := #[] }))), (.v (.int .i64 0)), (.v (.int .i64 0))] [(0, (1, (.t 17))), (1, (1, (.t 20))),
  (2, (1, (cI 0))), (3, (1, (cI 1)))]), oP 22 (.bsl 4 1 [(.v (.int .i64 0)), (.v (.string ({ data := #[] }))), (.v (.int .i64 0)), (.v (.int .i64 0))] [(0, (.t 21))]), oP 23 (.app 4 40 (.t 14) (.t 22)), oP 7 (.mv (.t 23))])) (.ops false [oP 12 (.mv (.t 8)), oP 13 (.bin .add (.t 12) (cI 1)), oP 8 (.mv (.t 13))]))
def c30_2 : C := (.seq (.seq (.ops false [oP 9 (.mv (.t 8)), oP 10 (.mv (.t 1)), oP 11 (.bin .lss (.t 9) (.t 10))]) (.cond (.t 11) .skip (.exit 0))) c30_1)
def c30_3 : C := (.seq (.ops false [oP 24 (.mv (.t 7)), oP 6 (.mv (.t 24))]) .ret)
def c30 : C := (.seq (.ops false [oP 6 (.mv (.c .mt))]) (.seq (.ops false [oP 7 (.mv (.c .mt))]) (.seq (.seq (.ops false [oP 8 (.mv (cI 0))]) (.block 0 (.loop c30_2))) c30_3)))
def r30 : List RV := [(.tmp 6)]
theorem c30_ok : ∃ code, Tryd.f30.body = some code ∧ compC Tryd.prog Tryd.f30.ntmps code = some (C.strip c30) := ⟨_, rfl, by kernel_rfl⟩
theorem r30_ok : compRes Tryd.prog Tryd.f30.results.toList = some r30 := by kernel_rfl
theorem f30_ok : fnOk Tryd.prog 30 = true := by kernel_rfl
def c31_1 : C := (.seq (.ops false [oP 83 (.mv (.t 1)), oP 84 (.fa 1 (.t 8)), oP 85 (.ld 1 false (.t 84)), oP 86 (.bin .sub (.t 83) (.t 85)), oP 1 (.mv (.t 86))]) (.ops false [oP 87 (.mv (.t 7)), oP 88 (.ld 2 true (.t 8)), oP 89 (.bsl 2 1 [(.v (.int .i64 0)), (.v (.int .i64 0))] [(0, (.t 88))]), oP 90 (.app 2 16 (.t 87) (.t 89)), oP 7 (.mv (.t 90))]))
def c31_2 : C := (.seq (.ops false [oP 31 (.fa 1 (.t 8)), oP 32 (.ld 1 false (.t 31)), oP 33 (.mv (.t 1)), oP 34 (.mnx false (.t 32) (.t 33)), oP 35 (.fa 1 (.t 8)), oS (.st 1 (.t 35) (.t 34))]) (.seq (.seq (.ops true [oP 36 (.mv (.t 7)), oA 37 (.len (.t 36)) [0], oA 38 (.bin .gtr (.t 37) (cI 0)) [0, 1], oA 39 (.mv (.t 38)) [1, 0, 2], oH 40 39 true (.mv (.t 7)) [2, 0, 1, 3], oH 41 39 true (.mv (.t 7)) [2, 0, 1, 3],
  oH 42 39 true (.len (.t 41)) [1, 0, 2, 3, 5], oH 43 39 true (.bin .sub (.t 42) (cI 1)) [5, 2, 0, 1, 3, 6], oH 44 39 true (.iaS 2 (.t 40) (.t 43)) [6, 5, 1, 0, 2, 3, 7, 4], oH 45 39 true (.fa 0 (.t 44)) [4, 7, 2, 0, 1, 5, 6, 3, 8], oH 46 39 true (.ld 1 false (.t 45)) [8, 6, 5, 1, 0, 2, 7, 4, 3, 9], oH 47 39 true (.fa 0 (.t 8)) [2, 0, 1, 3], oH 48 39 true (.ld 1 false (.t 47)) [1, 0, 2, 3, 11],
  oH 49 39 true (.bin .eql (.t 46) (.t 48)) [11, 9, 4, 7, 2, 0, 1, 5, 6, 8, 3, 12, 10], oA 50 (.pick (.t 39) (.t 49) (cB false)) [10, 12, 8, 6, 5, 7, 4, 9, 11, 2, 0, 1, 13, 3]]) (.cond (.t 50) (.seq (.ops false [oP 51 (.fa 0 (.t 8)), oP 52 (.ld 1 false (.t 51)), oP 53 (.bin .add (.t 52) (cI 1)), oP 54 (.mv (.t 2)), oP 55 (.bin .rem (.t 53) (.t 54)), oP 56 (.fa 0 (.t 8)), oS (.st 1 (.t 56) (.t 55))])
  (.seq (.ops true [oP 57 (.mv (.t 7)), oP 58 (.mv (.t 7)), oA 59 (.len (.t 58)) [1], oA 60 (.bin .sub (.t 59) (cI 1)) [1, 2], oA 61 (.iaS 2 (.t 57) (.t 60)) [2, 1, 3, 0], oA 62 (.fa 0 (.t 61)) [0, 3, 1, 2, 4], oA 63 (.ld 1 false (.t 62)) [4, 2, 1, 3, 0, 5], oP 64 (.fa 0 (.t 8)), oA 65 (.ld 1 false (.t 64)) [7], oA 66 (.bin .eql (.t 63) (.t 65)) [7, 5, 0, 3, 1, 2, 4, 8, 6]]) (.cond (.t 66)
  (.seq (.ops true [oP 67 (.mv (.t 7)), oP 68 (.mv (.t 7)), oA 69 (.len (.t 68)) [1], oA 70 (.bin .sub (.t 69) (cI 1)) [1, 2], oA 71 (.iaS 2 (.t 67) (.t 70)) [2, 1, 3, 0], oA 72 (.fa 1 (.t 71)) [0, 3, 1, 2, 4], oA 73 (.ld 1 false (.t 72)) [4, 2, 1, 3, 0, 5], oP 74 (.fa 1 (.t 8)), oA 75 (.ld 1 false (.t 74)) [7], oA 76 (.bin .add (.t 73) (.t 75)) [7, 5, 0, 3, 1, 2, 4, 8, 6], oA 77 (.iaS 2 (.t 67)
  (.t 70)) [9, 8, 7, 6, 5, 4, 2, 1, 3, 0], oA 78 (.fa 1 (.t 77)) [9, 8, 7, 6, 5, 4, 3, 2, 1, 0, 10], oT (.st 1 (.t 78) (.t 76)) [10, 8, 7, 6, 5, 4, 3, 2, 1, 0, 9, 11]]) (.seq (.ops false [oP 79 (.mv (.t 1)), oP 80 (.fa 1 (.t 8)), oP 81 (.ld 1 false (.t 80)), oP 82 (.bin .sub (.t 79) (.t 81)), oP 1 (.mv (.t 82))]) (.exit 1))) .skip))) .skip)) c31_1))
def c31_3 : C := (.block 1 (.seq (.ops false [oP 16 (.mv (.t 0)), oP 17 (.mv (.t 2)), oB 18 (.call 14 [(.t 16), (.t 17)]), oP 19 (.mv (.t 0)), oP 20 (.mv (.t 1)), oP 21 (.bin .mul (.t 20) (cI 2)), oP 22 (.bin .quo (.t 21) (cI 3)), oP 23 (.mnx true (cI 1) (.t 22)), oB 24 (.call 32 [(.t 19), (cI 1), (.t 23)]), oP 25 (.bld [(.v (.int .i64 0)), (.v (.int .i64 0))] [(0, (1, (.t 18))), (1, (1, (.t 24)))]),
  oP 8 (.new [(.v (.int .i64 0)), (.v (.int .i64 0))]), oS (.st 2 (.t 8) (.t 25))]) (.seq (.seq (.ops false [oP 26 (.mv (.t 7)), oP 27 (.len (.t 26)), oP 28 (.bin .eql (.t 27) (cI 11))]) (.cond (.t 28) (.ops false [oP 29 (.mv (.t 1)), oP 30 (.fa 1 (.t 8)), oS (.st 1 (.t 30) (.t 29))]) .skip)) c31_2)))
def c31_4 : C := (.seq (.seq (.ops false [oP 9 (.mv (.t 1)), oP 10 (.bin .gtr (.t 9) (cI 0)), oP 11 (.mv (.t 10)), oG 12 11 true (.mv (.t 7)), oG 13 11 true (.len (.t 12)), oG 14 11 true (.bin .lss (.t 13) (cI 12)), oP 15 (.pick (.t 11) (.t 14) (cB false))]) (.cond (.t 15) .skip (.exit 0))) c31_3)
def c31_5 : C := (.seq (.ops false [oP 91 (.mv (.t 7)), oP 6 (.mv (.t 91))]) .ret)
def c31 : C := (.seq (.ops false [oP 6 (.mv (.c .mt))]) (.seq (.ops false [oP 7 (.mv (.c .mt))]) (.seq (.block 0 (.loop c31_4)) c31_5)))
def r31 : List RV := [(.tmp 6)]
theorem c31_ok : ∃ code, Tryd.f31.body = some code ∧ compC Tryd.prog Tryd.f31.ntmps code = some (C.strip c31) := ⟨_, rfl, by kernel_rfl⟩
theorem r31_ok : compRes Tryd.prog Tryd.f31.results.toList = some r31 := by kernel_rfl
theorem f31_ok : fnOk Tryd.prog 31 = true := by kernel_rfl
end Go.Proofs.YtehmmnnmkapfeaaDoor
