/- PackSections: Pk4 Pk5 Pk6 Pk7 NkOk Fl1 Nw CodePS. -/
import Derived.Test.YtehmmnnmkapfeaaDoorCs6
import Derived.Test.YtehmmnnmkapfeaaDoorCs5
import Derived.Test.YtehmmnnmkapfeaaDoorCs3
import Derived.Test.YtehmmnnmkapfeaaDoorProg
set_option linter.unusedSimpArgs false
set_option linter.unusedVariables false
set_option maxRecDepth 100000

/- Tables of products: the checks of both. -/
namespace Go.Proofs.YtehmmnnmkapfeaaDoor
open Go
def CkT : Tbl := tc 91 (rowPu selPV) (tc 102 (rowPu selFd) T0)
theorem CkT_ok : TblOk Tryd.prog CkT := tc_pv (tc_fd (T0_ok _))
theorem all_drop {l : List Prd} {j : Nat} (h : j < l.length) {b : Bool} (he : (l.drop j).all pV = b) : (pV (pdA l j) = false → b = false) ∧ (pV (pdA l j) = true → (l.drop (j + 1)).all pV = b) := by
  rw [pd_drop h, List.all_cons] at he
  exact ⟨fun k => by rw [k] at he; simpa using he.symm, fun k => by rw [k] at he; simpa using he⟩
def CkF (l : List Prd) (a b c : Nat) (j : Int) : List (Nat × D) := [(0, .sl (l.map Prd.row)), (a, .sl (l.map Prd.row)), (b, di l.length), (c, di j)]
theorem dup_step {l : List Prd} {i : Nat} (hi : i < l.length) {b : Bool} (he : ((List.range l.length).drop i).any (dupAt eqPn l) = b) :
    (idxA (fun y => eqS y.nm (pdA l i).nm) 0 l ≤ (i : Int)) ∧ (idxA (fun y => eqS y.nm (pdA l i).nm) 0 l < (i : Int) → b = true) ∧ (¬ idxA (fun y => eqS y.nm (pdA l i).nm) 0 l < (i : Int) → ((List.range l.length).drop (i + 1)).any (dupAt eqPn l) = b) := by
  have hil : i < (List.range l.length).length := by simpa using hi
  obtain ⟨hf, ht⟩ := drop_any hil he
  rw [range_at, dup_at hi, pd_at hi] at hf ht
  have hix := idxA_lt (fun y => eqS y.nm (pdA l i).nm) l 0 i hi (Int.le_refl _) (by rw [pd_at hi]; exact eqS_self _)
  have hix1 := idxA_lt (fun y => eqS y.nm (pdA l i).nm) l 0
  rw [Int.zero_add] at hix
  refine ⟨?_, fun h => hf (hix.1 h), fun h => ht ?_⟩
  · have : ∀ (m : List Prd) (k : Int) (i : Nat) (h : i < m.length) (q : Prd → Bool), q m[i] = true → idxA q k m ≤ k + i := by
      intro m
      induction m with
      | nil => intro k i h; simp at h
      | cons r m ih =>
        intro k i h q hq
        rw [idxA]
        split
        · omega
        · rename_i hr
          match i, h with
          | 0, _ => exact absurd hq hr
          | i + 1, h =>
            have := ih (k + 1) i (by simpa using h) q (by simpa using hq)
            omega
    have := this l 0 i hi (fun y => eqS y.nm (pdA l i).nm) (by rw [pd_at hi]; exact eqS_self _)
    omega
  · cases hd : (l.take i).any (eqPn (pdA l i)) with
    | false => rfl
    | true => exact absurd (hix.2 hd) h
set_option maxHeartbeats 8000000 in
theorem pcheck_c (l : List Prd) (hl : l.length ≤ 1000000) (nn : Nm) : CallsA Tryd.prog 66 [.sl (l.map Prd.row)] Hp.none nn (Pu (di (pckI l)) Hp.none) := by
  obtain ⟨code, h1, h2⟩ := c66_ok
  refine callsA_of CkT_ok mixed (N := fun t => (0, t)) Tryd.func66 h1 h2 r66_ok [] false js_nil js_nil' (by simp [Tryd.f66]) ?_
  cases c0 : decide ((16 : Int) < (l.length : Int)) with
  | true =>
    have e : pckI l = 4 := by unfold pckI; rw [if_pos (by have := of_decide_eq_true c0; omega)]
    simp (maxSteps:=500000) only [↓vp, vv, ↓reduceIte, simprocAttr, c66, r66, c66_1, c66_2, c66_3, c66_4, c66_5, c66_6, c66_7, c66_8, c66_9, r66, CkT, c0, e, Pu]
  | false =>
  have e0 : pckI l = if l.all pV then (if dupB eqPn l then 7 else 0) else 9 := by unfold pckI; rw [if_neg (by have := of_decide_eq_false c0; omega)]
  generalize hb : l.all pV = b at e0
  generalize hc : dupB eqPn l = d at e0
  simp (maxSteps:=500000) only [↓vp, vv, ↓reduceIte, simprocAttr, c66, r66, c66_1, c66_2, c66_3, c66_4, c66_5, c66_6, c66_7, c66_8, c66_9, CkT, c0]
  refine rng_loop l.length (fun j => ⟨fr (CkF l 10 11 12 (j : Nat)), Hp.none⟩) (fun j => (l.drop j).all pV = b) (weak0 (by simp (maxSteps:=500000) only [↓vp, vv, ↓reduceIte, simprocAttr, coverS, CkF]) (by simp (maxSteps:=500000) only [↓vp, vv, ↓reduceIte, simprocAttr, refsF, CkF])) hb (fun j hj hP => ?_) (fun hP => ?_)
  · have hj' : (j : Int) < l.length := by omega
    have w1 := idx_next (j := j) (by omega)
    have g1 := pd_get hj
    obtain ⟨n1, n2⟩ := all_drop hj hP
    generalize pdA l j = p at g1 n1 n2
    cases c1 : pV p with
    | false =>
      have := n1 c1
      subst this
      simp (maxSteps:=500000) only [↓vp, vv, ↓reduceIte, simprocAttr, c66, r66, c66_1, c66_2, c66_3, c66_4, c66_5, c66_6, c66_7, c66_8, c66_9, r66, CkT, selPV, selX, decP, tt, prdOf_x, CkF, hj', hj, g1, Int.toNat_natCast, idx_nn, c1, e0, Pu]
    | true =>
      simp (maxSteps:=500000) only [↓vp, vv, ↓reduceIte, simprocAttr, c66, r66, c66_1, c66_2, c66_3, c66_4, c66_5, c66_6, c66_7, c66_8, c66_9, r66, CkT, selPV, selX, decP, tt, prdOf_x, CkF, hj', hj, g1, Int.toNat_natCast, idx_nn, c1]
      refine rng_next hj ?_ (n2 c1)
      exact (weak_eq [] [] (CkF l 10 11 12 ((j + 1 : Nat) : Int)) (by simp (maxSteps:=500000) only [↓vp, vv, ↓reduceIte, simprocAttr, coverS, CkF, w1]) (by simp (maxSteps:=500000) only [↓vp, vv, ↓reduceIte, simprocAttr, refsF, CkF, w1]) (by simp (maxSteps:=500000) only [↓vp, vv, ↓reduceIte, simprocAttr, CkF, w1]) (by simp) (by simp (maxSteps:=500000) only [↓vp, vv, ↓reduceIte, simprocAttr, CkF, w1]; try rfl))
  · rw [List.drop_of_length_le (Nat.le_refl _)] at hP
    have : b = true := hP.symm
    subst this
    simp (maxSteps:=500000) only [↓vp, vv, ↓reduceIte, simprocAttr, c66, r66, c66_1, c66_2, c66_3, c66_4, c66_5, c66_6, c66_7, c66_8, c66_9, CkT, CkF, Int.lt_irrefl]
    refine rng_loop l.length (fun j => ⟨fr (CkF l 20 21 22 (j : Nat)), Hp.none⟩) (fun j => ((List.range l.length).drop j).any (dupAt eqPn l) = d) (weak0 (by simp (maxSteps:=500000) only [↓vp, vv, ↓reduceIte, simprocAttr, coverS, CkF]) (by simp (maxSteps:=500000) only [↓vp, vv, ↓reduceIte, simprocAttr, refsF, CkF])) hc (fun j hj hP => ?_) (fun hP => ?_)
    · have hj' : (j : Int) < l.length := by omega
      have w1 := idx_next (j := j) (by omega)
      have g1 := pd_get hj
      obtain ⟨_, n1, n2⟩ := dup_step hj hP
      have ep := prdsOf_map l
      have hl' : FdOk (l, (pdA l j).nm) := hl
      generalize pdA l j = p at g1 n1 n2 hl'
      by_cases c1 : idxA (fun y => eqS y.nm p.nm) 0 l < (j : Int)
      · have := n1 c1
        subst this
        simp (maxSteps:=500000) only [↓vp, vv, ↓reduceIte, simprocAttr, c66, r66, c66_1, c66_2, c66_3, c66_4, c66_5, c66_6, c66_7, c66_8, c66_9, r66, CkT, selFd, selX, decFd, ep, hl', CkF, hj', hj, g1, Int.toNat_natCast, idx_nn, c1, e0, Pu]
      · simp (maxSteps:=500000) only [↓vp, vv, ↓reduceIte, simprocAttr, c66, r66, c66_1, c66_2, c66_3, c66_4, c66_5, c66_6, c66_7, c66_8, c66_9, r66, CkT, selFd, selX, decFd, ep, hl', CkF, hj', hj, g1, Int.toNat_natCast, idx_nn, c1]
        refine rng_next hj ?_ (n2 c1)
        exact (weak_eq [] [] (CkF l 20 21 22 ((j + 1 : Nat) : Int)) (by simp (maxSteps:=500000) only [↓vp, vv, ↓reduceIte, simprocAttr, coverS, CkF, w1]) (by simp (maxSteps:=500000) only [↓vp, vv, ↓reduceIte, simprocAttr, refsF, CkF, w1]) (by simp (maxSteps:=500000) only [↓vp, vv, ↓reduceIte, simprocAttr, CkF, w1]) (by simp) (by simp (maxSteps:=500000) only [↓vp, vv, ↓reduceIte, simprocAttr, CkF, w1]; try rfl))
    · have : d = false := drop_any_end (by simp) hP
      subst this
      simp (maxSteps:=500000) only [↓vp, vv, ↓reduceIte, simprocAttr, c66, r66, c66_1, c66_2, c66_3, c66_4, c66_5, c66_6, c66_7, c66_8, c66_9, r66, CkT, CkF, Int.lt_irrefl, e0, Pu]
def decPs : List D → Option (List Prd)
  | [.sl x] => prdsOf x
  | _ => Option.none
theorem decPs_eq : ∀ l a, decPs l = some a → l = [.sl (a.map Prd.row)] := fun l a h => by
  unfold decPs at h
  split at h
  · rw [prdsOf_eq h]
  · cases h
def PsOk (a : List Prd) : Prop := a.length ≤ 1000000
def selPk := selX decPs PsOk fun a => di (pckI a)
theorem tc_pck {T : Tbl} (hT : TblOk Tryd.prog T) : TblOk Tryd.prog (tc 66 (rowPu selPk) T) := tc_x f66_ok decPs_eq (fun a h nn => pcheck_c _ h nn) hT
structure Pce where
  ba : Int
  vo : Int
def Pce.row (p : Pce) : List D := [di p.ba, di p.vo]
def pcA (l : List Pce) (j : Nat) : Pce := l.getD j ⟨0, 0⟩
theorem pc_get {l : List Pce} {j : Nat} (h : j < l.length) : (l.map Pce.row).getD j [] = [di (pcA l j).ba, di (pcA l j).vo] := by
  unfold pcA
  rw [List.getD_eq_getElem?_getD, List.getElem?_map, List.getD_eq_getElem?_getD, List.getElem?_eq_getElem h]
  rfl
theorem pc_at {l : List Pce} {j : Nat} (h : j < l.length) : l[j] = pcA l j := by
  unfold pcA
  rw [List.getD_eq_getElem?_getD, List.getElem?_eq_getElem h]
  rfl
theorem pc_drop {l : List Pce} {j : Nat} (h : j < l.length) : l.drop j = pcA l j :: l.drop (j + 1) := by
  rw [List.drop_eq_getElem_cons h, pc_at h]
def pcOf : List D → Option Pce
  | [.v (.int .i64 a), .v (.int .i64 b)] => some ⟨a, b⟩
  | _ => Option.none
theorem pcOf_x (p : Pce) : pcOf [di p.ba, di p.vo] = some p := rfl
theorem pcOf_eq {l : List D} {m : Pce} (h : pcOf l = some m) : l = m.row := by unfold pcOf at h; split at h <;> cases h; rfl
def pcsOf : List (List D) → Option (List Pce)
  | [] => some []
  | r :: l => match pcOf r, pcsOf l with
    | some c, some cs => some (c :: cs)
    | _, _ => Option.none
theorem pcsOf_map (l : List Pce) : pcsOf (l.map Pce.row) = some l := by
  induction l with
  | nil => rfl
  | cons c l ih => rw [List.map_cons, pcsOf, ih]; rfl
theorem pcsOf_eq : ∀ {l : List (List D)} {cs : List Pce}, pcsOf l = some cs → l = cs.map Pce.row
  | [], cs, h => by cases h; rfl
  | r :: l, cs, h => by
    rw [pcsOf] at h
    split at h
    · rename_i e e'; cases h; rw [List.map_cons, pcOf_eq e, pcsOf_eq e']
    · cases h
def litB (p : Pce) : Bool := decide (0 ≤ p.ba) && (decide (p.ba < 1000) && (decide (0 ≤ p.vo) && decide (p.vo ≤ 1000000)))
def pcBad (l : List Pce) (i : Nat) : Bool := !litB (pcA l i) || ((pcA l i).vo == 0 || (decide (0 < i) && ((pcA l (i - 1)).ba == (pcA l i).ba)))
def volW : List Pce → Int → Int
  | [], s => s
  | p :: l, s => volW l (IntKind.i64.wrap (s + p.vo))
def flV (l : List Pce) : Bool := if 200 < l.length then false else if (List.range l.length).any (pcBad l) then false else decide (volW l 0 ≤ 1000000)
theorem bad_step {l : List Pce} {i : Nat} (hi : i < l.length) {b : Bool} (he : ((List.range l.length).drop i).any (pcBad l) = b) : (pcBad l i = true → b = true) ∧ (pcBad l i = false → ((List.range l.length).drop (i + 1)).any (pcBad l) = b) := by
  have h := drop_any (p := pcBad l) (l := List.range l.length) (j := i) (by simpa using hi) he
  rw [range_at] at h
  exact h
def decPc : List D → Option Pce
  | [.agg x] => pcOf x
  | _ => Option.none
theorem decPc_eq : ∀ l a, decPc l = some a → l = [.agg a.row] := fun l a h => by
  unfold decPc at h
  split at h
  · rw [pcOf_eq h]
  · cases h
theorem litre_c (p : Pce) (nn : Nm) : CallsA Tryd.prog 103 [.agg p.row] Hp.none nn (Pu (db (litB p)) Hp.none) := by
  obtain ⟨code, h1, h2⟩ := c103_ok
  refine callsA_of (T0_ok _) mixed (N := fun t => (0, t)) Tryd.func103 h1 h2 r103_ok [] false js_nil js_nil' (by simp [Tryd.f103]) ?_
  unfold litB
  cases c1 : decide (0 ≤ p.ba) with
  | false => simp (maxSteps:=500000) only [↓vp, vv, ↓reduceIte, simprocAttr, c103, r103, r103, Pce.row, c1, Pu, Bool.false_and]
  | true =>
  cases c2 : decide (p.ba < 1000) with
  | false => simp (maxSteps:=500000) only [↓vp, vv, ↓reduceIte, simprocAttr, c103, r103, r103, Pce.row, c1, c2, Pu, Bool.false_and, Bool.true_and]
  | true =>
  cases c3 : decide (0 ≤ p.vo) with
  | false => simp (maxSteps:=500000) only [↓vp, vv, ↓reduceIte, simprocAttr, c103, r103, r103, Pce.row, c1, c2, c3, Pu, Bool.false_and, Bool.true_and]
  | true => simp (maxSteps:=500000) only [↓vp, vv, ↓reduceIte, simprocAttr, c103, r103, r103, Pce.row, c1, c2, c3, Pu, Bool.true_and]
def selLi := selX decPc tt fun p => db (litB p)
theorem tc_li {T : Tbl} (hT : TblOk Tryd.prog T) : TblOk Tryd.prog (tc 103 (rowPu selLi) T) := tc_x f103_ok decPc_eq (fun a h nn => litre_c _ nn) hT
def ToF (l : List Pce) (s : Int) (j : Int) : List (Nat × D) := [(3, di s), (6, .sl (l.map Pce.row)), (7, di l.length), (8, di j)]
set_option maxHeartbeats 4000000 in
theorem total_c (l : List Pce) (hl : l.length ≤ 1000000) (nn : Nm) : CallsA Tryd.prog 104 [.sl (l.map Pce.row)] Hp.none nn (Pu (di (volW l 0)) Hp.none) := by
  obtain ⟨code, h1, h2⟩ := c104_ok
  refine callsA_of (T0_ok _) mixed (N := fun t => (0, t)) Tryd.func104 h1 h2 r104_ok [] false js_nil js_nil' (by simp [Tryd.f104]) ?_
  generalize hX : volW l 0 = X
  simp (maxSteps:=500000) only [↓vp, vv, ↓reduceIte, simprocAttr, c104, r104, c104_1, c104_2, c104_3]
  refine rng_loopP l.length (fun j (s : Int) => ⟨fr (ToF l s (j : Nat)), Hp.none⟩) (fun j s => volW (l.drop j) s = X) (u0 := 0) (weak0 (by simp (maxSteps:=500000) only [↓vp, vv, ↓reduceIte, simprocAttr, coverS, ToF]) (by simp (maxSteps:=500000) only [↓vp, vv, ↓reduceIte, simprocAttr, refsF, ToF])) hX (fun j hj s hP => ?_) (fun s hP => ?_)
  · have hj' : (j : Int) < l.length := by omega
    have w1 := idx_next (j := j) (by omega)
    have g1 := pc_get hj
    have nx := hP
    rw [pc_drop hj, volW] at nx
    simp (maxSteps:=500000) only [↓vp, vv, ↓reduceIte, simprocAttr, c104, r104, c104_1, c104_2, c104_3, ToF, hj', hj, g1, Int.toNat_natCast, idx_nn]
    refine rng_nextP hj (IntKind.i64.wrap (s + (pcA l j).vo)) ?_ nx
    exact (weak_eq [] [] (ToF l (IntKind.i64.wrap (s + (pcA l j).vo)) ((j + 1 : Nat) : Int)) (by simp (maxSteps:=500000) only [↓vp, vv, ↓reduceIte, simprocAttr, coverS, ToF, w1]) (by simp (maxSteps:=500000) only [↓vp, vv, ↓reduceIte, simprocAttr, refsF, ToF, w1]) (by simp (maxSteps:=500000) only [↓vp, vv, ↓reduceIte, simprocAttr, ToF, w1]) (by simp) (by simp (maxSteps:=500000) only [↓vp, vv, ↓reduceIte, simprocAttr, ToF, w1]; try rfl))
  · rw [List.drop_of_length_le (Nat.le_refl _), volW] at hP
    simp (maxSteps:=500000) only [↓vp, vv, ↓reduceIte, simprocAttr, c104, r104, c104_1, c104_2, c104_3, r104, Int.lt_irrefl, ToF, hP, Pu]
def decPf : List D → Option (List Pce)
  | [.sl x] => pcsOf x
  | _ => Option.none
theorem decPf_eq : ∀ l a, decPf l = some a → l = [.sl (a.map Pce.row)] := fun l a h => by
  unfold decPf at h
  split at h
  · rw [pcsOf_eq h]
  · cases h
def PfOk (a : List Pce) : Prop := a.length ≤ 1000000
def selTo := selX decPf PfOk fun a => di (volW a 0)
theorem tc_to {T : Tbl} (hT : TblOk Tryd.prog T) : TblOk Tryd.prog (tc 104 (rowPu selTo) T) := tc_x f104_ok decPf_eq (fun a h nn => total_c _ h nn) hT
def VlT : Tbl := tc 103 (rowPu selLi) (tc 104 (rowPu selTo) T0)
theorem VlT_ok : TblOk Tryd.prog VlT := tc_li (tc_to (T0_ok _))
def VlF (l : List Pce) (j : Int) : List (Nat × D) := [(0, .sl (l.map Pce.row)), (8, .sl (l.map Pce.row)), (9, di l.length), (10, di j)]
set_option maxHeartbeats 8000000 in
theorem fvalid_c (l : List Pce) (hl : l.length ≤ 1000000) (nn : Nm) : CallsA Tryd.prog 67 [.sl (l.map Pce.row)] Hp.none nn (Pu (db (flV l)) Hp.none) := by
  obtain ⟨code, h1, h2⟩ := c67_ok
  refine callsA_of VlT_ok mixed (N := fun t => (0, t)) Tryd.func67 h1 h2 r67_ok [] false js_nil js_nil' (by simp [Tryd.f67]) ?_
  cases c0 : decide ((200 : Int) < (l.length : Int)) with
  | true =>
    have e : flV l = false := by unfold flV; rw [if_pos (by have := of_decide_eq_true c0; omega)]
    simp (maxSteps:=500000) only [↓vp, vv, ↓reduceIte, simprocAttr, c67, r67, c67_1, c67_2, c67_3, c67_4, c67_5, r67, VlT, c0, e, Pu]
  | false =>
  have e0 : flV l = if (List.range l.length).any (pcBad l) then false else decide (volW l 0 ≤ 1000000) := by unfold flV; rw [if_neg (by have := of_decide_eq_false c0; omega)]
  generalize hb : (List.range l.length).any (pcBad l) = b at e0
  have hto : PfOk l := hl
  simp (maxSteps:=500000) only [↓vp, vv, ↓reduceIte, simprocAttr, c67, r67, c67_1, c67_2, c67_3, c67_4, c67_5, VlT, c0]
  refine rng_loop l.length (fun j => ⟨fr (VlF l (j : Nat)), Hp.none⟩) (fun j => ((List.range l.length).drop j).any (pcBad l) = b) (weak0 (by simp (maxSteps:=500000) only [↓vp, vv, ↓reduceIte, simprocAttr, coverS, VlF]) (by simp (maxSteps:=500000) only [↓vp, vv, ↓reduceIte, simprocAttr, refsF, VlF])) hb (fun j hj hP => ?_) (fun hP => ?_)
  · have hj' : (j : Int) < l.length := by omega
    have w1 := idx_next (j := j) (by omega)
    have g1 := pc_get hj
    obtain ⟨n1, n2⟩ := bad_step hj hP
    have hb2 : pcBad l j = (!litB (pcA l j) || ((pcA l j).vo == 0 || (decide (0 < j) && ((pcA l (j - 1)).ba == (pcA l j).ba)))) := rfl
    by_cases z : j = 0
    · subst z
      have hj0 : (0 : Int) < l.length := hj'
      have w0 : IntKind.i64.wrap 1 = 1 := by decide
      generalize pcA l 0 = p at g1 hb2
      cases c1 : litB p with
      | false =>
        have := n1 (by rw [hb2, c1]; rfl)
        subst this
        simp (maxSteps:=500000) only [↓vp, vv, ↓reduceIte, simprocAttr, c67, r67, c67_1, c67_2, c67_3, c67_4, c67_5, r67, VlT, selLi, selX, decPc, tt, pcOf_x, VlF, hj0, hj, g1, Int.toNat_natCast, idx_nn, c1, e0, Pu]
      | true =>
      cases c2 : (p.vo == 0) with
      | true =>
        have := n1 (by rw [hb2, c1, c2]; rfl)
        subst this
        simp (maxSteps:=500000) only [↓vp, vv, ↓reduceIte, simprocAttr, c67, r67, c67_1, c67_2, c67_3, c67_4, c67_5, r67, VlT, selLi, selX, decPc, tt, pcOf_x, VlF, hj0, hj, g1, Int.toNat_natCast, idx_nn, c1, c2, e0, Pu]
      | false =>
        have nx := n2 (by rw [hb2, c1, c2]; rfl)
        simp (maxSteps:=500000) only [↓vp, vv, ↓reduceIte, simprocAttr, c67, r67, c67_1, c67_2, c67_3, c67_4, c67_5, r67, VlT, selLi, selX, decPc, tt, pcOf_x, VlF, hj0, hj, g1, Int.toNat_natCast, idx_nn, c1, c2]
        refine rng_next hj ?_ nx
        exact (weak_eq [] [] (VlF l ((0 + 1 : Nat) : Int)) (by simp (maxSteps:=500000) only [↓vp, vv, ↓reduceIte, simprocAttr, coverS, VlF, w1, w0]) (by simp (maxSteps:=500000) only [↓vp, vv, ↓reduceIte, simprocAttr, refsF, VlF, w1, w0]) (by simp (maxSteps:=500000) only [↓vp, vv, ↓reduceIte, simprocAttr, VlF, w1, w0]) (by simp) (by simp (maxSteps:=500000) only [↓vp, vv, ↓reduceIte, simprocAttr, VlF, w1, w0]; try rfl))
    · have z1 : decide ((0 : Int) < (j : Int)) = true := decide_eq_true (by omega)
      have z2 : decide (0 < j) = true := decide_eq_true (by omega)
      have w2 : IntKind.i64.wrap ((j : Int) - 1) = ((j - 1 : Nat) : Int) := by rw [wrap_i (by omega)]; omega
      have hp : j - 1 < l.length := by omega
      have hp' : ((j - 1 : Nat) : Int) < l.length := by omega
      have g2 := pc_get hp
      rw [z2] at hb2
      generalize pcA l j = p at g1 hb2
      generalize pcA l (j - 1) = q at g2 hb2
      cases c1 : litB p with
      | false =>
        have := n1 (by rw [hb2, c1]; rfl)
        subst this
        simp (maxSteps:=500000) only [↓vp, vv, ↓reduceIte, simprocAttr, c67, r67, c67_1, c67_2, c67_3, c67_4, c67_5, r67, VlT, selLi, selX, decPc, tt, pcOf_x, VlF, hj', hj, g1, Int.toNat_natCast, idx_nn, c1, e0, Pu]
      | true =>
      cases c2 : (p.vo == 0) with
      | true =>
        have := n1 (by rw [hb2, c1, c2]; rfl)
        subst this
        simp (maxSteps:=500000) only [↓vp, vv, ↓reduceIte, simprocAttr, c67, r67, c67_1, c67_2, c67_3, c67_4, c67_5, r67, VlT, selLi, selX, decPc, tt, pcOf_x, VlF, hj', hj, g1, Int.toNat_natCast, idx_nn, c1, c2, e0, Pu]
      | false =>
      cases c3 : (q.ba == p.ba) with
      | true =>
        have := n1 (by rw [hb2, c1, c2, c3]; rfl)
        subst this
        simp (maxSteps:=500000) only [↓vp, vv, ↓reduceIte, simprocAttr, c67, r67, c67_1, c67_2, c67_3, c67_4, c67_5, r67, VlT, selLi, selX, decPc, tt, pcOf_x, VlF, hj', hj, hp, hp', g1, g2, z1, w2, Int.toNat_natCast, idx_nn, c1, c2, c3, e0, Pu]
      | false =>
        have nx := n2 (by rw [hb2, c1, c2, c3]; rfl)
        simp (maxSteps:=500000) only [↓vp, vv, ↓reduceIte, simprocAttr, c67, r67, c67_1, c67_2, c67_3, c67_4, c67_5, r67, VlT, selLi, selX, decPc, tt, pcOf_x, VlF, hj', hj, hp, hp', g1, g2, z1, w2, Int.toNat_natCast, idx_nn, c1, c2, c3]
        refine rng_next hj ?_ nx
        exact (weak_eq [] [] (VlF l ((j + 1 : Nat) : Int)) (by simp (maxSteps:=500000) only [↓vp, vv, ↓reduceIte, simprocAttr, coverS, VlF, w1]) (by simp (maxSteps:=500000) only [↓vp, vv, ↓reduceIte, simprocAttr, refsF, VlF, w1]) (by simp (maxSteps:=500000) only [↓vp, vv, ↓reduceIte, simprocAttr, VlF, w1]) (by simp) (by simp (maxSteps:=500000) only [↓vp, vv, ↓reduceIte, simprocAttr, VlF, w1]; try rfl))
  · have : b = false := drop_any_end (by simp) hP
    subst this
    simp (maxSteps:=500000) only [↓vp, vv, ↓reduceIte, simprocAttr, c67, r67, c67_1, c67_2, c67_3, c67_4, c67_5, r67, VlT, selTo, selX, decPf, pcsOf_map, hto, VlF, Int.lt_irrefl, e0, Pu]
def selFv := selX decPf PfOk fun a => db (flV a)
theorem tc_fv {T : Tbl} (hT : TblOk Tryd.prog T) : TblOk Tryd.prog (tc 67 (rowPu selFv) T) := tc_x f67_ok decPf_eq (fun a h nn => fvalid_c _ h nn) hT
structure Bat where
  pr : Int
  sh : ByteArray
  fr : Int
  to : Int
def Bat.row (b : Bat) : List D := [di b.pr, ds b.sh, di b.fr, di b.to]
def btA (l : List Bat) (j : Nat) : Bat := l.getD j ⟨0, ⟨#[]⟩, 0, 0⟩
theorem bt_get {l : List Bat} {j : Nat} (h : j < l.length) : (l.map Bat.row).getD j [] = [di (btA l j).pr, ds (btA l j).sh, di (btA l j).fr, di (btA l j).to] := by
  unfold btA
  rw [List.getD_eq_getElem?_getD, List.getElem?_map, List.getD_eq_getElem?_getD, List.getElem?_eq_getElem h]
  rfl
def btOf : List D → Option Bat
  | [.v (.int .i64 a), .v (.string s), .v (.int .i64 b), .v (.int .i64 c)] => some ⟨a, s, b, c⟩
  | _ => Option.none
theorem btOf_eq {l : List D} {m : Bat} (h : btOf l = some m) : l = m.row := by unfold btOf at h; split at h <;> cases h; rfl
def btsOf : List (List D) → Option (List Bat)
  | [] => some []
  | r :: l => match btOf r, btsOf l with
    | some c, some cs => some (c :: cs)
    | _, _ => Option.none
theorem btsOf_eq : ∀ {l : List (List D)} {cs : List Bat}, btsOf l = some cs → l = cs.map Bat.row
  | [], cs, h => by cases h; rfl
  | r :: l, cs, h => by
    rw [btsOf] at h
    split at h
    · rename_i e e'; cases h; rw [List.map_cons, btOf_eq e, btsOf_eq e']
    · cases h
def unkB (ps : List Prd) (bs : List Bat) (p : Pce) : Bool := decide ((bs.length : Int) ≤ p.ba) || (decide ((btA bs p.ba.toNat).pr < 0) || decide ((ps.length : Int) ≤ (btA bs p.ba.toNat).pr))
def segV (ps : List Prd) (bs : List Bat) (c : Cnd) (p : Pce) : Int × Int :=
  if (facI (pdA ps (btA bs p.ba.toNat).pr.toNat) c).2 = 0 then stdI p.vo (facI (pdA ps (btA bs p.ba.toNat).pr.toNat) c).1 else (0, (facI (pdA ps (btA bs p.ba.toNat).pr.toNat) c).2)
def segGo (ps : List Prd) (bs : List Bat) (c : Cnd) : List Pce → Int → Int × Int
  | [], s => (s, 0)
  | p :: l, s => if (segV ps bs c p).2 = 0 then segGo ps bs c l (IntKind.i64.wrap (s + (segV ps bs c p).1)) else (0, (segV ps bs c p).2)
def segI (ps : List Prd) (bs : List Bat) (f : List Pce) (c : Cnd) : Int × Int :=
  if pckI ps = 0 then (if flV f then (if f.any (unkB ps bs) then (0, 8) else segGo ps bs c f 0) else (0, 14)) else (0, pckI ps)
theorem sumW_app (x : Int) : ∀ (l : List Int) (s : Int), sumW (l ++ [x]) s = IntKind.i64.wrap (sumW l s + x)
  | [], s => rfl
  | y :: l, s => by rw [List.cons_append, sumW, sumW, sumW_app x l]
theorem flV_o {f : List Pce} (h : flV f = true) : f.length ≤ 200 ∧ ∀ j, j < f.length → pcBad f j = false := by
  unfold flV at h
  split at h
  · cases h
  · split at h
    · cases h
    · rename_i h1 h2
      refine ⟨by omega, fun j hj => ?_⟩
      have := List.any_eq_false.1 (by simpa using h2) j (List.mem_range.2 hj)
      simpa using this
theorem pcBad_o {f : List Pce} {j : Nat} (h : pcBad f j = false) : (0 ≤ (pcA f j).ba ∧ (pcA f j).ba < 1000) ∧ (1 ≤ (pcA f j).vo ∧ (pcA f j).vo ≤ 1000000) := by
  unfold pcBad litB at h
  simp only [Bool.or_eq_false_iff, Bool.not_eq_false', Bool.and_eq_true, decide_eq_true_eq, beq_eq_false_iff_ne] at h
  omega
theorem any_drop {q : Pce → Bool} {l : List Pce} {j : Nat} (h : j < l.length) {b : Bool} (he : (l.drop j).any q = b) : (q (pcA l j) = true → b = true) ∧ (q (pcA l j) = false → (l.drop (j + 1)).any q = b) := by
  have := drop_any h he
  rw [pc_at h] at this
  exact this
structure SgPre (ps : List Prd) (bs : List Bat) (f : List Pce) : Prop where
  ps : ps.length ≤ 1000000
  bs : bs.length ≤ 1000000
  f : f.length ≤ 1000000
def SgT : Tbl := tc 66 (rowPu selPk) (tc 67 (rowPu selFv) (tc 57 (rowPu selFa) (tc 58 (rowPu selSd) (tc 68 (rowPu selSu) T0))))
theorem SgT_ok : TblOk Tryd.prog SgT := tc_pck (tc_fv (tc_fa (tc_sd (tc_su (T0_ok _)))))
def SgH (c : Cnd) : Hp := Hp.none.put (0, 7) ⟨0, 2, [c.row]⟩
def SgB (ps : List Prd) (bs : List Bat) (e : List (Nat × D)) : List (Nat × D) := (0, .sl (ps.map Prd.row)) :: (1, .sl (bs.map Bat.row)) :: (7, .ptr (0, 7) 0 0 0) :: e
def SgF1 (ps : List Prd) (bs : List Bat) (f : List Pce) (j : Int) : List (Nat × D) := SgB ps bs [(2, .sl (f.map Pce.row)), (27, .sl (f.map Pce.row)), (28, di f.length), (29, di j)]
def SgF2 (ps : List Prd) (bs : List Bat) (f : List Pce) (out : List Int) (g : Nat) (j : Int) : List (Nat × D) := SgB ps bs [(13, .own (0, 1000) g 0 out.length), (59, .sl (f.map Pce.row)), (60, di f.length), (61, di j)]
def SgH2 (c : Cnd) (out : List Int) (g : Nat) : Hp := (SgH c).put (0, 1000) ⟨g, 1, out.map iR⟩
set_option maxHeartbeats 16000000 in
theorem pseg_c (ps : List Prd) (bs : List Bat) (f : List Pce) (c : Cnd) (h : SgPre ps bs f) (nn : Nm) : CallsA Tryd.prog 34 [.sl (ps.map Prd.row), .sl (bs.map Bat.row), .sl (f.map Pce.row), c.enc] Hp.none nn (Pu (ie (segI ps bs f c)) Hp.none) := by
  obtain ⟨code, h1, h2⟩ := c34_ok
  refine callsA_of SgT_ok mixed (N := fun t => (0, t)) Tryd.func34 h1 h2 r34_ok [] false js_nil js_nil' (by simp [Tryd.f34]) ?_
  have b1 : PsOk ps := h.ps
  have b2 : PfOk f := h.f
  have b3 := h.bs
  have b4 := h.f
  have b5 := h.ps
  cases a0 : (pckI ps != 0) with
  | true =>
    have e : segI ps bs f c = (0, pckI ps) := by unfold segI; rw [if_neg (neq_b a0)]
    simp (maxSteps:=500000) only [↓vp, vv, ↓reduceIte, simprocAttr, c34, r34, c34_1, c34_10, c34_11, c34_12, c34_2, c34_3, c34_4, c34_5, c34_6, c34_7, c34_8, c34_9, r34, SgT, selPk, selX, decPs, prdsOf_map, b1, a0, e, ie, Cnd.enc, Cnd.row, Pu]
  | false =>
  have k0 := eq_b a0
  cases a1 : flV f with
  | false =>
    have e : segI ps bs f c = (0, 14) := by unfold segI; rw [if_pos k0, a1]; rfl
    simp (maxSteps:=500000) only [↓vp, vv, ↓reduceIte, simprocAttr, c34, r34, c34_1, c34_10, c34_11, c34_12, c34_2, c34_3, c34_4, c34_5, c34_6, c34_7, c34_8, c34_9, r34, SgT, selPk, selFv, selX, decPs, decPf, prdsOf_map, pcsOf_map, b1, b2, k0, a1, e, ie, Cnd.enc, Cnd.row, Pu]
  | true =>
  have e0 : segI ps bs f c = if f.any (unkB ps bs) then (0, 8) else segGo ps bs c f 0 := by unfold segI; rw [if_pos k0, a1, if_pos rfl]
  have hf := flV_o a1
  generalize hb : f.any (unkB ps bs) = b at e0
  generalize hX : segGo ps bs c f 0 = X at e0
  simp (maxSteps:=500000) only [↓vp, vv, ↓reduceIte, simprocAttr, c34, r34, c34_1, c34_10, c34_11, c34_12, c34_2, c34_3, c34_4, c34_5, c34_6, c34_7, c34_8, c34_9, SgT, selPk, selFv, selX, decPs, decPf, prdsOf_map, pcsOf_map, b1, b2, k0, a1, Cnd.enc, Cnd.row]
  refine rng_loop f.length (fun j => ⟨fr (SgF1 ps bs f (j : Nat)), SgH c⟩) (fun j => (f.drop j).any (unkB ps bs) = b) (weak_eq [] [(0, 7)] (SgF1 ps bs f 0) (by simp (maxSteps:=500000) only [↓vp, vv, ↓reduceIte, simprocAttr, coverS, SgF1, SgB, SgH, Cnd.row]) (by simp (maxSteps:=500000) only [↓vp, vv, ↓reduceIte, simprocAttr, refsF, SgF1, SgB, SgH, Cnd.row]) (by simp (maxSteps:=500000) only [↓vp, vv, ↓reduceIte, simprocAttr, SgF1, SgB, SgH, Cnd.row]) (by simp) (by simp (maxSteps:=500000) only [↓vp, vv, ↓reduceIte, simprocAttr, SgF1, SgB, SgH, Cnd.row]; try rfl)) hb (fun j hj hP => ?_) (fun hP => ?_)
  · have hj' : (j : Int) < f.length := by omega
    have w1 := idx_next (j := j) (by omega)
    have g1 := pc_get hj
    obtain ⟨n1, n2⟩ := any_drop hj hP
    obtain ⟨⟨p0, p1⟩, _⟩ := pcBad_o (hf.2 j hj)
    have hu : unkB ps bs (pcA f j) = (decide ((bs.length : Int) ≤ (pcA f j).ba) || (decide ((btA bs (pcA f j).ba.toNat).pr < 0) || decide ((ps.length : Int) ≤ (btA bs (pcA f j).ba.toNat).pr))) := rfl
    generalize pcA f j = p at g1 n1 n2 p0 p1 hu
    cases c1 : decide ((bs.length : Int) ≤ p.ba) with
    | true =>
      have := n1 (by rw [hu, c1]; rfl)
      subst this
      simp (maxSteps:=500000) only [↓vp, vv, ↓reduceIte, simprocAttr, c34, r34, c34_1, c34_10, c34_11, c34_12, c34_2, c34_3, c34_4, c34_5, c34_6, c34_7, c34_8, c34_9, r34, SgT, SgF1, SgB, SgH, Cnd.row, hj', hj, g1, Int.toNat_natCast, idx_nn, c1, e0, ie, Pu]
    | false =>
    have q1 : p.ba < (bs.length : Int) := by have := of_decide_eq_false c1; omega
    have q2 : p.ba.toNat < bs.length := by omega
    have g2 := bt_get q2
    generalize btA bs p.ba.toNat = t at g2 hu
    cases c2 : decide (t.pr < 0) with
    | true =>
      have := n1 (by rw [hu, c1, c2]; rfl)
      subst this
      simp (maxSteps:=500000) only [↓vp, vv, ↓reduceIte, simprocAttr, c34, r34, c34_1, c34_10, c34_11, c34_12, c34_2, c34_3, c34_4, c34_5, c34_6, c34_7, c34_8, c34_9, r34, SgT, SgF1, SgB, SgH, Cnd.row, hj', hj, g1, g2, p0, q1, q2, Int.toNat_natCast, idx_nn, c1, c2, e0, ie, Pu]
    | false =>
    cases c3 : decide ((ps.length : Int) ≤ t.pr) with
    | true =>
      have := n1 (by rw [hu, c1, c2, c3]; rfl)
      subst this
      simp (maxSteps:=500000) only [↓vp, vv, ↓reduceIte, simprocAttr, c34, r34, c34_1, c34_10, c34_11, c34_12, c34_2, c34_3, c34_4, c34_5, c34_6, c34_7, c34_8, c34_9, r34, SgT, SgF1, SgB, SgH, Cnd.row, hj', hj, g1, g2, p0, q1, q2, Int.toNat_natCast, idx_nn, c1, c2, c3, e0, ie, Pu]
    | false =>
      have nx := n2 (by rw [hu, c1, c2, c3]; rfl)
      simp (maxSteps:=500000) only [↓vp, vv, ↓reduceIte, simprocAttr, c34, r34, c34_1, c34_10, c34_11, c34_12, c34_2, c34_3, c34_4, c34_5, c34_6, c34_7, c34_8, c34_9, r34, SgT, SgF1, SgB, SgH, Cnd.row, hj', hj, g1, g2, p0, q1, q2, Int.toNat_natCast, idx_nn, c1, c2, c3]
      refine rng_next hj ?_ nx
      exact (weak_eq [] [(0, 7)] (SgF1 ps bs f ((j + 1 : Nat) : Int)) (by simp (maxSteps:=500000) only [↓vp, vv, ↓reduceIte, simprocAttr, coverS, SgF1, SgB, SgH, Cnd.row, w1]) (by simp (maxSteps:=500000) only [↓vp, vv, ↓reduceIte, simprocAttr, refsF, SgF1, SgB, SgH, Cnd.row, w1]) (by simp (maxSteps:=500000) only [↓vp, vv, ↓reduceIte, simprocAttr, SgF1, SgB, SgH, Cnd.row, w1]) (by simp) (by simp (maxSteps:=500000) only [↓vp, vv, ↓reduceIte, simprocAttr, SgF1, SgB, SgH, Cnd.row, w1]; try rfl))
  · rw [List.drop_of_length_le (Nat.le_refl _)] at hP
    have : b = false := hP.symm
    subst this
    have hin : ∀ j, j < f.length → unkB ps bs (pcA f j) = false := fun j hj => by
      have := List.any_eq_false.1 hb (pcA f j) (by rw [← pc_at hj]; exact List.getElem_mem hj)
      simpa using this
    simp (maxSteps:=500000) only [↓vp, vv, ↓reduceIte, simprocAttr, c34, r34, c34_1, c34_10, c34_11, c34_12, c34_2, c34_3, c34_4, c34_5, c34_6, c34_7, c34_8, c34_9, SgT, SgF1, SgB, SgH, Cnd.row, Int.lt_irrefl]
    refine rng_loopP f.length (fun j (u : List Int × Nat) => ⟨fr (SgF2 ps bs f u.1 u.2 (j : Nat)), SgH2 c u.1 u.2⟩) (fun j u => u.1.length = j ∧ segGo ps bs c (f.drop j) (sumW u.1 0) = X) (u0 := ([], 0)) ((weak_own 13 (0, 1000) 1 (by simp (maxSteps:=500000) only [↓vp, vv, ↓reduceIte, simprocAttr, ]) (by simp (maxSteps:=500000) only [↓vp, vv, ↓reduceIte, simprocAttr, ])).trans (weak_eq [] [(0, 1000), (0, 7)] (SgF2 ps bs f [] 0 0) (by simp (maxSteps:=500000) only [↓vp, vv, ↓reduceIte, simprocAttr, coverS, SgF2, SgB, SgH2, SgH, Cnd.row, List.map_nil]) (by simp (maxSteps:=500000) only [↓vp, vv, ↓reduceIte, simprocAttr, refsF, SgF2, SgB, SgH2, SgH, Cnd.row, List.map_nil]) (by simp (maxSteps:=500000) only [↓vp, vv, ↓reduceIte, simprocAttr, SgF2, SgB, SgH2, SgH, Cnd.row, List.map_nil]) (by simp) (by simp (maxSteps:=500000) only [↓vp, vv, ↓reduceIte, simprocAttr, SgF2, SgB, SgH2, SgH, Cnd.row, List.map_nil]; try rfl))) ⟨rfl, hX⟩ (fun j hj u hP => ?_) (fun u hP => ?_)
    · obtain ⟨out, g⟩ := u
      obtain ⟨ho, hP⟩ := hP
      dsimp only at ho hP
      have y1 : (out.length + 1) * 8 ≤ 140737488355328 := by omega
      have y2 : out.length + 1 ≤ 4611686018427387904 := by omega
      have hj' : (j : Int) < f.length := by omega
      have w1 := idx_next (j := j) (by omega)
      have g1 := pc_get hj
      have hu := hin j hj
      obtain ⟨⟨p0, p1⟩, _⟩ := pcBad_o (hf.2 j hj)
      rw [pc_drop hj, segGo] at hP
      generalize pcA f j = p at g1 hu p0 p1 hP
      unfold unkB at hu
      simp only [Bool.or_eq_false_iff, decide_eq_false_iff_not] at hu
      obtain ⟨u1, u2, u3⟩ := hu
      have q1 : p.ba < (bs.length : Int) := by omega
      have q2 : p.ba.toNat < bs.length := by omega
      have g2 := bt_get q2
      have hv : segV ps bs c p = if (facI (pdA ps (btA bs p.ba.toNat).pr.toNat) c).2 = 0 then stdI p.vo (facI (pdA ps (btA bs p.ba.toNat).pr.toNat) c).1 else (0, (facI (pdA ps (btA bs p.ba.toNat).pr.toNat) c).2) := rfl
      generalize btA bs p.ba.toNat = t at g2 hv u2 u3
      have r0 : 0 ≤ t.pr := by omega
      have r1 : t.pr < (ps.length : Int) := by omega
      have r2 : t.pr.toNat < ps.length := by omega
      have g3 := pd_get r2
      generalize pdA ps t.pr.toNat = z at g3 hv
      cases d1 : ((facI z c).2 != 0) with
      | true =>
        rw [if_neg (neq_b d1)] at hv
        rw [hv, if_neg (neq_b d1)] at hP
        simp (maxSteps:=500000) only [↓vp, vv, ↓reduceIte, simprocAttr, c34, r34, c34_1, c34_10, c34_11, c34_12, c34_2, c34_3, c34_4, c34_5, c34_6, c34_7, c34_8, c34_9, r34, SgT, SgF2, SgB, SgH2, SgH, selFa, selSd, selX, decPC, decII, tt, prdOf_x, cndOf_x, Cnd.row, Prd.row, ie, y1, y2, hj', hj, g1, g2, g3, p0, q1, q2, r0, r1, r2, Int.toNat_natCast, idx_nn, d1, e0, ← hP, Pu]
      | false =>
      have k1 := eq_b d1
      rw [if_pos k1] at hv
      rw [hv] at hP
      cases d2 : ((stdI p.vo (facI z c).1).2 != 0) with
      | true =>
        rw [if_neg (neq_b d2)] at hP
        simp (maxSteps:=500000) only [↓vp, vv, ↓reduceIte, simprocAttr, c34, r34, c34_1, c34_10, c34_11, c34_12, c34_2, c34_3, c34_4, c34_5, c34_6, c34_7, c34_8, c34_9, r34, SgT, SgF2, SgB, SgH2, SgH, selFa, selSd, selX, decPC, decII, tt, prdOf_x, cndOf_x, Cnd.row, Prd.row, ie, y1, y2, hj', hj, g1, g2, g3, p0, q1, q2, r0, r1, r2, Int.toNat_natCast, idx_nn, k1, d2, e0, ← hP, Pu]
      | false =>
        have k2 := eq_b d2
        rw [if_pos k2] at hP
        have nx : (out ++ [(stdI p.vo (facI z c).1).1]).length = j + 1 ∧ segGo ps bs c (f.drop (j + 1)) (sumW (out ++ [(stdI p.vo (facI z c).1).1]) 0) = X := ⟨by simp; omega, by rw [sumW_app]; exact hP⟩
        generalize hq : (stdI p.vo (facI z c).1).1 = v at nx
        simp (maxSteps:=500000) only [↓vp, vv, ↓reduceIte, simprocAttr, c34, r34, c34_1, c34_10, c34_11, c34_12, c34_2, c34_3, c34_4, c34_5, c34_6, c34_7, c34_8, c34_9, r34, SgT, SgF2, SgB, SgH2, SgH, selFa, selSd, selX, decPC, decII, tt, prdOf_x, cndOf_x, Cnd.row, Prd.row, ie, y1, y2, hj', hj, g1, g2, g3, p0, q1, q2, r0, r1, r2, Int.toNat_natCast, idx_nn, k1, k2, hq]
        refine rng_nextP hj (out ++ [v], g + 1) ?_ nx
        exact (weak_eq [] [(0, 1000), (0, 7)] (SgF2 ps bs f (out ++ [v]) (g + 1) ((j + 1 : Nat) : Int)) (by simp (maxSteps:=500000) only [↓vp, vv, ↓reduceIte, simprocAttr, coverS, SgF2, SgB, SgH2, SgH, Cnd.row, iR, w1, List.map_append, List.map_cons, List.map_nil, List.length_append, List.length_cons, List.length_nil]) (by simp (maxSteps:=500000) only [↓vp, vv, ↓reduceIte, simprocAttr, refsF, SgF2, SgB, SgH2, SgH, Cnd.row, iR, w1, List.map_append, List.map_cons, List.map_nil, List.length_append, List.length_cons, List.length_nil]) (by simp (maxSteps:=500000) only [↓vp, vv, ↓reduceIte, simprocAttr, SgF2, SgB, SgH2, SgH, Cnd.row, iR, w1, List.map_append, List.map_cons, List.map_nil, List.length_append, List.length_cons, List.length_nil]) (by simp) (by simp (maxSteps:=500000) only [↓vp, vv, ↓reduceIte, simprocAttr, SgF2, SgB, SgH2, SgH, Cnd.row, iR, w1, List.map_append, List.map_cons, List.map_nil, List.length_append, List.length_cons, List.length_nil]; try rfl))
    · obtain ⟨out, g⟩ := u
      obtain ⟨ho, hP⟩ := hP
      dsimp only at ho hP
      rw [List.drop_of_length_le (Nat.le_refl _), segGo] at hP
      have tk : (out.map iR).take out.length = out.map iR := List.take_of_length_le (by simp)
      have bo : I1Ok out := by unfold I1Ok; omega
      simp (maxSteps:=500000) only [↓vp, vv, ↓reduceIte, simprocAttr, c34, r34, c34_1, c34_10, c34_11, c34_12, c34_2, c34_3, c34_4, c34_5, c34_6, c34_7, c34_8, c34_9, r34, SgT, selSu, selX, decI1, intsOf_iR, tk, bo, SgF2, SgB, SgH2, SgH, Cnd.row, Int.lt_irrefl, eq_true (i_pl out), e0, ← hP, ie, Pu]
structure SgA where
  ps : List Prd
  bs : List Bat
  f : List Pce
  c : Cnd
def decSg : List D → Option SgA
  | [.sl x, .sl y, .sl z, .agg w] => match prdsOf x, btsOf y, pcsOf z, cndOf w with
    | some a, some b, some c, some d => some ⟨a, b, c, d⟩
    | _, _, _, _ => Option.none
  | _ => Option.none
theorem decSg_eq : ∀ l a, decSg l = some a → l = [.sl (a.ps.map Prd.row), .sl (a.bs.map Bat.row), .sl (a.f.map Pce.row), a.c.enc] := fun l a h => by
  unfold decSg at h
  split at h
  · split at h
    · rename_i e1 e2 e3 e4; cases h; rw [prdsOf_eq e1, btsOf_eq e2, pcsOf_eq e3, cndOf_eq e4]; rfl
    · cases h
  · cases h
def SgOk (a : SgA) : Prop := SgPre a.ps a.bs a.f
def selSg := selX decSg SgOk fun a => ie (segI a.ps a.bs a.f a.c)
theorem tc_sg {T : Tbl} (hT : TblOk Tryd.prog T) : TblOk Tryd.prog (tc 34 (rowPu selSg) T) := tc_x f34_ok decSg_eq (fun a h nn => pseg_c _ _ _ _ h nn) hT
def decI2 : List D → Option (List Int × List Int)
  | [.sl x, .sl y] => match intsOf x, intsOf y with
    | some a, some b => some (a, b)
    | _, _ => Option.none
  | _ => Option.none
theorem decI2_eq : ∀ l a, decI2 l = some a → l = [.sl (a.1.map iR), .sl (a.2.map iR)] := fun l a h => by
  unfold decI2 at h
  split at h
  · split at h
    · rename_i e e'; cases h; rw [intsOf_eqR e, intsOf_eqR e']
    · cases h
  · cases h
def Sc2 (a : List Int × List Int) : Prop := SecPre a.1 a.2
def selSc := selX decI2 Sc2 fun a => ie (secI a.1 a.2)
theorem tc_sc {T : Tbl} (hT : TblOk Tryd.prog T) : TblOk Tryd.prog (tc 37 (rowPu selSc) T) := tc_x f37_ok decI2_eq (fun a h nn => psec_c _ _ h nn) hT
def ChgT : Tbl := tc 37 (rowPu selSc) T0
theorem ChgT_ok : TblOk Tryd.prog ChgT := tc_sc (T0_ok _)
structure ChgPre (a b s : List Int) : Prop where
  a : SecPre a s
  b : SecPre b s
set_option maxHeartbeats 4000000 in
theorem pchg_c (a b s : List Int) (h : ChgPre a b s) (nn : Nm) : CallsA Tryd.prog 38 [.sl (a.map iR), .sl (b.map iR), .sl (s.map iR)] Hp.none nn (Pu (ie (chgI a b s)) Hp.none) := by
  obtain ⟨code, h1, h2⟩ := c38_ok
  refine callsA_of ChgT_ok mixed (N := fun t => (0, t)) Tryd.func38 h1 h2 r38_ok [] false js_nil js_nil' (by simp [Tryd.f38]) ?_
  have p1 : Sc2 (a, s) := h.a
  have p2 : Sc2 (b, s) := h.b
  have e0 : chgI a b s = if (secI a s).2 = 0 then (if (secI b s).2 = 0 then (IntKind.i64.wrap ((secI b s).1 - (secI a s).1), 0) else (0, (secI b s).2)) else (0, (secI a s).2) := rfl
  cases c1 : ((secI a s).2 != 0) with
  | true =>
    rw [if_neg (neq_b c1)] at e0
    simp (maxSteps:=500000) only [↓vp, vv, ↓reduceIte, simprocAttr, c38, r38, c38_1, c38_2, r38, ChgT, selSc, selX, decI2, intsOf_iR, p1, p2, c1, e0, ie, Pu]
  | false =>
  have k1 := eq_b c1
  rw [if_pos k1] at e0
  cases c2 : ((secI b s).2 != 0) with
  | true =>
    rw [if_neg (neq_b c2)] at e0
    simp (maxSteps:=500000) only [↓vp, vv, ↓reduceIte, simprocAttr, c38, r38, c38_1, c38_2, r38, ChgT, selSc, selX, decI2, intsOf_iR, p1, p2, k1, c2, e0, ie, Pu]
  | false =>
    have k2 := eq_b c2
    rw [if_pos k2] at e0
    simp (maxSteps:=500000) only [↓vp, vv, ↓reduceIte, simprocAttr, c38, r38, c38_1, c38_2, r38, ChgT, selSc, selX, decI2, intsOf_iR, p1, p2, k1, k2, e0, ie, Pu]
def decI3 : List D → Option (List Int × List Int × List Int)
  | [.sl x, .sl y, .sl z] => match intsOf x, intsOf y, intsOf z with
    | some a, some b, some c => some (a, b, c)
    | _, _, _ => Option.none
  | _ => Option.none
theorem decI3_eq : ∀ l a, decI3 l = some a → l = [.sl (a.1.map iR), .sl (a.2.1.map iR), .sl (a.2.2.map iR)] := fun l a h => by
  unfold decI3 at h
  split at h
  · split at h
    · rename_i e e' e''; cases h; rw [intsOf_eqR e, intsOf_eqR e', intsOf_eqR e'']
    · cases h
  · cases h
def Ch3 (a : List Int × List Int × List Int) : Prop := ChgPre a.1 a.2.1 a.2.2
def selCg := selX decI3 Ch3 fun a => ie (chgI a.1 a.2.1 a.2.2)
theorem tc_cg {T : Tbl} (hT : TblOk Tryd.prog T) : TblOk Tryd.prog (tc 38 (rowPu selCg) T) := tc_x f38_ok decI3_eq (fun a h nn => pchg_c _ _ _ h nn) hT
def AwT : Tbl := tc 34 (rowPu selSg) (tc 38 (rowPu selCg) T0)
theorem AwT_ok : TblOk Tryd.prog AwT := tc_sg (tc_cg (T0_ok _))
set_option maxHeartbeats 4000000 in
theorem awake33_c (nn : Nm) : CallsA Tryd.prog 28 [] Hp.none nn (Pu (db true) Hp.none) := by
  obtain ⟨code, h1, h2⟩ := c28_ok
  refine callsA_of AwT_ok mixed (N := fun t => (0, t)) Tryd.func28 h1 h2 r28_ok [] false js_nil js_nil' (by simp [Tryd.f28]) ?_
  have d1 : prdsOf [[ds ⟨#[112]⟩, di 800, di 800, di 0, di 1000]] = some [⟨⟨#[112]⟩, 800, 800, 0, 1000⟩] := rfl
  have d2 : btsOf [[di 0, ds ⟨#[115]⟩, di 0, di 0]] = some [⟨0, ⟨#[115]⟩, 0, 0⟩] := rfl
  have d3 : pcsOf [[di 0, di 100]] = some [⟨0, 100⟩] := rfl
  have d4 : cndOf [di 150, di 0] = some ⟨150, 0⟩ := rfl
  have d5 : intsOf [[di 5], [di 7]] = some [5, 7] := rfl
  have d6 : intsOf [[di 6], [di 9]] = some [6, 9] := rfl
  have d7 : intsOf [[di 1]] = some [1] := rfl
  have o1 : SgOk ⟨[⟨⟨#[112]⟩, 800, 800, 0, 1000⟩], [⟨0, ⟨#[115]⟩, 0, 0⟩], [⟨0, 100⟩], ⟨150, 0⟩⟩ := ⟨by simp, by simp, by simp⟩
  have o2 : Ch3 ([5, 7], [6, 9], [1]) := ⟨⟨by simp, by simp, by unfold InI; simp⟩, ⟨by simp, by simp, by unfold InI; simp⟩⟩
  have v1 : segI [⟨⟨#[112]⟩, 800, 800, 0, 1000⟩] [⟨0, ⟨#[115]⟩, 0, 0⟩] [⟨0, 100⟩] ⟨150, 0⟩ = (100, 0) := by decide +kernel
  have v2 : chgI [5, 7] [6, 9] [1] = (2, 0) := by decide +kernel
  simp (maxSteps:=500000) only [↓vp, vv, ↓reduceIte, simprocAttr, c28, r28, r28, AwT, selSg, selCg, selX, decSg, decI3, d1, d2, d3, d4, d5, d6, d7, o1, o2, v1, v2, ie, Pu]
theorem AllI.map {α β : Type} {P : Nat → β → Prop} {Q : Nat → α → Prop} {l : List α} (f : α → β) (h : AllI Q l) (hq : ∀ j x, Q j x → P j (f x)) : AllI P (l.map f) := fun j y hj => by
  rw [List.getElem?_map] at hj
  cases hx : l[j]? with
  | none => rw [hx] at hj; cases hj
  | some x => rw [hx] at hj; cases hj; exact hq j x (h j x hx)
structure Pln where
  rates : List Int
  ports : List Int
  pumps : List Bool
def bRow (b : Bool) : List D := [db b]
def plnD (p : Pln) : List D := [.sl (p.rates.map iRow), .sl (p.ports.map iRow), .sl (p.pumps.map bRow)]
def Pln.enc (p : Pln) : D := .agg (plnD p)
def blk (th : List Bool) (k : Nat) (x : Seg × Int) : Bool := if (x.2 == 0) = true then false else if ((if x.2 < 0 then x.1.fr else x.1.to) == (k : Int)) = true then !(th.getD (if x.2 < 0 then x.1.to else x.1.fr).toNat false) else false
theorem getD_none {th : List Bool} {k : Nat} (h : th.getD k true = false) : th[k]? = some false := by
  rw [List.getD_eq_getElem?_getD] at h
  cases e : th[k]? with
  | none => rw [e] at h; cases h
  | some b => rw [e] at h; exact congrArg some h
theorem AllI.one {α : Type} {P : Nat → α → Prop} {x : α} (h : P 0 x) : AllI P [x] := (AllI.nil P).snoc h
theorem AllI.two {α : Type} {P : Nat → α → Prop} {x y : α} (h : P 0 x) (k : P 1 y) : AllI P [x, y] := (AllI.one h).snoc k
def selAw : List D → Option (Prop × D)
  | [] => some (True, db true)
  | _ => Option.none
def c6_1 : C := (.ops false [oP 42 (.mv (.t 12)), oP 43 (.bin .add (.t 42) (cI 1)), oP 12 (.mv (.t 43))])
def c6_2 : C := (.seq (.block 1 (.seq (.ops true [oP 44 (.mv (.t 7)), oP 45 (.mv (.t 0)), oP 46 (.mv (.t 12)), oA 47 (.iaS 1 (.t 45) (.t 46)) [2, 1], oA 48 (.ld 1 false (.t 47)) [1, 2, 3], oA 49 (.cvi .i64 (.t 48)) [3, 2, 1, 4], oA 50 (.bsl 1 1 [(.v (.int .i64 0))] [(0, (.t 49))]) [4, 1, 2, 3, 5], oA 51 (.app 1 8 (.t 44) (.t 50)) [5, 3, 2, 1, 4, 6, 0], oP 52 (.mv (.t 8)), oP 53 (.mv (.t 1)), oP 54 (.mv (.t 12)),
  oA 55 (.iaS 1 (.t 53) (.t 54)) [10, 9], oA 56 (.ld 1 false (.t 55)) [9, 10, 11], oA 57 (.cvi .i64 (.t 56)) [11, 10, 9, 12], oA 58 (.bsl 1 1 [(.v (.int .i64 0))] [(0, (.t 57))]) [12, 9, 10, 11, 13], oA 59 (.app 1 8 (.t 52) (.t 58)) [0, 6, 4, 1, 2, 3, 5, 13, 11, 10, 9, 12, 7, 14, 8], oP 60 (.mv (.t 11)), oP 61 (.mv (.t 12)), oA 62 (.bsl 1 1 [(.v (.int .i64 0))] [(0, (.t 61))]) [17],
  oA 63 (.app 1 8 (.t 60) (.t 62)) [8, 14, 7, 12, 9, 10, 11, 13, 5, 3, 2, 1, 4, 6, 0, 17, 15, 18, 16], oA 7 (.mv (.t 51)) [16, 18, 15, 17, 13, 11, 10, 9, 12, 14, 8, 6, 5, 4, 3, 2, 1, 0, 19, 7], oA 8 (.mv (.t 59)) [19, 17, 18, 16, 14, 13, 12, 11, 10, 9, 8, 7, 6, 5, 4, 3, 2, 1, 0, 20, 15], oA 11 (.mv (.t 63)) [20, 18, 17, 16, 15, 14, 13, 12, 11, 10, 9, 8, 7, 6, 5, 4, 3, 2, 1, 0, 21, 19]])
  (.seq (.ops false [oP 64 (.mv (.t 12)), oP 65 (.mv (.t 2)), oP 66 (.len (.t 65)), oP 67 (.bin .lss (.t 64) (.t 66)), oP 68 (.mv (.t 67)), oG 69 68 true (.mv (.t 2)), oG 70 68 true (.mv (.t 12)), oG 71 68 true (.iaS 1 (.t 69) (.t 70)), oG 72 68 true (.ld 1 false (.t 71)), oP 73 (.pick (.t 68) (.t 72) (cB false))]) (.cond (.t 73) (.ops false [oP 74 (.mv (.t 9)), oP 75 (.mv (.t 12)),
  oP 76 (.bsl 1 1 [(.v (.int .i64 0))] [(0, (.t 75))]), oP 77 (.app 1 8 (.t 74) (.t 76)), oP 9 (.mv (.t 77))]) (.ops false [oP 78 (.mv (.t 10)), oP 79 (.mv (.t 12)), oP 80 (.bsl 1 1 [(.v (.int .i64 0))] [(0, (.t 79))]), oP 81 (.app 1 8 (.t 78) (.t 80)), oP 10 (.mv (.t 81))]))))) c6_1)
def c6_3 : C := (.seq (.seq (.ops false [oP 38 (.mv (.t 12)), oP 39 (.mv (.t 0)), oP 40 (.len (.t 39)), oP 41 (.bin .lss (.t 38) (.t 40))]) (.cond (.t 41) .skip (.exit 0))) c6_2)
def c6_4 : C := (.seq (.ops false [oP 83 (.mv (.t 7)), oP 84 (.mv (.t 9)), oB 85 (.call 37 [(.t 83), (.t 84)]), oP 82 (.mv (.t 85)), oP 86 (.ext (.t 82) 0), oP 87 (.ext (.t 82) 1), oP 13 (.mv (.t 86)), oP 14 (.mv (.t 87))]) (.seq (.ops false [oP 89 (.mv (.t 7)), oP 90 (.mv (.t 10)), oB 91 (.call 37 [(.t 89), (.t 90)]), oP 88 (.mv (.t 91)), oP 92 (.ext (.t 88) 0), oP 93 (.ext (.t 88) 1), oP 15 (.mv (.t 92)),
  oP 16 (.mv (.t 93))]) (.seq (.ops false [oP 95 (.mv (.t 7)), oP 96 (.mv (.t 11)), oB 97 (.call 37 [(.t 95), (.t 96)]), oP 94 (.mv (.t 97)), oP 98 (.ext (.t 94) 0), oP 99 (.ext (.t 94) 1), oP 17 (.mv (.t 98)), oP 18 (.mv (.t 99))]) (.seq (.ops false [oP 101 (.mv (.t 7)), oP 102 (.mv (.t 8)), oP 103 (.mv (.t 9)), oB 104 (.call 38 [(.t 101), (.t 102), (.t 103)]), oP 100 (.mv (.t 104)),
  oP 105 (.ext (.t 100) 0), oP 106 (.ext (.t 100) 1), oP 19 (.mv (.t 105)), oP 20 (.mv (.t 106))]) (.seq (.ops false [oP 108 (.mv (.t 7)), oP 109 (.mv (.t 8)), oP 110 (.mv (.t 10)), oB 111 (.call 38 [(.t 108), (.t 109), (.t 110)]), oP 107 (.mv (.t 111)), oP 112 (.ext (.t 107) 0), oP 113 (.ext (.t 107) 1), oP 21 (.mv (.t 112)), oP 22 (.mv (.t 113))]) (.seq (.ops false [oP 115 (.mv (.t 7)),
  oP 116 (.mv (.t 8)), oP 117 (.mv (.t 11)), oB 118 (.call 38 [(.t 115), (.t 116), (.t 117)]), oP 114 (.mv (.t 118)), oP 119 (.ext (.t 114) 0), oP 120 (.ext (.t 114) 1), oP 23 (.mv (.t 119)), oP 24 (.mv (.t 120))]) (.seq (.ops false [oP 122 (.mv (.t 8)), oP 123 (.mv (.t 7)), oP 124 (.mv (.t 11)), oB 125 (.call 38 [(.t 122), (.t 123), (.t 124)]), oP 121 (.mv (.t 125)), oP 126 (.ext (.t 121) 0),
  oP 127 (.ext (.t 121) 1), oP 25 (.mv (.t 126)), oP 26 (.mv (.t 127))]) (.seq (.ops false [oP 128 (.mv (.t 14)), oP 129 (.bin .eql (.t 128) (cI 0)), oP 130 (.mv (.t 129)), oG 131 130 true (.mv (.t 16)), oG 132 130 true (.bin .eql (.t 131) (cI 0)), oP 133 (.pick (.t 130) (.t 132) (cB false)), oP 134 (.mv (.t 133)), oG 135 134 true (.mv (.t 18)), oG 136 134 true (.bin .eql (.t 135) (cI 0)),
  oP 137 (.pick (.t 134) (.t 136) (cB false)), oP 138 (.mv (.t 137)), oG 139 138 true (.mv (.t 20)), oG 140 138 true (.bin .eql (.t 139) (cI 0)), oP 141 (.pick (.t 138) (.t 140) (cB false)), oP 142 (.mv (.t 141)), oG 143 142 true (.mv (.t 22)), oG 144 142 true (.bin .eql (.t 143) (cI 0)), oP 145 (.pick (.t 142) (.t 144) (cB false)), oP 146 (.mv (.t 145)), oG 147 146 true (.mv (.t 24)),
  oG 148 146 true (.bin .eql (.t 147) (cI 0)), oP 149 (.pick (.t 146) (.t 148) (cB false)), oP 150 (.mv (.t 149)), oG 151 150 true (.mv (.t 26)), oG 152 150 true (.bin .eql (.t 151) (cI 0)), oP 153 (.pick (.t 150) (.t 152) (cB false)), oP 154 (.mv (.t 153)), oG 155 154 true (.mv (.t 13)), oG 156 154 true (.mv (.t 15)), oG 157 154 true (.bin .add (.t 155) (.t 156)), oG 158 154 true (.mv (.t 17)),
  oG 159 154 true (.bin .eql (.t 157) (.t 158)), oP 160 (.pick (.t 154) (.t 159) (cB false)), oP 161 (.mv (.t 160)), oG 162 161 true (.mv (.t 19)), oG 163 161 true (.mv (.t 21)), oG 164 161 true (.bin .add (.t 162) (.t 163)), oG 165 161 true (.mv (.t 23)), oG 166 161 true (.bin .eql (.t 164) (.t 165)), oP 167 (.pick (.t 161) (.t 166) (cB false)), oP 168 (.mv (.t 167)), oG 169 168 true (.mv (.t 25)),
  oG 170 168 true (.mv (.t 23)), oG 171 168 true (.neg (.t 170)), oG 172 168 true (.bin .eql (.t 169) (.t 171)), oP 173 (.pick (.t 168) (.t 172) (cB false)), oP 174 (.mv (.t 173)), oD 175 174 true (.call 28 []) [], oP 176 (.pick (.t 174) (.t 175) (cB false)), oP 6 (.mv (.t 176))]) .ret))))))))
def c6_5 : C := (.seq (.ops false [oP 7 (.mv (.c .mt)), oP 8 (.mv (.c .mt)), oP 9 (.mv (.c .mt)), oP 10 (.mv (.c .mt)), oP 11 (.mv (.c .mt))]) (.seq (.seq (.ops false [oP 12 (.mv (cI 0))]) (.block 0 (.loop c6_3))) (.weak c6_4)))
def c6 : C := (.seq (.ops false [oP 6 (.mv (cB false))]) (.seq (.seq (.ops false [oP 27 (.mv (.t 0)), oP 28 (.len (.t 27)), oP 29 (.bin .gtr (.t 28) (cI 30)), oP 30 (.mv (.t 29)), oG 31 30 false (.mv (.t 1)), oG 32 30 false (.len (.t 31)), oG 33 30 false (.mv (.t 0)), oG 34 30 false (.len (.t 33)), oG 35 30 false (.bin .lss (.t 32) (.t 34)), oP 36 (.pick (.t 30) (cB true) (.t 35))]) (.cond (.t 36)
  (.seq (.ops false [oB 37 (.call 28 []), oP 6 (.mv (.t 37))]) .ret) .skip)) c6_5))
def r6 : List RV := [(.tmp 6)]
theorem c6_ok : ∃ code, Tryd.f6.body = some code ∧ compC Tryd.prog Tryd.f6.ntmps code = some (C.strip c6) := ⟨_, rfl, by kernel_rfl⟩
theorem r6_ok : compRes Tryd.prog Tryd.f6.results.toList = some r6 := by kernel_rfl
end Go.Proofs.YtehmmnnmkapfeaaDoor
