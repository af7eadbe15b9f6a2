/- PackMade: CtD Pk3 Pk4 Pk5. -/
import Derived.Test.YtehmmnnmkapfeaaDoorCx11
import Derived.Test.YtehmmnnmkapfeaaDoorCx8
import Derived.Test.YtehmmnnmkapfeaaDoorCx9
set_option linter.unusedSimpArgs false
set_option linter.unusedVariables false
set_option maxRecDepth 100000

/- Meters, products, conditions out of a source. -/
namespace Go.Proofs.YtehmmnnmkapfeaaDoor
open Go
def CndIn (c : Cnd) : Prop := cdOk c.te c.pr
set_option maxHeartbeats 8000000 in
theorem Condition_s : SrcC Tryd.prog 16 [] CndIn Cnd.enc := by
  intro i L at' nn ho
  obtain ⟨code, h1, h2⟩ := c16_ok
  refine callsA_of T2_ok mixed (N := fun t => (i.1 + 1, t)) Tryd.func16 h1 h2 r16_ok [i] false js_one js_one' (by simp [Tryd.f16]) ?_
  simp (maxSteps:=500000) only [↓vp, vv, ↓reduceIte, simprocAttr, c16, r16, T2, T1, selI, selPick, selRange, selName, ho, Cnd.enc, Cnd.row]
  intro a1 x hx a2 y hy
  simp only [IsMem, List.mem_cons, List.not_mem_nil, or_false] at hx hy
  refine ⟨a2.1, ⟨x, y⟩, a2.2, ?_, rfl, rfl⟩
  unfold CndIn cdOk
  dsimp only
  omega
structure PrdIn (n : Int) (p : Prd) : Prop where
  nm : p.nm = nm1B ⟨#[112]⟩ n
  de : 400 ≤ p.de ∧ p.de ≤ 1200
  ex : 0 ≤ p.ex ∧ p.ex ≤ 2000
  co : 0 ≤ p.co ∧ p.co ≤ 5000
  fr : 1 ≤ p.fr ∧ p.fr ≤ 2000
set_option maxHeartbeats 8000000 in
theorem Product_s (n : Int) (hn : 0 ≤ n ∧ n < 26) : SrcC Tryd.prog 13 [di n] (PrdIn n) Prd.enc := by
  intro i L at' nn ho
  obtain ⟨code, h1, h2⟩ := c13_ok
  refine callsA_of T2_ok mixed (N := fun t => (i.1 + 1, t)) Tryd.func13 h1 h2 r13_ok [i] false js_one js_one' (by simp [Tryd.f13]) ?_
  simp (maxSteps:=500000) only [↓vp, vv, ↓reduceIte, simprocAttr, c13, r13, T2, T1, selI, selPick, selRange, selName, ho, hn, Prd.enc, Prd.row]
  refine ⟨by decide, ?_⟩
  intro a0 w hw a1 x hx a2 y hy a3 z hz
  simp only [IsMem, RPost, List.mem_cons, List.not_mem_nil, or_false] at hw hx hy hz
  refine ⟨a3.1, ⟨nm1B ⟨#[112]⟩ n, w, x, y, z⟩, a3.2, ⟨rfl, ?_, ?_, ?_, ?_⟩, rfl, rfl⟩ <;> dsimp only <;> omega
set_option maxHeartbeats 8000000 in
theorem Odd_s (p : Prd) : SrcC Tryd.prog 18 [p.enc] (fun _ : Prd => True) Prd.enc := by
  intro i L at' nn ho
  obtain ⟨code, h1, h2⟩ := c18_ok
  refine callsA_of T2_ok mixed (N := fun t => (i.1 + 1, t)) Tryd.func18 h1 h2 r18_ok [i] false js_one js_one' (by simp [Tryd.f18]) ?_
  simp (maxSteps:=500000) only [↓vp, vv, ↓reduceIte, simprocAttr, c18, r18, c18_1, r18, T2, T1, selI, selPick, selText, selRange, selName, ho, Prd.enc, Prd.row]
  intro a1 q hq
  split
  · exact fun a2 x hx => ⟨a2.1, ⟨x, p.de, p.ex, p.co, p.fr⟩, a2.2, trivial, rfl, rfl⟩
  split
  · exact fun a2 x hx => ⟨a2.1, ⟨p.nm, x, p.ex, p.co, p.fr⟩, a2.2, trivial, rfl, rfl⟩
  split
  · exact fun a2 x hx => ⟨a2.1, ⟨p.nm, p.de, x, p.co, p.fr⟩, a2.2, trivial, rfl, rfl⟩
  split
  · exact fun a2 x hx => ⟨a2.1, ⟨p.nm, p.de, p.ex, x, p.fr⟩, a2.2, trivial, rfl, rfl⟩
  · exact fun a2 x hx => ⟨a2.1, ⟨p.nm, p.de, p.ex, p.co, x⟩, a2.2, trivial, rfl, rfl⟩
def eqPn (x y : Prd) : Bool := eqS y.nm x.nm
def pckI (l : List Prd) : Int := if 16 < l.length then 4 else if l.all pV then (if dupB eqPn l then 7 else 0) else 9
def pdA (l : List Prd) (j : Nat) : Prd := l.getD j ⟨⟨#[]⟩, 0, 0, 0, 0⟩
theorem pd_get {l : List Prd} {j : Nat} (h : j < l.length) : (l.map Prd.row).getD j [] = [ds (pdA l j).nm, di (pdA l j).de, di (pdA l j).ex, di (pdA l j).co, di (pdA l j).fr] := by
  unfold pdA
  rw [List.getD_eq_getElem?_getD, List.getElem?_map, List.getD_eq_getElem?_getD, List.getElem?_eq_getElem h]
  rfl
theorem pd_at {l : List Prd} {j : Nat} (h : j < l.length) : l[j] = pdA l j := by
  unfold pdA
  rw [List.getD_eq_getElem?_getD, List.getElem?_eq_getElem h]
  rfl
theorem pd_drop {l : List Prd} {j : Nat} (h : j < l.length) : l.drop j = pdA l j :: l.drop (j + 1) := by
  rw [List.drop_eq_getElem_cons h, pd_at h]
def prdsOf : List (List D) → Option (List Prd)
  | [] => some []
  | r :: l => match prdOf r, prdsOf l with
    | some c, some cs => some (c :: cs)
    | _, _ => Option.none
theorem prdsOf_map (l : List Prd) : prdsOf (l.map Prd.row) = some l := by
  induction l with
  | nil => rfl
  | cons c l ih => rw [List.map_cons, prdsOf, ih]; rfl
theorem prdsOf_eq : ∀ {l : List (List D)} {cs : List Prd}, prdsOf l = some cs → l = cs.map Prd.row
  | [], cs, h => by cases h; rfl
  | r :: l, cs, h => by
    rw [prdsOf] at h
    split at h
    · rename_i e e'; cases h; rw [List.map_cons, prdOf_eq e, prdsOf_eq e']
    · cases h
theorem prd_done (x : Prd) : doneL x.row = true := rfl
theorem pfind1_c (p : Prd) (s : ByteArray) (nn : Nm) : CallsA Tryd.prog 133 [.agg p.row, .ip [ds s]] Hp.none nn (Pu (db (eqS p.nm s)) Hp.none) := by
  obtain ⟨code, h1, h2⟩ := c133_ok
  refine callsA_of (T0_ok _) mixed (N := fun t => (0, t)) Tryd.func133 h1 h2 r133_ok [] false js_nil js_nil' (by simp [Tryd.f133]) ?_
  unfold eqS
  simp (maxSteps:=500000) only [↓vp, vv, ↓reduceIte, simprocAttr, c133, r133, r133, Prd.row, Pu]
def qFd (l : List (List D)) : D → Bool := match l with
  | [[.v (.string s)]] => qRow prdOf (fun y => eqS y.nm s)
  | _ => fun _ => false
def FdT (P : Program) : Tbl := tc 132 (rowPu (selQ P true 5 (fun _ l => qFd l) outI)) T0
theorem tc_ci {P : Program} {ag : Bool} {sz : Nat} {f : FuncId} {q : FuncId → List (List D) → D → Bool} {T : Tbl} (hf : fnOk P f = true) (h : ∀ (q : D → Bool) (g : FuncId) (l rows : List (List D)), QOk P ag sz q g l rows → ∀ nn, CallsA P f [.sl rows, .clo g [] (ips l)] Hp.none nn (Pu (outI (fun r => q (elV ag r)) rows) Hp.none)) (hT : TblOk P T) : TblOk P (tc f (rowPu (selQ P ag sz q outI)) T) :=
  tc_pu hf (fun args pre d hs hp nn => by
    unfold selQ at hs
    split at hs
    · split at hs
      · rename_i hi
        cases hs
        rw [ipsOf_eq hi]
        exact h _ _ _ _ hp nn
      · cases hs
    · cases hs) hT
theorem FdT_ok : TblOk Tryd.prog (FdT Tryd.prog) := tc_ci f132_ok (fun q g l rows h nn => idxF_D q g l rows h nn) (T0_ok _)
theorem pfind_c (l : List Prd) (hl : l.length ≤ 1000000) (s : ByteArray) (nn : Nm) : CallsA Tryd.prog 102 [.sl (l.map Prd.row), ds s] Hp.none nn (Pu (di (idxA (fun y => eqS y.nm s) 0 l)) Hp.none) := by
  obtain ⟨code, h1, h2⟩ := c102_ok
  refine callsA_of FdT_ok mixed (N := fun t => (0, t)) Tryd.func102 h1 h2 r102_ok [] false js_nil js_nil' (by simp [Tryd.f102]) ?_
  have hq : QOk Tryd.prog true 5 (qFd [[ds s]]) 133 [[ds s]] (l.map Prd.row) := by
    refine ⟨f133_ok, by simp; omega, fun r hr => ?_⟩
    obtain ⟨y, _, rfl⟩ := List.mem_map.1 hr
    exact ⟨rfl, prd_done y, fun h => Bool.noConfusion h, fun nn => pfind1_c y s nn⟩
  have ho : outI (fun r => qFd [[ds s]] (elV true r)) (l.map Prd.row) = di (idxA (fun y => eqS y.nm s) 0 l) := by
    unfold outI
    rw [idxOf_map Prd.row _ (fun y => eqS y.nm s) (fun y => rfl)]
  simp (maxSteps:=500000) only [↓vp, vv, ↓reduceIte, simprocAttr, c102, r102, c102_1, FdT, Pu]
  refine vc_wk ((weak_ip 3 (0, 3) 0 1 [ds s] (by simp (maxSteps:=500000) only [↓vp, vv, ↓reduceIte, simprocAttr, ]) (by simp (maxSteps:=500000) only [↓vp, vv, ↓reduceIte, simprocAttr, ]) (by simp (maxSteps:=500000) only [↓vp, vv, ↓reduceIte, simprocAttr, ]) (by simp)).trans (weak_eq [] [] [(0, .sl (l.map Prd.row)), (3, .ip [ds s])] (by simp (maxSteps:=500000) only [↓vp, vv, ↓reduceIte, simprocAttr, coverS, ]) (by simp (maxSteps:=500000) only [↓vp, vv, ↓reduceIte, simprocAttr, refsF, ]) (by simp (maxSteps:=500000) only [↓vp, vv, ↓reduceIte, simprocAttr, ]) (by simp) (by simp (maxSteps:=500000) only [↓vp, vv, ↓reduceIte, simprocAttr, ]; try rfl))) ?_
  simp (maxSteps:=500000) only [↓vp, vv, ↓reduceIte, simprocAttr, r102, FdT, selQ, ipsOf, hq, ho, Pu]
def decFd : List D → Option (List Prd × ByteArray)
  | [.sl x, .v (.string s)] => match prdsOf x with
    | some l => some (l, s)
    | Option.none => Option.none
  | _ => Option.none
theorem decFd_eq : ∀ l a, decFd l = some a → l = [.sl (a.1.map Prd.row), ds a.2] := fun l a h => by
  unfold decFd at h
  split at h
  · split at h
    · rename_i e; cases h; rw [prdsOf_eq e]
    · cases h
  · cases h
def FdOk (a : List Prd × ByteArray) : Prop := a.1.length ≤ 1000000
def selFd := selX decFd FdOk fun a => di (idxA (fun y => eqS y.nm a.2) 0 a.1)
theorem tc_fd {T : Tbl} (hT : TblOk Tryd.prog T) : TblOk Tryd.prog (tc 102 (rowPu selFd) T) := tc_x f102_ok decFd_eq (fun a h nn => pfind_c _ h _ nn) hT
def RfF (l : List Prd) (s : ByteArray) (j : Int) : List (Nat × D) := [(0, .sl (l.map Prd.row)), (1, ds s), (7, di l.length), (8, di j)]
theorem pd_idx {q : Prd → Bool} {l : List Prd} {j : Nat} (h : j < l.length) : idxA q j (l.drop j) = if q (pdA l j) = true then (j : Int) else idxA q ((j + 1 : Nat) : Int) (l.drop (j + 1)) := by
  rw [pd_drop h, idxA]
  rfl
set_option maxHeartbeats 4000000 in
theorem rfind_c (l : List Prd) (hl : l.length ≤ 1000000) (s : ByteArray) (nn : Nm) : CallsA Tryd.prog 121 [.sl (l.map Prd.row), ds s] Hp.none nn (Pu (di (idxA (fun y => eqS y.nm s) 0 l)) Hp.none) := by
  obtain ⟨code, h1, h2⟩ := c121_ok
  refine callsA_of (T0_ok _) mixed (N := fun t => (0, t)) Tryd.func121 h1 h2 r121_ok [] false js_nil js_nil' (by simp [Tryd.f121]) ?_
  generalize hX : idxA (fun y : Prd => eqS y.nm s) 0 l = X
  simp (maxSteps:=500000) only [↓vp, vv, ↓reduceIte, simprocAttr, c121]
  refine rng_loop l.length (fun j => ⟨fr (RfF l s (j : Nat)), Hp.none⟩) (fun j => idxA (fun y : Prd => eqS y.nm s) (j : Nat) (l.drop j) = X) (weak0 (by simp (maxSteps:=500000) only [↓vp, vv, ↓reduceIte, simprocAttr, coverS, RfF]) (by simp (maxSteps:=500000) only [↓vp, vv, ↓reduceIte, simprocAttr, refsF, RfF])) hX (fun j hj hP => ?_) (fun hP => ?_)
  · have hj' : (j : Int) < l.length := by omega
    have w1 := idx_next (j := j) (by omega)
    have g1 := pd_get hj
    rw [pd_idx hj] at hP
    unfold eqS at hP
    cases c1 : ((pdA l j).nm.toList == s.toList) with
    | true =>
      rw [if_pos c1] at hP
      simp (maxSteps:=500000) only [↓vp, vv, ↓reduceIte, simprocAttr, c121, r121, c121_1, c121_2, c121_3, c121_4, r121, RfF, hj', hj, g1, Int.toNat_natCast, idx_nn, c1, ← hP, Pu]
    | false =>
      rw [if_neg (by rw [c1]; simp)] at hP
      simp (maxSteps:=500000) only [↓vp, vv, ↓reduceIte, simprocAttr, c121, r121, c121_1, c121_2, c121_3, c121_4, r121, RfF, hj', hj, g1, Int.toNat_natCast, idx_nn, c1]
      refine rng_next hj ?_ hP
      exact (weak_eq [] [] (RfF l s ((j + 1 : Nat) : Int)) (by simp (maxSteps:=500000) only [↓vp, vv, ↓reduceIte, simprocAttr, coverS, RfF, w1]) (by simp (maxSteps:=500000) only [↓vp, vv, ↓reduceIte, simprocAttr, refsF, RfF, w1]) (by simp (maxSteps:=500000) only [↓vp, vv, ↓reduceIte, simprocAttr, RfF, w1]) (by simp) (by simp (maxSteps:=500000) only [↓vp, vv, ↓reduceIte, simprocAttr, RfF, w1]; try rfl))
  · rw [List.drop_of_length_le (Nat.le_refl _), idxA] at hP
    simp (maxSteps:=500000) only [↓vp, vv, ↓reduceIte, simprocAttr, c121, r121, c121_1, c121_2, c121_3, c121_4, r121, Int.lt_irrefl, RfF, ← hP, Pu]
theorem tc_rfd {T : Tbl} (hT : TblOk Tryd.prog T) : TblOk Tryd.prog (tc 121 (rowPu selFd) T) := tc_x f121_ok decFd_eq (fun a h nn => rfind_c _ h _ nn) hT
def CkT : Tbl := tc 91 (rowPu selPV) (tc 102 (rowPu selFd) T0)
theorem CkT_ok : TblOk Tryd.prog CkT := tc_pv (tc_fd (T0_ok _))
def CxT : Tbl := tc 64 (rowPu selPV) (tc 121 (rowPu selFd) T0)
theorem CxT_ok : TblOk Tryd.prog CxT := tc_rpv (tc_rfd (T0_ok _))
theorem all_drop {l : List Prd} {j : Nat} (h : j < l.length) {b : Bool} (he : (l.drop j).all pV = b) : (pV (pdA l j) = false → b = false) ∧ (pV (pdA l j) = true → (l.drop (j + 1)).all pV = b) := by
  rw [pd_drop h, List.all_cons] at he
  exact ⟨fun k => by rw [k] at he; simpa using he.symm, fun k => by rw [k] at he; simpa using he⟩
def CkF (l : List Prd) (a b c : Nat) (j : Int) : List (Nat × D) := [(0, .sl (l.map Prd.row)), (a, .sl (l.map Prd.row)), (b, di l.length), (c, di j)]
def CxF (l : List Prd) (b c : Nat) (j : Int) : List (Nat × D) := [(0, .sl (l.map Prd.row)), (b, di l.length), (c, di j)]
theorem dup_step {l : List Prd} {i : Nat} (hi : i < l.length) {b : Bool} (he : ((List.range l.length).drop i).any (dupAt eqPn l) = b) :
    (idxA (fun y => eqS y.nm (pdA l i).nm) 0 l ≤ (i : Int)) ∧ (idxA (fun y => eqS y.nm (pdA l i).nm) 0 l < (i : Int) → b = true) ∧ (¬ idxA (fun y => eqS y.nm (pdA l i).nm) 0 l < (i : Int) → ((List.range l.length).drop (i + 1)).any (dupAt eqPn l) = b) := by
  have hil : i < (List.range l.length).length := by simpa using hi
  obtain ⟨hf, ht⟩ := drop_any hil he
  rw [range_at, dup_at hi, pd_at hi] at hf ht
  have hix := idxA_lt (fun y => eqS y.nm (pdA l i).nm) l 0 i hi (Int.le_refl _) (by rw [pd_at hi]; exact eqS_self _)
  have hix1 := idxA_lt (fun y => eqS y.nm (pdA l i).nm) l 0
  rw [Int.zero_add] at hix
  refine ⟨?_, fun h => hf (hix.1 h), fun h => ht ?_⟩
  · have : ∀ (m : List Prd) (k : Int) (i : Nat) (h : i < m.length) (q : Prd → Bool), q m[i] = true → idxA q k m ≤ k + i := by
      intro m
      induction m with
      | nil => intro k i h; simp at h
      | cons r m ih =>
        intro k i h q hq
        rw [idxA]
        split
        · omega
        · rename_i hr
          match i, h with
          | 0, _ => exact absurd hq hr
          | i + 1, h =>
            have := ih (k + 1) i (by simpa using h) q (by simpa using hq)
            omega
    have := this l 0 i hi (fun y => eqS y.nm (pdA l i).nm) (by rw [pd_at hi]; exact eqS_self _)
    omega
  · cases hd : (l.take i).any (eqPn (pdA l i)) with
    | false => rfl
    | true => exact absurd (hix.2 hd) h
set_option maxHeartbeats 8000000 in
theorem pcheck_c (l : List Prd) (hl : l.length ≤ 1000000) (nn : Nm) : CallsA Tryd.prog 66 [.sl (l.map Prd.row)] Hp.none nn (Pu (di (pckI l)) Hp.none) := by
  obtain ⟨code, h1, h2⟩ := c66_ok
  refine callsA_of CkT_ok mixed (N := fun t => (0, t)) Tryd.func66 h1 h2 r66_ok [] false js_nil js_nil' (by simp [Tryd.f66]) ?_
  cases c0 : decide ((16 : Int) < (l.length : Int)) with
  | true =>
    have e : pckI l = 4 := by unfold pckI; rw [if_pos (by have := of_decide_eq_true c0; omega)]
    simp (maxSteps:=500000) only [↓vp, vv, ↓reduceIte, simprocAttr, c66, r66, c66_1, c66_2, c66_3, c66_4, c66_5, c66_6, c66_7, c66_8, c66_9, r66, CkT, c0, e, Pu]
  | false =>
  have e0 : pckI l = if l.all pV then (if dupB eqPn l then 7 else 0) else 9 := by unfold pckI; rw [if_neg (by have := of_decide_eq_false c0; omega)]
  generalize hb : l.all pV = b at e0
  generalize hc : dupB eqPn l = d at e0
  simp (maxSteps:=500000) only [↓vp, vv, ↓reduceIte, simprocAttr, c66, r66, c66_1, c66_2, c66_3, c66_4, c66_5, c66_6, c66_7, c66_8, c66_9, CkT, c0]
  refine rng_loop l.length (fun j => ⟨fr (CkF l 10 11 12 (j : Nat)), Hp.none⟩) (fun j => (l.drop j).all pV = b) (weak0 (by simp (maxSteps:=500000) only [↓vp, vv, ↓reduceIte, simprocAttr, coverS, CkF]) (by simp (maxSteps:=500000) only [↓vp, vv, ↓reduceIte, simprocAttr, refsF, CkF])) hb (fun j hj hP => ?_) (fun hP => ?_)
  · have hj' : (j : Int) < l.length := by omega
    have w1 := idx_next (j := j) (by omega)
    have g1 := pd_get hj
    obtain ⟨n1, n2⟩ := all_drop hj hP
    generalize pdA l j = p at g1 n1 n2
    cases c1 : pV p with
    | false =>
      have := n1 c1
      subst this
      simp (maxSteps:=500000) only [↓vp, vv, ↓reduceIte, simprocAttr, c66, r66, c66_1, c66_2, c66_3, c66_4, c66_5, c66_6, c66_7, c66_8, c66_9, r66, CkT, selPV, selX, decP, tt, prdOf_x, CkF, hj', hj, g1, Int.toNat_natCast, idx_nn, c1, e0, Pu]
    | true =>
      simp (maxSteps:=500000) only [↓vp, vv, ↓reduceIte, simprocAttr, c66, r66, c66_1, c66_2, c66_3, c66_4, c66_5, c66_6, c66_7, c66_8, c66_9, r66, CkT, selPV, selX, decP, tt, prdOf_x, CkF, hj', hj, g1, Int.toNat_natCast, idx_nn, c1]
      refine rng_next hj ?_ (n2 c1)
      exact (weak_eq [] [] (CkF l 10 11 12 ((j + 1 : Nat) : Int)) (by simp (maxSteps:=500000) only [↓vp, vv, ↓reduceIte, simprocAttr, coverS, CkF, w1]) (by simp (maxSteps:=500000) only [↓vp, vv, ↓reduceIte, simprocAttr, refsF, CkF, w1]) (by simp (maxSteps:=500000) only [↓vp, vv, ↓reduceIte, simprocAttr, CkF, w1]) (by simp) (by simp (maxSteps:=500000) only [↓vp, vv, ↓reduceIte, simprocAttr, CkF, w1]; try rfl))
  · rw [List.drop_of_length_le (Nat.le_refl _)] at hP
    have : b = true := hP.symm
    subst this
    simp (maxSteps:=500000) only [↓vp, vv, ↓reduceIte, simprocAttr, c66, r66, c66_1, c66_2, c66_3, c66_4, c66_5, c66_6, c66_7, c66_8, c66_9, CkT, CkF, Int.lt_irrefl]
    refine rng_loop l.length (fun j => ⟨fr (CkF l 20 21 22 (j : Nat)), Hp.none⟩) (fun j => ((List.range l.length).drop j).any (dupAt eqPn l) = d) (weak0 (by simp (maxSteps:=500000) only [↓vp, vv, ↓reduceIte, simprocAttr, coverS, CkF]) (by simp (maxSteps:=500000) only [↓vp, vv, ↓reduceIte, simprocAttr, refsF, CkF])) hc (fun j hj hP => ?_) (fun hP => ?_)
    · have hj' : (j : Int) < l.length := by omega
      have w1 := idx_next (j := j) (by omega)
      have g1 := pd_get hj
      obtain ⟨_, n1, n2⟩ := dup_step hj hP
      have ep := prdsOf_map l
      have hl' : FdOk (l, (pdA l j).nm) := hl
      generalize pdA l j = p at g1 n1 n2 hl'
      by_cases c1 : idxA (fun y => eqS y.nm p.nm) 0 l < (j : Int)
      · have := n1 c1
        subst this
        simp (maxSteps:=500000) only [↓vp, vv, ↓reduceIte, simprocAttr, c66, r66, c66_1, c66_2, c66_3, c66_4, c66_5, c66_6, c66_7, c66_8, c66_9, r66, CkT, selFd, selX, decFd, ep, hl', CkF, hj', hj, g1, Int.toNat_natCast, idx_nn, c1, e0, Pu]
      · simp (maxSteps:=500000) only [↓vp, vv, ↓reduceIte, simprocAttr, c66, r66, c66_1, c66_2, c66_3, c66_4, c66_5, c66_6, c66_7, c66_8, c66_9, r66, CkT, selFd, selX, decFd, ep, hl', CkF, hj', hj, g1, Int.toNat_natCast, idx_nn, c1]
        refine rng_next hj ?_ (n2 c1)
        exact (weak_eq [] [] (CkF l 20 21 22 ((j + 1 : Nat) : Int)) (by simp (maxSteps:=500000) only [↓vp, vv, ↓reduceIte, simprocAttr, coverS, CkF, w1]) (by simp (maxSteps:=500000) only [↓vp, vv, ↓reduceIte, simprocAttr, refsF, CkF, w1]) (by simp (maxSteps:=500000) only [↓vp, vv, ↓reduceIte, simprocAttr, CkF, w1]) (by simp) (by simp (maxSteps:=500000) only [↓vp, vv, ↓reduceIte, simprocAttr, CkF, w1]; try rfl))
    · have : d = false := drop_any_end (by simp) hP
      subst this
      simp (maxSteps:=500000) only [↓vp, vv, ↓reduceIte, simprocAttr, c66, r66, c66_1, c66_2, c66_3, c66_4, c66_5, c66_6, c66_7, c66_8, c66_9, r66, CkT, CkF, Int.lt_irrefl, e0, Pu]
set_option maxHeartbeats 8000000 in
theorem rpcheck_c (l : List Prd) (hl : l.length ≤ 1000000) (nn : Nm) : CallsA Tryd.prog 79 [.sl (l.map Prd.row)] Hp.none nn (Pu (di (pckI l)) Hp.none) := by
  obtain ⟨code, h1, h2⟩ := c79_ok
  refine callsA_of CxT_ok mixed (N := fun t => (0, t)) Tryd.func79 h1 h2 r79_ok [] false js_nil js_nil' (by simp [Tryd.f79]) ?_
  cases c0 : decide ((16 : Int) < (l.length : Int)) with
  | true =>
    have e : pckI l = 4 := by unfold pckI; rw [if_pos (by have := of_decide_eq_true c0; omega)]
    simp (maxSteps:=500000) only [↓vp, vv, ↓reduceIte, simprocAttr, c79, r79, c79_1, c79_2, c79_3, c79_4, c79_5, c79_6, c79_7, c79_8, c79_9, r79, CxT, c0, e, Pu]
  | false =>
  have e0 : pckI l = if l.all pV then (if dupB eqPn l then 7 else 0) else 9 := by unfold pckI; rw [if_neg (by have := of_decide_eq_false c0; omega)]
  generalize hb : l.all pV = b at e0
  generalize hc : dupB eqPn l = d at e0
  simp (maxSteps:=500000) only [↓vp, vv, ↓reduceIte, simprocAttr, c79, r79, c79_1, c79_2, c79_3, c79_4, c79_5, c79_6, c79_7, c79_8, c79_9, CxT, c0]
  refine rng_loop l.length (fun j => ⟨fr (CxF l 9 10 (j : Nat)), Hp.none⟩) (fun j => (l.drop j).all pV = b) (weak0 (by simp (maxSteps:=500000) only [↓vp, vv, ↓reduceIte, simprocAttr, coverS, CxF]) (by simp (maxSteps:=500000) only [↓vp, vv, ↓reduceIte, simprocAttr, refsF, CxF])) hb (fun j hj hP => ?_) (fun hP => ?_)
  · have hj' : (j : Int) < l.length := by omega
    have w1 := idx_next (j := j) (by omega)
    have g1 := pd_get hj
    obtain ⟨n1, n2⟩ := all_drop hj hP
    generalize pdA l j = p at g1 n1 n2
    cases c1 : pV p with
    | false =>
      have := n1 c1
      subst this
      simp (maxSteps:=500000) only [↓vp, vv, ↓reduceIte, simprocAttr, c79, r79, c79_1, c79_2, c79_3, c79_4, c79_5, c79_6, c79_7, c79_8, c79_9, r79, CxT, selPV, selX, decP, tt, prdOf_x, CxF, hj', hj, g1, Int.toNat_natCast, idx_nn, c1, e0, Pu]
    | true =>
      simp (maxSteps:=500000) only [↓vp, vv, ↓reduceIte, simprocAttr, c79, r79, c79_1, c79_2, c79_3, c79_4, c79_5, c79_6, c79_7, c79_8, c79_9, r79, CxT, selPV, selX, decP, tt, prdOf_x, CxF, hj', hj, g1, Int.toNat_natCast, idx_nn, c1]
      refine rng_next hj ?_ (n2 c1)
      exact (weak_eq [] [] (CxF l 9 10 ((j + 1 : Nat) : Int)) (by simp (maxSteps:=500000) only [↓vp, vv, ↓reduceIte, simprocAttr, coverS, CxF, w1]) (by simp (maxSteps:=500000) only [↓vp, vv, ↓reduceIte, simprocAttr, refsF, CxF, w1]) (by simp (maxSteps:=500000) only [↓vp, vv, ↓reduceIte, simprocAttr, CxF, w1]) (by simp) (by simp (maxSteps:=500000) only [↓vp, vv, ↓reduceIte, simprocAttr, CxF, w1]; try rfl))
  · rw [List.drop_of_length_le (Nat.le_refl _)] at hP
    have : b = true := hP.symm
    subst this
    simp (maxSteps:=500000) only [↓vp, vv, ↓reduceIte, simprocAttr, c79, r79, c79_1, c79_2, c79_3, c79_4, c79_5, c79_6, c79_7, c79_8, c79_9, CxT, CxF, Int.lt_irrefl]
    refine rng_loop l.length (fun j => ⟨fr (CxF l 21 22 (j : Nat)), Hp.none⟩) (fun j => ((List.range l.length).drop j).any (dupAt eqPn l) = d) (weak0 (by simp (maxSteps:=500000) only [↓vp, vv, ↓reduceIte, simprocAttr, coverS, CxF]) (by simp (maxSteps:=500000) only [↓vp, vv, ↓reduceIte, simprocAttr, refsF, CxF])) hc (fun j hj hP => ?_) (fun hP => ?_)
    · have hj' : (j : Int) < l.length := by omega
      have w1 := idx_next (j := j) (by omega)
      have g1 := pd_get hj
      obtain ⟨n0, n1, n2⟩ := dup_step hj hP
      have ep := prdsOf_map l
      have hl' : FdOk (l, (pdA l j).nm) := hl
      generalize pdA l j = p at g1 n0 n1 n2 hl'
      cases c1 : (idxA (fun y => eqS y.nm p.nm) 0 l != (j : Int)) with
      | true =>
        have := n1 (by have := neq_b c1; omega)
        subst this
        simp (maxSteps:=500000) only [↓vp, vv, ↓reduceIte, simprocAttr, c79, r79, c79_1, c79_2, c79_3, c79_4, c79_5, c79_6, c79_7, c79_8, c79_9, r79, CxT, selFd, selX, decFd, ep, hl', CxF, hj', hj, g1, Int.toNat_natCast, idx_nn, c1, e0, Pu]
      | false =>
        have nx := n2 (by have := eq_b c1; omega)
        simp (maxSteps:=500000) only [↓vp, vv, ↓reduceIte, simprocAttr, c79, r79, c79_1, c79_2, c79_3, c79_4, c79_5, c79_6, c79_7, c79_8, c79_9, r79, CxT, selFd, selX, decFd, ep, hl', CxF, hj', hj, g1, Int.toNat_natCast, idx_nn, c1]
        refine rng_next hj ?_ nx
        exact (weak_eq [] [] (CxF l 21 22 ((j + 1 : Nat) : Int)) (by simp (maxSteps:=500000) only [↓vp, vv, ↓reduceIte, simprocAttr, coverS, CxF, w1]) (by simp (maxSteps:=500000) only [↓vp, vv, ↓reduceIte, simprocAttr, refsF, CxF, w1]) (by simp (maxSteps:=500000) only [↓vp, vv, ↓reduceIte, simprocAttr, CxF, w1]) (by simp) (by simp (maxSteps:=500000) only [↓vp, vv, ↓reduceIte, simprocAttr, CxF, w1]; try rfl))
    · have : d = false := drop_any_end (by simp) hP
      subst this
      simp (maxSteps:=500000) only [↓vp, vv, ↓reduceIte, simprocAttr, c79, r79, c79_1, c79_2, c79_3, c79_4, c79_5, c79_6, c79_7, c79_8, c79_9, r79, CxT, CxF, Int.lt_irrefl, e0, Pu]
def decPs : List D → Option (List Prd)
  | [.sl x] => prdsOf x
  | _ => Option.none
theorem decPs_eq : ∀ l a, decPs l = some a → l = [.sl (a.map Prd.row)] := fun l a h => by
  unfold decPs at h
  split at h
  · rw [prdsOf_eq h]
  · cases h
def PsOk (a : List Prd) : Prop := a.length ≤ 1000000
def selPk := selX decPs PsOk fun a => di (pckI a)
theorem tc_pck {T : Tbl} (hT : TblOk Tryd.prog T) : TblOk Tryd.prog (tc 66 (rowPu selPk) T) := tc_x f66_ok decPs_eq (fun a h nn => pcheck_c _ h nn) hT
theorem tc_rpck {T : Tbl} (hT : TblOk Tryd.prog T) : TblOk Tryd.prog (tc 79 (rowPu selPk) T) := tc_x f79_ok decPs_eq (fun a h nn => rpcheck_c _ h nn) hT
structure Pce where
  ba : Int
  vo : Int
def Pce.row (p : Pce) : List D := [di p.ba, di p.vo]
def pcA (l : List Pce) (j : Nat) : Pce := l.getD j ⟨0, 0⟩
theorem pc_get {l : List Pce} {j : Nat} (h : j < l.length) : (l.map Pce.row).getD j [] = [di (pcA l j).ba, di (pcA l j).vo] := by
  unfold pcA
  rw [List.getD_eq_getElem?_getD, List.getElem?_map, List.getD_eq_getElem?_getD, List.getElem?_eq_getElem h]
  rfl
theorem pc_at {l : List Pce} {j : Nat} (h : j < l.length) : l[j] = pcA l j := by
  unfold pcA
  rw [List.getD_eq_getElem?_getD, List.getElem?_eq_getElem h]
  rfl
theorem pc_drop {l : List Pce} {j : Nat} (h : j < l.length) : l.drop j = pcA l j :: l.drop (j + 1) := by
  rw [List.drop_eq_getElem_cons h, pc_at h]
def pcOf : List D → Option Pce
  | [.v (.int .i64 a), .v (.int .i64 b)] => some ⟨a, b⟩
  | _ => Option.none
theorem pcOf_x (p : Pce) : pcOf [di p.ba, di p.vo] = some p := rfl
theorem pcOf_eq {l : List D} {m : Pce} (h : pcOf l = some m) : l = m.row := by unfold pcOf at h; split at h <;> cases h; rfl
def pcsOf : List (List D) → Option (List Pce)
  | [] => some []
  | r :: l => match pcOf r, pcsOf l with
    | some c, some cs => some (c :: cs)
    | _, _ => Option.none
theorem pcsOf_map (l : List Pce) : pcsOf (l.map Pce.row) = some l := by
  induction l with
  | nil => rfl
  | cons c l ih => rw [List.map_cons, pcsOf, ih]; rfl
theorem pcsOf_eq : ∀ {l : List (List D)} {cs : List Pce}, pcsOf l = some cs → l = cs.map Pce.row
  | [], cs, h => by cases h; rfl
  | r :: l, cs, h => by
    rw [pcsOf] at h
    split at h
    · rename_i e e'; cases h; rw [List.map_cons, pcOf_eq e, pcsOf_eq e']
    · cases h
def litB (p : Pce) : Bool := decide (0 ≤ p.ba) && (decide (p.ba < 1000) && (decide (0 ≤ p.vo) && decide (p.vo ≤ 1000000)))
def pcBad (l : List Pce) (i : Nat) : Bool := !litB (pcA l i) || ((pcA l i).vo == 0 || (decide (0 < i) && ((pcA l (i - 1)).ba == (pcA l i).ba)))
def volW : List Pce → Int → Int
  | [], s => s
  | p :: l, s => volW l (IntKind.i64.wrap (s + p.vo))
def flV (l : List Pce) : Bool := if 200 < l.length then false else if (List.range l.length).any (pcBad l) then false else decide (volW l 0 ≤ 1000000)
theorem bad_step {l : List Pce} {i : Nat} (hi : i < l.length) {b : Bool} (he : ((List.range l.length).drop i).any (pcBad l) = b) : (pcBad l i = true → b = true) ∧ (pcBad l i = false → ((List.range l.length).drop (i + 1)).any (pcBad l) = b) := by
  have h := drop_any (p := pcBad l) (l := List.range l.length) (j := i) (by simpa using hi) he
  rw [range_at] at h
  exact h
def decPc : List D → Option Pce
  | [.agg x] => pcOf x
  | _ => Option.none
theorem decPc_eq : ∀ l a, decPc l = some a → l = [.agg a.row] := fun l a h => by
  unfold decPc at h
  split at h
  · rw [pcOf_eq h]
  · cases h
theorem litre_c (p : Pce) (nn : Nm) : CallsA Tryd.prog 103 [.agg p.row] Hp.none nn (Pu (db (litB p)) Hp.none) := by
  obtain ⟨code, h1, h2⟩ := c103_ok
  refine callsA_of (T0_ok _) mixed (N := fun t => (0, t)) Tryd.func103 h1 h2 r103_ok [] false js_nil js_nil' (by simp [Tryd.f103]) ?_
  unfold litB
  cases c1 : decide (0 ≤ p.ba) with
  | false => simp (maxSteps:=500000) only [↓vp, vv, ↓reduceIte, simprocAttr, c103, r103, r103, Pce.row, c1, Pu, Bool.false_and]
  | true =>
  cases c2 : decide (p.ba < 1000) with
  | false => simp (maxSteps:=500000) only [↓vp, vv, ↓reduceIte, simprocAttr, c103, r103, r103, Pce.row, c1, c2, Pu, Bool.false_and, Bool.true_and]
  | true =>
  cases c3 : decide (0 ≤ p.vo) with
  | false => simp (maxSteps:=500000) only [↓vp, vv, ↓reduceIte, simprocAttr, c103, r103, r103, Pce.row, c1, c2, c3, Pu, Bool.false_and, Bool.true_and]
  | true => simp (maxSteps:=500000) only [↓vp, vv, ↓reduceIte, simprocAttr, c103, r103, r103, Pce.row, c1, c2, c3, Pu, Bool.true_and]
def selLi := selX decPc tt fun p => db (litB p)
theorem tc_li {T : Tbl} (hT : TblOk Tryd.prog T) : TblOk Tryd.prog (tc 103 (rowPu selLi) T) := tc_x f103_ok decPc_eq (fun a h nn => litre_c _ nn) hT
def ToF (l : List Pce) (s : Int) (j : Int) : List (Nat × D) := [(3, di s), (6, .sl (l.map Pce.row)), (7, di l.length), (8, di j)]
set_option maxHeartbeats 4000000 in
theorem total_c (l : List Pce) (hl : l.length ≤ 1000000) (nn : Nm) : CallsA Tryd.prog 104 [.sl (l.map Pce.row)] Hp.none nn (Pu (di (volW l 0)) Hp.none) := by
  obtain ⟨code, h1, h2⟩ := c104_ok
  refine callsA_of (T0_ok _) mixed (N := fun t => (0, t)) Tryd.func104 h1 h2 r104_ok [] false js_nil js_nil' (by simp [Tryd.f104]) ?_
  generalize hX : volW l 0 = X
  simp (maxSteps:=500000) only [↓vp, vv, ↓reduceIte, simprocAttr, c104, r104, c104_1, c104_2, c104_3]
  refine rng_loopP l.length (fun j (s : Int) => ⟨fr (ToF l s (j : Nat)), Hp.none⟩) (fun j s => volW (l.drop j) s = X) (u0 := 0) (weak0 (by simp (maxSteps:=500000) only [↓vp, vv, ↓reduceIte, simprocAttr, coverS, ToF]) (by simp (maxSteps:=500000) only [↓vp, vv, ↓reduceIte, simprocAttr, refsF, ToF])) hX (fun j hj s hP => ?_) (fun s hP => ?_)
  · have hj' : (j : Int) < l.length := by omega
    have w1 := idx_next (j := j) (by omega)
    have g1 := pc_get hj
    have nx := hP
    rw [pc_drop hj, volW] at nx
    simp (maxSteps:=500000) only [↓vp, vv, ↓reduceIte, simprocAttr, c104, r104, c104_1, c104_2, c104_3, ToF, hj', hj, g1, Int.toNat_natCast, idx_nn]
    refine rng_nextP hj (IntKind.i64.wrap (s + (pcA l j).vo)) ?_ nx
    exact (weak_eq [] [] (ToF l (IntKind.i64.wrap (s + (pcA l j).vo)) ((j + 1 : Nat) : Int)) (by simp (maxSteps:=500000) only [↓vp, vv, ↓reduceIte, simprocAttr, coverS, ToF, w1]) (by simp (maxSteps:=500000) only [↓vp, vv, ↓reduceIte, simprocAttr, refsF, ToF, w1]) (by simp (maxSteps:=500000) only [↓vp, vv, ↓reduceIte, simprocAttr, ToF, w1]) (by simp) (by simp (maxSteps:=500000) only [↓vp, vv, ↓reduceIte, simprocAttr, ToF, w1]; try rfl))
  · rw [List.drop_of_length_le (Nat.le_refl _), volW] at hP
    simp (maxSteps:=500000) only [↓vp, vv, ↓reduceIte, simprocAttr, c104, r104, c104_1, c104_2, c104_3, r104, Int.lt_irrefl, ToF, hP, Pu]
def decPf : List D → Option (List Pce)
  | [.sl x] => pcsOf x
  | _ => Option.none
theorem decPf_eq : ∀ l a, decPf l = some a → l = [.sl (a.map Pce.row)] := fun l a h => by
  unfold decPf at h
  split at h
  · rw [pcsOf_eq h]
  · cases h
def PfOk (a : List Pce) : Prop := a.length ≤ 1000000
def selTo := selX decPf PfOk fun a => di (volW a 0)
theorem tc_to {T : Tbl} (hT : TblOk Tryd.prog T) : TblOk Tryd.prog (tc 104 (rowPu selTo) T) := tc_x f104_ok decPf_eq (fun a h nn => total_c _ h nn) hT
def VlT : Tbl := tc 103 (rowPu selLi) (tc 104 (rowPu selTo) T0)
theorem VlT_ok : TblOk Tryd.prog VlT := tc_li (tc_to (T0_ok _))
def VlF (l : List Pce) (j : Int) : List (Nat × D) := [(0, .sl (l.map Pce.row)), (8, .sl (l.map Pce.row)), (9, di l.length), (10, di j)]
set_option maxHeartbeats 8000000 in
theorem fvalid_c (l : List Pce) (hl : l.length ≤ 1000000) (nn : Nm) : CallsA Tryd.prog 67 [.sl (l.map Pce.row)] Hp.none nn (Pu (db (flV l)) Hp.none) := by
  obtain ⟨code, h1, h2⟩ := c67_ok
  refine callsA_of VlT_ok mixed (N := fun t => (0, t)) Tryd.func67 h1 h2 r67_ok [] false js_nil js_nil' (by simp [Tryd.f67]) ?_
  cases c0 : decide ((200 : Int) < (l.length : Int)) with
  | true =>
    have e : flV l = false := by unfold flV; rw [if_pos (by have := of_decide_eq_true c0; omega)]
    simp (maxSteps:=500000) only [↓vp, vv, ↓reduceIte, simprocAttr, c67, r67, c67_1, c67_2, c67_3, c67_4, c67_5, r67, VlT, c0, e, Pu]
  | false =>
  have e0 : flV l = if (List.range l.length).any (pcBad l) then false else decide (volW l 0 ≤ 1000000) := by unfold flV; rw [if_neg (by have := of_decide_eq_false c0; omega)]
  generalize hb : (List.range l.length).any (pcBad l) = b at e0
  have hto : PfOk l := hl
  simp (maxSteps:=500000) only [↓vp, vv, ↓reduceIte, simprocAttr, c67, r67, c67_1, c67_2, c67_3, c67_4, c67_5, VlT, c0]
  refine rng_loop l.length (fun j => ⟨fr (VlF l (j : Nat)), Hp.none⟩) (fun j => ((List.range l.length).drop j).any (pcBad l) = b) (weak0 (by simp (maxSteps:=500000) only [↓vp, vv, ↓reduceIte, simprocAttr, coverS, VlF]) (by simp (maxSteps:=500000) only [↓vp, vv, ↓reduceIte, simprocAttr, refsF, VlF])) hb (fun j hj hP => ?_) (fun hP => ?_)
  · have hj' : (j : Int) < l.length := by omega
    have w1 := idx_next (j := j) (by omega)
    have g1 := pc_get hj
    obtain ⟨n1, n2⟩ := bad_step hj hP
    have hb2 : pcBad l j = (!litB (pcA l j) || ((pcA l j).vo == 0 || (decide (0 < j) && ((pcA l (j - 1)).ba == (pcA l j).ba)))) := rfl
    by_cases z : j = 0
    · subst z
      have hj0 : (0 : Int) < l.length := hj'
      have w0 : IntKind.i64.wrap 1 = 1 := by decide
      generalize pcA l 0 = p at g1 hb2
      cases c1 : litB p with
      | false =>
        have := n1 (by rw [hb2, c1]; rfl)
        subst this
        simp (maxSteps:=500000) only [↓vp, vv, ↓reduceIte, simprocAttr, c67, r67, c67_1, c67_2, c67_3, c67_4, c67_5, r67, VlT, selLi, selX, decPc, tt, pcOf_x, VlF, hj0, hj, g1, Int.toNat_natCast, idx_nn, c1, e0, Pu]
      | true =>
      cases c2 : (p.vo == 0) with
      | true =>
        have := n1 (by rw [hb2, c1, c2]; rfl)
        subst this
        simp (maxSteps:=500000) only [↓vp, vv, ↓reduceIte, simprocAttr, c67, r67, c67_1, c67_2, c67_3, c67_4, c67_5, r67, VlT, selLi, selX, decPc, tt, pcOf_x, VlF, hj0, hj, g1, Int.toNat_natCast, idx_nn, c1, c2, e0, Pu]
      | false =>
        have nx := n2 (by rw [hb2, c1, c2]; rfl)
        simp (maxSteps:=500000) only [↓vp, vv, ↓reduceIte, simprocAttr, c67, r67, c67_1, c67_2, c67_3, c67_4, c67_5, r67, VlT, selLi, selX, decPc, tt, pcOf_x, VlF, hj0, hj, g1, Int.toNat_natCast, idx_nn, c1, c2]
        refine rng_next hj ?_ nx
        exact (weak_eq [] [] (VlF l ((0 + 1 : Nat) : Int)) (by simp (maxSteps:=500000) only [↓vp, vv, ↓reduceIte, simprocAttr, coverS, VlF, w1, w0]) (by simp (maxSteps:=500000) only [↓vp, vv, ↓reduceIte, simprocAttr, refsF, VlF, w1, w0]) (by simp (maxSteps:=500000) only [↓vp, vv, ↓reduceIte, simprocAttr, VlF, w1, w0]) (by simp) (by simp (maxSteps:=500000) only [↓vp, vv, ↓reduceIte, simprocAttr, VlF, w1, w0]; try rfl))
    · have z1 : decide ((0 : Int) < (j : Int)) = true := decide_eq_true (by omega)
      have z2 : decide (0 < j) = true := decide_eq_true (by omega)
      have w2 : IntKind.i64.wrap ((j : Int) - 1) = ((j - 1 : Nat) : Int) := by rw [wrap_i (by omega)]; omega
      have hp : j - 1 < l.length := by omega
      have hp' : ((j - 1 : Nat) : Int) < l.length := by omega
      have g2 := pc_get hp
      rw [z2] at hb2
      generalize pcA l j = p at g1 hb2
      generalize pcA l (j - 1) = q at g2 hb2
      cases c1 : litB p with
      | false =>
        have := n1 (by rw [hb2, c1]; rfl)
        subst this
        simp (maxSteps:=500000) only [↓vp, vv, ↓reduceIte, simprocAttr, c67, r67, c67_1, c67_2, c67_3, c67_4, c67_5, r67, VlT, selLi, selX, decPc, tt, pcOf_x, VlF, hj', hj, g1, Int.toNat_natCast, idx_nn, c1, e0, Pu]
      | true =>
      cases c2 : (p.vo == 0) with
      | true =>
        have := n1 (by rw [hb2, c1, c2]; rfl)
        subst this
        simp (maxSteps:=500000) only [↓vp, vv, ↓reduceIte, simprocAttr, c67, r67, c67_1, c67_2, c67_3, c67_4, c67_5, r67, VlT, selLi, selX, decPc, tt, pcOf_x, VlF, hj', hj, g1, Int.toNat_natCast, idx_nn, c1, c2, e0, Pu]
      | false =>
      cases c3 : (q.ba == p.ba) with
      | true =>
        have := n1 (by rw [hb2, c1, c2, c3]; rfl)
        subst this
        simp (maxSteps:=500000) only [↓vp, vv, ↓reduceIte, simprocAttr, c67, r67, c67_1, c67_2, c67_3, c67_4, c67_5, r67, VlT, selLi, selX, decPc, tt, pcOf_x, VlF, hj', hj, hp, hp', g1, g2, z1, w2, Int.toNat_natCast, idx_nn, c1, c2, c3, e0, Pu]
      | false =>
        have nx := n2 (by rw [hb2, c1, c2, c3]; rfl)
        simp (maxSteps:=500000) only [↓vp, vv, ↓reduceIte, simprocAttr, c67, r67, c67_1, c67_2, c67_3, c67_4, c67_5, r67, VlT, selLi, selX, decPc, tt, pcOf_x, VlF, hj', hj, hp, hp', g1, g2, z1, w2, Int.toNat_natCast, idx_nn, c1, c2, c3]
        refine rng_next hj ?_ nx
        exact (weak_eq [] [] (VlF l ((j + 1 : Nat) : Int)) (by simp (maxSteps:=500000) only [↓vp, vv, ↓reduceIte, simprocAttr, coverS, VlF, w1]) (by simp (maxSteps:=500000) only [↓vp, vv, ↓reduceIte, simprocAttr, refsF, VlF, w1]) (by simp (maxSteps:=500000) only [↓vp, vv, ↓reduceIte, simprocAttr, VlF, w1]) (by simp) (by simp (maxSteps:=500000) only [↓vp, vv, ↓reduceIte, simprocAttr, VlF, w1]; try rfl))
  · have : b = false := drop_any_end (by simp) hP
    subst this
    simp (maxSteps:=500000) only [↓vp, vv, ↓reduceIte, simprocAttr, c67, r67, c67_1, c67_2, c67_3, c67_4, c67_5, r67, VlT, selTo, selX, decPf, pcsOf_map, hto, VlF, Int.lt_irrefl, e0, Pu]
def selFv := selX decPf PfOk fun a => db (flV a)
theorem tc_fv {T : Tbl} (hT : TblOk Tryd.prog T) : TblOk Tryd.prog (tc 67 (rowPu selFv) T) := tc_x f67_ok decPf_eq (fun a h nn => fvalid_c _ h nn) hT
def prB2 (n : Int) : Bool := decide (0 ≤ n) && decide (n < 1000)
theorem rfproper_c (n : Int) (nn : Nm) : CallsA Tryd.prog 107 [di n] Hp.none nn (Pu (db (prB2 n)) Hp.none) := by
  obtain ⟨code, h1, h2⟩ := c107_ok
  refine callsA_of (T0_ok _) mixed (N := fun t => (0, t)) Tryd.func107 h1 h2 r107_ok [] false js_nil js_nil' (by simp [Tryd.f107]) ?_
  unfold prB2
  cases c1 : decide (0 ≤ n) with
  | false => simp (maxSteps:=500000) only [↓vp, vv, ↓reduceIte, simprocAttr, c107, r107, r107, c1, Pu, Bool.false_and]
  | true => simp (maxSteps:=500000) only [↓vp, vv, ↓reduceIte, simprocAttr, c107, r107, r107, c1, Pu, Bool.true_and]
def decI0 : List D → Option Int
  | [.v (.int .i64 n)] => some n
  | _ => Option.none
theorem decI0_eq : ∀ l a, decI0 l = some a → l = [di a] := fun l a h => by unfold decI0 at h; split at h <;> cases h; rfl
def selPr2 := selX decI0 tt fun n => db (prB2 n)
theorem tc_pr2 {T : Tbl} (hT : TblOk Tryd.prog T) : TblOk Tryd.prog (tc 107 (rowPu selPr2) T) := tc_x f107_ok decI0_eq (fun a h nn => rfproper_c _ nn) hT
theorem bad_eq (l : List Pce) (j : Nat) (p q : Pce) (hp : pcA l j = p) (hq : pcA l (j - 1) = q) : pcBad l j = (!prB2 p.ba || (decide (p.vo < 1) || (decide (1000000 < p.vo) || (decide (0 < j) && (p.ba == q.ba))))) := by
  unfold pcBad litB prB2
  rw [hp, hq, show (q.ba == p.ba) = (p.ba == q.ba) from by rw [Bool.eq_iff_iff, beq_iff_eq, beq_iff_eq]; exact eq_comm]
  rw [Bool.eq_iff_iff]
  simp only [Bool.or_eq_true, Bool.not_eq_true', Bool.and_eq_true, Bool.and_eq_false_iff, decide_eq_true_eq, decide_eq_false_iff_not, beq_iff_eq]
  omega
def RvT : Tbl := tc 107 (rowPu selPr2) T0
theorem RvT_ok : TblOk Tryd.prog RvT := tc_pr2 (T0_ok _)
def RvF (l : List Pce) (s : Int) (j : Int) : List (Nat × D) := [(0, .sl (l.map Pce.row)), (3, di s), (9, .sl (l.map Pce.row)), (10, di l.length), (11, di j)]
set_option maxHeartbeats 8000000 in
theorem rfvalid_c (l : List Pce) (hl : l.length ≤ 1000000) (nn : Nm) : CallsA Tryd.prog 70 [.sl (l.map Pce.row)] Hp.none nn (Pu (db (flV l)) Hp.none) := by
  obtain ⟨code, h1, h2⟩ := c70_ok
  refine callsA_of RvT_ok mixed (N := fun t => (0, t)) Tryd.func70 h1 h2 r70_ok [] false js_nil js_nil' (by simp [Tryd.f70]) ?_
  cases c0 : decide ((200 : Int) < (l.length : Int)) with
  | true =>
    have e : flV l = false := by unfold flV; rw [if_pos (by have := of_decide_eq_true c0; omega)]
    simp (maxSteps:=500000) only [↓vp, vv, ↓reduceIte, simprocAttr, c70, r70, c70_1, c70_2, c70_3, c70_4, c70_5, c70_6, r70, RvT, c0, e, Pu]
  | false =>
  have e0 : flV l = if (List.range l.length).any (pcBad l) then false else decide (volW l 0 ≤ 1000000) := by unfold flV; rw [if_neg (by have := of_decide_eq_false c0; omega)]
  generalize hb : (List.range l.length).any (pcBad l) = b at e0
  generalize hX : volW l 0 = X at e0
  simp (maxSteps:=500000) only [↓vp, vv, ↓reduceIte, simprocAttr, c70, r70, c70_1, c70_2, c70_3, c70_4, c70_5, c70_6, RvT, c0]
  refine rng_loopP l.length (fun j (s : Int) => ⟨fr (RvF l s (j : Nat)), Hp.none⟩) (fun j s => ((List.range l.length).drop j).any (pcBad l) = b ∧ volW (l.drop j) s = X) (u0 := 0) (weak0 (by simp (maxSteps:=500000) only [↓vp, vv, ↓reduceIte, simprocAttr, coverS, RvF]) (by simp (maxSteps:=500000) only [↓vp, vv, ↓reduceIte, simprocAttr, refsF, RvF])) ⟨hb, hX⟩ (fun j hj s hP => ?_) (fun s hP => ?_)
  · obtain ⟨hP, hV⟩ := hP
    have hj' : (j : Int) < l.length := by omega
    have w1 := idx_next (j := j) (by omega)
    have g1 := pc_get hj
    obtain ⟨n1, n2⟩ := bad_step hj hP
    rw [pc_drop hj, volW] at hV
    have hb2 := bad_eq l j _ _ rfl rfl
    have nx := fun h => (⟨n2 h, hV⟩ : _ ∧ _)
    by_cases z : j = 0
    · subst z
      have hj0 : (0 : Int) < l.length := hj'
      have w0 : IntKind.i64.wrap 1 = 1 := by decide
      generalize pcA l 0 = p at g1 hb2 hV nx
      cases c1 : prB2 p.ba with
      | false =>
        have := n1 (by rw [hb2, c1]; rfl)
        subst this
        simp (maxSteps:=500000) only [↓vp, vv, ↓reduceIte, simprocAttr, c70, r70, c70_1, c70_2, c70_3, c70_4, c70_5, c70_6, r70, RvT, selPr2, selX, decI0, tt, RvF, hj0, hj, g1, Int.toNat_natCast, idx_nn, c1, e0, Pu]
      | true =>
      cases c2 : decide (p.vo < 1) with
      | true =>
        have := n1 (by rw [hb2, c1, c2]; rfl)
        subst this
        simp (maxSteps:=500000) only [↓vp, vv, ↓reduceIte, simprocAttr, c70, r70, c70_1, c70_2, c70_3, c70_4, c70_5, c70_6, r70, RvT, selPr2, selX, decI0, tt, RvF, hj0, hj, g1, Int.toNat_natCast, idx_nn, c1, c2, e0, Pu]
      | false =>
      cases c3 : decide (1000000 < p.vo) with
      | true =>
        have := n1 (by rw [hb2, c1, c2, c3]; rfl)
        subst this
        simp (maxSteps:=500000) only [↓vp, vv, ↓reduceIte, simprocAttr, c70, r70, c70_1, c70_2, c70_3, c70_4, c70_5, c70_6, r70, RvT, selPr2, selX, decI0, tt, RvF, hj0, hj, g1, Int.toNat_natCast, idx_nn, c1, c2, c3, e0, Pu]
      | false =>
        have nx := nx (by rw [hb2, c1, c2, c3]; rfl)
        simp (maxSteps:=500000) only [↓vp, vv, ↓reduceIte, simprocAttr, c70, r70, c70_1, c70_2, c70_3, c70_4, c70_5, c70_6, r70, RvT, selPr2, selX, decI0, tt, RvF, hj0, hj, g1, Int.toNat_natCast, idx_nn, c1, c2, c3]
        refine rng_nextP hj (IntKind.i64.wrap (s + p.vo)) ?_ nx
        exact (weak_eq [] [] (RvF l (IntKind.i64.wrap (s + p.vo)) ((0 + 1 : Nat) : Int)) (by simp (maxSteps:=500000) only [↓vp, vv, ↓reduceIte, simprocAttr, coverS, RvF, w1, w0]) (by simp (maxSteps:=500000) only [↓vp, vv, ↓reduceIte, simprocAttr, refsF, RvF, w1, w0]) (by simp (maxSteps:=500000) only [↓vp, vv, ↓reduceIte, simprocAttr, RvF, w1, w0]) (by simp) (by simp (maxSteps:=500000) only [↓vp, vv, ↓reduceIte, simprocAttr, RvF, w1, w0]; try rfl))
    · have z1 : decide ((0 : Int) < (j : Int)) = true := decide_eq_true (by omega)
      have z2 : decide (0 < j) = true := decide_eq_true (by omega)
      have w2 : IntKind.i64.wrap ((j : Int) - 1) = ((j - 1 : Nat) : Int) := by rw [wrap_i (by omega)]; omega
      have hp : j - 1 < l.length := by omega
      have hp' : ((j - 1 : Nat) : Int) < l.length := by omega
      have g2 := pc_get hp
      rw [z2] at hb2
      generalize pcA l j = p at g1 hb2 hV nx
      generalize pcA l (j - 1) = q at g2 hb2
      cases c1 : prB2 p.ba with
      | false =>
        have := n1 (by rw [hb2, c1]; rfl)
        subst this
        simp (maxSteps:=500000) only [↓vp, vv, ↓reduceIte, simprocAttr, c70, r70, c70_1, c70_2, c70_3, c70_4, c70_5, c70_6, r70, RvT, selPr2, selX, decI0, tt, RvF, hj', hj, g1, Int.toNat_natCast, idx_nn, c1, e0, Pu]
      | true =>
      cases c2 : decide (p.vo < 1) with
      | true =>
        have := n1 (by rw [hb2, c1, c2]; rfl)
        subst this
        simp (maxSteps:=500000) only [↓vp, vv, ↓reduceIte, simprocAttr, c70, r70, c70_1, c70_2, c70_3, c70_4, c70_5, c70_6, r70, RvT, selPr2, selX, decI0, tt, RvF, hj', hj, g1, Int.toNat_natCast, idx_nn, c1, c2, e0, Pu]
      | false =>
      cases c3 : decide (1000000 < p.vo) with
      | true =>
        have := n1 (by rw [hb2, c1, c2, c3]; rfl)
        subst this
        simp (maxSteps:=500000) only [↓vp, vv, ↓reduceIte, simprocAttr, c70, r70, c70_1, c70_2, c70_3, c70_4, c70_5, c70_6, r70, RvT, selPr2, selX, decI0, tt, RvF, hj', hj, g1, Int.toNat_natCast, idx_nn, c1, c2, c3, e0, Pu]
      | false =>
      cases c4 : (p.ba == q.ba) with
      | true =>
        have := n1 (by rw [hb2, c1, c2, c3, c4]; rfl)
        subst this
        simp (maxSteps:=500000) only [↓vp, vv, ↓reduceIte, simprocAttr, c70, r70, c70_1, c70_2, c70_3, c70_4, c70_5, c70_6, r70, RvT, selPr2, selX, decI0, tt, RvF, hj', hj, hp, hp', g1, g2, z1, w2, Int.toNat_natCast, idx_nn, c1, c2, c3, c4, e0, Pu]
      | false =>
        have nx := nx (by rw [hb2, c1, c2, c3, c4]; rfl)
        simp (maxSteps:=500000) only [↓vp, vv, ↓reduceIte, simprocAttr, c70, r70, c70_1, c70_2, c70_3, c70_4, c70_5, c70_6, r70, RvT, selPr2, selX, decI0, tt, RvF, hj', hj, hp, hp', g1, g2, z1, w2, Int.toNat_natCast, idx_nn, c1, c2, c3, c4]
        refine rng_nextP hj (IntKind.i64.wrap (s + p.vo)) ?_ nx
        exact (weak_eq [] [] (RvF l (IntKind.i64.wrap (s + p.vo)) ((j + 1 : Nat) : Int)) (by simp (maxSteps:=500000) only [↓vp, vv, ↓reduceIte, simprocAttr, coverS, RvF, w1]) (by simp (maxSteps:=500000) only [↓vp, vv, ↓reduceIte, simprocAttr, refsF, RvF, w1]) (by simp (maxSteps:=500000) only [↓vp, vv, ↓reduceIte, simprocAttr, RvF, w1]) (by simp) (by simp (maxSteps:=500000) only [↓vp, vv, ↓reduceIte, simprocAttr, RvF, w1]; try rfl))
  · obtain ⟨hP, hV⟩ := hP
    have : b = false := drop_any_end (by simp) hP
    subst this
    rw [List.drop_of_length_le (Nat.le_refl _), volW] at hV
    simp (maxSteps:=500000) only [↓vp, vv, ↓reduceIte, simprocAttr, c70, r70, c70_1, c70_2, c70_3, c70_4, c70_5, c70_6, r70, RvT, RvF, Int.lt_irrefl, hV, e0, Pu]
theorem tc_rfv {T : Tbl} (hT : TblOk Tryd.prog T) : TblOk Tryd.prog (tc 70 (rowPu selFv) T) := tc_x f70_ok decPf_eq (fun a h nn => rfvalid_c _ h nn) hT
end Go.Proofs.YtehmmnnmkapfeaaDoor
