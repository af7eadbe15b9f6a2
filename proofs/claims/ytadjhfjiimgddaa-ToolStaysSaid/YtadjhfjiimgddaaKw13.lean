/- ToolStays: Ti3 Ti4. -/
import Derived.Test.YtadjhfjiimgddaaKw12
set_option linter.unusedSimpArgs false
set_option linter.unusedVariables false
set_option maxRecDepth 100000

/- Dealing of litres in the reference. -/
namespace Go.Proofs.Ytadjhfjiimgddaa
open Go
def mixR (k R : Nat) : List (List D) := (List.range R).map fun m => if m < k then [.own (fNm m) 0 0 0] else [.mt]
theorem mixR_get (k R m : Nat) (h : m < R) : (mixR k R)[m]? = some (if m < k then [.own (fNm m) 0 0 0] else [.mt]) := by
 unfold mixR
 rw [List.getElem?_map, List.getElem?_range h]
 rfl
theorem famH_rep (k : Nat) (B B' : Hp) (hB : ∀ x, x ≠ (0, 15) → B x = B' x) (e : En) : ((famH (List.replicate k []) B).put (fNm k) ⟨0, 2, []⟩).put (0, 15) e = famH (List.replicate (k + 1) []) (B'.put (0, 15) e) := by
 have pr : ∀ n i, pA (List.replicate n []) i = [] := fun n i => by
  unfold pA
  rw [List.getD_eq_getElem?_getD, List.getElem?_replicate]
  split <;> rfl
 rw [← famH_put _ _ _ _ (by omega)]
 funext x
 by_cases h0 : x = (0, 15)
 ·subst h0; rw [Hp.put_same, Hp.put_same]
 rw [Hp.put_other _ h0, Hp.put_other _ h0]
 by_cases h1 : x = fNm k
 ·subst h1
  rw [Hp.put_same, famH_at _ _ _ (by simp), pr]
  rfl
 ·rw [Hp.put_other _ h1]
  unfold famH
  rw [List.length_replicate, List.length_replicate, pr, pr]
  by_cases h2 : x.1 = 0 ∧ 7000 ≤ x.2 ∧ x.2 < 7000 + k
  ·rw [if_pos h2, if_pos ⟨h2.1, h2.2.1, by omega⟩]
  ·rw [if_neg h2, if_neg (fun h => ?_), hB _ h0]
   by_cases h3 : x.2 = 7000 + k
   ·exact h1 (by obtain ⟨a, b⟩ := x; dsimp only at h h3; unfold fNm; rw [h.1, h3])
   ·exact h2 ⟨h.1, h.2.1, by omega⟩
theorem weak_oc0 {J : List Nm} {F : Fr} {H : Hp} (R : Nat) (hj : H (0, 15) = some ⟨0, 1, List.replicate R [.mt]⟩) (hf : ∀ i, H (fNm i) = Option.none) : ∀ k, k ≤ R → Weak J ⟨F, H⟩ ⟨F, famH (List.replicate k []) (H.put (0, 15) ⟨0, 1, mixR k R⟩)⟩
 | 0, _ => by
  have e : famH (List.replicate 0 []) (H.put (0, 15) ⟨0, 1, mixR 0 R⟩) = H := by
   funext x
   unfold famH
   rw [if_neg (fun h => by have := h.2.2; simp at this; omega)]
   by_cases h0 : x = (0, 15)
   ·subst h0
    rw [Hp.put_same, hj]
    congr 2
    refine List.ext_getElem? fun m => ?_
    by_cases hm : m < R
    ·rw [mixR_get _ _ _ hm, if_neg (by omega), List.getElem?_replicate, if_pos hm]
    ·rw [List.getElem?_eq_none (by unfold mixR; simp; omega), List.getElem?_eq_none (by simp; omega)]
   ·rw [Hp.put_other _ h0]
  rw [e]
  exact Weak.refl _ _
 | k + 1, hk => by
  refine (weak_oc0 R hj hf k (by omega)).trans ?_
  have w := weak_ownR (J := J) (F := F) (H := famH (List.replicate k []) (H.put (0, 15) ⟨0, 1, mixR k R⟩)) (0, 15) 0 1 (mixR k R) (mixR (k + 1) R) (fNm k) 2 (by rw [famH_no _ _ _ (by omega), Hp.put_same]) (by
    unfold famH
    rw [if_neg (fun h => by have := h.2.2; simp [fNm] at this), Hp.put_other _ (fun h => by have := fNm_ne k 15 (by omega); rw [h] at this; simp at this)]
    exact hf k) (by unfold mixR; simp) (fun m row' hm => by
    by_cases hmR : m < R
    ·rw [mixR_get _ _ _ hmR] at hm ⊢
     cases hm
     refine ⟨_, rfl, by split <;> split <;> rfl, fun q d hd => ?_⟩
     by_cases h1 : m < k
     ·rw [if_pos (by omega)] at hd
      rw [if_pos h1]
      exact ⟨d, hd, .inl rfl⟩
     ·rw [if_neg h1]
      by_cases h2 : m = k
      ·subst h2
       rw [if_pos (by omega)] at hd
       cases q with
       | zero => cases hd; exact ⟨.mt, rfl, .inr ⟨rfl, rfl⟩⟩
       | succ q => cases hd
      ·rw [if_neg (by omega)] at hd
       exact ⟨d, hd, .inl rfl⟩
    ·rw [List.getElem?_eq_none (by unfold mixR; simp; omega)] at hm
     cases hm)
  rw [famH_rep k _ H (fun x hx => Hp.put_other _ hx _)] at w
  exact w
theorem weak_oc {J : List Nm} {F : Fr} {H : Hp} (R : Nat) (hj : H (0, 15) = some ⟨0, 1, List.replicate R [.mt]⟩) (hf : ∀ i, H (fNm i) = Option.none) : Weak J ⟨F, H⟩ ⟨F, famH (List.replicate R []) (H.put (0, 15) ⟨0, 1, oRows (List.replicate R [])⟩)⟩ := by
 have h := weak_oc0 (J := J) (F := F) R hj hf R (Nat.le_refl _)
 have e : mixR R R = oRows (List.replicate R []) := by
  unfold mixR oRows
  rw [List.length_replicate]
  refine List.map_congr_left fun m hm => ?_
  have hm := List.mem_range.1 hm
  have : pA (List.replicate R []) m = [] := by
   unfold pA
   rw [List.getD_eq_getElem?_getD, List.getElem?_replicate]
   split <;> rfl
  rw [if_pos hm]
  unfold oRow
  rw [this]
  rfl
 rw [e] at h
 exact h
theorem ir_get {l : List Int} {j : Nat} (h : j < l.length) : (l.map iRow).getD j [] = [di (iA l j)] := by
 rw [iRow_at _ _ h]
 unfold iA
 rw [List.getD_eq_getElem?_getD, List.getElem?_eq_getElem h]
 rfl
theorem ir_ref (js : List Nm) (x : Int) : refsInL js (iRow x) = true := rfl
theorem ir_dec (l : List Int) : intsOf (l.map iRow) = some l := intsOf_map l
def nxC (rs gs : List Int) (u : Int) (j : Nat) : Bool := decide (0 < iA rs j) && (decide (u < 0) || decide (IntKind.i64.wrap (IntKind.i64.wrap (iA gs j + 1) * iA rs u.toNat) < IntKind.i64.wrap (IntKind.i64.wrap (iA gs u.toNat + 1) * iA rs j)))
def nxS (rs gs : List Int) (u : Int) (j : Nat) : Int := if nxC rs gs u j = true then j else u
def nextI (rs gs : List Int) : Int := (List.range rs.length).foldl (nxS rs gs) (-1)
def NxF (rs gs : List Int) (u j : Int) : List (Nat × D) := [(0, .sl (rs.map iRow)), (1, .sl (gs.map iRow)), (5, di u), (8, di rs.length), (9, di j)]
def NxP (rs gs : List Int) (X : Int) (j : Nat) (u : Int) : Prop := ((List.range rs.length).drop j).foldl (nxS rs gs) u = X ∧ -1 ≤ u ∧ u < (rs.length : Int)
theorem range_drop' {n j : Nat} (h : j < n) : (List.range n).drop j = j :: (List.range n).drop (j + 1) := by
 rw [List.drop_eq_getElem_cons (by simpa using h), List.getElem_range]
set_option maxHeartbeats 8000000 in
theorem next_c (rs gs : List Int) (hl : gs.length = rs.length) (hr : rs.length ≤ 1000000) (nn : Nm) : CallsA Try.prog 129 [.sl (rs.map iRow), .sl (gs.map iRow)] Hp.none nn (Pu (di (nextI rs gs)) Hp.none) := by
 obtain ⟨code, h1, h2⟩ := c129_ok
 refine callsA_of (T0_ok _) mixed (N := fun t => (0, t)) Try.func129 h1 h2 r129_ok [] false js_nil js_nil' (by simp [Try.f129]) ?_
 generalize hX : nextI rs gs = X
 simp (maxSteps:=500000) only [↓vp, vv, ↓reduceIte, simprocAttr, c129, r129, c129_1, c129_2, c129_3, c129_4]
 refine rng_loopP rs.length (fun j (u : Int) => ⟨fr (NxF rs gs u (j : Nat)), Hp.none⟩) (NxP rs gs X) (u0 := -1) (weak0 (by simp only [↓vp, vv, ↓reduceIte, simprocAttr, coverS, NxF]) (by simp only [↓vp, vv, ↓reduceIte, simprocAttr, refsF, NxF])) ⟨hX, by omega, by omega⟩ (fun j hj u hP => ?_) (fun u hP => ?_)
 ·obtain ⟨hP, u1, u2⟩ := hP
  have hj' : (j : Int) < rs.length := by omega
  have w1 := idx_next (j := j) (by omega)
  have g1 := ir_get hj
  have g2 := ir_get (l := gs) (j := j) (by omega)
  have hjg : j < gs.length := by omega
  have hjg' : (j : Int) < gs.length := by omega
  rw [range_drop' hj, List.foldl_cons] at hP
  have stay : nxC rs gs u j = false → NxP rs gs X (j + 1) u := fun h => ⟨by unfold nxS at hP; rw [h] at hP; exact hP, u1, u2⟩
  have take : nxC rs gs u j = true → NxP rs gs X (j + 1) (j : Int) := fun h => ⟨by unfold nxS at hP; rw [h] at hP; exact hP, by omega, by omega⟩
  unfold nxC at stay take
  generalize hr1 : iA rs j = r1 at g1 stay take
  generalize iA gs j = s1 at g2 stay take
  cases c1 : decide (0 < r1) with
  | false =>
   have nx := stay (by rw [c1]; rfl)
   simp (maxSteps:=500000) only [↓vp, vv, ↓reduceIte, simprocAttr, c129, r129, c129_1, c129_2, c129_3, c129_4, NxF, hj, hj', g1, Int.toNat_natCast, idx_nn, c1]
   refine rng_nextP hj u ?_ nx
   exact (weak_eqA [] [] (NxF rs gs u ((j + 1 : Nat) : Int)) (by refine ⟨?_, ?_, ?_, by simp, ?_⟩ <;> (simp only [↓vp, vv, ↓reduceIte, simprocAttr, coverS, refsF, NxF, w1] <;> try rfl)))
  | true =>
   cases c2 : decide (u < 0) with
   | true =>
    have nx := take (by rw [c1, c2]; rfl)
    simp (maxSteps:=500000) only [↓vp, vv, ↓reduceIte, simprocAttr, c129, r129, c129_1, c129_2, c129_3, c129_4, NxF, hj, hj', g1, Int.toNat_natCast, idx_nn, c1, c2]
    refine rng_nextP hj (j : Int) ?_ nx
    exact (weak_eqA [] [] (NxF rs gs (j : Int) ((j + 1 : Nat) : Int)) (by refine ⟨?_, ?_, ?_, by simp, ?_⟩ <;> (simp only [↓vp, vv, ↓reduceIte, simprocAttr, coverS, refsF, NxF, w1] <;> try rfl)))
   | false =>
    have h0 : 0 ≤ u := by have := of_decide_eq_false c2; omega
    have hu : u.toNat < rs.length := by omega
    have hu2 : u.toNat < gs.length := by omega
    have hu3 : u < (gs.length : Int) := by omega
    have g3 := ir_get hu
    have g4 := ir_get hu2
    rw [c1, c2, Bool.true_and, Bool.false_or] at stay take
    generalize iA rs u.toNat = r2 at g3 stay take
    generalize iA gs u.toNat = s2 at g4 stay take
    cases c3 : decide (IntKind.i64.wrap (IntKind.i64.wrap (s1 + 1) * r2) < IntKind.i64.wrap (IntKind.i64.wrap (s2 + 1) * r1)) with
    | false =>
     simp (maxSteps:=500000) only [↓vp, vv, ↓reduceIte, simprocAttr, c129, r129, c129_1, c129_2, c129_3, c129_4, NxF, hj, hj', hjg, hjg', h0, u2, hu, hu2, hu3, g1, g2, g3, g4, Int.toNat_natCast, idx_nn, c1, c2, c3]
     refine rng_nextP hj u ?_ (stay c3)
     exact (weak_eqA [] [] (NxF rs gs u ((j + 1 : Nat) : Int)) (by refine ⟨?_, ?_, ?_, by simp, ?_⟩ <;> (simp only [↓vp, vv, ↓reduceIte, simprocAttr, coverS, refsF, NxF, w1] <;> try rfl)))
    | true =>
     simp (maxSteps:=500000) only [↓vp, vv, ↓reduceIte, simprocAttr, c129, r129, c129_1, c129_2, c129_3, c129_4, NxF, hj, hj', hjg, hjg', h0, u2, hu, hu2, hu3, g1, g2, g3, g4, Int.toNat_natCast, idx_nn, c1, c2, c3]
     refine rng_nextP hj (j : Int) ?_ (take c3)
     exact (weak_eqA [] [] (NxF rs gs (j : Int) ((j + 1 : Nat) : Int)) (by refine ⟨?_, ?_, ?_, by simp, ?_⟩ <;> (simp only [↓vp, vv, ↓reduceIte, simprocAttr, coverS, refsF, NxF, w1] <;> try rfl)))
 ·obtain ⟨hP, u1, u2⟩ := hP
  rw [List.drop_of_length_le (by simp), List.foldl_nil] at hP
  subst hP
  simp (maxSteps:=500000) only [↓vp, vv, ↓reduceIte, simprocAttr, c129, r129, c129_1, c129_2, c129_3, c129_4, r129, Int.lt_irrefl, NxF, Pu]
def decIIL : List D → Option (List Int × List Int)
 | [.sl x, .sl y] => (intsOf x).bind fun l => (intsOf y).map fun m => (l, m)
 | _ => Option.none
theorem decIIL_eq : ∀ l a, decIIL l = some a → l = [.sl (a.1.map iRow), .sl (a.2.map iRow)] := fun l a h => by
 unfold decIIL at h
 split at h
 ·obtain ⟨b, hb, h⟩ := Option.bind_eq_some_iff.1 h
  obtain ⟨c, hc, rfl⟩ := Option.map_eq_some_iff.1 h
  rw [intsOf_eq hb, intsOf_eq hc]
  rfl
 ·cases h
def NxOk (a : List Int × List Int) : Prop := a.2.length = a.1.length ∧ a.1.length ≤ 1000000
def selNx := selX decIIL NxOk fun a => di (nextI a.1 a.2)
theorem tc_nx {T : Tbl} (hT : TblOk Try.prog T) : TblOk Try.prog (tc 129 (rowPu selNx) T) := tc_x f129_ok decIIL_eq (fun a h nn => next_c _ _ h.1 h.2 nn) hT
def dealO (rs gs : List Int) : List Int := gs.set (nextI rs gs).toNat (IntKind.i64.wrap (iA gs (nextI rs gs).toNat + 1))
def dealN (rs : List Int) : Nat → List Int → List Int
 | 0, gs => gs
 | m + 1, gs => dealN rs m (dealO rs gs)
theorem dealO_len (rs gs : List Int) : (dealO rs gs).length = gs.length := by unfold dealO; simp
theorem dealN_len (rs : List Int) : ∀ m gs, (dealN rs m gs).length = gs.length
 | 0, _ => rfl
 | m + 1, gs => by rw [dealN, dealN_len rs m, dealO_len]
def apS (ba : Int) (gs ws : List Int) (os : List (List Pce)) (i : Nat) : List (List Pce) := os.set i (pA os i ++ [⟨ba, IntKind.i64.wrap (iA gs i - iA ws i)⟩])
def apAll (R : Nat) (ba : Int) (gs ws : List Int) (os : List (List Pce)) : List (List Pce) := (List.range R).foldl (apS ba gs ws) os
def hdS (rs : List Int) (st : List (List Pce) × List Int) (p : Pce) : List (List Pce) × List Int :=
 (apAll rs.length p.ba (dealN rs p.vo.toNat st.2) st.2 st.1, dealN rs p.vo.toNat st.2)
def hand0 (l : List Pce) (rs : List Int) : List (List Pce) × List Int := l.foldl (hdS rs) (List.replicate rs.length [], List.replicate rs.length 0)
def handL (l : List Pce) (rs : List Int) : List (List Pce) := (hand0 l rs).1.map joined
theorem nextI_in (rs gs : List Int) (h : ∃ i, i < rs.length ∧ 0 < iA rs i) : 0 ≤ nextI rs gs ∧ nextI rs gs < rs.length := by
 have key : ∀ (k : Nat), k ≤ rs.length → let u := (List.range k).foldl (nxS rs gs) (-1); -1 ≤ u ∧ u < (rs.length : Int) ∧ ((∃ i, i < k ∧ 0 < iA rs i) → 0 ≤ u) := by
  intro k
  induction k with
  | zero => intro _; exact ⟨by simp, by simp; omega, fun ⟨i, hi, _⟩ => by omega⟩
  | succ k ih =>
   intro hk
   obtain ⟨a, b, c⟩ := ih (by omega)
   rw [List.range_succ, List.foldl_append]
   generalize (List.range k).foldl (nxS rs gs) (-1) = u at a b c
   show -1 ≤ nxS rs gs u k ∧ nxS rs gs u k < (rs.length : Int) ∧ _
   unfold nxS
   split
   ·exact ⟨by omega, by omega, fun _ => by show 0 ≤ nxS rs gs u k; unfold nxS; split <;> omega⟩
   ·rename_i hn
    refine ⟨a, b, fun ⟨i, hi, hp⟩ => ?_⟩
    show 0 ≤ nxS rs gs u k
    unfold nxS
    rw [if_neg hn]
    by_cases e : i < k
    ·exact c ⟨i, e, hp⟩
    ·obtain rfl : i = k := by omega
     unfold nxC at hn
     rw [decide_eq_true hp, Bool.true_and, Bool.or_eq_true, decide_eq_true_eq] at hn
     omega
 obtain ⟨a, b, c⟩ := key rs.length (Nat.le_refl _)
 exact ⟨c h, b⟩
structure HnOk (l : List Pce) (rs : List Int) : Prop where
 ll : l.length ≤ 1000000
 rl : rs.length ≤ 1000
 pos : ∃ i, i < rs.length ∧ 0 < iA rs i
 vo : ∀ p ∈ l, p.vo ≤ 100000000000
structure HnI (R : Nat) (j : Nat) (os : List (List Pce)) (gs : List Int) : Prop where
 ol : os.length = R
 gl : gs.length = R
 le : ∀ k, (pA os k).length ≤ j
def HnB (os : List (List Pce)) (gs : List Int) : Hp := (Hp.none.put (0, 18) ⟨0, 1, gs.map iRow⟩).put (0, 15) ⟨0, 1, oRows os⟩
def HnF (l : List Pce) (rs : List Int) (j : Int) : List (Nat × D) := [(1, .sl (rs.map iRow)), (5, .own (0, 15) 0 0 rs.length), (6, .own (0, 18) 0 0 rs.length), (19, .sl (l.map Pce.row)), (20, di l.length), (21, di j)]
def HnP (l : List Pce) (rs : List Int) (X : List (List Pce)) (j : Nat) (u : List (List Pce) × List Int) : Prop := ((l.drop j).foldl (hdS rs) u).1 = X ∧ HnI rs.length j u.1 u.2
def HnT : Tbl := tc 129 (rowPu selNx) (tc 85 (rowPu selJo) T0)
theorem HnT_ok : TblOk Try.prog HnT := tc_nx (tc_jo (T0_ok _))
def HnB2 (os : List (List Pce)) (gs ws : List Int) (p : Pce) : Hp := (((Hp.none.put (0, 25) ⟨1, 1, ws.map iRow⟩).put (0, 8) ⟨0, 2, [p.row]⟩).put (0, 18) ⟨0, 1, gs.map iRow⟩).put (0, 15) ⟨0, 1, oRows os⟩
def HnF2 (l : List Pce) (rs : List Int) (j k : Int) : List (Nat × D) := [(1, .sl (rs.map iRow)), (5, .own (0, 15) 0 0 rs.length), (6, .own (0, 18) 0 0 rs.length), (8, .ptr (0, 8) 0 0 0), (9, .own (0, 25) 1 0 rs.length), (10, di k), (19, .sl (l.map Pce.row)), (20, di l.length), (21, di j)]
def HnF4 (l : List Pce) (rs : List Int) (j k : Int) : List (Nat × D) := [(1, .sl (rs.map iRow)), (5, .own (0, 15) 0 0 rs.length), (6, .own (0, 18) 0 0 rs.length), (8, .ptr (0, 8) 0 0 0), (9, .own (0, 25) 1 0 rs.length), (19, .sl (l.map Pce.row)), (20, di l.length), (21, di j), (43, di rs.length), (44, di k)]
def HnP2 (rs : List Int) (m : Nat) (X : List Int) (k : Nat) (gs : List Int) : Prop := dealN rs (m - k) gs = X ∧ gs.length = rs.length
def HnP4 (R : Nat) (ba : Int) (gs ws : List Int) (j : Nat) (X : List (List Pce)) (i : Nat) (os : List (List Pce)) : Prop := ((List.range R).drop i).foldl (apS ba gs ws) os = X ∧ os.length = R ∧ (∀ k, (pA os k).length ≤ j + 1) ∧ ∀ k, i ≤ k → (pA os k).length ≤ j
def jRow (os : List (List Pce)) (i k : Nat) : List D := if k < i then [.sl ((joined (pA os k)).map Pce.row)] else oRow os k
def jRows (os : List (List Pce)) (i : Nat) : List (List D) := (List.range os.length).map (jRow os i)
theorem jRows_len (os : List (List Pce)) (i : Nat) : (jRows os i).length = os.length := by unfold jRows; simp
theorem jRows_get (os : List (List Pce)) (i : Nat) (h : i < os.length) : (jRows os i).getD i [] = oRow os i := by
 unfold jRows
 rw [List.getD_eq_getElem?_getD, List.getElem?_map, List.getElem?_range h]
 show jRow os i i = _
 unfold jRow
 rw [if_neg (Nat.lt_irrefl _)]
theorem jRows_set (os : List (List Pce)) (i : Nat) : (jRows os i).set i [.sl ((joined (pA os i)).map Pce.row)] = jRows os (i + 1) := by
 refine List.ext_getElem? fun k => ?_
 rw [List.getElem?_set, jRows_len]
 unfold jRows
 rw [List.getElem?_map, List.getElem?_map]
 by_cases hk : k < os.length
 ·rw [List.getElem?_range hk]
  by_cases e : i = k
  ·subst e
   rw [if_pos rfl, if_pos hk]
   show _ = some (jRow _ _ _)
   unfold jRow
   rw [if_pos (by omega)]
  ·rw [if_neg e]
   show some (jRow _ _ _) = some (jRow _ _ _)
   unfold jRow
   by_cases h2 : k < i
   ·rw [if_pos h2, if_pos (by omega)]
   ·rw [if_neg h2, if_neg (by omega)]
 ·have hn : (List.range os.length)[k]? = Option.none := List.getElem?_eq_none (by simp; omega)
  rw [hn]
  by_cases e : i = k
  ·rw [if_pos e, if_neg (by omega)]; rfl
  ·rw [if_neg e]; rfl
theorem jRows_0 (os : List (List Pce)) : jRows os 0 = oRows os := by
 unfold jRows oRows
 refine List.map_congr_left fun k _ => ?_
 unfold jRow
 rw [if_neg (Nat.not_lt_zero _)]
def handR (X : List (List Pce)) : D := .sl (X.map fun x => [.sl ((joined x).map Pce.row)])
theorem jRows_end (os : List (List Pce)) : jRows os os.length = os.map fun x => [.sl ((joined x).map Pce.row)] := by
 refine List.ext_getElem? fun k => ?_
 unfold jRows
 rw [List.getElem?_map, List.getElem?_map]
 by_cases hk : k < os.length
 ·rw [List.getElem?_range hk, List.getElem?_eq_getElem hk]
  show some (jRow _ _ _) = some _
  unfold jRow pA
  rw [if_pos hk, List.getD_eq_getElem?_getD, List.getElem?_eq_getElem hk]
  rfl
 ·have hn : (List.range os.length)[k]? = Option.none := List.getElem?_eq_none (by simp; omega)
  rw [hn, List.getElem?_eq_none (by omega)]
  rfl
def famG (lo : Nat) (os : List (List Pce)) (H : Hp) : Hp := fun k => if k.1 = 0 ∧ 7000 + lo ≤ k.2 ∧ k.2 < 7000 + os.length then some ⟨(pA os (k.2 - 7000)).length, 2, (pA os (k.2 - 7000)).map Pce.row⟩ else H k
theorem famG_at (lo : Nat) (os : List (List Pce)) (H : Hp) (i : Nat) (h0 : lo ≤ i) (h : i < os.length) : famG lo os H (fNm i) = some ⟨(pA os i).length, 2, (pA os i).map Pce.row⟩ := by
 unfold famG fNm
 dsimp only
 rw [if_pos ⟨rfl, by omega, by omega⟩, Nat.add_sub_cancel_left]
theorem famG_no (lo : Nat) (os : List (List Pce)) (H : Hp) (n : Nat) (h : n < 7000) : famG lo os H (0, n) = H (0, n) := by
 unfold famG
 rw [if_neg (fun e => by dsimp only at e; omega)]
theorem weak_famG {F : Fr} {H B' : Hp} (lo : Nat) (js : List Nm) (l : List (Nat × D)) (os : List (List Pce)) (hjs : ∀ i ∈ js, i.1 = 0 ∧ i.2 < 7000) (h0 : ∀ i, lo ≤ i → i < os.length → H (fNm i) = some ⟨(pA os i).length, 2, (pA os i).map Pce.row⟩) (h1 : coverS F H [] l) (h2 : refsF js l = true) (h3 : ClosedH H (js ++ (List.range' lo (os.length - lo)).map fNm) js) (h5 : H.restr js = B') : Weak [] ⟨F, H⟩ ⟨fr l, famG lo os B'⟩ := by
 subst h5
 refine weak_eq [] (js ++ (List.range' lo (os.length - lo)).map fNm) l h1 (refsF_mono (fun x h => List.mem_append_left _ h) h2) ?_ (by simp) ?_
 ·exact closedH_of fun i hi e he r hr => by
   rcases List.mem_append.1 hi with h | h
   ·rw [Hp.kills] at he
    exact closedH_mem h3 _ h e he r hr
   ·obtain ⟨k, hk, rfl⟩ := List.mem_map.1 h
    rw [List.mem_range'_1] at hk
    rw [Hp.kills, h0 k hk.1 (by omega)] at he
    cases he
    obtain ⟨x, hx, rfl⟩ := List.mem_map.1 hr
    rfl
 ·funext k
  rw [Hp.kills]
  by_cases hf : k.1 = 0 ∧ 7000 + lo ≤ k.2 ∧ k.2 < 7000 + os.length
  ·have hk : k = fNm (k.2 - 7000) := by obtain ⟨a, b⟩ := k; dsimp only at hf ⊢; unfold fNm; rw [hf.1]; congr 1; omega
   rw [restr_in (List.mem_append_right _ (List.mem_map.2 ⟨k.2 - 7000, by rw [List.mem_range'_1]; omega, hk.symm⟩))]
   unfold famG
   rw [if_pos hf]
   have := h0 (k.2 - 7000) (by omega) (by omega)
   rw [← hk] at this
   exact this
  ·have e2 : famG lo os (H.restr js) k = H.restr js k := by unfold famG; rw [if_neg hf]
   rw [e2]
   by_cases hk : k ∈ js
   ·rw [restr_in (List.mem_append_left _ hk), restr_in hk]
   ·rw [restr_out (js := js) hk, restr_out]
    intro h
    rcases List.mem_append.1 h with h | h
    ·exact hk h
    ·obtain ⟨m, hm, rfl⟩ := List.mem_map.1 h
     rw [List.mem_range'_1] at hm
     exact hf ⟨rfl, by unfold fNm; dsimp only; omega, by unfold fNm; dsimp only; omega⟩
theorem jRows_refG (os : List (List Pce)) (i : Nat) (js : List Nm) : ∀ r ∈ jRows os i, refsInL (js ++ (List.range' i (os.length - i)).map fNm) r = true := fun r hr => by
 unfold jRows at hr
 obtain ⟨k, hk, rfl⟩ := List.mem_map.1 hr
 have hk := List.mem_range.1 hk
 unfold jRow
 split
 ·rfl
 ·unfold oRow
  rw [refsInL, refsInL, Bool.and_true, D.refsIn]
  exact nmIn_iff.2 (List.mem_append_right _ (List.mem_map.2 ⟨k, by rw [List.mem_range'_1]; omega, rfl⟩))
def HnB6 (os : List (List Pce)) (i : Nat) : Hp := Hp.none.put (0, 15) ⟨0, 1, jRows os i⟩
def HnF6 (rs : List Int) (i : Int) : List (Nat × D) := [(5, .own (0, 15) 0 0 rs.length), (71, di rs.length), (72, di i)]
theorem hn_js {js : List Nm} (h : js.all (fun i => decide (i.1 = 0) && decide (i.2 < 7000)) = true) : ∀ i ∈ js, i.1 = 0 ∧ i.2 < 7000 := fun i hi => by
 have := List.all_eq_true.1 h i hi
 rw [Bool.and_eq_true, decide_eq_true_eq, decide_eq_true_eq] at this
 exact this
theorem pA_rep (n i : Nat) : pA (List.replicate n []) i = [] := by
 unfold pA
 rw [List.getD_eq_getElem?_getD, List.getElem?_replicate]
 split <;> rfl
theorem ir_pl (x : Int) : (∀ d, d ∈ iRow x → d.plain = true) = True := by unfold iRow; simp only [List.forall_mem_cons, forall_nil, plain_v, and_self]
set_option maxHeartbeats 16000000 in
theorem hand_c (l : List Pce) (rs : List Int) (hk : HnOk l rs) (nn : Nm) : CallsA Try.prog 86 [.sl (l.map Pce.row), .sl (rs.map iRow)] Hp.none nn (Pu (handR (hand0 l rs).1) Hp.none) := by
 obtain ⟨code, h1, h2⟩ := c86_ok
 refine callsA_of HnT_ok mixed (N := fun t => (0, t)) Try.func86 h1 h2 r86_ok [] false js_nil js_nil' (by simp [Try.f86]) ?_
 obtain ⟨ll, rl, pos, vo⟩ := hk
 generalize hX : (hand0 l rs).1 = X
 have y0 : 24 * (rs.length : Int) ≤ 281474976710656 := by omega
 have y1 : 8 * (rs.length : Int) ≤ 281474976710656 := by omega
 have y2 : (rs.length : Int) ≤ 4611686018427387904 := by omega
 have y3 : (0 : Int) ≤ rs.length := by omega
 have er : List.replicate rs.length [di 0] = (List.replicate rs.length (0 : Int)).map iRow := by rw [List.map_replicate]; rfl
 simp (maxSteps:=500000) only [↓vp, vv, ↓reduceIte, simprocAttr, c86, r86, c86_1, c86_10, c86_11, c86_12, c86_2, c86_3, c86_4, c86_5, c86_6, c86_7, c86_8, c86_9, HnT, y0, y1, y2, y3, Int.toNat_natCast]
 have w0 := weak_oc (J := []) (F := fr (HnF l rs 0)) (H := (Hp.none.put (0, 18) ⟨0, 1, (List.replicate rs.length (0 : Int)).map iRow⟩).put (0, 15) ⟨0, 1, List.replicate rs.length [.mt]⟩) rs.length (by rw [Hp.put_same]) (fun i => by
  rw [Hp.put_other _ (fun h => by have := fNm_ne i 15 (by omega); rw [h] at this; simp at this), Hp.put_other _ (fun h => by have := fNm_ne i 18 (by omega); rw [h] at this; simp at this)]
  rfl)
 have e0 : ((Hp.none.put (0, 18) ⟨0, 1, (List.replicate rs.length (0 : Int)).map iRow⟩).put (0, 15) ⟨0, 1, List.replicate rs.length [.mt]⟩).put (0, 15) ⟨0, 1, oRows (List.replicate rs.length [])⟩ = HnB (List.replicate rs.length []) (List.replicate rs.length 0) := by
  funext k
  unfold HnB
  by_cases h : k = (0, 15)
  ·subst h; rw [Hp.put_same, Hp.put_same]
  ·rw [Hp.put_other _ h, Hp.put_other _ h, Hp.put_other _ h]
 rw [e0] at w0
 have rr : ∀ js : List Nm, (∀ r, r ∈ List.replicate rs.length [D.mt] → refsInL js r = true) = True := fun js => eq_true fun r hr => by rw [List.eq_of_mem_replicate hr]; rfl
 refine rng_loopP l.length (fun j (u : List (List Pce) × List Int) => ⟨fr (HnF l rs (j : Nat)), famH u.1 (HnB u.1 u.2)⟩) (HnP l rs X) (u0 := (List.replicate rs.length [], List.replicate rs.length 0)) (Weak.trans (weak_eqA [] [(0, 15), (0, 18)] (HnF l rs 0) (by refine ⟨?_, ?_, ?_, by simp, ?_⟩ <;> (simp only [↓vp, vv, ↓reduceIte, simprocAttr, coverS, refsF, HnF, er, ir_ref, rr] <;> try rfl))) w0) ⟨hX, by simp, by simp, fun k => by rw [pA_rep]; exact Nat.zero_le _⟩ (fun j hj u hP => ?_) (fun u hP => ?_)
 ·obtain ⟨os, gs⟩ := u
  obtain ⟨hP, ol, gl, le⟩ := hP
  dsimp only at hP ol gl le
  have hj' : (j : Int) < l.length := by omega
  have w1 := idx_next (j := j) (by omega)
  have g1 := pc_get hj
  have hv := vo (pcA l j) (by rw [← pc_at hj]; exact List.getElem_mem hj)
  rw [pc_drop hj, List.foldl_cons] at hP
  generalize pcA l j = p at g1 hP hv
  have tk : (gs.map iRow).take rs.length = gs.map iRow := List.take_of_length_le (by simp [gl])
  have irl : ∀ x, (iRow x).length = 1 := fun _ => rfl
  have z1 : rs.length * 8 ≤ 140737488355328 := by omega
  have z2 : rs.length ≤ 4611686018427387904 := by omega
  have rO := fun js => oRows_ref os js
  have ro : ∀ js : List Nm, (∀ r, r ∈ oRows os → refsInL (js ++ fams os.length) r = true) = True := fun js => eq_true (rO js)
  have roc : ∀ (a : Nm) (js : List Nm), (∀ r, r ∈ oRows os → refsInL (a :: (js ++ fams os.length)) r = true) = True := fun a js => eq_true (rO (a :: js))
  simp (maxSteps:=500000) only [↓vp, vv, ↓reduceIte, simprocAttr, c86, r86, c86_1, c86_10, c86_11, c86_12, c86_2, c86_3, c86_4, c86_5, c86_6, c86_7, c86_8, c86_9, HnT, HnF, HnB, famH_no, famH_put, hj, hj', g1, gl, tk, irl, z1, z2, Int.toNat_natCast, idx_nn]
  generalize hX2 : dealN rs p.vo.toNat gs = X2
  have st2 : hdS rs (os, gs) p = (apAll rs.length p.ba X2 gs os, X2) := by unfold hdS; rw [hX2]
  have irs : ∀ (js : List Nm) (x : Int), refsInL js (iRow x) = true := fun _ _ => rfl
  have r4 : ∀ os : List (List Pce), (∀ r, r ∈ oRows os → refsInL ((0, 15) :: (0, 18) :: (0, 8) :: (0, 25) :: fams os.length) r = true) = True := fun os => eq_true (oRows_ref os [(0, 15), (0, 18), (0, 8), (0, 25)])
  refine rng_loopP p.vo.toNat (fun k (u : List Int) => ⟨fr (HnF2 l rs (j : Nat) (k : Nat)), famH os (HnB2 os u gs p)⟩) (HnP2 rs p.vo.toNat X2) (u0 := gs) ?_ ⟨by rw [Nat.sub_zero]; exact hX2, gl⟩ (fun k hk v hQ => ?_) (fun v hQ => ?_)
  ·exact weak_fam [(0, 15), (0, 18), (0, 8), (0, 25)] (HnF2 l rs j 0) os (hn_js rfl) (by simp only [↓vp, vv, ↓reduceIte, simprocAttr, coverS, HnF2]) (by simp only [↓vp, vv, ↓reduceIte, simprocAttr, refsF, HnF2]) (by simp only [↓vp, vv, ↓reduceIte, simprocAttr, r4, irs, pce_ref]) (by simp only [↓vp, vv, ↓reduceIte, simprocAttr, HnB2, Pce.row]; try rfl)
  ·obtain ⟨hQ, vl⟩ := hQ
   have hk' : (k : Int) < p.vo := by omega
   have wk := idx_next (j := k) (by omega)
   have hq : NxOk (rs, v) := ⟨vl, show rs.length ≤ 1000000 by omega⟩
   obtain ⟨n0, n1⟩ := nextI_in rs v pos
   have e1 : p.vo.toNat - k = (p.vo.toNat - (k + 1)) + 1 := by omega
   rw [e1, dealN] at hQ
   unfold dealO at hQ
   generalize hx : nextI rs v = x at n0 n1 hQ
   have n2 : x.toNat < v.length := by omega
   have n3 : x < (v.length : Int) := by omega
   have n4 : x.toNat < rs.length := by omega
   have g2 := ir_get n2
   have em : (v.map iRow).set x.toNat [di (IntKind.i64.wrap (iA v x.toNat + 1))] = (v.set x.toNat (IntKind.i64.wrap (iA v x.toNat + 1))).map iRow := List.map_set.symm
   generalize hv2 : IntKind.i64.wrap (iA v x.toNat + 1) = v2 at hQ em
   have tv : (v.map iRow).take rs.length = v.map iRow := List.take_of_length_le (by simp [vl])
   simp (maxSteps:=500000) only [↓vp, vv, ↓reduceIte, simprocAttr, c86, r86, c86_1, c86_10, c86_11, c86_12, c86_2, c86_3, c86_4, c86_5, c86_6, c86_7, c86_8, c86_9, HnT, selNx, selX, decIIL, ir_dec, Option.bind_some, Option.map_some, hq, hx, HnF2, HnB2, famH_no, famH_put, Pce.row, hk', vl, tv, n0, n1, n2, n3, n4, ir_pl, g2, em, hv2, Int.toNat_natCast, idx_nn]
   refine rng_nextP hk (v.set x.toNat v2) ?_ ⟨hQ, by rw [List.length_set]; exact vl⟩
   exact weak_fam [(0, 15), (0, 18), (0, 8), (0, 25)] (HnF2 l rs j ((k + 1 : Nat) : Int)) os (hn_js rfl) (by simp only [↓vp, vv, ↓reduceIte, simprocAttr, coverS, HnF2, wk]) (by simp only [↓vp, vv, ↓reduceIte, simprocAttr, refsF, HnF2]) (by simp only [↓vp, vv, ↓reduceIte, simprocAttr, r4, irs, pce_ref]) (by simp only [↓vp, vv, ↓reduceIte, simprocAttr, HnB2, Pce.row]; try rfl)
  ·obtain ⟨hQ, vl⟩ := hQ
   rw [Nat.sub_self, dealN] at hQ
   subst hQ
   have hk' : ¬ (((p.vo.toNat : Nat) : Int) < p.vo) := by omega
   rw [st2] at hP
   simp (maxSteps:=500000) only [↓vp, vv, ↓reduceIte, simprocAttr, c86, r86, c86_1, c86_10, c86_11, c86_12, c86_2, c86_3, c86_4, c86_5, c86_6, c86_7, c86_8, c86_9, HnT, HnF2, HnB2, famH_no, famH_put, Pce.row, hk']
   generalize hX4 : apAll rs.length p.ba v gs os = X4 at hP
   refine rng_loopP rs.length (fun i (os : List (List Pce)) => ⟨fr (HnF4 l rs (j : Nat) (i : Nat)), famH os (HnB2 os v gs p)⟩) (HnP4 rs.length p.ba v gs j X4) (u0 := os) ?_ ⟨hX4, ol, fun k => Nat.le_succ_of_le (le k), fun k _ => le k⟩ (fun i hi o hQ => ?_) (fun o hQ => ?_)
   ·exact weak_fam [(0, 15), (0, 18), (0, 8), (0, 25)] (HnF4 l rs j 0) os (hn_js rfl) (by simp only [↓vp, vv, ↓reduceIte, simprocAttr, coverS, HnF4]) (by simp only [↓vp, vv, ↓reduceIte, simprocAttr, refsF, HnF4]) (by simp only [↓vp, vv, ↓reduceIte, simprocAttr, r4, irs, pce_ref]) (by simp only [↓vp, vv, ↓reduceIte, simprocAttr, HnB2, Pce.row]; try rfl)
   ·obtain ⟨hQ, oL, le1, le2⟩ := hQ
    have hi' : (i : Int) < rs.length := by omega
    have wi := idx_next (j := i) (by omega)
    have hio : i < o.length := by omega
    have hli := le2 i (Nat.le_refl _)
    have i1 : i < v.length := by omega
    have i2 : i < gs.length := by omega
    have g2 := ir_get i1
    have g3 := ir_get i2
    rw [range_drop' hi, List.foldl_cons] at hQ
    have ea : apS p.ba v gs o i = o.set i (pA o i ++ [Pce.mk p.ba (IntKind.i64.wrap (iA v i - iA gs i))]) := rfl
    rw [ea] at hQ
    generalize hd : IntKind.i64.wrap (iA v i - iA gs i) = d at hQ ea
    have og : (oRows o).getD i [] = oRow o i := oRows_get o i hio
    have fa : ∀ H, famH o H (fNm i) = some ⟨(pA o i).length, 2, (pA o i).map Pce.row⟩ := fun H => famH_at o H i hio
    have fs : ∀ H a b, (famH o H).put (fNm i) ⟨(pA o i).length + 1, 2, (pA o i).map Pce.row ++ [[di a, di b]]⟩ = famH (o.set i (pA o i ++ [Pce.mk a b])) H := fun H a b => famH_set o H i ⟨a, b⟩ hio
    have q1 : ((pA o i).length + 1) * 16 ≤ 140737488355328 := by omega
    have q2 : (pA o i).length + 1 ≤ 4611686018427387904 := by omega
    simp (maxSteps:=500000) only [↓vp, vv, ↓reduceIte, simprocAttr, c86, r86, c86_1, c86_10, c86_11, c86_12, c86_2, c86_3, c86_4, c86_5, c86_6, c86_7, c86_8, c86_9, HnT, HnF4, HnB2, famH_no, famH_put, fNm_ne, fNm_ne', fa, fs, og, oRow, oRows_len, oL, Pce.row, hi, hi', hio, vl, hd, gl, g2, g3, q1, q2, Int.toNat_natCast, idx_nn]
    have so : (oRows o).set i [D.own (fNm i) ((pA o i).length + 1) 0 ((pA o i).length + 1)] = oRows (o.set i (pA o i ++ [Pce.mk p.ba d])) := oRows_set o i ⟨p.ba, d⟩ hio
    refine rng_nextP hi (o.set i (pA o i ++ [Pce.mk p.ba d])) ?_ ⟨hQ, by rw [List.length_set]; exact oL, fun k => ?_, fun k hk => ?_⟩
    ·have r5 : (∀ r, r ∈ oRows (o.set i (pA o i ++ [Pce.mk p.ba d])) → refsInL ((0, 15) :: (0, 18) :: (0, 8) :: (0, 25) :: fams o.length) r = true) = True := by
      have := r4 (o.set i (pA o i ++ [Pce.mk p.ba d]))
      rw [List.length_set] at this
      exact this
     exact weak_fam [(0, 15), (0, 18), (0, 8), (0, 25)] (HnF4 l rs j ((i + 1 : Nat) : Int)) (o.set i (pA o i ++ [Pce.mk p.ba d])) (hn_js rfl) (by simp only [↓vp, vv, ↓reduceIte, simprocAttr, coverS, HnF4, wi]) (by simp only [↓vp, vv, ↓reduceIte, simprocAttr, refsF, HnF4]) (by simp only [↓vp, vv, ↓reduceIte, simprocAttr, so, List.length_set, r5, irs, pce_ref]) (by simp only [↓vp, vv, ↓reduceIte, simprocAttr, so, HnB2, Pce.row]; try rfl)
    ·rw [pA_set _ _ _ _ hio]
     split
     ·rw [List.length_append, List.length_singleton]; omega
     ·exact le1 k
    ·rw [pA_set _ _ _ _ hio, if_neg (by omega)]
     exact le2 k (by omega)
   ·obtain ⟨hQ, oL, le1, le2⟩ := hQ
    rw [List.drop_of_length_le (by simp), List.foldl_nil] at hQ
    subst hQ
    have r2 : (∀ r, r ∈ oRows o → refsInL ((0, 15) :: (0, 18) :: fams o.length) r = true) = True := eq_true (oRows_ref o [(0, 15), (0, 18)])
    simp (maxSteps:=500000) only [↓vp, vv, ↓reduceIte, simprocAttr, c86, r86, c86_1, c86_10, c86_11, c86_12, c86_2, c86_3, c86_4, c86_5, c86_6, c86_7, c86_8, c86_9, HnT, HnF4, HnB2, famH_no, famH_put, Pce.row, Int.lt_irrefl]
    refine rng_nextP hj (o, v) ?_ ⟨hP, oL, vl, le1⟩
    exact weak_fam [(0, 15), (0, 18)] (HnF l rs ((j + 1 : Nat) : Int)) o (hn_js rfl) (by simp only [↓vp, vv, ↓reduceIte, simprocAttr, coverS, HnF, w1]) (by simp only [↓vp, vv, ↓reduceIte, simprocAttr, refsF, HnF]) (by simp only [↓vp, vv, ↓reduceIte, simprocAttr, r2, irs, pce_ref]) (by simp only [↓vp, vv, ↓reduceIte, simprocAttr, HnB]; try rfl)
 ·obtain ⟨os, gs⟩ := u
  obtain ⟨hP, ol, gl, le⟩ := hP
  rw [List.drop_of_length_le (Nat.le_refl _), List.foldl_nil] at hP
  dsimp only at hP ol gl le
  subst hP
  have r1 : ∀ js : List Nm, (∀ r, r ∈ oRows os → refsInL (js ++ fams os.length) r = true) = True := fun js => eq_true (oRows_ref os js)
  simp (maxSteps:=500000) only [↓vp, vv, ↓reduceIte, simprocAttr, c86, r86, c86_1, c86_10, c86_11, c86_12, c86_2, c86_3, c86_4, c86_5, c86_6, c86_7, c86_8, c86_9, HnT, HnF, HnB, famH_no, famH_put, oRows_len, ol, Int.lt_irrefl]
  have rg : ∀ i, (∀ r, r ∈ jRows os i → refsInL ((0, 15) :: (List.range' i (os.length - i)).map fNm) r = true) = True := fun i => eq_true (jRows_refG os i [(0, 15)])
  have rg0 : (∀ r, r ∈ jRows os 0 → refsInL ((0, 15) :: (List.range' 0 os.length).map fNm) r = true) = True := by have := rg 0; rw [Nat.sub_zero] at this; exact this
  refine rng_loop rs.length (fun i => ⟨fr (HnF6 rs (i : Nat)), famG i os (HnB6 os i)⟩) (fun _ => True) ?_ trivial (fun i hi _ => ?_) (fun _ => ?_)
  ·exact weak_famG 0 [(0, 15)] (HnF6 rs 0) os (hn_js rfl) (fun i _ hi => famH_at _ _ _ hi) (by simp only [↓vp, vv, ↓reduceIte, simprocAttr, coverS, HnF6]) (by simp only [↓vp, vv, ↓reduceIte, simprocAttr, refsF, HnF6]) (by rw [← jRows_0] ; simp (maxSteps:=500000) only [↓vp, vv, ↓reduceIte, simprocAttr, famH_no, rg0, Nat.sub_zero]) (by rw [← jRows_0]; simp (maxSteps:=500000) only [↓vp, vv, ↓reduceIte, simprocAttr, famH_no, HnB6]; try rfl)
  ·have hi' : (i : Int) < rs.length := by omega
   have wi := idx_next (j := i) (by omega)
   have hio : i < os.length := by omega
   have og : (jRows os i).getD i [] = oRow os i := jRows_get os i hio
   have fa : ∀ H, famG i os H (fNm i) = some ⟨(pA os i).length, 2, (pA os i).map Pce.row⟩ := fun H => famG_at i os H i (Nat.le_refl _) hio
   have hpo : PfOk (pA os i) := by unfold PfOk; have := le i; omega
   have tk : ((pA os i).map Pce.row).take (pA os i).length = (pA os i).map Pce.row := List.take_of_length_le (by simp)
   simp (maxSteps:=500000) only [↓vp, vv, ↓reduceIte, simprocAttr, c86, r86, c86_1, c86_10, c86_11, c86_12, c86_2, c86_3, c86_4, c86_5, c86_6, c86_7, c86_8, c86_9, HnT, selJo, selX, decPf, pcsOf_map, hpo, HnF6, HnB6, famG_no, fNm_ne, fNm_ne', fa, og, oRow, jRows_len, ol, tk, pcs_pl, hi, hi', hio, Int.toNat_natCast, idx_nn]
   refine rng_next hi ?_ trivial
   exact weak_famG (i + 1) [(0, 15)] (HnF6 rs ((i + 1 : Nat) : Int)) os (hn_js rfl) (fun k hk hk2 => by
    rw [Hp.put_other _ (fun h => by have := fNm_ne k 15 (by omega); rw [h] at this; simp at this), Hp.put_other _ (fun h => by have := fNm_inj h; omega)]
    exact famG_at i os _ k (by omega) hk2) (by simp only [↓vp, vv, ↓reduceIte, simprocAttr, coverS, HnF6, wi]) (by simp only [↓vp, vv, ↓reduceIte, simprocAttr, refsF, HnF6]) (by simp only [↓vp, vv, ↓reduceIte, simprocAttr, famG_no, fNm_ne, fNm_ne', jRows_set, rg]) (by simp only [↓vp, vv, ↓reduceIte, simprocAttr, famG_no, fNm_ne, fNm_ne', HnB6, jRows_set]; try rfl)
  ·have ee : jRows os rs.length = os.map fun x => [.sl ((joined x).map Pce.row)] := by rw [← ol]; exact jRows_end os
   have e1 : rs.length ≤ os.length := by omega
   have e2 : (os.map fun x => [D.sl ((joined x).map Pce.row)]).take rs.length = os.map fun x => [D.sl ((joined x).map Pce.row)] := List.take_of_length_le (by simp [ol])
   simp (maxSteps:=500000) only [↓vp, vv, ↓reduceIte, simprocAttr, c86, r86, c86_1, c86_10, c86_11, c86_12, c86_2, c86_3, c86_4, c86_5, c86_6, c86_7, c86_8, c86_9, r86, HnT, HnF6, HnB6, famG_no, Int.lt_irrefl, ee, e1, e2, handR, Pu]
def decHn : List D → Option (List Pce × List Int)
 | [.sl x, .sl y] => (pcsOf x).bind fun l => (intsOf y).map fun m => (l, m)
 | _ => Option.none
theorem decHn_eq : ∀ l a, decHn l = some a → l = [.sl (a.1.map Pce.row), .sl (a.2.map iRow)] := fun l a h => by
 unfold decHn at h
 split at h
 ·obtain ⟨b, hb, h⟩ := Option.bind_eq_some_iff.1 h
  obtain ⟨c, hc, rfl⟩ := Option.map_eq_some_iff.1 h
  rw [pcsOf_eq hb, intsOf_eq hc]
  rfl
 ·cases h
def selHn := selX decHn (fun a => HnOk a.1 a.2) fun a => handR (hand0 a.1 a.2).1
theorem tc_hn {T : Tbl} (hT : TblOk Try.prog T) : TblOk Try.prog (tc 86 (rowPu selHn) T) := tc_x f86_ok decHn_eq (fun a h nn => hand_c _ _ h nn) hT
end Go.Proofs.Ytadjhfjiimgddaa
