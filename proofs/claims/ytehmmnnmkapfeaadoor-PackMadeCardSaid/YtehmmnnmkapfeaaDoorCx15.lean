/- PackMade: PkD PkE CtG CtO E1 Hints CtE Nw CtR CodePG. -/
import Derived.Test.YtehmmnnmkapfeaaDoorCx13
import Derived.Test.YtehmmnnmkapfeaaDoorCx14
import Derived.Test.YtehmmnnmkapfeaaDoorCx12
import Derived.Test.YtehmmnnmkapfeaaDoorCx3
import Derived.Test.YtehmmnnmkapfeaaDoorCx4
import Derived.Test.YtehmmnnmkapfeaaDoorCx8
import Derived.Test.YtehmmnnmkapfeaaDoorProg
set_option linter.unusedSimpArgs false
set_option linter.unusedVariables false
set_option maxRecDepth 100000

/- Sections and changes of the reference; equal lists; inventories of all segments, of both. -/
namespace Go.Proofs.YtehmmnnmkapfeaaDoor
open Go
def bbR (b : Bool) : List D := [db b]
theorem bb_get {l : List Bool} {j : Nat} (h : j < l.length) : (l.map bbR).getD j [] = [db (l.getD j false)] := by
  rw [List.getD_eq_getElem?_getD, List.getElem?_map, List.getD_eq_getElem?_getD, List.getElem?_eq_getElem h]
  rfl
structure SeenP (n : Nat) (s : List Int) (j : Nat) (u : List Bool) : Prop where
  len : u.length = n
  at' : ∀ k, k < n → u.getD k false = decide ((k : Int) ∈ s.take j)
  nd : (s.take j).Nodup
theorem seen_next {n : Nat} {s : List Int} {j : Nat} {u : List Bool} (h : SeenP n s j u) (hj : j < s.length) (h0 : 0 ≤ iA s j) (h1 : (iA s j).toNat < n) (hu : u.getD (iA s j).toNat false = false) : SeenP n s (j + 1) (u.set (iA s j).toNat true) := by
  have hm : iA s j ∉ s.take j := by
    have := h.at' _ h1
    rw [hu, Int.toNat_of_nonneg h0] at this
    exact of_decide_eq_false this.symm
  refine ⟨by rw [List.length_set]; exact h.len, fun k hk => ?_, (ptB_at hj h.nd).2 (by unfold iA at hm; exact hm)⟩
  rw [i_take hj, List.getD_eq_getElem?_getD, List.getElem?_set]
  by_cases e : (iA s j).toNat = k
  · rw [if_pos e, if_pos (by rw [h.len]; exact h1)]
    have : (k : Int) = iA s j := by omega
    simp [this]
  · rw [if_neg e, ← List.getD_eq_getElem?_getD, h.at' k hk]
    have : ¬ ((k : Int) = iA s j) := by omega
    simp [this]
theorem seen_0 (n : Nat) (s : List Int) : SeenP n s 0 (List.replicate n false) := ⟨by simp, fun k hk => by rw [List.getD_eq_getElem?_getD, List.getElem?_replicate, if_pos hk]; simp, by simp⟩
theorem rep_bb (k : Nat) : List.replicate k [D.v (.bool false)] = (List.replicate k false).map bbR := by rw [List.map_replicate]; rfl
theorem i_at {l : List Int} {j : Nat} (h : j < l.length) : l[j] = iA l j := by
  unfold iA
  rw [List.getD_eq_getElem?_getD, List.getElem?_eq_getElem h]
  rfl
theorem iany_drop {q : Int → Bool} {l : List Int} {j : Nat} (h : j < l.length) {b : Bool} (he : (l.drop j).any q = b) : (q (iA l j) = true → b = true) ∧ (q (iA l j) = false → (l.drop (j + 1)).any q = b) := by
  have := drop_any h he
  rw [i_at h] at this
  exact this
def RsF (p s : List Int) (e : List (Nat × D)) : List (Nat × D) := (0, .sl (p.map iR)) :: (1, .sl (s.map iR)) :: e
def RsH (u : List Bool) : Hp := Hp.none.put (0, 34) ⟨0, 1, u.map bbR⟩
set_option maxHeartbeats 16000000 in
theorem rsec_c (p s : List Int) (h : SecPre p s) (nn : Nm) : CallsA Tryd.prog 46 [.sl (p.map iR), .sl (s.map iR)] Hp.none nn (Pu (ie (secI p s)) Hp.none) := by
  obtain ⟨code, h1, h2⟩ := c46_ok
  refine callsA_of (T0_ok _) mixed (N := fun t => (0, t)) Tryd.func46 h1 h2 r46_ok [] false js_nil js_nil' (by simp [Tryd.f46]) ?_
  have hp := h.pl
  have hs := h.sl
  have e0 : secI p s = if s.any (secBad p.length) then (0, 8) else if ptB s then (0, 7) else if p.any pkBad then (0, 1) else (sumW (pick p s) 0, 0) := rfl
  generalize ha1 : s.any (secBad p.length) = a1 at e0
  generalize ha2 : ptB s = a2 at e0
  generalize ha3 : p.any pkBad = a3 at e0
  simp (maxSteps:=500000) only [↓vp, vv, ↓reduceIte, simprocAttr, c46, r46, c46_1, c46_10, c46_11, c46_12, c46_13, c46_14, c46_15, c46_16, c46_2, c46_3, c46_4, c46_5, c46_6, c46_7, c46_8, c46_9]
  refine rng_loop s.length (fun j => ⟨fr (RsF p s [(6, di (j : Nat))]), Hp.none⟩) (fun j => (s.drop j).any (secBad p.length) = a1) (weak_eq [] [] (RsF p s [(6, di 0)]) (by simp (maxSteps:=500000) only [↓vp, vv, ↓reduceIte, simprocAttr, coverS, RsF]) (by simp (maxSteps:=500000) only [↓vp, vv, ↓reduceIte, simprocAttr, refsF, RsF]) (by simp (maxSteps:=500000) only [↓vp, vv, ↓reduceIte, simprocAttr, RsF]) (by simp) (by simp (maxSteps:=500000) only [↓vp, vv, ↓reduceIte, simprocAttr, RsF]; try rfl)) ha1 (fun j hj hP => ?_) (fun hP => ?_)
  · have hj' : (j : Int) < s.length := by omega
    have w1 := idx_next (j := j) (by omega)
    have g1 := i_get hj
    obtain ⟨n1, n2⟩ := iany_drop hj hP
    have hb : secBad p.length (iA s j) = (decide (iA s j < 0) || decide ((p.length : Int) ≤ iA s j)) := rfl
    generalize iA s j = i at g1 n1 n2 hb
    cases c1 : decide (i < 0) with
    | true =>
      have := n1 (by rw [hb, c1]; rfl)
      subst this
      simp (maxSteps:=500000) only [↓vp, vv, ↓reduceIte, simprocAttr, c46, r46, c46_1, c46_10, c46_11, c46_12, c46_13, c46_14, c46_15, c46_16, c46_2, c46_3, c46_4, c46_5, c46_6, c46_7, c46_8, c46_9, r46, RsF, hj', hj, g1, Int.toNat_natCast, idx_nn, c1, e0, ie, Pu]
    | false =>
    cases c2 : decide ((p.length : Int) ≤ i) with
    | true =>
      have := n1 (by rw [hb, c1, c2]; rfl)
      subst this
      simp (maxSteps:=500000) only [↓vp, vv, ↓reduceIte, simprocAttr, c46, r46, c46_1, c46_10, c46_11, c46_12, c46_13, c46_14, c46_15, c46_16, c46_2, c46_3, c46_4, c46_5, c46_6, c46_7, c46_8, c46_9, r46, RsF, hj', hj, g1, Int.toNat_natCast, idx_nn, c1, c2, e0, ie, Pu]
    | false =>
      have nx := n2 (by rw [hb, c1, c2]; rfl)
      simp (maxSteps:=500000) only [↓vp, vv, ↓reduceIte, simprocAttr, c46, r46, c46_1, c46_10, c46_11, c46_12, c46_13, c46_14, c46_15, c46_16, c46_2, c46_3, c46_4, c46_5, c46_6, c46_7, c46_8, c46_9, r46, RsF, hj', hj, g1, Int.toNat_natCast, idx_nn, c1, c2]
      refine rng_next hj ?_ nx
      exact (weak_eq [] [] (RsF p s [(6, di ((j + 1 : Nat) : Int))]) (by simp (maxSteps:=500000) only [↓vp, vv, ↓reduceIte, simprocAttr, coverS, RsF, w1]) (by simp (maxSteps:=500000) only [↓vp, vv, ↓reduceIte, simprocAttr, refsF, RsF, w1]) (by simp (maxSteps:=500000) only [↓vp, vv, ↓reduceIte, simprocAttr, RsF, w1]) (by simp) (by simp (maxSteps:=500000) only [↓vp, vv, ↓reduceIte, simprocAttr, RsF, w1]; try rfl))
  rw [List.drop_of_length_le (Nat.le_refl _)] at hP
  have : a1 = false := hP.symm
  subst this
  have hin : ∀ j, j < s.length → 0 ≤ iA s j ∧ (iA s j).toNat < p.length := fun j hj => by
    have h1 : secBad p.length (iA s j) = false := by
      have := List.any_eq_false.1 ha1 (iA s j) (by rw [← i_at hj]; exact List.getElem_mem hj)
      simpa using this
    unfold secBad at h1
    rw [Bool.or_eq_false_iff] at h1
    have k1 := of_decide_eq_false h1.1
    have k2 := of_decide_eq_false h1.2
    omega
  have y0 : ¬ (p.length : Int) < 0 := by omega
  have y1 : (0 : Int) ≤ p.length := by omega
  simp (maxSteps:=500000) only [↓vp, vv, ↓reduceIte, simprocAttr, c46, r46, c46_1, c46_10, c46_11, c46_12, c46_13, c46_14, c46_15, c46_16, c46_2, c46_3, c46_4, c46_5, c46_6, c46_7, c46_8, c46_9, RsF, Int.lt_irrefl, y0, y1, Int.toNat_natCast]
  refine ⟨⟨by omega, by omega⟩, ?_⟩
  refine rng_loopP s.length (fun j (u : List Bool) => ⟨fr (RsF p s [(7, .own (0, 34) 0 0 p.length), (8, di (j : Nat))]), RsH u⟩) (SeenP p.length s) (u0 := List.replicate p.length false) (weak_eq [] [(0, 34)] (RsF p s [(7, .own (0, 34) 0 0 p.length), (8, di 0)]) (by simp (maxSteps:=500000) only [↓vp, vv, ↓reduceIte, simprocAttr, coverS, RsF, RsH, rep_bb, bbR]) (by simp (maxSteps:=500000) only [↓vp, vv, ↓reduceIte, simprocAttr, refsF, RsF, RsH, rep_bb, bbR]) (by simp (maxSteps:=500000) only [↓vp, vv, ↓reduceIte, simprocAttr, RsF, RsH, rep_bb, bbR]) (by simp) (by simp (maxSteps:=500000) only [↓vp, vv, ↓reduceIte, simprocAttr, RsF, RsH, rep_bb, bbR]; try rfl)) (seen_0 _ _) (fun j hj u hP => ?_) (fun u hP => ?_)
  · have hj' : (j : Int) < s.length := by omega
    have w1 := idx_next (j := j) (by omega)
    have g1 := i_get hj
    obtain ⟨k1, k2⟩ := hin j hj
    have hul := hP.len
    have k3 : (iA s j) < (p.length : Int) := by omega
    have g2 := bb_get (l := u) (j := (iA s j).toNat) (by omega)
    have k4 : (iA s j).toNat < u.length := by omega
    have hv := hP.at' _ k2
    have nx := seen_next hP hj k1 k2
    have tr := fun h => ptB_true (l := s) (k := j) hj h
    have hd : s.getD j 0 = iA s j := rfl
    rw [hd] at tr
    rw [Int.toNat_of_nonneg k1] at hv
    generalize iA s j = i at g1 k1 k2 k3 k4 g2 hv nx tr
    have st : (u.map bbR).set i.toNat [db true] = (u.set i.toNat true).map bbR := by rw [List.map_set]; rfl
    cases c1 : u.getD i.toNat false with
    | true =>
      have : a2 = true := by
        rw [c1] at hv
        rw [← ha2]
        exact tr (of_decide_eq_true hv.symm)
      subst this
      rw [c1] at g2
      simp (maxSteps:=500000) only [↓vp, vv, ↓reduceIte, simprocAttr, c46, r46, c46_1, c46_10, c46_11, c46_12, c46_13, c46_14, c46_15, c46_16, c46_2, c46_3, c46_4, c46_5, c46_6, c46_7, c46_8, c46_9, r46, RsF, RsH, hj', hj, g1, g2, k1, k2, k3, k4, Int.toNat_natCast, idx_nn, e0, ie, Pu]
    | false =>
      rw [c1] at g2
      simp (maxSteps:=500000) only [↓vp, vv, ↓reduceIte, simprocAttr, c46, r46, c46_1, c46_10, c46_11, c46_12, c46_13, c46_14, c46_15, c46_16, c46_2, c46_3, c46_4, c46_5, c46_6, c46_7, c46_8, c46_9, RsF, RsH, hj', hj, g1, g2, k1, k2, k3, k4, Int.toNat_natCast, idx_nn]
      refine rng_nextP hj (u.set i.toNat true) ?_ (nx c1)
      exact (weak_eq [] [(0, 34)] (RsF p s [(7, .own (0, 34) 0 0 p.length), (8, di ((j + 1 : Nat) : Int))]) (by simp (maxSteps:=500000) only [↓vp, vv, ↓reduceIte, simprocAttr, coverS, RsF, RsH, bbR, st, w1]) (by simp (maxSteps:=500000) only [↓vp, vv, ↓reduceIte, simprocAttr, refsF, RsF, RsH, bbR, st, w1]) (by simp (maxSteps:=500000) only [↓vp, vv, ↓reduceIte, simprocAttr, RsF, RsH, bbR, st, w1]) (by simp) (by simp (maxSteps:=500000) only [↓vp, vv, ↓reduceIte, simprocAttr, RsF, RsH, bbR, st, w1]; try rfl))
  have : a2 = false := by
    have := hP.nd
    rw [List.take_length] at this
    rw [← ha2]
    unfold ptB
    rw [decide_eq_true this]
    rfl
  subst this
  simp (maxSteps:=500000) only [↓vp, vv, ↓reduceIte, simprocAttr, c46, r46, c46_1, c46_10, c46_11, c46_12, c46_13, c46_14, c46_15, c46_16, c46_2, c46_3, c46_4, c46_5, c46_6, c46_7, c46_8, c46_9, RsF, RsH, Int.lt_irrefl]
  refine rng_loop p.length (fun j => ⟨fr (RsF p s [(9, di (j : Nat))]), Hp.none⟩) (fun j => (p.drop j).any pkBad = a3) (weak_eq [] [] (RsF p s [(9, di 0)]) (by simp (maxSteps:=500000) only [↓vp, vv, ↓reduceIte, simprocAttr, coverS, RsF]) (by simp (maxSteps:=500000) only [↓vp, vv, ↓reduceIte, simprocAttr, refsF, RsF]) (by simp (maxSteps:=500000) only [↓vp, vv, ↓reduceIte, simprocAttr, RsF]) (by simp) (by simp (maxSteps:=500000) only [↓vp, vv, ↓reduceIte, simprocAttr, RsF]; try rfl)) ha3 (fun j hj hP => ?_) (fun hP => ?_)
  · have hj' : (j : Int) < p.length := by omega
    have w1 := idx_next (j := j) (by omega)
    have g1 := i_get hj
    obtain ⟨n1, n2⟩ := iany_drop hj hP
    have hb : pkBad (iA p j) = (decide (iA p j < 0) || decide (1099511627776 < iA p j)) := rfl
    generalize iA p j = i at g1 n1 n2 hb
    cases c1 : decide (i < 0) with
    | true =>
      have := n1 (by rw [hb, c1]; rfl)
      subst this
      simp (maxSteps:=500000) only [↓vp, vv, ↓reduceIte, simprocAttr, c46, r46, c46_1, c46_10, c46_11, c46_12, c46_13, c46_14, c46_15, c46_16, c46_2, c46_3, c46_4, c46_5, c46_6, c46_7, c46_8, c46_9, r46, RsF, hj', hj, g1, Int.toNat_natCast, idx_nn, c1, e0, ie, Pu]
    | false =>
    cases c2 : decide (1099511627776 < i) with
    | true =>
      have := n1 (by rw [hb, c1, c2]; rfl)
      subst this
      simp (maxSteps:=500000) only [↓vp, vv, ↓reduceIte, simprocAttr, c46, r46, c46_1, c46_10, c46_11, c46_12, c46_13, c46_14, c46_15, c46_16, c46_2, c46_3, c46_4, c46_5, c46_6, c46_7, c46_8, c46_9, r46, RsF, hj', hj, g1, Int.toNat_natCast, idx_nn, c1, c2, e0, ie, Pu]
    | false =>
      have nx := n2 (by rw [hb, c1, c2]; rfl)
      simp (maxSteps:=500000) only [↓vp, vv, ↓reduceIte, simprocAttr, c46, r46, c46_1, c46_10, c46_11, c46_12, c46_13, c46_14, c46_15, c46_16, c46_2, c46_3, c46_4, c46_5, c46_6, c46_7, c46_8, c46_9, r46, RsF, hj', hj, g1, Int.toNat_natCast, idx_nn, c1, c2]
      refine rng_next hj ?_ nx
      exact (weak_eq [] [] (RsF p s [(9, di ((j + 1 : Nat) : Int))]) (by simp (maxSteps:=500000) only [↓vp, vv, ↓reduceIte, simprocAttr, coverS, RsF, w1]) (by simp (maxSteps:=500000) only [↓vp, vv, ↓reduceIte, simprocAttr, refsF, RsF, w1]) (by simp (maxSteps:=500000) only [↓vp, vv, ↓reduceIte, simprocAttr, RsF, w1]) (by simp) (by simp (maxSteps:=500000) only [↓vp, vv, ↓reduceIte, simprocAttr, RsF, w1]; try rfl))
  rw [List.drop_of_length_le (Nat.le_refl _)] at hP
  have : a3 = false := hP.symm
  subst this
  generalize hX : sumW (pick p s) 0 = X at e0
  simp (maxSteps:=500000) only [↓vp, vv, ↓reduceIte, simprocAttr, c46, r46, c46_1, c46_10, c46_11, c46_12, c46_13, c46_14, c46_15, c46_16, c46_2, c46_3, c46_4, c46_5, c46_6, c46_7, c46_8, c46_9, RsF, Int.lt_irrefl]
  refine rng_loopP s.length (fun j (t : Int) => ⟨fr (RsF p s [(10, di t), (11, di (j : Nat))]), Hp.none⟩) (fun j t => sumW (pick p (s.drop j)) t = X) (u0 := 0) (weak_eq [] [] (RsF p s [(10, di 0), (11, di 0)]) (by simp (maxSteps:=500000) only [↓vp, vv, ↓reduceIte, simprocAttr, coverS, RsF]) (by simp (maxSteps:=500000) only [↓vp, vv, ↓reduceIte, simprocAttr, refsF, RsF]) (by simp (maxSteps:=500000) only [↓vp, vv, ↓reduceIte, simprocAttr, RsF]) (by simp) (by simp (maxSteps:=500000) only [↓vp, vv, ↓reduceIte, simprocAttr, RsF]; try rfl)) hX (fun j hj t hP => ?_) (fun t hP => ?_)
  · have hj' : (j : Int) < s.length := by omega
    have w1 := idx_next (j := j) (by omega)
    have g1 := i_get hj
    obtain ⟨k1, k2⟩ := hin j hj
    have k3 : (iA s j) < (p.length : Int) := by omega
    have g2 := i_get k2
    have nx : sumW (pick p (s.drop (j + 1))) (IntKind.i64.wrap (t + iA p (iA s j).toNat)) = X := by
      rw [i_drop hj] at hP
      unfold pick at hP ⊢
      rw [List.map_cons, sumW] at hP
      exact hP
    generalize iA s j = i at g1 k1 k2 k3 g2 nx
    generalize iA p i.toNat = v at g2 nx
    simp (maxSteps:=500000) only [↓vp, vv, ↓reduceIte, simprocAttr, c46, r46, c46_1, c46_10, c46_11, c46_12, c46_13, c46_14, c46_15, c46_16, c46_2, c46_3, c46_4, c46_5, c46_6, c46_7, c46_8, c46_9, RsF, hj', hj, g1, g2, k1, k2, k3, Int.toNat_natCast, idx_nn]
    refine rng_nextP hj (IntKind.i64.wrap (t + v)) ?_ nx
    exact (weak_eq [] [] (RsF p s [(10, di (IntKind.i64.wrap (t + v))), (11, di ((j + 1 : Nat) : Int))]) (by simp (maxSteps:=500000) only [↓vp, vv, ↓reduceIte, simprocAttr, coverS, RsF, w1]) (by simp (maxSteps:=500000) only [↓vp, vv, ↓reduceIte, simprocAttr, refsF, RsF, w1]) (by simp (maxSteps:=500000) only [↓vp, vv, ↓reduceIte, simprocAttr, RsF, w1]) (by simp) (by simp (maxSteps:=500000) only [↓vp, vv, ↓reduceIte, simprocAttr, RsF, w1]; try rfl))
  · rw [List.drop_of_length_le (Nat.le_refl _)] at hP
    have hP : t = X := hP
    simp (maxSteps:=500000) only [↓vp, vv, ↓reduceIte, simprocAttr, c46, r46, c46_1, c46_10, c46_11, c46_12, c46_13, c46_14, c46_15, c46_16, c46_2, c46_3, c46_4, c46_5, c46_6, c46_7, c46_8, c46_9, r46, RsF, Int.lt_irrefl, hP, e0, ie, Pu]
theorem tc_rsc {T : Tbl} (hT : TblOk Tryd.prog T) : TblOk Tryd.prog (tc 46 (rowPu selSc) T) := tc_x f46_ok decI2_eq (fun a h nn => rsec_c _ _ h nn) hT
def RcgT : Tbl := tc 46 (rowPu selSc) T0
theorem RcgT_ok : TblOk Tryd.prog RcgT := tc_rsc (T0_ok _)
set_option maxHeartbeats 4000000 in
theorem rchg_c (a b s : List Int) (h : ChgPre a b s) (nn : Nm) : CallsA Tryd.prog 47 [.sl (a.map iR), .sl (b.map iR), .sl (s.map iR)] Hp.none nn (Pu (ie (chgI a b s)) Hp.none) := by
  obtain ⟨code, h1, h2⟩ := c47_ok
  refine callsA_of RcgT_ok mixed (N := fun t => (0, t)) Tryd.func47 h1 h2 r47_ok [] false js_nil js_nil' (by simp [Tryd.f47]) ?_
  have p1 : Sc2 (a, s) := h.a
  have p2 : Sc2 (b, s) := h.b
  have e0 : chgI a b s = if (secI a s).2 = 0 then (if (secI b s).2 = 0 then (IntKind.i64.wrap ((secI b s).1 - (secI a s).1), 0) else (0, (secI b s).2)) else (0, (secI a s).2) := rfl
  cases c1 : ((secI a s).2 != 0) with
  | true =>
    rw [if_neg (neq_b c1)] at e0
    simp (maxSteps:=500000) only [↓vp, vv, ↓reduceIte, simprocAttr, c47, r47, c47_1, c47_2, r47, RcgT, selSc, selX, decI2, intsOf_iR, p1, p2, c1, e0, ie, Pu]
  | false =>
  have k1 := eq_b c1
  rw [if_pos k1] at e0
  cases c2 : ((secI b s).2 != 0) with
  | true =>
    rw [if_neg (neq_b c2)] at e0
    simp (maxSteps:=500000) only [↓vp, vv, ↓reduceIte, simprocAttr, c47, r47, c47_1, c47_2, r47, RcgT, selSc, selX, decI2, intsOf_iR, p1, p2, k1, c2, e0, ie, Pu]
  | false =>
    have k2 := eq_b c2
    rw [if_pos k2] at e0
    simp (maxSteps:=500000) only [↓vp, vv, ↓reduceIte, simprocAttr, c47, r47, c47_1, c47_2, r47, RcgT, selSc, selX, decI2, intsOf_iR, p1, p2, k1, k2, e0, ie, Pu]
theorem tc_rcg {T : Tbl} (hT : TblOk Tryd.prog T) : TblOk Tryd.prog (tc 47 (rowPu selCg) T) := tc_x f47_ok decI3_eq (fun a h nn => rchg_c _ _ _ h nn) hT
def SqF (x : List Int) (j : Int) : List (Nat × D) := [(0, .sl (x.map iR)), (1, .sl (x.map iR)), (5, di j)]
set_option maxHeartbeats 4000000 in
theorem sameq_c (x : List Int) (hx : x.length ≤ 1000000) (nn : Nm) : CallsA Tryd.prog 44 [.sl (x.map iR), .sl (x.map iR)] Hp.none nn (Pu (db true) Hp.none) := by
  obtain ⟨code, h1, h2⟩ := c44_ok
  refine callsA_of (T0_ok _) mixed (N := fun t => (0, t)) Tryd.func44 h1 h2 r44_ok [] false js_nil js_nil' (by simp [Tryd.f44]) ?_
  simp (maxSteps:=500000) only [↓vp, vv, ↓reduceIte, simprocAttr, c44, r44, c44_1, c44_2, c44_3, c44_4, c44_5, bne_self_eq_false]
  refine rng_loop x.length (fun j => ⟨fr (SqF x (j : Nat)), Hp.none⟩) (fun _ => True) (weak_eq [] [] (SqF x 0) (by simp (maxSteps:=500000) only [↓vp, vv, ↓reduceIte, simprocAttr, coverS, SqF]) (by simp (maxSteps:=500000) only [↓vp, vv, ↓reduceIte, simprocAttr, refsF, SqF]) (by simp (maxSteps:=500000) only [↓vp, vv, ↓reduceIte, simprocAttr, SqF]) (by simp) (by simp (maxSteps:=500000) only [↓vp, vv, ↓reduceIte, simprocAttr, SqF]; try rfl)) trivial (fun j hj hP => ?_) (fun hP => ?_)
  · have hj' : (j : Int) < x.length := by omega
    have w1 := idx_next (j := j) (by omega)
    have g1 := i_get hj
    simp (maxSteps:=500000) only [↓vp, vv, ↓reduceIte, simprocAttr, c44, r44, c44_1, c44_2, c44_3, c44_4, c44_5, SqF, hj', hj, g1, Int.toNat_natCast, idx_nn, bne_self_eq_false]
    refine rng_next hj ?_ trivial
    exact (weak_eq [] [] (SqF x ((j + 1 : Nat) : Int)) (by simp (maxSteps:=500000) only [↓vp, vv, ↓reduceIte, simprocAttr, coverS, SqF, w1]) (by simp (maxSteps:=500000) only [↓vp, vv, ↓reduceIte, simprocAttr, refsF, SqF, w1]) (by simp (maxSteps:=500000) only [↓vp, vv, ↓reduceIte, simprocAttr, SqF, w1]) (by simp) (by simp (maxSteps:=500000) only [↓vp, vv, ↓reduceIte, simprocAttr, SqF, w1]; try rfl))
  · simp (maxSteps:=500000) only [↓vp, vv, ↓reduceIte, simprocAttr, c44, r44, c44_1, c44_2, c44_3, c44_4, c44_5, r44, SqF, Int.lt_irrefl, Pu]
def selSq : List D → Option (Prop × D)
  | [.sl x, .sl y] => match intsOf x, intsOf y with
    | some a, some b => some (a = b ∧ a.length ≤ 1000000, db true)
    | _, _ => Option.none
  | _ => Option.none
theorem tc_sq {T : Tbl} (hT : TblOk Tryd.prog T) : TblOk Tryd.prog (tc 44 (rowPu selSq) T) :=
  tc_pu f44_ok (fun args pre d h hp nn => by
    unfold selSq at h
    split at h
    · split at h
      · rename_i e e'
        cases h
        obtain ⟨rfl, hl⟩ := hp
        rw [intsOf_eqR e, intsOf_eqR e']
        exact sameq_c _ hl nn
      · cases h
    · cases h) hT
def fR (f : List Pce) : List D := [.sl (f.map Pce.row)]
def fA (l : List (List Pce)) (j : Nat) : List Pce := l.getD j []
theorem f_get {l : List (List Pce)} {j : Nat} (h : j < l.length) : (l.map fR).getD j [] = [.sl ((fA l j).map Pce.row)] := by
  unfold fA
  rw [List.getD_eq_getElem?_getD, List.getElem?_map, List.getD_eq_getElem?_getD, List.getElem?_eq_getElem h]
  rfl
theorem f_at {l : List (List Pce)} {j : Nat} (h : j < l.length) : l[j] = fA l j := by
  unfold fA
  rw [List.getD_eq_getElem?_getD, List.getElem?_eq_getElem h]
  rfl
theorem f_drop {l : List (List Pce)} {j : Nat} (h : j < l.length) : l.drop j = fA l j :: l.drop (j + 1) := by
  rw [List.drop_eq_getElem_cons h, f_at h]
def fsOf : List (List D) → Option (List (List Pce))
  | [] => some []
  | [.sl x] :: l => match pcsOf x, fsOf l with
    | some c, some cs => some (c :: cs)
    | _, _ => Option.none
  | _ => Option.none
theorem fsOf_map (l : List (List Pce)) : fsOf (l.map fR) = some l := by
  induction l with
  | nil => rfl
  | cons c l ih =>
    rw [List.map_cons]
    unfold fR at ih ⊢
    rw [fsOf, pcsOf_map, ih]
theorem fsOf_eq : ∀ {l : List (List D)} {cs : List (List Pce)}, fsOf l = some cs → l = cs.map fR
  | [], cs, h => by rw [fsOf] at h; cases h; rfl
  | [.sl x] :: l, cs, h => by
    rw [fsOf] at h
    split at h
    · rename_i e e'
      cases h
      rw [List.map_cons, ← fsOf_eq e']
      unfold fR
      rw [pcsOf_eq e]
    · cases h
def allGo (ps : List Prd) (bs : List Bat) (l : List Cnd) : List (List Pce) → Nat → List Int → List Int × Int
  | [], _, out => (out, 0)
  | f :: fs, i, out => if (segI ps bs f (cdA l i)).2 = 0 then allGo ps bs l fs (i + 1) (out ++ [(segI ps bs f (cdA l i)).1]) else ([], (segI ps bs f (cdA l i)).2)
def allI (n : Net) (ps : List Prd) (bs : List Bat) (fs : List (List Pce)) (l : List Cnd) : List Int × Int :=
  if checkI n = 0 then (if fs.length = n.segs.length then (if l.length = n.segs.length then allGo ps bs l fs 0 [] else ([], 9)) else ([], 14)) else ([], checkI n)
def reA (x : List Int × Int) : D := .tup [.sl (x.1.map iR), di x.2]
structure AlPre (n : Net) (ps : List Prd) (bs : List Bat) (fs : List (List Pce)) (l : List Cnd) : Prop where
  nz : NetSz n
  hp : ps.length ≤ 1000000
  hb : bs.length ≤ 1000000
  hf : fs.length ≤ 1000000
  hl : l.length ≤ 1000000
  ha : ∀ f, f ∈ fs → f.length ≤ 1000000
def AlT : Tbl := tc 77 (rowPu (selNet fun n => di (checkI n))) (tc 34 (rowPu selSg) T0)
theorem AlT_ok : TblOk Tryd.prog AlT := tc_netf f77_ok check_c (tc_sg (T0_ok _))
def AlU : Tbl := tc 78 (rowPu (selNet fun n => di (checkI n))) (tc 45 (rowPu selSg) T0)
theorem AlU_ok : TblOk Tryd.prog AlU := tc_netf f78_ok rcheck_c (tc_rsg (T0_ok _))
def AlB (ps : List Prd) (bs : List Bat) (l : List Cnd) (e : List (Nat × D)) : List (Nat × D) := (1, .sl (ps.map Prd.row)) :: (2, .sl (bs.map Bat.row)) :: (4, .sl (l.map Cnd.row)) :: e
def AlF (ps : List Prd) (bs : List Bat) (fs : List (List Pce)) (l : List Cnd) (out : List Int) (g : Nat) (j : Int) : List (Nat × D) := AlB ps bs l [(13, .own (0, 1000) g 0 out.length), (37, .sl (fs.map fR)), (38, di fs.length), (39, di j)]
def AlG (ps : List Prd) (bs : List Bat) (fs : List (List Pce)) (l : List Cnd) (out : List Int) (g : Nat) (j : Int) : List (Nat × D) := AlB ps bs l [(3, .sl (fs.map fR)), (13, .own (0, 1000) g 0 out.length), (14, di j)]
def AlH (out : List Int) (g : Nat) : Hp := Hp.none.put (0, 1000) ⟨g, 1, out.map iR⟩
set_option maxHeartbeats 16000000 in
theorem pall_c (n : Net) (ps : List Prd) (bs : List Bat) (fs : List (List Pce)) (l : List Cnd) (h : AlPre n ps bs fs l) (nn : Nm) : CallsA Tryd.prog 42 [n.enc, .sl (ps.map Prd.row), .sl (bs.map Bat.row), .sl (fs.map fR), .sl (l.map Cnd.row)] Hp.none nn (Pu (reA (allI n ps bs fs l)) Hp.none) := by
  obtain ⟨code, h1, h2⟩ := c42_ok
  refine callsA_of AlT_ok mixed (N := fun t => (0, t)) Tryd.func42 h1 h2 r42_ok [] false js_nil js_nil' (by simp [Tryd.f42]) ?_
  have hn1 := netOf1_x n
  have hz := h.nz
  have hzs := h.nz.segs
  have b1 := h.hf
  have b2 := h.hl
  cases a0 : (checkI n != 0) with
  | true =>
    have e : allI n ps bs fs l = ([], checkI n) := by unfold allI; rw [if_neg (neq_b a0)]
    simp (maxSteps:=500000) only [↓vp, vv, ↓reduceIte, simprocAttr, c42, r42, c42_1, c42_2, c42_3, c42_4, c42_5, c42_6, c42_7, r42, AlT, selNet, hn1, hz, a0, e, reA, Net.enc, netD, List.map_nil, Pu]
  | false =>
  have k0 := eq_b a0
  have e0 : allI n ps bs fs l = if fs.length = n.segs.length then (if l.length = n.segs.length then allGo ps bs l fs 0 [] else ([], 9)) else ([], 14) := by unfold allI; rw [if_pos k0]
  cases a1 : ((fs.length : Int) != (n.segs.length : Int)) with
  | true =>
    rw [if_neg (fun e => neq_b a1 (by rw [e]))] at e0
    simp (maxSteps:=500000) only [↓vp, vv, ↓reduceIte, simprocAttr, c42, r42, c42_1, c42_2, c42_3, c42_4, c42_5, c42_6, c42_7, r42, AlT, selNet, hn1, hz, k0, a1, e0, reA, Net.enc, netD, List.map_nil, Pu]
  | false =>
  have k1 : fs.length = n.segs.length := by have := eq_b a1; omega
  rw [if_pos k1] at e0
  cases a2 : ((l.length : Int) != (n.segs.length : Int)) with
  | true =>
    rw [if_neg (fun e => neq_b a2 (by rw [e]))] at e0
    simp (maxSteps:=500000) only [↓vp, vv, ↓reduceIte, simprocAttr, c42, r42, c42_1, c42_2, c42_3, c42_4, c42_5, c42_6, c42_7, r42, AlT, selNet, hn1, hz, k0, a1, a2, e0, reA, Net.enc, netD, List.map_nil, Pu]
  | false =>
  have k2 : l.length = n.segs.length := by have := eq_b a2; omega
  rw [if_pos k2] at e0
  generalize hX : allGo ps bs l fs 0 [] = X at e0
  simp (maxSteps:=500000) only [↓vp, vv, ↓reduceIte, simprocAttr, c42, r42, c42_1, c42_2, c42_3, c42_4, c42_5, c42_6, c42_7, AlT, selNet, hn1, hz, k0, a1, a2, Net.enc, netD]
  refine rng_loopP fs.length (fun j (u : List Int × Nat) => ⟨fr (AlF ps bs fs l u.1 u.2 (j : Nat)), AlH u.1 u.2⟩) (fun j u => u.1.length = j ∧ allGo ps bs l (fs.drop j) j u.1 = X) (u0 := ([], 0)) ((weak_own 13 (0, 1000) 1 (by simp (maxSteps:=500000) only [↓vp, vv, ↓reduceIte, simprocAttr, ]) (by simp (maxSteps:=500000) only [↓vp, vv, ↓reduceIte, simprocAttr, ])).trans (weak_eq [] [(0, 1000)] (AlF ps bs fs l [] 0 0) (by simp (maxSteps:=500000) only [↓vp, vv, ↓reduceIte, simprocAttr, coverS, AlF, AlB, AlH, List.map_nil]) (by simp (maxSteps:=500000) only [↓vp, vv, ↓reduceIte, simprocAttr, refsF, AlF, AlB, AlH, List.map_nil]) (by simp (maxSteps:=500000) only [↓vp, vv, ↓reduceIte, simprocAttr, AlF, AlB, AlH, List.map_nil]) (by simp) (by simp (maxSteps:=500000) only [↓vp, vv, ↓reduceIte, simprocAttr, AlF, AlB, AlH, List.map_nil]; try rfl))) ⟨rfl, hX⟩ (fun j hj u hP => ?_) (fun u hP => ?_)
  · obtain ⟨out, g⟩ := u
    obtain ⟨ho, hP⟩ := hP
    dsimp only at ho hP
    have hj' : (j : Int) < fs.length := by omega
    have jl : j < l.length := by omega
    have jl' : (j : Int) < l.length := by omega
    have w1 := idx_next (j := j) (by omega)
    have g1 := f_get hj
    have g2 := cd_get jl
    have y1 : (out.length + 1) * 8 ≤ 140737488355328 := by omega
    have y2 : out.length + 1 ≤ 4611686018427387904 := by omega
    rw [f_drop hj, allGo] at hP
    have hf : fA fs j ∈ fs := by rw [← f_at hj]; exact List.getElem_mem hj
    have ok : SgOk ⟨ps, bs, fA fs j, cdA l j⟩ := ⟨h.hp, h.hb, h.ha _ hf⟩
    generalize fA fs j = f at g1 hP ok
    generalize cdA l j = c at g2 hP ok
    have dc : cndOf [di c.te, di c.pr] = some c := rfl
    cases d1 : ((segI ps bs f c).2 != 0) with
    | true =>
      rw [if_neg (neq_b d1)] at hP
      simp (maxSteps:=500000) only [↓vp, vv, ↓reduceIte, simprocAttr, c42, r42, c42_1, c42_2, c42_3, c42_4, c42_5, c42_6, c42_7, r42, AlT, AlF, AlB, AlH, selSg, selX, decSg, prdsOf_map, btsOf_map, pcsOf_map, dc, ok, hj', hj, jl, jl', g1, g2, Int.toNat_natCast, idx_nn, d1, e0, ← hP, ie, reA, List.map_nil, Pu]
    | false =>
      have k3 := eq_b d1
      rw [if_pos k3] at hP
      have nx : (out ++ [(segI ps bs f c).1]).length = j + 1 ∧ allGo ps bs l (fs.drop (j + 1)) (j + 1) (out ++ [(segI ps bs f c).1]) = X := ⟨by simp; omega, hP⟩
      generalize hq : (segI ps bs f c).1 = v at nx
      simp (maxSteps:=500000) only [↓vp, vv, ↓reduceIte, simprocAttr, c42, r42, c42_1, c42_2, c42_3, c42_4, c42_5, c42_6, c42_7, AlT, AlF, AlB, AlH, selSg, selX, decSg, prdsOf_map, btsOf_map, pcsOf_map, dc, ok, hj', hj, jl, jl', g1, g2, Int.toNat_natCast, idx_nn, k3, hq, ie, y1, y2]
      refine rng_nextP hj (out ++ [v], g + 1) ?_ nx
      exact (weak_eq [] [(0, 1000)] (AlF ps bs fs l (out ++ [v]) (g + 1) ((j + 1 : Nat) : Int)) (by simp (maxSteps:=500000) only [↓vp, vv, ↓reduceIte, simprocAttr, coverS, AlF, AlB, AlH, iR, w1, List.map_append, List.map_cons, List.map_nil, List.length_append, List.length_cons, List.length_nil]) (by simp (maxSteps:=500000) only [↓vp, vv, ↓reduceIte, simprocAttr, refsF, AlF, AlB, AlH, iR, w1, List.map_append, List.map_cons, List.map_nil, List.length_append, List.length_cons, List.length_nil]) (by simp (maxSteps:=500000) only [↓vp, vv, ↓reduceIte, simprocAttr, AlF, AlB, AlH, iR, w1, List.map_append, List.map_cons, List.map_nil, List.length_append, List.length_cons, List.length_nil]) (by simp) (by simp (maxSteps:=500000) only [↓vp, vv, ↓reduceIte, simprocAttr, AlF, AlB, AlH, iR, w1, List.map_append, List.map_cons, List.map_nil, List.length_append, List.length_cons, List.length_nil]; try rfl))
  · obtain ⟨out, g⟩ := u
    obtain ⟨ho, hP⟩ := hP
    dsimp only at ho hP
    rw [List.drop_of_length_le (Nat.le_refl _), allGo] at hP
    have tk : (out.map iR).take out.length = out.map iR := List.take_of_length_le (by simp)
    simp (maxSteps:=500000) only [↓vp, vv, ↓reduceIte, simprocAttr, c42, r42, c42_1, c42_2, c42_3, c42_4, c42_5, c42_6, c42_7, r42, AlT, AlF, AlB, AlH, Int.lt_irrefl, tk, e0, ← hP, reA, eq_true (i_pl out), Pu]
set_option maxHeartbeats 16000000 in
theorem rall_c (n : Net) (ps : List Prd) (bs : List Bat) (fs : List (List Pce)) (l : List Cnd) (h : AlPre n ps bs fs l) (nn : Nm) : CallsA Tryd.prog 43 [n.enc, .sl (ps.map Prd.row), .sl (bs.map Bat.row), .sl (fs.map fR), .sl (l.map Cnd.row)] Hp.none nn (Pu (reA (allI n ps bs fs l)) Hp.none) := by
  obtain ⟨code, h1, h2⟩ := c43_ok
  refine callsA_of AlU_ok mixed (N := fun t => (0, t)) Tryd.func43 h1 h2 r43_ok [] false js_nil js_nil' (by simp [Tryd.f43]) ?_
  have hn1 := netOf1_x n
  have hz := h.nz
  have hzs := h.nz.segs
  have b1 := h.hf
  have b2 := h.hl
  cases a0 : (checkI n != 0) with
  | true =>
    have e : allI n ps bs fs l = ([], checkI n) := by unfold allI; rw [if_neg (neq_b a0)]
    simp (maxSteps:=500000) only [↓vp, vv, ↓reduceIte, simprocAttr, c43, r43, c43_1, c43_2, c43_3, c43_4, c43_5, c43_6, c43_7, c43_8, r43, AlU, selNet, hn1, hz, a0, e, reA, Net.enc, netD, List.map_nil, Pu]
  | false =>
  have k0 := eq_b a0
  have e0 : allI n ps bs fs l = if fs.length = n.segs.length then (if l.length = n.segs.length then allGo ps bs l fs 0 [] else ([], 9)) else ([], 14) := by unfold allI; rw [if_pos k0]
  cases a1 : ((fs.length : Int) != (n.segs.length : Int)) with
  | true =>
    rw [if_neg (fun e => neq_b a1 (by rw [e]))] at e0
    simp (maxSteps:=500000) only [↓vp, vv, ↓reduceIte, simprocAttr, c43, r43, c43_1, c43_2, c43_3, c43_4, c43_5, c43_6, c43_7, c43_8, r43, AlU, selNet, hn1, hz, k0, a1, e0, reA, Net.enc, netD, List.map_nil, Pu]
  | false =>
  have k1 : fs.length = n.segs.length := by have := eq_b a1; omega
  rw [if_pos k1] at e0
  cases a2 : ((l.length : Int) != (n.segs.length : Int)) with
  | true =>
    rw [if_neg (fun e => neq_b a2 (by rw [e]))] at e0
    simp (maxSteps:=500000) only [↓vp, vv, ↓reduceIte, simprocAttr, c43, r43, c43_1, c43_2, c43_3, c43_4, c43_5, c43_6, c43_7, c43_8, r43, AlU, selNet, hn1, hz, k0, a1, a2, e0, reA, Net.enc, netD, List.map_nil, Pu]
  | false =>
  have k2 : l.length = n.segs.length := by have := eq_b a2; omega
  rw [if_pos k2] at e0
  generalize hX : allGo ps bs l fs 0 [] = X at e0
  simp (maxSteps:=500000) only [↓vp, vv, ↓reduceIte, simprocAttr, c43, r43, c43_1, c43_2, c43_3, c43_4, c43_5, c43_6, c43_7, c43_8, AlU, selNet, hn1, hz, k0, a1, a2, Net.enc, netD]
  refine rng_loopP fs.length (fun j (u : List Int × Nat) => ⟨fr (AlG ps bs fs l u.1 u.2 (j : Nat)), AlH u.1 u.2⟩) (fun j u => u.1.length = j ∧ allGo ps bs l (fs.drop j) j u.1 = X) (u0 := ([], 0)) ((weak_own 13 (0, 1000) 1 (by simp (maxSteps:=500000) only [↓vp, vv, ↓reduceIte, simprocAttr, ]) (by simp (maxSteps:=500000) only [↓vp, vv, ↓reduceIte, simprocAttr, ])).trans (weak_eq [] [(0, 1000)] (AlG ps bs fs l [] 0 0) (by simp (maxSteps:=500000) only [↓vp, vv, ↓reduceIte, simprocAttr, coverS, AlG, AlB, AlH, List.map_nil]) (by simp (maxSteps:=500000) only [↓vp, vv, ↓reduceIte, simprocAttr, refsF, AlG, AlB, AlH, List.map_nil]) (by simp (maxSteps:=500000) only [↓vp, vv, ↓reduceIte, simprocAttr, AlG, AlB, AlH, List.map_nil]) (by simp) (by simp (maxSteps:=500000) only [↓vp, vv, ↓reduceIte, simprocAttr, AlG, AlB, AlH, List.map_nil]; try rfl))) ⟨rfl, hX⟩ (fun j hj u hP => ?_) (fun u hP => ?_)
  · obtain ⟨out, g⟩ := u
    obtain ⟨ho, hP⟩ := hP
    dsimp only at ho hP
    have hj' : (j : Int) < fs.length := by omega
    have jl : j < l.length := by omega
    have jl' : (j : Int) < l.length := by omega
    have w1 := idx_next (j := j) (by omega)
    have g1 := f_get hj
    have g2 := cd_get jl
    have y1 : (out.length + 1) * 8 ≤ 140737488355328 := by omega
    have y2 : out.length + 1 ≤ 4611686018427387904 := by omega
    rw [f_drop hj, allGo] at hP
    have hf : fA fs j ∈ fs := by rw [← f_at hj]; exact List.getElem_mem hj
    have ok : SgOk ⟨ps, bs, fA fs j, cdA l j⟩ := ⟨h.hp, h.hb, h.ha _ hf⟩
    generalize fA fs j = f at g1 hP ok
    generalize cdA l j = c at g2 hP ok
    have dc : cndOf [di c.te, di c.pr] = some c := rfl
    cases d1 : ((segI ps bs f c).2 != 0) with
    | true =>
      rw [if_neg (neq_b d1)] at hP
      simp (maxSteps:=500000) only [↓vp, vv, ↓reduceIte, simprocAttr, c43, r43, c43_1, c43_2, c43_3, c43_4, c43_5, c43_6, c43_7, c43_8, r43, AlU, AlG, AlB, AlH, selSg, selX, decSg, prdsOf_map, btsOf_map, pcsOf_map, dc, ok, hj', hj, jl, jl', g1, g2, Int.toNat_natCast, idx_nn, d1, e0, ← hP, ie, reA, List.map_nil, Pu]
    | false =>
      have k3 := eq_b d1
      rw [if_pos k3] at hP
      have nx : (out ++ [(segI ps bs f c).1]).length = j + 1 ∧ allGo ps bs l (fs.drop (j + 1)) (j + 1) (out ++ [(segI ps bs f c).1]) = X := ⟨by simp; omega, hP⟩
      generalize hq : (segI ps bs f c).1 = v at nx
      simp (maxSteps:=500000) only [↓vp, vv, ↓reduceIte, simprocAttr, c43, r43, c43_1, c43_2, c43_3, c43_4, c43_5, c43_6, c43_7, c43_8, AlU, AlG, AlB, AlH, selSg, selX, decSg, prdsOf_map, btsOf_map, pcsOf_map, dc, ok, hj', hj, jl, jl', g1, g2, Int.toNat_natCast, idx_nn, k3, hq, ie, y1, y2]
      refine rng_nextP hj (out ++ [v], g + 1) ?_ nx
      exact (weak_eq [] [(0, 1000)] (AlG ps bs fs l (out ++ [v]) (g + 1) ((j + 1 : Nat) : Int)) (by simp (maxSteps:=500000) only [↓vp, vv, ↓reduceIte, simprocAttr, coverS, AlG, AlB, AlH, iR, w1, List.map_append, List.map_cons, List.map_nil, List.length_append, List.length_cons, List.length_nil]) (by simp (maxSteps:=500000) only [↓vp, vv, ↓reduceIte, simprocAttr, refsF, AlG, AlB, AlH, iR, w1, List.map_append, List.map_cons, List.map_nil, List.length_append, List.length_cons, List.length_nil]) (by simp (maxSteps:=500000) only [↓vp, vv, ↓reduceIte, simprocAttr, AlG, AlB, AlH, iR, w1, List.map_append, List.map_cons, List.map_nil, List.length_append, List.length_cons, List.length_nil]) (by simp) (by simp (maxSteps:=500000) only [↓vp, vv, ↓reduceIte, simprocAttr, AlG, AlB, AlH, iR, w1, List.map_append, List.map_cons, List.map_nil, List.length_append, List.length_cons, List.length_nil]; try rfl))
  · obtain ⟨out, g⟩ := u
    obtain ⟨ho, hP⟩ := hP
    dsimp only at ho hP
    rw [List.drop_of_length_le (Nat.le_refl _), allGo] at hP
    have tk : (out.map iR).take out.length = out.map iR := List.take_of_length_le (by simp)
    simp (maxSteps:=500000) only [↓vp, vv, ↓reduceIte, simprocAttr, c43, r43, c43_1, c43_2, c43_3, c43_4, c43_5, c43_6, c43_7, c43_8, r43, AlU, AlG, AlB, AlH, Int.lt_irrefl, tk, e0, ← hP, reA, eq_true (i_pl out), Pu]
structure AlA where
  n : Net
  ps : List Prd
  bs : List Bat
  fs : List (List Pce)
  l : List Cnd
def decAl : List D → Option AlA
  | [.agg x, .sl y, .sl z, .sl w, .sl v] => match netOf1 x, prdsOf y, btsOf z, fsOf w, cndsOf v with
    | some a, some b, some c, some d, some e => some ⟨a, b, c, d, e⟩
    | _, _, _, _, _ => Option.none
  | _ => Option.none
theorem decAl_eq : ∀ l a, decAl l = some a → l = [a.n.enc, .sl (a.ps.map Prd.row), .sl (a.bs.map Bat.row), .sl (a.fs.map fR), .sl (a.l.map Cnd.row)] := fun l a h => by
  unfold decAl at h
  split at h
  · split at h
    · rename_i e1 e2 e3 e4 e5; cases h; rw [netOf1_eq e1, prdsOf_eq e2, btsOf_eq e3, fsOf_eq e4, cndsOf_eq e5]; rfl
    · cases h
  · cases h
def AlOk (a : AlA) : Prop := AlPre a.n a.ps a.bs a.fs a.l
def selAl := selX decAl AlOk fun a => reA (allI a.n a.ps a.bs a.fs a.l)
theorem tc_al {T : Tbl} (hT : TblOk Tryd.prog T) : TblOk Tryd.prog (tc 42 (rowPu selAl) T) := tc_x f42_ok decAl_eq (fun a h nn => pall_c _ _ _ _ _ h nn) hT
theorem tc_ral {T : Tbl} (hT : TblOk Tryd.prog T) : TblOk Tryd.prog (tc 43 (rowPu selAl) T) := tc_x f43_ok decAl_eq (fun a h nn => rall_c _ _ _ _ _ h nn) hT
def SrcO {α : Type} (i nn : Nm) (L : List (List D)) (sz : Nat) (row : α → List D) (post : List α → Prop) : D → Hp → Prop := fun v H' => ∃ at' g l, SrcOk L at' ∧ post l ∧ v = .own nn g 0 l.length ∧ H' = (Hp.none.put nn ⟨g, sz, l.map row⟩).put i (sE L at')
theorem SrcO_all {α : Type} (i nn : Nm) (L : List (List D)) (sz : Nat) (row : α → List D) (post : List α → Prop) (K : D → Hp → Prop) : (∀ v H', SrcO i nn L sz row post v H' → K v H') = ∀ (at' : SA L) (g : Nat) (l : List α), post l → K (.own nn g 0 l.length) ((Hp.none.put nn ⟨g, sz, l.map row⟩).put i (sE L at'.1)) :=
  propext ⟨fun h at' g l h2 => h _ _ ⟨at'.1, g, l, at'.2, h2, rfl, rfl⟩, fun h v H' ⟨at', g, l, h1, h2, e1, e2⟩ => by rw [e1, e2]; exact h ⟨at', h1⟩ g l h2⟩
theorem js_two (i nn : Nm) (e : En) : ∀ (j : Nm) (x : En), (Hp.none.put i e) j = some x → j ∈ [i, nn] := fun j x h => by
  by_cases hj : j = i
  · rw [hj]; exact List.mem_cons_self ..
  · rw [Hp.put_other _ hj] at h; cases h
theorem js_two' (i nn : Nm) (e : En) : ∀ j ∈ [i, nn], ((Hp.none.put i e) j).isSome = true ∨ j = nn := fun j h => by
  rcases List.mem_cons.1 h with h | h
  · rw [h, Hp.put_same]; exact .inl rfl
  · exact .inr (List.mem_singleton.1 h)
end Go.Proofs.YtehmmnnmkapfeaaDoor

/- Functions over abstract data, run by the kernel: what a run yields is a contract. No program in sight. -/
/- Functions over abstract data, run by the kernel: what a run yields is a contract. No program in sight. -/
namespace Go.Proofs.YtehmmnnmkapfeaaDoor
open Go
def lookF (b : Bool) (t : Nat) : List (Nat × D) → D
  | [] => bif b then .v undef else .any
  | (k, d) :: l => bif Nat.beq t k then d else lookF b t l
def frB (b : Bool) (l : List (Nat × D)) : Fr := fun t => lookF b t l
def nmEq (i j : Nm) : Bool := Nat.beq i.1 j.1 && Nat.beq i.2 j.2
theorem nmEq_iff (i j : Nm) : nmEq i j = true ↔ i = j := by
  obtain ⟨a, b⟩ := i
  obtain ⟨c, d⟩ := j
  simp [nmEq]
def lookH (i : Nm) : List (Nm × En) → Option En
  | [] => Option.none
  | (j, e) :: l => bif nmEq i j then some e else lookH i l
def hp (l : List (Nm × En)) : Hp := fun i => lookH i l
theorem hp_nil : hp [] = Hp.none := rfl
theorem hp_cons (i : Nm) (e : En) (l : List (Nm × En)) : hp ((i, e) :: l) = (hp l).put i e := by
  funext j
  simp only [hp, lookH, Hp.put]
  by_cases h : j = i
  · rw [(nmEq_iff j i).2 h, if_pos h]; rfl
  · rw [Bool.eq_false_iff.2 (fun k => h ((nmEq_iff j i).1 k)), if_neg h]; rfl
theorem frB_cons (b : Bool) (k : Nat) (d : D) (l : List (Nat × D)) : frB b ((k, d) :: l) = putF (frB b l) (some k) d := by
  funext t
  simp only [frB, lookF, putF]
  by_cases h : t = k
  · subst h; rw [if_pos rfl, Nat.beq_refl]; rfl
  · rw [if_neg h, Bool.eq_false_iff.2 (fun q => h (Nat.eq_of_beq_eq_true q))]; rfl
structure SL where
  b : Bool
  F : List (Nat × D)
  H : List (Nm × En)
def SL.st (s : SL) : St := ⟨frB s.b s.F, hp s.H⟩
def restrL (H : Hp) : List Nm → List (Nm × En)
  | [] => []
  | i :: is =>
    match H i with
    | some e => (i, e) :: restrL H is
    | Option.none => restrL H is
def killsL (H : List (Nm × En)) : List Nm → List (Nm × En)
  | [] => H
  | i :: is =>
    match lookH i H with
    | some e => killsL ((i, ⟨e.g + 1, e.sz, []⟩) :: H) is
    | Option.none => killsL H is
theorem killsL_eq : ∀ (js : List Nm) (H : List (Nm × En)), hp (killsL H js) = (hp H).kills js
  | [], H => rfl
  | i :: is, H => by
    unfold killsL Hp.kills Hp.kill
    have e : hp H i = lookH i H := rfl
    rw [e]
    cases lookH i H with
    | none => exact killsL_eq is H
    | some e => dsimp only; rw [killsL_eq is, hp_cons]
def listB {α : Type} (p : α → Bool) : List α → Bool
  | [] => true
  | x :: xs => p x && listB p xs
theorem listB_iff {α : Type} {p : α → Bool} : ∀ {l : List α}, listB p l = true → ∀ x ∈ l, p x = true
  | x :: xs, h, y, hy => by
    rw [listB, Bool.and_eq_true] at h
    cases hy with
    | head => exact h.1
    | tail _ hy => exact listB_iff h.2 y hy
def lendOk1B (H : Hp) : D → Bool
  | .own i g off n =>
    match H i with
    | some e => listB (fun r => listB D.plain r) e.rows && decide (off + n ≤ e.rows.length)
    | Option.none => true
  | _ => true
theorem lendOk1B_ok {H : Hp} {d : D} (h : lendOk1B H d = true) : lendOk1 H d := by
  cases d with
  | own i g off n =>
    unfold lendOk1B at h
    unfold lendOk1
    dsimp only at h ⊢
    split
    · rename_i e he
      rw [he] at h
      dsimp only at h
      rw [Bool.and_eq_true] at h
      exact ⟨fun r hr d hd => listB_iff (listB_iff h.1 r hr) d hd, of_decide_eq_true h.2⟩
    · trivial
  | _ => exact trivial
def lendOkB (H : Hp) : D → Bool
  | .agg cs => listB (lendOk1B H) cs
  | d => lendOk1B H d
def closedB (H : Hp) (js : List Nm) : List Nm → Bool
  | [] => true
  | i :: is => (match H i with
    | some e => listB (refsInL js) e.rows
    | Option.none => true) && closedB H js is
def subNm (js : List Nm) : List Nm → Bool
  | [] => true
  | i :: is => nmIn i js && subNm js is
end Go.Proofs.YtehmmnnmkapfeaaDoor
/- Functions over abstract data, run by the kernel: code and functions. No program in sight. -/
namespace Go.Proofs.YtehmmnnmkapfeaaDoor
open Go
def rowsNms (H : Hp) : List Nm → List Nm
  | [] => []
  | i :: is => (match H i with
    | some e => e.rows.flatMap nmsL
    | Option.none => []) ++ rowsNms H is
def gcF (s : SL) (H : Hp) (frz : List Nat) : List Nat → List (Nat × D)
  | [] => []
  | t :: ts => (t, bif natIn t frz then lend H (lookF s.b t s.F) else lookF s.b t s.F) :: gcF s H frz ts
def frzNms (s : SL) (H : Hp) : List Nat → List Nm
  | [] => []
  | t :: ts => lendNm H (lookF s.b t s.F) ++ frzNms s H ts
def frzOk (s : SL) (H : Hp) : List Nat → Bool
  | [] => true
  | t :: ts => lendOkB H (lookF s.b t s.F) && frzOk s H ts
def gc (J : List Nm) (live frz : List Nat) (s : SL) : SL :=
  (fun (F : List (Nat × D)) (ks : List Nm) (H1 : List (Nm × En)) =>
    (fun (n1 : List Nm) =>
      (fun (n2 : List Nm) =>
        (fun (js : List Nm) =>
          bif frzOk s (hp s.H) frz && (refsF js F && (closedB (hp H1) js js && subNm js J)) then ⟨false, F, restrL (hp H1) js⟩ else s)
          (addNm n2 (rowsNms (hp H1) n2)))
        (addNm n1 (rowsNms (hp H1) n1)))
      (addNm J (nmsL (F.map Prod.snd))))
    (gcF s (hp s.H) frz live) (frzNms s (hp s.H) frz) (killsL s.H (frzNms s (hp s.H) frz))
theorem frB_fr (l : List (Nat × D)) : frB false l = fr l := by
  funext t
  induction l with
  | nil => rfl
  | cons q l ih =>
    obtain ⟨k, d⟩ := q
    rw [frB_cons]
    simp only [putF, fr]
    split
    · rfl
    · exact ih
def lendK (ks : List Nm) (H : Hp) : D → D
  | .own i g o n => bif nmIn i ks then lend1 H (.own i g o n) else .own i g o n
  | d => d
def lendKd (ks : List Nm) (H : Hp) : D → D
  | .agg cs => .agg (cs.map (lendK ks H))
  | d => lendK ks H d
def okK (ks : List Nm) (H : Hp) : D → Bool
  | .own i g o n => bif nmIn i ks then lendOk1B H (.own i g o n) else true
  | _ => true
def okKd (ks : List Nm) (H : Hp) : D → Bool
  | .agg cs => listB (okK ks H) cs
  | d => okK ks H d
def frzRows (ks : List Nm) (H : Hp) (e : En) : En := ⟨e.g, e.sz, e.rows.map fun r => r.map (lendK ks H)⟩
def frzF (ks : List Nm) (H : Hp) : List (Nat × D) → List (Nat × D)
  | [] => []
  | (t, d) :: l => (t, lendKd ks H d) :: frzF ks H l
def frzH (ks : List Nm) (H : Hp) : List (Nm × En) → List (Nm × En)
  | [] => []
  | (i, e) :: l => (i, frzRows ks H e) :: frzH ks H l
def freeze (ks : List Nm) (s : SL) : SL :=
  bif listB (fun q => okKd ks (hp s.H) q.2) s.F && listB (fun q => listB (fun r => listB (okK ks (hp s.H)) r) q.2.rows) s.H then
    ⟨s.b, frzF ks (hp s.H) s.F, frzH ks (hp s.H) (killsL s.H ks)⟩
  else s
theorem frzF_at (b : Bool) (ks : List Nm) (H : Hp) (t : Nat) : ∀ l : List (Nat × D), lookF b t (frzF ks H l) = lendKd ks H (lookF b t l)
  | [] => by cases b <;> rfl
  | (k, d) :: l => by
    simp only [frzF, lookF]
    cases Nat.beq t k with
    | true => rfl
    | false => exact frzF_at b ks H t l
theorem frzH_at (ks : List Nm) (H : Hp) (i : Nm) : ∀ l : List (Nm × En), lookH i (frzH ks H l) = (lookH i l).map (frzRows ks H)
  | [] => rfl
  | (k, d) :: l => by
    simp only [frzH, lookH]
    cases nmEq i k with
    | true => rfl
    | false => exact frzH_at ks H i l
theorem lookF_mem {b : Bool} {t : Nat} : ∀ {l : List (Nat × D)}, (∃ q ∈ l, q.2 = lookF b t l) ∨ lookF b t l = .v undef ∨ lookF b t l = .any
  | [] => by cases b <;> simp [lookF]
  | (k, d) :: l => by
    simp only [lookF]
    cases Nat.beq t k with
    | true => exact .inl ⟨_, List.mem_cons_self .., rfl⟩
    | false =>
      rcases @lookF_mem b t l with ⟨q, h1, h2⟩ | h
      · exact .inl ⟨q, List.mem_cons_of_mem _ h1, h2⟩
      · exact .inr h
theorem lookH_mem {i : Nm} {e : En} : ∀ {l : List (Nm × En)}, lookH i l = some e → ∃ q ∈ l, q.2 = e
  | (k, d) :: l, h => by
    simp only [lookH] at h
    cases hk : nmEq i k with
    | true => rw [hk] at h; cases h; exact ⟨_, List.mem_cons_self .., rfl⟩
    | false =>
      rw [hk] at h
      obtain ⟨q, h1, h2⟩ := lookH_mem h
      exact ⟨q, List.mem_cons_of_mem _ h1, h2⟩
theorem kill_other {H : Hp} {i j : Nm} (h : j ≠ i) : H.kill i j = H j := by
  unfold Hp.kill
  cases H i with
  | some e => exact Hp.put_other _ h _
  | none => rfl
theorem kill_rows {H : Hp} {i j : Nm} {e : En} (h : H.kill i j = some e) (hn : e.rows ≠ []) : H j = some e ∧ j ≠ i := by
  by_cases hj : j = i
  · subst hj
    cases hi : H j with
    | some e0 =>
      simp only [Hp.kill, hi, Hp.put_same, Option.some.injEq] at h
      rw [← h] at hn
      exact absurd rfl hn
    | none =>
      simp only [Hp.kill, hi] at h
      cases h
  · rw [kill_other hj] at h
    exact ⟨h, hj⟩
theorem kills_rows {j : Nm} {e : En} : ∀ {ks : List Nm} {H : Hp}, H.kills ks j = some e → e.rows ≠ [] → H j = some e ∧ j ∉ ks
  | [], H, h, hn => ⟨h, by simp⟩
  | k :: ks, H, h, hn => by
    rw [Hp.kills] at h
    obtain ⟨h1, h2⟩ := kills_rows (ks := ks) h hn
    obtain ⟨h3, h4⟩ := kill_rows h1 hn
    exact ⟨h3, by simp [h4, h2]⟩
theorem lendK_rel {Im Im' : Nat → Prop} {p : Pl} {H H' : Hp} {h : Array Obj} (R : RelH Im p H h) (G : Grows Im p H h Im' p H' h) {d : D} {u : Value} (r : Rel Im p H h d u) {ks : List Nm} (ok : okK ks H d = true) (hk : ∀ i ∈ ks, ∀ e, H i = some e → e.rows ≠ [] → Im' (p i).1) : Rel Im' p H' h (lendK ks H d) u := by
  cases d with
  | own i g o n =>
    unfold lendK
    unfold okK at ok
    dsimp only at ok ⊢
    cases hi : nmIn i ks with
    | false => exact r.mono G
    | true =>
      rw [hi] at ok
      refine lend1_rel R G r (lendOk1B_ok ok) fun j hj => ?_
      unfold lendNm1 at hj
      dsimp only at hj
      split at hj
      · split at hj
        · rw [List.mem_singleton.1 hj]; exact hk i (nmIn_iff.1 hi)
        · cases hj
      · cases hj
  | _ => exact r.mono G
theorem lendKd_rel {Im Im' : Nat → Prop} {p : Pl} {H H' : Hp} {h : Array Obj} (R : RelH Im p H h) (G : Grows Im p H h Im' p H' h) {d : D} {u : Value} (r : Rel Im p H h d u) {ks : List Nm} (ok : okKd ks H d = true) (hk : ∀ i ∈ ks, ∀ e, H i = some e → e.rows ≠ [] → Im' (p i).1) : Rel Im' p H' h (lendKd ks H d) u := by
  cases d with
  | agg cs =>
    obtain ⟨us, rfl, RL⟩ := RelL.of_agg r
    have : RelL Im' p H' h (cs.map (lendK ks H)) us.toList := by
      refine ⟨by rw [List.length_map, RL.len], fun j d u hd hu => ?_⟩
      rw [List.getElem?_map] at hd
      cases hc : cs[j]? with
      | none => rw [hc] at hd; cases hd
      | some c =>
        rw [hc] at hd
        cases hd
        obtain ⟨k1, k2⟩ := RL.cell j c u hc hu
        exact ⟨lendK_rel R G k1 (listB_iff ok c (List.mem_of_getElem? hc)) hk, k2⟩
    have k := this.rel
    simp only [Array.toArray_toList] at k
    exact k
  | v => exact lendK_rel R G r ok hk
  | any => exact lendK_rel R G r ok hk
  | tup => exact lendK_rel R G r ok hk
  | sl => exact lendK_rel R G r ok hk
  | ip => exact lendK_rel R G r ok hk
  | mt => exact lendK_rel R G r ok hk
  | own => exact lendK_rel R G r ok hk
  | ptr => exact lendK_rel R G r ok hk
  | clo => exact lendK_rel R G r ok hk
theorem freeze_weak (J ks : List Nm) (s : SL) : Weak J s.st (freeze ks s).st := by
  unfold freeze
  cases hc : listB (fun q => okKd ks (hp s.H) q.2) s.F && listB (fun q => listB (fun r => listB (okK ks (hp s.H)) r) q.2.rows) s.H with
  | false => exact Weak.refl _ _
  | true =>
    rw [Bool.and_eq_true] at hc
    obtain ⟨c1, c2⟩ := hc
    intro E hE Im p a w hR
    have hRp : RelH Im p (hp s.H) w.heap := hR.hp
    obtain ⟨Im', g1, r1, x1, b1⟩ := kills_spec (E := E) (w := w) ks Im (hp s.H) hRp hR.en
    have e2 : ∀ i, hp (frzH ks (hp s.H) (killsL s.H ks)) i = (((hp s.H).kills ks) i).map (frzRows ks (hp s.H)) := fun i => by
      rw [← killsL_eq]
      exact frzH_at ks (hp s.H) i _
    have g2 : Grows Im' p ((hp s.H).kills ks) w.heap Im' p (hp (frzH ks (hp s.H) (killsL s.H ks))) w.heap := by
      refine ⟨fun _ h => h, fun _ _ => rfl, fun i e hi => ⟨frzRows ks (hp s.H) e, by rw [e2, hi]; rfl, Nat.le_refl _, fun _ => ⟨rfl, rfl, fun hn => ⟨?_, fun c t hct => ⟨c, hct, rfl⟩⟩⟩⟩⟩
      intro k
      unfold frzRows at k
      exact hn (List.map_eq_nil_iff.1 k)
    have back : ∀ i e, hp (frzH ks (hp s.H) (killsL s.H ks)) i = some e → e.rows ≠ [] → ∃ e0, hp s.H i = some e0 ∧ e0.rows ≠ [] ∧ e = frzRows ks (hp s.H) e0 ∧ i ∉ ks ∧ ((hp s.H).kills ks) i = some e0 := fun i e hi hn => by
      rw [e2] at hi
      cases hk : ((hp s.H).kills ks) i with
      | none => rw [hk] at hi; cases hi
      | some e0 =>
        rw [hk] at hi
        cases hi
        have hn0 : e0.rows ≠ [] := fun k => hn (by unfold frzRows; rw [k]; rfl)
        obtain ⟨q1, q2⟩ := kills_rows hk hn0
        exact ⟨e0, q1, hn0, rfl, q2, rfl⟩
    refine ⟨Im', p, hR.sz, fun t => ?_, ⟨fun i e hi hn => ?_, fun i j e e' hi hj hn hn' hij => ?_, r1.im⟩, ⟨x1.os, x1.tape, x1.output, x1.size, x1.block, x1.im, x1.im', fun i e hi hn => ?_⟩, (hR.gr.trans g1).trans g2, hR.df⟩
    · have hf : okKd ks (hp s.H) (lookF s.b t s.F) = true := by
        rcases @lookF_mem s.b t s.F with ⟨q, h1, h2⟩ | h | h
        · rw [← h2]; exact listB_iff c1 q h1
        · rw [h]; rfl
        · rw [h]; rfl
      have := lendKd_rel hRp (g1.trans g2) (hR.fr t) hf b1
      show Rel Im' p _ w.heap (lookF s.b t (frzF ks (hp s.H) s.F)) _
      rw [frzF_at]
      exact this
    · obtain ⟨e0, q1, q2, rfl, q4, _⟩ := back i e hi hn
      obtain ⟨c, t, k1, k2, k3⟩ := hRp.cell i e0 q1 q2
      have hk1 := r1.cell i e0 (by assumption) q2
      obtain ⟨c', t', k1', k2', k3'⟩ := hk1
      refine ⟨c, t, k1, k2', fun r hr => ?_, ?_, fun r j row d hr hd => ?_⟩
      · obtain ⟨r0, hr0, rfl⟩ := List.mem_map.1 hr
        rw [List.length_map]
        exact k3.len r0 hr0
      · have := k3.le
        show (p i).2 + (e0.rows.map _).length * e0.sz ≤ c.size
        rw [List.length_map]
        exact this
      · have hr' : (e0.rows.map fun r => r.map (lendK ks (hp s.H)))[r]? = some row := hr
        rw [List.getElem?_map] at hr'
        cases h0 : e0.rows[r]? with
        | none => rw [h0] at hr'; cases hr'
        | some r0 =>
          rw [h0] at hr'
          cases hr'
          rw [List.getElem?_map] at hd
          cases h1 : r0[j]? with
          | none => rw [h1] at hd; cases hd
          | some d0 =>
            rw [h1] at hd
            cases hd
            obtain ⟨u, u1, u2, u3⟩ := k3.cell r j r0 d0 h0 h1
            obtain ⟨q, m1, m2⟩ := lookH_mem q1
            have ok0 := listB_iff (listB_iff (listB_iff c2 q m1) r0 (by rw [m2]; exact List.mem_of_getElem? h0)) d0 (List.mem_of_getElem? h1)
            exact ⟨u, u1, lendK_rel hRp (g1.trans g2) u2 ok0 b1, u3⟩
    · obtain ⟨e0, q1, q2, _, _, _⟩ := back i e hi hn
      obtain ⟨e0', q1', q2', _, _, _⟩ := back j e' hj hn'
      exact hRp.inj i j e0 e0' q1 q1' q2 q2' hij
    · obtain ⟨e0, q1, q2, _, _, q5⟩ := back i e hi hn
      exact x1.ids i e0 q5 q2
mutual
def D.owns : D → List Nm
  | .own i _ _ _ => [i]
  | .agg cs => ownsL cs
  | .tup cs => ownsL cs
  | .clo _ fs cs => ownsL fs ++ ownsL cs
  | _ => []
def ownsL : List D → List Nm
  | [] => []
  | d :: ds => d.owns ++ ownsL ds
end
end Go.Proofs.YtehmmnnmkapfeaaDoor

/- What runs of functions must know of their loops (printed by a program). -/
namespace Go.Proofs.YtehmmnnmkapfeaaDoor
open Go
end Go.Proofs.YtehmmnnmkapfeaaDoor

/- Sources: a new one, networks out of it. -/
namespace Go.Proofs.YtehmmnnmkapfeaaDoor
open Go
def rowNew : List D → Hp → Nm → Option (Prop × (D → Hp → Prop)) := fun args Hs nn =>
  match args with
  | [.sl L] => some (Hs = Hp.none, Pu (.ptr nn 0 0 0) (Hp.none.put nn (sE (L.take 2000) 0)))
  | _ => Option.none
theorem tc_new {T : Tbl} (hT : TblOk Tryd.prog T) : TblOk Tryd.prog (tc 11 rowNew T) :=
  tc_row f11_ok (fun args Hs nn pre R hr hp => by
    unfold rowNew at hr
    split at hr
    · cases hr
      subst hp
      exact ⟨⟨_, _, rfl, rfl⟩, New_c _ nn⟩
    · cases hr) hT
theorem AllI.one {α : Type} {P : Nat → α → Prop} {x : α} (h : P 0 x) : AllI P [x] := (AllI.nil P).snoc h
theorem AllI.two {α : Type} {P : Nat → α → Prop} {x y : α} (h : P 0 x) (k : P 1 y) : AllI P [x, y] := (AllI.one h).snoc k
theorem netOk_ex : NetOk ⟨[nm1B ⟨#[110]⟩ 0, nm1B ⟨#[110]⟩ 1], [⟨nm1B ⟨#[103]⟩ 0, 0, 1, 1, 0, 0, [⟨0, 0, 0⟩, ⟨1, 0, 0⟩]⟩], [⟨nm1B ⟨#[113]⟩ 0, 0, 0⟩, ⟨nm1B ⟨#[113]⟩ 1, 1, 0⟩], [], 0, 0⟩ := by
  refine ⟨AllI.two rfl rfl, by simp, AllI.one ⟨0, 1, by simp, by simp, by simp, segOk_ex _ _ _, fun _ => ⟨rfl, rfl⟩⟩, by simp, ⟨AllI.two ⟨rfl, by simp, by simp, by simp, by simp⟩ ⟨rfl, by simp, by simp, by simp, by simp⟩, by simp, fun _ => rfl, fun _ => rfl, by simp⟩, ⟨AllI.nil _, List.Pairwise.nil, by simp⟩, by simp, by simp⟩
theorem tc_net {T : Tbl} (hT : TblOk Tryd.prog T) : TblOk Tryd.prog (tc 39 (rowSrc (sel0 NetOk) Net.enc) T) :=
  tc_src f39_ok (fun args pre post h hp => by
    unfold sel0 at h
    split at h <;> cases h
    exact ⟨⟨_, netOk_ex⟩, Network_c⟩) hT
def selAw : List D → Option (Prop × D)
  | [] => some (True, db true)
  | _ => Option.none
theorem src_new (ns : List Int) (h : ∀ n ∈ ns, InI n) : SrcOk ((ns.map fun n => [di n]).take 2000) 0 :=
  ⟨Int.le_refl _, Int.natCast_nonneg _, by rw [List.length_take]; omega, ns.take 2000, by rw [List.map_take], fun n hn => h n (List.mem_of_mem_take hn)⟩
theorem tc_cond {T : Tbl} (hT : TblOk Tryd.prog T) : TblOk Tryd.prog (tc 16 (rowSrc (sel0 CndIn) Cnd.enc) T) :=
  tc_src f16_ok (fun args pre post h hp => by
    unfold sel0 at h
    split at h <;> cases h
    exact ⟨⟨⟨150, 0⟩, by unfold CndIn cdOk; decide⟩, Condition_s⟩) hT
def selPd : List D → Option (Prop × (Prd → Prop))
  | [.v (.int .i64 n)] => some (0 ≤ n ∧ n < 26, PrdIn n)
  | _ => Option.none
theorem tc_prod {T : Tbl} (hT : TblOk Tryd.prog T) : TblOk Tryd.prog (tc 13 (rowSrc selPd Prd.enc) T) :=
  tc_src f13_ok (fun args pre post h hp => by
    unfold selPd at h
    split at h <;> cases h
    exact ⟨⟨⟨nm1B ⟨#[112]⟩ _, 800, 0, 0, 1000⟩, rfl, ⟨by dsimp only; omega, by dsimp only; omega⟩, ⟨by dsimp only; omega, by dsimp only; omega⟩, ⟨by dsimp only; omega, by dsimp only; omega⟩, ⟨by dsimp only; omega, by dsimp only; omega⟩⟩, Product_s _ hp⟩) hT
def selOdd : List D → Option (Prop × (Prd → Prop))
  | [.agg r] => match prdOf r with
    | some _ => some (True, fun _ => True)
    | Option.none => Option.none
  | _ => Option.none
theorem tc_odd {T : Tbl} (hT : TblOk Tryd.prog T) : TblOk Tryd.prog (tc 18 (rowSrc selOdd Prd.enc) T) :=
  tc_src f18_ok (fun args pre post h hp => by
    unfold selOdd at h
    split at h
    · split at h
      · rename_i e
        cases h
        rw [prdOf_eq e]
        exact ⟨⟨⟨⟨#[]⟩, 0, 0, 0, 0⟩, trivial⟩, Odd_s _⟩
      · cases h
    · cases h) hT
def c29_1 : C := (.seq (.block 1 (.ops false [oP 11 (.mv (.t 3)), oP 12 (.mv (.t 0)), oP 13 (.mv (.t 3)), oP 14 (.len (.t 13)), oB 15 (.call 13 [(.t 12), (.t 14)]), oP 16 (.bsl 5 1 [(.v (.string ({ data := #[] }))), (.v (.int .i64 0)), (.v (.int .i64 0)), (.v (.int .i64 0)), (.v (.int .i64 0))] [(0, (.t 15))]), oP 17 (.app 5 48 (.t 11) (.t 16)), oP 3 (.mv (.t 17))])) (.ops false [oP 9 (.mv (.t 4)),
  oP 10 (.bin .sub (.t 9) (cI 1)), oP 4 (.mv (.t 10))]))
def c29_2 : C := (.seq (.seq (.ops false [oP 7 (.mv (.t 4)), oP 8 (.bin .gtr (.t 7) (cI 0))]) (.cond (.t 8) .skip (.exit 0))) c29_1)
def c29_3 : C := (.seq (.ops false [oP 18 (.mv (.t 3)), oP 2 (.mv (.t 18))]) .ret)
def c29 : C := (.seq (.ops false [oP 2 (.mv (.c .mt))]) (.seq (.ops false [oP 3 (.mv (.c .mt))]) (.seq (.seq (.ops false [oP 5 (.mv (.t 0)), oB 6 (.call 32 [(.t 5), (cI 1), (cI 4)]), oP 4 (.mv (.t 6))]) (.block 0 (.loop c29_2))) c29_3)))
def r29 : List RV := [(.tmp 2)]
theorem c29_ok : ∃ code, Tryd.f29.body = some code ∧ compC Tryd.prog Tryd.f29.ntmps code = some (C.strip c29) := ⟨_, rfl, by kernel_rfl⟩
theorem r29_ok : compRes Tryd.prog Tryd.f29.results.toList = some r29 := by kernel_rfl
theorem f29_ok : fnOk Tryd.prog 29 = true := by kernel_rfl
def c30_1 : C := (.seq (.block 1 (.ops false [oP 14 (.mv (.t 7)), oP 15 (.mv (.t 0)), oP 16 (.mv (.t 2)), oB 17 (.call 14 [(.t 15), (.t 16)]), oP 18 (.mv (.t 0)), oB 19 (.call 14 [(.t 18), (cI 3)]), oB 20 (.call 51 [(.c (.v (.string ({ data := #[102] })))), (.t 19)]), oP 21 (.bld [(.v (.int .i64 0)), (.v (.string ({ data := #[] }))), (.v (.int .i64 0)), (.v (.int .i64 0))] [(0, (1, (.t 17))), (1, (1, (.t 20))),
  (2, (1, (cI 0))), (3, (1, (cI 1)))]), oP 22 (.bsl 4 1 [(.v (.int .i64 0)), (.v (.string ({ data := #[] }))), (.v (.int .i64 0)), (.v (.int .i64 0))] [(0, (.t 21))]), oP 23 (.app 4 40 (.t 14) (.t 22)), oP 7 (.mv (.t 23))])) (.ops false [oP 12 (.mv (.t 8)), oP 13 (.bin .add (.t 12) (cI 1)), oP 8 (.mv (.t 13))]))
def c30_2 : C := (.seq (.seq (.ops false [oP 9 (.mv (.t 8)), oP 10 (.mv (.t 1)), oP 11 (.bin .lss (.t 9) (.t 10))]) (.cond (.t 11) .skip (.exit 0))) c30_1)
def c30_3 : C := (.seq (.ops false [oP 24 (.mv (.t 7)), oP 6 (.mv (.t 24))]) .ret)
def c30 : C := (.seq (.ops false [oP 6 (.mv (.c .mt))]) (.seq (.ops false [oP 7 (.mv (.c .mt))]) (.seq (.seq (.ops false [oP 8 (.mv (cI 0))]) (.block 0 (.loop c30_2))) c30_3)))
def r30 : List RV := [(.tmp 6)]
theorem c30_ok : ∃ code, Tryd.f30.body = some code ∧ compC Tryd.prog Tryd.f30.ntmps code = some (C.strip c30) := ⟨_, rfl, by kernel_rfl⟩
theorem r30_ok : compRes Tryd.prog Tryd.f30.results.toList = some r30 := by kernel_rfl
theorem f30_ok : fnOk Tryd.prog 30 = true := by kernel_rfl
def c31_1 : C := (.seq (.ops false [oP 83 (.mv (.t 1)), oP 84 (.fa 1 (.t 8)), oP 85 (.ld 1 false (.t 84)), oP 86 (.bin .sub (.t 83) (.t 85)), oP 1 (.mv (.t 86))]) (.ops false [oP 87 (.mv (.t 7)), oP 88 (.ld 2 true (.t 8)), oP 89 (.bsl 2 1 [(.v (.int .i64 0)), (.v (.int .i64 0))] [(0, (.t 88))]), oP 90 (.app 2 16 (.t 87) (.t 89)), oP 7 (.mv (.t 90))]))
def c31_2 : C := (.seq (.ops false [oP 31 (.fa 1 (.t 8)), oP 32 (.ld 1 false (.t 31)), oP 33 (.mv (.t 1)), oP 34 (.mnx false (.t 32) (.t 33)), oP 35 (.fa 1 (.t 8)), oS (.st 1 (.t 35) (.t 34))]) (.seq (.seq (.ops true [oP 36 (.mv (.t 7)), oA 37 (.len (.t 36)) [0], oA 38 (.bin .gtr (.t 37) (cI 0)) [0, 1], oA 39 (.mv (.t 38)) [1, 0, 2], oH 40 39 true (.mv (.t 7)) [2, 0, 1, 3], oH 41 39 true (.mv (.t 7)) [2, 0, 1, 3],
  oH 42 39 true (.len (.t 41)) [1, 0, 2, 3, 5], oH 43 39 true (.bin .sub (.t 42) (cI 1)) [5, 2, 0, 1, 3, 6], oH 44 39 true (.iaS 2 (.t 40) (.t 43)) [6, 5, 1, 0, 2, 3, 7, 4], oH 45 39 true (.fa 0 (.t 44)) [4, 7, 2, 0, 1, 5, 6, 3, 8], oH 46 39 true (.ld 1 false (.t 45)) [8, 6, 5, 1, 0, 2, 7, 4, 3, 9], oH 47 39 true (.fa 0 (.t 8)) [2, 0, 1, 3], oH 48 39 true (.ld 1 false (.t 47)) [1, 0, 2, 3, 11],
  oH 49 39 true (.bin .eql (.t 46) (.t 48)) [11, 9, 4, 7, 2, 0, 1, 5, 6, 8, 3, 12, 10], oA 50 (.pick (.t 39) (.t 49) (cB false)) [10, 12, 8, 6, 5, 7, 4, 9, 11, 2, 0, 1, 13, 3]]) (.cond (.t 50) (.seq (.ops false [oP 51 (.fa 0 (.t 8)), oP 52 (.ld 1 false (.t 51)), oP 53 (.bin .add (.t 52) (cI 1)), oP 54 (.mv (.t 2)), oP 55 (.bin .rem (.t 53) (.t 54)), oP 56 (.fa 0 (.t 8)), oS (.st 1 (.t 56) (.t 55))])
  (.seq (.ops true [oP 57 (.mv (.t 7)), oP 58 (.mv (.t 7)), oA 59 (.len (.t 58)) [1], oA 60 (.bin .sub (.t 59) (cI 1)) [1, 2], oA 61 (.iaS 2 (.t 57) (.t 60)) [2, 1, 3, 0], oA 62 (.fa 0 (.t 61)) [0, 3, 1, 2, 4], oA 63 (.ld 1 false (.t 62)) [4, 2, 1, 3, 0, 5], oP 64 (.fa 0 (.t 8)), oA 65 (.ld 1 false (.t 64)) [7], oA 66 (.bin .eql (.t 63) (.t 65)) [7, 5, 0, 3, 1, 2, 4, 8, 6]]) (.cond (.t 66)
  (.seq (.ops true [oP 67 (.mv (.t 7)), oP 68 (.mv (.t 7)), oA 69 (.len (.t 68)) [1], oA 70 (.bin .sub (.t 69) (cI 1)) [1, 2], oA 71 (.iaS 2 (.t 67) (.t 70)) [2, 1, 3, 0], oA 72 (.fa 1 (.t 71)) [0, 3, 1, 2, 4], oA 73 (.ld 1 false (.t 72)) [4, 2, 1, 3, 0, 5], oP 74 (.fa 1 (.t 8)), oA 75 (.ld 1 false (.t 74)) [7], oA 76 (.bin .add (.t 73) (.t 75)) [7, 5, 0, 3, 1, 2, 4, 8, 6], oA 77 (.iaS 2 (.t 67)
  (.t 70)) [9, 8, 7, 6, 5, 4, 2, 1, 3, 0], oA 78 (.fa 1 (.t 77)) [9, 8, 7, 6, 5, 4, 3, 2, 1, 0, 10], oT (.st 1 (.t 78) (.t 76)) [10, 8, 7, 6, 5, 4, 3, 2, 1, 0, 9, 11]]) (.seq (.ops false [oP 79 (.mv (.t 1)), oP 80 (.fa 1 (.t 8)), oP 81 (.ld 1 false (.t 80)), oP 82 (.bin .sub (.t 79) (.t 81)), oP 1 (.mv (.t 82))]) (.exit 1))) .skip))) .skip)) c31_1))
def c31_3 : C := (.block 1 (.seq (.ops false [oP 16 (.mv (.t 0)), oP 17 (.mv (.t 2)), oB 18 (.call 14 [(.t 16), (.t 17)]), oP 19 (.mv (.t 0)), oP 20 (.mv (.t 1)), oP 21 (.bin .mul (.t 20) (cI 2)), oP 22 (.bin .quo (.t 21) (cI 3)), oP 23 (.mnx true (cI 1) (.t 22)), oB 24 (.call 32 [(.t 19), (cI 1), (.t 23)]), oP 25 (.bld [(.v (.int .i64 0)), (.v (.int .i64 0))] [(0, (1, (.t 18))), (1, (1, (.t 24)))]),
  oP 8 (.new [(.v (.int .i64 0)), (.v (.int .i64 0))]), oS (.st 2 (.t 8) (.t 25))]) (.seq (.seq (.ops false [oP 26 (.mv (.t 7)), oP 27 (.len (.t 26)), oP 28 (.bin .eql (.t 27) (cI 11))]) (.cond (.t 28) (.ops false [oP 29 (.mv (.t 1)), oP 30 (.fa 1 (.t 8)), oS (.st 1 (.t 30) (.t 29))]) .skip)) c31_2)))
def c31_4 : C := (.seq (.seq (.ops false [oP 9 (.mv (.t 1)), oP 10 (.bin .gtr (.t 9) (cI 0)), oP 11 (.mv (.t 10)), oG 12 11 true (.mv (.t 7)), oG 13 11 true (.len (.t 12)), oG 14 11 true (.bin .lss (.t 13) (cI 12)), oP 15 (.pick (.t 11) (.t 14) (cB false))]) (.cond (.t 15) .skip (.exit 0))) c31_3)
def c31_5 : C := (.seq (.ops false [oP 91 (.mv (.t 7)), oP 6 (.mv (.t 91))]) .ret)
def c31 : C := (.seq (.ops false [oP 6 (.mv (.c .mt))]) (.seq (.ops false [oP 7 (.mv (.c .mt))]) (.seq (.block 0 (.loop c31_4)) c31_5)))
def r31 : List RV := [(.tmp 6)]
theorem c31_ok : ∃ code, Tryd.f31.body = some code ∧ compC Tryd.prog Tryd.f31.ntmps code = some (C.strip c31) := ⟨_, rfl, by kernel_rfl⟩
theorem r31_ok : compRes Tryd.prog Tryd.f31.results.toList = some r31 := by kernel_rfl
theorem f31_ok : fnOk Tryd.prog 31 = true := by kernel_rfl
def c40_1 : C := (.seq (.block 1 (.seq (.ops false [oP 15 (.iaS 7 (.t 11) (.t 13)), oP 16 (.ld 7 true (.t 15)), oP 9 (.new [(.v (.string ({ data := #[] }))), (.v (.int .i64 0)), (.v (.int .i64 0)), (.v (.int .i64 0)), (.v (.int .i64 0)), (.v (.int .i64 0)), .mt]), oS (.st 7 (.t 9) (.t 16))]) (.ops false [oP 17 (.mv (.t 7)), oP 18 (.mv (.t 0)), oP 19 (.fa 3 (.t 9)), oP 20 (.ld 1 false (.t 19)), oP 21 (.mv (.t 2)),
  oP 22 (.call 31 [(.t 18), (.t 20), (.t 21)]), oP 23 (.bsl 1 1 [.mt] [(0, (.t 22))]), oP 24 (.app 1 24 (.t 17) (.t 23)), oP 7 (.mv (.t 24))]))) (.ops false [oP 25 (.bin .add (.t 13) (cI 1)), oP 13 (.mv (.t 25))]))
def c40_2 : C := (.seq (.ops false [oP 14 (.bin .lss (.t 13) (.t 12))]) (.seq (.cond (.t 14) .skip (.exit 0)) c40_1))
def c40_3 : C := (.seq (.ops false [oP 26 (.mv (.t 7)), oP 6 (.mv (.t 26))]) .ret)
def c40 : C := (.seq (.ops false [oP 4 (.box 6 (.t 1)), oP 6 (.mv (.c .mt))]) (.seq (.ops false [oP 7 (.mv (.c .mt))]) (.seq (.seq (.ops false [oP 10 (.fa 1 (.t 4)), oP 11 (.ld 1 false (.t 10)), oP 12 (.len (.t 11)), oP 13 (.mv (cI 0))]) (.block 0 (.loop c40_2))) c40_3)))
def r40 : List RV := [(.tmp 6)]
theorem c40_ok : ∃ code, Tryd.f40.body = some code ∧ compC Tryd.prog Tryd.f40.ntmps code = some (C.strip c40) := ⟨_, rfl, by kernel_rfl⟩
theorem r40_ok : compRes Tryd.prog Tryd.f40.results.toList = some r40 := by kernel_rfl
theorem f40_ok : fnOk Tryd.prog 40 = true := by kernel_rfl
end Go.Proofs.YtehmmnnmkapfeaaDoor
