
/- Ways through a network: how many hops each node is away. -/
import Derived.Test.YtemkjjlpggmolaaRt3
namespace Go.Proofs.Ytemkjjlpggmolaa
open Go
set_option linter.unusedVariables false
set_option linter.unusedSimpArgs false
set_option maxRecDepth 100000

theorem iRow_dd (R : List Int) (k : Nat) (h : k < R.length) : (R.map iRow).getD k [] = [di (R.getD k 0)] := by
  rw [iRow_at R k h, List.getD_eq_getElem?_getD, List.getElem?_eq_getElem h]; rfl
theorem iRow_st (R : List Int) (k : Nat) (v : Int) : (R.map iRow).set k [di v] = (R.set k v).map iRow := (List.map_set ..).symm
/-- The state with the queue's place in memory. -/
def bsX (a : Nat) (s : (List Int × List Nat) × Nat × List Nat) (x : Seg × Bool) : (List Int × List Nat) × Nat × List Nat :=
  match ovr x a with
  | some (w, _) => if s.1.1.getD w 0 < 0 then ((s.1.1.set w (s.1.1.getD a 0 + 1), s.1.2 ++ [w]), s.2.1 + 1, []) else s
  | Option.none => s
theorem bsX_fst (a : Nat) (s : (List Int × List Nat) × Nat × List Nat) (x : Seg × Bool) : (bsX a s x).1 = bstep a s.1 x := by
  unfold bsX bstep
  cases ovr x a with
  | none => rfl
  | some p => dsimp only; split <;> rfl
theorem foldX (a : Nat) : ∀ (E : List (Seg × Bool)) (s : (List Int × List Nat) × Nat × List Nat), (E.foldl (bsX a) s).1 = E.foldl (bstep a) s.1
  | [], s => rfl
  | x :: E, s => by rw [List.foldl_cons, List.foldl_cons, foldX a E, bsX_fst]
theorem fold_tk {α β : Type} (f : β → α → β) (b : β) {E : List α} {i : Nat} {x : α} (h : E[i]? = some x) : (E.take (i + 1)).foldl f b = f ((E.take i).foldl f b) x := by
  have hi : i < E.length := by
    rcases Nat.lt_or_ge i E.length with h1 | h1
    · exact h1
    · rw [List.getElem?_eq_none h1] at h; cases h
  rw [← List.take_append_getElem hi, List.foldl_append]
  rw [List.getElem?_eq_getElem hi] at h
  cases h
  rfl
/-- While a node is looked at, part by part. -/
theorem bround_j {N : Nat} {E : List (Seg × Bool)} {t : Nat} {dn : List Nat} {s : List Int × List Nat} (hE : ∀ x ∈ E, SgIn N x) (h : BInv N E t dn s) {a : Nat} {q : List Nat} (hq : s.2 = a :: q) (j : Nat) : JInv N E t a (s.1.getD a 0) (dn ++ [a]) (E.take j) ((E.take j).foldl (bstep a) (s.1, q)) := by
  have ha := h.mem a (by rw [hq]; simp)
  have hs := h.srt
  have hnd := h.nd
  have hm := h.mem
  have hcl := h.cl
  have htop := h.top a (by rw [hq]; rfl)
  rw [hq] at hs hnd hm hcl
  have e : dn ++ a :: q = (dn ++ [a]) ++ q := by simp
  have hj : JInv N E t a (s.1.getD a 0) (dn ++ [a]) [] (s.1, q) :=
    ⟨h.len, h.lo, h.z, h.back, by dsimp only; rw [← e]; exact hnd, fun v hv => hm v (by rw [e]; exact hv), (List.pairwise_cons.1 hs).2, ⟨ha.1, rfl, ha.2⟩, htop, (List.pairwise_cons.1 hs).1,
      fun k hk h0 hkq hka => hcl k hk h0 (fun hh => by rcases List.mem_cons.1 hh with h1 | h1; exact hka h1; exact hkq h1), fun x hx => by cases hx⟩
  have := JInv.all hE (E.take j) [] (s.1, q) (fun x hx => List.mem_of_mem_take hx) hj
  rwa [List.nil_append] at this
theorem JInv.ql {N : Nat} {E : List (Seg × Bool)} {t a : Nat} {L : Int} {dn : List Nat} {P : List (Seg × Bool)} {s : List Int × List Nat} (h : JInv N E t a L dn P s) : s.2.length ≤ N := by
  have := List.Nodup.length_le_of_subset h.nd (l₂ := List.range N) fun v hv => List.mem_range.2 (h.mem v hv).1
  rw [List.length_append, List.length_range] at this
  omega
def selOv : List D → Option (Prop × D)
  | [.agg r, .v (.int .i64 k), .v (.int .i64 v)] => match gOf1 r with
    | some (n, c) => some (RtV n c ∧ 0 ≤ k ∧ k < n.segs.length ∧ 0 ≤ v, ovD (((n.segs.zip c)[k.toNat]?).bind fun x => ovr x v.toNat))
    | _ => Option.none
  | _ => Option.none
theorem tc_ov {T : Tbl} (hT : TblOk Try.prog T) : TblOk Try.prog (tc 125 (rowPu selOv) T) :=
  tc_pu f125_ok (fun args pre d hs hp nn => by
    unfold selOv at hs
    split at hs
    · rename_i r k v
      split at hs
      · rename_i n c e1
        cases hs
        obtain ⟨h, h0, h1, h2⟩ := hp
        have hl := h.l
        obtain ⟨x, hx⟩ : ∃ x, (n.segs.zip c)[k.toNat]? = some x := ⟨_, List.getElem?_eq_getElem (by rw [List.length_zip]; omega)⟩
        have := over_c n c h k.toNat v.toNat hx nn
        rw [show ((k.toNat : Nat) : Int) = k by omega, show ((v.toNat : Nat) : Int) = v by omega] at this
        rw [gOf1_eq e1, hx]
        exact this
      · cases hs
    · cases hs) hT
def selRep : List D → Option (Prop × (Nm → D) × (Nm → Hp))
  | [.sl [[.v (.int .i64 v)]], .v (.int .i64 N)] => some (1 ≤ N ∧ N ≤ 1000000, fun nn => .own nn 0 0 N.toNat, fun nn => Hp.none.put nn ⟨0, 1, List.replicate N.toNat [di v]⟩)
  | _ => Option.none
theorem tc_rep {T : Tbl} (hT : TblOk Try.prog T) : TblOk Try.prog (tc 157 (rowOwn selRep) T) :=
  tc_own f157_ok (fun args pre d H hs hp nn => by
    unfold selRep at hs
    split at hs
    · rename_i v N
      cases hs
      have := Repeat_c v N.toNat (by omega) nn
      rw [show ((N.toNat : Nat) : Int) = N by omega] at this
      exact this
    · cases hs) hT
def THp : Tbl := tc 125 (rowPu selOv) (tc 157 (rowOwn selRep) T0)
theorem THp_ok : TblOk Try.prog THp := tc_ov (tc_rep (T0_ok _))
def HpF (s : List Int × List Nat) (g : Nat) (st : List Nat) (l : List (Nat × D)) : List (Nat × D) := (2, .ptr (0, 2) 0 0 0) :: (5, .own (0, 17) 0 0 s.1.length) :: (6, .own (0, 22) g st.length s.2.length) :: l
def HpH (n : Net) (c : List Bool) (s : List Int × List Nat) (g : Nat) (st : List Nat) : Hp := ((Hp.none.put (0, 22) ⟨g, 1, (st ++ s.2).map nRow⟩).put (0, 17) ⟨0, 1, s.1.map iRow⟩).put (0, 2) ⟨0, 7, [gD n c]⟩
def HopI (n : Net) (c : List Bool) (t : Nat) : Nat → St → Prop := fun k s => ∃ i g st, i ≤ n.nodes.length ∧ i + k = n.nodes.length + 1 ∧ s = ⟨fr (HpF (bst (n.segs.zip c) n.nodes.length t i) g st []), HpH n c (bst (n.segs.zip c) n.nodes.length t i) g st⟩
theorem rep_i1 (k : Nat) : List.replicate k [di (-1)] = (List.replicate k (-1)).map iRow := by rw [List.map_replicate]; rfl
set_option maxHeartbeats 16000000 in
theorem hops_c (n : Net) (c : List Bool) (h : RtV n c) (t : Nat) (ht : t < n.nodes.length) (nn : Nm) : CallsA Try.prog 124 [.agg (gD n c), di t] Hp.none nn (Pu (.sl ((hopsL n c t).map iRow)) Hp.none) := by
  obtain ⟨code, h1, h2⟩ := c124_ok
  refine callsA_of THp_ok mixed (N := fun t => (0, t)) Try.func124 h1 h2 r124_ok [] false js_nil js_nil' (by simp [Try.f124]) ?_
  have hv := h.v
  have hnl := hv.nl
  have hsl := hv.sl
  have hE := h.ok.s
  have hN0 := idx_nn n.nodes.length
  have z1 : (1 : Int) ≤ n.nodes.length := by omega
  have z2 : (n.nodes.length : Int) ≤ 1000000 := by omega
  have ht' : (t : Int) < n.nodes.length := by omega
  have ht0 := idx_nn t
  have s1 := iRow_st (List.replicate n.nodes.length (-1)) t 0
  have g1 := iRow_dd (List.replicate n.nodes.length (-1)) t (by simpa using ht)
  simp (config := { maxSteps := 500000 }) only [↓vp, vv, implies_true, forall_const, undef, InI, ↓reduceIte, simprocAttr, c124, THp, rowOwn, selRep, gD, z1, z2, ht, ht', ht0, Int.toNat_natCast, rep_i1, s1, g1, List.length_replicate]
  rw [vc_loop]
  have start : HpH n c (bst (n.segs.zip c) n.nodes.length t 0) 0 [] = ((Hp.none.put (0, 22) ⟨0, 1, [[di t]]⟩).put (0, 17) ⟨0, 1, ((List.replicate n.nodes.length (-1)).set t 0).map iRow⟩).put (0, 2) ⟨0, 7, [gD n c]⟩ := rfl
  have startF : HpF (bst (n.segs.zip c) n.nodes.length t 0) 0 [] [] = [(2, .ptr (0, 2) 0 0 0), (5, .own (0, 17) 0 0 n.nodes.length), (6, .own (0, 22) 0 0 1)] := by
    unfold HpF bst
    simp
  refine ⟨HopI n c t, ⟨n.nodes.length + 1, _, ?_, 0, 0, [], by omega, by omega, rfl⟩, ?_⟩
  · rw [start, startF]
    exact (weak_eq [] [(0, 2), (0, 17), (0, 22)] [(2, .ptr (0, 2) 0 0 0), (5, .own (0, 17) 0 0 n.nodes.length), (6, .own (0, 22) 0 0 1)] (by simp (config := { maxSteps := 500000 }) only [↓vp, vv, implies_true, forall_const, undef, InI, ↓reduceIte, simprocAttr, coverS, gD, iRow, nRow]) (by simp (config := { maxSteps := 500000 }) only [↓vp, vv, implies_true, forall_const, undef, InI, ↓reduceIte, simprocAttr, refsF, gD, iRow, nRow]) (by simp (config := { maxSteps := 500000 }) only [↓vp, vv, implies_true, forall_const, undef, InI, ↓reduceIte, simprocAttr, gD, iRow, nRow]) (by simp) (by simp (config := { maxSteps := 500000 }) only [↓vp, vv, implies_true, forall_const, undef, InI, ↓reduceIte, simprocAttr, gD, iRow, nRow]; try rfl))
  rintro k s ⟨i, g, st, hi, hk, rfl⟩
  obtain ⟨dn, hB, hd⟩ := bst_inv hE ht i
  have hbe := bst_end (i := i) hE ht hi
  have hbl := bst_len hE ht i
  have hnx : bst (n.segs.zip c) n.nodes.length t (i + 1) = bround (n.segs.zip c) (bst (n.segs.zip c) n.nodes.length t i) := rfl
  generalize bst (n.segs.zip c) n.nodes.length t i = s0 at *
  obtain ⟨o, q⟩ := s0
  dsimp only at *
  cases q with
  | nil =>
    have e : hopsL n c t = o := hbe rfl
    rw [e]
    have hol : o.length = n.nodes.length := hB.len
    have tk : (o.map iRow).take o.length = o.map iRow := List.take_of_length_le (by simp)
    simp (config := { maxSteps := 500000 }) only [↓vp, vv, implies_true, forall_const, undef, InI, ↓reduceIte, simprocAttr, c124_5, c124_6, r124, HpF, HpH, gD, Int.lt_irrefl, tk, Pu]
    exact fun j _ d hd => by rw [List.mem_singleton.1 hd]; rfl
  | cons a q =>
    have hlen : i + (q.length + 1) ≤ n.nodes.length := by rcases hbl with h1 | h1; cases h1; exact h1
    have q0 : (0 : Int) < ((q.length + 1 : Nat) : Int) := by omega
    have q1 : (1 : Int) ≤ ((q.length + 1 : Nat) : Int) := by omega
    have q2 : st.length < st.length + (q.length + 1) := by omega
    have q3 : ((st ++ a :: q).map nRow).getD st.length [] = [di a] := by
      rw [List.getD_eq_getElem?_getD, List.getElem?_map, List.getElem?_append_right (Nat.le_refl _), Nat.sub_self]; rfl
    have q4 : q.length + 1 - 1 = q.length := by omega
    have q5 : (st ++ [a]) ++ q = st ++ a :: q := by simp
    have q6 : (st ++ [a]).length = st.length + 1 := by simp
    have hJ := bround_j hE hB rfl
    dsimp only at hJ
    have hzl : (n.segs.zip c).length = n.segs.length := by rw [List.length_zip, h.l]; omega
    obtain ⟨X, hX⟩ : ∃ X : Nat → (List Int × List Nat) × Nat × List Nat, X = fun j => ((n.segs.zip c).take j).foldl (bsX a) ((o, q), g, st ++ [a]) := ⟨_, rfl⟩
    have hX0 : X 0 = ((o, q), g, st ++ [a]) := by rw [hX]; rfl
    have hX1 : ∀ j, (X j).1 = ((n.segs.zip c).take j).foldl (bstep a) (o, q) := fun j => by rw [hX]; exact foldX a _ _
    have hXn : ∀ j x, (n.segs.zip c)[j]? = some x → X (j + 1) = bsX a (X j) x := fun j x hx => by rw [hX]; exact fold_tk _ _ hx
    have hend : (X n.segs.length).1 = bround (n.segs.zip c) (o, a :: q) := by rw [hX1, ← hzl, List.take_length]; rfl
    clear hX
    simp (config := { maxSteps := 500000 }) only [↓vp, vv, implies_true, forall_const, undef, InI, ↓reduceIte, simprocAttr, c124_5, c124_4, HpF, HpH, gD, q0, q1, q2, q3, q4]
    refine rng_loop n.segs.length (fun j => ⟨fr (HpF (X j).1 (X j).2.1 (X j).2.2 [(7, di a), (38, di n.segs.length), (39, di (j : Nat))]), HpH n c (X j).1 (X j).2.1 (X j).2.2⟩) (fun _ => True) ?_ trivial (fun j hj _ => ?_) (fun _ => ?_)
    · rw [hX0]
      exact (weak_eq [] [(0, 2), (0, 17), (0, 22)] (HpF (o, q) g (st ++ [a]) [(7, di a), (38, di n.segs.length), (39, di 0)]) (by simp (config := { maxSteps := 500000 }) only [↓vp, vv, implies_true, forall_const, undef, InI, ↓reduceIte, simprocAttr, coverS, HpF, HpH, gD, iRow, nRow, q4, q5, q6, Int.toNat_natCast]) (by simp (config := { maxSteps := 500000 }) only [↓vp, vv, implies_true, forall_const, undef, InI, ↓reduceIte, simprocAttr, refsF, HpF, HpH, gD, iRow, nRow, q4, q5, q6, Int.toNat_natCast]) (by simp (config := { maxSteps := 500000 }) only [↓vp, vv, implies_true, forall_const, undef, InI, ↓reduceIte, simprocAttr, HpF, HpH, gD, iRow, nRow, q4, q5, q6, Int.toNat_natCast]) (by simp) (by simp (config := { maxSteps := 500000 }) only [↓vp, vv, implies_true, forall_const, undef, InI, ↓reduceIte, simprocAttr, HpF, HpH, gD, iRow, nRow, q4, q5, q6, Int.toNat_natCast]; try rfl))
    · have hj' : (j : Int) < n.segs.length := by omega
      have hjn := idx_nn j
      have w1 := idx_next (j := j) (by omega)
      obtain ⟨x, hx⟩ : ∃ x, (n.segs.zip c)[j]? = some x := ⟨_, List.getElem?_eq_getElem (by omega)⟩
      have hXj := hXn j x hx
      have hJj := hJ j
      rw [← hX1 j] at hJj
      generalize hXe : X j = S at hXj hJj
      obtain ⟨⟨o1, p1⟩, g1, st1⟩ := S
      dsimp only at hJj
      unfold bsX at hXj
      dsimp only at hXj
      have hg := gOf1_row n c
      unfold gD at hg
      have hpl := hJj.ql
      dsimp only at hpl
      have an := idx_nn a
      have ho1 : o1.length = n.nodes.length := hJj.len
      dsimp only
      cases e : ovr x a with
      | none =>
        rw [e] at hXj
        dsimp only at hXj
        simp (config := { maxSteps := 500000 }) only [↓vp, vv, implies_true, forall_const, undef, InI, ↓reduceIte, simprocAttr, c124_3, c124_2, c124_1, THp, selOv, HpF, HpH, gD, hg, h, hj', hjn, an, hx, e, ovD, Option.bind_some, Int.toNat_natCast, w1]
        refine rng_next hj ?_ trivial
        rw [hXj]
        exact (weak_eq [] [(0, 2), (0, 17), (0, 22)] (HpF (o1, p1) g1 st1 [(7, di a), (38, di n.segs.length), (39, di (j + 1 : Nat))]) (by simp (config := { maxSteps := 500000 }) only [↓vp, vv, implies_true, forall_const, undef, InI, ↓reduceIte, simprocAttr, coverS, HpF, HpH, gD, iRow, nRow, w1]) (by simp (config := { maxSteps := 500000 }) only [↓vp, vv, implies_true, forall_const, undef, InI, ↓reduceIte, simprocAttr, refsF, HpF, HpH, gD, iRow, nRow, w1]) (by simp (config := { maxSteps := 500000 }) only [↓vp, vv, implies_true, forall_const, undef, InI, ↓reduceIte, simprocAttr, HpF, HpH, gD, iRow, nRow, w1]) (by simp) (by simp (config := { maxSteps := 500000 }) only [↓vp, vv, implies_true, forall_const, undef, InI, ↓reduceIte, simprocAttr, HpF, HpH, gD, iRow, nRow, w1]; try rfl))
      | some r =>
        obtain ⟨w, b⟩ := r
        rw [e] at hXj
        dsimp only at hXj
        obtain ⟨hw, ha⟩ := ovr_lt (hE x (List.mem_of_getElem? hx)) e
        have hw1 : w < o1.length := by omega
        have hw1' : (w : Int) < o1.length := by omega
        have hwn := idx_nn w
        have ha1 : a < o1.length := by omega
        have ha1' : (a : Int) < o1.length := by omega
        have gw := iRow_dd o1 w hw1
        have ga := iRow_dd o1 a ha1
        cases hd : decide (o1.getD w 0 < 0) with
        | false =>
          rw [if_neg (by simpa using hd)] at hXj
          simp (config := { maxSteps := 500000 }) only [↓vp, vv, implies_true, forall_const, undef, InI, ↓reduceIte, simprocAttr, c124_3, c124_2, c124_1, THp, selOv, HpF, HpH, gD, hg, h, hj', hjn, an, hx, e, ovD, Option.bind_some, hw1, hw1', hwn, gw, hd, Int.toNat_natCast, w1]
          refine rng_next hj ?_ trivial
          rw [hXj]
          exact (weak_eq [] [(0, 2), (0, 17), (0, 22)] (HpF (o1, p1) g1 st1 [(7, di a), (38, di n.segs.length), (39, di (j + 1 : Nat))]) (by simp (config := { maxSteps := 500000 }) only [↓vp, vv, implies_true, forall_const, undef, InI, ↓reduceIte, simprocAttr, coverS, HpF, HpH, gD, iRow, nRow, w1]) (by simp (config := { maxSteps := 500000 }) only [↓vp, vv, implies_true, forall_const, undef, InI, ↓reduceIte, simprocAttr, refsF, HpF, HpH, gD, iRow, nRow, w1]) (by simp (config := { maxSteps := 500000 }) only [↓vp, vv, implies_true, forall_const, undef, InI, ↓reduceIte, simprocAttr, HpF, HpH, gD, iRow, nRow, w1]) (by simp) (by simp (config := { maxSteps := 500000 }) only [↓vp, vv, implies_true, forall_const, undef, InI, ↓reduceIte, simprocAttr, HpF, HpH, gD, iRow, nRow, w1]; try rfl))
        | true =>
          rw [if_pos (by simpa using hd)] at hXj
          have lt := back_lt hJj.len hJj.back hE ha
          have lo := hJj.lo a ha
          dsimp only at lt lo
          have wa : IntKind.i64.wrap (o1.getD a 0 + 1) = o1.getD a 0 + 1 := wrap_i (by omega)
          have gs := iRow_st o1 w (o1.getD a 0 + 1)
          have y1 : (p1.length + 1) * 8 ≤ 140737488355328 := by omega
          have y2 : p1.length + 1 ≤ 4611686018427387904 := by omega
          have y3 : st1.length = 0 ∨ 0 < p1.length + 1 := .inr (by omega)
          have y4 : List.drop st1.length ((st1 ++ p1).map nRow) ++ [[di w]] = (p1 ++ [w]).map nRow := by
            rw [← List.map_drop, List.drop_left, List.map_append]; rfl
          simp (config := { maxSteps := 500000 }) only [↓vp, vv, implies_true, forall_const, undef, InI, ↓reduceIte, simprocAttr, c124_3, c124_2, c124_1, THp, selOv, HpF, HpH, gD, hg, h, hj', hjn, an, hx, e, ovD, Option.bind_some, hw1, hw1', hwn, ha1, ha1', gw, ga, hd, Int.toNat_natCast, wa, gs, y1, y2, y3, y4, List.length_map, List.length_append, w1]
          refine rng_next hj ?_ trivial
          rw [hXj]
          exact (weak_eq [] [(0, 2), (0, 17), (0, 22)] (HpF (o1.set w (o1.getD a 0 + 1), p1 ++ [w]) (g1 + 1) [] [(7, di a), (38, di n.segs.length), (39, di (j + 1 : Nat))]) (by simp (config := { maxSteps := 500000 }) only [↓vp, vv, implies_true, forall_const, undef, InI, ↓reduceIte, simprocAttr, coverS, HpF, HpH, gD, iRow, nRow, w1, List.length_set, List.length_append]) (by simp (config := { maxSteps := 500000 }) only [↓vp, vv, implies_true, forall_const, undef, InI, ↓reduceIte, simprocAttr, refsF, HpF, HpH, gD, iRow, nRow, w1, List.length_set, List.length_append]) (by simp (config := { maxSteps := 500000 }) only [↓vp, vv, implies_true, forall_const, undef, InI, ↓reduceIte, simprocAttr, HpF, HpH, gD, iRow, nRow, w1, List.length_set, List.length_append]) (by simp) (by simp (config := { maxSteps := 500000 }) only [↓vp, vv, implies_true, forall_const, undef, InI, ↓reduceIte, simprocAttr, HpF, HpH, gD, iRow, nRow, w1, List.length_set, List.length_append]; try rfl))
    · generalize X n.segs.length = S at hend
      obtain ⟨⟨o1, p1⟩, g1, st1⟩ := S
      dsimp only at hend ⊢
      have wk : i + 1 ≤ n.nodes.length := by omega
      simp (config := { maxSteps := 500000 }) only [↓vp, vv, implies_true, forall_const, undef, InI, ↓reduceIte, simprocAttr, c124_3, HpF, HpH, gD, Int.lt_irrefl]
      refine ⟨k - 1, _, by omega, ?_, i + 1, g1, st1, by omega, by omega, rfl⟩
      rw [hnx, ← hend]
      exact (weak_eq [] [(0, 2), (0, 17), (0, 22)] (HpF (o1, p1) g1 st1 []) (by simp (config := { maxSteps := 500000 }) only [↓vp, vv, implies_true, forall_const, undef, InI, ↓reduceIte, simprocAttr, coverS, HpF, HpH, gD, iRow, nRow]) (by simp (config := { maxSteps := 500000 }) only [↓vp, vv, implies_true, forall_const, undef, InI, ↓reduceIte, simprocAttr, refsF, HpF, HpH, gD, iRow, nRow]) (by simp (config := { maxSteps := 500000 }) only [↓vp, vv, implies_true, forall_const, undef, InI, ↓reduceIte, simprocAttr, HpF, HpH, gD, iRow, nRow]) (by simp) (by simp (config := { maxSteps := 500000 }) only [↓vp, vv, implies_true, forall_const, undef, InI, ↓reduceIte, simprocAttr, HpF, HpH, gD, iRow, nRow]; try rfl))
end Go.Proofs.Ytemkjjlpggmolaa
