/- RouteAnswers: Rt4 Rt5 CodeLU CodeSE Nw Pl1 CodePL Pl2 Pl5 FlQ LuZ. -/
import Derived.Test.YtadjhfjiimgddaaYr10
import Derived.Test.YtadjhfjiimgddaaYr3
import Derived.Test.YtadjhfjiimgddaaProg
import Derived.Test.YtadjhfjiimgddaaYr8
import Derived.Test.YtadjhfjiimgddaaYr9
set_option linter.unusedSimpArgs false
set_option linter.unusedVariables false
set_option maxRecDepth 100000

/- Ways through a network: how many hops each node is away. -/
namespace Go.Proofs.Ytadjhfjiimgddaa
open Go
theorem iRow_dd (R : List Int) (k : Nat) (h : k < R.length) : (R.map iRow).getD k [] = [di (R.getD k 0)] := by
 rw [iRow_at R k h, List.getD_eq_getElem?_getD, List.getElem?_eq_getElem h]; rfl
theorem iRow_st (R : List Int) (k : Nat) (v : Int) : (R.map iRow).set k [di v] = (R.set k v).map iRow := (List.map_set ..).symm
def bsX (a : Nat) (s : (List Int × List Nat) × Nat × List Nat) (x : Seg × Bool) : (List Int × List Nat) × Nat × List Nat :=
 match ovr x a with
 | some (w, _) => if s.1.1.getD w 0 < 0 then ((s.1.1.set w (s.1.1.getD a 0 + 1), s.1.2 ++ [w]), s.2.1 + 1, []) else s
 | Option.none => s
theorem bsX_fst (a : Nat) (s : (List Int × List Nat) × Nat × List Nat) (x : Seg × Bool) : (bsX a s x).1 = bstep a s.1 x := by
 unfold bsX bstep
 cases ovr x a with
 | none => rfl
 | some p => dsimp only; split <;> rfl
theorem foldX (a : Nat) : ∀ (E : List (Seg × Bool)) (s : (List Int × List Nat) × Nat × List Nat), (E.foldl (bsX a) s).1 = E.foldl (bstep a) s.1
 | [], s => rfl
 | x :: E, s => by rw [List.foldl_cons, List.foldl_cons, foldX a E, bsX_fst]
theorem fold_tk {α β : Type} (f : β → α → β) (b : β) {E : List α} {i : Nat} {x : α} (h : E[i]? = some x) : (E.take (i + 1)).foldl f b = f ((E.take i).foldl f b) x := by
 have hi : i < E.length := by
  rcases Nat.lt_or_ge i E.length with h1 | h1
  ·exact h1
  ·rw [List.getElem?_eq_none h1] at h; cases h
 rw [← List.take_append_getElem hi, List.foldl_append]
 rw [List.getElem?_eq_getElem hi] at h
 cases h
 rfl
theorem bround_j {N : Nat} {E : List (Seg × Bool)} {t : Nat} {dn : List Nat} {s : List Int × List Nat} (hE : ∀ x ∈ E, SgIn N x) (h : BInv N E t dn s) {a : Nat} {q : List Nat} (hq : s.2 = a :: q) (j : Nat) : JInv N E t a (s.1.getD a 0) (dn ++ [a]) (E.take j) ((E.take j).foldl (bstep a) (s.1, q)) := by
 have ha := h.mem a (by rw [hq]; simp)
 have hs := h.srt
 have hnd := h.nd
 have hm := h.mem
 have hcl := h.cl
 have htop := h.top a (by rw [hq]; rfl)
 rw [hq] at hs hnd hm hcl
 have e : dn ++ a :: q = (dn ++ [a]) ++ q := by simp
 have hj : JInv N E t a (s.1.getD a 0) (dn ++ [a]) [] (s.1, q) :=
  ⟨h.len, h.lo, h.z, h.back, by dsimp only; rw [← e]; exact hnd, fun v hv => hm v (by rw [e]; exact hv), (List.pairwise_cons.1 hs).2, ⟨ha.1, rfl, ha.2⟩, htop, (List.pairwise_cons.1 hs).1,
   fun k hk h0 hkq hka => hcl k hk h0 (fun hh => by rcases List.mem_cons.1 hh with h1 | h1; exact hka h1; exact hkq h1), fun x hx => by cases hx⟩
 have := JInv.all hE (E.take j) [] (s.1, q) (fun x hx => List.mem_of_mem_take hx) hj
 rwa [List.nil_append] at this
theorem JInv.ql {N : Nat} {E : List (Seg × Bool)} {t a : Nat} {L : Int} {dn : List Nat} {P : List (Seg × Bool)} {s : List Int × List Nat} (h : JInv N E t a L dn P s) : s.2.length ≤ N := by
 have := List.Nodup.length_le_of_subset h.nd (l₂ := List.range N) fun v hv => List.mem_range.2 (h.mem v hv).1
 rw [List.length_append, List.length_range] at this
 omega
def selOv : List D → Option (Prop × D)
 | [.agg r, .v (.int .i64 k), .v (.int .i64 v)] => match gOf1 r with
  | some (n, c) => some (RtV n c ∧ 0 ≤ k ∧ k < n.segs.length ∧ 0 ≤ v, ovD (((n.segs.zip c)[k.toNat]?).bind fun x => ovr x v.toNat))
  | _ => Option.none
 | _ => Option.none
theorem tc_ov {T : Tbl} (hT : TblOk Try.prog T) : TblOk Try.prog (tc 107 (rowPu selOv) T) :=
 tc_pu f107_ok (fun args pre d hs hp nn => by
  unfold selOv at hs
  split at hs
  ·rename_i r k v
   split at hs
   ·rename_i n c e1
    cases hs
    obtain ⟨h, h0, h1, h2⟩ := hp
    have hl := h.l
    obtain ⟨x, hx⟩ : ∃ x, (n.segs.zip c)[k.toNat]? = some x := ⟨_, List.getElem?_eq_getElem (by rw [List.length_zip]; omega)⟩
    have := over_c n c h k.toNat v.toNat hx nn
    rw [show ((k.toNat : Nat) : Int) = k by omega, show ((v.toNat : Nat) : Int) = v by omega] at this
    rw [gOf1_eq e1, hx]
    exact this
   ·cases hs
  ·cases hs) hT
def selRep : List D → Option (Prop × (Nm → D) × (Nm → Hp))
 | [.sl [[.v (.int .i64 v)]], .v (.int .i64 N)] => some (1 ≤ N ∧ N ≤ 1000000, fun nn => .own nn 0 0 N.toNat, fun nn => Hp.none.put nn ⟨0, 1, List.replicate N.toNat [di v]⟩)
 | _ => Option.none
theorem tc_rep {T : Tbl} (hT : TblOk Try.prog T) : TblOk Try.prog (tc 147 (rowOwn selRep) T) :=
 tc_own f147_ok (fun args pre d H hs hp nn => by
  unfold selRep at hs
  split at hs
  ·rename_i v N
   cases hs
   have := Repeat_c v N.toNat (by omega) nn
   rw [show ((N.toNat : Nat) : Int) = N by omega] at this
   exact this
  ·cases hs) hT
def THp : Tbl := tc 107 (rowPu selOv) (tc 147 (rowOwn selRep) T0)
theorem THp_ok : TblOk Try.prog THp := tc_ov (tc_rep (T0_ok _))
def HpF (s : List Int × List Nat) (g : Nat) (st : List Nat) (l : List (Nat × D)) : List (Nat × D) := (2, .ptr (0, 2) 0 0 0) :: (5, .own (0, 17) 0 0 s.1.length) :: (6, .own (0, 22) g st.length s.2.length) :: l
def HpH (n : Net) (c : List Bool) (s : List Int × List Nat) (g : Nat) (st : List Nat) : Hp := ((Hp.none.put (0, 22) ⟨g, 1, (st ++ s.2).map nRow⟩).put (0, 17) ⟨0, 1, s.1.map iRow⟩).put (0, 2) ⟨0, 7, [gD n c]⟩
def HopI (n : Net) (c : List Bool) (t : Nat) : Nat → St → Prop := fun k s => ∃ i g st, i ≤ n.nodes.length ∧ i + k = n.nodes.length + 1 ∧ s = ⟨fr (HpF (bst (n.segs.zip c) n.nodes.length t i) g st []), HpH n c (bst (n.segs.zip c) n.nodes.length t i) g st⟩
theorem rep_i1 (k : Nat) : List.replicate k [di (-1)] = (List.replicate k (-1)).map iRow := by rw [List.map_replicate]; rfl
set_option maxHeartbeats 16000000 in
theorem hops_c (n : Net) (c : List Bool) (h : RtV n c) (t : Nat) (ht : t < n.nodes.length) (nn : Nm) : CallsA Try.prog 106 [.agg (gD n c), di t] Hp.none nn (Pu (.sl ((hopsL n c t).map iRow)) Hp.none) := by
 obtain ⟨code, h1, h2⟩ := c106_ok
 refine callsA_of THp_ok mixed (N := fun t => (0, t)) Try.func106 h1 h2 r106_ok [] false js_nil js_nil' (by simp [Try.f106]) ?_
 have hv := h.v
 have hnl := hv.nl
 have hsl := hv.sl
 have hE := h.ok.s
 have hN0 := idx_nn n.nodes.length
 have z1 : (1 : Int) ≤ n.nodes.length := by omega
 have z2 : (n.nodes.length : Int) ≤ 1000000 := by omega
 have ht' : (t : Int) < n.nodes.length := by omega
 have ht0 := idx_nn t
 have s1 := iRow_st (List.replicate n.nodes.length (-1)) t 0
 have g1 := iRow_dd (List.replicate n.nodes.length (-1)) t (by simpa using ht)
 simp (maxSteps:=500000) only [↓vp, vv, ↓reduceIte, simprocAttr, c106, THp, rowOwn, selRep, gD, z1, z2, ht, ht', ht0, Int.toNat_natCast, rep_i1, s1, g1, List.length_replicate]
 rw [vc_loop]
 have start : HpH n c (bst (n.segs.zip c) n.nodes.length t 0) 0 [] = ((Hp.none.put (0, 22) ⟨0, 1, [[di t]]⟩).put (0, 17) ⟨0, 1, ((List.replicate n.nodes.length (-1)).set t 0).map iRow⟩).put (0, 2) ⟨0, 7, [gD n c]⟩ := rfl
 have startF : HpF (bst (n.segs.zip c) n.nodes.length t 0) 0 [] [] = [(2, .ptr (0, 2) 0 0 0), (5, .own (0, 17) 0 0 n.nodes.length), (6, .own (0, 22) 0 0 1)] := by
  unfold HpF bst
  simp
 refine ⟨HopI n c t, ⟨n.nodes.length + 1, _, ?_, 0, 0, [], by omega, by omega, rfl⟩, ?_⟩
 ·rw [start, startF]
  exact (weak_eqA [] [(0, 2), (0, 17), (0, 22)] [(2, .ptr (0, 2) 0 0 0), (5, .own (0, 17) 0 0 n.nodes.length), (6, .own (0, 22) 0 0 1)] (by refine ⟨?_, ?_, ?_, by simp, ?_⟩ <;> (simp only [↓vp, vv, ↓reduceIte, simprocAttr, coverS, refsF, gD, iRow, nRow] <;> try rfl)))
 rintro k s ⟨i, g, st, hi, hk, rfl⟩
 obtain ⟨dn, hB, hd⟩ := bst_inv hE ht i
 have hbe := bst_end (i := i) hE ht hi
 have hbl := bst_len hE ht i
 have hnx : bst (n.segs.zip c) n.nodes.length t (i + 1) = bround (n.segs.zip c) (bst (n.segs.zip c) n.nodes.length t i) := rfl
 generalize bst (n.segs.zip c) n.nodes.length t i = s0 at *
 obtain ⟨o, q⟩ := s0
 dsimp only at *
 cases q with
 | nil =>
  have e : hopsL n c t = o := hbe rfl
  rw [e]
  have hol : o.length = n.nodes.length := hB.len
  have tk : (o.map iRow).take o.length = o.map iRow := List.take_of_length_le (by simp)
  simp (maxSteps:=500000) only [↓vp, vv, ↓reduceIte, simprocAttr, c106_5, c106_6, r106, HpF, HpH, gD, Int.lt_irrefl, tk, Pu]
  exact fun j _ d hd => by rw [List.mem_singleton.1 hd]; rfl
 | cons a q =>
  have hlen : i + (q.length + 1) ≤ n.nodes.length := by rcases hbl with h1 | h1; cases h1; exact h1
  have q0 : (0 : Int) < ((q.length + 1 : Nat) : Int) := by omega
  have q1 : (1 : Int) ≤ ((q.length + 1 : Nat) : Int) := by omega
  have q2 : st.length < st.length + (q.length + 1) := by omega
  have q3 : ((st ++ a :: q).map nRow).getD st.length [] = [di a] := by
   rw [List.getD_eq_getElem?_getD, List.getElem?_map, List.getElem?_append_right (Nat.le_refl _), Nat.sub_self]; rfl
  have q4 : q.length + 1 - 1 = q.length := by omega
  have q5 : (st ++ [a]) ++ q = st ++ a :: q := by simp
  have q6 : (st ++ [a]).length = st.length + 1 := by simp
  have hJ := bround_j hE hB rfl
  dsimp only at hJ
  have hzl : (n.segs.zip c).length = n.segs.length := by rw [List.length_zip, h.l]; omega
  obtain ⟨X, hX⟩ : ∃ X : Nat → (List Int × List Nat) × Nat × List Nat, X = fun j => ((n.segs.zip c).take j).foldl (bsX a) ((o, q), g, st ++ [a]) := ⟨_, rfl⟩
  have hX0 : X 0 = ((o, q), g, st ++ [a]) := by rw [hX]; rfl
  have hX1 : ∀ j, (X j).1 = ((n.segs.zip c).take j).foldl (bstep a) (o, q) := fun j => by rw [hX]; exact foldX a _ _
  have hXn : ∀ j x, (n.segs.zip c)[j]? = some x → X (j + 1) = bsX a (X j) x := fun j x hx => by rw [hX]; exact fold_tk _ _ hx
  have hend : (X n.segs.length).1 = bround (n.segs.zip c) (o, a :: q) := by rw [hX1, ← hzl, List.take_length]; rfl
  clear hX
  simp (maxSteps:=500000) only [↓vp, vv, ↓reduceIte, simprocAttr, c106_5, c106_4, HpF, HpH, gD, q0, q1, q2, q3, q4]
  refine rng_loop n.segs.length (fun j => ⟨fr (HpF (X j).1 (X j).2.1 (X j).2.2 [(7, di a), (38, di n.segs.length), (39, di (j : Nat))]), HpH n c (X j).1 (X j).2.1 (X j).2.2⟩) (fun _ => True) ?_ trivial (fun j hj _ => ?_) (fun _ => ?_)
  ·rw [hX0]
   exact (weak_eqA [] [(0, 2), (0, 17), (0, 22)] (HpF (o, q) g (st ++ [a]) [(7, di a), (38, di n.segs.length), (39, di 0)]) (by refine ⟨?_, ?_, ?_, by simp, ?_⟩ <;> (simp only [↓vp, vv, ↓reduceIte, simprocAttr, coverS, refsF, HpF, HpH, gD, iRow, nRow, q4, q5, q6, Int.toNat_natCast] <;> try rfl)))
  ·have hj' : (j : Int) < n.segs.length := by omega
   have hjn := idx_nn j
   have w1 := idx_next (j := j) (by omega)
   obtain ⟨x, hx⟩ : ∃ x, (n.segs.zip c)[j]? = some x := ⟨_, List.getElem?_eq_getElem (by omega)⟩
   have hXj := hXn j x hx
   have hJj := hJ j
   rw [← hX1 j] at hJj
   generalize hXe : X j = S at hXj hJj
   obtain ⟨⟨o1, p1⟩, g1, st1⟩ := S
   dsimp only at hJj
   unfold bsX at hXj
   dsimp only at hXj
   have hg := gOf1_row n c
   unfold gD at hg
   have hpl := hJj.ql
   dsimp only at hpl
   have an := idx_nn a
   have ho1 : o1.length = n.nodes.length := hJj.len
   dsimp only
   cases e : ovr x a with
   | none =>
    rw [e] at hXj
    dsimp only at hXj
    simp (maxSteps:=500000) only [↓vp, vv, ↓reduceIte, simprocAttr, c106_3, c106_2, c106_1, THp, selOv, HpF, HpH, gD, hg, h, hj', hjn, an, hx, e, ovD, Option.bind_some, Int.toNat_natCast, w1]
    refine rng_next hj ?_ trivial
    rw [hXj]
    exact (weak_eqA [] [(0, 2), (0, 17), (0, 22)] (HpF (o1, p1) g1 st1 [(7, di a), (38, di n.segs.length), (39, di (j + 1 : Nat))]) (by refine ⟨?_, ?_, ?_, by simp, ?_⟩ <;> (simp only [↓vp, vv, ↓reduceIte, simprocAttr, coverS, refsF, HpF, HpH, gD, iRow, nRow, w1] <;> try rfl)))
   | some r =>
    obtain ⟨w, b⟩ := r
    rw [e] at hXj
    dsimp only at hXj
    obtain ⟨hw, ha⟩ := ovr_lt (hE x (List.mem_of_getElem? hx)) e
    have hw1 : w < o1.length := by omega
    have hw1' : (w : Int) < o1.length := by omega
    have hwn := idx_nn w
    have ha1 : a < o1.length := by omega
    have ha1' : (a : Int) < o1.length := by omega
    have gw := iRow_dd o1 w hw1
    have ga := iRow_dd o1 a ha1
    cases hd : decide (o1.getD w 0 < 0) with
    | false =>
     rw [if_neg (by simpa using hd)] at hXj
     simp (maxSteps:=500000) only [↓vp, vv, ↓reduceIte, simprocAttr, c106_3, c106_2, c106_1, THp, selOv, HpF, HpH, gD, hg, h, hj', hjn, an, hx, e, ovD, Option.bind_some, hw1, hw1', hwn, gw, hd, Int.toNat_natCast, w1]
     refine rng_next hj ?_ trivial
     rw [hXj]
     exact (weak_eqA [] [(0, 2), (0, 17), (0, 22)] (HpF (o1, p1) g1 st1 [(7, di a), (38, di n.segs.length), (39, di (j + 1 : Nat))]) (by refine ⟨?_, ?_, ?_, by simp, ?_⟩ <;> (simp only [↓vp, vv, ↓reduceIte, simprocAttr, coverS, refsF, HpF, HpH, gD, iRow, nRow, w1] <;> try rfl)))
    | true =>
     rw [if_pos (by simpa using hd)] at hXj
     have lt := back_lt hJj.len hJj.back hE ha
     have lo := hJj.lo a ha
     dsimp only at lt lo
     have wa : IntKind.i64.wrap (o1.getD a 0 + 1) = o1.getD a 0 + 1 := wrap_i (by omega)
     have gs := iRow_st o1 w (o1.getD a 0 + 1)
     have y1 : (p1.length + 1) * 8 ≤ 140737488355328 := by omega
     have y2 : p1.length + 1 ≤ 4611686018427387904 := by omega
     have y3 : st1.length = 0 ∨ 0 < p1.length + 1 := .inr (by omega)
     have y4 : List.drop st1.length ((st1 ++ p1).map nRow) ++ [[di w]] = (p1 ++ [w]).map nRow := by
      rw [← List.map_drop, List.drop_left, List.map_append]; rfl
     simp (maxSteps:=500000) only [↓vp, vv, ↓reduceIte, simprocAttr, c106_3, c106_2, c106_1, THp, selOv, HpF, HpH, gD, hg, h, hj', hjn, an, hx, e, ovD, Option.bind_some, hw1, hw1', hwn, ha1, ha1', gw, ga, hd, Int.toNat_natCast, wa, gs, y1, y2, y3, y4, List.length_map, List.length_append, w1]
     refine rng_next hj ?_ trivial
     rw [hXj]
     exact (weak_eqA [] [(0, 2), (0, 17), (0, 22)] (HpF (o1.set w (o1.getD a 0 + 1), p1 ++ [w]) (g1 + 1) [] [(7, di a), (38, di n.segs.length), (39, di (j + 1 : Nat))]) (by refine ⟨?_, ?_, ?_, by simp, ?_⟩ <;> (simp only [↓vp, vv, ↓reduceIte, simprocAttr, coverS, refsF, HpF, HpH, gD, iRow, nRow, w1, List.length_set, List.length_append] <;> try rfl)))
  ·generalize X n.segs.length = S at hend
   obtain ⟨⟨o1, p1⟩, g1, st1⟩ := S
   dsimp only at hend ⊢
   have wk : i + 1 ≤ n.nodes.length := by omega
   simp (maxSteps:=500000) only [↓vp, vv, ↓reduceIte, simprocAttr, c106_3, HpF, HpH, gD, Int.lt_irrefl]
   refine ⟨k - 1, _, by omega, ?_, i + 1, g1, st1, by omega, by omega, rfl⟩
   rw [hnx, ← hend]
   exact (weak_eqA [] [(0, 2), (0, 17), (0, 22)] (HpF (o1, p1) g1 st1 []) (by refine ⟨?_, ?_, ?_, by simp, ?_⟩ <;> (simp only [↓vp, vv, ↓reduceIte, simprocAttr, coverS, refsF, HpF, HpH, gD, iRow, nRow] <;> try rfl)))
def hRow (h : Int × Bool) : List D := [di h.1, db h.2]
theorem hRow_pl (h : Int × Bool) : ∀ d ∈ hRow h, d.plain = true := fun d hd => by
 rcases List.mem_cons.1 hd with rfl | hd
 ·rfl
 ·rw [List.mem_singleton.1 hd]; rfl
def selHp : List D → Option (Prop × D)
 | [.agg r, .v (.int .i64 t)] => match gOf1 r with
  | some (n, c) => some (RtV n c ∧ 0 ≤ t ∧ t < n.nodes.length, .sl ((hopsL n c t.toNat).map iRow))
  | _ => Option.none
 | _ => Option.none
theorem tc_hp {T : Tbl} (hT : TblOk Try.prog T) : TblOk Try.prog (tc 106 (rowPu selHp) T) :=
 tc_pu f106_ok (fun args pre d hs hp nn => by
  unfold selHp at hs
  split at hs
  ·rename_i r t
   split at hs
   ·rename_i n c e1
    cases hs
    obtain ⟨h, h0, h1⟩ := hp
    have := hops_c n c h t.toNat (by omega) nn
    rw [show ((t.toNat : Nat) : Int) = t by omega] at this
    rw [gOf1_eq e1]
    exact this
   ·cases hs
  ·cases hs) hT
def selGk : List D → Option (Prop × D)
 | [.agg r, .sl rows] => match gOf1 r, lsOf intOf1 rows with
  | some (n, c), some ks => some (ks.length ≤ 1000, di (gchk n c ks))
  | _, _ => Option.none
 | [.agg r, .mt] => match gOf1 r with
  | some (n, c) => some (True, di (gchk n c []))
  | _ => Option.none
 | _ => Option.none
theorem tc_gk {T : Tbl} (hT : TblOk Try.prog T) : TblOk Try.prog (tc 105 (rowPu selGk) T) :=
 tc_pu f105_ok (fun args pre d hs hp nn => by
  unfold selGk at hs
  split at hs
  ·split at hs
   ·rename_i e1 e2
    cases hs
    rw [gOf1_eq e1, lsOf_eq (fun r x => intOf1_eq) e2]
    exact gcheck_c _ _ _ _ hp (.inl rfl) nn
   ·cases hs
  ·split at hs
   ·rename_i e1
    cases hs
    rw [gOf1_eq e1]
    exact gcheck_c _ _ _ [] (by simp) (.inr ⟨rfl, rfl⟩) nn
   ·cases hs
  ·cases hs) hT
def TWy : Tbl := tc 106 (rowPu selHp) (tc 105 (rowPu selGk) (tc 107 (rowPu selOv) T0))
theorem TWy_ok : TblOk Try.prog TWy := tc_hp (tc_gk (tc_ov (T0_ok _)))
def wayD (n : Net) (c : List Bool) (a t : Nat) : D := if (hopsL n c t).getD a 0 < 0 then .tup [.sl [], di 11] else .tup [.sl ((wayW n c a t).map hRow), di 0]
theorem gchk0 {n : Net} {c : List Bool} (h : RtV n c) {ks : List Int} (hk : ∀ k ∈ ks, 0 ≤ k ∧ k < n.nodes.length) : gchk n c ks = 0 := by
 unfold gchk
 have h1 := h.ck
 have h2 := h.l
 rw [if_neg (by omega), if_neg (by omega), if_neg]
 intro hh
 obtain ⟨k, hm, hu⟩ := List.any_eq_true.1 hh
 have := hk k hm
 unfold unk at hu
 split at hu
 ·rename_i h3; simp at h3; omega
 ·simp at hu; omega
def WyF (t : Nat) (D0 : List Int) (o : List (Int × Bool)) (g : Nat) (l : List (Nat × D)) : List (Nat × D) := (3, di t) :: (4, .ptr (0, 4) 0 0 0) :: (10, .ptr (0, 10) 0 0 0) :: (12, .sl (D0.map iRow)) :: (13, .own (0, 1000) g 0 o.length) :: l
def WyH (n : Net) (c : List Bool) (o : List (Int × Bool)) (g : Nat) : Hp := ((Hp.none.put (0, 1000) ⟨g, 2, o.map hRow⟩).put (0, 10) ⟨0, 7, [gD n c]⟩).put (0, 4) ⟨0, 6, [netD n]⟩
def WyI (n : Net) (c : List Bool) (t : Nat) (E : List (Seg × Bool)) (D0 : List Int) (Z : List (Int × Bool)) : Nat → St → Prop := fun k s => ∃ a o g, a < n.nodes.length ∧ D0.getD a 0 = k ∧ o ++ wayL E D0 k a = Z ∧ s = ⟨fr (WyF t D0 o g [(14, di (a : Nat))]), WyH n c o g⟩
set_option maxHeartbeats 16000000 in
theorem way_c (n : Net) (c : List Bool) (h : RtV n c) (a t : Nat) (ha : a < n.nodes.length) (ht : t < n.nodes.length) (nn : Nm) : CallsA Try.prog 51 [n.enc, .sl (c.map bRow), di a, di t] Hp.none nn (Pu (wayD n c a t) Hp.none) := by
 obtain ⟨code, h1, h2⟩ := c51_ok
 refine callsA_of TWy_ok mixed (N := fun t => (0, t)) Try.func51 h1 h2 r51_ok [] false js_nil js_nil' (by simp [Try.f51]) ?_
 have hv := h.v
 have hnl := hv.nl
 have hsl := hv.sl
 have hz := h.z
 have hg := gOf1_row n c
 unfold gD at hg
 have hk : gchk n c [(a : Int), (t : Int)] = 0 := gchk0 h fun k hm => by
  rcases List.mem_cons.1 hm with e | e
  ·subst e; omega
  ·rw [List.mem_singleton.1 e]; omega
 have hks : lsOf intOf1 [[di (a : Int)], [di (t : Int)]] = some [(a : Int), (t : Int)] := rfl
 have ha' : (a : Int) < n.nodes.length := by omega
 have ht' : (t : Int) < n.nodes.length := by omega
 have han := idx_nn a
 have htn := idx_nn t
 have hD := h.ok.isD ht
 have hE := h.ok.s
 have hlt := fun (k : Nat) (hk : k < n.nodes.length) => hD.lt_N hE hk
 have hlo := hD.lo
 have hW : ∀ m : Nat, (hopsL n c t).getD a 0 = m → wayW n c a t = wayL (n.segs.zip c) (hopsL n c t) m a := fun m hm => by unfold wayW; rw [hm]; rfl
 have hWl : 0 ≤ (hopsL n c t).getD a 0 → (wayW n c a t).length ≤ 24 := fun h0 => by
  have := (h.ok.way ha ht h0).2
  have := hlt a ha
  omega
 unfold wayD
 generalize hD0 : hopsL n c t = D0 at *
 generalize wayW n c a t = Z at *
 have hDl := hD.len
 have g1 := iRow_dd D0 a (by omega)
 have al : a < D0.length := by omega
 have al' : (a : Int) < D0.length := by omega
 cases hd : decide (D0.getD a 0 < 0) with
 | true =>
  rw [if_pos (by simpa using hd)]
  simp (maxSteps:=500000) only [↓vp, vv, ↓reduceIte, simprocAttr, c51, c51_8, TWy, selHp, selGk, Net.enc, hD0, hg, h, hz, hk, hks, ha', ht', han, htn, al, al', g1, hd, Int.toNat_natCast, r51, Pu]
 | false =>
  have h0 : 0 ≤ D0.getD a 0 := by simpa using hd
  rw [if_neg (by omega)]
  simp (maxSteps:=500000) only [↓vp, vv, ↓reduceIte, simprocAttr, c51, c51_8, c51_7, TWy, selHp, selGk, Net.enc, hD0, hg, h, hz, hk, hks, ha', ht', han, htn, al, al', g1, hd, Int.toNat_natCast]
  rw [vc_loop]
  obtain ⟨m0, hm0⟩ : ∃ m0 : Nat, D0.getD a 0 = m0 := ⟨(D0.getD a 0).toNat, by omega⟩
  refine ⟨WyI n c t (n.segs.zip c) D0 Z, ⟨m0, _, (weak_own 13 (0, 1000) 2 (by simp only [↓vp, vv, ↓reduceIte, simprocAttr, ]) (by simp only [↓vp, vv, ↓reduceIte, simprocAttr, ])).trans (weak_eqA [] [(0, 4), (0, 10), (0, 1000)] (WyF t D0 [] 0 [(14, di a)]) (by refine ⟨?_, ?_, ?_, by simp, ?_⟩ <;> (simp only [↓vp, vv, ↓reduceIte, simprocAttr, coverS, refsF, WyF, WyH, gD, netD, iRow, hRow] <;> try rfl))), a, [], 0, ha, hm0, by rw [hW m0 hm0]; rfl, rfl⟩, ?_⟩
  rintro k s ⟨b, o, g, hb, hbk, ho, rfl⟩
  have hbn := idx_nn b
  have hZl := hWl h0
  have hol : o.length ≤ 24 := by
   have := congrArg List.length ho
   rw [List.length_append] at this
   omega
  cases k with
  | zero =>
   have hbt : b = t := (hD.z b hb).1 hbk
   have e0 : ((b : Int) != (t : Int)) = false := by rw [hbt]; simp
   have eZ : o = Z := by rw [← ho]; show o = o ++ []; rw [List.append_nil]
   have tk : (o.map hRow).take o.length = o.map hRow := List.take_of_length_le (by simp)
   simp (maxSteps:=500000) only [↓vp, vv, ↓reduceIte, simprocAttr, c51_5, c51_6, WyF, WyH, gD, netD, e0, tk, eZ, r51, Pu]
   exact fun j _ d hd => hRow_pl j d hd
  | succ m =>
   have hbt : ¬ b = t := fun e => by have := (hD.z b hb).2 e; omega
   have e0 : ((b : Int) != (t : Int)) = true := by rw [bne_iff_ne]; omega
   have hzl : (n.segs.zip c).length = n.segs.length := by rw [List.length_zip, h.l]; omega
   have hbl : b < D0.length := by omega
   have hbl' : (b : Int) < D0.length := by omega
   have gb := iRow_dd D0 b hbl
   obtain ⟨k1, w1', b1, hp1⟩ := hD.pick hb hbk
   simp (maxSteps:=500000) only [↓vp, vv, ↓reduceIte, simprocAttr, c51_5, c51_4, WyF, WyH, gD, netD, e0]
   refine rng_loop n.segs.length (fun j => ⟨fr (WyF t D0 o g [(14, di b), (44, di n.segs.length), (45, di (j : Nat))]), WyH n c o g⟩) (fun j => pickF D0 b 0 (n.segs.zip c) = pickF D0 b j ((n.segs.zip c).drop j)) (weak_eqA [] [(0, 4), (0, 10), (0, 1000)] (WyF t D0 o g [(14, di b), (44, di n.segs.length), (45, di 0)]) (by refine ⟨?_, ?_, ?_, by simp, ?_⟩ <;> (simp only [↓vp, vv, ↓reduceIte, simprocAttr, coverS, refsF, WyF, WyH, gD, netD, iRow, hRow] <;> try rfl))) rfl (fun j hj hP => ?_) (fun hP => ?_)
   ·have hj' : (j : Int) < n.segs.length := by omega
    have hjn := idx_nn j
    have wj := idx_next (j := j) (by omega)
    have hjz : j < (n.segs.zip c).length := by omega
    obtain ⟨x, hx⟩ : ∃ x, (n.segs.zip c)[j]? = some x := ⟨_, List.getElem?_eq_getElem hjz⟩
    have hdr : (n.segs.zip c).drop j = x :: (n.segs.zip c).drop (j + 1) := by
     rw [List.drop_eq_getElem_cons hjz]
     rw [List.getElem?_eq_getElem hjz] at hx
     cases hx
     rfl
    rw [hdr] at hP
    cases e : ovr x b with
    | none =>
     have hP2 : pickF D0 b 0 (n.segs.zip c) = pickF D0 b (j + 1) ((n.segs.zip c).drop (j + 1)) := by rw [hP]; show (match ovr x b with | some (w, b) => _ | Option.none => _) = _; rw [e]
     simp (maxSteps:=500000) only [↓vp, vv, ↓reduceIte, simprocAttr, c51_3, c51_2, c51_1, TWy, selOv, WyF, WyH, gD, netD, hg, h, hj', hjn, hbn, hx, e, ovD, Option.bind_some, Int.toNat_natCast, wj]
     exact rng_next hj (weak_eqA [] [(0, 4), (0, 10), (0, 1000)] (WyF t D0 o g [(14, di b), (44, di n.segs.length), (45, di (j + 1 : Nat))]) (by refine ⟨?_, ?_, ?_, by simp, ?_⟩ <;> (simp only [↓vp, vv, ↓reduceIte, simprocAttr, coverS, refsF, WyF, WyH, gD, netD, iRow, hRow, wj] <;> try rfl))) hP2
    | some r =>
     obtain ⟨w, bb⟩ := r
     obtain ⟨hw, _⟩ := ovr_lt (hE x (List.mem_of_getElem? hx)) e
     have hwl : w < D0.length := by omega
     have hwl' : (w : Int) < D0.length := by omega
     have hwn := idx_nn w
     have gw := iRow_dd D0 w hwl
     have l1 := hlt b hb
     have wd : IntKind.i64.wrap (D0.getD b 0 - 1) = D0.getD b 0 - 1 := wrap_i (by omega)
     have hPe : pickF D0 b 0 (n.segs.zip c) = if D0.getD w 0 = D0.getD b 0 - 1 then some (j, w, bb) else pickF D0 b (j + 1) ((n.segs.zip c).drop (j + 1)) := by rw [hP]; show (match ovr x b with | some (w, b) => _ | Option.none => _) = _; rw [e]
     cases hd2 : (D0.getD w 0 == D0.getD b 0 - 1) with
     | false =>
      have hP2 : pickF D0 b 0 (n.segs.zip c) = pickF D0 b (j + 1) ((n.segs.zip c).drop (j + 1)) := by rw [hPe, if_neg (by simpa using hd2)]
      simp (maxSteps:=500000) only [↓vp, vv, ↓reduceIte, simprocAttr, c51_3, c51_2, c51_1, TWy, selOv, WyF, WyH, gD, netD, hg, h, hj', hjn, hbn, hx, e, ovD, Option.bind_some, Int.toNat_natCast, hwl, hwl', hwn, hbl, hbl', gw, gb, wd, hd2, wj]
      exact rng_next hj (weak_eqA [] [(0, 4), (0, 10), (0, 1000)] (WyF t D0 o g [(14, di b), (44, di n.segs.length), (45, di (j + 1 : Nat))]) (by refine ⟨?_, ?_, ?_, by simp, ?_⟩ <;> (simp only [↓vp, vv, ↓reduceIte, simprocAttr, coverS, refsF, WyF, WyH, gD, netD, iRow, hRow, wj] <;> try rfl))) hP2
     | true =>
      have hP2 : pickF D0 b 0 (n.segs.zip c) = some (j, w, bb) := by rw [hPe, if_pos (by simpa using hd2)]
      have hwm : D0.getD w 0 = m := by
                                       have : D0.getD w 0 = D0.getD b 0 - 1 := by simpa using hd2
                                       omega
      have ho2 : (o ++ [((j : Int), bb)]) ++ wayL (n.segs.zip c) D0 m w = Z := by
       rw [← ho]
       show _ = o ++ (match pickF D0 b 0 (n.segs.zip c) with | some (k, w, b) => ((k : Int), b) :: wayL (n.segs.zip c) D0 m w | Option.none => [])
       rw [hP2]
       simp
      have y1 : (o.length + 1) * 16 ≤ 140737488355328 := by omega
      have y2 : o.length + 1 ≤ 4611686018427387904 := by omega
      simp (maxSteps:=500000) only [↓vp, vv, ↓reduceIte, simprocAttr, c51_3, c51_2, c51_1, TWy, selOv, WyF, WyH, gD, netD, hg, h, hj', hjn, hbn, hx, e, ovD, Option.bind_some, Int.toNat_natCast, hwl, hwl', hwn, hbl, hbl', gw, gb, wd, hd2, y1, y2]
      exact ⟨m, _, by omega, (weak_eqA [] [(0, 4), (0, 10), (0, 1000)] (WyF t D0 (o ++ [((j : Int), bb)]) (g + 1) [(14, di w)]) (by refine ⟨?_, ?_, ?_, by simp, ?_⟩ <;> (simp only [↓vp, vv, ↓reduceIte, simprocAttr, coverS, refsF, WyF, WyH, gD, netD, iRow, hRow, List.map_append, List.length_append, List.length_cons, List.length_nil] <;> try rfl))), w, o ++ [((j : Int), bb)], g + 1, hw, hwm, ho2, rfl⟩
   ·rw [← hzl, List.drop_length, hp1] at hP
    cases hP
def rlP (A : List Int) (j : Nat) : List Nat := (List.range j).filter fun k => decide (0 ≤ A.getD k 0)
theorem rlP_succ (A : List Int) (j : Nat) : rlP A (j + 1) = if decide (0 ≤ A.getD j 0) = true then rlP A j ++ [j] else rlP A j := by
 unfold rlP
 rw [List.range_succ, List.filter_append, List.filter_cons, List.filter_nil]
 split
 ·rfl
 ·exact List.append_nil _
theorem rlP_le (A : List Int) (j : Nat) : (rlP A j).length ≤ j := by
 unfold rlP
 exact Nat.le_trans (List.length_filter_le ..) (by simp)
def RlF (A : List Int) (j : Nat) : List (Nat × D) := [(5, .own (0, 1000) (rlP A j).length 0 (rlP A j).length), (10, .sl (A.map iRow)), (11, di A.length), (12, di j)]
def RlH (A : List Int) (j : Nat) : Hp := Hp.none.put (0, 1000) ⟨(rlP A j).length, 1, (rlP A j).map nRow⟩
def THr : Tbl := tc 106 (rowPu selHp) T0
theorem THr_ok : TblOk Try.prog THr := tc_hp (T0_ok _)
set_option maxHeartbeats 8000000 in
theorem greach_c (n : Net) (c : List Bool) (h : RtV n c) (k : Nat) (hk : k < n.nodes.length) (nn : Nm) : CallsA Try.prog 112 [.agg (gD n c), di k] Hp.none nn (Pu (.sl ((rL n c k).map nRow)) Hp.none) := by
 obtain ⟨code, h1, h2⟩ := c112_ok
 refine callsA_of THr_ok mixed (N := fun t => (0, t)) Try.func112 h1 h2 r112_ok [] false js_nil js_nil' (by simp [Try.f112]) ?_
 have hg := gOf1_row n c
 unfold gD at hg
 have hk' : (k : Int) < n.nodes.length := by omega
 have hkn := idx_nn k
 have hlA := (h.ok.isD hk).len
 have hnl := h.v.nl
 have hR : rL n c k = rlP (hopsL n c k) (hopsL n c k).length := by unfold rL rlP; rw [hlA]
 rw [hR]
 simp (maxSteps:=500000) only [↓vp, vv, ↓reduceIte, simprocAttr, c112, THr, selHp, gD, hg, h, hk', hkn, Int.toNat_natCast]
 generalize hopsL n c k = A at hlA
 refine rng_loop A.length (fun j => ⟨fr (RlF A j), RlH A j⟩) (fun _ => True) ((weak_own 5 (0, 1000) 1 (by simp only [↓vp, vv, ↓reduceIte, simprocAttr, ]) (by simp only [↓vp, vv, ↓reduceIte, simprocAttr, ])).trans (weak_eqA [] [(0, 1000)] (RlF A 0) (by refine ⟨?_, ?_, ?_, by simp, ?_⟩ <;> (simp only [↓vp, vv, ↓reduceIte, simprocAttr, coverS, refsF, RlF, RlH, nRow, rlP, List.range_zero, List.filter_nil] <;> try rfl)))) trivial (fun j hj _ => ?_) (fun _ => ?_)
 ·have hj' : (j : Int) < A.length := by omega
  have hjn := idx_nn j
  have w1 := idx_next (j := j) (by omega)
  have hgg := iRow_dd A j hj
  have d1 := rlP_succ A j
  have l1 := rlP_le A j
  have y1 : ((rlP A j).length + 1) * 8 ≤ 140737488355328 := by omega
  have y2 : (rlP A j).length + 1 ≤ 4611686018427387904 := by omega
  cases hz : decide (0 ≤ A.getD j 0) with
  | true =>
   rw [hz, if_pos rfl] at d1
   simp (maxSteps:=500000) only [↓vp, vv, ↓reduceIte, simprocAttr, c112_3, c112_2, c112_1, RlF, RlH, hj', hjn, Int.toNat_natCast, hgg, hz, w1, y1, y2, nRow]
   exact rng_next hj (weak_eqA [] [(0, 1000)] (RlF A (j + 1)) (by refine ⟨?_, ?_, ?_, by simp, ?_⟩ <;> (simp only [↓vp, vv, ↓reduceIte, simprocAttr, coverS, refsF, RlF, RlH, nRow, w1, d1, List.map_append, List.length_append, List.length_cons, List.length_nil] <;> try rfl))) trivial
  | false =>
   rw [hz, if_neg (by simp)] at d1
   simp (maxSteps:=500000) only [↓vp, vv, ↓reduceIte, simprocAttr, c112_3, c112_2, c112_1, RlF, RlH, hj', hjn, Int.toNat_natCast, hgg, hz, w1, nRow]
   exact rng_next hj (weak_eqA [] [(0, 1000)] (RlF A (j + 1)) (by refine ⟨?_, ?_, ?_, by simp, ?_⟩ <;> (simp only [↓vp, vv, ↓reduceIte, simprocAttr, coverS, refsF, RlF, RlH, nRow, w1, d1] <;> try rfl))) trivial
 ·simp (maxSteps:=500000) only [↓vp, vv, ↓reduceIte, simprocAttr, c112_3, c112_4, r112, RlF, RlH, Int.lt_irrefl, Pu]
  exact fun j _ d hd => by rw [List.mem_singleton.1 hd]; rfl
def selRc : List D → Option (Prop × D)
 | [.agg r, .v (.int .i64 t)] => match gOf1 r with
  | some (n, c) => some (RtV n c ∧ 0 ≤ t ∧ t < n.nodes.length, .sl ((rL n c t.toNat).map nRow))
  | _ => Option.none
 | _ => Option.none
theorem tc_rc {T : Tbl} (hT : TblOk Try.prog T) : TblOk Try.prog (tc 112 (rowPu selRc) T) :=
 tc_pu f112_ok (fun args pre d hs hp nn => by
  unfold selRc at hs
  split at hs
  ·rename_i r t
   split at hs
   ·rename_i n c e1
    cases hs
    obtain ⟨h, h0, h1⟩ := hp
    have := greach_c n c h t.toNat (by omega) nn
    rw [show ((t.toNat : Nat) : Int) = t by omega] at this
    rw [gOf1_eq e1]
    exact this
   ·cases hs
  ·cases hs) hT
def TRch : Tbl := tc 112 (rowPu selRc) (tc 105 (rowPu selGk) T0)
theorem TRch_ok : TblOk Try.prog TRch := tc_rc (tc_gk (T0_ok _))
set_option maxHeartbeats 8000000 in
theorem Reach_c (n : Net) (c : List Bool) (h : RtV n c) (k : Nat) (hk : k < n.nodes.length) (nn : Nm) : CallsA Try.prog 53 [n.enc, .sl (c.map bRow), di k] Hp.none nn (Pu (.tup [.sl ((rL n c k).map nRow), di 0]) Hp.none) := by
 obtain ⟨code, h1, h2⟩ := c53_ok
 refine callsA_of TRch_ok mixed (N := fun t => (0, t)) Try.func53 h1 h2 r53_ok [] false js_nil js_nil' (by simp [Try.f53]) ?_
 have hg := gOf1_row n c
 unfold gD at hg
 have hk' : (k : Int) < n.nodes.length := by omega
 have hkn := idx_nn k
 have hz := h.z
 have hk0 : gchk n c [(k : Int)] = 0 := gchk0 h fun x hm => by rw [List.mem_singleton.1 hm]; omega
 have hks : lsOf intOf1 [[di (k : Int)]] = some [(k : Int)] := rfl
 simp (maxSteps:=500000) only [↓vp, vv, ↓reduceIte, simprocAttr, c53, r53, c53_1, TRch, selRc, selGk, Net.enc, hg, h, hz, hk', hkn, hk0, hks, Int.toNat_natCast, r53, Pu]
def pRow (l : List Nat) : List D := [.sl (l.map nRow)]
def ptP (n : Net) (c : List Bool) (j : Nat) : List (List Nat) := ((List.range j).filter (rootB n c)).map (rL n c)
theorem ptP_succ (n : Net) (c : List Bool) (j : Nat) : ptP n c (j + 1) = if rootB n c j = true then ptP n c j ++ [rL n c j] else ptP n c j := by
 unfold ptP
 rw [List.range_succ, List.filter_append, List.filter_cons, List.filter_nil]
 split
 ·rw [List.map_append]; rfl
 ·rw [List.append_nil]
theorem ptP_le (n : Net) (c : List Bool) (j : Nat) : (ptP n c j).length ≤ j := by
 unfold ptP
 rw [List.length_map]
 exact Nat.le_trans (List.length_filter_le ..) (by simp)
def PtF (n : Net) (c : List Bool) (j : Nat) : List (Nat × D) := [(6, .ptr (0, 6) 0 0 0), (8, .own (0, 1000) (ptP n c j).length 0 (ptP n c j).length), (21, di n.nodes.length), (22, di j)]
def PtH (n : Net) (c : List Bool) (j : Nat) : Hp := (Hp.none.put (0, 1000) ⟨(ptP n c j).length, 1, (ptP n c j).map pRow⟩).put (0, 6) ⟨0, 7, [gD n c]⟩
theorem rL_first {n : Net} {c : List Bool} (h : RtV n c) {k : Nat} (hk : k < n.nodes.length) : 0 < (rL n c k).length ∧ ((rL n c k).map nRow).getD 0 [] = [di ((rL n c k).getD 0 0 : Nat)] := by
 have : k ∈ rL n c k := (h.ok.mem_rL hk).2 ⟨hk, 0, .nil k⟩
 cases e : rL n c k with
 | nil => rw [e] at this; cases this
 | cons a l => exact ⟨by simp, rfl⟩
set_option maxHeartbeats 8000000 in
theorem Parts_c (n : Net) (c : List Bool) (h : RtV n c) (nn : Nm) : CallsA Try.prog 61 [n.enc, .sl (c.map bRow)] Hp.none nn (Pu (.tup [.sl ((partsL n c).map pRow), di 0]) Hp.none) := by
 obtain ⟨code, h1, h2⟩ := c61_ok
 refine callsA_of TRch_ok mixed (N := fun t => (0, t)) Try.func61 h1 h2 r61_ok [] false js_nil js_nil' (by simp [Try.f61]) ?_
 have hg := gOf1_row n c
 unfold gD at hg
 have hz := h.z
 have hnl := h.v.nl
 have hk0 : gchk n c [] = 0 := gchk0 h fun x hm => by cases hm
 have hR : partsL n c = ptP n c n.nodes.length := rfl
 have hks : lsOf intOf1 [] = some [] := rfl
 rw [hR]
 simp (maxSteps:=500000) only [↓vp, vv, ↓reduceIte, simprocAttr, c61, c61_5, TRch, selRc, selGk, Net.enc, hg, h, hz, hk0, hks]
 refine rng_loop n.nodes.length (fun j => ⟨fr (PtF n c j), PtH n c j⟩) (fun _ => True) ?_ trivial (fun j hj _ => ?_) (fun _ => ?_)
 ·exact ((weak_own 8 (0, 1000) 1 (by simp only [↓vp, vv, ↓reduceIte, simprocAttr, ]) (by simp only [↓vp, vv, ↓reduceIte, simprocAttr, ])).trans (weak_eqA [] [(0, 6), (0, 1000)] (PtF n c 0) (by refine ⟨?_, ?_, ?_, by simp, ?_⟩ <;> (simp only [↓vp, vv, ↓reduceIte, simprocAttr, coverS, refsF, PtF, PtH, gD, pRow, ptP, List.range_zero, List.filter_nil, List.map_nil, List.length_nil] <;> try rfl))))
 ·have hj' : (j : Int) < n.nodes.length := by omega
  have hjn := idx_nn j
  have w1 := idx_next (j := j) (by omega)
  obtain ⟨f1, f2⟩ := rL_first h hj
  have f1' : (0 : Int) < (rL n c j).length := by omega
  have d1 := ptP_succ n c j
  have l1 := ptP_le n c j
  have y1 : ((ptP n c j).length + 1) * 24 ≤ 140737488355328 := by omega
  have y2 : (ptP n c j).length + 1 ≤ 4611686018427387904 := by omega
  have hb : (((rL n c j).getD 0 0 : Nat) == j) = rootB n c j := rfl
  have hb' : ((((rL n c j).getD 0 0 : Nat) : Int) == (j : Int)) = rootB n c j := by
   rw [← hb, Bool.eq_iff_iff, beq_iff_eq, beq_iff_eq]; omega
  cases hr : rootB n c j with
  | true =>
   rw [hr] at hb'
   rw [hr, if_pos rfl] at d1
   simp (maxSteps:=500000) only [↓vp, vv, ↓reduceIte, simprocAttr, c61_3, c61_2, c61_1, TRch, selRc, PtF, PtH, gD, hg, h, hj', hjn, Int.toNat_natCast, f1, f1', f2, hb', w1, y1, y2, pRow]
   exact rng_next hj (weak_eqA [] [(0, 6), (0, 1000)] (PtF n c (j + 1)) (by refine ⟨?_, ?_, ?_, by simp, ?_⟩ <;> (simp only [↓vp, vv, ↓reduceIte, simprocAttr, coverS, refsF, PtF, PtH, gD, pRow, w1, d1, List.map_append, List.length_append, List.length_cons, List.length_nil] <;> try rfl))) trivial
  | false =>
   rw [hr] at hb'
   rw [hr, if_neg (by simp)] at d1
   simp (maxSteps:=500000) only [↓vp, vv, ↓reduceIte, simprocAttr, c61_3, c61_2, c61_1, TRch, selRc, PtF, PtH, gD, hg, h, hj', hjn, Int.toNat_natCast, f1, f1', f2, hb', w1, pRow]
   exact rng_next hj (weak_eqA [] [(0, 6), (0, 1000)] (PtF n c (j + 1)) (by refine ⟨?_, ?_, ?_, by simp, ?_⟩ <;> (simp only [↓vp, vv, ↓reduceIte, simprocAttr, coverS, refsF, PtF, PtH, gD, pRow, w1, d1] <;> try rfl))) trivial
 ·simp (maxSteps:=500000) only [↓vp, vv, ↓reduceIte, simprocAttr, c61_3, c61_4, r61, PtF, PtH, gD, Int.lt_irrefl, Pu]
  exact fun j _ d hd => by rw [List.mem_singleton.1 hd]; rfl
def selCl : List D → Option (Prop × (Nm → D) × (Nm → Hp))
 | [.sl rows] => match lsOf boolOf1 rows with
  | some c => some (1 ≤ c.length ∧ c.length ≤ 1000000, fun nn => .own nn 1 0 c.length, fun nn => Hp.none.put nn ⟨1, 1, c.map bRow⟩)
  | _ => Option.none
 | _ => Option.none
theorem tc_cl {T : Tbl} (hT : TblOk Try.prog T) : TblOk Try.prog (tc 114 (rowOwn selCl) T) :=
 tc_own f114_ok (fun args pre d H hs hp nn => by
  unfold selCl at hs
  split at hs
  ·split at hs
   ·rename_i c e
    cases hs
    rw [lsOf_eq (fun r x => boolOf1_eq) e]
    exact Clone_c c hp nn
   ·cases hs
  ·cases hs) hT
def TCu : Tbl := tc 114 (rowOwn selCl) (tc 106 (rowPu selHp) (tc 105 (rowPu selGk) T0))
theorem TCu_ok : TblOk Try.prog TCu := tc_cl (tc_hp (tc_gk (T0_ok _)))
def cutB (n : Net) (c : List Bool) (k : Nat) : Bool := if c.getD k false = true then false else match n.segs[k]? with
 | some s => decide ((hopsL n (c.set k true) s.fr.toNat).getD s.to.toNat 0 < 0)
 | Option.none => false
theorem RtV.set {n : Net} {c : List Bool} (h : RtV n c) (k : Nat) : RtV n (c.set k true) := ⟨h.z, h.ck, by rw [List.length_set]; exact h.l⟩
theorem bRow_g1 (R : List Bool) (j : Nat) (h : j < R.length) : (R.map bRow).getD j [] = [db R[j]] := by rw [getD_map bRow R j h]; rfl
set_option maxHeartbeats 8000000 in
theorem Cuts_c (n : Net) (c : List Bool) (h : RtV n c) (k : Nat) (hk : k < n.segs.length) (nn : Nm) : CallsA Try.prog 55 [n.enc, .sl (c.map bRow), di k] Hp.none nn (Pu (.tup [db (cutB n c k), di 0]) Hp.none) := by
 obtain ⟨code, h1, h2⟩ := c55_ok
 refine callsA_of TCu_ok mixed (N := fun t => (0, t)) Try.func55 h1 h2 r55_ok [] false js_nil js_nil' (by simp [Try.f55]) ?_
 have hg := gOf1_row n c
 unfold gD at hg
 have hg2 := gOf1_row n (c.set k true)
 unfold gD at hg2
 have hz := h.z
 have hsl := h.v.sl
 have hl := h.l
 have hk0 : gchk n c [] = 0 := gchk0 h fun x hm => by cases hm
 have hks : lsOf intOf1 [] = some [] := rfl
 have hb1 : lsOf boolOf1 (c.map bRow) = some c := lsOf_map boolOf1_row c
 have q1 : 1 ≤ c.length := by omega
 have q2 : c.length ≤ 1000000 := by omega
 have tk : (c.map bRow).take c.length = c.map bRow := List.take_of_length_le (by simp)
 have hkc : k < c.length := by omega
 have hkc' : (k : Int) < c.length := by omega
 have hks' : (k : Int) < n.segs.length := by omega
 have hkn := idx_nn k
 have e1 : decide ((k : Int) < 0) = false := decide_eq_false (by omega)
 have e2 : decide ((k : Int) ≥ n.segs.length) = false := decide_eq_false (by omega)
 have gc := bRow_g1 c k hkc
 have hc0 : c.getD k false = c[k] := by rw [List.getD_eq_getElem?_getD, List.getElem?_eq_getElem hkc]; rfl
 unfold cutB
 rw [hc0]
 cases hb : c[k] with
 | true =>
  rw [hb] at gc
  simp (maxSteps:=500000) only [↓vp, vv, ↓reduceIte, simprocAttr, c55, r55, c55_1, c55_2, c55_3, r55, TCu, rowOwn, selCl, selHp, selGk, Net.enc, hg, h, hz, hk0, hks, hb1, q1, q2, tk, hkc, hkc', hks', hkn, e1, e2, gc, Int.toNat_natCast, Pu]
  exact fun j _ d hd => by rw [List.mem_singleton.1 hd]; rfl
 | false =>
  rw [hb] at gc
  have gs := getD_map Seg.row n.segs k hk
  have hsk := List.getElem?_eq_getElem hk
  have hv := h.v.se n.segs[k] (List.getElem_mem hk)
  generalize n.segs[k] = s at gs hsk hv
  have v1 := hv.1.1
  have v2 := hv.1.2
  have hset := h.set k
  have hl2 := (hset.ok.isD (t := s.fr.toNat) (by omega)).len
  have st1 : (c.map bRow).set k [db true] = (c.set k true).map bRow := (List.map_set ..).symm
  rw [hsk, if_neg (by simp)]
  dsimp only
  generalize hA : hopsL n (c.set k true) s.fr.toNat = A at hl2
  have tk2 : ((c.set k true).map bRow).take c.length = (c.set k true).map bRow := List.take_of_length_le (by simp)
  have t1 : s.to.toNat < A.length := by omega
  have t1' : s.to < A.length := by omega
  have t0 := hv.2.1.1
  have gA := iRow_dd A s.to.toNat t1
  simp (maxSteps:=500000) only [↓vp, vv, ↓reduceIte, simprocAttr, c55, r55, c55_1, c55_2, c55_3, r55, TCu, rowOwn, selCl, selHp, selGk, Net.enc, hg, h, hz, hk0, hks, hb1, q1, q2, tk, hkc, hkc', hks', hkn, e1, e2, gc, Int.toNat_natCast, gs, Seg.row, bRow, st1, hg2, hset, v1, v2, hA, tk2, t1, t1', t0, gA, Pu]
  rw [List.length_set]; exact Nat.le_refl _
end Go.Proofs.Ytadjhfjiimgddaa

/- Compiled code of some functions (printed by a program), each checked by the kernel. -/
namespace Go.Proofs.Ytadjhfjiimgddaa
open Go
def rowNew : List D → Hp → Nm → Option (Prop × (D → Hp → Prop)) := fun args Hs nn =>
 match args with
 | [.sl L] => some (Hs = Hp.none, Pu (.ptr nn 0 0 0) (Hp.none.put nn (sE (L.take 2000) 0)))
 | _ => Option.none
theorem tc_new {T : Tbl} (hT : TblOk Try.prog T) : TblOk Try.prog (tc 8 rowNew T) :=
 tc_row f8_ok (fun args Hs nn pre R hr hp => by
  unfold rowNew at hr
  split at hr
  ·cases hr
   subst hp
   exact ⟨⟨_, _, rfl, rfl⟩, New_c _ nn⟩
  ·cases hr) hT
theorem AllI.one {α : Type} {P : Nat → α → Prop} {x : α} (h : P 0 x) : AllI P [x] := (AllI.nil P).snoc h
theorem AllI.two {α : Type} {P : Nat → α → Prop} {x y : α} (h : P 0 x) (k : P 1 y) : AllI P [x, y] := (AllI.one h).snoc k
theorem netOk_ex : NetOk ⟨[nm1B ⟨#[110]⟩ 0, nm1B ⟨#[110]⟩ 1], [⟨nm1B ⟨#[103]⟩ 0, 0, 1, 1, 0, 0, [⟨0, 0, 0⟩, ⟨1, 0, 0⟩]⟩], [⟨nm1B ⟨#[113]⟩ 0, 0, 0⟩, ⟨nm1B ⟨#[113]⟩ 1, 1, 0⟩], [], 0, 0⟩ := by
 refine ⟨AllI.two rfl rfl, by simp, AllI.one ⟨0, 1, by simp, by simp, by simp, segOk_ex _ _ _, fun _ => ⟨rfl, rfl⟩⟩, by simp, ⟨AllI.two ⟨rfl, by simp, by simp, by simp, by simp⟩ ⟨rfl, by simp, by simp, by simp, by simp⟩, by simp, fun _ => rfl, fun _ => rfl, by simp⟩, ⟨AllI.nil _, List.Pairwise.nil, by simp⟩, by simp, by simp⟩
theorem tc_net {T : Tbl} (hT : TblOk Try.prog T) : TblOk Try.prog (tc 32 (rowSrc (sel0 NetOk) Net.enc) T) :=
 tc_src f32_ok (fun args pre post h hp => by
  unfold sel0 at h
  split at h <;> cases h
  exact ⟨⟨_, netOk_ex⟩, Network_c⟩) hT
def selAw : List D → Option (Prop × D)
 | [] => some (True, db true)
 | _ => Option.none
theorem src_new (ns : List Int) (h : ∀ n ∈ ns, InI n) : SrcOk ((ns.map fun n => [di n]).take 2000) 0 :=
 ⟨Int.le_refl _, Int.natCast_nonneg _, by rw [List.length_take]; omega, ns.take 2000, by rw [List.map_take], fun n hn => h n (List.mem_of_mem_take hn)⟩
theorem zip_at {α β : Type} : ∀ {l : List α} {m : List β} {x : α × β}, x ∈ l.zip m → ∃ k : Nat, l[k]? = some x.1 ∧ m[k]? = some x.2
 | [], m, x, h => by cases h
 | a :: l, [], x, h => by cases h
 | a :: l, b :: m, x, h => by
  rw [List.zip_cons_cons] at h
  rcases List.mem_cons.1 h with h | h
  ·subst h; exact ⟨0, rfl, rfl⟩
  ·obtain ⟨k, h1, h2⟩ := zip_at h
   exact ⟨k + 1, by simpa using h1, by simpa using h2⟩
theorem zip_of {α β : Type} : ∀ {l : List α} {m : List β} {k : Nat} {a : α} {b : β}, l[k]? = some a → m[k]? = some b → (a, b) ∈ l.zip m
 | [], m, k, a, b, h, _ => by simp at h
 | x :: l, [], k, a, b, _, h => by simp at h
 | x :: l, y :: m, 0, a, b, h1, h2 => by simp at h1 h2; subst h1; subst h2; exact List.mem_cons_self ..
 | x :: l, y :: m, k + 1, a, b, h1, h2 => List.mem_cons_of_mem _ (zip_of (by simpa using h1) (by simpa using h2))
def minC (c : Int) : Int := if 1000 < c then 1000 else c
def RateIn (x : Seg × Int) : Prop := -(minC x.1.cap) ≤ x.2 ∧ x.2 ≤ minC x.1.cap
structure PR (n : Net) (R : List Int) : Prop where
 rl : R.length = n.segs.length
 rb : ∀ x ∈ n.segs.zip R, RateIn x
 up : ∀ x ∈ n.segs.zip R, UpOk x
def segD (n : Net) (rate : Int) (k : Nat) : Fl := match n.segs[k]? with
 | some s => (s.fr, s.to, if s.fr < s.to then rate else -rate)
 | none => (-1, -1, 0)
def absI (n : Int) : Int := if n < -n then -n else n
def Room (n : Net) (rate : Int) (R : List Int) (k : Nat) : Prop := ∃ s r, n.segs[k]? = some s ∧ R[k]? = some r ∧ s.fr ≠ s.to ∧ absI r + rate ≤ minC s.cap
structure Way (n : Net) (R : List Int) (rate at0 at' : Int) (W : List Nat) : Prop where
 room : ∀ k ∈ W, Room n rate R k
 low : ∀ k ∈ W, ∃ s, n.segs[k]? = some s ∧ (s.fr < at' ∨ s.to < at')  ∧ (s.fr < at' → s.to ≤ at') ∧ (s.to < at' → s.fr ≤ at')
 nd : W.Nodup
 net : ∀ v : Int, sumI (fun k => netOf v (segD n rate k)) W = (if at' = v then rate else 0) - (if at0 = v then rate else 0)
theorem Way.nil (n : Net) (R : List Int) (rate at0 : Int) : Way n R rate at0 at0 [] := ⟨fun k h => (by cases h), fun k h => (by cases h), List.nodup_nil, fun v => by rw [sumI]; omega⟩
theorem Way.add {n : Net} {R : List Int} {rate at0 at' : Int} {W : List Nat} (h : Way n R rate at0 at' W) {k : Nat} {s : Seg} {r : Int} (hs : n.segs[k]? = some s) (hR : R[k]? = some r) (he : s.fr = at' ∨ s.to = at') (hup : at' < s.fr + s.to - at') (hroom : absI r + rate ≤ minC s.cap) :
  Way n R rate at0 (s.fr + s.to - at') (W ++ [k]) := by
 have hk : k ∉ W := fun hk => by
  obtain ⟨s', h1, h2, h3, h4⟩ := h.low k hk
  rw [hs] at h1
  cases h1
  omega
 refine ⟨fun j hj => ?_, fun j hj => ?_, ?_, fun v => ?_⟩
 ·rcases List.mem_append.1 hj with hj | hj
  ·exact h.room j hj
  ·rw [List.mem_singleton.1 hj]
   exact ⟨s, r, hs, hR, by omega, hroom⟩
 ·rcases List.mem_append.1 hj with hj | hj
  ·obtain ⟨s', h1, h2, h3, h4⟩ := h.low j hj
   exact ⟨s', h1, by omega, by omega, by omega⟩
  ·rw [List.mem_singleton.1 hj]
   exact ⟨s, hs, by omega, by omega, by omega⟩
 ·rw [List.nodup_append]
  exact ⟨h.nd, by simp, fun a ha b hb => by rw [List.mem_singleton.1 hb]; exact fun e => hk (e ▸ ha)⟩
 ·rw [sumI_snoc, h.net v]
  unfold segD
  rw [hs]
  unfold netOf
  dsimp only
  have neg : ∀ (c : Prop) [Decidable c], (if c then -rate else 0) = -(if c then rate else 0) := fun c _ => by split <;> omega
  rcases he with he | he
  ·subst he
   rw [if_pos (by omega : s.fr < s.to), show s.fr + s.to - s.fr = s.to by omega]
   omega
  ·subst he
   rw [if_neg (by omega : ¬ s.fr < s.to), show s.fr + s.to - s.to = s.fr by omega, neg, neg]
   omega
structure PG (n : Net) (R Q : List Int) : Prop where
 pr : PR n R
 ql : Q.length = n.ports.length
 qb : ∀ r ∈ Q, -1000 ≤ r ∧ r ≤ 1000
 bal : ∀ v : Nat, sumI (netOf (v : Int)) (flowsOf n ⟨R, Q, []⟩) = 0
structure PlanOk (n : Net) (p : Pln) : Prop where
 rl : p.rates.length = n.segs.length
 ql : p.ports.length = n.ports.length
 ul : p.pumps.length = n.sts.length
 rb : ∀ x ∈ n.segs.zip p.rates, RateIn x
 qb : ∀ r ∈ p.ports, -1000 ≤ r ∧ r ≤ 1000
 bal : ∀ v : Nat, sumI (netOf (v : Int)) (flowsOf n p) = 0
 mono : (∀ x ∈ n.segs.zip p.rates, UpOk x) ∨ ∀ x ∈ n.segs.zip p.rates, DownOk x
theorem PG.ok {n : Net} {R Q : List Int} (h : PG n R Q) {U : List Bool} (hu : U.length = n.sts.length) : PlanOk n ⟨R, Q, U⟩ := ⟨h.pr.rl, h.ql, hu, h.pr.rb, h.qb, h.bal, .inl h.pr.up⟩
def negP (p : Pln) : Pln := ⟨p.rates.map (- ·), p.ports.map (- ·), p.pumps⟩
theorem sum_neg {α : Type} (v : Int) (g : α → Int → Fl) (hg : ∀ a r, netOf v (g a (-r)) = - netOf v (g a r)) : ∀ (l : List α) (m : List Int), sumI (netOf v) (List.zipWith g l (m.map (- ·))) = - sumI (netOf v) (List.zipWith g l m)
 | [], m => by simp [sumI]
 | a :: l, [] => by simp [sumI]
 | a :: l, r :: m => by
  have := sum_neg v g hg l m
  have := hg a r
  simp only [List.map_cons, List.zipWith_cons_cons, sumI]
  omega
theorem PlanOk.neg {n : Net} {p : Pln} (h : PlanOk n p) : PlanOk n (negP p) := by
 have mem : ∀ x, x ∈ n.segs.zip (p.rates.map (- ·)) → (x.1, -x.2) ∈ n.segs.zip p.rates := fun x hx => by
  obtain ⟨k, h1, h2⟩ := zip_at hx
  rw [List.getElem?_map] at h2
  cases e : p.rates[k]? with
  | none => rw [e] at h2; cases h2
  | some r =>
   rw [e] at h2
   have : x.2 = -r := by simp at h2; omega
   rw [this, Int.neg_neg]
   exact zip_of h1 e
 have tu : ∀ x, UpOk (x.1, -x.2) → DownOk x := fun x hx hz => by
  have := hx (by dsimp only; omega)
  unfold frOf toOf at this ⊢
  dsimp only at this
  split at this <;> split <;> omega
 have td : ∀ x, DownOk (x.1, -x.2) → UpOk x := fun x hx hz => by
  have := hx (by dsimp only; omega)
  unfold frOf toOf at this ⊢
  dsimp only at this
  split at this <;> split <;> omega
 refine ⟨by simp [negP]; exact h.rl, by simp [negP]; exact h.ql, h.ul, fun x hx => ?_, fun r hr => ?_, fun v => ?_, ?_⟩
 ·have := h.rb _ (mem x hx)
  unfold RateIn at this ⊢
  dsimp only at this
  omega
 ·obtain ⟨q, hq, rfl⟩ := List.mem_map.1 hr
  have := h.qb q hq
  omega
 ·have := h.bal v
  unfold flowsOf at this ⊢
  rw [sumI_app] at this ⊢
  dsimp only [negP]
  rw [sum_neg v segFl (fun a r => by unfold segFl netOf; dsimp only; split <;> split <;> omega), sum_neg v portFl (fun a r => by unfold portFl netOf; dsimp only; split <;> split <;> omega)]
  omega
 ·rcases h.mono with hm | hm
  ·exact .inr fun x hx => tu x (hm _ (mem x hx))
  ·exact .inl fun x hx => td x (hm _ (mem x hx))
end Go.Proofs.Ytadjhfjiimgddaa

/- Plans out of a source: Negated, abs; what the loops keep. -/
/- Plans out of a source: Negated, abs; what the loops keep. -/
namespace Go.Proofs.Ytadjhfjiimgddaa
open Go
end Go.Proofs.Ytadjhfjiimgddaa
/- Plans out of a source: the segments that lead on; the way that is laid. -/
namespace Go.Proofs.Ytadjhfjiimgddaa
open Go
end Go.Proofs.Ytadjhfjiimgddaa
/- Plans out of a source: a way. -/
namespace Go.Proofs.Ytadjhfjiimgddaa
open Go
end Go.Proofs.Ytadjhfjiimgddaa
/- Plans out of a source. -/
namespace Go.Proofs.Ytadjhfjiimgddaa
open Go
end Go.Proofs.Ytadjhfjiimgddaa

/- Lineups: Valid, flows, Numbers, Need, Permits. -/
/- Lineups: Valid, flows, Numbers, Need, Permits. -/
namespace Go.Proofs.Ytadjhfjiimgddaa
open Go
structure Lnp where
 segs : List Bool
 ports : List Bool
def lnpD (l : Lnp) : List D := [.sl (l.segs.map bRow), .sl (l.ports.map bRow)]
def Lnp.enc (l : Lnp) : D := .agg (lnpD l)
theorem bRow_g (R : List Bool) (j : Nat) (h : j < R.length) : (R.map bRow).getD j [] = [db R[j]] := by rw [getD_map bRow R j h]; rfl
end Go.Proofs.Ytadjhfjiimgddaa
/- Lineups: All as a list of one's own, comparisons; what LineupNeeds calls. -/
/- Lineups: All as a list of one's own, comparisons; what LineupNeeds calls. -/
namespace Go.Proofs.Ytadjhfjiimgddaa
open Go
end Go.Proofs.Ytadjhfjiimgddaa
