/- RouteAnswers: Rb1 Rt6. -/
import Derived.Test.YtadjhfjiimgddaaYr11
import Derived.Test.YtadjhfjiimgddaaYr13
set_option linter.unusedSimpArgs false
set_option linter.unusedVariables false
set_option maxRecDepth 100000

/- Routes: the functions of both for every network, list and node. -/
namespace Go.Proofs.Ytadjhfjiimgddaa
open Go
def rchk (n : Net) (c : List Bool) : Int := if checkI n ≠ 0 then checkI n else if c.length ≠ n.segs.length then 9 else 0
theorem sz_of_ck {n : Net} (h : checkI n = 0) : NetSz n := by
 cases a : limB n with
 | true => exact sz_of_lim a
 | false => unfold checkI at h; rw [a, if_neg (by decide)] at h; omega
theorem rtv_of {n : Net} {c : List Bool} (h : rchk n c = 0) : RtV n c := by
 unfold rchk at h
 by_cases h1 : checkI n = 0
 ·rw [if_neg (by omega)] at h
  by_cases h2 : c.length = n.segs.length
  ·exact ⟨sz_of_ck h1, h1, h2⟩
  ·rw [if_pos h2] at h; omega
 ·rw [if_pos h1] at h; exact absurd h h1
theorem gchk_r (n : Net) (c : List Bool) (ks : List Int) : gchk n c ks = if rchk n c = 0 then (if ks.any (unk n) = true then 8 else 0) else rchk n c := by
 unfold gchk rchk
 by_cases h1 : checkI n = 0
 ·by_cases h2 : c.length = n.segs.length
  ·simp [h1, h2]
  ·simp [h1, h2]
 ·simp [h1]
def TRk13 : Tbl := tc 97 (rowPu (selNetW (fun _ => True) fun n => di (checkI n))) T0
theorem TRk13_ok : TblOk Try.prog TRk13 := tc_netw f97_ok (fun n _ nn => rcheck_w n nn) (T0_ok _)
theorem rck13_c (n : Net) (c : List Bool) (hc : c.length ≤ 1000000) (nn : Nm) : CallsA Try.prog 108 [n.enc, .sl (c.map bRow)] Hp.none nn (Pu (di (rchk n c)) Hp.none) := by
 obtain ⟨code, h1, h2⟩ := c108_ok
 refine callsA_of TRk13_ok mixed (N := fun t => (0, t)) Try.func108 h1 h2 r108_ok [] false js_nil js_nil' (by simp [Try.f108]) ?_
 have hn1 := netOf1_x n
 unfold rchk
 cases c1 : (checkI n != 0) with
 | true =>
  have c1' : checkI n ≠ 0 := by simpa using c1
  rw [if_pos c1']
  simp (maxSteps:=500000) only [↓vp, vv, ↓reduceIte, simprocAttr, c108, r108, c108_1, c108_2, r108, TRk13, selNetW, Net.enc, netD, hn1, c1, Pu]
 | false =>
  have c1' : checkI n = 0 := by simpa using c1
  rw [if_neg (by omega)]
  cases c2 : ((c.length : Int) != (n.segs.length : Int)) with
  | true =>
   have c2' : c.length ≠ n.segs.length := fun h => by rw [h] at c2; simp at c2
   rw [if_pos c2']
   simp (maxSteps:=500000) only [↓vp, vv, ↓reduceIte, simprocAttr, c108, r108, c108_1, c108_2, r108, TRk13, selNetW, Net.enc, netD, hn1, c1, c2, Pu]
  | false =>
   have c2' : c.length = n.segs.length := by simp at c2; omega
   rw [if_neg (by omega)]
   simp (maxSteps:=500000) only [↓vp, vv, ↓reduceIte, simprocAttr, c108, r108, c108_1, c108_2, r108, TRk13, selNetW, Net.enc, netD, hn1, c1, c2, Pu]
theorem node_w (n : Net) (k : Int) (nn : Nm) : CallsA Try.prog 109 [n.enc, di k] Hp.none nn (Pu (db (!unk n k)) Hp.none) := by
 obtain ⟨code, h1, h2⟩ := c109_ok
 refine callsA_of (T0_ok _) mixed (N := fun t => (0, t)) Try.func109 h1 h2 r109_ok [] false js_nil js_nil' (by simp [Try.f109]) ?_
 unfold unk
 cases c1 : decide (k < 0) with
 | true =>
  have k1 : decide (0 ≤ k) = false := decide_eq_false (by have := of_decide_eq_true c1; omega)
  have k1' : ¬ 0 ≤ k := of_decide_eq_false k1
  simp (maxSteps:=500000) only [↓vp, vv, ↓reduceIte, simprocAttr, c109, r109, r109, Net.enc, netD, k1, k1', Bool.not_true, Pu]
 | false =>
  have k1 : decide (0 ≤ k) = true := decide_eq_true (by have := of_decide_eq_false c1; omega)
  have k1' : 0 ≤ k := of_decide_eq_true k1
  cases c2 : decide ((n.nodes.length : Int) ≤ k) with
  | true =>
   have k2 : decide (k < (n.nodes.length : Int)) = false := decide_eq_false (by have := of_decide_eq_true c2; omega)
   simp (maxSteps:=500000) only [↓vp, vv, ↓reduceIte, simprocAttr, c109, r109, r109, Net.enc, netD, k1, k1', k2, Bool.not_true, Pu]
  | false =>
   have k2 : decide (k < (n.nodes.length : Int)) = true := decide_eq_true (by have := of_decide_eq_false c2; omega)
   simp (maxSteps:=500000) only [↓vp, vv, ↓reduceIte, simprocAttr, c109, r109, r109, Net.enc, netD, k1, k1', k2, Bool.not_false, Pu]
theorem unk_f {n : Net} {k : Int} (h : unk n k = false) : 0 ≤ k ∧ k < n.nodes.length := by
 unfold unk at h
 split at h
 ·cases h
 ·rename_i h1
  have := of_decide_eq_false h
  simp at h1
  omega
/-! ### ways, reaches -/
def wayA (n : Net) (c : List Bool) (a t : Int) : D := if gchk n c [a, t] = 0 then wayD n c a.toNat t.toNat else .tup [.sl [], di (gchk n c [a, t])]
def reachA (n : Net) (c : List Bool) (k : Int) : D := if gchk n c [k] = 0 then .tup [.sl ((rL n c k.toNat).map nRow), di 0] else .tup [.sl [], di (gchk n c [k])]
theorem gchk_in {n : Net} {c : List Bool} {ks : List Int} (h : gchk n c ks = 0) : RtV n c ∧ ∀ k ∈ ks, 0 ≤ k ∧ k < n.nodes.length := by
 rw [gchk_r] at h
 by_cases h1 : rchk n c = 0
 ·rw [if_pos h1] at h
  refine ⟨rtv_of h1, fun k hk => unk_f ?_⟩
  cases e : unk n k with
  | false => rfl
  | true => rw [if_pos (List.any_eq_true.2 ⟨k, hk, e⟩)] at h; omega
 ·rw [if_neg h1] at h; exact absurd h h1
theorem wayA_c (n : Net) (c : List Bool) (a t : Int) (nn : Nm) : CallsA Try.prog 51 [n.enc, .sl (c.map bRow), di a, di t] Hp.none nn (Pu (wayA n c a t) Hp.none) := by
 unfold wayA
 by_cases h : gchk n c [a, t] = 0
 ·obtain ⟨hv, hk⟩ := gchk_in h
  have ha := hk a (List.mem_cons_self ..)
  have ht := hk t (List.mem_cons_of_mem _ (List.mem_cons_self ..))
  rw [if_pos h]
  have := way_c n c hv a.toNat t.toNat (by omega) (by omega) nn
  rw [show ((a.toNat : Nat) : Int) = a by omega, show ((t.toNat : Nat) : Int) = t by omega] at this
  exact this
 ·rw [if_neg h]
  obtain ⟨code, h1, h2⟩ := c51_ok
  refine callsA_of TWy_ok mixed (N := fun t => (0, t)) Try.func51 h1 h2 r51_ok [] false js_nil js_nil' (by simp [Try.f51]) ?_
  have hg := gOf1_row n c
  unfold gD at hg
  have hks : lsOf intOf1 [[di a], [di t]] = some [a, t] := rfl
  have c0 : (gchk n c [a, t] != 0) = true := by simpa using h
  simp (maxSteps:=500000) only [↓vp, vv, ↓reduceIte, simprocAttr, c51, r51, c51_1, c51_2, c51_3, c51_4, c51_5, c51_6, c51_7, c51_8, TWy, selGk, Net.enc, hg, hks, c0, r51, Pu]
theorem reachA_c (n : Net) (c : List Bool) (k : Int) (nn : Nm) : CallsA Try.prog 53 [n.enc, .sl (c.map bRow), di k] Hp.none nn (Pu (reachA n c k) Hp.none) := by
 unfold reachA
 by_cases h : gchk n c [k] = 0
 ·obtain ⟨hv, hk⟩ := gchk_in h
  have ha := hk k (List.mem_cons_self ..)
  rw [if_pos h]
  have := Reach_c n c hv k.toNat (by omega) nn
  rw [show ((k.toNat : Nat) : Int) = k by omega] at this
  exact this
 ·rw [if_neg h]
  obtain ⟨code, h1, h2⟩ := c53_ok
  refine callsA_of TRch_ok mixed (N := fun t => (0, t)) Try.func53 h1 h2 r53_ok [] false js_nil js_nil' (by simp [Try.f53]) ?_
  have hg := gOf1_row n c
  unfold gD at hg
  have hks : lsOf intOf1 [[di k]] = some [k] := rfl
  have c0 : (gchk n c [k] != 0) = true := by simpa using h
  simp (maxSteps:=500000) only [↓vp, vv, ↓reduceIte, simprocAttr, c53, r53, c53_1, TRch, selGk, Net.enc, hg, hks, c0, r53, Pu]
theorem reachL_rL {n : Net} {c : List Bool} (h : RtV n c) {k : Nat} (hk : k < n.nodes.length) : reachL n c k = rL n c k := by
 unfold reachL rL
 rw [dist_hops h.ok hk]
def ixI (x : Int) : Int → List Int → Int
 | _, [] => -1
 | k, y :: l => if (x == y) = true then k else ixI x (k + 1) l
theorem ixI_any (x : Int) : ∀ (l : List Int) (k : Int), 0 ≤ k → (0 ≤ ixI x k l ↔ l.contains x = true)
 | [], k, h => by simp [ixI]
 | y :: l, k, h => by
  unfold ixI
  rw [List.contains_cons]
  split
  ·rename_i hq; simp [hq, h]
  ·rename_i hq
   rw [ixI_any x l (k + 1) (by omega)]
   simp [hq]
theorem ixI_drop (x : Int) (l : List Int) (k : Nat) (y : Int) (h : l[k]? = some y) : ixI x k (l.drop k) = if (x == y) = true then (k : Int) else ixI x (k + 1 : Nat) (l.drop (k + 1)) := by
 obtain ⟨hk, he⟩ := List.getElem?_eq_some_iff.1 h
 rw [List.drop_eq_getElem_cons hk, he]
 rfl
set_option maxHeartbeats 4000000 in
theorem IndexI_c (l : List Int) (hl : l.length ≤ 1000000) (x : Int) (nn : Nm) : CallsA Try.prog 149 [.sl (l.map iRow), di x] Hp.none nn (Pu (di (ixI x 0 l)) Hp.none) := by
 obtain ⟨code, h1, h2⟩ := c149_ok
 refine callsA_of (T0_ok _) mixed (N := fun t => (0, t)) Try.func149 h1 h2 r149_ok [] false js_nil js_nil' (by simp [Try.f149]) ?_
 simp (maxSteps:=500000) only [↓vp, vv, ↓reduceIte, simprocAttr, c149]
 refine rng_loop l.length (fun j => ⟨fr [(0, .sl (l.map iRow)), (1, di x), (7, di l.length), (8, di (j : Nat))], Hp.none⟩) (fun j => ixI x 0 l = ixI x j (l.drop j)) ?_ rfl (fun j hj hP => ?_) (fun hP => ?_)
 ·exact weak0 (by simp only [↓vp, vv, ↓reduceIte, simprocAttr, coverS]) (by simp only [↓vp, vv, ↓reduceIte, simprocAttr, refsF])
 ·have hj' : (j : Int) < l.length := by omega
  have hjn := idx_nn j
  have w1 := idx_next (j := j) (by omega)
  have hg := iRow_at l j hj
  rw [ixI_drop x l j _ (List.getElem?_eq_getElem hj)] at hP
  generalize l[j] = y at hg hP
  cases hb : (x == y) with
  | true =>
   rw [hb, if_pos rfl] at hP
   simp (maxSteps:=500000) only [↓vp, vv, ↓reduceIte, simprocAttr, c149_3, c149_2, c149_1, r149, hj', hjn, Int.toNat_natCast, hg, hb, hP, Pu]
  | false =>
   rw [hb, if_neg (by simp)] at hP
   simp (maxSteps:=500000) only [↓vp, vv, ↓reduceIte, simprocAttr, c149_3, c149_2, c149_1, hj', hjn, Int.toNat_natCast, hg, hb, w1]
   exact rng_next hj (weak0 (by simp only [↓vp, vv, ↓reduceIte, simprocAttr, coverS, w1]) (by simp only [↓vp, vv, ↓reduceIte, simprocAttr, refsF])) hP
 ·rw [List.drop_of_length_le (Nat.le_refl _)] at hP
  have hP2 : ixI x 0 l = -1 := hP
  simp (maxSteps:=500000) only [↓vp, vv, ↓reduceIte, simprocAttr, c149_3, c149_4, r149, Int.lt_irrefl, hP2, Pu]
def selIx : List D → Option (Prop × D)
 | [.sl rows, .v (.int .i64 x)] => match lsOf intOf1 rows with
  | some l => some (l.length ≤ 1000000, di (ixI x 0 l))
  | _ => Option.none
 | _ => Option.none
theorem ContainsI_c (l : List Int) (hl : l.length ≤ 1000000) (x : Int) (nn : Nm) : CallsA Try.prog 118 [.sl (l.map iRow), di x] Hp.none nn (Pu (db (l.contains x)) Hp.none) := by
 obtain ⟨code, h1, h2⟩ := c118_ok
 have hT : TblOk Try.prog (tc 149 (rowPu selIx) T0) := tc_pu f149_ok (fun args pre d hs hp nn => by
  unfold selIx at hs
  split at hs
  ·split at hs
   ·rename_i e
    cases hs
    rw [lsOf_eq (fun r x => intOf1_eq) e]
    exact IndexI_c _ hp _ nn
   ·cases hs
  ·cases hs) (T0_ok _)
 refine callsA_of hT mixed (N := fun t => (0, t)) Try.func118 h1 h2 r118_ok [] false js_nil js_nil' (by simp [Try.f118]) ?_
 have hi1 : lsOf intOf1 (l.map iRow) = some l := lsOf_map intOf1_row l
 have hv : decide (ixI x 0 l ≥ 0) = l.contains x := by rw [Bool.eq_iff_iff, decide_eq_true_eq]; exact ixI_any x l 0 (Int.le_refl _)
 simp (maxSteps:=500000) only [↓vp, vv, ↓reduceIte, simprocAttr, c118, r118, r118, selIx, hi1, hl, hv, Pu]
def selCn : List D → Option (Prop × D)
 | [.sl rows, .v (.int .i64 x)] => match lsOf intOf1 rows with
  | some l => some (l.length ≤ 1000000, db (l.contains x))
  | _ => Option.none
 | _ => Option.none
theorem tc_cn {f : FuncId} {T : Tbl} (hf : fnOk Try.prog f = true) (h : ∀ (l : List Int), l.length ≤ 1000000 → ∀ x nn, CallsA Try.prog f [.sl (l.map iRow), di x] Hp.none nn (Pu (db (l.contains x)) Hp.none)) (hT : TblOk Try.prog T) : TblOk Try.prog (tc f (rowPu selCn) T) :=
 tc_pu hf (fun args pre d hs hp nn => by
  unfold selCn at hs
  split at hs
  ·split at hs
   ·rename_i e
    cases hs
    rw [lsOf_eq (fun r x => intOf1_eq) e]
    exact h _ hp _ nn
   ·cases hs
  ·cases hs) hT
def hEnds (n : Net) (h : Int × Bool) : Int × Int := match n.segs[h.1.toNat]? with
 | some s => if h.2 = true then (s.to, s.fr) else (s.fr, s.to)
 | Option.none => (0, 0)
def hIn (n : Net) (h : Int × Bool) : Prop := 0 ≤ h.1 ∧ h.1 < n.segs.length
theorem ends_c (n : Net) (h : Int × Bool) (hh : hIn n h) (nn : Nm) : CallsA Try.prog 117 [n.enc, .agg (hRow h)] Hp.none nn (Pu (.tup [di (hEnds n h).1, di (hEnds n h).2]) Hp.none) := by
 obtain ⟨code, h1, h2⟩ := c117_ok
 refine callsA_of (T0_ok _) mixed (N := fun t => (0, t)) Try.func117 h1 h2 r117_ok [] false js_nil js_nil' (by simp [Try.f117]) ?_
 obtain ⟨k, b⟩ := h
 obtain ⟨q1, q2⟩ := hh
 dsimp only at q1 q2
 have hk : k.toNat < n.segs.length := by omega
 have gs := getD_map Seg.row n.segs k.toNat hk
 unfold hEnds
 dsimp only
 rw [List.getElem?_eq_getElem hk]
 generalize n.segs[k.toNat] = s at gs
 cases b <;> simp (maxSteps:=500000) only [↓vp, vv, ↓reduceIte, simprocAttr, c117, r117, c117_1, r117, Net.enc, hRow, q1, q2, gs, Seg.row, Pu]
theorem REnds_c (n : Net) (h : Int × Bool) (hh : hIn n h) (nn : Nm) : CallsA Try.prog 111 [n.enc, .agg (hRow h)] Hp.none nn (Pu (.tup [di (hEnds n h).1, di (hEnds n h).2]) Hp.none) := by
 obtain ⟨code, h1, h2⟩ := c111_ok
 refine callsA_of (T0_ok _) mixed (N := fun t => (0, t)) Try.func111 h1 h2 r111_ok [] false js_nil js_nil' (by simp [Try.f111]) ?_
 obtain ⟨k, b⟩ := h
 obtain ⟨q1, q2⟩ := hh
 dsimp only at q1 q2
 have hk : k.toNat < n.segs.length := by omega
 have gs := getD_map Seg.row n.segs k.toNat hk
 unfold hEnds
 dsimp only
 rw [List.getElem?_eq_getElem hk]
 generalize n.segs[k.toNat] = s at gs
 cases b <;> simp (maxSteps:=500000) only [↓vp, vv, ↓reduceIte, simprocAttr, c111, r111, c111_1, r111, Net.enc, hRow, q1, q2, gs, Seg.row, Pu]
def selEn : List D → Option (Prop × D)
 | [.agg r, .agg [.v (.int .i64 k), .v (.bool b)]] => match netOf1 r with
  | some n => some (hIn n (k, b), .tup [di (hEnds n (k, b)).1, di (hEnds n (k, b)).2])
  | _ => Option.none
 | _ => Option.none
theorem tc_en {f : FuncId} {T : Tbl} (hf : fnOk Try.prog f = true) (h : ∀ n h, hIn n h → ∀ nn, CallsA Try.prog f [n.enc, .agg (hRow h)] Hp.none nn (Pu (.tup [di (hEnds n h).1, di (hEnds n h).2]) Hp.none)) (hT : TblOk Try.prog T) : TblOk Try.prog (tc f (rowPu selEn) T) :=
 tc_pu hf (fun args pre d hs hp nn => by
  unfold selEn at hs
  split at hs
  ·split at hs
   ·rename_i e
    cases hs
    rw [netOf1_eq e]
    exact h _ _ hp nn
   ·cases hs
  ·cases hs) hT
theorem hRow_g (o : List (Int × Bool)) (j : Nat) (h : j < o.length) : (o.map hRow).getD j [] = hRow o[j] := getD_map hRow o j h
def hopOf1 : List D → Option (Int × Bool)
 | [.v (.int .i64 k), .v (.bool b)] => some (k, b)
 | _ => Option.none
theorem hopOf1_row (h : Int × Bool) : hopOf1 (hRow h) = some h := rfl
theorem hopOf1_eq {r : List D} {h : Int × Bool} (e : hopOf1 r = some h) : r = hRow h := by
 unfold hopOf1 at e
 split at e
 ·cases e; rfl
 ·cases e
set_option maxHeartbeats 4000000 in
theorem SameH_c (a b : List (Int × Bool)) (hl : a.length ≤ 1000000 ∧ b.length ≤ 1000000) (nn : Nm) : CallsA Try.prog 57 [.sl (a.map hRow), .sl (b.map hRow)] Hp.none nn (Pu (db (decide (a = b))) Hp.none) := by
 obtain ⟨code, h1, h2⟩ := c57_ok
 refine callsA_of (T0_ok _) mixed (N := fun t => (0, t)) Try.func57 h1 h2 r57_ok [] false js_nil js_nil' (by simp [Try.f57]) ?_
 cases hc : ((a.length : Int) != (b.length : Int)) with
 | true =>
  have hne : decide (a = b) = false := decide_eq_false fun e => by subst e; simp at hc
  simp (maxSteps:=500000) only [↓vp, vv, ↓reduceIte, simprocAttr, c57, r57, hc, hne, Pu]
 | false =>
  have hll : a.length = b.length := by simp at hc; omega
  simp (maxSteps:=500000) only [↓vp, vv, ↓reduceIte, simprocAttr, c57, c57_5, hc]
  refine rng_loop a.length (fun j => ⟨fr [(0, .sl (a.map hRow)), (1, .sl (b.map hRow)), (12, di a.length), (13, di (j : Nat))], Hp.none⟩) (fun j => a.take j = b.take j) ?_ rfl (fun j hj hP => ?_) (fun hP => ?_)
  ·exact weak0 (by simp only [↓vp, vv, ↓reduceIte, simprocAttr, coverS]) (by simp only [↓vp, vv, ↓reduceIte, simprocAttr, refsF])
  ·have hj' : (j : Int) < a.length := by omega
   have hjb : j < b.length := by omega
   have hjb' : (j : Int) < b.length := by omega
   have hjn := idx_nn j
   have w1 := idx_next (j := j) (by omega)
   have ga := hRow_g a j hj
   have gb := hRow_g b j hjb
   have ta := List.take_append_getElem hj
   have tb := List.take_append_getElem hjb
   have ne : a[j] ≠ b[j] → decide (a = b) = false := fun hn => decide_eq_false fun e => hn (by subst e; rfl)
   generalize a[j] = x at ga ta ne
   generalize b[j] = y at gb tb ne
   obtain ⟨x1, x2⟩ := x
   obtain ⟨y1, y2⟩ := y
   have hlen : ∀ h : Int × Bool, (hRow h).length = 2 := fun _ => rfl
   cases hb1 : (x1 == y1) with
   | false =>
    have := ne (fun e => by cases e; simp at hb1)
    simp (maxSteps:=500000) only [↓vp, vv, ↓reduceIte, simprocAttr, c57_3, c57_2, c57_1, r57, hj', hjb', hjn, Int.toNat_natCast, ga, gb, hlen, hRow, eqL, eqOne, hb1, this, Pu]
   | true =>
    cases hb2 : (x2 == y2) with
    | false =>
     have := ne (fun e => by cases e; simp at hb2)
     simp (maxSteps:=500000) only [↓vp, vv, ↓reduceIte, simprocAttr, c57_3, c57_2, c57_1, r57, hj', hjb', hjn, Int.toNat_natCast, ga, gb, hlen, hRow, eqL, eqOne, hb1, hb2, this, Pu]
    | true =>
     have e1 : x1 = y1 := by simpa using hb1
     have e2 : x2 = y2 := by simpa using hb2
     have hP2 : a.take (j + 1) = b.take (j + 1) := by rw [← ta, ← tb, hP, e1, e2]
     simp (maxSteps:=500000) only [↓vp, vv, ↓reduceIte, simprocAttr, c57_3, c57_2, c57_1, hj', hjb', hjn, Int.toNat_natCast, ga, gb, hlen, hRow, eqL, eqOne, hb1, hb2, w1]
     exact rng_next hj (weak0 (by simp only [↓vp, vv, ↓reduceIte, simprocAttr, coverS, w1]) (by simp only [↓vp, vv, ↓reduceIte, simprocAttr, refsF])) hP2
  ·have hd : decide (a = b) = true := decide_eq_true (by rw [List.take_length, hll, List.take_length] at hP; exact hP)
   simp (maxSteps:=500000) only [↓vp, vv, ↓reduceIte, simprocAttr, c57_3, c57_4, r57, Int.lt_irrefl, hd, Pu]
def hCap (n : Net) (h : Int × Bool) : Int := match n.segs[h.1.toNat]? with
 | some s => s.cap
 | Option.none => 0
def lenGo (n : Net) : Nat → List (Int × Bool) → List Int → Int → Int × Int
 | _, [], _, s => (s, 0)
 | j, h :: l, vis, s =>
  if ((if j = 0 then vis ++ [(hEnds n h).1] else vis).getD j 0 != (hEnds n h).1) = true then (0, 11)
  else if (if j = 0 then vis ++ [(hEnds n h).1] else vis).contains (hEnds n h).2 = true then (0, 11)
  else lenGo n (j + 1) l ((if j = 0 then vis ++ [(hEnds n h).1] else vis) ++ [(hEnds n h).2]) (s + hCap n h)
def unkH (n : Net) (h : Int × Bool) : Bool := if decide (h.1 < 0) = true then true else decide ((n.segs.length : Int) ≤ h.1)
def lenR (n : Net) (w : List (Int × Bool)) : Int × Int := if checkI n ≠ 0 then (0, checkI n) else if w.any (unkH n) = true then (0, 8) else lenGo n 0 w [] 0
theorem lk1_c (n : Net) (h : Int × Bool) (nn : Nm) : CallsA Try.prog 116 [.agg (hRow h), .ip (netD n)] Hp.none nn (Pu (db (unkH n h)) Hp.none) := by
 obtain ⟨code, h1, h2⟩ := c116_ok
 refine callsA_of (T0_ok _) mixed (N := fun t => (0, t)) Try.func116 h1 h2 r116_ok [] false js_nil js_nil' (by simp [Try.f116]) ?_
 obtain ⟨k, b⟩ := h
 cases a1 : decide (k < 0) <;> simp (maxSteps:=500000) only [↓vp, vv, ↓reduceIte, simprocAttr, c116, r116, r116, netD, hRow, a1, unkH, Pu]
def TLn (P : Program) (n : Net) : Tbl := tc 117 (rowPu selEn) (tc 118 (rowPu selCn) (tc 115 (rowPu (selQ P true 2 (fun g l => qRow hopOf1 (unkH n)) outC)) (tc 95 (rowPu (selNetW (fun _ => True) fun n => di (checkI n))) T0)))
theorem TLn_ok (n : Net) : TblOk Try.prog (TLn Try.prog n) := by
 refine tc_en f117_ok ends_c (tc_cn f118_ok ContainsI_c (tc_pu f115_ok (fun args pre d h hp nn => ?_) (tc_netw f95_ok (fun n _ nn => check_w n nn) (T0_ok _))))
 unfold selQ at h
 split at h
 ·split at h
  ·rename_i hi
   cases h
   rw [ipsOf_eq hi]
   exact hasF_H _ _ _ _ hp nn
  ·cases h
 ·cases h
def LnF (n : Net) (w : List (Int × Bool)) (vis : List Int) (s : Int) (g : Nat) (l : List (Nat × D)) : List (Nat × D) := (2, .ip (netD n)) :: (7, di s) :: (8, .own (0, 1000) g 0 vis.length) :: (21, .sl (w.map hRow)) :: (22, di w.length) :: l
def LnH (vis : List Int) (g : Nat) : Hp := Hp.none.put (0, 1000) ⟨g, 1, vis.map iRow⟩
def LnI (n : Net) (w : List (Int × Bool)) : Nat → St → Prop := fun k st => ∃ j vis s g, j + k = w.length ∧ vis.length = (if j = 0 then 0 else j + 1) ∧ (0 ≤ s ∧ s ≤ (j : Int) * 1000000) ∧ lenGo n j (w.drop j) vis s = lenGo n 0 w [] 0 ∧ st = ⟨fr (LnF n w vis s g [(23, di (j : Nat))]), LnH vis g⟩
set_option maxHeartbeats 16000000 in
def LnG (h : Int × Bool) (vis : List Int) (g : Nat) : Hp := (LnH vis g).put (0, 10) ⟨0, 2, [hRow h]⟩
def LnR (n : Net) (w : List (Int × Bool)) : Ex → St → Prop := finQ r59 [] false (Pu (.tup [di (lenGo n 0 w [] 0).1, di (lenGo n 0 w [] 0).2]) Hp.none)
def LnL (n : Net) (w : List (Int × Bool)) (k : Nat) : Ex → St → Prop := loopQ [] (LnI n w) k (blockQ 0 (thenQ (vc (TLn Try.prog n) (fun t => (0, t)) [] c59_6 (LnR n w)) (LnR n w)))
def LnQ (n : Net) (w : List (Int × Bool)) (k : Nat) : Ex → St → Prop := blockQ 1 (thenQ (vc (TLn Try.prog n) (fun t => (0, t)) [] c59_3 (LnL n w k)) (LnL n w k))
theorem ln_2 (n : Net) (w : List (Int × Bool)) (hw : w.length ≤ 1000) (k j : Nat) (hjk : j + k = w.length) (hj : j < w.length) (h : Int × Bool) (hin : hIn n h) (sg : Seg) (gs : (n.segs.map Seg.row).getD h.1.toNat [] = sg.row) (hcap : 1 ≤ sg.cap ∧ sg.cap ≤ 1000000) (e1 e2 s : Int) (hs : 0 ≤ s ∧ s ≤ (j : Int) * 1000000) (v1 : List Int) (g1 : Nat) (hl : v1.length = j + 1)
  (hgo : (if (v1.getD j 0 != e1) = true then ((0, 11) : Int × Int) else if v1.contains e2 = true then (0, 11) else lenGo n (j + 1) (w.drop (j + 1)) (v1 ++ [e2]) (s + sg.cap)) = lenGo n 0 w [] 0) (F : Fr) (H : Hp)
  (hwk : Weak [] ⟨F, H⟩ ⟨fr (LnF n w v1 s g1 [(9, di j), (10, .ptr (0, 10) 0 0 0), (11, di e1), (12, di e2), (23, di j)]), LnG h v1 g1⟩) : vc (TLn Try.prog n) (fun t => (0, t)) [] (.weak c59_2) (LnQ n w k) ⟨F, H⟩ := by
 refine vc_wk hwk ?_
 have hj' : (j : Int) < v1.length := by omega
 have hjl : j < v1.length := by omega
 have hjn := idx_nn j
 have gv := iRow_dd v1 j hjl
 have hi1 : lsOf intOf1 (v1.map iRow) = some v1 := lsOf_map intOf1_row v1
 have hv1 : v1.length ≤ 1000000 := by omega
 have tk : (v1.map iRow).take v1.length = v1.map iRow := List.take_of_length_le (by simp)
 have w1 := idx_next (j := j) (by omega)
 cases c1 : (v1.getD j 0 != e1) with
 | true =>
  rw [c1, if_pos rfl] at hgo
  unfold LnQ LnL LnR
  rw [← hgo]
  simp (maxSteps:=500000) only [↓vp, vv, ↓reduceIte, simprocAttr, c59_2, TLn, LnF, LnG, LnH, netD, hj', hjl, hjn, Int.toNat_natCast, gv, c1, r59, Pu]
 | false =>
  rw [c1, if_neg (by simp)] at hgo
  cases c2 : v1.contains e2 with
  | true =>
   rw [c2, if_pos rfl] at hgo
   unfold LnQ LnL LnR
   rw [← hgo]
   simp (maxSteps:=500000) only [↓vp, vv, ↓reduceIte, simprocAttr, c59_2, TLn, selCn, LnF, LnG, LnH, netD, hj', hjl, hjn, Int.toNat_natCast, gv, c1, c2, hi1, hv1, tk, r59, Pu]
   exact fun x _ d hd => by rw [List.mem_singleton.1 hd]; rfl
  | false =>
   rw [c2, if_neg (by simp)] at hgo
   have q1 := hin.1
   have q2 := hin.2
   have wc : IntKind.i64.wrap (s + sg.cap) = s + sg.cap := wrap_i (by omega)
   have y1 : (v1.length + 1) * 8 ≤ 140737488355328 := by omega
   have y2 : v1.length + 1 ≤ 4611686018427387904 := by omega
   unfold LnQ LnL
   simp (maxSteps:=500000) only [↓vp, vv, ↓reduceIte, simprocAttr, c59_2, c59_1, c59_3, TLn, selCn, LnF, LnG, LnH, netD, hj', hjl, hjn, Int.toNat_natCast, gv, c1, c2, hi1, hv1, tk, q1, q2, gs, Seg.row, hRow, wc, y1, y2, w1]
   refine ⟨fun x _ d hd => by rw [List.mem_singleton.1 hd]; rfl, ?_⟩
   exact ⟨k - 1, _, by omega, (weak_eqA [] [(0, 1000)] (LnF n w (v1 ++ [e2]) (s + sg.cap) (g1 + 1) [(23, di (j + 1 : Nat))]) (by refine ⟨?_, ?_, ?_, by simp, ?_⟩ <;> (simp only [↓vp, vv, ↓reduceIte, simprocAttr, coverS, refsF, LnF, LnG, LnH, netD, iRow, w1, List.map_append, List.length_append, List.length_cons, List.length_nil] <;> try rfl))), j + 1, v1 ++ [e2], s + sg.cap, g1 + 1, by omega, by rw [List.length_append, hl]; rfl, by omega, hgo, rfl⟩
theorem Length_w (n : Net) (w : List (Int × Bool)) (hw : w.length ≤ 1000) (nn : Nm) : CallsA Try.prog 59 [n.enc, .sl (w.map hRow)] Hp.none nn (Pu (.tup [di (lenR n w).1, di (lenR n w).2]) Hp.none) := by
 obtain ⟨code, h1, h2⟩ := c59_ok
 refine callsA_of (TLn_ok n) mixed (N := fun t => (0, t)) Try.func59 h1 h2 r59_ok [] false js_nil js_nil' (by simp [Try.f59]) ?_
 have hn1 := netOf1_x n
 have hq : QOk Try.prog true 2 (qRow hopOf1 (unkH n)) 116 [netD n] (w.map hRow) := by
  refine ⟨f116_ok, by rw [List.length_map]; omega, fun r hr => ?_⟩
  obtain ⟨x, _, rfl⟩ := List.mem_map.1 hr
  exact ⟨rfl, rfl, fun h => Bool.noConfusion h, fun nn => lk1_c n x nn⟩
 have ho : outC (fun r => qRow hopOf1 (unkH n) (elV true r)) (w.map hRow) = db (w.any (unkH n)) := by
  unfold outC
  rw [List.any_map]
  rfl
 unfold lenR
 cases c1 : (checkI n != 0) with
 | true =>
  have e1 : checkI n ≠ 0 := by simpa using c1
  rw [if_pos e1]
  simp (maxSteps:=500000) only [↓vp, vv, ↓reduceIte, simprocAttr, c59, r59, TLn, selNetW, Net.enc, hn1, c1, Pu]
 | false =>
  have e1 : checkI n = 0 := by simpa using c1
  rw [if_neg (by omega)]
  rw [e1] at c1
  have hv := check0 e1
  simp (maxSteps:=500000) only [↓vp, vv, ↓reduceIte, simprocAttr, c59, TLn, selNetW, Net.enc, hn1, c1, e1]
  refine vc_wk ((weak_ip 2 (0, 2) 0 6 (netD n) (by simp only [↓vp, vv, ↓reduceIte, simprocAttr, ]) (by simp only [↓vp, vv, ↓reduceIte, simprocAttr, netD]) (by simp only [↓vp, vv, ↓reduceIte, simprocAttr, netD]) (by simp)).trans (weak_eq [] [] [(1, .sl (w.map hRow)), (2, .ip (netD n))] (by simp only [↓vp, vv, ↓reduceIte, simprocAttr, coverS]) (by simp only [↓vp, vv, ↓reduceIte, simprocAttr, refsF]) (by simp only [↓vp, vv, ↓reduceIte, simprocAttr, ]) (by simp) (by simp only [↓vp, vv, ↓reduceIte, simprocAttr, ]; try rfl))) ?_
  cases c2 : w.any (unkH n) with
  | true =>
   rw [c2] at ho
   simp (maxSteps:=500000) only [↓vp, vv, ↓reduceIte, simprocAttr, c59_8, TLn, selQ, ipsOf, hq, ho, r59, Pu]
  | false =>
   rw [c2] at ho
   simp (maxSteps:=500000) only [↓vp, vv, ↓reduceIte, simprocAttr, c59_8, c59_7, TLn, selQ, ipsOf, hq, ho]
   rw [vc_loop]
   refine ⟨LnI n w, ⟨w.length, _, (weak_own 8 (0, 1000) 1 (by simp only [↓vp, vv, ↓reduceIte, simprocAttr, ]) (by simp only [↓vp, vv, ↓reduceIte, simprocAttr, ])).trans (weak_eqA [] [(0, 1000)] (LnF n w [] 0 0 [(23, di 0)]) (by refine ⟨?_, ?_, ?_, by simp, ?_⟩ <;> (simp only [↓vp, vv, ↓reduceIte, simprocAttr, coverS, refsF, LnF, LnH, iRow] <;> try rfl))), 0, [], 0, 0, by omega, rfl, by omega, rfl, rfl⟩, ?_⟩
   rintro k st ⟨j, vis, s, g, hjk, hvl, hs, hgo, rfl⟩
   have hjn := idx_nn j
   by_cases hj : j < w.length
   ·have hj' : (j : Int) < w.length := by omega
    have w1 := idx_next (j := j) (by omega)
    have hgw := hRow_g w j hj
    have hlen : ∀ h : Int × Bool, (hRow h).length = 2 := fun _ => rfl
    have hu : unkH n w[j] = false := by
     cases e : unkH n w[j] with
     | false => rfl
     | true => rw [List.any_eq_true.2 ⟨w[j], List.getElem_mem hj, e⟩] at c2; cases c2
    rw [List.drop_eq_getElem_cons hj] at hgo
    generalize w[j] = h at hgw hu hgo
    have hin : hIn n h := by
     unfold unkH at hu
     split at hu
     ·cases hu
     ·rename_i q; simp at q hu; exact ⟨by omega, by omega⟩
    obtain ⟨q1, q2⟩ := hin
    have q2' : h.1.toNat < n.segs.length := by omega
    have gs := getD_map Seg.row n.segs h.1.toNat q2'
    have hcp : hCap n h = n.segs[h.1.toNat].cap := by unfold hCap; rw [List.getElem?_eq_getElem q2']
    have hse := (hv.se _ (List.getElem_mem q2')).2.2.2
    have hin : hIn n h := ⟨q1, q2⟩
    generalize hT : lenGo n 0 w [] 0 = T at hgo
    unfold lenGo at hgo
    rw [hcp] at hgo
    subst hT
    generalize n.segs[h.1.toNat] = sg at gs hgo hse
    generalize hee : hEnds n h = ee at hgo
    have hsel : selEn [.agg (netD n), .agg (hRow h)] = some (hIn n h, .tup [di (hEnds n h).1, di (hEnds n h).2]) := by
     unfold selEn hRow netD
     simp only [hn1]
    rw [hee] at hsel
    unfold netD at hsel
    obtain ⟨hk1, hb1⟩ := h
    unfold hRow at hsel
    have hj0' : (0 : Int) < w.length := by omega
    rcases Nat.eq_zero_or_pos j with rfl | hp
    ·obtain rfl : vis = [] := List.length_eq_zero_iff.1 (by simpa using hvl)
     have y1 : (0 + 1) * 8 ≤ 140737488355328 := by omega
     have y2 : 0 + 1 ≤ 4611686018427387904 := by omega
     have b0 : (((0 : Nat) : Int) == 0) = true := rfl
     simp (maxSteps:=500000) only [↓vp, vv, ↓reduceIte, simprocAttr, c59_5, c59_4, TLn, LnF, LnH, netD, hj0', hgw, hRow, hsel, hin, b0, y1, y2]
     refine ln_2 n w hw k 0 hjk hj (hk1, hb1) hin sg gs ⟨hse.1, hse.2⟩ ee.1 ee.2 s hs [ee.1] (g + 1) rfl ?_ _ _ ?_
     ·exact hgo
     ·exact (weak_eqA [] [(0, 10), (0, 1000)] (LnF n w [ee.1] s (g + 1) [(9, di 0), (10, .ptr (0, 10) 0 0 0), (11, di ee.1), (12, di ee.2), (23, di 0)]) (by refine ⟨?_, ?_, ?_, by simp, ?_⟩ <;> (simp only [↓vp, vv, ↓reduceIte, simprocAttr, coverS, refsF, LnF, LnG, LnH, netD, iRow, hRow] <;> try rfl)))
    ·have b0 : ((j : Int) == 0) = false := by rw [beq_eq_false_iff_ne]; omega
     have hj0 : ¬ j = 0 := by omega
     rw [if_neg hj0] at hvl
     simp only [if_neg hj0] at hgo
     simp (maxSteps:=500000) only [↓vp, vv, ↓reduceIte, simprocAttr, c59_5, c59_4, TLn, LnF, LnH, netD, hj', hjn, Int.toNat_natCast, hgw, hRow, hsel, hin, b0]
     refine ln_2 n w hw k j hjk hj (hk1, hb1) hin sg gs ⟨hse.1, hse.2⟩ ee.1 ee.2 s hs vis g hvl ?_ _ _ ?_
     ·exact hgo
     ·exact (weak_eqA [] [(0, 10), (0, 1000)] (LnF n w vis s g [(9, di j), (10, .ptr (0, 10) 0 0 0), (11, di ee.1), (12, di ee.2), (23, di j)]) (by refine ⟨?_, ?_, ?_, by simp, ?_⟩ <;> (simp only [↓vp, vv, ↓reduceIte, simprocAttr, coverS, refsF, LnF, LnG, LnH, netD, iRow, hRow] <;> try rfl)))
   ·obtain rfl : j = w.length := by omega
    rw [List.drop_length] at hgo
    have e2 : lenGo n 0 w [] 0 = (s, 0) := hgo.symm
    rw [e2]
    simp (maxSteps:=500000) only [↓vp, vv, ↓reduceIte, simprocAttr, c59_5, c59_6, r59, LnF, LnH, Int.lt_irrefl, Pu]
theorem Length_c (n : Net) (hz : NetSz n) (w : List (Int × Bool)) (hw : w.length ≤ 1000) (nn : Nm) : CallsA Try.prog 59 [n.enc, .sl (w.map hRow)] Hp.none nn (Pu (.tup [di (lenR n w).1, di (lenR n w).2]) Hp.none) := Length_w n w hw nn
end Go.Proofs.Ytadjhfjiimgddaa
