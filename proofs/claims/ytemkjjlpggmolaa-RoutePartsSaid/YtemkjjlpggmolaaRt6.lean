
/- Ways through a network: searches, ends of hops, the length of a way. -/
import Derived.Test.YtemkjjlpggmolaaRt5
namespace Go.Proofs.Ytemkjjlpggmolaa
open Go
set_option linter.unusedVariables false
set_option linter.unusedSimpArgs false
set_option maxRecDepth 100000

def ixI (x : Int) : Int → List Int → Int
  | _, [] => -1
  | k, y :: l => if (x == y) = true then k else ixI x (k + 1) l
theorem ixI_any (x : Int) : ∀ (l : List Int) (k : Int), 0 ≤ k → (0 ≤ ixI x k l ↔ l.contains x = true)
  | [], k, h => by simp [ixI]
  | y :: l, k, h => by
    unfold ixI
    rw [List.contains_cons]
    split
    · rename_i hq; simp [hq, h]
    · rename_i hq
      rw [ixI_any x l (k + 1) (by omega)]
      simp [hq]
theorem ixI_drop (x : Int) (l : List Int) (k : Nat) (y : Int) (h : l[k]? = some y) : ixI x k (l.drop k) = if (x == y) = true then (k : Int) else ixI x (k + 1 : Nat) (l.drop (k + 1)) := by
  obtain ⟨hk, he⟩ := List.getElem?_eq_some_iff.1 h
  rw [List.drop_eq_getElem_cons hk, he]
  rfl
set_option maxHeartbeats 4000000 in
theorem IndexI_c (l : List Int) (hl : l.length ≤ 1000000) (x : Int) (nn : Nm) : CallsA Try.prog 159 [.sl (l.map iRow), di x] Hp.none nn (Pu (di (ixI x 0 l)) Hp.none) := by
  obtain ⟨code, h1, h2⟩ := c159_ok
  refine callsA_of (T0_ok _) mixed (N := fun t => (0, t)) Try.func159 h1 h2 r159_ok [] false js_nil js_nil' (by simp [Try.f159]) ?_
  simp (config := { maxSteps := 500000 }) only [↓vp, vv, implies_true, forall_const, undef, InI, ↓reduceIte, simprocAttr, c159]
  refine rng_loop l.length (fun j => ⟨fr [(0, .sl (l.map iRow)), (1, di x), (7, di l.length), (8, di (j : Nat))], Hp.none⟩) (fun j => ixI x 0 l = ixI x j (l.drop j)) ?_ rfl (fun j hj hP => ?_) (fun hP => ?_)
  · exact weak0 (by simp (config := { maxSteps := 500000 }) only [↓vp, vv, implies_true, forall_const, undef, InI, ↓reduceIte, simprocAttr, coverS]) (by simp (config := { maxSteps := 500000 }) only [↓vp, vv, implies_true, forall_const, undef, InI, ↓reduceIte, simprocAttr, refsF])
  · have hj' : (j : Int) < l.length := by omega
    have hjn := idx_nn j
    have w1 := idx_next (j := j) (by omega)
    have hg := iRow_at l j hj
    rw [ixI_drop x l j _ (List.getElem?_eq_getElem hj)] at hP
    generalize l[j] = y at hg hP
    cases hb : (x == y) with
    | true =>
      rw [hb, if_pos rfl] at hP
      simp (config := { maxSteps := 500000 }) only [↓vp, vv, implies_true, forall_const, undef, InI, ↓reduceIte, simprocAttr, c159_3, c159_2, c159_1, r159, hj', hjn, Int.toNat_natCast, hg, hb, hP, Pu]
    | false =>
      rw [hb, if_neg (by simp)] at hP
      simp (config := { maxSteps := 500000 }) only [↓vp, vv, implies_true, forall_const, undef, InI, ↓reduceIte, simprocAttr, c159_3, c159_2, c159_1, hj', hjn, Int.toNat_natCast, hg, hb, w1]
      exact rng_next hj (weak0 (by simp (config := { maxSteps := 500000 }) only [↓vp, vv, implies_true, forall_const, undef, InI, ↓reduceIte, simprocAttr, coverS, w1]) (by simp (config := { maxSteps := 500000 }) only [↓vp, vv, implies_true, forall_const, undef, InI, ↓reduceIte, simprocAttr, refsF])) hP
  · rw [List.drop_of_length_le (Nat.le_refl _)] at hP
    have hP2 : ixI x 0 l = -1 := hP
    simp (config := { maxSteps := 500000 }) only [↓vp, vv, implies_true, forall_const, undef, InI, ↓reduceIte, simprocAttr, c159_3, c159_4, r159, Int.lt_irrefl, hP2, Pu]
def selIx : List D → Option (Prop × D)
  | [.sl rows, .v (.int .i64 x)] => match lsOf intOf1 rows with
    | some l => some (l.length ≤ 1000000, di (ixI x 0 l))
    | _ => Option.none
  | _ => Option.none
theorem ContainsI_c (l : List Int) (hl : l.length ≤ 1000000) (x : Int) (nn : Nm) : CallsA Try.prog 129 [.sl (l.map iRow), di x] Hp.none nn (Pu (db (l.contains x)) Hp.none) := by
  obtain ⟨code, h1, h2⟩ := c129_ok
  have hT : TblOk Try.prog (tc 159 (rowPu selIx) T0) := tc_pu f159_ok (fun args pre d hs hp nn => by
    unfold selIx at hs
    split at hs
    · split at hs
      · rename_i e
        cases hs
        rw [lsOf_eq (fun r x => intOf1_eq) e]
        exact IndexI_c _ hp _ nn
      · cases hs
    · cases hs) (T0_ok _)
  refine callsA_of hT mixed (N := fun t => (0, t)) Try.func129 h1 h2 r129_ok [] false js_nil js_nil' (by simp [Try.f129]) ?_
  have hi1 : lsOf intOf1 (l.map iRow) = some l := lsOf_map intOf1_row l
  have hv : decide (ixI x 0 l ≥ 0) = l.contains x := by rw [Bool.eq_iff_iff, decide_eq_true_eq]; exact ixI_any x l 0 (Int.le_refl _)
  simp (config := { maxSteps := 500000 }) only [↓vp, vv, implies_true, forall_const, undef, InI, ↓reduceIte, simprocAttr, c129, r129, r129, selIx, hi1, hl, hv, Pu]
def selCn : List D → Option (Prop × D)
  | [.sl rows, .v (.int .i64 x)] => match lsOf intOf1 rows with
    | some l => some (l.length ≤ 1000000, db (l.contains x))
    | _ => Option.none
  | _ => Option.none
theorem tc_cn {f : FuncId} {T : Tbl} (hf : fnOk Try.prog f = true) (h : ∀ (l : List Int), l.length ≤ 1000000 → ∀ x nn, CallsA Try.prog f [.sl (l.map iRow), di x] Hp.none nn (Pu (db (l.contains x)) Hp.none)) (hT : TblOk Try.prog T) : TblOk Try.prog (tc f (rowPu selCn) T) :=
  tc_pu hf (fun args pre d hs hp nn => by
    unfold selCn at hs
    split at hs
    · split at hs
      · rename_i e
        cases hs
        rw [lsOf_eq (fun r x => intOf1_eq) e]
        exact h _ hp _ nn
      · cases hs
    · cases hs) hT
set_option maxHeartbeats 4000000 in
theorem In_c (l : List Int) (hl : l.length ≤ 1000000) (x : Int) (nn : Nm) : CallsA Try.prog 63 [.sl (l.map iRow), di x] Hp.none nn (Pu (db (l.contains x)) Hp.none) := by
  obtain ⟨code, h1, h2⟩ := c63_ok
  refine callsA_of (T0_ok _) mixed (N := fun t => (0, t)) Try.func63 h1 h2 r63_ok [] false js_nil js_nil' (by simp [Try.f63]) ?_
  have hv : l.contains x = decide (0 ≤ ixI x 0 l) := by rw [Bool.eq_iff_iff, decide_eq_true_eq]; exact (ixI_any x l 0 (Int.le_refl _)).symm
  rw [hv]
  simp (config := { maxSteps := 500000 }) only [↓vp, vv, implies_true, forall_const, undef, InI, ↓reduceIte, simprocAttr, c63]
  refine rng_loop l.length (fun j => ⟨fr [(0, .sl (l.map iRow)), (1, di x), (7, di l.length), (8, di (j : Nat))], Hp.none⟩) (fun j => ixI x 0 l = ixI x j (l.drop j)) ?_ rfl (fun j hj hP => ?_) (fun hP => ?_)
  · exact weak0 (by simp (config := { maxSteps := 500000 }) only [↓vp, vv, implies_true, forall_const, undef, InI, ↓reduceIte, simprocAttr, coverS]) (by simp (config := { maxSteps := 500000 }) only [↓vp, vv, implies_true, forall_const, undef, InI, ↓reduceIte, simprocAttr, refsF])
  · have hj' : (j : Int) < l.length := by omega
    have hjn := idx_nn j
    have w1 := idx_next (j := j) (by omega)
    have hg := iRow_at l j hj
    rw [ixI_drop x l j _ (List.getElem?_eq_getElem hj)] at hP
    generalize l[j] = y at hg hP
    have hsy : (y == x) = (x == y) := by rw [Bool.eq_iff_iff, beq_iff_eq, beq_iff_eq]; exact eq_comm
    cases hb : (x == y) with
    | true =>
      rw [hb, if_pos rfl] at hP
      rw [hb] at hsy
      have hd : decide (0 ≤ ixI x 0 l) = true := decide_eq_true (by omega)
      simp (config := { maxSteps := 500000 }) only [↓vp, vv, implies_true, forall_const, undef, InI, ↓reduceIte, simprocAttr, c63_3, c63_2, c63_1, r63, hj', hjn, Int.toNat_natCast, hg, hsy, hd, Pu]
    | false =>
      rw [hb, if_neg (by simp)] at hP
      rw [hb] at hsy
      simp (config := { maxSteps := 500000 }) only [↓vp, vv, implies_true, forall_const, undef, InI, ↓reduceIte, simprocAttr, c63_3, c63_2, c63_1, hj', hjn, Int.toNat_natCast, hg, hsy, w1]
      exact rng_next hj (weak0 (by simp (config := { maxSteps := 500000 }) only [↓vp, vv, implies_true, forall_const, undef, InI, ↓reduceIte, simprocAttr, coverS, w1]) (by simp (config := { maxSteps := 500000 }) only [↓vp, vv, implies_true, forall_const, undef, InI, ↓reduceIte, simprocAttr, refsF])) hP
  · rw [List.drop_of_length_le (Nat.le_refl _)] at hP
    have hP2 : ixI x 0 l = -1 := hP
    have hd : decide (0 ≤ ixI x 0 l) = false := decide_eq_false (by omega)
    simp (config := { maxSteps := 500000 }) only [↓vp, vv, implies_true, forall_const, undef, InI, ↓reduceIte, simprocAttr, c63_3, c63_4, r63, Int.lt_irrefl, hd, Pu]
/-- Where a hop begins and ends. -/
def hEnds (n : Net) (h : Int × Bool) : Int × Int := match n.segs[h.1.toNat]? with
  | some s => if h.2 = true then (s.to, s.fr) else (s.fr, s.to)
  | Option.none => (0, 0)
def hIn (n : Net) (h : Int × Bool) : Prop := 0 ≤ h.1 ∧ h.1 < n.segs.length
theorem ends_c (n : Net) (h : Int × Bool) (hh : hIn n h) (nn : Nm) : CallsA Try.prog 128 [n.enc, .agg (hRow h)] Hp.none nn (Pu (.tup [di (hEnds n h).1, di (hEnds n h).2]) Hp.none) := by
  obtain ⟨code, h1, h2⟩ := c128_ok
  refine callsA_of (T0_ok _) mixed (N := fun t => (0, t)) Try.func128 h1 h2 r128_ok [] false js_nil js_nil' (by simp [Try.f128]) ?_
  obtain ⟨k, b⟩ := h
  obtain ⟨q1, q2⟩ := hh
  dsimp only at q1 q2
  have hk : k.toNat < n.segs.length := by omega
  have gs := getD_map Seg.row n.segs k.toNat hk
  unfold hEnds
  dsimp only
  rw [List.getElem?_eq_getElem hk]
  generalize n.segs[k.toNat] = s at gs
  cases b <;> simp (config := { maxSteps := 500000 }) only [↓vp, vv, implies_true, forall_const, undef, InI, ↓reduceIte, simprocAttr, c128, r128, c128_1, r128, Net.enc, hRow, q1, q2, gs, Seg.row, Pu]
theorem REnds_c (n : Net) (h : Int × Bool) (hh : hIn n h) (nn : Nm) : CallsA Try.prog 64 [n.enc, .agg (hRow h)] Hp.none nn (Pu (.tup [di (hEnds n h).1, di (hEnds n h).2]) Hp.none) := by
  obtain ⟨code, h1, h2⟩ := c64_ok
  refine callsA_of (T0_ok _) mixed (N := fun t => (0, t)) Try.func64 h1 h2 r64_ok [] false js_nil js_nil' (by simp [Try.f64]) ?_
  obtain ⟨k, b⟩ := h
  obtain ⟨q1, q2⟩ := hh
  dsimp only at q1 q2
  have hk : k.toNat < n.segs.length := by omega
  have gs := getD_map Seg.row n.segs k.toNat hk
  unfold hEnds
  dsimp only
  rw [List.getElem?_eq_getElem hk]
  generalize n.segs[k.toNat] = s at gs
  cases b <;> simp (config := { maxSteps := 500000 }) only [↓vp, vv, implies_true, forall_const, undef, InI, ↓reduceIte, simprocAttr, c64, r64, c64_1, r64, Net.enc, hRow, q1, q2, gs, Seg.row, Pu]
def selEn : List D → Option (Prop × D)
  | [.agg r, .agg [.v (.int .i64 k), .v (.bool b)]] => match netOf1 r with
    | some n => some (hIn n (k, b), .tup [di (hEnds n (k, b)).1, di (hEnds n (k, b)).2])
    | _ => Option.none
  | _ => Option.none
theorem tc_en {f : FuncId} {T : Tbl} (hf : fnOk Try.prog f = true) (h : ∀ n h, hIn n h → ∀ nn, CallsA Try.prog f [n.enc, .agg (hRow h)] Hp.none nn (Pu (.tup [di (hEnds n h).1, di (hEnds n h).2]) Hp.none)) (hT : TblOk Try.prog T) : TblOk Try.prog (tc f (rowPu selEn) T) :=
  tc_pu hf (fun args pre d hs hp nn => by
    unfold selEn at hs
    split at hs
    · split at hs
      · rename_i e
        cases hs
        rw [netOf1_eq e]
        exact h _ _ hp nn
      · cases hs
    · cases hs) hT
theorem hRow_g (o : List (Int × Bool)) (j : Nat) (h : j < o.length) : (o.map hRow).getD j [] = hRow o[j] := getD_map hRow o j h
def hopOf1 : List D → Option (Int × Bool)
  | [.v (.int .i64 k), .v (.bool b)] => some (k, b)
  | _ => Option.none
theorem hopOf1_row (h : Int × Bool) : hopOf1 (hRow h) = some h := rfl
theorem hopOf1_eq {r : List D} {h : Int × Bool} (e : hopOf1 r = some h) : r = hRow h := by
  unfold hopOf1 at e
  split at e
  · cases e; rfl
  · cases e
set_option maxHeartbeats 4000000 in
theorem SameH_c (a b : List (Int × Bool)) (hl : a.length ≤ 1000000 ∧ b.length ≤ 1000000) (nn : Nm) : CallsA Try.prog 61 [.sl (a.map hRow), .sl (b.map hRow)] Hp.none nn (Pu (db (decide (a = b))) Hp.none) := by
  obtain ⟨code, h1, h2⟩ := c61_ok
  refine callsA_of (T0_ok _) mixed (N := fun t => (0, t)) Try.func61 h1 h2 r61_ok [] false js_nil js_nil' (by simp [Try.f61]) ?_
  cases hc : ((a.length : Int) != (b.length : Int)) with
  | true =>
    have hne : decide (a = b) = false := decide_eq_false fun e => by subst e; simp at hc
    simp (config := { maxSteps := 500000 }) only [↓vp, vv, implies_true, forall_const, undef, InI, ↓reduceIte, simprocAttr, c61, r61, hc, hne, Pu]
  | false =>
    have hll : a.length = b.length := by simp at hc; omega
    simp (config := { maxSteps := 500000 }) only [↓vp, vv, implies_true, forall_const, undef, InI, ↓reduceIte, simprocAttr, c61, c61_5, hc]
    refine rng_loop a.length (fun j => ⟨fr [(0, .sl (a.map hRow)), (1, .sl (b.map hRow)), (12, di a.length), (13, di (j : Nat))], Hp.none⟩) (fun j => a.take j = b.take j) ?_ rfl (fun j hj hP => ?_) (fun hP => ?_)
    · exact weak0 (by simp (config := { maxSteps := 500000 }) only [↓vp, vv, implies_true, forall_const, undef, InI, ↓reduceIte, simprocAttr, coverS]) (by simp (config := { maxSteps := 500000 }) only [↓vp, vv, implies_true, forall_const, undef, InI, ↓reduceIte, simprocAttr, refsF])
    · have hj' : (j : Int) < a.length := by omega
      have hjb : j < b.length := by omega
      have hjb' : (j : Int) < b.length := by omega
      have hjn := idx_nn j
      have w1 := idx_next (j := j) (by omega)
      have ga := hRow_g a j hj
      have gb := hRow_g b j hjb
      have ta := List.take_append_getElem hj
      have tb := List.take_append_getElem hjb
      have ne : a[j] ≠ b[j] → decide (a = b) = false := fun hn => decide_eq_false fun e => hn (by subst e; rfl)
      generalize a[j] = x at ga ta ne
      generalize b[j] = y at gb tb ne
      obtain ⟨x1, x2⟩ := x
      obtain ⟨y1, y2⟩ := y
      have hlen : ∀ h : Int × Bool, (hRow h).length = 2 := fun _ => rfl
      cases hb1 : (x1 == y1) with
      | false =>
        have := ne (fun e => by cases e; simp at hb1)
        simp (config := { maxSteps := 500000 }) only [↓vp, vv, implies_true, forall_const, undef, InI, ↓reduceIte, simprocAttr, c61_3, c61_2, c61_1, r61, hj', hjb', hjn, Int.toNat_natCast, ga, gb, hlen, hRow, eqL, eqOne, hb1, this, Pu]
      | true =>
        cases hb2 : (x2 == y2) with
        | false =>
          have := ne (fun e => by cases e; simp at hb2)
          simp (config := { maxSteps := 500000 }) only [↓vp, vv, implies_true, forall_const, undef, InI, ↓reduceIte, simprocAttr, c61_3, c61_2, c61_1, r61, hj', hjb', hjn, Int.toNat_natCast, ga, gb, hlen, hRow, eqL, eqOne, hb1, hb2, this, Pu]
        | true =>
          have e1 : x1 = y1 := by simpa using hb1
          have e2 : x2 = y2 := by simpa using hb2
          have hP2 : a.take (j + 1) = b.take (j + 1) := by rw [← ta, ← tb, hP, e1, e2]
          simp (config := { maxSteps := 500000 }) only [↓vp, vv, implies_true, forall_const, undef, InI, ↓reduceIte, simprocAttr, c61_3, c61_2, c61_1, hj', hjb', hjn, Int.toNat_natCast, ga, gb, hlen, hRow, eqL, eqOne, hb1, hb2, w1]
          exact rng_next hj (weak0 (by simp (config := { maxSteps := 500000 }) only [↓vp, vv, implies_true, forall_const, undef, InI, ↓reduceIte, simprocAttr, coverS, w1]) (by simp (config := { maxSteps := 500000 }) only [↓vp, vv, implies_true, forall_const, undef, InI, ↓reduceIte, simprocAttr, refsF])) hP2
    · have hd : decide (a = b) = true := decide_eq_true (by rw [List.take_length, hll, List.take_length] at hP; exact hP)
      simp (config := { maxSteps := 500000 }) only [↓vp, vv, implies_true, forall_const, undef, InI, ↓reduceIte, simprocAttr, c61_3, c61_4, r61, Int.lt_irrefl, hd, Pu]
/-- The length of a way, hop by hop. -/
def hCap (n : Net) (h : Int × Bool) : Int := match n.segs[h.1.toNat]? with
  | some s => s.cap
  | Option.none => 0
def lenGo (n : Net) : Nat → List (Int × Bool) → List Int → Int → Int × Int
  | _, [], _, s => (s, 0)
  | j, h :: l, vis, s =>
    if ((if j = 0 then vis ++ [(hEnds n h).1] else vis).getD j 0 != (hEnds n h).1) = true then (0, 11)
    else if (if j = 0 then vis ++ [(hEnds n h).1] else vis).contains (hEnds n h).2 = true then (0, 11)
    else lenGo n (j + 1) l ((if j = 0 then vis ++ [(hEnds n h).1] else vis) ++ [(hEnds n h).2]) (s + hCap n h)
def unkH (n : Net) (h : Int × Bool) : Bool := if decide (h.1 < 0) = true then true else decide ((n.segs.length : Int) ≤ h.1)
def lenR (n : Net) (w : List (Int × Bool)) : Int × Int := if checkI n ≠ 0 then (0, checkI n) else if w.any (unkH n) = true then (0, 8) else lenGo n 0 w [] 0
theorem lk1_c (n : Net) (h : Int × Bool) (nn : Nm) : CallsA Try.prog 127 [.agg (hRow h), .ip (netD n)] Hp.none nn (Pu (db (unkH n h)) Hp.none) := by
  obtain ⟨code, h1, h2⟩ := c127_ok
  refine callsA_of (T0_ok _) mixed (N := fun t => (0, t)) Try.func127 h1 h2 r127_ok [] false js_nil js_nil' (by simp [Try.f127]) ?_
  obtain ⟨k, b⟩ := h
  cases a1 : decide (k < 0) <;> simp (config := { maxSteps := 500000 }) only [↓vp, vv, implies_true, forall_const, undef, InI, ↓reduceIte, simprocAttr, c127, r127, r127, netD, hRow, a1, unkH, Pu]
def TLn (P : Program) (n : Net) : Tbl := tc 128 (rowPu selEn) (tc 129 (rowPu selCn) (tc 126 (rowPu (selQ P true 2 (fun g l => qRow hopOf1 (unkH n)) outC)) (tc 78 (rowPu (selNet fun n => di (checkI n))) T0)))
theorem TLn_ok (n : Net) : TblOk Try.prog (TLn Try.prog n) := by
  refine tc_en f128_ok ends_c (tc_cn f129_ok ContainsI_c (tc_pu f126_ok (fun args pre d h hp nn => ?_) (tc_netf f78_ok (fun n hz nn => check_c n hz nn) (T0_ok _))))
  unfold selQ at h
  split at h
  · split at h
    · rename_i hi
      cases h
      rw [ipsOf_eq hi]
      exact hasF_H _ _ _ _ hp nn
    · cases h
  · cases h
def LnF (n : Net) (w : List (Int × Bool)) (vis : List Int) (s : Int) (g : Nat) (l : List (Nat × D)) : List (Nat × D) := (2, .ip (netD n)) :: (7, di s) :: (8, .own (0, 1000) g 0 vis.length) :: (21, .sl (w.map hRow)) :: (22, di w.length) :: l
def LnH (vis : List Int) (g : Nat) : Hp := Hp.none.put (0, 1000) ⟨g, 1, vis.map iRow⟩
def LnI (n : Net) (w : List (Int × Bool)) : Nat → St → Prop := fun k st => ∃ j vis s g, j + k = w.length ∧ vis.length = (if j = 0 then 0 else j + 1) ∧ (0 ≤ s ∧ s ≤ (j : Int) * 1000000) ∧ lenGo n j (w.drop j) vis s = lenGo n 0 w [] 0 ∧ st = ⟨fr (LnF n w vis s g [(23, di (j : Nat))]), LnH vis g⟩
set_option maxHeartbeats 16000000 in
def LnG (h : Int × Bool) (vis : List Int) (g : Nat) : Hp := (LnH vis g).put (0, 10) ⟨0, 2, [hRow h]⟩
def LnR (n : Net) (w : List (Int × Bool)) : Ex → St → Prop := finQ r58 [] false (Pu (.tup [di (lenGo n 0 w [] 0).1, di (lenGo n 0 w [] 0).2]) Hp.none)
def LnL (n : Net) (w : List (Int × Bool)) (k : Nat) : Ex → St → Prop := loopQ [] (LnI n w) k (blockQ 0 (thenQ (vc (TLn Try.prog n) (fun t => (0, t)) [] c58_6 (LnR n w)) (LnR n w)))
def LnQ (n : Net) (w : List (Int × Bool)) (k : Nat) : Ex → St → Prop := blockQ 1 (thenQ (vc (TLn Try.prog n) (fun t => (0, t)) [] c58_3 (LnL n w k)) (LnL n w k))
theorem ln_2 (n : Net) (w : List (Int × Bool)) (hw : w.length ≤ 1000) (k j : Nat) (hjk : j + k = w.length) (hj : j < w.length) (h : Int × Bool) (hin : hIn n h) (sg : Seg) (gs : (n.segs.map Seg.row).getD h.1.toNat [] = sg.row) (hcap : 1 ≤ sg.cap ∧ sg.cap ≤ 1000000) (e1 e2 s : Int) (hs : 0 ≤ s ∧ s ≤ (j : Int) * 1000000) (v1 : List Int) (g1 : Nat) (hl : v1.length = j + 1)
    (hgo : (if (v1.getD j 0 != e1) = true then ((0, 11) : Int × Int) else if v1.contains e2 = true then (0, 11) else lenGo n (j + 1) (w.drop (j + 1)) (v1 ++ [e2]) (s + sg.cap)) = lenGo n 0 w [] 0) (F : Fr) (H : Hp)
    (hwk : Weak [] ⟨F, H⟩ ⟨fr (LnF n w v1 s g1 [(9, di j), (10, .ptr (0, 10) 0 0 0), (11, di e1), (12, di e2), (23, di j)]), LnG h v1 g1⟩) : vc (TLn Try.prog n) (fun t => (0, t)) [] (.weak c58_2) (LnQ n w k) ⟨F, H⟩ := by
  refine vc_wk hwk ?_
  have hj' : (j : Int) < v1.length := by omega
  have hjl : j < v1.length := by omega
  have hjn := idx_nn j
  have gv := iRow_dd v1 j hjl
  have hi1 : lsOf intOf1 (v1.map iRow) = some v1 := lsOf_map intOf1_row v1
  have hv1 : v1.length ≤ 1000000 := by omega
  have tk : (v1.map iRow).take v1.length = v1.map iRow := List.take_of_length_le (by simp)
  have w1 := idx_next (j := j) (by omega)
  cases c1 : (v1.getD j 0 != e1) with
  | true =>
    rw [c1, if_pos rfl] at hgo
    unfold LnQ LnL LnR
    rw [← hgo]
    simp (config := { maxSteps := 500000 }) only [↓vp, vv, implies_true, forall_const, undef, InI, ↓reduceIte, simprocAttr, c58_2, TLn, LnF, LnG, LnH, netD, hj', hjl, hjn, Int.toNat_natCast, gv, c1, r58, Pu]
  | false =>
    rw [c1, if_neg (by simp)] at hgo
    cases c2 : v1.contains e2 with
    | true =>
      rw [c2, if_pos rfl] at hgo
      unfold LnQ LnL LnR
      rw [← hgo]
      simp (config := { maxSteps := 500000 }) only [↓vp, vv, implies_true, forall_const, undef, InI, ↓reduceIte, simprocAttr, c58_2, TLn, selCn, LnF, LnG, LnH, netD, hj', hjl, hjn, Int.toNat_natCast, gv, c1, c2, hi1, hv1, tk, r58, Pu]
      exact fun x _ d hd => by rw [List.mem_singleton.1 hd]; rfl
    | false =>
      rw [c2, if_neg (by simp)] at hgo
      have q1 := hin.1
      have q2 := hin.2
      have wc : IntKind.i64.wrap (s + sg.cap) = s + sg.cap := wrap_i (by omega)
      have y1 : (v1.length + 1) * 8 ≤ 140737488355328 := by omega
      have y2 : v1.length + 1 ≤ 4611686018427387904 := by omega
      unfold LnQ LnL
      simp (config := { maxSteps := 500000 }) only [↓vp, vv, implies_true, forall_const, undef, InI, ↓reduceIte, simprocAttr, c58_2, c58_1, c58_3, TLn, selCn, LnF, LnG, LnH, netD, hj', hjl, hjn, Int.toNat_natCast, gv, c1, c2, hi1, hv1, tk, q1, q2, gs, Seg.row, hRow, wc, y1, y2, w1]
      refine ⟨fun x _ d hd => by rw [List.mem_singleton.1 hd]; rfl, ?_⟩
      exact ⟨k - 1, _, by omega, (weak_eq [] [(0, 1000)] (LnF n w (v1 ++ [e2]) (s + sg.cap) (g1 + 1) [(23, di (j + 1 : Nat))]) (by simp (config := { maxSteps := 500000 }) only [↓vp, vv, implies_true, forall_const, undef, InI, ↓reduceIte, simprocAttr, coverS, LnF, LnG, LnH, netD, iRow, w1, List.map_append, List.length_append, List.length_cons, List.length_nil]) (by simp (config := { maxSteps := 500000 }) only [↓vp, vv, implies_true, forall_const, undef, InI, ↓reduceIte, simprocAttr, refsF, LnF, LnG, LnH, netD, iRow, w1, List.map_append, List.length_append, List.length_cons, List.length_nil]) (by simp (config := { maxSteps := 500000 }) only [↓vp, vv, implies_true, forall_const, undef, InI, ↓reduceIte, simprocAttr, LnF, LnG, LnH, netD, iRow, w1, List.map_append, List.length_append, List.length_cons, List.length_nil]) (by simp) (by simp (config := { maxSteps := 500000 }) only [↓vp, vv, implies_true, forall_const, undef, InI, ↓reduceIte, simprocAttr, LnF, LnG, LnH, netD, iRow, w1, List.map_append, List.length_append, List.length_cons, List.length_nil]; try rfl)), j + 1, v1 ++ [e2], s + sg.cap, g1 + 1, by omega, by rw [List.length_append, hl]; rfl, by omega, hgo, rfl⟩
theorem Length_c (n : Net) (hz : NetSz n) (w : List (Int × Bool)) (hw : w.length ≤ 1000) (nn : Nm) : CallsA Try.prog 58 [n.enc, .sl (w.map hRow)] Hp.none nn (Pu (.tup [di (lenR n w).1, di (lenR n w).2]) Hp.none) := by
  obtain ⟨code, h1, h2⟩ := c58_ok
  refine callsA_of (TLn_ok n) mixed (N := fun t => (0, t)) Try.func58 h1 h2 r58_ok [] false js_nil js_nil' (by simp [Try.f58]) ?_
  have hn1 : netOf1 [D.sl (n.nodes.map nmRow), .sl (n.segs.map Seg.row), .sl (n.ports.map Port.row), .sl (n.sts.map Stn.row), di n.vap, di n.set] = some n := netOf1_row n
  have hq : QOk Try.prog true 2 (qRow hopOf1 (unkH n)) 127 [netD n] (w.map hRow) := by
    refine ⟨f127_ok, by rw [List.length_map]; omega, fun r hr => ?_⟩
    obtain ⟨x, _, rfl⟩ := List.mem_map.1 hr
    exact ⟨rfl, rfl, fun h => Bool.noConfusion h, fun nn => lk1_c n x nn⟩
  have ho : outC (fun r => qRow hopOf1 (unkH n) (elV true r)) (w.map hRow) = db (w.any (unkH n)) := by
    unfold outC
    rw [List.any_map]
    rfl
  unfold lenR
  cases c1 : (checkI n != 0) with
  | true =>
    have e1 : checkI n ≠ 0 := by simpa using c1
    rw [if_pos e1]
    simp (config := { maxSteps := 500000 }) only [↓vp, vv, implies_true, forall_const, undef, InI, ↓reduceIte, simprocAttr, c58, r58, TLn, selNet, Net.enc, hn1, hz, c1, Pu]
  | false =>
    have e1 : checkI n = 0 := by simpa using c1
    rw [if_neg (by omega)]
    rw [e1] at c1
    have hv := check0 e1
    simp (config := { maxSteps := 500000 }) only [↓vp, vv, implies_true, forall_const, undef, InI, ↓reduceIte, simprocAttr, c58, TLn, selNet, Net.enc, hn1, hz, c1, e1]
    refine vc_wk ((weak_ip 2 (0, 2) 0 6 (netD n) (by simp (config := { maxSteps := 500000 }) only [↓vp, vv, implies_true, forall_const, undef, InI, ↓reduceIte, simprocAttr, ]) (by simp (config := { maxSteps := 500000 }) only [↓vp, vv, implies_true, forall_const, undef, InI, ↓reduceIte, simprocAttr, netD]) (by simp (config := { maxSteps := 500000 }) only [↓vp, vv, implies_true, forall_const, undef, InI, ↓reduceIte, simprocAttr, netD]) (by simp)).trans (weak_eq [] [] [(1, .sl (w.map hRow)), (2, .ip (netD n))] (by simp (config := { maxSteps := 500000 }) only [↓vp, vv, implies_true, forall_const, undef, InI, ↓reduceIte, simprocAttr, coverS]) (by simp (config := { maxSteps := 500000 }) only [↓vp, vv, implies_true, forall_const, undef, InI, ↓reduceIte, simprocAttr, refsF]) (by simp (config := { maxSteps := 500000 }) only [↓vp, vv, implies_true, forall_const, undef, InI, ↓reduceIte, simprocAttr, ]) (by simp) (by simp (config := { maxSteps := 500000 }) only [↓vp, vv, implies_true, forall_const, undef, InI, ↓reduceIte, simprocAttr, ]; try rfl))) ?_
    cases c2 : w.any (unkH n) with
    | true =>
      rw [c2] at ho
      simp (config := { maxSteps := 500000 }) only [↓vp, vv, implies_true, forall_const, undef, InI, ↓reduceIte, simprocAttr, c58_8, TLn, selQ, ipsOf, hq, ho, r58, Pu]
    | false =>
      rw [c2] at ho
      simp (config := { maxSteps := 500000 }) only [↓vp, vv, implies_true, forall_const, undef, InI, ↓reduceIte, simprocAttr, c58_8, c58_7, TLn, selQ, ipsOf, hq, ho]
      rw [vc_loop]
      refine ⟨LnI n w, ⟨w.length, _, (weak_own 8 (0, 1000) 1 (by simp (config := { maxSteps := 500000 }) only [↓vp, vv, implies_true, forall_const, undef, InI, ↓reduceIte, simprocAttr, ]) (by simp (config := { maxSteps := 500000 }) only [↓vp, vv, implies_true, forall_const, undef, InI, ↓reduceIte, simprocAttr, ])).trans (weak_eq [] [(0, 1000)] (LnF n w [] 0 0 [(23, di 0)]) (by simp (config := { maxSteps := 500000 }) only [↓vp, vv, implies_true, forall_const, undef, InI, ↓reduceIte, simprocAttr, coverS, LnF, LnH, iRow]) (by simp (config := { maxSteps := 500000 }) only [↓vp, vv, implies_true, forall_const, undef, InI, ↓reduceIte, simprocAttr, refsF, LnF, LnH, iRow]) (by simp (config := { maxSteps := 500000 }) only [↓vp, vv, implies_true, forall_const, undef, InI, ↓reduceIte, simprocAttr, LnF, LnH, iRow]) (by simp) (by simp (config := { maxSteps := 500000 }) only [↓vp, vv, implies_true, forall_const, undef, InI, ↓reduceIte, simprocAttr, LnF, LnH, iRow]; try rfl)), 0, [], 0, 0, by omega, rfl, by omega, rfl, rfl⟩, ?_⟩
      rintro k st ⟨j, vis, s, g, hjk, hvl, hs, hgo, rfl⟩
      have hjn := idx_nn j
      by_cases hj : j < w.length
      · have hj' : (j : Int) < w.length := by omega
        have w1 := idx_next (j := j) (by omega)
        have hgw := hRow_g w j hj
        have hlen : ∀ h : Int × Bool, (hRow h).length = 2 := fun _ => rfl
        have hu : unkH n w[j] = false := by
          cases e : unkH n w[j] with
          | false => rfl
          | true => rw [List.any_eq_true.2 ⟨w[j], List.getElem_mem hj, e⟩] at c2; cases c2
        rw [List.drop_eq_getElem_cons hj] at hgo
        generalize w[j] = h at hgw hu hgo
        have hin : hIn n h := by
          unfold unkH at hu
          split at hu
          · cases hu
          · rename_i q; simp at q hu; exact ⟨by omega, by omega⟩
        obtain ⟨q1, q2⟩ := hin
        have q2' : h.1.toNat < n.segs.length := by omega
        have gs := getD_map Seg.row n.segs h.1.toNat q2'
        have hcp : hCap n h = n.segs[h.1.toNat].cap := by unfold hCap; rw [List.getElem?_eq_getElem q2']
        have hse := (hv.se _ (List.getElem_mem q2')).2.2.2
        have hin : hIn n h := ⟨q1, q2⟩
        generalize hT : lenGo n 0 w [] 0 = T at hgo
        unfold lenGo at hgo
        rw [hcp] at hgo
        subst hT
        generalize n.segs[h.1.toNat] = sg at gs hgo hse
        generalize hee : hEnds n h = ee at hgo
        have hsel : selEn [.agg (netD n), .agg (hRow h)] = some (hIn n h, .tup [di (hEnds n h).1, di (hEnds n h).2]) := by
          unfold selEn hRow netD
          simp only [hn1]
        rw [hee] at hsel
        unfold netD at hsel
        obtain ⟨hk1, hb1⟩ := h
        unfold hRow at hsel
        have hj0' : (0 : Int) < w.length := by omega
        rcases Nat.eq_zero_or_pos j with rfl | hp
        · obtain rfl : vis = [] := List.length_eq_zero_iff.1 (by simpa using hvl)
          have y1 : (0 + 1) * 8 ≤ 140737488355328 := by omega
          have y2 : 0 + 1 ≤ 4611686018427387904 := by omega
          have b0 : (((0 : Nat) : Int) == 0) = true := rfl
          simp (config := { maxSteps := 500000 }) only [↓vp, vv, implies_true, forall_const, undef, InI, ↓reduceIte, simprocAttr, c58_5, c58_4, TLn, LnF, LnH, netD, hj0', hgw, hRow, hsel, hin, b0, y1, y2]
          refine ln_2 n w hw k 0 hjk hj (hk1, hb1) hin sg gs ⟨hse.1, hse.2⟩ ee.1 ee.2 s hs [ee.1] (g + 1) rfl ?_ _ _ ?_
          · exact hgo
          · exact (weak_eq [] [(0, 10), (0, 1000)] (LnF n w [ee.1] s (g + 1) [(9, di 0), (10, .ptr (0, 10) 0 0 0), (11, di ee.1), (12, di ee.2), (23, di 0)]) (by simp (config := { maxSteps := 500000 }) only [↓vp, vv, implies_true, forall_const, undef, InI, ↓reduceIte, simprocAttr, coverS, LnF, LnG, LnH, netD, iRow, hRow]) (by simp (config := { maxSteps := 500000 }) only [↓vp, vv, implies_true, forall_const, undef, InI, ↓reduceIte, simprocAttr, refsF, LnF, LnG, LnH, netD, iRow, hRow]) (by simp (config := { maxSteps := 500000 }) only [↓vp, vv, implies_true, forall_const, undef, InI, ↓reduceIte, simprocAttr, LnF, LnG, LnH, netD, iRow, hRow]) (by simp) (by simp (config := { maxSteps := 500000 }) only [↓vp, vv, implies_true, forall_const, undef, InI, ↓reduceIte, simprocAttr, LnF, LnG, LnH, netD, iRow, hRow]; try rfl))
        · have b0 : ((j : Int) == 0) = false := by rw [beq_eq_false_iff_ne]; omega
          have hj0 : ¬ j = 0 := by omega
          rw [if_neg hj0] at hvl
          simp only [if_neg hj0] at hgo
          simp (config := { maxSteps := 500000 }) only [↓vp, vv, implies_true, forall_const, undef, InI, ↓reduceIte, simprocAttr, c58_5, c58_4, TLn, LnF, LnH, netD, hj', hjn, Int.toNat_natCast, hgw, hRow, hsel, hin, b0]
          refine ln_2 n w hw k j hjk hj (hk1, hb1) hin sg gs ⟨hse.1, hse.2⟩ ee.1 ee.2 s hs vis g hvl ?_ _ _ ?_
          · exact hgo
          · exact (weak_eq [] [(0, 10), (0, 1000)] (LnF n w vis s g [(9, di j), (10, .ptr (0, 10) 0 0 0), (11, di ee.1), (12, di ee.2), (23, di j)]) (by simp (config := { maxSteps := 500000 }) only [↓vp, vv, implies_true, forall_const, undef, InI, ↓reduceIte, simprocAttr, coverS, LnF, LnG, LnH, netD, iRow, hRow]) (by simp (config := { maxSteps := 500000 }) only [↓vp, vv, implies_true, forall_const, undef, InI, ↓reduceIte, simprocAttr, refsF, LnF, LnG, LnH, netD, iRow, hRow]) (by simp (config := { maxSteps := 500000 }) only [↓vp, vv, implies_true, forall_const, undef, InI, ↓reduceIte, simprocAttr, LnF, LnG, LnH, netD, iRow, hRow]) (by simp) (by simp (config := { maxSteps := 500000 }) only [↓vp, vv, implies_true, forall_const, undef, InI, ↓reduceIte, simprocAttr, LnF, LnG, LnH, netD, iRow, hRow]; try rfl))
      · obtain rfl : j = w.length := by omega
        rw [List.drop_length] at hgo
        have e2 : lenGo n 0 w [] 0 = (s, 0) := hgo.symm
        rw [e2]
        simp (config := { maxSteps := 500000 }) only [↓vp, vv, implies_true, forall_const, undef, InI, ↓reduceIte, simprocAttr, c58_5, c58_6, r58, LnF, LnH, Int.lt_irrefl, Pu]
end Go.Proofs.Ytemkjjlpggmolaa
