
/- Lineups: both, Changes, All; lists out of a source. -/
import Derived.Test.YtfkhjkkhdfcnjaaLu1
import Derived.Test.YtfkhjkkhdfcnjaaGen5
import Derived.Test.YtfkhjkkhdfcnjaaNw
namespace Go.Proofs.Ytfkhjkkhdfcnjaa
open Go
set_option linter.unusedVariables false
set_option linter.unusedSimpArgs false
set_option maxRecDepth 100000

def bothI (n : Net) (ls : List Lnp) : Int := if checkI n = 0 then (if ls.all (lvB n) = true then 0 else 9) else checkI n
def TLu2 : Tbl := tc 79 (rowPu (selNet fun n => di (checkI n))) (tc 107 (rowPu (selNL (fun _ _ => True) fun n l => db (lvB n l))) T0)
theorem TLu2_ok : TblOk Try.prog TLu2 := tc_netf f79_ok check_c (tc_nl f107_ok (fun n l _ nn => lvalid_c n l nn) (T0_ok _))
def BoF (ls : List Lnp) (j : Int) : List (Nat × D) := [(2, .ptr (0, 2) 0 0 0), (13, .sl (ls.map lnpD)), (14, di ls.length), (15, di j)]
def BoH (n : Net) : Hp := Hp.none.put (0, 2) ⟨0, 6, [netD n]⟩
set_option maxHeartbeats 8000000 in
theorem both_c (n : Net) (hz : NetSz n) (ls : List Lnp) (hl : ls.length ≤ 1000000) (nn : Nm) : CallsA Try.prog 109 [n.enc, .sl (ls.map lnpD)] Hp.none nn (Pu (di (bothI n ls)) Hp.none) := by
  obtain ⟨code, h1, h2⟩ := c109_ok
  refine callsA_of TLu2_ok mixed (N := fun t => (0, t)) Try.func109 h1 h2 r109_ok [] false js_nil js_nil' (by simp [Try.f109]) ?_
  have hn1 : netOf1 [D.sl (n.nodes.map nmRow), .sl (n.segs.map Seg.row), .sl (n.ports.map Port.row), .sl (n.sts.map Stn.row), di n.vap, di n.set] = some n := netOf1_row n
  have hl1 : ∀ l : Lnp, lnpOf1 [D.sl (l.segs.map bRow), .sl (l.ports.map bRow)] = some l := lnpOf1_row
  by_cases a1 : checkI n = 0
  · generalize hb : ls.all (lvB n) = b
    have hr : bothI n ls = if b = true then 0 else 9 := by unfold bothI; rw [if_pos a1, hb]
    simp (config := { maxSteps := 500000 }) only [↓vp, vv, implies_true, forall_const, undef, InI, ↓reduceIte, simprocAttr, c109, c109_5, TLu2, selNet, Net.enc, hn1, hz, a1, bne_self_eq_false]
    refine rng_loop ls.length (fun j => ⟨fr (BoF ls j), BoH n⟩) (fun j => (ls.drop j).all (lvB n) = b) (weak_eq [] [(0, 2)] (BoF ls 0) (by simp (config := { maxSteps := 500000 }) only [↓vp, vv, implies_true, forall_const, undef, InI, ↓reduceIte, simprocAttr, coverS, BoF, BoH, netD]) (by simp (config := { maxSteps := 500000 }) only [↓vp, vv, implies_true, forall_const, undef, InI, ↓reduceIte, simprocAttr, refsF, BoF, BoH, netD]) (by simp (config := { maxSteps := 500000 }) only [↓vp, vv, implies_true, forall_const, undef, InI, ↓reduceIte, simprocAttr, BoF, BoH, netD]) (by simp) (by simp (config := { maxSteps := 500000 }) only [↓vp, vv, implies_true, forall_const, undef, InI, ↓reduceIte, simprocAttr, BoF, BoH, netD]; try rfl)) hb (fun j hj he => ?_) (fun he => ?_)
    · have hj' : (j : Int) < ls.length := by omega
      have hjn := idx_nn j
      have w1 := idx_next (j := j) (by omega)
      obtain ⟨gf, gt⟩ := drop_all hj he
      have hg := getD_map lnpD ls j hj
      generalize ls[j] = x at gf gt hg
      cases hx : lvB n x with
      | false =>
        have hr2 : bothI n ls = 9 := by rw [hr, gf hx]; rfl
        simp (config := { maxSteps := 500000 }) only [↓vp, vv, implies_true, forall_const, undef, InI, ↓reduceIte, simprocAttr, c109_3, c109_2, c109_1, r109, TLu2, selNL, BoF, BoH, netD, hj', hjn, Int.toNat_natCast, hg, lnpD, hn1, hl1, hx, hr2, Pu]
      | true =>
        simp (config := { maxSteps := 500000 }) only [↓vp, vv, implies_true, forall_const, undef, InI, ↓reduceIte, simprocAttr, c109_3, c109_2, c109_1, TLu2, selNL, BoF, BoH, netD, hj', hjn, Int.toNat_natCast, hg, lnpD, hn1, hl1, hx, w1]
        exact rng_next hj (weak_eq [] [(0, 2)] (BoF ls (j + 1 : Nat)) (by simp (config := { maxSteps := 500000 }) only [↓vp, vv, implies_true, forall_const, undef, InI, ↓reduceIte, simprocAttr, coverS, BoF, BoH, netD, w1]) (by simp (config := { maxSteps := 500000 }) only [↓vp, vv, implies_true, forall_const, undef, InI, ↓reduceIte, simprocAttr, refsF, BoF, BoH, netD, w1]) (by simp (config := { maxSteps := 500000 }) only [↓vp, vv, implies_true, forall_const, undef, InI, ↓reduceIte, simprocAttr, BoF, BoH, netD, w1]) (by simp) (by simp (config := { maxSteps := 500000 }) only [↓vp, vv, implies_true, forall_const, undef, InI, ↓reduceIte, simprocAttr, BoF, BoH, netD, w1]; try rfl)) (gt hx)
    · have e0 : b = true := drop_all_end he
      have hr2 : bothI n ls = 0 := by rw [hr, e0]; rfl
      simp (config := { maxSteps := 500000 }) only [↓vp, vv, implies_true, forall_const, undef, InI, ↓reduceIte, simprocAttr, c109, r109, c109_1, c109_2, c109_3, c109_4, c109_5, r109, BoF, BoH, Int.lt_irrefl, hr2, Pu]
  · have a1' : (checkI n != 0) = true := by simp [a1]
    have hr : bothI n ls = checkI n := by unfold bothI; rw [if_neg a1]
    simp (config := { maxSteps := 500000 }) only [↓vp, vv, implies_true, forall_const, undef, InI, ↓reduceIte, simprocAttr, c109, r109, TLu2, selNet, Net.enc, hn1, hz, a1', hr, Pu]
def selBoth : List D → Option (Prop × D)
  | [.agg a, .sl rows] => match netOf1 a, lsOf lnpOf1 rows with
    | some n, some ls => some (NetSz n ∧ ls.length ≤ 1000000, di (bothI n ls))
    | _, _ => Option.none
  | _ => Option.none
theorem tc_both {T : Tbl} (hT : TblOk Try.prog T) : TblOk Try.prog (tc 109 (rowPu selBoth) T) :=
  tc_pu f109_ok (fun args pre d h hp nn => by
    unfold selBoth at h
    split at h
    · split at h
      · rename_i e1 e2
        cases h
        rw [netOf1_eq e1, lsOf_eq (fun r x => lnpOf1_eq) e2]
        exact both_c _ hp.1 _ hp.2 nn
      · cases h
    · cases h) hT
def TLu3 : Tbl := tc 109 (rowPu selBoth) (tc 108 (rowPu (selL LnpSz fun l => .sl ((lall l).map bRow))) T0)
theorem TLu3_ok : TblOk Try.prog TLu3 := tc_both (tc_l f108_ok (fun l h nn => numbers_c l h.1 h.2 nn) (T0_ok _))
theorem js_nil0 {J : List Nm} : ∀ (j : Nm) (x : En), Hp.none j = some x → j ∈ J := fun j x h => by cases h
theorem js_nms (a b : Nat) {Hs : Hp} : ∀ j ∈ [(a, b), (a, b + 5000)], (Hs j).isSome = true ∨ j ∈ nms (a, b) := fun j h => .inr (by
  simp only [List.mem_cons, List.not_mem_nil, or_false] at h
  rcases h with rfl | rfl <;> simp [nms])
/-- Where the second list has what the first one has not. -/
def dif (A B : List Bool) (j : Nat) : List Nat := (List.range j).filter fun i => B.getD i false && !(A.getD i false)
theorem dif_succ (A B : List Bool) (j : Nat) : dif A B (j + 1) = if (B.getD j false && !(A.getD j false)) = true then dif A B j ++ [j] else dif A B j := by
  unfold dif
  rw [List.range_succ, List.filter_append, List.filter_cons, List.filter_nil]
  split
  · rfl
  · exact List.append_nil _
theorem dif_le (A B : List Bool) (j : Nat) : (dif A B j).length ≤ j := by
  unfold dif
  exact Nat.le_trans (List.length_filter_le ..) (by simp)
def ChF (a b : Nat) (A B : List Bool) (j : Nat) : List (Nat × D) := [(6, .own (a, b) (dif A B j).length 0 (dif A B j).length), (7, .own (a, b + 5000) (dif B A j).length 0 (dif B A j).length), (10, .sl (B.map bRow)), (24, .sl (A.map bRow)), (25, di A.length), (26, di j)]
def ChH (a b : Nat) (A B : List Bool) (j : Nat) : Hp := (Hp.none.put (a, b + 5000) ⟨(dif B A j).length, 1, (dif B A j).map nRow⟩).put (a, b) ⟨(dif A B j).length, 1, (dif A B j).map nRow⟩
set_option maxHeartbeats 16000000 in
theorem changes_o (n : Net) (hz : NetSz n) (x y : Lnp) (hc : checkI n = 0) (hx : lvB n x = true) (hy : lvB n y = true) (nn : Nm) : CallsA Try.prog 48 [n.enc, x.enc, y.enc] Hp.none nn
    (Pu (.tup [.own nn (dif (lall x) (lall y) (lall x).length).length 0 (dif (lall x) (lall y) (lall x).length).length, .own (nn.1, nn.2 + 5000) (dif (lall y) (lall x) (lall x).length).length 0 (dif (lall y) (lall x) (lall x).length).length, di 0]) (ChH nn.1 nn.2 (lall x) (lall y) (lall x).length)) := by
  obtain ⟨a, b⟩ := nn
  obtain ⟨code, h1, h2⟩ := c48_ok
  refine callsA_ofM TLu3_ok mixed (N := fun t => (a + 1, t)) Try.func48 h1 h2 r48_ok [(a, b), (a, b + 5000)] true js_nil0 (js_nms a b) (by simp [Try.f48]) ?_
  have hn1 : netOf1 [D.sl (n.nodes.map nmRow), .sl (n.segs.map Seg.row), .sl (n.ports.map Port.row), .sl (n.sts.map Stn.row), di n.vap, di n.set] = some n := netOf1_row n
  have hl1 : ∀ l : Lnp, lnpOf1 [D.sl (l.segs.map bRow), .sl (l.ports.map bRow)] = some l := lnpOf1_row
  have hl2 : lsOf lnpOf1 [[D.sl (x.segs.map bRow), .sl (x.ports.map bRow)], [D.sl (y.segs.map bRow), .sl (y.ports.map bRow)]] = some [x, y] := lsOf_map lnpOf1_row [x, y]
  have hb : bothI n [x, y] = 0 := by unfold bothI; rw [if_pos hc]; simp [hx, hy]
  have lx := lv_len hx
  have ly := lv_len hy
  have zs := hz.segs
  have zp := hz.ports
  have hlx : LnpSz x := ⟨by omega, by omega⟩
  have hly : LnpSz y := ⟨by omega, by omega⟩
  have hAB : (lall x).length = (lall y).length := by simp [lall]; omega
  have hAz : (lall x).length ≤ 2000000 := by simp [lall]; omega
  have q1 : (a + 1 = a) = False := by simp
  have q2 : (a = a + 1) = False := by simp
  have q3 : (b + 5000 = b) = False := by simp
  have q4 : (b = b + 5000) = False := by simp
  simp (config := { maxSteps := 500000 }) only [↓vp, vv, implies_true, forall_const, undef, InI, ↓reduceIte, simprocAttr, c48, c48_5, TLu3, selBoth, selL, Net.enc, Lnp.enc, lnpD, hn1, hl1, hl2, hb, hz, hlx, hly, q1, q2, q3, q4, bne_self_eq_false]
  generalize lall x = A at hAB hAz
  generalize lall y = B at hAB
  refine rng_loop A.length (fun j => ⟨fr (ChF a b A B j), ChH a b A B j⟩) (fun _ => True) ((weak_own 6 (a, b) 1 (by simp (config := { maxSteps := 500000 }) only [↓vp, vv, implies_true, forall_const, undef, InI, ↓reduceIte, simprocAttr, ]) (by simp (config := { maxSteps := 500000 }) only [↓vp, vv, implies_true, forall_const, undef, InI, ↓reduceIte, simprocAttr, q1, q2, q3, q4])).trans ((weak_own 7 (a, b + 5000) 1 (by simp (config := { maxSteps := 500000 }) only [↓vp, vv, implies_true, forall_const, undef, InI, ↓reduceIte, simprocAttr, ]) (by simp (config := { maxSteps := 500000 }) only [↓vp, vv, implies_true, forall_const, undef, InI, ↓reduceIte, simprocAttr, q1, q2, q3, q4])).trans (weak_eq [] [(a, b), (a, b + 5000)] (ChF a b A B 0) (by simp (config := { maxSteps := 500000 }) only [↓vp, vv, implies_true, forall_const, undef, InI, ↓reduceIte, simprocAttr, coverS, ChF, ChH, q1, q2, q3, q4, dif, nRow, List.range_zero, List.filter_nil]) (by simp (config := { maxSteps := 500000 }) only [↓vp, vv, implies_true, forall_const, undef, InI, ↓reduceIte, simprocAttr, refsF, ChF, ChH, q1, q2, q3, q4, dif, nRow, List.range_zero, List.filter_nil]) (by simp (config := { maxSteps := 500000 }) only [↓vp, vv, implies_true, forall_const, undef, InI, ↓reduceIte, simprocAttr, ChF, ChH, q1, q2, q3, q4, dif, nRow, List.range_zero, List.filter_nil]) (by simp) (by simp (config := { maxSteps := 500000 }) only [↓vp, vv, implies_true, forall_const, undef, InI, ↓reduceIte, simprocAttr, ChF, ChH, q1, q2, q3, q4, dif, nRow, List.range_zero, List.filter_nil]; try rfl)))) trivial (fun j hj _ => ?_) (fun _ => ?_)
  · have hj' : (j : Int) < A.length := by omega
    have hjB : (j : Int) < B.length := by omega
    have hjn := idx_nn j
    have w1 := idx_next (j := j) (by omega)
    have hjb : j < B.length := by omega
    have hgA := bRow_g A j hj
    have hgB := bRow_g B j hjb
    have d1 := dif_succ A B j
    have d2 := dif_succ B A j
    have l1 := dif_le A B j
    have l2 := dif_le B A j
    have eA : A.getD j false = A[j] := by rw [List.getD_eq_getElem?_getD, List.getElem?_eq_getElem hj]; rfl
    have eB : B.getD j false = B[j] := by rw [List.getD_eq_getElem?_getD, List.getElem?_eq_getElem hjb]; rfl
    rw [eA, eB] at d1 d2
    generalize A[j] = u at hgA d1 d2
    generalize B[j] = v at hgB d1 d2
    have y1 : ((dif A B j).length + 1) * 8 ≤ 140737488355328 := by omega
    have y2 : (dif A B j).length + 1 ≤ 4611686018427387904 := by omega
    have y3 : ((dif B A j).length + 1) * 8 ≤ 140737488355328 := by omega
    have y4 : (dif B A j).length + 1 ≤ 4611686018427387904 := by omega
    cases u <;> cases v <;> simp only [Bool.not_true, Bool.not_false, Bool.and_self, Bool.and_true, Bool.and_false, Bool.false_and, Bool.true_and, if_true, if_false, Bool.false_eq_true] at d1 d2 <;> (simp (config := { maxSteps := 500000 }) only [↓vp, vv, implies_true, forall_const, undef, InI, ↓reduceIte, simprocAttr, c48_3, c48_2, c48_1, ChF, ChH, hj', hjB, hjn, Int.toNat_natCast, hgA, hgB, w1, y1, y2, y3, y4, q1, q2, q3, q4, nRow]; exact rng_next hj (weak_eq [] [(a, b), (a, b + 5000)] (ChF a b A B (j + 1)) (by simp (config := { maxSteps := 500000 }) only [↓vp, vv, implies_true, forall_const, undef, InI, ↓reduceIte, simprocAttr, coverS, ChF, ChH, q1, q2, q3, q4, nRow, w1, d1, d2, List.map_append, List.length_append, List.length_cons, List.length_nil]) (by simp (config := { maxSteps := 500000 }) only [↓vp, vv, implies_true, forall_const, undef, InI, ↓reduceIte, simprocAttr, refsF, ChF, ChH, q1, q2, q3, q4, nRow, w1, d1, d2, List.map_append, List.length_append, List.length_cons, List.length_nil]) (by simp (config := { maxSteps := 500000 }) only [↓vp, vv, implies_true, forall_const, undef, InI, ↓reduceIte, simprocAttr, ChF, ChH, q1, q2, q3, q4, nRow, w1, d1, d2, List.map_append, List.length_append, List.length_cons, List.length_nil]) (by simp) (by simp (config := { maxSteps := 500000 }) only [↓vp, vv, implies_true, forall_const, undef, InI, ↓reduceIte, simprocAttr, ChF, ChH, q1, q2, q3, q4, nRow, w1, d1, d2, List.map_append, List.length_append, List.length_cons, List.length_nil]; try rfl)) trivial)
  · simp (config := { maxSteps := 500000 }) only [↓vp, vv, implies_true, forall_const, undef, InI, ↓reduceIte, simprocAttr, c48_3, c48_4, r48, ChF, ChH, Int.lt_irrefl, q1, q2, q3, q4, nRow, Pu]
/-- What a function yields that reads from a source and makes two lists of truth values. -/
def RawR (i nn : Nm) (L : List (List D)) (p q : Nat) : D → Hp → Prop := fun v H' => ∃ (at' : Int) (x y : List Bool), SrcOk L at' ∧ (x.length = p ∧ y.length = q) ∧ v = .agg [.own nn p 0 p, .own (nn.1, nn.2 + 5000) q 0 q] ∧ H' = ((Hp.none.put (nn.1, nn.2 + 5000) ⟨q, 1, y.map bRow⟩).put nn ⟨p, 1, x.map bRow⟩).put i (sE L at')
theorem RawR_all (i nn : Nm) (L : List (List D)) (p q : Nat) (K : D → Hp → Prop) : (∀ v H', RawR i nn L p q v H' → K v H') = ∀ (at' : SA L) (x y : List Bool), x.length = p ∧ y.length = q → K (.agg [.own nn p 0 p, .own (nn.1, nn.2 + 5000) q 0 q]) (((Hp.none.put (nn.1, nn.2 + 5000) ⟨q, 1, y.map bRow⟩).put nn ⟨p, 1, x.map bRow⟩).put i (sE L at'.1)) :=
  propext ⟨fun h at' x y h2 => h _ _ ⟨at'.1, x, y, at'.2, h2, rfl, rfl⟩, fun h v H' ⟨at', x, y, h1, h2, e1, e2⟩ => by rw [e1, e2]; exact h ⟨at', h1⟩ x y h2⟩
def RwF (c d : Nat) (l : List (Nat × D)) : List (Nat × D) := (0, .ptr (c, d) 0 0 0) :: (3, .ptr (c + 1, 3) 0 0 0) :: (4, .ptr (c + 1, 4) 0 0 0) :: (5, .ptr (c + 1, 5) 0 0 0) :: l
def RwH (n : Net) (c d a b : Nat) (L : List (List D)) (at' : Int) (x y : List Bool) : Hp := (((((Hp.none.put (a, b + 5000) ⟨y.length, 1, y.map bRow⟩).put (a, b) ⟨x.length, 1, x.map bRow⟩).put (c + 1, 5) ⟨0, 2, [[.own (a, b) x.length 0 x.length, .own (a, b + 5000) y.length 0 y.length]]⟩).put (c + 1, 4) ⟨0, 2, [[.mt, .mt]]⟩).put (c + 1, 3) ⟨0, 6, [netD n]⟩).put (c, d) (sE L at')
theorem js_raw (c d a b : Nat) (e : En) : ∀ (j : Nm) (x : En), (Hp.none.put (c, d) e) j = some x → j ∈ [(c, d), (a, b), (a, b + 5000)] := fun j x h => by
  by_cases hj : j = (c, d)
  · rw [hj]; exact List.mem_cons_self ..
  · rw [Hp.put_other _ hj] at h; cases h
theorem js_raw' (c d a b : Nat) (e : En) : ∀ j ∈ [(c, d), (a, b), (a, b + 5000)], ((Hp.none.put (c, d) e) j).isSome = true ∨ j ∈ nms (a, b) := fun j h => by
  rcases List.mem_cons.1 h with h | h
  · rw [h, Hp.put_same]; exact .inl rfl
  · right
    simp only [List.mem_cons, List.not_mem_nil, or_false] at h
    rcases h with rfl | rfl <;> simp [nms]
set_option maxHeartbeats 16000000 in
theorem raw_o (n : Net) (hz : NetSz n) (i : Nm) (L : List (List D)) (at' : Int) (nn : Nm) (ho : SrcOk L at') (g1 : nn.1 ≤ i.1) (g2 : nn ≠ i) (g3 : (nn.1, nn.2 + 5000) ≠ i) :
    CallsA Try.prog 47 [.ptr i 0 0 0, n.enc] (Hp.none.put i (sE L at')) nn (RawR i nn L n.segs.length n.ports.length) := by
  obtain ⟨a, b⟩ := nn
  obtain ⟨c, d⟩ := i
  dsimp only at g1
  obtain ⟨code, h1, h2⟩ := c47_ok
  refine callsA_ofM T1_ok mixed (N := fun t => (c + 1, t)) Try.func47 h1 h2 r47_ok [(c, d), (a, b), (a, b + 5000)] true (js_raw c d a b _) (js_raw' c d a b _) (by simp [Try.f47]) ?_
  have zs := hz.segs
  have zp := hz.ports
  have q1 : (c + 1 = a) = False := by simp; omega
  have q2 : (a = c + 1) = False := by simp; omega
  have q3 : (b + 5000 = b) = False := by simp
  have q4 : (b = b + 5000) = False := by simp
  have q5 : ¬ (c = a ∧ d = b) := fun e => g2 (by rw [e.1, e.2])
  have q6 : ¬ (a = c ∧ b = d) := fun e => g2 (by rw [e.1, e.2])
  have q7 : ¬ (c = a ∧ d = b + 5000) := fun e => g3 (by rw [e.1, e.2])
  have q8 : ¬ (a = c ∧ b + 5000 = d) := fun e => g3 (by rw [e.1, e.2])
  have q9 : (c + 1 = c) = False := by simp
  have q10 : (c = c + 1) = False := by simp
  simp (config := { maxSteps := 500000 }) only [↓vp, vv, implies_true, forall_const, undef, InI, ↓reduceIte, simprocAttr, c47, T1, Net.enc, q1, q2, q3, q4, q5, q6, q7, q8, q9, q10]
  rw [vc_loop]
  refine ⟨fun k st => ∃ (u : SA L) (x : List Bool), x.length + k = n.segs.length ∧ st = ⟨fr (RwF c d [(6, di x.length)]), RwH n c d a b L u.1 x []⟩, ⟨n.segs.length, _, (weak_ownC (c + 1, 5) 0 2 [] [.mt] (a, b) 1 (by simp (config := { maxSteps := 500000 }) only [↓vp, vv, implies_true, forall_const, undef, InI, ↓reduceIte, simprocAttr, q1, q2, q3, q4, q5, q6, q7, q8, q9, q10]) (by simp (config := { maxSteps := 500000 }) only [↓vp, vv, implies_true, forall_const, undef, InI, ↓reduceIte, simprocAttr, q1, q2, q3, q4, q5, q6, q7, q8, q9, q10])).trans ((weak_ownC (c + 1, 5) 0 2 [.own (a, b) 0 0 0] [] (a, b + 5000) 1 (by simp (config := { maxSteps := 500000 }) only [↓vp, vv, implies_true, forall_const, undef, InI, ↓reduceIte, simprocAttr, q1, q2, q3, q4, q5, q6, q7, q8, q9, q10]) (by simp (config := { maxSteps := 500000 }) only [↓vp, vv, implies_true, forall_const, undef, InI, ↓reduceIte, simprocAttr, q1, q2, q3, q4, q5, q6, q7, q8, q9, q10])).trans (weak_eq [] [(c, d), (c + 1, 3), (c + 1, 4), (c + 1, 5), (a, b), (a, b + 5000)] (RwF c d [(6, di 0)]) (by simp (config := { maxSteps := 500000 }) only [↓vp, vv, implies_true, forall_const, undef, InI, ↓reduceIte, simprocAttr, coverS, RwF, RwH, sE, netD, bRow, q1, q2, q3, q4, q5, q6, q7, q8, q9, q10]) (by simp (config := { maxSteps := 500000 }) only [↓vp, vv, implies_true, forall_const, undef, InI, ↓reduceIte, simprocAttr, refsF, RwF, RwH, sE, netD, bRow, q1, q2, q3, q4, q5, q6, q7, q8, q9, q10]) (by simp (config := { maxSteps := 500000 }) only [↓vp, vv, implies_true, forall_const, undef, InI, ↓reduceIte, simprocAttr, RwF, RwH, sE, netD, bRow, q1, q2, q3, q4, q5, q6, q7, q8, q9, q10]) (by simp) (by simp (config := { maxSteps := 500000 }) only [↓vp, vv, implies_true, forall_const, undef, InI, ↓reduceIte, simprocAttr, RwF, RwH, sE, netD, bRow, q1, q2, q3, q4, q5, q6, q7, q8, q9, q10]; try rfl))), ⟨at', ho⟩, [], by simp, rfl⟩, ?_⟩
  rintro k st ⟨u, x, hk, rfl⟩
  have uo := u.2
  by_cases hj : (x.length : Int) < n.segs.length
  · have w1 := idx_next (j := x.length) (by omega)
    have y1 : (x.length + 1) * 1 ≤ 140737488355328 := by omega
    have y2 : x.length + 1 ≤ 4611686018427387904 := by omega
    simp (config := { maxSteps := 500000 }) only [↓vp, vv, implies_true, forall_const, undef, InI, ↓reduceIte, simprocAttr, c47_2, c47_1, T1, selI, uo, RwF, RwH, netD, hj, w1, y1, y2, q1, q2, q3, q4, q5, q6, q7, q8, q9, q10]
    intro a1 v hv
    exact ⟨k - 1, _, by omega, (weak_eq [] [(c, d), (c + 1, 3), (c + 1, 4), (c + 1, 5), (a, b), (a, b + 5000)] (RwF c d [(6, di (x.length + 1 : Nat))]) (by simp (config := { maxSteps := 500000 }) only [↓vp, vv, implies_true, forall_const, undef, InI, ↓reduceIte, simprocAttr, coverS, RwF, RwH, sE, netD, bRow, q1, q2, q3, q4, q5, q6, q7, q8, q9, q10, w1, List.map_append, List.length_append, List.length_cons, List.length_nil]) (by simp (config := { maxSteps := 500000 }) only [↓vp, vv, implies_true, forall_const, undef, InI, ↓reduceIte, simprocAttr, refsF, RwF, RwH, sE, netD, bRow, q1, q2, q3, q4, q5, q6, q7, q8, q9, q10, w1, List.map_append, List.length_append, List.length_cons, List.length_nil]) (by simp (config := { maxSteps := 500000 }) only [↓vp, vv, implies_true, forall_const, undef, InI, ↓reduceIte, simprocAttr, RwF, RwH, sE, netD, bRow, q1, q2, q3, q4, q5, q6, q7, q8, q9, q10, w1, List.map_append, List.length_append, List.length_cons, List.length_nil]) (by simp) (by simp (config := { maxSteps := 500000 }) only [↓vp, vv, implies_true, forall_const, undef, InI, ↓reduceIte, simprocAttr, RwF, RwH, sE, netD, bRow, q1, q2, q3, q4, q5, q6, q7, q8, q9, q10, w1, List.map_append, List.length_append, List.length_cons, List.length_nil]; try rfl)), a1, x ++ [v == 0], by simp; omega, by simp [RwF, RwH, sE, bRow, netD]⟩
  · simp (config := { maxSteps := 500000 }) only [↓vp, vv, implies_true, forall_const, undef, InI, ↓reduceIte, simprocAttr, c47_2, c47_6, RwF, RwH, netD, hj, q1, q2, q3, q4, q5, q6, q7, q8, q9, q10]
    have hxl : x.length = n.segs.length := by omega
    rw [vc_loop]
    refine ⟨fun k st => ∃ (u : SA L) (y : List Bool), y.length + k = n.ports.length ∧ st = ⟨fr (RwF c d [(7, di y.length)]), RwH n c d a b L u.1 x y⟩, ⟨n.ports.length, _, (weak_eq [] [(c, d), (c + 1, 3), (c + 1, 4), (c + 1, 5), (a, b), (a, b + 5000)] (RwF c d [(7, di 0)]) (by simp (config := { maxSteps := 500000 }) only [↓vp, vv, implies_true, forall_const, undef, InI, ↓reduceIte, simprocAttr, coverS, RwF, RwH, sE, netD, bRow, q1, q2, q3, q4, q5, q6, q7, q8, q9, q10]) (by simp (config := { maxSteps := 500000 }) only [↓vp, vv, implies_true, forall_const, undef, InI, ↓reduceIte, simprocAttr, refsF, RwF, RwH, sE, netD, bRow, q1, q2, q3, q4, q5, q6, q7, q8, q9, q10]) (by simp (config := { maxSteps := 500000 }) only [↓vp, vv, implies_true, forall_const, undef, InI, ↓reduceIte, simprocAttr, RwF, RwH, sE, netD, bRow, q1, q2, q3, q4, q5, q6, q7, q8, q9, q10]) (by simp) (by simp (config := { maxSteps := 500000 }) only [↓vp, vv, implies_true, forall_const, undef, InI, ↓reduceIte, simprocAttr, RwF, RwH, sE, netD, bRow, q1, q2, q3, q4, q5, q6, q7, q8, q9, q10]; try rfl)), u, [], by simp, rfl⟩, ?_⟩
    rintro k st ⟨u, y, hk, rfl⟩
    have uo := u.2
    by_cases hj : (y.length : Int) < n.ports.length
    · have w1 := idx_next (j := y.length) (by omega)
      have y1 : (y.length + 1) * 1 ≤ 140737488355328 := by omega
      have y2 : y.length + 1 ≤ 4611686018427387904 := by omega
      simp (config := { maxSteps := 500000 }) only [↓vp, vv, implies_true, forall_const, undef, InI, ↓reduceIte, simprocAttr, c47_4, c47_3, T1, selI, uo, RwF, RwH, netD, hj, w1, y1, y2, q1, q2, q3, q4, q5, q6, q7, q8, q9, q10]
      intro a1 v hv
      exact ⟨k - 1, _, by omega, (weak_eq [] [(c, d), (c + 1, 3), (c + 1, 4), (c + 1, 5), (a, b), (a, b + 5000)] (RwF c d [(7, di (y.length + 1 : Nat))]) (by simp (config := { maxSteps := 500000 }) only [↓vp, vv, implies_true, forall_const, undef, InI, ↓reduceIte, simprocAttr, coverS, RwF, RwH, sE, netD, bRow, q1, q2, q3, q4, q5, q6, q7, q8, q9, q10, w1, List.map_append, List.length_append, List.length_cons, List.length_nil]) (by simp (config := { maxSteps := 500000 }) only [↓vp, vv, implies_true, forall_const, undef, InI, ↓reduceIte, simprocAttr, refsF, RwF, RwH, sE, netD, bRow, q1, q2, q3, q4, q5, q6, q7, q8, q9, q10, w1, List.map_append, List.length_append, List.length_cons, List.length_nil]) (by simp (config := { maxSteps := 500000 }) only [↓vp, vv, implies_true, forall_const, undef, InI, ↓reduceIte, simprocAttr, RwF, RwH, sE, netD, bRow, q1, q2, q3, q4, q5, q6, q7, q8, q9, q10, w1, List.map_append, List.length_append, List.length_cons, List.length_nil]) (by simp) (by simp (config := { maxSteps := 500000 }) only [↓vp, vv, implies_true, forall_const, undef, InI, ↓reduceIte, simprocAttr, RwF, RwH, sE, netD, bRow, q1, q2, q3, q4, q5, q6, q7, q8, q9, q10, w1, List.map_append, List.length_append, List.length_cons, List.length_nil]; try rfl)), a1, y ++ [v == 0], by simp; omega, by simp [RwF, RwH, sE, bRow, netD]⟩
    · have hyl : y.length = n.ports.length := by omega
      rw [← hxl, ← hyl]
      simp (config := { maxSteps := 500000 }) only [↓vp, vv, implies_true, forall_const, undef, InI, ↓reduceIte, simprocAttr, c47_4, c47_5, r47, RwF, RwH, netD, hj, q1, q2, q3, q4, q5, q6, q7, q8, q9, q10]
      exact ⟨⟨fun _ _ => rfl, fun _ _ => rfl⟩, u.1, x, y, uo, ⟨rfl, rfl⟩, rfl, rfl⟩
end Go.Proofs.Ytfkhjkkhdfcnjaa
