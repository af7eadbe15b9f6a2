/- TicketMade: CtM. -/
import Derived.Test.YtehmmnnmkapfeaaDoorCm11
set_option linter.unusedSimpArgs false
set_option linter.unusedVariables false
set_option maxRecDepth 100000

/- TicketMade: the walk. -/
namespace Go.Proofs.YtehmmnnmkapfeaaDoor
open Go
theorem few_d (L : List (List D)) (nn : Nm) : CallsA Tryd.prog 9 [.sl L] Hp.none nn (Pu (db (decide ((L.length : Int) ≤ 400))) Hp.none) := by
  obtain ⟨code, h1, h2⟩ := c9_ok
  refine callsA_of (T0_ok _) mixed (N := fun t => (0, t)) Tryd.func9 h1 h2 r9_ok [] false js_nil js_nil' (by simp [Tryd.f9]) ?_
  simp (maxSteps:=500000) only [↓vp, vv, ↓reduceIte, simprocAttr, c9, r9, Pu]
def selFx : List D → Option (Prop × D)
  | [.sl L] => some (True, db (decide ((L.length : Int) ≤ 400)))
  | _ => Option.none
theorem tc_fewd {T : Tbl} (hT : TblOk Tryd.prog T) : TblOk Tryd.prog (tc 9 (rowPu selFx) T) :=
  tc_pu f9_ok (fun args pre d h hp nn => by
    unfold selFx at h
    split at h <;> cases h
    exact few_d _ nn) hT
theorem tc_awm {T : Tbl} (hT : TblOk Tryd.prog T) : TblOk Tryd.prog (tc 10 (rowPu selAw) T) :=
  tc_pu f10_ok (fun args pre d h hp nn => by
    unfold selAw at h
    split at h <;> cases h
    exact awake37_c nn) hT
theorem mod_d (x n : Int) (hn : InI n) (nn : Nm) : CallsA Tryd.prog 17 [di x, di n] Hp.none nn (Pu (di (modI x n)) Hp.none) := by
  obtain ⟨code, h1, h2⟩ := c17_ok
  refine callsA_of TN_ok mixed (N := fun t => (0, t)) Tryd.func17 h1 h2 r17_ok [] false js_nil js_nil' (by simp [Tryd.f17]) ?_
  simp (maxSteps:=500000) only [↓vp, vv, ↓reduceIte, simprocAttr, c17, r17, r17, TN, selMod, hn, Pu]
theorem tc_modd {T : Tbl} (hT : TblOk Tryd.prog T) : TblOk Tryd.prog (tc 17 (rowPu selMod) T) :=
  tc_pu f17_ok (fun args pre d h hp nn => by
    unfold selMod at h
    split at h <;> cases h
    exact mod_d _ _ hp nn) hT
theorem tc_n {T : Tbl} (hT : TblOk Tryd.prog T) : TblOk Tryd.prog (tc 14 (rowSrc (selI InI NPost) di) T) :=
  tc_src f14_ok (fun args pre post h hp => by
    unfold selI at h
    split at h <;> cases h
    exact ⟨⟨_, modI_in 0 _⟩, N_c _ hp⟩) hT
def TmA : Tbl := tc 19 (rowPu selMk) (tc 20 (rowPu selMk) (tc 24 (rowPu selCk) (tc 25 (rowPu selCk) (tc 26 (rowPu selTt) (tc 27 (rowPu selTt) (tc 21 rowChn (tc 22 rowChn (tc 23 (rowPu selSm) T0))))))))
def TmT : Tbl := tc 9 (rowPu selFx) (tc 10 (rowPu selAw) (tc 11 rowNew (tc 12 (rowSrc (sel0 MtrOk) Mtr.enc) (tc 13 (rowSrc selPd Prd.enc) (tc 14 (rowSrc (selI InI NPost) di) (tc 16 (rowSrc (sel0 CndIn) Cnd.enc) (tc 18 (rowSrc selOdd Prd.enc) (tc 15 rowCts (tc 17 (rowPu selMod) TmA)))))))))
theorem TmT_ok : TblOk Tryd.prog TmT := tc_fewd (tc_awm (tc_new (tc_meter (tc_prod (tc_n (tc_cond (tc_odd (tc_cts (tc_modd (tc_mk (tc_rmk (tc_ck (tc_rck (tc_tt (tc_rtt (tc_chn (tc_rchn (tc_sm (T0_ok _)))))))))))))))))))
def TmF3 (bt : Int) (g n : Nat) (e : List (Nat × D)) : List (Nat × D) := (8, .ptr (0, 8) 0 0 0) :: (9, .ptr (0, 9) 0 0 0) :: (10, di bt) :: (16, .ptr (0, 16) 0 0 0) :: (21, .own (0, 161) g 0 n) :: e
def TmH3 (m : Mtr) (p : Prd) (b : Tic) (v : List Tic) (g : Nat) : Hp := (((Hp.none.put (0, 161) ⟨g, 8, v.map Tic.row⟩).put (0, 16) ⟨0, 8, [b.row]⟩).put (0, 9) ⟨0, 5, [p.row]⟩).put (0, 8) ⟨0, 3, [m.row]⟩
theorem tic_pm (x : List Tic) : ∀ j : Tic, j ∈ x → ∀ d : D, d ∈ j.row → d.plain = true := fun j hj d hd => tic_plain x _ (List.mem_map.2 ⟨j, hj, rfl⟩) d hd
set_option maxHeartbeats 16000000 in
theorem tm_3 (m : Mtr) (p : Prd) (b : Tic) (v : List Tic) (hv : v.length ≤ 1000) (g : Nat) (bt : Int) :
    vc TmT (fun t => (0, t)) [] c3_3 (finQ r3 [] false (Pu (db true) Hp.none)) ⟨fr (TmF3 bt g v.length []), TmH3 m p b v g⟩ := by
  have fT := fun x : List Tic => flatRs_map Tic.row (fun _ => rfl) x
  have y1 : (v.length + 1) * 64 ≤ 140737488355328 := by omega
  have y2 : v.length + 1 ≤ 4611686018427387904 := by omega
  have e1 : v.map Tic.row ++ [[di b.ba, di b.fl, di b.fp, di b.tl, di b.tp, di b.te, di b.pr, di b.vol]] = (v ++ [b]).map Tic.row := by rw [List.map_append]; rfl
  have t1 : (v.map Tic.row).take v.length = v.map Tic.row := List.take_of_length_le (by simp)
  have t2 : ((v ++ [b]).map Tic.row).take (v.length + 1) = (v ++ [b]).map Tic.row := List.take_of_length_le (by simp)
  have t3 : ((v ++ [b]).map Tic.row).take v.length = v.map Tic.row := by rw [← List.map_take, List.take_left]
  have n1 : (v ++ [b]).length ≤ 1000000 := by simp; omega
  have s1 : ticsOf [[di b.ba, di b.fl, di b.fp, di b.tl, di b.tp, di b.te, di b.pr, di b.vol]] = some [b] := rfl
  have s2 : [b].length ≤ 1000000 := by simp
  by_cases h0 : v = []
  · subst h0
    simp (maxSteps:=500000) only [↓vp, vv, ↓reduceIte, simprocAttr, c3_3, r3, TmT, TmA, selCk, selTt, selX, decMPT, decTI, TtOk, tt, mtrOf_x, prdOf_x, tcOf_x, s1, s2, TmF3, TmH3, Mtr.row, Prd.row, Tic.row, beq_self_eq_true, selAw, Pu]
  · have h1 : (v.map Tic.row = []) = False := eq_false fun e => h0 (List.map_eq_nil_iff.1 e)
    have h2 : ((v ++ [b]).map Tic.row = []) = False := eq_false fun e => by simp at e
    have h3 : (v.length = 0) = False := eq_false fun e => h0 (List.length_eq_zero_iff.1 e)
    have l1 : v.length ≤ (v ++ [b]).length := by simp
    simp (maxSteps:=500000) only [↓vp, vv, ↓reduceIte, simprocAttr, c3_3, r3, TmT, TmA, selCk, selTt, selX, decMPT, decTI, TtOk, tt, mtrOf_x, prdOf_x, tcOf_x, ticsOf_map, fT, t1, t2, t3, e1, h1, h2, h3, l1, n1, y1, y2, TmF3, TmH3, Mtr.row, Prd.row, Tic.row, beq_self_eq_true, selAw, Pu]
    exact ⟨⟨by omega, by omega, by omega⟩, by omega⟩
def TmF4 (odd by' bt : Int) (g n : Nat) (e : List (Nat × D)) : List (Nat × D) := (1, di odd) :: (2, di by') :: TmF3 bt g n e
theorem mod12 (x : Int) : 0 ≤ modI x 12 ∧ modI x 12 < 12 := ⟨(modI_in x 12).1, (modI_in x 12).2.1 (by omega)⟩
set_option maxHeartbeats 16000000 in
theorem tm_4 (m : Mtr) (p : Prd) (b : Tic) (v : List Tic) (hv : v.length ≤ 1000) (g : Nat) (odd by' bt : Int) :
    vc TmT (fun t => (0, t)) [] c3_4 (finQ r3 [] false (Pu (db true) Hp.none)) ⟨fr (TmF4 odd by' bt g v.length []), TmH3 m p b v g⟩ := by
  have hc := mod12 odd
  have h9 := (modI_in by' 9)
  obtain ⟨c, hcc⟩ : ∃ c, modI odd 12 = c := ⟨_, rfl⟩
  rw [hcc] at hc
  have fin := fun b' => tm_3 m p b' v hv g bt
  by_cases c7 : c = 7
  · subst c7
    simp (maxSteps:=500000) only [↓vp, vv, ↓reduceIte, simprocAttr, c3_4, TmT, TmA, selMod, hcc, TmF4, TmF3, TmH3, Mtr.row, Prd.row, Tic.row]
    exact vc_wk (weak_eq [] [(0, 8), (0, 9), (0, 16), (0, 161)] (TmF3 bt g v.length []) (by simp (maxSteps:=500000) only [↓vp, vv, ↓reduceIte, simprocAttr, coverS, TmF3, TmH3, Mtr.row, Prd.row, Tic.row]) (by simp (maxSteps:=500000) only [↓vp, vv, ↓reduceIte, simprocAttr, refsF, TmF3, TmH3, Mtr.row, Prd.row, Tic.row]) (by simp (maxSteps:=500000) only [↓vp, vv, ↓reduceIte, simprocAttr, TmF3, TmH3, Mtr.row, Prd.row, Tic.row]) (by simp) (by simp (maxSteps:=500000) only [↓vp, vv, ↓reduceIte, simprocAttr, TmF3, TmH3, Mtr.row, Prd.row, Tic.row]; try rfl)) (fin ⟨b.ba, b.fl, b.fp, b.tl, b.tp, b.te, b.pr, IntKind.i64.wrap (b.vol + 1)⟩)
  by_cases c8 : c = 8
  · subst c8
    simp (maxSteps:=500000) only [↓vp, vv, ↓reduceIte, simprocAttr, c3_4, TmT, TmA, selMod, hcc, TmF4, TmF3, TmH3, Mtr.row, Prd.row, Tic.row]
    exact vc_wk (weak_eq [] [(0, 8), (0, 9), (0, 16), (0, 161)] (TmF3 bt g v.length []) (by simp (maxSteps:=500000) only [↓vp, vv, ↓reduceIte, simprocAttr, coverS, TmF3, TmH3, Mtr.row, Prd.row, Tic.row]) (by simp (maxSteps:=500000) only [↓vp, vv, ↓reduceIte, simprocAttr, refsF, TmF3, TmH3, Mtr.row, Prd.row, Tic.row]) (by simp (maxSteps:=500000) only [↓vp, vv, ↓reduceIte, simprocAttr, TmF3, TmH3, Mtr.row, Prd.row, Tic.row]) (by simp) (by simp (maxSteps:=500000) only [↓vp, vv, ↓reduceIte, simprocAttr, TmF3, TmH3, Mtr.row, Prd.row, Tic.row]; try rfl)) (fin ⟨IntKind.i64.wrap (modI by' 9 - 1), b.fl, b.fp, b.tl, b.tp, b.te, b.pr, b.vol⟩)
  by_cases c9 : c = 9
  · subst c9
    simp (maxSteps:=500000) only [↓vp, vv, ↓reduceIte, simprocAttr, c3_4, TmT, TmA, selMod, hcc, TmF4, TmF3, TmH3, Mtr.row, Prd.row, Tic.row]
    exact vc_wk (weak_eq [] [(0, 8), (0, 9), (0, 16), (0, 161)] (TmF3 bt g v.length []) (by simp (maxSteps:=500000) only [↓vp, vv, ↓reduceIte, simprocAttr, coverS, TmF3, TmH3, Mtr.row, Prd.row, Tic.row]) (by simp (maxSteps:=500000) only [↓vp, vv, ↓reduceIte, simprocAttr, refsF, TmF3, TmH3, Mtr.row, Prd.row, Tic.row]) (by simp (maxSteps:=500000) only [↓vp, vv, ↓reduceIte, simprocAttr, TmF3, TmH3, Mtr.row, Prd.row, Tic.row]) (by simp) (by simp (maxSteps:=500000) only [↓vp, vv, ↓reduceIte, simprocAttr, TmF3, TmH3, Mtr.row, Prd.row, Tic.row]; try rfl)) (fin ⟨b.ba, b.fl, b.fp, b.tl, b.tp, b.te, modI by' 300, b.vol⟩)
  have q7 : (c == 7) = false := by rw [beq_eq_false_iff_ne]; exact c7
  have q8 : (c == 8) = false := by rw [beq_eq_false_iff_ne]; exact c8
  have q9 : (c == 9) = false := by rw [beq_eq_false_iff_ne]; exact c9
  simp (maxSteps:=500000) only [↓vp, vv, ↓reduceIte, simprocAttr, c3_4, TmT, TmA, selMod, hcc, TmF4, TmF3, TmH3, Mtr.row, Prd.row, Tic.row, q7, q8, q9]
  exact vc_wk (weak_eq [] [(0, 8), (0, 9), (0, 16), (0, 161)] (TmF3 bt g v.length []) (by simp (maxSteps:=500000) only [↓vp, vv, ↓reduceIte, simprocAttr, coverS, TmF3, TmH3, Mtr.row, Prd.row, Tic.row]) (by simp (maxSteps:=500000) only [↓vp, vv, ↓reduceIte, simprocAttr, refsF, TmF3, TmH3, Mtr.row, Prd.row, Tic.row]) (by simp (maxSteps:=500000) only [↓vp, vv, ↓reduceIte, simprocAttr, TmF3, TmH3, Mtr.row, Prd.row, Tic.row]) (by simp) (by simp (maxSteps:=500000) only [↓vp, vv, ↓reduceIte, simprocAttr, TmF3, TmH3, Mtr.row, Prd.row, Tic.row]; try rfl)) (fin b)
theorem chR_allE (nn : Nm) (ys : List Tic) (r : Run) (e : Int) (he : e ≠ 0) (K : D → Hp → Prop) : (∀ v H', ChR nn (ys, r, e) v H' → K v H') = (K (.tup [.mt, .agg [di r.vol, di r.rest], di e]) Hp.none ∧ ∀ (g : Nat) (l : List Tic), K (.tup [.mt, .agg [di r.vol, di r.rest], di e]) (Hp.none.put nn ⟨g, 8, l.map Tic.row⟩)) :=
  propext ⟨fun h => ⟨h _ _ (.inl ⟨he, rfl, .inl rfl⟩), fun g l => h _ _ (.inl ⟨he, rfl, .inr ⟨g, l, rfl⟩⟩)⟩, fun h v H' hv => by
    rcases hv with ⟨_, rfl, rfl | ⟨g, l, rfl⟩⟩ | ⟨h1, _⟩
    · exact h.1
    · exact h.2 g l
    · exact absurd h1 he⟩
theorem chR_allO (nn : Nm) (ts : List Tic) (r : Run) (K : D → Hp → Prop) : (∀ v H', ChR nn (ts, r, 0) v H' → K v H') = ∀ g : Nat, K (.tup [.own nn g 0 ts.length, .agg [di r.vol, di r.rest], di 0]) (Hp.none.put nn ⟨g, 8, ts.map Tic.row⟩) :=
  propext ⟨fun h g => h _ _ (.inr ⟨rfl, g, rfl, rfl⟩), fun h v H' hv => by
    rcases hv with ⟨h1, _⟩ | ⟨_, g, rfl, rfl⟩
    · exact absurd rfl h1
    · exact h g⟩
theorem chGo_len (m : Mtr) (p : Prd) (b : Int) (cs : List Cnt) : ∀ (l : List Cnd) (i : Nat) (r : Run) (out : List Tic), (chGo m p b cs l i r out).1.length ≤ out.length + l.length
  | [], i, r, out => by rw [chGo]; simp
  | c :: l, i, r, out => by
    rw [chGo]
    split
    · have := chGo_len m p b cs l (i + 1) (stepI m p b r (cs.getD i ⟨0, 0⟩) (cs.getD (i + 1) ⟨0, 0⟩) c).2.1 (out ++ [(stepI m p b r (cs.getD i ⟨0, 0⟩) (cs.getD (i + 1) ⟨0, 0⟩) c).1])
      simp only [List.length_append, List.length_cons, List.length_nil] at this ⊢
      omega
    · simp
theorem chI_len (m : Mtr) (p : Prd) (b : Int) (cs : List Cnt) (l : List Cnd) : (chI m p b cs l).1.length ≤ l.length := by
  unfold chI
  split
  · split
    · have := chGo_len m p b cs l 0 Run.zero []
      simpa using this
    · simp
  · simp
def TmFm (odd by' bt : Int) : List (Nat × D) := [(1, di odd), (2, di by'), (8, .ptr (0, 8) 0 0 0), (9, .ptr (0, 9) 0 0 0), (10, di bt), (16, .ptr (0, 16) 0 0 0), (21, .mt)]
def TmHm (m : Mtr) (p : Prd) (b : Tic) : Hp := ((Hp.none.put (0, 16) ⟨0, 8, [b.row]⟩).put (0, 9) ⟨0, 5, [p.row]⟩).put (0, 8) ⟨0, 3, [m.row]⟩
set_option maxHeartbeats 16000000 in
theorem tm_mt (m : Mtr) (p : Prd) (b : Tic) (odd by' bt : Int) : Weak [] ⟨fr (TmFm odd by' bt), TmHm m p b⟩ ⟨fr (TmF4 odd by' bt 0 0 []), TmH3 m p b [] 0⟩ :=
  (weak_own 21 (0, 161) 8 (by simp (maxSteps:=500000) only [↓vp, vv, ↓reduceIte, simprocAttr, TmFm]) (by simp (maxSteps:=500000) only [↓vp, vv, ↓reduceIte, simprocAttr, TmHm])).trans (weak_eq [] [(0, 8), (0, 9), (0, 16), (0, 161)] (TmF4 odd by' bt 0 0 []) (by simp (maxSteps:=500000) only [↓vp, vv, ↓reduceIte, simprocAttr, coverS, TmFm, TmHm, TmF4, TmF3, TmH3, Mtr.row, Prd.row, Tic.row, List.map_nil]) (by simp (maxSteps:=500000) only [↓vp, vv, ↓reduceIte, simprocAttr, refsF, TmFm, TmHm, TmF4, TmF3, TmH3, Mtr.row, Prd.row, Tic.row, List.map_nil]) (by simp (maxSteps:=500000) only [↓vp, vv, ↓reduceIte, simprocAttr, TmFm, TmHm, TmF4, TmF3, TmH3, Mtr.row, Prd.row, Tic.row, List.map_nil]) (by simp) (by simp (maxSteps:=500000) only [↓vp, vv, ↓reduceIte, simprocAttr, TmFm, TmHm, TmF4, TmF3, TmH3, Mtr.row, Prd.row, Tic.row, List.map_nil]; try rfl))
def TmF5 (odd by' bt : Int) (cs : List Cnt) (gc g n : Nat) : List (Nat × D) := [(1, di odd), (2, di by'), (8, .ptr (0, 8) 0 0 0), (9, .ptr (0, 9) 0 0 0), (10, di bt), (11, .own (0, 38) gc 0 cs.length), (12, .own (0, 49) g 0 n)]
def TmH5 (m : Mtr) (p : Prd) (cs : List Cnt) (gc : Nat) (l : List Cnd) (g : Nat) : Hp := (((Hp.none.put (0, 49) ⟨g, 2, l.map Cnd.row⟩).put (0, 38) ⟨gc, 2, cs.map Cnt.row⟩).put (0, 9) ⟨0, 5, [p.row]⟩).put (0, 8) ⟨0, 3, [m.row]⟩
set_option maxHeartbeats 16000000 in
theorem tm_5 (m : Mtr) (p : Prd) (cs : List Cnt) (gc : Nat) (l : List Cnd) (g : Nat) (hcs : 1 ≤ cs.length ∧ cs.length ≤ 10) (hl : 1 ≤ l.length ∧ l.length ≤ 10) (odd by' bt : Int) :
    vc TmT (fun t => (0, t)) [] c3_5 (finQ r3 [] false (Pu (db true) Hp.none)) ⟨fr (TmF5 odd by' bt cs gc g l.length), TmH5 m p cs gc l g⟩ := by
  have fT := fun x : List Tic => flatRs_map Tic.row (fun _ => rfl) x
  have p1 : ∀ j : Cnt, j ∈ cs → ∀ d : D, d ∈ j.row → d.plain = true := fun j _ d hd => by
    simp only [Cnt.row, List.mem_cons, List.not_mem_nil, or_false] at hd
    rcases hd with rfl | rfl <;> rfl
  have p2 : ∀ j : Cnd, j ∈ l → ∀ d : D, d ∈ j.row → d.plain = true := fun j _ d hd => by
    simp only [Cnd.row, List.mem_cons, List.not_mem_nil, or_false] at hd
    rcases hd with rfl | rfl <;> rfl
  have t1 : (cs.map Cnt.row).take cs.length = cs.map Cnt.row := List.take_of_length_le (by simp)
  have t2 : (l.map Cnd.row).take (l.length - 1) = (l.take (l.length - 1)).map Cnd.row := List.map_take.symm
  have g0 := cn_get (cs := cs) (j := 0) (by omega)
  have g1 := cn_get (cs := cs) (j := cs.length - 1) (by omega)
  have g2 := cd_get (l := l) (j := 0) (by omega)
  generalize cnA cs 0 = x at g0
  generalize cnA cs (cs.length - 1) = y at g1
  generalize cdA l 0 = d at g2
  have w1 : IntKind.i64.wrap ((cs.length : Int) - 1) = ((cs.length - 1 : Nat) : Int) := by rw [wrap_i (by omega)]; omega
  have w2 : IntKind.i64.wrap ((l.length : Int) - 1) = ((l.length - 1 : Nat) : Int) := by rw [wrap_i (by omega)]; omega
  have c1 : 0 < cs.length := by omega
  have c1' : (0 : Int) < cs.length := by omega
  have c2 : cs.length - 1 < cs.length := by omega
  have c2' : ((cs.length - 1 : Nat) : Int) < cs.length := by omega
  have c3 : 0 < l.length := by omega
  have c3' : (0 : Int) < l.length := by omega
  have c4 : l.length - 1 ≤ l.length := by omega
  have c4' : ((l.length - 1 : Nat) : Int) ≤ l.length := by omega
  have c5 : l.length - 1 - 0 = l.length - 1 := rfl
  have b1 : cs.length ≤ 1000000 := by omega
  have b2 : (l.take (l.length - 1)).length ≤ 1000000 := by rw [List.length_take]; omega
  have yl := chI_len m p bt cs (l.take (l.length - 1))
  rw [List.length_take] at yl
  generalize hY : chI m p bt cs (l.take (l.length - 1)) = Y at yl
  obtain ⟨X, hX⟩ : ∃ X, makI m p bt x y d = X := ⟨_, rfl⟩
  obtain ⟨a, e⟩ := X
  obtain ⟨ys, r, e'⟩ := Y
  dsimp only at yl
  have tE : ticE a a = true := by rw [ticE_eq]; exact decide_eq_true rfl
  by_cases he : e' = 0
  · subst he
    have t3 : (ys.map Tic.row).take ys.length = ys.map Tic.row := List.take_of_length_le (by simp)
    have yb : ys.length ≤ 1000000 := by omega
    simp (maxSteps:=500000) only [↓vp, vv, ↓reduceIte, simprocAttr, c3_5, r3, TmT, TmA, chR_allO, t3, yb, fT, eq_true (tic_pm ys), selMk, selX, selSm, decTT, SmOk, decMk, te2, tt, rowChn, decCh, ChOk, mtrOf_x, prdOf_x, cntOf_x, cndOf_x, cntsOf_map, cndsOf_map, ticsOf_map, ticsOf, eq_true p1, eq_true p2, t1, t2, g0, g1, g2, w1, w2, c1, c1', c2, c2', c3, c3', c4, c4', b1, b2, hX, hY, TmF5, TmH5, Mtr.row, Prd.row, Tic.enc, Tic.row, idx_nn, Int.toNat_natCast, Nat.sub_zero, bne_self_eq_false, eqL_tic, tE, eqL, eqOne, beq_self_eq_true, decide_true, Bool.not_true]
    intro g1 g2
    exact vc_wk (weak_eq [] [(0, 8), (0, 9), (0, 16), (0, 161)] (TmF4 odd by' bt g2 ys.length []) (by simp (maxSteps:=500000) only [↓vp, vv, ↓reduceIte, simprocAttr, coverS, TmF4, TmF3, TmH3, Mtr.row, Prd.row, Tic.row]) (by simp (maxSteps:=500000) only [↓vp, vv, ↓reduceIte, simprocAttr, refsF, TmF4, TmF3, TmH3, Mtr.row, Prd.row, Tic.row]) (by simp (maxSteps:=500000) only [↓vp, vv, ↓reduceIte, simprocAttr, TmF4, TmF3, TmH3, Mtr.row, Prd.row, Tic.row]) (by simp) (by simp (maxSteps:=500000) only [↓vp, vv, ↓reduceIte, simprocAttr, TmF4, TmF3, TmH3, Mtr.row, Prd.row, Tic.row]; try rfl)) (tm_4 m p a ys (by omega) g2 odd by' bt)
  · have aE := fun (nn : Nm) (K : D → Hp → Prop) => chR_allE nn ys r e' he K
    have nl : ([] : List (List D)).length ≤ 1000000 := by simp
    simp (maxSteps:=500000) only [↓vp, vv, ↓reduceIte, simprocAttr, c3_5, r3, TmT, TmA, aE, fT, List.map_nil, selMk, selX, selSm, decTT, SmOk, decMk, te2, tt, rowChn, decCh, ChOk, mtrOf_x, prdOf_x, cntOf_x, cndOf_x, cntsOf_map, cndsOf_map, ticsOf_map, ticsOf, eq_true p1, eq_true p2, t1, t2, g0, g1, g2, w1, w2, c1, c1', c2, c2', c3, c3', c4, c4', b1, b2, hX, hY, TmF5, TmH5, Mtr.row, Prd.row, Tic.enc, Tic.row, idx_nn, Int.toNat_natCast, Nat.sub_zero, bne_self_eq_false, eqL_tic, tE, eqL, eqOne, beq_self_eq_true, decide_true, Bool.not_true]
    have fin := tm_4 m p a [] (by simp) 0 odd by' bt
    exact ⟨⟨vc_wk ((weak_eq [] [(0, 8), (0, 9), (0, 16)] (TmFm odd by' bt) (by simp (maxSteps:=500000) only [↓vp, vv, ↓reduceIte, simprocAttr, coverS, TmFm, TmHm, Mtr.row, Prd.row, Tic.row]) (by simp (maxSteps:=500000) only [↓vp, vv, ↓reduceIte, simprocAttr, refsF, TmFm, TmHm, Mtr.row, Prd.row, Tic.row]) (by simp (maxSteps:=500000) only [↓vp, vv, ↓reduceIte, simprocAttr, TmFm, TmHm, Mtr.row, Prd.row, Tic.row]) (by simp) (by simp (maxSteps:=500000) only [↓vp, vv, ↓reduceIte, simprocAttr, TmFm, TmHm, Mtr.row, Prd.row, Tic.row]; try rfl)).trans (tm_mt m p a odd by' bt)) fin, fun g l => vc_wk ((weak_eq [] [(0, 8), (0, 9), (0, 16)] (TmFm odd by' bt) (by simp (maxSteps:=500000) only [↓vp, vv, ↓reduceIte, simprocAttr, coverS, TmFm, TmHm, Mtr.row, Prd.row, Tic.row]) (by simp (maxSteps:=500000) only [↓vp, vv, ↓reduceIte, simprocAttr, refsF, TmFm, TmHm, Mtr.row, Prd.row, Tic.row]) (by simp (maxSteps:=500000) only [↓vp, vv, ↓reduceIte, simprocAttr, TmFm, TmHm, Mtr.row, Prd.row, Tic.row]) (by simp) (by simp (maxSteps:=500000) only [↓vp, vv, ↓reduceIte, simprocAttr, TmFm, TmHm, Mtr.row, Prd.row, Tic.row]; try rfl)).trans (tm_mt m p a odd by' bt)) fin⟩, fun g l => ⟨vc_wk ((weak_eq [] [(0, 8), (0, 9), (0, 16)] (TmFm odd by' bt) (by simp (maxSteps:=500000) only [↓vp, vv, ↓reduceIte, simprocAttr, coverS, TmFm, TmHm, Mtr.row, Prd.row, Tic.row]) (by simp (maxSteps:=500000) only [↓vp, vv, ↓reduceIte, simprocAttr, refsF, TmFm, TmHm, Mtr.row, Prd.row, Tic.row]) (by simp (maxSteps:=500000) only [↓vp, vv, ↓reduceIte, simprocAttr, TmFm, TmHm, Mtr.row, Prd.row, Tic.row]) (by simp) (by simp (maxSteps:=500000) only [↓vp, vv, ↓reduceIte, simprocAttr, TmFm, TmHm, Mtr.row, Prd.row, Tic.row]; try rfl)).trans (tm_mt m p a odd by' bt)) fin, fun g' l' => vc_wk ((weak_eq [] [(0, 8), (0, 9), (0, 16)] (TmFm odd by' bt) (by simp (maxSteps:=500000) only [↓vp, vv, ↓reduceIte, simprocAttr, coverS, TmFm, TmHm, Mtr.row, Prd.row, Tic.row]) (by simp (maxSteps:=500000) only [↓vp, vv, ↓reduceIte, simprocAttr, refsF, TmFm, TmHm, Mtr.row, Prd.row, Tic.row]) (by simp (maxSteps:=500000) only [↓vp, vv, ↓reduceIte, simprocAttr, TmFm, TmHm, Mtr.row, Prd.row, Tic.row]) (by simp) (by simp (maxSteps:=500000) only [↓vp, vv, ↓reduceIte, simprocAttr, TmFm, TmHm, Mtr.row, Prd.row, Tic.row]; try rfl)).trans (tm_mt m p a odd by' bt)) fin⟩⟩
def TmF6 (odd by' bt : Int) (cs : List Cnt) (gc g n : Nat) (e : List (Nat × D)) : List (Nat × D) := (1, di odd) :: (2, di by') :: (7, .ptr (0, 29) 0 0 0) :: (8, .ptr (0, 8) 0 0 0) :: (9, .ptr (0, 9) 0 0 0) :: (10, di bt) :: (11, .own (0, 38) gc 0 cs.length) :: (12, .own (0, 49) g 0 n) :: e
def TmH6 (m : Mtr) (p : Prd) (cs : List Cnt) (gc : Nat) (l : List Cnd) (g : Nat) (L : List (List D)) (at' : Int) : Hp := (TmH5 m p cs gc l g).put (0, 29) (sE L at')
theorem cn_set (l : List Cnt) (i : Nat) (a b : Int) : (l.map Cnt.row).set i [di a, di b] = (l.set i ⟨a, b⟩).map Cnt.row := by rw [List.map_set]; rfl
theorem cd_setd (l : List Cnd) (i : Nat) (a b : Int) : (l.map Cnd.row).set i [di a, di b] = (l.set i ⟨a, b⟩).map Cnd.row := by rw [List.map_set]; rfl
set_option maxHeartbeats 16000000 in
theorem tm_6 (m : Mtr) (p : Prd) (cs : List Cnt) (gc : Nat) (l : List Cnd) (g : Nat) (L : List (List D)) (at' : Int) (ho : SrcOk L at') (hcs : 1 ≤ cs.length ∧ cs.length ≤ 6) (hl : l.length ≤ 5) (odd by' bt : Int) :
    vc TmT (fun t => (0, t)) [] c3_6 (finQ r3 [] false (Pu (db true) Hp.none)) ⟨fr (TmF6 odd by' bt cs gc g l.length []), TmH6 m p cs gc l g L at'⟩ := by
  have y1 : (l.length + 1) * 16 ≤ 140737488355328 := by omega
  have y2 : l.length + 1 ≤ 4611686018427387904 := by omega
  have hc := mod12 odd
  obtain ⟨k, hcc⟩ : ∃ k, modI odd 12 = k := ⟨_, rfl⟩
  rw [hcc] at hc
  have k0 : 0 < cs.length := by omega
  have k0' : (0 : Int) < cs.length := by omega
  have k1 : cs.length - 1 < cs.length := by omega
  have k1' : ((cs.length - 1 : Nat) : Int) < cs.length := by omega
  have gc0 := cn_get k0
  have gc1 := cn_get k1
  have w1 : IntKind.i64.wrap ((cs.length : Int) - 1) = ((cs.length - 1 : Nat) : Int) := by rw [wrap_i (by omega)]; omega
  have fin : ∀ (m : Mtr) (p : Prd) (cs' : List Cnt) (u : List Cnd) (g : Nat) (bt : Int), cs'.length = cs.length → 1 ≤ u.length ∧ u.length ≤ 10 → vc TmT (fun t => (0, t)) [] c3_5 (finQ r3 [] false (Pu (db true) Hp.none)) ⟨fr (TmF5 odd by' bt cs' gc g u.length), TmH5 m p cs' gc u g⟩ := fun m p cs' u g bt h1 h2 => tm_5 m p cs' gc u g (by omega) h2 odd by' bt
  generalize cnA cs 0 = x0 at gc0
  generalize cnA cs (cs.length - 1) = x1 at gc1
  have y3 : (l.length + 1 + 1) * 16 ≤ 140737488355328 := by omega
  have y4 : l.length + 1 + 1 ≤ 4611686018427387904 := by omega
  have e0 : ∀ (l : List Cnd) (c : Cnd), l.map Cnd.row ++ [[di c.te, di c.pr]] = (l ++ [c]).map Cnd.row := fun l c => by rw [List.map_append]; rfl
  have u0 : 0 < l.length + 1 := by omega
  have u0' : (0 : Int) < ((l.length + 1 : Nat) : Int) := by omega
  have u1 : ∀ c, (l ++ [c]).length = l.length + 1 := fun c => by simp
  have gu : ∀ c : Cnd, ((l ++ [c]).map Cnd.row).getD 0 [] = [di (cdA (l ++ [c]) 0).te, di (cdA (l ++ [c]) 0).pr] := fun c => cd_get (by simp)
  have ul : ∀ c, 1 ≤ (l ++ [c]).length ∧ (l ++ [c]).length ≤ 10 := fun c => by rw [u1]; omega
  by_cases q0 : k = 0
  · subst q0
    simp (maxSteps:=500000) only [↓vp, vv, ↓reduceIte, simprocAttr, c3_6, TmT, TmA, sel0, selMod, selOdd, prdOf_x, hcc, eq_true ho, TmF6, TmH6, TmH5, Mtr.row, Prd.row, Prd.enc, Cnd.enc, Cnd.row, Cnt.row, y1, y2, y3, y4, e0, u0, u0', u1, gu, gc0, gc1, k0, k0', k1, k1', w1, idx_nn, Int.toNat_natCast]
    intro a c hc
    exact vc_wk (weak_eq [] [(0, 8), (0, 9), (0, 38), (0, 49)] (TmF5 odd by' bt cs gc (g + 1) (l ++ [c]).length) (by simp (maxSteps:=500000) only [↓vp, vv, ↓reduceIte, simprocAttr, coverS, TmF5, TmH5, Mtr.row, Prd.row, Cnt.row, Cnd.row, e0, cn_set, cd_setd, List.length_set, List.length_append, List.length_cons, List.length_nil]) (by simp (maxSteps:=500000) only [↓vp, vv, ↓reduceIte, simprocAttr, refsF, TmF5, TmH5, Mtr.row, Prd.row, Cnt.row, Cnd.row, e0, cn_set, cd_setd, List.length_set, List.length_append, List.length_cons, List.length_nil]) (by simp (maxSteps:=500000) only [↓vp, vv, ↓reduceIte, simprocAttr, TmF5, TmH5, Mtr.row, Prd.row, Cnt.row, Cnd.row, e0, cn_set, cd_setd, List.length_set, List.length_append, List.length_cons, List.length_nil]) (by simp) (by simp (maxSteps:=500000) only [↓vp, vv, ↓reduceIte, simprocAttr, TmF5, TmH5, Mtr.row, Prd.row, Cnt.row, Cnd.row, e0, cn_set, cd_setd, List.length_set, List.length_append, List.length_cons, List.length_nil]; try rfl)) (fin ⟨by', m.bits, m.fac⟩ p cs (l ++ [c]) (g + 1) bt rfl (ul c))
  by_cases q1 : k = 1
  · subst q1
    simp (maxSteps:=500000) only [↓vp, vv, ↓reduceIte, simprocAttr, c3_6, TmT, TmA, sel0, selMod, selOdd, prdOf_x, hcc, eq_true ho, TmF6, TmH6, TmH5, Mtr.row, Prd.row, Prd.enc, Cnd.enc, Cnd.row, Cnt.row, y1, y2, y3, y4, e0, u0, u0', u1, gu, gc0, gc1, k0, k0', k1, k1', w1, idx_nn, Int.toNat_natCast]
    intro a c hc a2 q
    exact vc_wk (weak_eq [] [(0, 8), (0, 9), (0, 38), (0, 49)] (TmF5 odd by' bt cs gc (g + 1) (l ++ [c]).length) (by simp (maxSteps:=500000) only [↓vp, vv, ↓reduceIte, simprocAttr, coverS, TmF5, TmH5, Mtr.row, Prd.row, Cnt.row, Cnd.row, e0, cn_set, cd_setd, List.length_set, List.length_append, List.length_cons, List.length_nil]) (by simp (maxSteps:=500000) only [↓vp, vv, ↓reduceIte, simprocAttr, refsF, TmF5, TmH5, Mtr.row, Prd.row, Cnt.row, Cnd.row, e0, cn_set, cd_setd, List.length_set, List.length_append, List.length_cons, List.length_nil]) (by simp (maxSteps:=500000) only [↓vp, vv, ↓reduceIte, simprocAttr, TmF5, TmH5, Mtr.row, Prd.row, Cnt.row, Cnd.row, e0, cn_set, cd_setd, List.length_set, List.length_append, List.length_cons, List.length_nil]) (by simp) (by simp (maxSteps:=500000) only [↓vp, vv, ↓reduceIte, simprocAttr, TmF5, TmH5, Mtr.row, Prd.row, Cnt.row, Cnd.row, e0, cn_set, cd_setd, List.length_set, List.length_append, List.length_cons, List.length_nil]; try rfl)) (fin m q cs (l ++ [c]) (g + 1) bt rfl (ul c))
  by_cases q2 : k = 2
  · subst q2
    simp (maxSteps:=500000) only [↓vp, vv, ↓reduceIte, simprocAttr, c3_6, TmT, TmA, sel0, selMod, selOdd, prdOf_x, hcc, eq_true ho, TmF6, TmH6, TmH5, Mtr.row, Prd.row, Prd.enc, Cnd.enc, Cnd.row, Cnt.row, y1, y2, y3, y4, e0, u0, u0', u1, gu, gc0, gc1, k0, k0', k1, k1', w1, idx_nn, Int.toNat_natCast]
    intro a c hc
    exact vc_wk (weak_eq [] [(0, 8), (0, 9), (0, 38), (0, 49)] (TmF5 odd by' (IntKind.i64.wrap (modI by' 1003 - 1)) cs gc (g + 1) (l ++ [c]).length) (by simp (maxSteps:=500000) only [↓vp, vv, ↓reduceIte, simprocAttr, coverS, TmF5, TmH5, Mtr.row, Prd.row, Cnt.row, Cnd.row, e0, cn_set, cd_setd, List.length_set, List.length_append, List.length_cons, List.length_nil]) (by simp (maxSteps:=500000) only [↓vp, vv, ↓reduceIte, simprocAttr, refsF, TmF5, TmH5, Mtr.row, Prd.row, Cnt.row, Cnd.row, e0, cn_set, cd_setd, List.length_set, List.length_append, List.length_cons, List.length_nil]) (by simp (maxSteps:=500000) only [↓vp, vv, ↓reduceIte, simprocAttr, TmF5, TmH5, Mtr.row, Prd.row, Cnt.row, Cnd.row, e0, cn_set, cd_setd, List.length_set, List.length_append, List.length_cons, List.length_nil]) (by simp) (by simp (maxSteps:=500000) only [↓vp, vv, ↓reduceIte, simprocAttr, TmF5, TmH5, Mtr.row, Prd.row, Cnt.row, Cnd.row, e0, cn_set, cd_setd, List.length_set, List.length_append, List.length_cons, List.length_nil]; try rfl)) (fin m p cs (l ++ [c]) (g + 1) _ rfl (ul c))
  by_cases q3 : k = 3
  · subst q3
    simp (maxSteps:=500000) only [↓vp, vv, ↓reduceIte, simprocAttr, c3_6, TmT, TmA, sel0, selMod, selOdd, prdOf_x, hcc, eq_true ho, TmF6, TmH6, TmH5, Mtr.row, Prd.row, Prd.enc, Cnd.enc, Cnd.row, Cnt.row, y1, y2, y3, y4, e0, u0, u0', u1, gu, gc0, gc1, k0, k0', k1, k1', w1, idx_nn, Int.toNat_natCast]
    intro a c hc
    exact vc_wk (weak_eq [] [(0, 8), (0, 9), (0, 38), (0, 49)] (TmF5 odd by' bt (cs.set 0 ⟨x0.last, by'⟩) gc (g + 1) (l ++ [c]).length) (by simp (maxSteps:=500000) only [↓vp, vv, ↓reduceIte, simprocAttr, coverS, TmF5, TmH5, Mtr.row, Prd.row, Cnt.row, Cnd.row, e0, cn_set, cd_setd, List.length_set, List.length_append, List.length_cons, List.length_nil]) (by simp (maxSteps:=500000) only [↓vp, vv, ↓reduceIte, simprocAttr, refsF, TmF5, TmH5, Mtr.row, Prd.row, Cnt.row, Cnd.row, e0, cn_set, cd_setd, List.length_set, List.length_append, List.length_cons, List.length_nil]) (by simp (maxSteps:=500000) only [↓vp, vv, ↓reduceIte, simprocAttr, TmF5, TmH5, Mtr.row, Prd.row, Cnt.row, Cnd.row, e0, cn_set, cd_setd, List.length_set, List.length_append, List.length_cons, List.length_nil]) (by simp) (by simp (maxSteps:=500000) only [↓vp, vv, ↓reduceIte, simprocAttr, TmF5, TmH5, Mtr.row, Prd.row, Cnt.row, Cnd.row, e0, cn_set, cd_setd, List.length_set, List.length_append, List.length_cons, List.length_nil]; try rfl)) (fin m p (cs.set 0 ⟨x0.last, by'⟩) (l ++ [c]) (g + 1) bt (by simp) (ul c))
  by_cases q4 : k = 4
  · subst q4
    simp (maxSteps:=500000) only [↓vp, vv, ↓reduceIte, simprocAttr, c3_6, TmT, TmA, sel0, selMod, selOdd, prdOf_x, hcc, eq_true ho, TmF6, TmH6, TmH5, Mtr.row, Prd.row, Prd.enc, Cnd.enc, Cnd.row, Cnt.row, y1, y2, y3, y4, e0, u0, u0', u1, gu, gc0, gc1, k0, k0', k1, k1', w1, idx_nn, Int.toNat_natCast]
    intro a c hc
    exact vc_wk (weak_eq [] [(0, 8), (0, 9), (0, 38), (0, 49)] (TmF5 odd by' bt cs gc (g + 1) ((l ++ [c]).set 0 ⟨by', (cdA (l ++ [c]) 0).pr⟩).length) (by simp (maxSteps:=500000) only [↓vp, vv, ↓reduceIte, simprocAttr, coverS, TmF5, TmH5, Mtr.row, Prd.row, Cnt.row, Cnd.row, e0, cn_set, cd_setd, List.length_set, List.length_append, List.length_cons, List.length_nil]) (by simp (maxSteps:=500000) only [↓vp, vv, ↓reduceIte, simprocAttr, refsF, TmF5, TmH5, Mtr.row, Prd.row, Cnt.row, Cnd.row, e0, cn_set, cd_setd, List.length_set, List.length_append, List.length_cons, List.length_nil]) (by simp (maxSteps:=500000) only [↓vp, vv, ↓reduceIte, simprocAttr, TmF5, TmH5, Mtr.row, Prd.row, Cnt.row, Cnd.row, e0, cn_set, cd_setd, List.length_set, List.length_append, List.length_cons, List.length_nil]) (by simp) (by simp (maxSteps:=500000) only [↓vp, vv, ↓reduceIte, simprocAttr, TmF5, TmH5, Mtr.row, Prd.row, Cnt.row, Cnd.row, e0, cn_set, cd_setd, List.length_set, List.length_append, List.length_cons, List.length_nil]; try rfl)) (fin m p cs ((l ++ [c]).set 0 ⟨by', (cdA (l ++ [c]) 0).pr⟩) (g + 1) bt rfl (by rw [List.length_set]; exact ul c))
  by_cases q5 : k = 5
  · subst q5
    simp (maxSteps:=500000) only [↓vp, vv, ↓reduceIte, simprocAttr, c3_6, TmT, TmA, sel0, selMod, selOdd, prdOf_x, hcc, eq_true ho, TmF6, TmH6, TmH5, Mtr.row, Prd.row, Prd.enc, Cnd.enc, Cnd.row, Cnt.row, y1, y2, y3, y4, e0, u0, u0', u1, gu, gc0, gc1, k0, k0', k1, k1', w1, idx_nn, Int.toNat_natCast]
    intro a c hc
    exact vc_wk (weak_eq [] [(0, 8), (0, 9), (0, 38), (0, 49)] (TmF5 odd by' bt cs gc (g + 1 + 1) (l ++ [c] ++ [cdA (l ++ [c]) 0]).length) (by simp (maxSteps:=500000) only [↓vp, vv, ↓reduceIte, simprocAttr, coverS, TmF5, TmH5, Mtr.row, Prd.row, Cnt.row, Cnd.row, e0, cn_set, cd_setd, List.length_set, List.length_append, List.length_cons, List.length_nil]) (by simp (maxSteps:=500000) only [↓vp, vv, ↓reduceIte, simprocAttr, refsF, TmF5, TmH5, Mtr.row, Prd.row, Cnt.row, Cnd.row, e0, cn_set, cd_setd, List.length_set, List.length_append, List.length_cons, List.length_nil]) (by simp (maxSteps:=500000) only [↓vp, vv, ↓reduceIte, simprocAttr, TmF5, TmH5, Mtr.row, Prd.row, Cnt.row, Cnd.row, e0, cn_set, cd_setd, List.length_set, List.length_append, List.length_cons, List.length_nil]) (by simp) (by simp (maxSteps:=500000) only [↓vp, vv, ↓reduceIte, simprocAttr, TmF5, TmH5, Mtr.row, Prd.row, Cnt.row, Cnd.row, e0, cn_set, cd_setd, List.length_set, List.length_append, List.length_cons, List.length_nil]; try rfl)) (fin m p cs (l ++ [c] ++ [cdA (l ++ [c]) 0]) (g + 1 + 1) bt rfl (by simp; omega))
  by_cases q6 : k = 6
  · subst q6
    simp (maxSteps:=500000) only [↓vp, vv, ↓reduceIte, simprocAttr, c3_6, TmT, TmA, sel0, selMod, selOdd, prdOf_x, hcc, eq_true ho, TmF6, TmH6, TmH5, Mtr.row, Prd.row, Prd.enc, Cnd.enc, Cnd.row, Cnt.row, y1, y2, y3, y4, e0, u0, u0', u1, gu, gc0, gc1, k0, k0', k1, k1', w1, idx_nn, Int.toNat_natCast]
    intro a c hc
    exact vc_wk (weak_eq [] [(0, 8), (0, 9), (0, 38), (0, 49)] (TmF5 odd by' bt (cs.set (cs.length - 1) ⟨-1, x1.pul⟩) gc (g + 1) (l ++ [c]).length) (by simp (maxSteps:=500000) only [↓vp, vv, ↓reduceIte, simprocAttr, coverS, TmF5, TmH5, Mtr.row, Prd.row, Cnt.row, Cnd.row, e0, cn_set, cd_setd, List.length_set, List.length_append, List.length_cons, List.length_nil]) (by simp (maxSteps:=500000) only [↓vp, vv, ↓reduceIte, simprocAttr, refsF, TmF5, TmH5, Mtr.row, Prd.row, Cnt.row, Cnd.row, e0, cn_set, cd_setd, List.length_set, List.length_append, List.length_cons, List.length_nil]) (by simp (maxSteps:=500000) only [↓vp, vv, ↓reduceIte, simprocAttr, TmF5, TmH5, Mtr.row, Prd.row, Cnt.row, Cnd.row, e0, cn_set, cd_setd, List.length_set, List.length_append, List.length_cons, List.length_nil]) (by simp) (by simp (maxSteps:=500000) only [↓vp, vv, ↓reduceIte, simprocAttr, TmF5, TmH5, Mtr.row, Prd.row, Cnt.row, Cnd.row, e0, cn_set, cd_setd, List.length_set, List.length_append, List.length_cons, List.length_nil]; try rfl)) (fin m p (cs.set (cs.length - 1) ⟨-1, x1.pul⟩) (l ++ [c]) (g + 1) bt (by simp) (ul c))
  have r0 : (k == 0) = false := by rw [beq_eq_false_iff_ne]; exact q0
  have r1 : (k == 1) = false := by rw [beq_eq_false_iff_ne]; exact q1
  have r2 : (k == 2) = false := by rw [beq_eq_false_iff_ne]; exact q2
  have r3 : (k == 3) = false := by rw [beq_eq_false_iff_ne]; exact q3
  have r4 : (k == 4) = false := by rw [beq_eq_false_iff_ne]; exact q4
  have r5 : (k == 5) = false := by rw [beq_eq_false_iff_ne]; exact q5
  have r6 : (k == 6) = false := by rw [beq_eq_false_iff_ne]; exact q6
  simp (maxSteps:=500000) only [↓vp, vv, ↓reduceIte, simprocAttr, c3_6, TmT, TmA, sel0, selMod, selOdd, prdOf_x, hcc, eq_true ho, TmF6, TmH6, TmH5, Mtr.row, Prd.row, Prd.enc, Cnd.enc, Cnd.row, Cnt.row, y1, y2, y3, y4, e0, u0, u0', u1, gu, gc0, gc1, k0, k0', k1, k1', w1, idx_nn, Int.toNat_natCast, r0, r1, r2, r3, r4, r5, r6]
  intro a c hc
  exact vc_wk (weak_eq [] [(0, 8), (0, 9), (0, 38), (0, 49)] (TmF5 odd by' bt cs gc (g + 1) (l ++ [c]).length) (by simp (maxSteps:=500000) only [↓vp, vv, ↓reduceIte, simprocAttr, coverS, TmF5, TmH5, Mtr.row, Prd.row, Cnt.row, Cnd.row, e0, cn_set, cd_setd, List.length_set, List.length_append, List.length_cons, List.length_nil]) (by simp (maxSteps:=500000) only [↓vp, vv, ↓reduceIte, simprocAttr, refsF, TmF5, TmH5, Mtr.row, Prd.row, Cnt.row, Cnd.row, e0, cn_set, cd_setd, List.length_set, List.length_append, List.length_cons, List.length_nil]) (by simp (maxSteps:=500000) only [↓vp, vv, ↓reduceIte, simprocAttr, TmF5, TmH5, Mtr.row, Prd.row, Cnt.row, Cnd.row, e0, cn_set, cd_setd, List.length_set, List.length_append, List.length_cons, List.length_nil]) (by simp) (by simp (maxSteps:=500000) only [↓vp, vv, ↓reduceIte, simprocAttr, TmF5, TmH5, Mtr.row, Prd.row, Cnt.row, Cnd.row, e0, cn_set, cd_setd, List.length_set, List.length_append, List.length_cons, List.length_nil]; try rfl)) (fin m p cs (l ++ [c]) (g + 1) bt rfl (ul c))
def TmFl (odd by' bt : Int) (cs : List Cnt) (gc g n : Nat) (i : Int) : List (Nat × D) := TmF6 odd by' bt cs gc g n [(13, di i)]
set_option maxHeartbeats 16000000 in
theorem TMade_c (ns : List Int) (hns : ∀ n ∈ ns, InI n) (odd by' : Int) (nn : Nm) : CallsA Tryd.prog 3 [.sl (ns.map fun n => [di n]), di odd, di by'] Hp.none nn (Pu (db true) Hp.none) := by
  obtain ⟨code, h1, h2⟩ := c3_ok
  refine callsA_of TmT_ok mixed (N := fun t => (0, t)) Tryd.func3 h1 h2 r3_ok [] false js_nil js_nil' (by simp [Tryd.f3]) ?_
  have ho : SrcOk ((ns.map fun n => [di n]).take 2000) 0 := src_new ns hns
  have hf' : ((ns.map fun n => [di n]).length : Int) = (ns.length : Int) := by simp
  cases hf : decide ((ns.length : Int) ≤ 400) with
  | false => simp (maxSteps:=500000) only [↓vp, vv, ↓reduceIte, simprocAttr, c3, r3, TmT, TmA, selFx, selAw, hf', hf, Pu]
  | true =>
    have h5 : InI 5 := by unfold InI; decide
    simp (maxSteps:=500000) only [↓vp, vv, ↓reduceIte, simprocAttr, c3, c3_7, TmT, TmA, selFx, rowNew, sel0, selI, selPd, rowCts, SrcO_all, hf', hf, ho, h5, Mtr.enc, Mtr.row, Prd.enc, Prd.row, mtrOf_x]
    intro a1 m hm a2 p hp a4 bt hbt
    refine ⟨hm, ?_⟩
    intro a3 gc cs hcs
    have hl := hcs.len
    refine rng_loopP (cs.length - 1) (fun j (u : SA ((ns.map fun n => [di n]).take 2000) × Nat × List Cnd) => ⟨fr (TmFl odd by' bt cs gc u.2.1 u.2.2.length ((j + 1 : Nat) : Int)), TmH6 m p cs gc u.2.2 u.2.1 ((ns.map fun n => [di n]).take 2000) u.1.1⟩) (fun j u => u.2.2.length = j) (u0 := (a3, 0, []))
      ((weak_own 12 (0, 49) 2 (by simp (maxSteps:=500000) only [↓vp, vv, ↓reduceIte, simprocAttr, ]) (by simp (maxSteps:=500000) only [↓vp, vv, ↓reduceIte, simprocAttr, ])).trans (weak_eq [] [(0, 29), (0, 8), (0, 9), (0, 38), (0, 49)] (TmFl odd by' bt cs gc 0 0 1) (by simp (maxSteps:=500000) only [↓vp, vv, ↓reduceIte, simprocAttr, coverS, TmFl, TmF6, TmH6, TmH5, Mtr.row, Prd.row, Cnt.row]) (by simp (maxSteps:=500000) only [↓vp, vv, ↓reduceIte, simprocAttr, refsF, TmFl, TmF6, TmH6, TmH5, Mtr.row, Prd.row, Cnt.row]) (by simp (maxSteps:=500000) only [↓vp, vv, ↓reduceIte, simprocAttr, TmFl, TmF6, TmH6, TmH5, Mtr.row, Prd.row, Cnt.row]) (by simp) (by simp (maxSteps:=500000) only [↓vp, vv, ↓reduceIte, simprocAttr, TmFl, TmF6, TmH6, TmH5, Mtr.row, Prd.row, Cnt.row]; try rfl))) rfl (fun j hj u hP => ?_) (fun u hP => ?_)
    · obtain ⟨a, g, l⟩ := u
      have h3 := hP
      dsimp only at h3
      have hj' : ((j + 1 : Nat) : Int) < cs.length := by omega
      have w1 : IntKind.i64.wrap (((j + 1 : Nat) : Int) + 1) = ((j + 1 + 1 : Nat) : Int) := by rw [wrap_i (by omega)]; omega
      have y1 : (l.length + 1) * 16 ≤ 140737488355328 := by omega
      have y2 : l.length + 1 ≤ 4611686018427387904 := by omega
      have oa := a.2
      simp (maxSteps:=500000) only [↓vp, vv, ↓reduceIte, simprocAttr, c3_2, c3_1, TmT, TmA, sel0, oa, TmFl, TmF6, TmH6, TmH5, Mtr.row, Prd.row, Cnd.enc, Cnd.row, hj', y1, y2]
      intro a' c hc
      have nx : (l ++ [c]).length = j + 1 := by simp; omega
      refine rng_nextP hj (a', g + 1, l ++ [c]) ?_ nx
      exact (weak_eq [] [(0, 29), (0, 8), (0, 9), (0, 38), (0, 49)] (TmFl odd by' bt cs gc (g + 1) (l ++ [c]).length ((j + 1 + 1 : Nat) : Int)) (by simp (maxSteps:=500000) only [↓vp, vv, ↓reduceIte, simprocAttr, coverS, TmFl, TmF6, TmH6, TmH5, Mtr.row, Prd.row, Cnt.row, Cnd.row, w1, List.map_append, List.map_cons, List.map_nil, List.length_append, List.length_cons, List.length_nil]) (by simp (maxSteps:=500000) only [↓vp, vv, ↓reduceIte, simprocAttr, refsF, TmFl, TmF6, TmH6, TmH5, Mtr.row, Prd.row, Cnt.row, Cnd.row, w1, List.map_append, List.map_cons, List.map_nil, List.length_append, List.length_cons, List.length_nil]) (by simp (maxSteps:=500000) only [↓vp, vv, ↓reduceIte, simprocAttr, TmFl, TmF6, TmH6, TmH5, Mtr.row, Prd.row, Cnt.row, Cnd.row, w1, List.map_append, List.map_cons, List.map_nil, List.length_append, List.length_cons, List.length_nil]) (by simp) (by simp (maxSteps:=500000) only [↓vp, vv, ↓reduceIte, simprocAttr, TmFl, TmF6, TmH6, TmH5, Mtr.row, Prd.row, Cnt.row, Cnd.row, w1, List.map_append, List.map_cons, List.map_nil, List.length_append, List.length_cons, List.length_nil]; try rfl))
    · obtain ⟨a, g, l⟩ := u
      have h3 := hP
      dsimp only at h3
      have hj' : ¬ ((cs.length - 1 + 1 : Nat) : Int) < cs.length := by omega
      have e0 : cs.length - 1 + 1 = cs.length := by omega
      have nx := tm_6 m p cs gc l g ((ns.map fun n => [di n]).take 2000) a.1 a.2 hl (by omega) odd by' bt
      rw [e0]
      rw [e0] at hj'
      simp (maxSteps:=500000) only [↓vp, vv, ↓reduceIte, simprocAttr, c3_2, TmT, TmA, TmFl, TmF6, TmH6, TmH5, hj']
      refine vc_wk (weak_eq [] [(0, 29), (0, 8), (0, 9), (0, 38), (0, 49)] (TmF6 odd by' bt cs gc g l.length []) (by simp (maxSteps:=500000) only [↓vp, vv, ↓reduceIte, simprocAttr, coverS, TmF6, TmH6, TmH5, Mtr.row, Prd.row, Cnt.row, Cnd.row]) (by simp (maxSteps:=500000) only [↓vp, vv, ↓reduceIte, simprocAttr, refsF, TmF6, TmH6, TmH5, Mtr.row, Prd.row, Cnt.row, Cnd.row]) (by simp (maxSteps:=500000) only [↓vp, vv, ↓reduceIte, simprocAttr, TmF6, TmH6, TmH5, Mtr.row, Prd.row, Cnt.row, Cnd.row]) (by simp) (by simp (maxSteps:=500000) only [↓vp, vv, ↓reduceIte, simprocAttr, TmF6, TmH6, TmH5, Mtr.row, Prd.row, Cnt.row, Cnd.row]; try rfl)) nx
theorem TicketMade_law (a : Option Addr) (len cap : Nat) (odd by' : Int) (w : World) (h : ArgInts w a len cap) (hsp : LaidFacts w) :
    Calls Tryd.prog 3 #[.slice a len cap, .int .i64 odd, .int .i64 by'] w (Ret (.bool true) w) :=
  law_intsG (us := [.int .i64 odd, .int .i64 by']) (glOk_of hsp) h fun ns hns => TMade_c ns hns odd by' _
end Go.Proofs.YtehmmnnmkapfeaaDoor
