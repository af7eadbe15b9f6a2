/- TicketParts: CtP. -/
import Derived.Test.YtehmmnnmkapfeaaDoorCk9
set_option linter.unusedSimpArgs false
set_option linter.unusedVariables false
set_option maxRecDepth 100000

/- TicketParts: the walk. -/
namespace Go.Proofs.YtehmmnnmkapfeaaDoor
open Go
theorem few_c (L : List (List D)) (nn : Nm) : CallsA Tryd.prog 9 [.sl L] Hp.none nn (Pu (db (decide ((L.length : Int) ≤ 400))) Hp.none) := by
  obtain ⟨code, h1, h2⟩ := c9_ok
  refine callsA_of (T0_ok _) mixed (N := fun t => (0, t)) Tryd.func9 h1 h2 r9_ok [] false js_nil js_nil' (by simp [Tryd.f9]) ?_
  simp (maxSteps:=500000) only [↓vp, vv, ↓reduceIte, simprocAttr, c9, r9, Pu]
def selFw : List D → Option (Prop × D)
  | [.sl L] => some (True, db (decide ((L.length : Int) ≤ 400)))
  | _ => Option.none
theorem tc_few {T : Tbl} (hT : TblOk Tryd.prog T) : TblOk Tryd.prog (tc 9 (rowPu selFw) T) :=
  tc_pu f9_ok (fun args pre d h hp nn => by
    unfold selFw at h
    split at h <;> cases h
    exact few_c _ nn) hT
theorem tc_aw37 {T : Tbl} (hT : TblOk Tryd.prog T) : TblOk Tryd.prog (tc 10 (rowPu selAw) T) :=
  tc_pu f10_ok (fun args pre d h hp nn => by
    unfold selAw at h
    split at h <;> cases h
    exact awake37_c nn) hT
theorem chR_all0 (nn : Nm) (ts : List Tic) (r : Run) (K : D → Hp → Prop) : (∀ v H', ChR nn (ts, r, 0) v H' → K v H') = ∀ g : Nat, K (.tup [.own nn g 0 ts.length, .agg [di r.vol, di r.rest], di 0]) (Hp.none.put nn ⟨g, 8, ts.map Tic.row⟩) :=
  propext ⟨fun h g => h _ _ (.inr ⟨rfl, g, rfl, rfl⟩), fun h v H' hv => by
    rcases hv with ⟨h1, _⟩ | ⟨_, g, rfl, rfl⟩
    · exact absurd rfl h1
    · exact h g⟩
def TpT : Tbl := tc 9 (rowPu selFw) (tc 10 (rowPu selAw) (tc 11 rowNew (tc 12 (rowSrc (sel0 MtrOk) Mtr.enc) (tc 13 (rowSrc selPd Prd.enc) (tc 16 (rowSrc (sel0 CndIn) Cnd.enc) (tc 15 rowCts (tc 21 rowChn (tc 23 (rowPu selSm) T0))))))))
theorem TpT_ok : TblOk Tryd.prog TpT := tc_few (tc_aw37 (tc_new (tc_meter (tc_prod (tc_cond (tc_cts (tc_chn (tc_sm (T0_ok _)))))))))
def TpH1 (m : Mtr) (p : Prd) (cs : List Cnt) (gc : Nat) (l : List Cnd) (g : Nat) (L : List (List D)) (at' : Int) : Hp := ((((Hp.none.put (0, 45) ⟨g, 2, l.map Cnd.row⟩).put (0, 34) ⟨gc, 2, cs.map Cnt.row⟩).put (0, 7) ⟨0, 5, [p.row]⟩).put (0, 6) ⟨0, 3, [m.row]⟩).put (0, 27) (sE L at')
def TpF1 (cut : Nat) (cs : List Cnt) (gc g n : Nat) (i : Int) : List (Nat × D) := [(1, .v (.int .u8 cut)), (5, .ptr (0, 27) 0 0 0), (6, .ptr (0, 6) 0 0 0), (7, .ptr (0, 7) 0 0 0), (8, .own (0, 34) gc 0 cs.length), (9, .own (0, 45) g 0 n), (10, di i)]
def TpF2 (cs : List Cnt) (gc g n : Nat) (e : List (Nat × D)) : List (Nat × D) := (6, .ptr (0, 6) 0 0 0) :: (7, .ptr (0, 7) 0 0 0) :: (8, .own (0, 34) gc 0 cs.length) :: (9, .own (0, 45) g 0 n) :: (13, .ptr (0, 13) 0 0 0) :: e
def TpH2 (m : Mtr) (p : Prd) (cs : List Cnt) (gc : Nat) (l : List Cnd) (g : Nat) (r : Run) : Hp := ((((Hp.none.put (0, 45) ⟨g, 2, l.map Cnd.row⟩).put (0, 34) ⟨gc, 2, cs.map Cnt.row⟩).put (0, 13) ⟨0, 2, [r.row]⟩).put (0, 7) ⟨0, 5, [p.row]⟩).put (0, 6) ⟨0, 3, [m.row]⟩
def TpP (l : List Cnd) (j : Nat) (u : List Cnd) : Prop := u.length = l.length ∧ (∀ c, c ∈ u → c ∈ l) ∧ ∀ i, i ≤ j → cdA u i = cdA l 0
structure TpOk (m : Mtr) (q : Prd) (cs : List Cnt) (l : List Cnd) : Prop where
  mt : MtrOk m
  pr : PrdIn 0 q
  ct : CtsOk m cs
  len : cs.length = l.length + 1
  cd : ∀ c, c ∈ l → cdOk c.te c.pr
set_option maxHeartbeats 16000000 in
theorem cnt_pl (cs : List Cnt) : ∀ j : Cnt, j ∈ cs → ∀ d : D, d ∈ j.row → d.plain = true := fun j _ d hd => by
  simp only [Cnt.row, List.mem_cons, List.not_mem_nil, or_false] at hd
  rcases hd with rfl | rfl <;> rfl
theorem cnd_pl (l : List Cnd) : ∀ j : Cnd, j ∈ l → ∀ d : D, d ∈ j.row → d.plain = true := fun j _ d hd => by
  simp only [Cnd.row, List.mem_cons, List.not_mem_nil, or_false] at hd
  rcases hd with rfl | rfl <;> rfl
set_option maxHeartbeats 16000000 in
theorem tp_6 (m : Mtr) (p : Prd) (cs : List Cnt) (gc : Nat) (l : List Cnd) (g : Nat) (r0 : Run) (hk : TpOk m p cs l) (hd : ∀ c, c ∈ l → c = cdA l 0) :
    vc TpT (fun t => (0, t)) [] c4_6 (finQ r4 [] false (Pu (db true) Hp.none)) ⟨fr (TpF2 cs gc g l.length []), TpH2 m p cs gc l g r0⟩ := by
  have hcl := hk.ct.len
  have hlen := hk.len
  have hpo := prd_ok hk.pr
  have b1 : l.length ≤ 1000000 := by omega
  have b2 : cs.length ≤ 1000000 := by omega
  have fT := fun x : List Tic => flatRs_map Tic.row (fun _ => rfl) x
  have t1 : (cs.map Cnt.row).take cs.length = cs.map Cnt.row := List.take_of_length_le (by simp)
  have t2 : (l.map Cnd.row).take l.length = l.map Cnd.row := List.take_of_length_le (by simp)
  by_cases h0 : l.length = 0
  · obtain ⟨ts, r, e1, tl, _⟩ := parts_ok hk.mt hpo hk.ct hk.len hk.cd
    obtain rfl : l = [] := List.length_eq_zero_iff.1 h0
    simp (maxSteps:=500000) only [↓vp, vv, ↓reduceIte, simprocAttr, c4_6, r4, TpT, rowChn, decCh, mtrOf_x, prdOf_x, cntsOf_map, cndsOf_map, ChOk, chR_all0, TpF2, TpH2, Mtr.row, Prd.row, Run.row, b2, List.length_nil, List.map_nil, cndsOf, eq_true (cnt_pl cs), fT, t1, e1, selAw, Pu]
  · have hd0 : cdOk (cdA l 0).te (cdA l 0).pr := by
      have : cdA l 0 ∈ l := by
        unfold cdA
        rw [List.getD_eq_getElem?_getD, List.getElem?_eq_getElem (by omega)]
        exact List.getElem_mem (by omega)
      exact hk.cd _ this
    obtain ⟨ts, r, ts', e1, tl, e2⟩ := parts_one hk.mt hpo hk.ct hk.len hd0 hd
    have g0 := cn_get (cs := cs) (j := 0) (by omega)
    have g1 := cn_get (cs := cs) (j := cs.length - 1) (by omega)
    generalize cnA cs 0 = x at g0 e2
    generalize cnA cs (cs.length - 1) = y at g1 e2
    have w1 : IntKind.i64.wrap ((cs.length : Int) - 1) = ((cs.length - 1 : Nat) : Int) := by rw [wrap_i (by omega)]; omega
    have c1 : 0 < cs.length := by omega
    have c1' : (0 : Int) < cs.length := by omega
    have c2 : cs.length - 1 < cs.length := by omega
    have c2' : ((cs.length - 1 : Nat) : Int) < cs.length := by omega
    have c3 : 1 ≤ l.length := by omega
    have c3' : (1 : Int) ≤ l.length := by omega
    have c4 : ((l.length : Int) == 0) = false := by rw [beq_eq_false_iff_ne]; omega
    have t3 : (l.map Cnd.row).take 1 = [[di (cdA l 0).te, di (cdA l 0).pr]] := by
      match l, h0 with
      | c :: l, _ => rfl
    generalize cdA l 0 = d at t3 e2
    have d2 : cntsOf [[di x.last, di x.pul], [di y.last, di y.pul]] = some [x, y] := rfl
    have d3 : cndsOf [[di d.te, di d.pr]] = some [d] := rfl
    have d4 : [x, y].length ≤ 1000000 := by simp
    have d5 : [d].length ≤ 1000000 := by simp
    simp (maxSteps:=500000) only [↓vp, vv, ↓reduceIte, simprocAttr, d2, d3, d4, d5, e2, tl, beq_self_eq_true, eqL, eqOne, c4_6, c4_5, r4, TpT, rowChn, decCh, mtrOf_x, prdOf_x, cntsOf_map, cndsOf_map, ChOk, chR_all0, TpF2, TpH2, Mtr.row, Prd.row, Run.row, b1, b2, eq_true (cnt_pl cs), eq_true (cnd_pl l), fT, t1, t2, t3, e1, c1, c1', c2, c2', c3, c3', c4, w1, g0, g1, Int.toNat_natCast, Nat.sub_zero, idx_nn, selAw, Pu]
theorem cd_set {l : List Cnd} {i : Nat} (d : Cnd) : (l.map Cnd.row).set i [di d.te, di d.pr] = (l.set i d).map Cnd.row := by rw [List.map_set]; rfl
theorem cdA_set {l : List Cnd} {i : Nat} (d : Cnd) (h : i < l.length) (j : Nat) : cdA (l.set i d) j = if j = i then d else cdA l j := by
  unfold cdA
  rw [List.getD_eq_getElem?_getD, List.getD_eq_getElem?_getD, List.getElem?_set]
  by_cases hj : j = i
  · subst hj; simp [h]
  · rw [if_neg hj, if_neg fun e => hj e.symm]
set_option maxHeartbeats 16000000 in
theorem tp_8 (m : Mtr) (p : Prd) (cs : List Cnt) (gc : Nat) (l : List Cnd) (g : Nat) (L : List (List D)) (at' : Int) (hk : TpOk m p cs l) (cut : Nat) (hcut : cut < 256) :
    vc TpT (fun t => (0, t)) [] c4_8 (finQ r4 [] false (Pu (db true) Hp.none)) ⟨fr (TpF1 cut cs gc g l.length cs.length), TpH1 m p cs gc l g L at'⟩ := by
  have hcl := hk.ct.len
  have hlen := hk.len
  have hpo := prd_ok hk.pr
  obtain ⟨ts, r, e1, tl, e2⟩ := parts_ok hk.mt hpo hk.ct hk.len hk.cd
  have w1 : IntKind.i64.wrap (cut : Int) = cut := wrap_i (by omega)
  have kb : cut % cs.length < cs.length := Nat.mod_lt _ (by omega)
  have w2 : ((cut : Int).tmod (cs.length : Int)) = ((cut % cs.length : Nat) : Int) := by rw [Int.tmod_eq_emod_of_nonneg (by omega)]; rfl
  generalize cut % cs.length = k at kb w2
  obtain ⟨r', e3⟩ := e2 k (by omega)
  have w3 : IntKind.i64.wrap ((k : Int) + 1) = ((k + 1 : Nat) : Int) := wrap_i (by omega)
  have nz : ¬ (cs.length : Int) = 0 := by omega
  have c1 : ¬ (cs.length : Int) < ((k + 1 : Nat) : Int) := by omega
  have c2 : k + 1 ≤ cs.length := by omega
  have c3 : k ≤ l.length := by omega
  have c4' : (k : Int) ≤ l.length := by omega
  have c5 : ((k + 1 : Nat) : Int) ≤ cs.length := by omega
  have p1 : ∀ j : Cnt, j ∈ cs → ∀ d : D, d ∈ j.row → d.plain = true := fun j _ d hd => by
    simp only [Cnt.row, List.mem_cons, List.not_mem_nil, or_false] at hd
    rcases hd with rfl | rfl <;> rfl
  have p2 : ∀ j : Cnd, j ∈ l → ∀ d : D, d ∈ j.row → d.plain = true := fun j _ d hd => by
    simp only [Cnd.row, List.mem_cons, List.not_mem_nil, or_false] at hd
    rcases hd with rfl | rfl <;> rfl
  have b1 : l.length ≤ 1000000 := by omega
  have b2 : cs.length ≤ 1000000 := by omega
  have fT := fun x : List Tic => flatRs_map Tic.row (fun _ => rfl) x
  have t1 : (cs.map Cnt.row).take cs.length = cs.map Cnt.row := List.take_of_length_le (by simp)
  have t2 : (l.map Cnd.row).take l.length = l.map Cnd.row := List.take_of_length_le (by simp)
  have t3 : (cs.map Cnt.row).take (k + 1) = (cs.take (k + 1)).map Cnt.row := List.map_take.symm
  have t4 : (l.map Cnd.row).take k = (l.take k).map Cnd.row := List.map_take.symm
  have t5 : (ts.map Tic.row).take k = (ts.take k).map Tic.row := List.map_take.symm
  have t6 : ((ts.take k).map Tic.row).take k = (ts.take k).map Tic.row := by rw [← List.map_take, List.take_take, Nat.min_self]
  have tk : (ts.take k).length = k := by rw [List.length_take]; omega
  have tkc : (cs.take (k + 1)).length ≤ 1000000 := by rw [List.length_take]; omega
  have tkl : (l.take k).length ≤ 1000000 := by rw [List.length_take]; omega
  have kb2 : k ≤ 1000000 := by omega
  have p3 : ∀ x : List Tic, ∀ j : Tic, j ∈ x → ∀ d : D, d ∈ j.row → d.plain = true := fun x j hj d hd => tic_plain x _ (List.mem_map.2 ⟨j, hj, rfl⟩) d hd
  simp (maxSteps:=500000) only [↓vp, vv, ↓reduceIte, simprocAttr, c4_8, c4_7, Int.toNat_natCast, Nat.sub_zero, idx_nn, t5, t6, tk, tkc, tkl, kb2, tl, eq_true (p3 ts), eq_true (p3 (ts.take k)), selSm, selX, tt, decTT, SmOk, ticsOf_map, bne_self_eq_false, decide_true, Bool.not_true, TpT, rowChn, decCh, mtrOf_x, prdOf_x, cntsOf_map, cndsOf_map, ChOk, chR_all0, TpF1, TpH1, Mtr.row, Prd.row, w1, w2, w3, nz, c2, c3, c4', c5, eq_true p1, eq_true p2, b1, b2, fT, t1, t2, t3, t4, e1, e3]
  intro g1 g2
  refine rng_loopP (l.length - 1) (fun j (u : List Cnd) => ⟨fr (TpF2 cs gc g l.length [(18, di ((j + 1 : Nat) : Int))]), TpH2 m p cs gc u g r⟩) (TpP l) (u0 := l)
    (weak_eq [] [(0, 6), (0, 7), (0, 13), (0, 34), (0, 45)] (TpF2 cs gc g l.length [(18, di 1)]) (by simp (maxSteps:=500000) only [↓vp, vv, ↓reduceIte, simprocAttr, coverS, TpF2, TpH2, Mtr.row, Prd.row, Run.row, Cnt.row, Cnd.row]) (by simp (maxSteps:=500000) only [↓vp, vv, ↓reduceIte, simprocAttr, refsF, TpF2, TpH2, Mtr.row, Prd.row, Run.row, Cnt.row, Cnd.row]) (by simp (maxSteps:=500000) only [↓vp, vv, ↓reduceIte, simprocAttr, TpF2, TpH2, Mtr.row, Prd.row, Run.row, Cnt.row, Cnd.row]) (by simp) (by simp (maxSteps:=500000) only [↓vp, vv, ↓reduceIte, simprocAttr, TpF2, TpH2, Mtr.row, Prd.row, Run.row, Cnt.row, Cnd.row]; try rfl)) ⟨rfl, fun c h => h, fun i hi => by rw [Nat.le_zero.1 hi]⟩ (fun j hj u hP => ?_) (fun u hP => ?_)
  · obtain ⟨h1, h2, h3⟩ := hP
    have hj' : ((j + 1 : Nat) : Int) < l.length := by omega
    have hj1 : j + 1 < u.length := by omega
    have hj0 : 0 < u.length := by omega
    have hj0' : (0 : Int) < l.length := by omega
    have h10 : 0 < l.length := by omega
    have hj2 : j + 1 < l.length := by omega
    have w4 : IntKind.i64.wrap (((j + 1 : Nat) : Int) + 1) = ((j + 1 + 1 : Nat) : Int) := by rw [wrap_i (by omega)]; omega
    have q1 := cd_get hj0
    have q3 := cd_get hj1
    generalize hd : cdA u 0 = d at q1
    have q2 := cd_set (l := u) (i := j + 1) d
    have hdl : d = cdA l 0 := by rw [← hd]; exact h3 0 (by omega)
    have nx : TpP l (j + 1) (u.set (j + 1) d) := by
      refine ⟨by simp [h1], fun c hc => ?_, fun i hi => ?_⟩
      · rcases List.mem_or_eq_of_mem_set hc with h | h
        · exact h2 c h
        · rw [h, ← hd]
          exact h2 _ (by unfold cdA; rw [List.getD_eq_getElem?_getD, List.getElem?_eq_getElem hj0]; exact List.getElem_mem hj0)
      · rw [cdA_set d hj1]
        split
        · exact hdl
        · exact h3 i (by omega)
    simp (maxSteps:=500000) only [↓vp, vv, ↓reduceIte, simprocAttr, c4_4, c4_3, TpT, TpF2, TpH2, Int.toNat_natCast, idx_nn, Mtr.row, Prd.row, Run.row, hj', hj1, hj0, hj0', h10, hj2, h1, q1, q2, q3]
    refine rng_nextP hj (u.set (j + 1) d) ?_ nx
    exact (weak_eq [] [(0, 6), (0, 7), (0, 13), (0, 34), (0, 45)] (TpF2 cs gc g l.length [(18, di ((j + 1 + 1 : Nat) : Int))]) (by simp (maxSteps:=500000) only [↓vp, vv, ↓reduceIte, simprocAttr, coverS, TpF2, TpH2, Mtr.row, Prd.row, Run.row, Cnt.row, Cnd.row, w4, q2]) (by simp (maxSteps:=500000) only [↓vp, vv, ↓reduceIte, simprocAttr, refsF, TpF2, TpH2, Mtr.row, Prd.row, Run.row, Cnt.row, Cnd.row, w4, q2]) (by simp (maxSteps:=500000) only [↓vp, vv, ↓reduceIte, simprocAttr, TpF2, TpH2, Mtr.row, Prd.row, Run.row, Cnt.row, Cnd.row, w4, q2]) (by simp) (by simp (maxSteps:=500000) only [↓vp, vv, ↓reduceIte, simprocAttr, TpF2, TpH2, Mtr.row, Prd.row, Run.row, Cnt.row, Cnd.row, w4, q2]; try rfl))
  · obtain ⟨h1, h2, h3⟩ := hP
    have hj' : ¬ ((l.length - 1 + 1 : Nat) : Int) < l.length := by omega
    have nx := tp_6 m p cs gc u g r ⟨hk.mt, hk.pr, hk.ct, by rw [h1]; exact hk.len, fun c hc => hk.cd c (h2 c hc)⟩ (fun c hc => by
      obtain ⟨i, hi, rfl⟩ := List.getElem_of_mem hc
      have a1 := h3 i (by omega)
      have a2 := h3 0 (by omega)
      rw [a2, ← a1]
      unfold cdA
      rw [List.getD_eq_getElem?_getD, List.getElem?_eq_getElem hi]
      rfl)
    simp (maxSteps:=500000) only [↓vp, vv, ↓reduceIte, simprocAttr, c4_4, TpT, TpF2, TpH2, hj']
    refine vc_wk (weak_eq [] [(0, 6), (0, 7), (0, 13), (0, 34), (0, 45)] (TpF2 cs gc g u.length []) (by simp (maxSteps:=500000) only [↓vp, vv, ↓reduceIte, simprocAttr, coverS, TpF2, TpH2, Mtr.row, Prd.row, Run.row, Cnt.row, Cnd.row, h1]) (by simp (maxSteps:=500000) only [↓vp, vv, ↓reduceIte, simprocAttr, refsF, TpF2, TpH2, Mtr.row, Prd.row, Run.row, Cnt.row, Cnd.row, h1]) (by simp (maxSteps:=500000) only [↓vp, vv, ↓reduceIte, simprocAttr, TpF2, TpH2, Mtr.row, Prd.row, Run.row, Cnt.row, Cnd.row, h1]) (by simp) (by simp (maxSteps:=500000) only [↓vp, vv, ↓reduceIte, simprocAttr, TpF2, TpH2, Mtr.row, Prd.row, Run.row, Cnt.row, Cnd.row, h1]; try rfl)) nx
set_option maxHeartbeats 16000000 in
theorem TParts_c (ns : List Int) (hns : ∀ n ∈ ns, InI n) (cut : Nat) (hcut : cut < 256) (nn : Nm) : CallsA Tryd.prog 4 [.sl (ns.map fun n => [di n]), .v (.int .u8 cut)] Hp.none nn (Pu (db true) Hp.none) := by
  obtain ⟨code, h1, h2⟩ := c4_ok
  refine callsA_of TpT_ok mixed (N := fun t => (0, t)) Tryd.func4 h1 h2 r4_ok [] false js_nil js_nil' (by simp [Tryd.f4]) ?_
  have ho : SrcOk ((ns.map fun n => [di n]).take 2000) 0 := src_new ns hns
  have hL := ho
  have hf' : ((ns.map fun n => [di n]).length : Int) = (ns.length : Int) := by simp
  cases hf : decide ((ns.length : Int) ≤ 400) with
  | false => simp (maxSteps:=500000) only [↓vp, vv, ↓reduceIte, simprocAttr, c4, r4, TpT, selFw, selAw, hf', hf, Pu]
  | true =>
    simp (maxSteps:=500000) only [↓vp, vv, ↓reduceIte, simprocAttr, c4, c4_9, TpT, selFw, rowNew, sel0, selPd, rowCts, SrcO_all, hf', hf, ho, Mtr.enc, Mtr.row, Prd.enc, Prd.row, mtrOf_x]
    intro a1 m hm a2 p hp
    refine ⟨hm, ?_⟩
    intro a3 gc cs hcs
    have hl := hcs.len
    refine rng_loopP (cs.length - 1) (fun j (u : SA ((ns.map fun n => [di n]).take 2000) × Nat × List Cnd) => ⟨fr (TpF1 cut cs gc u.2.1 u.2.2.length ((j + 1 : Nat) : Int)), TpH1 m p cs gc u.2.2 u.2.1 ((ns.map fun n => [di n]).take 2000) u.1.1⟩) (fun j u => u.2.2.length = j ∧ ∀ c, c ∈ u.2.2 → CndIn c) (u0 := (a3, 0, []))
      ((weak_own 9 (0, 45) 2 (by simp (maxSteps:=500000) only [↓vp, vv, ↓reduceIte, simprocAttr, ]) (by simp (maxSteps:=500000) only [↓vp, vv, ↓reduceIte, simprocAttr, ])).trans (weak_eq [] [(0, 27), (0, 6), (0, 7), (0, 34), (0, 45)] (TpF1 cut cs gc 0 0 1) (by simp (maxSteps:=500000) only [↓vp, vv, ↓reduceIte, simprocAttr, coverS, TpF1, TpH1, Mtr.row, Prd.row, Cnt.row]) (by simp (maxSteps:=500000) only [↓vp, vv, ↓reduceIte, simprocAttr, refsF, TpF1, TpH1, Mtr.row, Prd.row, Cnt.row]) (by simp (maxSteps:=500000) only [↓vp, vv, ↓reduceIte, simprocAttr, TpF1, TpH1, Mtr.row, Prd.row, Cnt.row]) (by simp) (by simp (maxSteps:=500000) only [↓vp, vv, ↓reduceIte, simprocAttr, TpF1, TpH1, Mtr.row, Prd.row, Cnt.row]; try rfl))) ⟨rfl, fun c h => by cases h⟩ (fun j hj u hP => ?_) (fun u hP => ?_)
    · obtain ⟨a, g, l⟩ := u
      obtain ⟨h3, h4⟩ := hP
      dsimp only at h3 h4
      have hj' : ((j + 1 : Nat) : Int) < cs.length := by omega
      have w1 : IntKind.i64.wrap (((j + 1 : Nat) : Int) + 1) = ((j + 1 + 1 : Nat) : Int) := by rw [wrap_i (by omega)]; omega
      have y1 : (l.length + 1) * 16 ≤ 140737488355328 := by omega
      have y2 : l.length + 1 ≤ 4611686018427387904 := by omega
      have oa := a.2
      simp (maxSteps:=500000) only [↓vp, vv, ↓reduceIte, simprocAttr, c4_2, c4_1, TpT, sel0, oa, TpF1, TpH1, Mtr.row, Prd.row, Cnd.enc, Cnd.row, hj', y1, y2]
      intro a' c hc
      have nx : (l ++ [c]).length = j + 1 ∧ ∀ x, x ∈ l ++ [c] → CndIn x := ⟨by simp; omega, fun x hx => by
        rcases List.mem_append.1 hx with h | h
        · exact h4 x h
        · rw [List.mem_singleton.1 h]; exact hc⟩
      refine rng_nextP hj (a', g + 1, l ++ [c]) ?_ nx
      exact (weak_eq [] [(0, 27), (0, 6), (0, 7), (0, 34), (0, 45)] (TpF1 cut cs gc (g + 1) (l ++ [c]).length ((j + 1 + 1 : Nat) : Int)) (by simp (maxSteps:=500000) only [↓vp, vv, ↓reduceIte, simprocAttr, coverS, TpF1, TpH1, Mtr.row, Prd.row, Cnt.row, Cnd.row, w1, List.map_append, List.map_cons, List.map_nil, List.length_append, List.length_cons, List.length_nil]) (by simp (maxSteps:=500000) only [↓vp, vv, ↓reduceIte, simprocAttr, refsF, TpF1, TpH1, Mtr.row, Prd.row, Cnt.row, Cnd.row, w1, List.map_append, List.map_cons, List.map_nil, List.length_append, List.length_cons, List.length_nil]) (by simp (maxSteps:=500000) only [↓vp, vv, ↓reduceIte, simprocAttr, TpF1, TpH1, Mtr.row, Prd.row, Cnt.row, Cnd.row, w1, List.map_append, List.map_cons, List.map_nil, List.length_append, List.length_cons, List.length_nil]) (by simp) (by simp (maxSteps:=500000) only [↓vp, vv, ↓reduceIte, simprocAttr, TpF1, TpH1, Mtr.row, Prd.row, Cnt.row, Cnd.row, w1, List.map_append, List.map_cons, List.map_nil, List.length_append, List.length_cons, List.length_nil]; try rfl))
    · obtain ⟨a, g, l⟩ := u
      obtain ⟨h3, h4⟩ := hP
      dsimp only at h3 h4
      have hj' : ¬ ((cs.length - 1 + 1 : Nat) : Int) < cs.length := by omega
      have e0 : cs.length - 1 + 1 = cs.length := by omega
      have nx := tp_8 m p cs gc l g ((ns.map fun n => [di n]).take 2000) a.1 ⟨hm, hp, hcs, by omega, h4⟩ cut hcut
      rw [e0]
      rw [e0] at hj'
      simp (maxSteps:=500000) only [↓vp, vv, ↓reduceIte, simprocAttr, c4_2, TpT, TpF1, TpH1, hj']
      refine vc_wk (weak_eq [] [(0, 27), (0, 6), (0, 7), (0, 34), (0, 45)] (TpF1 cut cs gc g l.length cs.length) (by simp (maxSteps:=500000) only [↓vp, vv, ↓reduceIte, simprocAttr, coverS, TpF1, TpH1, Mtr.row, Prd.row, Cnt.row, Cnd.row]) (by simp (maxSteps:=500000) only [↓vp, vv, ↓reduceIte, simprocAttr, refsF, TpF1, TpH1, Mtr.row, Prd.row, Cnt.row, Cnd.row]) (by simp (maxSteps:=500000) only [↓vp, vv, ↓reduceIte, simprocAttr, TpF1, TpH1, Mtr.row, Prd.row, Cnt.row, Cnd.row]) (by simp) (by simp (maxSteps:=500000) only [↓vp, vv, ↓reduceIte, simprocAttr, TpF1, TpH1, Mtr.row, Prd.row, Cnt.row, Cnd.row]; try rfl)) nx
theorem TicketParts_law (a : Option Addr) (len cap : Nat) (cut : Int) (w : World) (h : ArgInts w a len cap) (h0 : 0 ≤ cut) (h1 : cut ≤ 255) (hsp : LaidFacts w) :
    Calls Tryd.prog 4 #[.slice a len cap, .int .u8 cut] w (Ret (.bool true) w) := by
  refine law_intsG (us := [.int .u8 cut]) (glOk_of hsp) h fun ns hns => ?_
  have := TParts_c ns hns cut.toNat (by omega) (0, 0)
  rw [show ((cut.toNat : Nat) : Int) = cut by omega] at this
  exact this
end Go.Proofs.YtehmmnnmkapfeaaDoor
