/- RouteAnswers: RkA CodeLS. -/
import Derived.Test.YtadjhfjiimgddaaYr10
import Derived.Test.YtadjhfjiimgddaaYr3
import Derived.Test.YtadjhfjiimgddaaProg
set_option linter.unusedSimpArgs false
set_option linter.unusedVariables false
set_option maxRecDepth 100000

/- The reference's checks of networks: twice, proper. -/
/- The reference's checks of networks: twice, proper. -/
namespace Go.Proofs.Ytadjhfjiimgddaa
open Go
theorem nmRow_at (W : List ByteArray) (j : Nat) (h : j < W.length) : (W.map nmRow).getD j [] = [ds W[j]] := by rw [getD_map nmRow W j h]; rfl
set_option maxHeartbeats 8000000 in
theorem rtwice_c (l : List ByteArray) (hl : l.length ≤ 1000000) (nn : Nm) : CallsA Try.prog 141 [.sl (l.map nmRow)] Hp.none nn (Pu (db (dupB eqS l)) Hp.none) := by
 obtain ⟨code, h1, h2⟩ := c141_ok
 refine callsA_of (T0_ok _) mixed (N := fun t => (0, t)) Try.func141 h1 h2 r141_ok [] false js_nil js_nil' (by simp [Try.f141]) ?_
 generalize hb : dupB eqS l = b
 unfold dupB at hb
 simp (maxSteps:=500000) only [↓vp, vv, ↓reduceIte, simprocAttr, c141]
 refine rng_loop l.length (fun j => ⟨fr [(0, .sl (l.map nmRow)), (6, di l.length), (7, di j)], Hp.none⟩) (fun j => ((List.range l.length).drop j).any (dupAt eqS l) = b) (weak0 (by simp only [↓vp, vv, ↓reduceIte, simprocAttr, coverS]) (by simp only [↓vp, vv, ↓reduceIte, simprocAttr, refsF])) hb (fun j hj he => ?_) (fun he => ?_)
 ·have hj' : (j : Int) < l.length := by omega
  have hjn := idx_nn j
  have w1 := idx_next (j := j) (by omega)
  obtain ⟨hf, ht⟩ := drop_any (by rw [List.length_range]; exact hj) he
  rw [range_at, dup_at hj] at hf ht
  have hg := nmRow_at l j hj
  generalize hq : (l.take j).any (eqS l[j]) = q at hf ht
  generalize hx : l[j] = x at hg hq
  simp (maxSteps:=500000) only [↓vp, vv, ↓reduceIte, simprocAttr, c141, r141, c141_1, c141_2, c141_3, c141_4, c141_5, c141_6, c141_7, hj']
  refine rng_loop j (fun k => ⟨fr [(0, .sl (l.map nmRow)), (3, di j), (4, di k), (6, di l.length), (7, di j)], Hp.none⟩) (fun k => ((l.take j).drop k).any (eqS x) = q) (weak0 (by simp only [↓vp, vv, ↓reduceIte, simprocAttr, coverS]) (by simp only [↓vp, vv, ↓reduceIte, simprocAttr, refsF])) hq (fun k hk he2 => ?_) (fun he2 => ?_)
  ·have hk' : (k : Int) < j := by omega
   have hkl : (k : Int) < l.length := by omega
   have hkl2 : k < l.length := by omega
   have hkn := idx_nn k
   have w2 := idx_next (j := k) (by omega)
   obtain ⟨hf2, ht2⟩ := drop_any (by rw [List.length_take]; omega) he2
   rw [List.getElem_take] at hf2 ht2
   have hg2 := nmRow_at l k hkl2
   generalize l[k] = y at hf2 ht2 hg2
   cases c : (x.toList == y.toList) with
   | true =>
    have e1 := hf2 c
    have e2 := hf e1
    subst e2
    simp (maxSteps:=500000) only [↓vp, vv, ↓reduceIte, simprocAttr, c141, r141, c141_1, c141_2, c141_3, c141_4, c141_5, c141_6, c141_7, hk', hkl, hkn, hj', hjn, Int.toNat_natCast, hg, hg2, c, Pu]
   | false =>
    simp (maxSteps:=500000) only [↓vp, vv, ↓reduceIte, simprocAttr, c141, r141, c141_1, c141_2, c141_3, c141_4, c141_5, c141_6, c141_7, hk', hkl, hkn, hj', hjn, Int.toNat_natCast, hg, hg2, c, w2]
    exact rng_next hk (weak0 (by simp only [↓vp, vv, ↓reduceIte, simprocAttr, coverS, w2]) (by simp only [↓vp, vv, ↓reduceIte, simprocAttr, refsF])) (ht2 c)
  ·have e1 : q = false := drop_any_end (by rw [List.length_take]; omega) he2
   simp (maxSteps:=500000) only [↓vp, vv, ↓reduceIte, simprocAttr, c141, r141, c141_1, c141_2, c141_3, c141_4, c141_5, c141_6, c141_7, Int.lt_irrefl, w1]
   exact rng_next hj (weak0 (by simp only [↓vp, vv, ↓reduceIte, simprocAttr, coverS, w1]) (by simp only [↓vp, vv, ↓reduceIte, simprocAttr, refsF])) (ht e1)
 ·have e5 : b = false := drop_any_end (by rw [List.length_range]) he
  subst e5
  simp (maxSteps:=500000) only [↓vp, vv, ↓reduceIte, simprocAttr, c141, r141, c141_1, c141_2, c141_3, c141_4, c141_5, c141_6, c141_7, Int.lt_irrefl, Pu]
theorem pipe_f {s : Seg} (h : (s.fr == s.to) = true ∨ inB s.cap 1 1000000 = false ∨ inB s.resist 0 1000 = false ∨ inB s.wave 0 100000 = false ∨ (s.points.getD 0 ⟨0, 0, 0⟩).at' ≠ 0 ∨ (s.points.getD (s.points.length - 1) ⟨0, 0, 0⟩).at' ≠ s.cap ∨ (List.range s.points.length).any (ptBad s.points) = true) : pipeB s = false := by
 cases hp : pipeB s with
 | false => rfl
 | true =>
  unfold pipeB at hp
  split at hp
  ·cases hp
  ·rename_i c1
   split at hp
   ·rename_i c2
    split at hp
    ·rename_i c3
     split at hp
     ·rename_i c4
      split at hp
      ·cases hp
      ·rename_i c5
       split at hp
       ·rename_i c6
        have c7 := beq_iff_eq.1 hp
        have c8 := beq_iff_eq.1 c6
        rcases h with h | h | h | h | h | h | h
        ·exact absurd h c1
        ·rw [h] at c2; cases c2
        ·rw [h] at c3; cases c3
        ·rw [h] at c4; cases c4
        ·exact absurd c8 h
        ·exact absurd c7 h
        ·exact absurd h c5
       ·cases hp
     ·cases hp
    ·cases hp
   ·cases hp
def TRi : Tbl := tc 139 (rowPu selIn) T0
theorem TRi_ok : TblOk Try.prog TRi := by
 refine tc_pu f139_ok (fun args pre d h hp nn => ?_) (T0_ok _)
 unfold selIn at h
 split at h <;> cases h
 exact rin_c _ _ _ nn
set_option maxHeartbeats 16000000 in
theorem rproper_c (s : Seg) (hz : 1 ≤ s.points.length ∧ s.points.length ≤ 1000000) (nn : Nm) : CallsA Try.prog 142 [.agg s.row] Hp.none nn (Pu (db (pipeB s)) Hp.none) := by
 obtain ⟨code, h1, h2⟩ := c142_ok
 refine callsA_of TRi_ok mixed (N := fun t => (0, t)) Try.func142 h1 h2 r142_ok [] false js_nil js_nil' (by simp [Try.f142]) ?_
 cases a1 : (s.fr == s.to) with
 | true =>
  have e := pipe_f (.inl a1)
  simp (maxSteps:=500000) only [↓vp, vv, ↓reduceIte, simprocAttr, c142, r142, c142_1, c142_2, c142_3, c142_4, c142_5, TRi, selIn, Seg.row, a1, e, Pu]
 | false =>
 cases a2 : inB s.cap 1 1000000 with
 | false =>
  have e := pipe_f (.inr (.inl a2))
  simp (maxSteps:=500000) only [↓vp, vv, ↓reduceIte, simprocAttr, c142, r142, c142_1, c142_2, c142_3, c142_4, c142_5, TRi, selIn, Seg.row, a1, a2, e, Pu]
 | true =>
 cases a3 : inB s.resist 0 1000 with
 | false =>
  have e := pipe_f (.inr (.inr (.inl a3)))
  simp (maxSteps:=500000) only [↓vp, vv, ↓reduceIte, simprocAttr, c142, r142, c142_1, c142_2, c142_3, c142_4, c142_5, TRi, selIn, Seg.row, a1, a2, a3, e, Pu]
 | true =>
 cases a4 : inB s.wave 0 100000 with
 | false =>
  have e := pipe_f (.inr (.inr (.inr (.inl a4))))
  simp (maxSteps:=500000) only [↓vp, vv, ↓reduceIte, simprocAttr, c142, r142, c142_1, c142_2, c142_3, c142_4, c142_5, TRi, selIn, Seg.row, a1, a2, a3, a4, e, Pu]
 | true =>
 have h0 : (s.points.map Pt.row).getD 0 [] = (s.points.getD 0 ⟨0, 0, 0⟩).row := by rw [getD_map Pt.row s.points 0 (by omega), getD_lt (by omega)]
 have h9 : (s.points.map Pt.row).getD (s.points.length - 1) [] = (s.points.getD (s.points.length - 1) ⟨0, 0, 0⟩).row := by rw [getD_map Pt.row s.points (s.points.length - 1) (by omega), getD_lt (by omega)]
 have w2 : IntKind.i64.wrap ((s.points.length : Int) - 1) = ((s.points.length - 1 : Nat) : Int) := by rw [wrap_i (by omega)]; omega
 have hn2 := idx_nn (s.points.length - 1)
 have hj2 : ((s.points.length - 1 : Nat) : Int) < s.points.length := by omega
 have hj0 : (0 : Int) < s.points.length := by omega
 have f5 := fun h => @pipe_f s (.inr (.inr (.inr (.inr (.inl h)))))
 have f6 := fun h => @pipe_f s (.inr (.inr (.inr (.inr (.inr (.inl h))))))
 have f7 := fun h => @pipe_f s (.inr (.inr (.inr (.inr (.inr (.inr h))))))
 generalize hb : (List.range s.points.length).any (ptBad s.points) = b at f7
 have hp : pipeB s = if b = true then false else if ((s.points.getD 0 ⟨0, 0, 0⟩).at' == 0) = true then (s.points.getD (s.points.length - 1) ⟨0, 0, 0⟩).at' == s.cap else false := by unfold pipeB; rw [a1, a2, a3, a4, hb]; rfl
 generalize s.points.getD 0 ⟨0, 0, 0⟩ = x0 at hp h0 f5
 generalize s.points.getD (s.points.length - 1) ⟨0, 0, 0⟩ = y0 at hp h9 f6
 cases a5 : (x0.at' != 0) with
 | true =>
  have e := f5 (by simpa using a5)
  simp (maxSteps:=500000) only [↓vp, vv, ↓reduceIte, simprocAttr, c142, r142, c142_1, c142_2, c142_3, c142_4, c142_5, TRi, selIn, Seg.row, Pt.row, a1, a2, a3, a4, hj0, h0, a5, e, Pu]
 | false =>
 cases a6 : (y0.at' != s.cap) with
 | true =>
  have e := f6 (by simpa using a6)
  simp (maxSteps:=500000) only [↓vp, vv, ↓reduceIte, simprocAttr, c142, r142, c142_1, c142_2, c142_3, c142_4, c142_5, TRi, selIn, Seg.row, Pt.row, a1, a2, a3, a4, hj0, h0, a5, w2, hn2, hj2, h9, Int.toNat_natCast, a6, e, Pu]
 | false =>
 have hx0 : (x0.at' == 0) = true := by simpa using a5
 have hy0 : (y0.at' == s.cap) = true := by simpa using a6
 rw [hx0, hy0] at hp
 simp (maxSteps:=500000) only [↓vp, vv, ↓reduceIte, simprocAttr, c142, c142, r142, c142_1, c142_2, c142_3, c142_4, c142_5, TRi, selIn, Seg.row, Pt.row, a1, a2, a3, a4, hj0, h0, a5, w2, hn2, hj2, h9, Int.toNat_natCast, a6]
 refine rng_loop s.points.length (fun j => ⟨fr [(1, .ptr (0, 1) 0 0 0), (51, .sl (s.points.map Pt.row)), (52, di s.points.length), (53, di j)], Hp.none.put (0, 1) ⟨0, 7, [s.row]⟩⟩) (fun j => ((List.range s.points.length).drop j).any (ptBad s.points) = b) (weak1 (by simp only [↓vp, vv, ↓reduceIte, simprocAttr, coverS]) (by simp only [↓vp, vv, ↓reduceIte, simprocAttr, refsF]) (by simp only [↓vp, vv, ↓reduceIte, simprocAttr, Seg.row]) (by simp only [↓vp, vv, ↓reduceIte, simprocAttr, ])) hb (fun j hj he => ?_) (fun he => ?_)
 ·have hj' : (j : Int) < s.points.length := by omega
  have hn := idx_nn j
  have w1 := idx_next (j := j) (by omega)
  have hjl : j < (List.range s.points.length).length := by simpa using hj
  obtain ⟨hf, ht⟩ := drop_any hjl he
  rw [range_at, pt_at hj] at hf ht
  have hg := getD_map Pt.row s.points j hj
  have hpr : 0 < j → (s.points.map Pt.row).getD (j - 1) [] = (s.points.getD (j - 1) ⟨0, 0, 0⟩).row := fun h => by
   have h' : j - 1 < s.points.length := by omega
   rw [getD_map Pt.row s.points (j - 1) h', getD_lt h']
  generalize s.points[j] = x at hf ht hg
  generalize s.points.getD (j - 1) ⟨0, 0, 0⟩ = y at hf ht hpr
  by_cases b3 : 0 < j
  ·have b3' : (0 : Int) < j := by omega
   have w3 : IntKind.i64.wrap ((j : Int) - 1) = ((j - 1 : Nat) : Int) := by rw [wrap_i (by omega)]; omega
   have hn3 := idx_nn (j - 1)
   have hj3 : ((j - 1 : Nat) : Int) < s.points.length := by omega
   have hpr' := hpr b3
   cases b4 : decide (x.at' ≤ y.at') with
   | true =>
    have e1 := f7 (hf (by rw [b4]; simp [b3]))
    simp (maxSteps:=500000) only [↓vp, vv, ↓reduceIte, simprocAttr, c142, r142, c142_1, c142_2, c142_3, c142_4, c142_5, TRi, selIn, hj', hn, Int.toNat_natCast, hg, Seg.row, Pt.row, b3', w3, hn3, hj3, hpr', b4, e1, Pu]
   | false =>
   cases b1 : inB x.height (-500) 5000 with
   | false =>
    have e1 := f7 (hf (by rw [b1]; rfl))
    simp (maxSteps:=500000) only [↓vp, vv, ↓reduceIte, simprocAttr, c142, r142, c142_1, c142_2, c142_3, c142_4, c142_5, TRi, selIn, hj', hn, Int.toNat_natCast, hg, Seg.row, Pt.row, b3', w3, hn3, hj3, hpr', b4, b1, e1, decide_false, Pu]
   | true =>
   cases b2 : inB x.limit 0 100000000 with
   | false =>
    have e1 := f7 (hf (by rw [b1, b2]; rfl))
    simp (maxSteps:=500000) only [↓vp, vv, ↓reduceIte, simprocAttr, c142, r142, c142_1, c142_2, c142_3, c142_4, c142_5, TRi, selIn, hj', hn, Int.toNat_natCast, hg, Seg.row, Pt.row, b3', w3, hn3, hj3, hpr', b4, b1, b2, e1, decide_false, Pu]
   | true =>
    simp (maxSteps:=500000) only [↓vp, vv, ↓reduceIte, simprocAttr, c142, r142, c142_1, c142_2, c142_3, c142_4, c142_5, TRi, selIn, hj', hn, Int.toNat_natCast, hg, Seg.row, Pt.row, b3', w3, hn3, hj3, hpr', b4, b1, b2, w1, decide_false]
    exact rng_next hj (weak1 (by simp only [↓vp, vv, ↓reduceIte, simprocAttr, coverS, Pt.row, w1]) (by simp only [↓vp, vv, ↓reduceIte, simprocAttr, refsF]) (by simp only [↓vp, vv, ↓reduceIte, simprocAttr, Seg.row]) (by simp only [↓vp, vv, ↓reduceIte, simprocAttr, ])) (ht (by rw [b1, b2, b4]; simp))
  ·have b3' : ¬ (0 : Int) < j := by omega
   cases b1 : inB x.height (-500) 5000 with
   | false =>
    have e1 := f7 (hf (by rw [b1]; rfl))
    simp (maxSteps:=500000) only [↓vp, vv, ↓reduceIte, simprocAttr, c142, r142, c142_1, c142_2, c142_3, c142_4, c142_5, TRi, selIn, hj', hn, Int.toNat_natCast, hg, Seg.row, Pt.row, b3', b1, e1, decide_false, Pu]
   | true =>
   cases b2 : inB x.limit 0 100000000 with
   | false =>
    have e1 := f7 (hf (by rw [b1, b2]; rfl))
    simp (maxSteps:=500000) only [↓vp, vv, ↓reduceIte, simprocAttr, c142, r142, c142_1, c142_2, c142_3, c142_4, c142_5, TRi, selIn, hj', hn, Int.toNat_natCast, hg, Seg.row, Pt.row, b3', b1, b2, e1, decide_false, Pu]
   | true =>
    simp (maxSteps:=500000) only [↓vp, vv, ↓reduceIte, simprocAttr, c142, r142, c142_1, c142_2, c142_3, c142_4, c142_5, TRi, selIn, hj', hn, Int.toNat_natCast, hg, Seg.row, Pt.row, b3', b1, b2, w1, decide_false]
    exact rng_next hj (weak1 (by simp only [↓vp, vv, ↓reduceIte, simprocAttr, coverS, Pt.row, w1]) (by simp only [↓vp, vv, ↓reduceIte, simprocAttr, refsF]) (by simp only [↓vp, vv, ↓reduceIte, simprocAttr, Seg.row]) (by simp only [↓vp, vv, ↓reduceIte, simprocAttr, ])) (ht (by rw [b1, b2]; simp [b3]))
 ·have e1 : b = false := drop_any_end (by simp) he
  rw [e1] at hp
  have hp2 : pipeB s = true := hp
  simp (maxSteps:=500000) only [↓vp, vv, ↓reduceIte, simprocAttr, c142, r142, c142_1, c142_2, c142_3, c142_4, c142_5, Int.lt_irrefl, hp2, Pu]
def selTwi : List D → Option (Prop × D)
 | [.sl rows] => match strsOf rows with
  | some l => some (l.length ≤ 1000000, db (dupB eqS l))
  | Option.none => Option.none
 | _ => Option.none
def TRc : Tbl := tc 142 (rowPu (selSegP fun s => db (pipeB s))) (tc 141 (rowPu selTwi) (tc 140 (rowPu (selNet nmsD)) (tc 139 (rowPu selIn) (tc 68 (rowPu selNm) T0))))
theorem TRc_ok : TblOk Try.prog TRc := by
 refine tc_pu f142_ok (fun args pre d h hp nn => ?_) (tc_pu f141_ok (fun args pre d h hp nn => ?_) (tc_netf f140_ok (fun n hz nn => rnames_c n hz.segs hz.ports hz.sts nn) (tc_pu f139_ok (fun args pre d h hp nn => ?_) (tc_pu f68_ok (fun args pre d h hp nn => ?_) (T0_ok _)))))
 ·unfold selSegP at h
  split at h
  ·split at h
   ·rename_i hs
    cases h
    rw [segOf1_eq hs]
    exact rproper_c _ hp nn
   ·cases h
  ·cases h
 ·unfold selTwi at h
  split at h
  ·split at h
   ·rename_i hs
    cases h
    rw [strsOf_eq hs]
    exact rtwice_c _ hp nn
   ·cases h
  ·cases h
 ·unfold selIn at h
  split at h <;> cases h
  exact rin_c _ _ _ nn
 ·unfold selNm at h
  split at h <;> cases h
  exact rname_c _ nn
set_option maxHeartbeats 16000000 in
theorem rk_pr (n : Net) (hz : NetSz n) (hp : PtsPos n) (F : Fr) (f1 : F 1 = .ptr (0, 1) 0 0 0) : vc TRc (fun t => (0, t)) [] c97_41 (finQ r97 [] false (Pu (di (if prB n = true then 0 else 9)) Hp.none)) ⟨F, netH n⟩ := by
 generalize hb1 : n.segs.any segBad = b1
 generalize hb2 : n.ports.any portBad = b2
 generalize hb3 : n.sts.any stnBad = b3
 have hc : prB n = if b1 = true then false else if b2 = true then false else if b3 = true then false else if inB n.vap (-100000) 100000000 = true then inB n.set 0 100 else false := by unfold prB; rw [hb1, hb2, hb3]
 have z1 := hz.segs
 have z2 := hz.ports
 have z3 := hz.sts
 simp (maxSteps:=500000) only [↓vp, vv, ↓reduceIte, simprocAttr, c97_41, netH, netD, f1]
 refine rng_loop n.segs.length (fun j => ⟨fr [(1, .ptr (0, 1) 0 0 0), (163, .sl (n.segs.map Seg.row)), (164, di n.segs.length), (165, di j)], netH n⟩) (fun j => (n.segs.drop j).any segBad = b1) (weak1 (by simp only [↓vp, vv, ↓reduceIte, simprocAttr, coverS, f1]) (by simp only [↓vp, vv, ↓reduceIte, simprocAttr, refsF]) (by simp only [↓vp, vv, ↓reduceIte, simprocAttr, netD]) (by simp only [↓vp, vv, ↓reduceIte, simprocAttr, ])) hb1 (fun j hj he => ?_) (fun he => ?_)
 ·have hj' : (j : Int) < n.segs.length := by omega
  have hjn := idx_nn j
  have w1 := idx_next (j := j) (by omega)
  obtain ⟨hf, ht⟩ := drop_any hj he
  have hg := getD_map Seg.row n.segs j hj
  have hps := hp _ (List.getElem_mem hj)
  have hpz := hz.pts _ (List.getElem_mem hj)
  generalize n.segs[j] = x at hf ht hg hps hpz
  have hs1 : segOf1 [ds x.name, di x.fr, di x.to, di x.cap, di x.resist, di x.wave, .sl (x.points.map Pt.row)] = some x := segOf1_row x
  have hpre : 1 ≤ x.points.length ∧ x.points.length ≤ 1000000 := ⟨hps, hpz⟩
  cases c : pipeB x with
  | false =>
   have e1 := hf (by unfold segBad; rw [c]; rfl)
   rw [e1] at hc
   have hc3 : prB n = false := hc
   simp (maxSteps:=500000) only [↓vp, vv, ↓reduceIte, simprocAttr, c97_30, c97_29, c97_28, r97, TRc, selSegP, netH, netD, hj', hjn, Int.toNat_natCast, hg, Seg.row, hs1, hpre, c, hc3, Pu]
  | true =>
   simp (maxSteps:=500000) only [↓vp, vv, ↓reduceIte, simprocAttr, c97_30, c97_29, c97_28, TRc, selSegP, netH, netD, hj', hjn, Int.toNat_natCast, hg, Seg.row, hs1, hpre, c, w1]
   exact rng_next hj (weak1 (by simp only [↓vp, vv, ↓reduceIte, simprocAttr, coverS, w1]) (by simp only [↓vp, vv, ↓reduceIte, simprocAttr, refsF]) (by simp only [↓vp, vv, ↓reduceIte, simprocAttr, netD]) (by simp only [↓vp, vv, ↓reduceIte, simprocAttr, ])) (ht (by unfold segBad; rw [c]; rfl))
 have e1 : b1 = false := drop_any_end rfl he
 rw [e1] at hc
 simp (maxSteps:=500000) only [↓vp, vv, ↓reduceIte, simprocAttr, c97_30, c97_40, netH, netD, Int.lt_irrefl]
 refine rng_loop n.ports.length (fun j => ⟨fr [(1, .ptr (0, 1) 0 0 0), (174, .sl (n.ports.map Port.row)), (175, di n.ports.length), (176, di j)], netH n⟩) (fun j => (n.ports.drop j).any portBad = b2) (weak1 (by simp only [↓vp, vv, ↓reduceIte, simprocAttr, coverS]) (by simp only [↓vp, vv, ↓reduceIte, simprocAttr, refsF]) (by simp only [↓vp, vv, ↓reduceIte, simprocAttr, netD]) (by simp only [↓vp, vv, ↓reduceIte, simprocAttr, ])) hb2 (fun j hj he => ?_) (fun he => ?_)
 ·have hj' : (j : Int) < n.ports.length := by omega
  have hjn := idx_nn j
  have w1 := idx_next (j := j) (by omega)
  obtain ⟨hf, ht⟩ := drop_any hj he
  have hg := getD_map Port.row n.ports j hj
  generalize n.ports[j] = x at hf ht hg
  cases c : inB x.press 0 100000000 with
  | false =>
   have e1 := hf (by unfold portBad; rw [c]; rfl)
   rw [e1] at hc
   have hc3 : prB n = false := hc
   simp (maxSteps:=500000) only [↓vp, vv, ↓reduceIte, simprocAttr, c97_33, c97_32, c97_31, r97, TRc, selIn, netH, netD, hj', hjn, Int.toNat_natCast, hg, Port.row, c, hc3, Pu]
  | true =>
   simp (maxSteps:=500000) only [↓vp, vv, ↓reduceIte, simprocAttr, c97_33, c97_32, c97_31, TRc, selIn, netH, netD, hj', hjn, Int.toNat_natCast, hg, Port.row, c, w1]
   exact rng_next hj (weak1 (by simp only [↓vp, vv, ↓reduceIte, simprocAttr, coverS, w1]) (by simp only [↓vp, vv, ↓reduceIte, simprocAttr, refsF]) (by simp only [↓vp, vv, ↓reduceIte, simprocAttr, netD]) (by simp only [↓vp, vv, ↓reduceIte, simprocAttr, ])) (ht (by unfold portBad; rw [c]; rfl))
 have e2 : b2 = false := drop_any_end rfl he
 rw [e2] at hc
 simp (maxSteps:=500000) only [↓vp, vv, ↓reduceIte, simprocAttr, c97_33, c97_39, netH, netD, Int.lt_irrefl]
 refine rng_loop n.sts.length (fun j => ⟨fr [(1, .ptr (0, 1) 0 0 0), (186, .sl (n.sts.map Stn.row)), (187, di n.sts.length), (188, di j)], netH n⟩) (fun j => (n.sts.drop j).any stnBad = b3) (weak1 (by simp only [↓vp, vv, ↓reduceIte, simprocAttr, coverS]) (by simp only [↓vp, vv, ↓reduceIte, simprocAttr, refsF]) (by simp only [↓vp, vv, ↓reduceIte, simprocAttr, netD]) (by simp only [↓vp, vv, ↓reduceIte, simprocAttr, ])) hb3 (fun j hj he => ?_) (fun he => ?_)
 ·have hj' : (j : Int) < n.sts.length := by omega
  have hjn := idx_nn j
  have w1 := idx_next (j := j) (by omega)
  obtain ⟨hf, ht⟩ := drop_any hj he
  have hg := getD_map Stn.row n.sts j hj
  generalize n.sts[j] = x at hf ht hg
  cases c : inB x.head 0 100000000 with
  | false =>
   have e1 := hf (by unfold stnBad; rw [c]; rfl)
   rw [e1] at hc
   have hc3 : prB n = false := hc
   simp (maxSteps:=500000) only [↓vp, vv, ↓reduceIte, simprocAttr, c97_36, c97_35, c97_34, r97, TRc, selIn, netH, netD, hj', hjn, Int.toNat_natCast, hg, Stn.row, c, hc3, Pu]
  | true =>
  cases d : inB x.fall 0 100000 with
  | false =>
   have e1 := hf (by unfold stnBad; rw [c, d]; rfl)
   rw [e1] at hc
   have hc3 : prB n = false := hc
   simp (maxSteps:=500000) only [↓vp, vv, ↓reduceIte, simprocAttr, c97_36, c97_35, c97_34, r97, TRc, selIn, netH, netD, hj', hjn, Int.toNat_natCast, hg, Stn.row, c, d, hc3, Pu]
  | true =>
  cases e : inB x.suct 0 100000000 with
  | false =>
   have e1 := hf (by unfold stnBad; rw [c, d, e]; rfl)
   rw [e1] at hc
   have hc3 : prB n = false := hc
   simp (maxSteps:=500000) only [↓vp, vv, ↓reduceIte, simprocAttr, c97_36, c97_35, c97_34, r97, TRc, selIn, netH, netD, hj', hjn, Int.toNat_natCast, hg, Stn.row, c, d, e, hc3, Pu]
  | true =>
   simp (maxSteps:=500000) only [↓vp, vv, ↓reduceIte, simprocAttr, c97_36, c97_35, c97_34, TRc, selIn, netH, netD, hj', hjn, Int.toNat_natCast, hg, Stn.row, c, d, e, w1]
   exact rng_next hj (weak1 (by simp only [↓vp, vv, ↓reduceIte, simprocAttr, coverS, w1]) (by simp only [↓vp, vv, ↓reduceIte, simprocAttr, refsF]) (by simp only [↓vp, vv, ↓reduceIte, simprocAttr, netD]) (by simp only [↓vp, vv, ↓reduceIte, simprocAttr, ])) (ht (by unfold stnBad; rw [c, d, e]; rfl))
 have e3 : b3 = false := drop_any_end rfl he
 rw [e3] at hc
 cases c : inB n.vap (-100000) 100000000 with
 | false =>
  rw [c] at hc
  have hc3 : prB n = false := hc
  simp (maxSteps:=500000) only [↓vp, vv, ↓reduceIte, simprocAttr, c97_36, c97_38, c97_37, r97, TRc, selIn, netH, netD, Int.lt_irrefl, c, hc3, Pu]
 | true =>
 rw [c] at hc
 cases d : inB n.set 0 100 with
 | false =>
  rw [d] at hc
  have hc3 : prB n = false := hc
  simp (maxSteps:=500000) only [↓vp, vv, ↓reduceIte, simprocAttr, c97_36, c97_38, c97_37, r97, TRc, selIn, netH, netD, Int.lt_irrefl, c, d, hc3, Pu]
 | true =>
  rw [d] at hc
  have hc3 : prB n = true := hc
  simp (maxSteps:=500000) only [↓vp, vv, ↓reduceIte, simprocAttr, c97_36, c97_38, c97_37, r97, TRc, selIn, netH, netD, Int.lt_irrefl, c, d, hc3, Pu]
theorem unk_in (n : Net) (k : Int) : inB k 0 ((n.nodes.length : Int) - 1) = !(unk n k) := by
 unfold inB unk
 by_cases h : k < 0
 ·rw [if_neg (by simp; omega), if_pos (by simpa using h)]; rfl
 ·rw [if_pos (by simp; omega), if_neg (by simpa using h)]
  by_cases h2 : (n.nodes.length : Int) ≤ k
  ·rw [decide_eq_false (by omega), decide_eq_true h2]; rfl
  ·rw [decide_eq_true (by omega), decide_eq_false h2]; rfl
def segUnk (n : Net) (s : Seg) : Bool := if unk n s.fr = true then true else unk n s.to
theorem any_flat (n : Net) : ∀ l : List Seg, (l.flatMap endsOf).any (unk n) = l.any (segUnk n)
 | [] => rfl
 | s :: l => by
  rw [List.flatMap_cons, List.any_append, any_flat n l, List.any_cons]
  congr 1
  unfold segUnk endsOf
  simp only [List.any_cons, List.any_nil, Bool.or_false]
  cases unk n s.fr <;> rfl
theorem kn_eq (n : Net) : knB n = if n.segs.any (segUnk n) = true then false else if n.ports.any (fun x => unk n x.node) = true then false else if n.sts.any (fun x => unk n x.node) = true then false else true := by
 unfold knB allIx
 rw [List.any_append, List.any_append, any_flat, List.any_map, List.any_map]
 have e1 : (unk n ∘ fun x : Port => x.node) = fun x => unk n x.node := rfl
 have e2 : (unk n ∘ fun x : Stn => x.node) = fun x => unk n x.node := rfl
 rw [e1, e2]
 cases n.segs.any (segUnk n) <;> cases n.ports.any (fun x => unk n x.node) <;> cases n.sts.any (fun x => unk n x.node) <;> rfl
set_option maxHeartbeats 16000000 in
theorem rk_kn (n : Net) (hz : NetSz n) (hp : PtsPos n) (F : Fr) (f1 : F 1 = .ptr (0, 1) 0 0 0) : vc TRc (fun t => (0, t)) [] c97_44 (finQ r97 [] false (Pu (di (if knB n = true then (if prB n = true then 0 else 9) else 8)) Hp.none)) ⟨F, netH n⟩ := by
 generalize hb1 : n.segs.any (segUnk n) = b1
 generalize hb2 : n.ports.any (fun x => unk n x.node) = b2
 generalize hb3 : n.sts.any (fun x => unk n x.node) = b3
 have hc := kn_eq n
 rw [hb1, hb2, hb3] at hc
 have z0 := hz.nodes
 have z1 := hz.segs
 have z2 := hz.ports
 have z3 := hz.sts
 have wl : IntKind.i64.wrap ((n.nodes.length : Int) - 1) = (n.nodes.length : Int) - 1 := wrap_i (by omega)
 have hu := unk_in n
 simp (maxSteps:=500000) only [↓vp, vv, ↓reduceIte, simprocAttr, c97_44, netH, netD, f1, wl]
 generalize hl : (n.nodes.length : Int) - 1 = last at hu
 refine rng_loop n.segs.length (fun j => ⟨fr [(1, .ptr (0, 1) 0 0 0), (14, di last), (117, .sl (n.segs.map Seg.row)), (118, di n.segs.length), (119, di j)], netH n⟩) (fun j => (n.segs.drop j).any (segUnk n) = b1) (weak1 (by simp only [↓vp, vv, ↓reduceIte, simprocAttr, coverS, f1, wl, hl]) (by simp only [↓vp, vv, ↓reduceIte, simprocAttr, refsF]) (by simp only [↓vp, vv, ↓reduceIte, simprocAttr, netD]) (by simp only [↓vp, vv, ↓reduceIte, simprocAttr, ])) hb1 (fun j hj he => ?_) (fun he => ?_)
 ·have hj' : (j : Int) < n.segs.length := by omega
  have hjn := idx_nn j
  have w1 := idx_next (j := j) (by omega)
  obtain ⟨hf, ht⟩ := drop_any hj he
  have hg := getD_map Seg.row n.segs j hj
  generalize n.segs[j] = x at hf ht hg
  cases c : unk n x.fr with
  | true =>
   have e1 := hf (by unfold segUnk; rw [c]; rfl)
   rw [e1] at hc
   have hc3 : knB n = false := hc
   simp (maxSteps:=500000) only [↓vp, vv, ↓reduceIte, simprocAttr, c97_21, c97_20, c97_19, r97, TRc, selIn, netH, netD, hj', hjn, Int.toNat_natCast, hg, Seg.row, hu, c, hc3, Pu]
  | false =>
  cases d : unk n x.to with
  | true =>
   have e1 := hf (by unfold segUnk; rw [c, d]; rfl)
   rw [e1] at hc
   have hc3 : knB n = false := hc
   simp (maxSteps:=500000) only [↓vp, vv, ↓reduceIte, simprocAttr, c97_21, c97_20, c97_19, r97, TRc, selIn, netH, netD, hj', hjn, Int.toNat_natCast, hg, Seg.row, hu, c, d, hc3, Pu]
  | false =>
   simp (maxSteps:=500000) only [↓vp, vv, ↓reduceIte, simprocAttr, c97_21, c97_20, c97_19, TRc, selIn, netH, netD, hj', hjn, Int.toNat_natCast, hg, Seg.row, hu, c, d, w1]
   exact rng_next hj (weak1 (by simp only [↓vp, vv, ↓reduceIte, simprocAttr, coverS, w1]) (by simp only [↓vp, vv, ↓reduceIte, simprocAttr, refsF]) (by simp only [↓vp, vv, ↓reduceIte, simprocAttr, netD]) (by simp only [↓vp, vv, ↓reduceIte, simprocAttr, ])) (ht (by unfold segUnk; rw [c, d]; rfl))
 have e1 : b1 = false := drop_any_end rfl he
 rw [e1] at hc
 simp (maxSteps:=500000) only [↓vp, vv, ↓reduceIte, simprocAttr, c97_21, c97_43, netH, netD, Int.lt_irrefl]
 refine rng_loop n.ports.length (fun j => ⟨fr [(1, .ptr (0, 1) 0 0 0), (14, di last), (137, .sl (n.ports.map Port.row)), (138, di n.ports.length), (139, di j)], netH n⟩) (fun j => (n.ports.drop j).any (fun x => unk n x.node) = b2) (weak1 (by simp only [↓vp, vv, ↓reduceIte, simprocAttr, coverS]) (by simp only [↓vp, vv, ↓reduceIte, simprocAttr, refsF]) (by simp only [↓vp, vv, ↓reduceIte, simprocAttr, netD]) (by simp only [↓vp, vv, ↓reduceIte, simprocAttr, ])) hb2 (fun j hj he => ?_) (fun he => ?_)
 ·have hj' : (j : Int) < n.ports.length := by omega
  have hjn := idx_nn j
  have w1 := idx_next (j := j) (by omega)
  obtain ⟨hf, ht⟩ := drop_any hj he
  have hg := getD_map Port.row n.ports j hj
  generalize n.ports[j] = x at hf ht hg
  cases c : unk n x.node with
  | true =>
   have e1 := hf c
   rw [e1] at hc
   have hc3 : knB n = false := hc
   simp (maxSteps:=500000) only [↓vp, vv, ↓reduceIte, simprocAttr, c97_24, c97_23, c97_22, r97, TRc, selIn, netH, netD, hj', hjn, Int.toNat_natCast, hg, Port.row, hu, c, hc3, Pu]
  | false =>
   simp (maxSteps:=500000) only [↓vp, vv, ↓reduceIte, simprocAttr, c97_24, c97_23, c97_22, TRc, selIn, netH, netD, hj', hjn, Int.toNat_natCast, hg, Port.row, hu, c, w1]
   exact rng_next hj (weak1 (by simp only [↓vp, vv, ↓reduceIte, simprocAttr, coverS, w1]) (by simp only [↓vp, vv, ↓reduceIte, simprocAttr, refsF]) (by simp only [↓vp, vv, ↓reduceIte, simprocAttr, netD]) (by simp only [↓vp, vv, ↓reduceIte, simprocAttr, ])) (ht c)
 have e2 : b2 = false := drop_any_end rfl he
 rw [e2] at hc
 simp (maxSteps:=500000) only [↓vp, vv, ↓reduceIte, simprocAttr, c97_24, c97_42, netH, netD, Int.lt_irrefl]
 refine rng_loop n.sts.length (fun j => ⟨fr [(1, .ptr (0, 1) 0 0 0), (14, di last), (150, .sl (n.sts.map Stn.row)), (151, di n.sts.length), (152, di j)], netH n⟩) (fun j => (n.sts.drop j).any (fun x => unk n x.node) = b3) (weak1 (by simp only [↓vp, vv, ↓reduceIte, simprocAttr, coverS]) (by simp only [↓vp, vv, ↓reduceIte, simprocAttr, refsF]) (by simp only [↓vp, vv, ↓reduceIte, simprocAttr, netD]) (by simp only [↓vp, vv, ↓reduceIte, simprocAttr, ])) hb3 (fun j hj he => ?_) (fun he => ?_)
 ·have hj' : (j : Int) < n.sts.length := by omega
  have hjn := idx_nn j
  have w1 := idx_next (j := j) (by omega)
  obtain ⟨hf, ht⟩ := drop_any hj he
  have hg := getD_map Stn.row n.sts j hj
  generalize n.sts[j] = x at hf ht hg
  cases c : unk n x.node with
  | true =>
   have e1 := hf c
   rw [e1] at hc
   have hc3 : knB n = false := hc
   simp (maxSteps:=500000) only [↓vp, vv, ↓reduceIte, simprocAttr, c97_27, c97_26, c97_25, r97, TRc, selIn, netH, netD, hj', hjn, Int.toNat_natCast, hg, Stn.row, hu, c, hc3, Pu]
  | false =>
   simp (maxSteps:=500000) only [↓vp, vv, ↓reduceIte, simprocAttr, c97_27, c97_26, c97_25, TRc, selIn, netH, netD, hj', hjn, Int.toNat_natCast, hg, Stn.row, hu, c, w1]
   exact rng_next hj (weak1 (by simp only [↓vp, vv, ↓reduceIte, simprocAttr, coverS, w1]) (by simp only [↓vp, vv, ↓reduceIte, simprocAttr, refsF]) (by simp only [↓vp, vv, ↓reduceIte, simprocAttr, netD]) (by simp only [↓vp, vv, ↓reduceIte, simprocAttr, ])) (ht c)
 have e3 : b3 = false := drop_any_end rfl he
 rw [e3] at hc
 have hc3 : knB n = true := hc
 simp only [hc3, if_true]
 simp (maxSteps:=500000) only [↓vp, vv, ↓reduceIte, simprocAttr, c97_27, Int.lt_irrefl]
 exact rk_pr n hz hp _ (by simp only [↓vp, vv, ↓reduceIte, simprocAttr, ])
theorem eqN_sym (x y : Stn) : eqN x y = (x.node == y.node) := by
 unfold eqN
 rw [Bool.eq_iff_iff]
 simp only [beq_iff_eq]
 exact ⟨Eq.symm, Eq.symm⟩
set_option maxHeartbeats 16000000 in
theorem rk_tw (n : Net) (hz : NetSz n) (hp : PtsPos n) (F : Fr) (f1 : F 1 = .ptr (0, 1) 0 0 0) : vc TRc (fun t => (0, t)) [] c97_45 (finQ r97 [] false (Pu (di (if dupB eqN n.sts = true then 7 else if knB n = true then (if prB n = true then 0 else 9) else 8)) Hp.none)) ⟨F, netH n⟩ := by
 generalize hb : dupB eqN n.sts = b
 unfold dupB at hb
 have z3 := hz.sts
 simp (maxSteps:=500000) only [↓vp, vv, ↓reduceIte, simprocAttr, c97_45, netH, netD, f1]
 refine rng_loop n.sts.length (fun j => ⟨fr [(1, .ptr (0, 1) 0 0 0), (89, di n.sts.length), (90, di j)], netH n⟩) (fun j => ((List.range n.sts.length).drop j).any (dupAt eqN n.sts) = b) (weak1 (by simp only [↓vp, vv, ↓reduceIte, simprocAttr, coverS, f1]) (by simp only [↓vp, vv, ↓reduceIte, simprocAttr, refsF]) (by simp only [↓vp, vv, ↓reduceIte, simprocAttr, netD]) (by simp only [↓vp, vv, ↓reduceIte, simprocAttr, ])) hb (fun j hj he => ?_) (fun he => ?_)
 ·have hj' : (j : Int) < n.sts.length := by omega
  have hjn := idx_nn j
  have w1 := idx_next (j := j) (by omega)
  obtain ⟨hf, ht⟩ := drop_any (by rw [List.length_range]; exact hj) he
  rw [range_at, dup_at hj] at hf ht
  have hg := getD_map Stn.row n.sts j hj
  generalize hq : (n.sts.take j).any (eqN n.sts[j]) = q at hf ht
  generalize hx : n.sts[j] = x at hg hq
  simp (maxSteps:=500000) only [↓vp, vv, ↓reduceIte, simprocAttr, c97_18, c97_17, netH, netD, hj']
  refine rng_loop j (fun k => ⟨fr [(1, .ptr (0, 1) 0 0 0), (12, di j), (13, di k), (89, di n.sts.length), (90, di j)], netH n⟩) (fun k => ((n.sts.take j).drop k).any (eqN x) = q) (weak1 (by simp only [↓vp, vv, ↓reduceIte, simprocAttr, coverS]) (by simp only [↓vp, vv, ↓reduceIte, simprocAttr, refsF]) (by simp only [↓vp, vv, ↓reduceIte, simprocAttr, netD]) (by simp only [↓vp, vv, ↓reduceIte, simprocAttr, ])) hq (fun k hk he2 => ?_) (fun he2 => ?_)
  ·have hk' : (k : Int) < j := by omega
   have hkl : (k : Int) < n.sts.length := by omega
   have hkl2 : k < n.sts.length := by omega
   have hkn := idx_nn k
   have w2 := idx_next (j := k) (by omega)
   obtain ⟨hf2, ht2⟩ := drop_any (by rw [List.length_take]; omega) he2
   rw [List.getElem_take] at hf2 ht2
   have hg2 := getD_map Stn.row n.sts k hkl2
   generalize n.sts[k] = y at hf2 ht2 hg2
   cases c : (x.node == y.node) with
   | true =>
    have e2 := hf (hf2 ((eqN_sym x y).trans c))
    subst e2
    simp (maxSteps:=500000) only [↓vp, vv, ↓reduceIte, simprocAttr, c97_15, c97_14, c97_13, r97, netH, netD, hk', hkl, hkn, hj', hjn, Int.toNat_natCast, hg, hg2, Stn.row, c, Pu]
   | false =>
    simp (maxSteps:=500000) only [↓vp, vv, ↓reduceIte, simprocAttr, c97_15, c97_14, c97_13, netH, netD, hk', hkl, hkn, hj', hjn, Int.toNat_natCast, hg, hg2, Stn.row, c, w2]
    exact rng_next hk (weak1 (by simp only [↓vp, vv, ↓reduceIte, simprocAttr, coverS, w2]) (by simp only [↓vp, vv, ↓reduceIte, simprocAttr, refsF]) (by simp only [↓vp, vv, ↓reduceIte, simprocAttr, netD]) (by simp only [↓vp, vv, ↓reduceIte, simprocAttr, ])) (ht2 ((eqN_sym x y).trans c))
  ·have e1 : q = false := drop_any_end (by rw [List.length_take]; omega) he2
   simp (maxSteps:=500000) only [↓vp, vv, ↓reduceIte, simprocAttr, c97_15, c97_16, Int.lt_irrefl, w1]
   exact rng_next hj (weak1 (by simp only [↓vp, vv, ↓reduceIte, simprocAttr, coverS, w1]) (by simp only [↓vp, vv, ↓reduceIte, simprocAttr, refsF]) (by simp only [↓vp, vv, ↓reduceIte, simprocAttr, netH, netD]) (by simp only [↓vp, vv, ↓reduceIte, simprocAttr, netH, netD])) (ht e1)
 ·have e5 : b = false := drop_any_end (by rw [List.length_range]) he
  subst e5
  simp only [Bool.false_eq_true, if_false]
  simp (maxSteps:=500000) only [↓vp, vv, ↓reduceIte, simprocAttr, c97_18, Int.lt_irrefl]
  exact rk_kn n hz hp _ (by simp only [↓vp, vv, ↓reduceIte, simprocAttr, ])
theorem nms_dec (l : List ByteArray) : strsOf (l.map nmRow) = some l := by
 induction l with
 | nil => rfl
 | cons x l ih =>
  show strsOf ([ds x] :: l.map nmRow) = _
  rw [strsOf, ih]
def after2 (n : Net) : Int := if twB n = true then 7 else if knB n = true then (if prB n = true then 0 else 9) else 8
set_option maxHeartbeats 16000000 in
theorem rk_nm (n : Net) (hz : NetSz n) (hp : PtsPos n) (F : Fr) (H : Hp) (f1 : F 1 = .ptr (0, 1) 0 0 0) (f5 : F 5 = .ptr (0, 5) 0 0 0) (h1 : H (0, 1) = some ⟨0, 6, [netD n]⟩) (h5 : H (0, 5) = some ⟨0, 4, [(nms4 n).map fun l => .sl (l.map nmRow)]⟩) :
  vc TRc (fun t => (0, t)) [] c97_46 (finQ r97 [] false (Pu (di (after2 n)) Hp.none)) ⟨F, H⟩ := by
 generalize hb : (nms4 n).any (dupB eqS) = b
 have hc : after2 n = if b = true then 7 else if dupB eqN n.sts = true then 7 else if knB n = true then (if prB n = true then 0 else 9) else 8 := by
  unfold after2 twB
  rw [hb]
  cases b <;> rfl
 simp (maxSteps:=500000) only [↓vp, vv, ↓reduceIte, simprocAttr, c97_46, f1, f5, h1, h5, nms4_len, List.take_of_length_le, nms4]
 refine rng_loop 4 (fun j => ⟨fr [(1, .ptr (0, 1) 0 0 0), (80, nmsD n), (81, di j)], netH n⟩) (fun j => ((nms4 n).drop j).any (dupB eqS) = b) (weak1 (by simp only [↓vp, vv, ↓reduceIte, simprocAttr, coverS, f1, nmsD]) (by simp only [↓vp, vv, ↓reduceIte, simprocAttr, refsF, nmsD]) (by simp only [↓vp, vv, ↓reduceIte, simprocAttr, h1]) (by simp only [↓vp, vv, ↓reduceIte, simprocAttr, h1, netD])) hb (fun j hj he => ?_) (fun he => ?_)
 ·have hj' : (j : Int) < 4 := by omega
  have hn := idx_nn j
  have w1 := idx_next (j := j) (by omega)
  have hjl : j < (nms4 n).length := by rw [nms4_len]; exact hj
  obtain ⟨hf, ht⟩ := drop_any hjl he
  have hg := getD_any (fun l => D.sl (List.map nmRow l)) (nms4 n) j hjl
  have hl := nms4_small hz _ (List.getElem_mem hjl)
  generalize (nms4 n)[j] = l at hf ht hg hl
  have hcl2 : j * 1 + 1 ≤ (nms4 n).length := by rw [nms4_len]; omega
  have hcl3 : j + 1 ≤ (nms4 n).length := by omega
  have hdc := nms_dec l
  cases hd : dupB eqS l with
  | true =>
   have e1 := hf hd
   rw [e1] at hc
   have hc3 : after2 n = 7 := hc
   simp (maxSteps:=500000) only [↓vp, vv, ↓reduceIte, simprocAttr, c97_12, c97_11, c97_10, r97, TRc, selTwi, netH, netD, nmsD_map, hj', hn, Int.toNat_natCast, hcl2, hcl3, Nat.mul_one, hg, hdc, hl, hd, hc3, Pu]
  | false =>
   simp (maxSteps:=500000) only [↓vp, vv, ↓reduceIte, simprocAttr, c97_12, c97_11, c97_10, TRc, selTwi, netH, netD, nmsD_map, hj', hn, Int.toNat_natCast, hcl2, hcl3, Nat.mul_one, hg, hdc, hl, hd, w1]
   exact rng_next hj (weak1 (by simp only [↓vp, vv, ↓reduceIte, simprocAttr, coverS, nmsD, nms4, w1]) (by simp only [↓vp, vv, ↓reduceIte, simprocAttr, refsF, nmsD, nms4]) (by simp only [↓vp, vv, ↓reduceIte, simprocAttr, netD]) (by simp only [↓vp, vv, ↓reduceIte, simprocAttr, netD])) (ht hd)
 ·have e1 : b = false := drop_any_end (nms4_len n).symm he
  rw [e1] at hc
  have hc2 : after2 n = if dupB eqN n.sts = true then 7 else if knB n = true then (if prB n = true then 0 else 9) else 8 := hc
  rw [hc2]
  simp (maxSteps:=500000) only [↓vp, vv, ↓reduceIte, simprocAttr, c97_12, Int.lt_irrefl]
  exact rk_tw n hz hp _ (by simp only [↓vp, vv, ↓reduceIte, simprocAttr, ])
def NH5 (n : Net) : Hp := (Hp.none.put (0, 5) ⟨0, 4, [(nms4 n).map fun l => .sl (l.map nmRow)]⟩).put (0, 1) ⟨0, 6, [netD n]⟩
def after3 (n : Net) : Int := if formBad n = true then 3 else after2 n
set_option maxHeartbeats 16000000 in
theorem rk_fm (n : Net) (hz : NetSz n) (hp : PtsPos n) (F : Fr) (f1 : F 1 = .ptr (0, 1) 0 0 0) : vc TRc (fun t => (0, t)) [] c97_47 (finQ r97 [] false (Pu (di (after3 n)) Hp.none)) ⟨F, netH n⟩ := by
 generalize hb : formBad n = b
 unfold formBad at hb
 have hc : after3 n = if b = true then 3 else after2 n := by unfold after3 formBad; rw [hb]
 have hn1 := netOf1_x n
 simp (maxSteps:=500000) only [↓vp, vv, ↓reduceIte, simprocAttr, c97_47, TRc, selNet, netH, netD, f1, hn1, hz, nmsD]
 have wf : ∀ (G : Fr), G 1 = .ptr (0, 1) 0 0 0 → G 5 = .ptr (0, 5) 0 0 0 → G 65 = nmsD n → G 66 = di 0 → True := fun _ _ _ _ _ => trivial
 refine rng_loop 4 (fun j => ⟨fr [(1, .ptr (0, 1) 0 0 0), (5, .ptr (0, 5) 0 0 0), (65, nmsD n), (66, di j)], NH5 n⟩) (fun j => ((nms4 n).drop j).any (fun l => l.any nmBad) = b) (weak_eqA [] [(0, 1), (0, 5)] [(1, .ptr (0, 1) 0 0 0), (5, .ptr (0, 5) 0 0 0), (65, nmsD n), (66, di 0)] (by refine ⟨?_, ?_, ?_, by simp, ?_⟩ <;> (simp only [↓vp, vv, ↓reduceIte, simprocAttr, coverS, refsF, NH5, nmsD, nms4, netD, f1] <;> try rfl))) hb (fun j hj he => ?_) (fun he => ?_)
 ·have hj' : (j : Int) < 4 := by omega
  have hn := idx_nn j
  have w1 := idx_next (j := j) (by omega)
  have hjl : j < (nms4 n).length := by rw [nms4_len]; exact hj
  obtain ⟨hf, ht⟩ := drop_any hjl he
  have hg := getD_any (fun l => D.sl (List.map nmRow l)) (nms4 n) j hjl
  have hl := nms4_small hz _ (List.getElem_mem hjl)
  generalize (nms4 n)[j] = l at hf ht hg hl
  have hcl2 : j * 1 + 1 ≤ (nms4 n).length := by rw [nms4_len]; omega
  have hcl3 : j + 1 ≤ (nms4 n).length := by omega
  generalize hq : l.any nmBad = q at hf ht
  simp (maxSteps:=500000) only [↓vp, vv, ↓reduceIte, simprocAttr, c97_9, c97_8, NH5, netD, nmsD_map, hj', hn, Int.toNat_natCast, hcl2, hcl3, Nat.mul_one, hg]
  refine rng_loop l.length (fun m => ⟨fr [(1, .ptr (0, 1) 0 0 0), (5, .ptr (0, 5) 0 0 0), (65, nmsD n), (66, di j), (69, .sl (l.map nmRow)), (70, di l.length), (71, di m)], NH5 n⟩) (fun m => (l.drop m).any nmBad = q) (weak_eqA [] [(0, 1), (0, 5)] [(1, .ptr (0, 1) 0 0 0), (5, .ptr (0, 5) 0 0 0), (65, nmsD n), (66, di j), (69, .sl (l.map nmRow)), (70, di l.length), (71, di 0)] (by refine ⟨?_, ?_, ?_, by simp, ?_⟩ <;> (simp only [↓vp, vv, ↓reduceIte, simprocAttr, coverS, refsF, NH5, nmsD, nms4, netD] <;> try rfl))) hq (fun m hm hi => ?_) (fun hi => ?_)
  ·have hm' : (m : Int) < l.length := by omega
   have hnm := idx_nn m
   have w2 := idx_next (j := m) (by omega)
   obtain ⟨gf, gt⟩ := drop_any hm hi
   have hg2 : (l.map nmRow).getD m [] = [ds l[m]] := by rw [getD_map nmRow l m hm]; rfl
   generalize l[m] = x at gf gt hg2
   cases hx : nameB x with
   | false =>
    have e0 := gf (by unfold nmBad; rw [hx]; rfl)
    have e1 := hf e0
    rw [e1] at hc
    have hc3 : after3 n = 3 := hc
    simp (maxSteps:=500000) only [↓vp, vv, ↓reduceIte, simprocAttr, c97_6, c97_5, c97_4, r97, TRc, selNm, NH5, hm', hnm, Int.toNat_natCast, hg2, hx, hc3, Pu]
   | true =>
    simp (maxSteps:=500000) only [↓vp, vv, ↓reduceIte, simprocAttr, c97_6, c97_5, c97_4, TRc, selNm, NH5, hm', hnm, Int.toNat_natCast, hg2, hx, w2]
    exact rng_next hm (weak_eqA [] [(0, 1), (0, 5)] [(1, .ptr (0, 1) 0 0 0), (5, .ptr (0, 5) 0 0 0), (65, nmsD n), (66, di j), (69, .sl (l.map nmRow)), (70, di l.length), (71, di (m + 1 : Nat))] (by refine ⟨?_, ?_, ?_, by simp, ?_⟩ <;> (simp only [↓vp, vv, ↓reduceIte, simprocAttr, coverS, refsF, NH5, nmsD, nms4, netD, w2] <;> try rfl))) (gt (by unfold nmBad; rw [hx]; rfl))
  ·have e0 : q = false := drop_any_end rfl hi
   simp (maxSteps:=500000) only [↓vp, vv, ↓reduceIte, simprocAttr, c97_7, c97_6, NH5, Int.lt_irrefl, w1]
   exact rng_next hj (weak_eqA [] [(0, 1), (0, 5)] [(1, .ptr (0, 1) 0 0 0), (5, .ptr (0, 5) 0 0 0), (65, nmsD n), (66, di (j + 1 : Nat))] (by refine ⟨?_, ?_, ?_, by simp, ?_⟩ <;> (simp only [↓vp, vv, ↓reduceIte, simprocAttr, coverS, refsF, NH5, nmsD, nms4, netD, w1] <;> try rfl))) (ht e0)
 ·have e1 : b = false := drop_any_end (nms4_len n).symm he
  rw [e1] at hc
  have hc2 : after3 n = after2 n := hc
  rw [hc2]
  simp (maxSteps:=500000) only [↓vp, vv, ↓reduceIte, simprocAttr, c97_9, Int.lt_irrefl]
  exact rk_nm n hz hp _ _ (by simp only [↓vp, vv, ↓reduceIte, simprocAttr, ]) (by simp only [↓vp, vv, ↓reduceIte, simprocAttr, ]) (by simp only [↓vp, vv, ↓reduceIte, simprocAttr, NH5]) (by simp only [↓vp, vv, ↓reduceIte, simprocAttr, NH5])
theorem in_pts (s : Seg) : inB s.points.length 2 8 = !ptsBad s := by
 unfold inB ptsBad
 by_cases h1 : (s.points.length : Int) < 2
 ·rw [decide_eq_true h1, if_pos rfl, if_neg (by simp; omega)]; rfl
 ·rw [decide_eq_false h1, if_pos (decide_eq_true (by omega)), if_neg (by simp)]
  by_cases h2 : (8 : Int) < s.points.length
  ·rw [decide_eq_true h2, decide_eq_false (by omega)]; rfl
  ·rw [decide_eq_false h2, decide_eq_true (by omega)]; rfl
theorem chk_lim {n : Net} (h : limB n = false) : checkI n = 4 := by unfold checkI; rw [h]; rfl
set_option maxHeartbeats 16000000 in
theorem rcheck_w (n : Net) (nn : Nm) : CallsA Try.prog 97 [n.enc] Hp.none nn (Pu (di (checkI n)) Hp.none) := by
 obtain ⟨code, h1, h2⟩ := c97_ok
 refine callsA_of TRc_ok mixed (N := fun t => (0, t)) Try.func97 h1 h2 r97_ok [] false js_nil js_nil' (by simp [Try.f97]) ?_
 have b1 : inB n.nodes.length 1 24 = false → limB n = false := fun h => by
  unfold limB
  unfold inB at h
  split
  ·rfl
  ·split
   ·rfl
   ·rw [if_pos (decide_eq_true (by omega))] at h
    exact absurd (of_decide_eq_false h) (by omega)
 have b1t : inB n.nodes.length 1 24 = true → ¬ (n.nodes.length : Int) < 1 ∧ ¬ (24 : Int) < n.nodes.length := fun h => by
  unfold inB at h
  split at h
  ·rename_i a; exact ⟨by have := of_decide_eq_true a; omega, by have := of_decide_eq_true h; omega⟩
  ·cases h
 cases a1 : inB n.nodes.length 1 24 with
 | false =>
  have hc := chk_lim (b1 a1)
  cases a2 : decide ((32 : Int) < n.segs.length) <;> cases a3 : decide ((24 : Int) < n.ports.length) <;> cases a4 : decide ((12 : Int) < n.sts.length) <;> simp (maxSteps:=500000) only [↓vp, vv, ↓reduceIte, simprocAttr, c97, r97, TRc, selIn, Net.enc, a1, a2, a3, a4, hc, Pu]
 | true =>
  have c1 := b1t a1
  cases a2 : decide ((32 : Int) < n.segs.length) with
  | true =>
   have hc : checkI n = 4 := chk_lim (by unfold limB; rw [if_neg c1.1, if_neg c1.2, if_pos (of_decide_eq_true a2)])
   cases a3 : decide ((24 : Int) < n.ports.length) <;> cases a4 : decide ((12 : Int) < n.sts.length) <;> simp (maxSteps:=500000) only [↓vp, vv, ↓reduceIte, simprocAttr, c97, r97, TRc, selIn, Net.enc, a1, a2, a3, a4, hc, Pu]
  | false =>
   have c2 := of_decide_eq_false a2
   cases a3 : decide ((24 : Int) < n.ports.length) with
   | true =>
    have hc : checkI n = 4 := chk_lim (by unfold limB; rw [if_neg c1.1, if_neg c1.2, if_neg c2, if_pos (of_decide_eq_true a3)])
    cases a4 : decide ((12 : Int) < n.sts.length) <;> simp (maxSteps:=500000) only [↓vp, vv, ↓reduceIte, simprocAttr, c97, r97, TRc, selIn, Net.enc, a1, a2, a3, a4, hc, Pu]
   | false =>
    have c3 := of_decide_eq_false a3
    cases a4 : decide ((12 : Int) < n.sts.length) with
    | true =>
     have hc : checkI n = 4 := chk_lim (by unfold limB; rw [if_neg c1.1, if_neg c1.2, if_neg c2, if_neg c3, if_pos (of_decide_eq_true a4)])
     simp (maxSteps:=500000) only [↓vp, vv, ↓reduceIte, simprocAttr, c97, r97, TRc, selIn, Net.enc, a1, a2, a3, a4, hc, Pu]
    | false =>
     have c4 := of_decide_eq_false a4
     have hl : limB n = !(n.segs.any ptsBad) := by unfold limB; rw [if_neg c1.1, if_neg c1.2, if_neg c2, if_neg c3, if_neg c4]
     generalize hb : n.segs.any ptsBad = b at hl
     simp (maxSteps:=500000) only [↓vp, vv, ↓reduceIte, simprocAttr, c97, c97_48, TRc, selIn, Net.enc, a1, a2, a3, a4]
     refine rng_loop n.segs.length (fun j => ⟨fr [(1, .ptr (0, 1) 0 0 0), (51, .sl (n.segs.map Seg.row)), (52, di n.segs.length), (53, di j)], netH n⟩) (fun j => (n.segs.drop j).any ptsBad = b) (weak_eqA [] [(0, 1)] [(1, .ptr (0, 1) 0 0 0), (51, .sl (n.segs.map Seg.row)), (52, di n.segs.length), (53, di 0)] (by refine ⟨?_, ?_, ?_, by simp, ?_⟩ <;> (simp only [↓vp, vv, ↓reduceIte, simprocAttr, coverS, refsF, netH, netD] <;> try rfl))) hb (fun j hj he => ?_) (fun he => ?_)
     ·have hj' : (j : Int) < n.segs.length := by omega
      have hjn := idx_nn j
      have w1 := idx_next (j := j) (by omega)
      obtain ⟨gf, gt⟩ := drop_any hj he
      have hg : (n.segs.map Seg.row).getD j [] = Seg.row n.segs[j] := getD_map Seg.row n.segs j hj
      generalize n.segs[j] = x at gf gt hg
      have hp := in_pts x
      cases hx : ptsBad x with
      | true =>
       rw [hx] at hp
       have hc : checkI n = 4 := chk_lim (by rw [hl, gf hx]; rfl)
       simp (maxSteps:=500000) only [↓vp, vv, ↓reduceIte, simprocAttr, c97_3, c97_2, c97_1, r97, TRc, selIn, netH, netD, Seg.row, hj', hjn, Int.toNat_natCast, hg, hp, hc, Bool.not_true, Pu]
      | false =>
       rw [hx] at hp
       simp (maxSteps:=500000) only [↓vp, vv, ↓reduceIte, simprocAttr, c97_3, c97_2, c97_1, TRc, selIn, netH, netD, Seg.row, hj', hjn, Int.toNat_natCast, hg, hp, w1, Bool.not_false]
       exact rng_next hj (weak_eqA [] [(0, 1)] [(1, .ptr (0, 1) 0 0 0), (51, .sl (n.segs.map Seg.row)), (52, di n.segs.length), (53, di (j + 1 : Nat))] (by refine ⟨?_, ?_, ?_, by simp, ?_⟩ <;> (simp only [↓vp, vv, ↓reduceIte, simprocAttr, coverS, refsF, netH, netD, w1] <;> try rfl))) (gt hx)
     ·have e0 : b = false := drop_any_end rfl he
      rw [e0] at hl
      have hl1 : limB n = true := hl
      have hp := (lim_pts hl1).1
      have hc : checkI n = after3 n := by unfold checkI after3 after2; rw [hl1, if_pos rfl]
      rw [hc]
      simp (maxSteps:=500000) only [↓vp, vv, ↓reduceIte, simprocAttr, c97_3, netH, Int.lt_irrefl]
      exact rk_fm n (sz_of_lim hl1) hp _ (by simp only [↓vp, vv, ↓reduceIte, simprocAttr, ])
def c54_1 : C := (.seq (.ops false [oP 19 (.ld 6 true (.t 3)), oM 20 1, oM 21 2, oP 22 (.call 113 [(.t 19), (.t 20), (.t 21)]), oM 6 22, oP 7 (.mv (cI 0))]) .ret)
def c54_2 : C := (.seq (.seq (.ops false [oP 15 (.ld 6 true (.t 3)), oM 16 2, oB 17 (.call 109 [(.t 15), (.t 16)]), oP 18 (.not (.t 17))]) (.cond (.t 18) (.seq (.ops false [oP 6 (.mv (.c .mt)), oP 7 (.mv (cI 8))]) .ret) .skip)) c54_1)
def c54 : C := (.seq (.ops false [oP 3 (.box 6 (.t 0)), oP 6 (.mv (.c .mt)), oP 7 (.mv (cI 0))]) (.seq (.seq (.ops false [oP 9 (.ld 6 true (.t 3)), oM 10 1, oB 11 (.call 108 [(.t 9), (.t 10)]), oM 8 11]) (.seq (.ops false [oM 12 8, oP 13 (.bin .neq (.t 12) (cI 0))]) (.cond (.t 13) (.seq (.ops false [oM 14 8, oP 6 (.mv (.c .mt)), oM 7 14]) .ret) .skip)))
 c54_2))
def r54 : List RV := [(.tmp 6), (.tmp 7)]
theorem c54_ok : ∃ code, Try.f54.body = some code ∧ compC Try.prog Try.f54.ntmps code = some (C.strip c54) := ⟨_, rfl, by kernel_rfl⟩
theorem r54_ok : compRes Try.prog Try.f54.results.toList = some r54 := by kernel_rfl
theorem f54_ok : fnOk Try.prog 54 = true := by kernel_rfl
def c108_1 : C := (.seq (.ops false [oP 4 (.mv (cI 0))]) .ret)
def c108_2 : C := (.seq (.seq (.ops false [oM 11 1, oP 12 (.len (.t 11)), oP 13 (.fa 1 (.t 2)), oP 14 (.ld 1 false (.t 13)), oP 15 (.len (.t 14)), oP 16 (.bin .neq (.t 12) (.t 15))]) (.cond (.t 16) (.seq (.ops false [oP 4 (.mv (cI 9))]) .ret) .skip)) c108_1)
def c108 : C := (.seq (.ops false [oP 2 (.box 6 (.t 0)), oP 4 (.mv (cI 0))]) (.seq (.seq (.ops false [oP 6 (.ld 6 true (.t 2)), oB 7 (.call 97 [(.t 6)]), oM 5 7]) (.seq (.ops false [oM 8 5, oP 9 (.bin .neq (.t 8) (cI 0))]) (.cond (.t 9) (.seq (.ops false [oM 10 5, oM 4 10]) .ret) .skip))) c108_2))
def r108 : List RV := [(.tmp 4)]
theorem c108_ok : ∃ code, Try.f108.body = some code ∧ compC Try.prog Try.f108.ntmps code = some (C.strip c108) := ⟨_, rfl, by kernel_rfl⟩
theorem r108_ok : compRes Try.prog Try.f108.results.toList = some r108 := by kernel_rfl
theorem f108_ok : fnOk Try.prog 108 = true := by kernel_rfl
def c109 : C := (.seq (.ops false [oP 2 (.box 6 (.t 0)), oP 4 (.mv (cB false))]) (.seq (.ops false [oM 5 1, oP 6 (.bin .geq (.t 5) (cI 0)), oM 7 6, oG 8 7 true (.mv (.t 1)), oG 9 7 true (.fa 0 (.t 2)), oG 10 7 true (.ld 1 false (.t 9)), oG 11 7 true (.len (.t 10)), oG 12 7 true (.bin .lss (.t 8) (.t 11)), oP 13 (.pick (.t 7) (.t 12) (cB false)), oM 4 13]) .ret))
def r109 : List RV := [(.tmp 4)]
theorem c109_ok : ∃ code, Try.f109.body = some code ∧ compC Try.prog Try.f109.ntmps code = some (C.strip c109) := ⟨_, rfl, by kernel_rfl⟩
theorem r109_ok : compRes Try.prog Try.f109.results.toList = some r109 := by kernel_rfl
theorem f109_ok : fnOk Try.prog 109 = true := by kernel_rfl
def c110_1 : C := (.seq (.block 1 (.seq (.ops false [oM 20 18, oM 8 20]) (.ops false [oM 21 7, oM 22 8, oP 23 (.iaS 1 (.t 21) (.t 22)), oS (.st 1 (.t 23) (cI (-1)))]))) (.ops false [oP 24 (.bin .add (.t 18) (cI 1)), oM 18 24]))
def c110_2 : C := (.seq (.ops false [oP 19 (.bin .lss (.t 18) (.t 17))]) (.seq (.cond (.t 19) .skip (.exit 0)) c110_1))
def c110_3 : C := (.seq (.ops false [oM 68 7, oP 69 (.fa 2 (.t 11)), oP 70 (.ld 1 false (.t 69)), oP 71 (.iaS 1 (.t 68) (.t 70)), oP 72 (.ld 1 false (.t 71)), oM 73 9, oP 74 (.bin .eql (.t 72) (.t 73)), oM 75 74, oG 76 75 true (.mv (.t 7)), oG 77 75 true (.fa 1 (.t 11)), oG 78 75 true (.ld 1 false (.t 77)), oG 79 75 true (.iaS 1 (.t 76) (.t 78)), oG 80 75 true (.ld 1 false (.t 79)),
 oG 81 75 true (.bin .lss (.t 80) (cI 0)), oP 82 (.pick (.t 75) (.t 81) (cB false))]) (.cond (.t 82) (.ops false [oM 83 7, oP 84 (.fa 1 (.t 11)), oP 85 (.ld 1 false (.t 84)), oM 86 9, oP 87 (.bin .add (.t 86) (cI 1)), oP 88 (.iaS 1 (.t 83) (.t 85)), oS (.st 1 (.t 88) (.t 87))]) .skip))
def c110_4 : C := (.seq (.seq (.ops false [oM 47 7, oP 48 (.fa 1 (.t 11)), oP 49 (.ld 1 false (.t 48)), oP 50 (.iaS 1 (.t 47) (.t 49)), oP 51 (.ld 1 false (.t 50)), oM 52 9, oP 53 (.bin .eql (.t 51) (.t 52)), oM 54 53, oG 55 54 true (.mv (.t 7)), oG 56 54 true (.fa 2 (.t 11)), oG 57 54 true (.ld 1 false (.t 56)), oG 58 54 true (.iaS 1 (.t 55) (.t 57)),
 oG 59 54 true (.ld 1 false (.t 58)), oG 60 54 true (.bin .lss (.t 59) (cI 0)), oP 61 (.pick (.t 54) (.t 60) (cB false))]) (.cond (.t 61) (.ops false [oM 62 7, oP 63 (.fa 2 (.t 11)), oP 64 (.ld 1 false (.t 63)), oM 65 9, oP 66 (.bin .add (.t 65) (cI 1)), oP 67 (.iaS 1 (.t 62) (.t 64)), oS (.st 1 (.t 67) (.t 66))]) .skip)) c110_3)
def c110_5 : C := (.ops false [oP 89 (.bin .add (.t 38) (cI 1)), oM 38 89])
def c110_6 : C := (.seq (.block 5 (.seq (.ops false [oM 40 38, oP 41 (.iaS 7 (.t 36) (.t 38)), oP 42 (.ld 7 true (.t 41)), oP 11 (.new [(.v (.string ({ data := #[] }))), (.v (.int .i64 0)), (.v (.int .i64 0)), (.v (.int .i64 0)), (.v (.int .i64 0)), (.v (.int .i64 0)), .mt]), oM 10 40, oS (.st 7 (.t 11) (.t 42))]) (.seq (.seq (.ops false [oM 43 1, oM 44 10,
 oP 45 (.iaS 1 (.t 43) (.t 44)), oP 46 (.ld 1 false (.t 45))]) (.cond (.t 46) (.exit 5) .skip)) c110_4))) c110_5)
def c110_7 : C := (.seq (.ops false [oP 39 (.bin .lss (.t 38) (.t 37))]) (.seq (.cond (.t 39) .skip (.exit 4)) c110_6))
def c110_8 : C := (.ops false [oM 33 9, oP 34 (.bin .add (.t 33) (cI 1)), oM 9 34])
def c110_9 : C := (.seq (.block 3 (.seq (.ops false [oP 35 (.fa 1 (.t 3)), oP 36 (.ld 1 false (.t 35)), oP 37 (.len (.t 36)), oP 38 (.mv (cI 0))]) (.block 4 (.loop c110_7)))) c110_8)
def c110_10 : C := (.seq (.seq (.ops false [oM 28 9, oP 29 (.fa 0 (.t 3)), oP 30 (.ld 1 false (.t 29)), oP 31 (.len (.t 30)), oP 32 (.bin .lss (.t 28) (.t 31))]) (.cond (.t 32) .skip (.exit 2))) c110_9)
def c110_11 : C := (.seq (.ops false [oM 90 7, oM 6 90]) .ret)
def c110_12 : C := (.seq (.ops false [oM 25 7, oM 26 2, oP 27 (.iaS 1 (.t 25) (.t 26)), oS (.st 1 (.t 27) (cI 0))]) (.seq (.seq (.ops false [oP 9 (.mv (cI 0))]) (.block 2 (.loop c110_10))) c110_11))
def c110 : C := (.seq (.ops false [oP 3 (.box 6 (.t 0)), oP 6 (.mv (.c .mt))]) (.seq (.ops false [oP 12 (.fa 0 (.t 3)), oP 13 (.ld 1 false (.t 12)), oP 14 (.len (.t 13)), oP 15 (.mks 1 8 [(.v (.int .i64 0))] (.t 14)), oM 7 15]) (.seq (.seq (.ops false [oM 16 7, oP 17 (.len (.t 16)), oP 18 (.mv (cI 0))]) (.block 0 (.loop c110_2))) c110_12)))
def r110 : List RV := [(.tmp 6)]
theorem c110_ok : ∃ code, Try.f110.body = some code ∧ compC Try.prog Try.f110.ntmps code = some (C.strip c110) := ⟨_, rfl, by kernel_rfl⟩
theorem r110_ok : compRes Try.prog Try.f110.results.toList = some r110 := by kernel_rfl
theorem f110_ok : fnOk Try.prog 110 = true := by kernel_rfl
def c113_1 : C := (.ops false [oP 28 (.bin .add (.t 16) (cI 1)), oM 16 28])
def c113_2 : C := (.seq (.block 1 (.seq (.ops false [oM 18 16, oM 9 18]) (.seq (.ops false [oM 19 8, oM 20 9, oP 21 (.iaS 1 (.t 19) (.t 20)), oP 22 (.ld 1 false (.t 21)), oP 23 (.bin .geq (.t 22) (cI 0))]) (.cond (.t 23) (.ops false [oM 24 7, oM 25 9, oP 26 (.bsl 1 1 [(.v (.int .i64 0))] [(0, (.t 25))]), oP 27 (.app 1 8 (.t 24) (.t 26)),
 oM 7 27]) .skip)))) c113_1)
def c113_3 : C := (.seq (.ops false [oP 17 (.bin .lss (.t 16) (.t 15))]) (.seq (.cond (.t 17) .skip (.exit 0)) c113_2))
def c113_4 : C := (.seq (.ops false [oM 29 7, oM 6 29]) .ret)
def c113 : C := (.seq (.ops false [oP 3 (.box 6 (.t 0)), oP 6 (.mv (.c .mt))]) (.seq (.ops false [oP 7 (.mv (.c .mt))]) (.seq (.ops false [oP 10 (.ld 6 true (.t 3)), oM 11 1, oM 12 2, oP 13 (.call 110 [(.t 10), (.t 11), (.t 12)]), oM 8 13]) (.seq (.seq (.ops false [oM 14 8, oP 15 (.len (.t 14)), oP 16 (.mv (cI 0))]) (.block 0 (.loop c113_3))) c113_4))))
def r113 : List RV := [(.tmp 6)]
theorem c113_ok : ∃ code, Try.f113.body = some code ∧ compC Try.prog Try.f113.ntmps code = some (C.strip c113) := ⟨_, rfl, by kernel_rfl⟩
theorem r113_ok : compRes Try.prog Try.f113.results.toList = some r113 := by kernel_rfl
theorem f113_ok : fnOk Try.prog 113 = true := by kernel_rfl
end Go.Proofs.Ytadjhfjiimgddaa
