/- RouteAnswers: Rb3 Vx Rb4 CodeRI Rb5 Rb6 Rt7. -/
import Derived.Test.YtadjhfjiimgddaaYr15
import Derived.Test.YtadjhfjiimgddaaYr5
import Derived.Test.YtadjhfjiimgddaaYr3
import Derived.Test.YtadjhfjiimgddaaProg
import Derived.WalkKit
import Derived.Test.YtadjhfjiimgddaaYr14
set_option linter.unusedSimpArgs false
set_option linter.unusedVariables false
set_option maxRecDepth 100000

/- Routes: Reach, Parts, Cuts of the reference, Parts of the program, for every network. -/
namespace Go.Proofs.Ytadjhfjiimgddaa
open Go
def ReB (n : Net) (c : List Bool) (k : Int) : Prop := RtV n c ∧ 0 ≤ k ∧ k < n.nodes.length
def selRe : List D → Option (Prop × D) := selDs ReB fun n c k => .sl ((rL n c k.toNat).map nRow)
theorem tc_re {T : Tbl} (hT : TblOk Try.prog T) : TblOk Try.prog (tc 113 (rowPu selRe) T) := tc_ds f113_ok (fun n c k h nn => by
 have := rreach_c n c k ⟨h.1.v, h.1.l, h.2⟩ h.1.ok.s nn
 rw [reachL_rL h.1 (by have := h.2; omega)] at this
 exact this) hT
def TRe : Tbl := tc 108 (rowPu selCk13) (tc 109 (rowPu selNd13) (tc 113 (rowPu selRe) T0))
theorem TRe_ok : TblOk Try.prog TRe := tc_ck13 (tc_nd13 (tc_re (T0_ok _)))
theorem rreachA_c (n : Net) (c : List Bool) (hc : c.length ≤ 1000000) (k : Int) (nn : Nm) : CallsA Try.prog 54 [n.enc, .sl (c.map bRow), di k] Hp.none nn (Pu (reachA n c k) Hp.none) := by
 obtain ⟨code, h1, h2⟩ := c54_ok
 refine callsA_of TRe_ok mixed (N := fun t => (0, t)) Try.func54 h1 h2 r54_ok [] false js_nil js_nil' (by simp [Try.f54]) ?_
 have hn1 := netOf1_x n
 have hb1 : lsOf boolOf1 (c.map bRow) = some c := lsOf_map boolOf1_row c
 unfold reachA
 rw [gchk_r]
 by_cases c0 : ¬ rchk n c = 0
 ·have c0' : (rchk n c != 0) = true := by simpa using c0
  rw [if_neg c0, if_neg c0]
  simp (maxSteps:=500000) only [↓vp, vv, ↓reduceIte, simprocAttr, c54, r54, c54_1, c54_2, r54, TRe, selCk13, Net.enc, netD, hn1, hb1, hc, c0', List.map_nil, Pu]
 have c0 : rchk n c = 0 := Decidable.of_not_not c0
 rw [if_pos c0]
 have uq : ([k].any (unk n)) = unk n k := by simp
 rw [uq]
 cases u1 : unk n k with
 | true => simp (maxSteps:=500000) only [↓vp, vv, ↓reduceIte, simprocAttr, c54, r54, c54_1, c54_2, r54, TRe, selCk13, selNd13, Net.enc, netD, hn1, hb1, hc, c0, u1, bne_self_eq_false, Bool.not_true, List.map_nil, Pu]
 | false =>
  have hp : ReB n c k := ⟨rtv_of c0, unk_f u1⟩
  rw [if_pos (by decide)]
  simp (maxSteps:=500000) only [↓vp, vv, ↓reduceIte, simprocAttr, c54, r54, c54_1, c54_2, r54, TRe, selCk13, selNd13, selRe, selDs, Net.enc, netD, hn1, hb1, hc, c0, u1, hp, bne_self_eq_false, Bool.not_false, List.map_nil, Pu]
def partsA (n : Net) (c : List Bool) : D := if rchk n c = 0 then .tup [.sl ((partsL n c).map pRow), di 0] else .tup [.sl [], di (rchk n c)]
theorem partsA_c (n : Net) (c : List Bool) (nn : Nm) : CallsA Try.prog 61 [n.enc, .sl (c.map bRow)] Hp.none nn (Pu (partsA n c) Hp.none) := by
 unfold partsA
 by_cases h : rchk n c = 0
 ·rw [if_pos h]
  exact Parts_c n c (rtv_of h) nn
 ·rw [if_neg h]
  obtain ⟨code, h1, h2⟩ := c61_ok
  refine callsA_of TRch_ok mixed (N := fun t => (0, t)) Try.func61 h1 h2 r61_ok [] false js_nil js_nil' (by simp [Try.f61]) ?_
  have hg := gOf1_row n c
  unfold gD at hg
  have hr : gchk n c [] = rchk n c := by rw [gchk_r, if_neg h]
  have hks : lsOf intOf1 [] = some [] := rfl
  have c0 : (rchk n c != 0) = true := by simpa using h
  simp (maxSteps:=500000) only [↓vp, vv, ↓reduceIte, simprocAttr, c61, r61, c61_1, c61_2, c61_3, c61_4, c61_5, TRch, selGk, Net.enc, hg, hr, hks, c0, List.map_nil, r61, Pu]
def RpF (n : Net) (c : List Bool) (j : Nat) : List (Nat × D) := [(1, .sl (c.map bRow)), (2, .ptr (0, 2) 0 0 0), (7, .own (0, 34) (ptP n c j).length 0 (ptP n c j).length), (18, di n.nodes.length), (19, di j)]
def RpH (n : Net) (c : List Bool) (j : Nat) : Hp := (Hp.none.put (0, 34) ⟨(ptP n c j).length, 1, (ptP n c j).map pRow⟩).put (0, 2) ⟨0, 6, [netD n]⟩
set_option maxHeartbeats 8000000 in
theorem rpartsA_c (n : Net) (c : List Bool) (hc : c.length ≤ 1000000) (nn : Nm) : CallsA Try.prog 62 [n.enc, .sl (c.map bRow)] Hp.none nn (Pu (partsA n c) Hp.none) := by
 obtain ⟨code, h1, h2⟩ := c62_ok
 refine callsA_of TRe_ok mixed (N := fun t => (0, t)) Try.func62 h1 h2 r62_ok [] false js_nil js_nil' (by simp [Try.f62]) ?_
 have hn1 := netOf1_x n
 have hb1 : lsOf boolOf1 (c.map bRow) = some c := lsOf_map boolOf1_row c
 unfold partsA
 by_cases c0 : ¬ rchk n c = 0
 ·have c0' : (rchk n c != 0) = true := by simpa using c0
  rw [if_neg c0]
  simp (maxSteps:=500000) only [↓vp, vv, ↓reduceIte, simprocAttr, c62, r62, c62_1, c62_2, c62_3, c62_4, c62_5, r62, TRe, selCk13, Net.enc, netD, hn1, hb1, hc, c0', List.map_nil, Pu]
 have c0 : rchk n c = 0 := Decidable.of_not_not c0
 rw [if_pos c0]
 have h := rtv_of c0
 have hnl := h.v.nl
 have hR : partsL n c = ptP n c n.nodes.length := rfl
 rw [hR]
 have rfP : ∀ (l : List (List Nat)) js, (∀ x, x ∈ l → refsInL js (pRow x) = true) = True := fun l js => eq_true fun x _ => rfl
 simp (maxSteps:=500000) only [↓vp, vv, ↓reduceIte, simprocAttr, c62, r62, c62_1, c62_2, c62_3, c62_4, c62_5, TRe, selCk13, Net.enc, netD, hn1, hb1, hc, c0, bne_self_eq_false]
 refine rng_loop n.nodes.length (fun j => ⟨fr (RpF n c j), RpH n c j⟩) (fun _ => True) ?_ trivial (fun j hj _ => ?_) (fun _ => ?_)
 ·exact ((weak_own 7 (0, 34) 1 (by simp only [↓vp, vv, ↓reduceIte, simprocAttr, ]) (by simp only [↓vp, vv, ↓reduceIte, simprocAttr, ])).trans (weak_eqA [] [(0, 2), (0, 34)] (RpF n c 0) (by refine ⟨?_, ?_, ?_, by simp, ?_⟩ <;> (simp only [↓vp, vv, ↓reduceIte, simprocAttr, coverS, refsF, RpF, RpH, netD, pRow, ptP, List.range_zero, List.filter_nil, List.map_nil, List.length_nil] <;> try rfl))))
 ·have hj' : (j : Int) < n.nodes.length := by omega
  have hjn := idx_nn j
  have w1 := idx_next (j := j) (by omega)
  obtain ⟨f1, f2⟩ := rL_first h hj
  have f1' : (0 : Int) < (rL n c j).length := by omega
  have hp : ReB n c (j : Int) := ⟨h, by omega⟩
  have d1 := ptP_succ n c j
  have l1 := ptP_le n c j
  have y1 : ((ptP n c j).length + 1) * 24 ≤ 140737488355328 := by omega
  have y2 : (ptP n c j).length + 1 ≤ 4611686018427387904 := by omega
  have hb : (((rL n c j).getD 0 0 : Nat) == j) = rootB n c j := rfl
  have hb' : ((((rL n c j).getD 0 0 : Nat) : Int) == (j : Int)) = rootB n c j := by
   rw [← hb, Bool.eq_iff_iff, beq_iff_eq, beq_iff_eq]; omega
  cases hr : rootB n c j with
  | true =>
   rw [hr] at hb'
   rw [hr, if_pos rfl] at d1
   simp (maxSteps:=500000) only [↓vp, vv, ↓reduceIte, simprocAttr, c62, r62, c62_1, c62_2, c62_3, c62_4, c62_5, TRe, selRe, selDs, RpF, RpH, netD, hn1, hb1, hp, hj', hjn, Int.toNat_natCast, f1, f1', f2, hb', w1, y1, y2, pRow]
   exact rng_next hj (weak_eqA [] [(0, 2), (0, 34)] (RpF n c (j + 1)) (by refine ⟨?_, ?_, ?_, by simp, ?_⟩ <;> (simp only [↓vp, vv, ↓reduceIte, simprocAttr, coverS, refsF, RpF, RpH, netD, pRow, w1, d1, rfP, List.map_append, List.length_append, List.length_cons, List.length_nil] <;> try rfl))) trivial
  | false =>
   rw [hr] at hb'
   rw [hr, if_neg (by simp)] at d1
   simp (maxSteps:=500000) only [↓vp, vv, ↓reduceIte, simprocAttr, c62, r62, c62_1, c62_2, c62_3, c62_4, c62_5, TRe, selRe, selDs, RpF, RpH, netD, hn1, hb1, hp, hj', hjn, Int.toNat_natCast, f1, f1', f2, hb', w1, pRow]
   exact rng_next hj (weak_eqA [] [(0, 2), (0, 34)] (RpF n c (j + 1)) (by refine ⟨?_, ?_, ?_, by simp, ?_⟩ <;> (simp only [↓vp, vv, ↓reduceIte, simprocAttr, coverS, refsF, RpF, RpH, netD, pRow, w1, d1, rfP] <;> try rfl))) trivial
 ·simp (maxSteps:=500000) only [↓vp, vv, ↓reduceIte, simprocAttr, c62, r62, c62_1, c62_2, c62_3, c62_4, c62_5, RpF, RpH, netD, Int.lt_irrefl, r62, Pu]
  exact fun j _ d hd => by rw [List.mem_singleton.1 hd]; rfl
/-! ### cuts -/
def unkS (n : Net) (k : Int) : Bool := if decide (k < 0) = true then true else decide ((n.segs.length : Int) ≤ k)
def cutsA (n : Net) (c : List Bool) (k : Int) : D := if rchk n c = 0 then (if unkS n k = true then .tup [db false, di 8] else .tup [db (cutB n c k.toNat), di 0]) else .tup [db false, di (rchk n c)]
def TCt : Tbl := tc 108 (rowPu selCk13) (tc 110 (rowPu selDi) T0)
theorem TCt_ok : TblOk Try.prog TCt := tc_ck13 (tc_di (T0_ok _))
set_option maxHeartbeats 8000000 in
theorem rcutsA_c (n : Net) (c : List Bool) (hc : c.length ≤ 1000000) (k : Int) (nn : Nm) : CallsA Try.prog 56 [n.enc, .sl (c.map bRow), di k] Hp.none nn (Pu (cutsA n c k) Hp.none) := by
 obtain ⟨code, h1, h2⟩ := c56_ok
 refine callsA_of TCt_ok mixed (N := fun t => (0, t)) Try.func56 h1 h2 r56_ok [] false js_nil js_nil' (by simp [Try.f56]) ?_
 have hn1 := netOf1_x n
 have hb1 : lsOf boolOf1 (c.map bRow) = some c := lsOf_map boolOf1_row c
 unfold cutsA
 by_cases c0 : ¬ rchk n c = 0
 ·have c0' : (rchk n c != 0) = true := by simpa using c0
  rw [if_neg c0]
  simp (maxSteps:=500000) only [↓vp, vv, ↓reduceIte, simprocAttr, c56, r56, c56_1, c56_2, c56_3, r56, TCt, selCk13, Net.enc, netD, hn1, hb1, hc, c0', Pu]
 have c0 : rchk n c = 0 := Decidable.of_not_not c0
 rw [if_pos c0]
 unfold unkS
 cases k0 : decide (k < 0) with
 | true =>
  have k0' := of_decide_eq_true k0
  simp (maxSteps:=500000) only [↓vp, vv, ↓reduceIte, simprocAttr, c56, r56, c56_1, c56_2, c56_3, r56, TCt, selCk13, Net.enc, netD, hn1, hb1, hc, c0, k0, k0', bne_self_eq_false, decide_true, decide_false, Bool.not_true, Bool.not_false, Pu]
 | false =>
 have k0' := of_decide_eq_false k0
 cases k1 : decide ((n.segs.length : Int) ≤ k) with
 | true =>
  have k1' := of_decide_eq_true k1
  simp (maxSteps:=500000) only [↓vp, vv, ↓reduceIte, simprocAttr, c56, r56, c56_1, c56_2, c56_3, r56, TCt, selCk13, Net.enc, netD, hn1, hb1, hc, c0, k0, k0', k1, k1', bne_self_eq_false, Bool.false_eq_true, decide_true, decide_false, Bool.not_true, Bool.not_false, Pu]
 | false =>
 have k1' := of_decide_eq_false k1
 obtain ⟨K, rfl⟩ : ∃ K : Nat, k = (K : Int) := ⟨k.toNat, by omega⟩
 have h := rtv_of c0
 have hl := h.l
 have hv := h.v
 have hK : K < n.segs.length := by omega
 have hK' : (K : Int) < n.segs.length := by omega
 have hKc : K < c.length := by omega
 have hKc' : (K : Int) < c.length := by omega
 have hkn := idx_nn K
 have gc := bRow_g1 c K hKc
 have hc0 : c.getD K false = c[K] := by rw [List.getD_eq_getElem?_getD, List.getElem?_eq_getElem hKc]; rfl
 unfold cutB
 rw [Int.toNat_natCast, hc0]
 generalize c[K] = cK at gc
 cases cK with
 | true => simp (maxSteps:=500000) only [↓vp, vv, ↓reduceIte, simprocAttr, c56, r56, c56_1, c56_2, c56_3, r56, TCt, selCk13, Net.enc, netD, hn1, hb1, hc, c0, k0, k0', k1, k1', hKc, hKc', hkn, gc, Int.toNat_natCast, bne_self_eq_false, Bool.false_eq_true, decide_true, decide_false, Bool.not_true, Bool.not_false, Pu]
 | false =>
  have hse := hv.se n.segs[K] (List.getElem_mem hK)
  have gs := getD_map Seg.row n.segs K hK
  rw [List.getElem?_eq_getElem hK]
  dsimp only
  generalize n.segs[K] = sg at hse gs
  have hset : (c.map bRow).set K [db true] = (c.set K true).map bRow := by rw [List.map_set]; rfl
  have h2 := h.set K
  have hb2 : lsOf boolOf1 ((c.set K true).map bRow) = some (c.set K true) := lsOf_map boolOf1_row _
  have hdp : DsPre n (c.set K true) sg.fr := ⟨h2.v, h2.l, hse.1⟩
  have hdh := dist_hops h2.ok (t := sg.fr.toNat) (by omega)
  have hDl := (h2.ok.isD (t := sg.fr.toNat) (by omega)).len
  generalize hopsL n (c.set K true) sg.fr.toNat = D0 at hdh hDl ⊢
  have gt := iRow_dd D0 sg.to.toNat (by omega)
  have lt : sg.to.toNat < D0.length := by omega
  have lt' : sg.to < D0.length := by omega
  have t0 : 0 ≤ sg.to := by omega
  have q1 : c.length * 1 ≤ 140737488355328 := by omega
  have q2 : c.length ≤ 4611686018427387904 := by omega
  have rl : ∀ x, (bRow x).length = 1 := fun _ => rfl
  have tk : ((c.set K true).map bRow).take c.length = (c.set K true).map bRow := List.take_of_length_le (by simp)
  have ls : c.length ≤ (c.set K true).length := by rw [List.length_set]; exact Nat.le_refl _
  have pb : ∀ l : List Bool, (∀ j, j ∈ l → ∀ d, d ∈ bRow j → d.plain = true) = True := fun l => eq_true fun j _ d hd => by rw [List.mem_singleton.1 hd]; rfl
  cases q4 : decide (D0.getD sg.to.toNat 0 < 0) <;>
  simp (maxSteps:=500000) only [↓vp, vv, ↓reduceIte, simprocAttr, c56, r56, c56_1, c56_2, c56_3, r56, TCt, selCk13, selDi, selDs, Net.enc, netD, hn1, hb1, hb2, hc, c0, k0, k0', k1, k1', hK, hK', hKc, hKc', hkn, gc, gs, Seg.row, hset, hdp, hdh, gt, lt, lt', t0, q1, q2, q4, rl, tk, ls, pb, Int.toNat_natCast, bne_self_eq_false, Bool.false_eq_true, decide_true, decide_false, Bool.not_true, Bool.not_false, Pu]
def RngIP {α : Type} (n : Nat) (st : Nat → α → St) (P : Nat → α → Prop) (m : Nat) (s : St) : Prop := ∃ (j : Nat) (u : α), j + m = n ∧ P j u ∧ s = st j u
theorem rng_loopP {T : Tbl} {N : Nat → Nm} {J : List Nm} {c : C} {Q : Ex → St → Prop} {s : St} {α : Type} (n : Nat) (st : Nat → α → St) (P : Nat → α → Prop) {u0 : α} (h0 : Weak J s (st 0 u0)) (hP : P 0 u0)
  (hs : ∀ j, j < n → ∀ u, P j u → vc T N J c (loopQ J (RngIP n st P) (n - j) Q) (st j u)) (he : ∀ u, P n u → vc T N J c (loopQ J (RngIP n st P) 0 Q) (st n u)) : vc T N J (.loop c) Q s := by
 rw [vc_loop]
 refine ⟨RngIP n st P, ⟨n, _, h0, 0, u0, by omega, hP, rfl⟩, ?_⟩
 rintro m s' ⟨j, u, hj, hPj, rfl⟩
 by_cases h : j < n
 ·obtain rfl : m = n - j := by omega
  exact hs j h u hPj
 ·obtain rfl : j = n := by omega
  obtain rfl : m = 0 := by omega
  exact he u hPj
theorem rng_nextP {J : List Nm} {n : Nat} {α : Type} {st : Nat → α → St} {P : Nat → α → Prop} {j : Nat} {s : St} (hj : j < n) (u : α) (w : Weak J s (st (j + 1) u)) (hp : P (j + 1) u) : ∃ k' s', k' < n - j ∧ Weak J s s' ∧ RngIP n st P k' s' :=
 ⟨n - (j + 1), _, by omega, w, j + 1, u, by omega, hp, rfl⟩
def TLz : Tbl := tc 97 (rowPu (selNetW (fun _ => True) fun n => di (checkI n))) (tc 111 (rowPu selEn) T0)
theorem TLz_ok : TblOk Try.prog TLz := tc_netw f97_ok (fun n _ nn => rcheck_w n nn) (tc_en f111_ok REnds_c (T0_ok _))
structure SeenP (n : Net) (w : List (Int × Bool)) (X : Int × Int) (j : Nat) (seen : List Bool) (s : Int) : Prop where
 l : seen.length = n.nodes.length
 sb : 0 ≤ s ∧ s ≤ 1000000 * (j : Int)
 g : ∃ vis : List Int, vis.length = (if j = 0 then 0 else j + 1) ∧ (∀ v : Nat, v < n.nodes.length → seen.getD v false = vis.contains (v : Int)) ∧ (∀ (i : Nat) (h : i < w.length), j = i + 1 → vis.getD j 0 = (hEnds n w[i]).2) ∧ lenGo n j (w.drop j) vis s = X
theorem seen_set {N : Nat} {seen : List Bool} {vis : List Int} (hl : seen.length = N) (h : ∀ v : Nat, v < N → seen.getD v false = vis.contains (v : Int)) {B : Nat} (hB : B < N) : (seen.set B true).length = N ∧ ∀ v : Nat, v < N → (seen.set B true).getD v false = (vis ++ [(B : Int)]).contains (v : Int) := by
 refine ⟨by rw [List.length_set]; exact hl, fun v hv => ?_⟩
 have k := h v hv
 rw [List.getD_eq_getElem?_getD] at k
 rw [List.getD_eq_getElem?_getD, List.getElem?_set]
 by_cases e : B = v
 ·subst e
  rw [if_pos rfl, if_pos (by omega)]
  simp
 ·rw [if_neg e, k]
  have e2 : ((v : Int) == (B : Int)) = false := by rw [beq_eq_false_iff_ne]; omega
  simp [List.contains_eq_mem, e]
  omega
theorem hin_of {n : Net} {h : Int × Bool} (hu : unkH n h = false) : hIn n h := by
 unfold unkH at hu
 split at hu
 ·cases hu
 ·rename_i q
  simp at q hu
  exact ⟨by omega, by omega⟩
theorem ends_in {n : Net} (hv : NetV n) {h : Int × Bool} (hh : hIn n h) : ∃ A B : Nat, hEnds n h = ((A : Int), (B : Int)) ∧ A < n.nodes.length ∧ B < n.nodes.length ∧ A ≠ B ∧ (1 ≤ hCap n h ∧ hCap n h ≤ 1000000) ∧ ∃ hk : h.1.toNat < n.segs.length, hCap n h = (n.segs[h.1.toNat]).cap := by
 obtain ⟨q1, q2⟩ := hh
 have hk : h.1.toNat < n.segs.length := by omega
 have hse := hv.se _ (List.getElem_mem hk)
 have hc : hCap n h = (n.segs[h.1.toNat]).cap := by unfold hCap; rw [List.getElem?_eq_getElem hk]
 have he : hEnds n h = if h.2 = true then ((n.segs[h.1.toNat]).to, (n.segs[h.1.toNat]).fr) else ((n.segs[h.1.toNat]).fr, (n.segs[h.1.toNat]).to) := by unfold hEnds; rw [List.getElem?_eq_getElem hk]
 have hc0 := hc
 generalize n.segs[h.1.toNat] = sg at hse hc he
 cases hb : h.2 with
 | true => exact ⟨sg.to.toNat, sg.fr.toNat, by rw [he, hb, if_pos rfl]; ext <;> (dsimp only; omega), by omega, by omega, by omega, by omega, hk, hc0⟩
 | false => exact ⟨sg.fr.toNat, sg.to.toNat, by rw [he, hb, if_neg (by decide)]; ext <;> (dsimp only; omega), by omega, by omega, by omega, by omega, hk, hc0⟩
def LzF (n : Net) (w : List (Int × Bool)) (s : Int) (j : Int) : List (Nat × D) := [(1, .sl (w.map hRow)), (2, .ptr (0, 2) 0 0 0), (9, di s), (10, .own (0, 43) 0 0 n.nodes.length), (44, .sl (w.map hRow)), (45, di w.length), (46, di j)]
def LzH (n : Net) (seen : List Bool) : Hp := (Hp.none.put (0, 43) ⟨0, 1, seen.map bRow⟩).put (0, 2) ⟨0, 6, [netD n]⟩
def LzA (w : List (Int × Bool)) (j : Int) : List (Nat × D) := [(1, .sl (w.map hRow)), (2, .ptr (0, 2) 0 0 0), (22, .sl (w.map hRow)), (23, di w.length), (24, di j)]
set_option maxHeartbeats 16000000 in
theorem rlen_c (n : Net) (w : List (Int × Bool)) (hw : w.length ≤ 1000) (nn : Nm) : CallsA Try.prog 60 [n.enc, .sl (w.map hRow)] Hp.none nn (Pu (.tup [di (lenR n w).1, di (lenR n w).2]) Hp.none) := by
 obtain ⟨code, h1, h2⟩ := c60_ok
 refine callsA_of TLz_ok mixed (N := fun t => (0, t)) Try.func60 h1 h2 r60_ok [] false js_nil js_nil' (by simp [Try.f60]) ?_
 have hn1 := netOf1_x n
 unfold lenR
 cases c1 : (checkI n != 0) with
 | true =>
  have e1 : checkI n ≠ 0 := by simpa using c1
  rw [if_pos e1]
  simp (maxSteps:=500000) only [↓vp, vv, ↓reduceIte, simprocAttr, c60, r60, c60_1, c60_10, c60_11, c60_2, c60_3, c60_4, c60_5, c60_6, c60_7, c60_8, c60_9, r60, TLz, selNetW, Net.enc, netD, hn1, c1, Pu]
 | false =>
  have e1 : checkI n = 0 := by simpa using c1
  rw [if_neg (by omega)]
  have hv := check0 e1
  have hnl := hv.nl
  generalize hX : (if w.any (unkH n) = true then ((0 : Int), (8 : Int)) else lenGo n 0 w [] 0) = X
  simp (maxSteps:=500000) only [↓vp, vv, ↓reduceIte, simprocAttr, c60, r60, c60_1, c60_10, c60_11, c60_2, c60_3, c60_4, c60_5, c60_6, c60_7, c60_8, c60_9, TLz, selNetW, Net.enc, netD, hn1, c1]
  refine rng_loop w.length (fun j => ⟨fr (LzA w (j : Nat)), Hp.none.put (0, 2) ⟨0, 6, [netD n]⟩⟩) (fun j => w.any (unkH n) = (w.drop j).any (unkH n)) (weak_eqA [] [(0, 2)] (LzA w 0) (by refine ⟨?_, ?_, ?_, by simp, ?_⟩ <;> (simp only [↓vp, vv, ↓reduceIte, simprocAttr, coverS, refsF, LzA, netD] <;> try rfl))) rfl (fun j hj hP => ?_) (fun hP => ?_)
  ·have hj' : (j : Int) < w.length := by omega
   have hjn := idx_nn j
   have w1 := idx_next (j := j) (by omega)
   have hgw := hRow_g w j hj
   rw [List.drop_eq_getElem_cons hj, List.any_cons] at hP
   generalize w[j] = h at hgw hP
   obtain ⟨k, bb⟩ := h
   cases k0 : decide (k < 0) with
   | true =>
    have hu : unkH n (k, bb) = true := by unfold unkH; rw [k0, if_pos rfl]
    rw [hu, Bool.true_or] at hP
    rw [hP, if_pos rfl] at hX
    simp (maxSteps:=500000) only [↓vp, vv, ↓reduceIte, simprocAttr, c60, r60, c60_1, c60_10, c60_11, c60_2, c60_3, c60_4, c60_5, c60_6, c60_7, c60_8, c60_9, r60, TLz, LzA, netD, hj, hj', hjn, hgw, hRow, k0, ← hX, Int.toNat_natCast, Pu]
   | false =>
    cases k1 : decide ((n.segs.length : Int) ≤ k) with
    | true =>
     have hu : unkH n (k, bb) = true := by unfold unkH; rw [k0, if_neg (by decide), k1]
     rw [hu, Bool.true_or] at hP
     rw [hP, if_pos rfl] at hX
     have k1' := of_decide_eq_true k1
     simp (maxSteps:=500000) only [↓vp, vv, ↓reduceIte, simprocAttr, c60, r60, c60_1, c60_10, c60_11, c60_2, c60_3, c60_4, c60_5, c60_6, c60_7, c60_8, c60_9, r60, TLz, LzA, netD, hj, hj', hjn, hgw, hRow, k0, k1', decide_true, ← hX, Int.toNat_natCast, Pu]
    | false =>
     have hu : unkH n (k, bb) = false := by unfold unkH; rw [k0, if_neg (by decide), k1]
     rw [hu, Bool.false_or] at hP
     have k1' := of_decide_eq_false k1
     simp (maxSteps:=500000) only [↓vp, vv, ↓reduceIte, simprocAttr, c60, r60, c60_1, c60_10, c60_11, c60_2, c60_3, c60_4, c60_5, c60_6, c60_7, c60_8, c60_9, TLz, LzA, netD, hj, hj', hjn, hgw, hRow, k0, k1', decide_false, Int.toNat_natCast]
     exact rng_next hj (weak_eqA [] [(0, 2)] (LzA w ((j + 1 : Nat) : Int)) (by refine ⟨?_, ?_, ?_, by simp, ?_⟩ <;> (simp only [↓vp, vv, ↓reduceIte, simprocAttr, coverS, refsF, LzA, netD, w1] <;> try rfl))) hP
  ·rw [List.drop_of_length_le (Nat.le_refl _)] at hP
   rw [hP, if_neg (by simp)] at hX
   have y1 : 1 * (n.nodes.length : Int) ≤ 281474976710656 := by omega
   have y2 : (n.nodes.length : Int) ≤ 4611686018427387904 := by omega
   have y3 : (n.nodes.length : Int) ≤ 281474976710656 := by omega
   have y4 : (0 : Int) ≤ n.nodes.length := by omega
   simp (maxSteps:=500000) only [↓vp, vv, ↓reduceIte, simprocAttr, c60, r60, c60_1, c60_10, c60_11, c60_2, c60_3, c60_4, c60_5, c60_6, c60_7, c60_8, c60_9, TLz, LzA, netD, y1, y2, y3, y4, Int.lt_irrefl, Int.toNat_natCast]
   have hall : ∀ h, h ∈ w → hIn n h := fun h hm => hin_of (by
    cases e : unkH n h with
    | false => rfl
    | true => rw [List.any_eq_true.2 ⟨h, hm, e⟩] at hP; cases hP)
   have rfB : ∀ (l : List Bool) js, (∀ x, x ∈ l → refsInL js (bRow x) = true) = True := fun l js => eq_true fun x _ => rfl
   have rfR : ∀ js, (∀ r, r ∈ List.replicate n.nodes.length [D.v (Value.bool false)] → refsInL js r = true) = True := fun js => eq_true fun r hr => by rw [(List.mem_replicate.1 hr).2]; rfl
   have rep : (List.replicate n.nodes.length false).map bRow = List.replicate n.nodes.length [db false] := by rw [List.map_replicate]; rfl
   refine rng_loopP w.length (fun j (u : List Bool × Int) => ⟨fr (LzF n w u.2 (j : Nat)), LzH n u.1⟩) (fun j u => SeenP n w X j u.1 u.2) (u0 := (List.replicate n.nodes.length false, 0)) (weak_eqA [] [(0, 2), (0, 43)] (LzF n w 0 0) (by refine ⟨?_, ?_, ?_, by simp, ?_⟩ <;> (simp only [↓vp, vv, ↓reduceIte, simprocAttr, coverS, refsF, LzF, LzH, netD, rep, rfB, rfR] <;> try rfl))) ⟨List.length_replicate, by omega, [], rfl, fun v hv => by rw [List.getD_eq_getElem?_getD, List.getElem?_replicate, if_pos hv]; rfl, fun i h e => by omega, hX⟩ (fun j hj u hP2 => ?_) (fun u hP2 => ?_)
   ·obtain ⟨seen, s⟩ := u
    have sl := hP2.l
    have sb := hP2.sb
    obtain ⟨vis, vl, vse, vle, vX⟩ := hP2.g
    dsimp only at sl sb vse vle vX ⊢
    have hj' : (j : Int) < w.length := by omega
    have hjn := idx_nn j
    have w1 := idx_next (j := j) (by omega)
    have hgw := hRow_g w j hj
    rw [List.drop_eq_getElem_cons hj, lenGo] at vX
    have hin := hall _ (List.getElem_mem hj)
    have nxt : ∀ (i : Nat) (h : i < w.length), j + 1 = i + 1 → (hEnds n w[i]).2 = (hEnds n w[j]).2 := fun i h e => by
     obtain rfl : i = j := by omega
     rfl
    obtain ⟨A, B, eAB, hA, hB, hAB, hcap, hk, hc⟩ := ends_in hv hin
    rw [eAB] at nxt
    generalize w[j] = h at hgw vX hin eAB hcap hk hc
    obtain ⟨k, bb⟩ := h
    dsimp only at hk hc
    obtain ⟨K, rfl⟩ : ∃ K : Nat, k = (K : Int) := ⟨k.toNat, by have := hin.1; dsimp only at this; omega⟩
    have hk' : K < n.segs.length := hk
    have hc : hCap n ((K : Int), bb) = (n.segs[K]'hk').cap := hc
    have gs := getD_map Seg.row n.segs K hk'
    have hK' : (K : Int) < n.segs.length := by omega
    have hKn := idx_nn K
    rw [eAB] at vX
    dsimp only at vX
    rw [hc] at vX hcap
    generalize n.segs[K] = sg at gs vX hcap
    have wc : IntKind.i64.wrap (s + sg.cap) = s + sg.cap := wrap_i (by omega)
    have nA := idx_nn A
    have nB := idx_nn B
    have hA' : (A : Int) < n.nodes.length := by omega
    have hB' : (B : Int) < n.nodes.length := by omega
    have hAl : A < seen.length := by omega
    have hBl : B < seen.length := by omega
    have tK : ((K : Nat) : Int).toNat = K := Int.toNat_natCast K
    have stt : ∀ (l : List Bool) (i : Nat), (l.map bRow).set i [db true] = (l.set i true).map bRow := fun l i => by rw [List.map_set]; rfl
    have gA := bRow_g1 seen A hAl
    rcases j with _ | i
    ·rw [if_pos rfl] at vX
     have v0 : vis = [] := List.length_eq_zero_iff.1 (by simpa using vl)
     subst v0
     rw [if_neg (by simp)] at vX
     have cB : (([] : List Int) ++ [(A : Int)]).contains (B : Int) = false := by
      have : ((B : Int) == (A : Int)) = false := by rw [beq_eq_false_iff_ne]; omega
      simp [this]
      omega
     rw [cB, if_neg (by decide)] at vX
     obtain ⟨sa, sb'⟩ := seen_set sl vse hA
     obtain ⟨sc, sd⟩ := seen_set sa sb' hB
     have hj0 : (0 : Int) < w.length := by omega
     have w01 : IntKind.i64.wrap 1 = 1 := by decide
     have sA : B < (seen.set A true).length := by rw [List.length_set]; exact hBl
     have gB : ((seen.set A true).map bRow).getD B [] = [db false] := by
      rw [bRow_g1 _ B (by rw [List.length_set]; exact hBl)]
      have := sb' B hB
      rw [List.getD_eq_getElem?_getD, List.getElem?_eq_getElem (by rw [List.length_set]; exact hBl), cB] at this
      simp only [Option.getD_some] at this
      rw [this]
     simp (maxSteps:=500000) only [↓vp, vv, ↓reduceIte, simprocAttr, c60, r60, c60_1, c60_10, c60_11, c60_2, c60_3, c60_4, c60_5, c60_6, c60_7, c60_8, c60_9, TLz, selEn, LzF, LzH, netD, hn1, hin, eAB, hj, hj', hgw, hRow, gs, hk', tK, hK', hKn, Seg.row, wc, nA, nB, hA', hB', hA, hB, hAl, hBl, hj0, gA, sA, sl, gB, stt, Int.toNat_natCast]
     have nP : SeenP n w X (0 + 1) ((seen.set A true).set B true) (s + sg.cap) := ⟨sc, by omega, _, by simp, sd, fun i h e => by rw [nxt i h e]; simp, vX⟩
     refine rng_nextP hj ((seen.set A true).set B true, s + sg.cap) ?_ nP
     exact (weak_eqA [] [(0, 2), (0, 43)] (LzF n w (s + sg.cap) ((0 + 1 : Nat) : Int)) (by refine ⟨?_, ?_, ?_, by simp, ?_⟩ <;> (simp only [↓vp, vv, ↓reduceIte, simprocAttr, coverS, refsF, LzF, LzH, netD, rfB, stt, w1, w01] <;> try rfl)))
    ·have n0 : ¬ (i + 1 = 0) := by omega
     rw [if_neg n0] at vX vl
     have hi : i < w.length := by omega
     have hi' : (i : Int) < w.length := by omega
     have hin2 := hall _ (List.getElem_mem hi)
     have hle := vle i hi rfl
     have hgi := hRow_g w i hi
     obtain ⟨A2, B2, e2, hA2, hB2, _⟩ := ends_in hv hin2
     rw [e2] at hle
     dsimp only at hle
     generalize w[i] = h' at hgi hin2 e2
     obtain ⟨k', b'⟩ := h'
     have j0 : (((i + 1 : Nat) : Int) == 0) = false := by rw [beq_eq_false_iff_ne]; omega
     have wj1 : IntKind.i64.wrap (((i + 1 : Nat) : Int) - 1) = (i : Int) := by rw [wrap_i (by omega)]; omega
     have nI := idx_nn i
     have p0 : (0 : Int) ≤ ((i + 1 : Nat) : Int) := by omega
     rw [hle] at vX
     cases q1 : ((B2 : Int) != (A : Int)) with
     | true =>
      rw [q1, if_pos rfl] at vX
      rw [← vX]
      simp (maxSteps:=500000) only [↓vp, vv, ↓reduceIte, simprocAttr, c60, r60, c60_1, c60_10, c60_11, c60_2, c60_3, c60_4, c60_5, c60_6, c60_7, c60_8, c60_9, r60, TLz, selEn, LzF, LzH, netD, hn1, hin, hin2, eAB, e2, hj, hj', hi, hi', hgw, hgi, hRow, j0, p0, wj1, nI, q1, Int.toNat_natCast, Pu]
     | false =>
      rw [q1, if_neg (by decide)] at vX
      have gB : (seen.map bRow).getD B [] = [db (vis.contains (B : Int))] := by
       rw [bRow_g1 _ B hBl]
       have := vse B hB
       rw [List.getD_eq_getElem?_getD, List.getElem?_eq_getElem hBl] at this
       simp only [Option.getD_some] at this
       rw [this]
      cases q2 : vis.contains (B : Int) with
      | true =>
       rw [q2, if_pos rfl] at vX
       rw [q2] at gB
       rw [← vX]
       simp (maxSteps:=500000) only [↓vp, vv, ↓reduceIte, simprocAttr, c60, r60, c60_1, c60_10, c60_11, c60_2, c60_3, c60_4, c60_5, c60_6, c60_7, c60_8, c60_9, r60, TLz, selEn, LzF, LzH, netD, hn1, hin, hin2, eAB, e2, hj, hj', hi, hi', hgw, hgi, hRow, j0, p0, wj1, nI, nB, hB, hB', hBl, sl, gB, q1, Int.toNat_natCast, Pu]
      | false =>
       rw [q2, if_neg (by decide)] at vX
       rw [q2] at gB
       obtain ⟨sc, sd⟩ := seen_set sl vse hB
       simp (maxSteps:=500000) only [↓vp, vv, ↓reduceIte, simprocAttr, c60, r60, c60_1, c60_10, c60_11, c60_2, c60_3, c60_4, c60_5, c60_6, c60_7, c60_8, c60_9, TLz, selEn, LzF, LzH, netD, hn1, hin, hin2, eAB, e2, hj, hj', hi, hi', hgw, hgi, hRow, gs, hk', tK, hK', hKn, Seg.row, wc, j0, p0, wj1, nI, nB, hB, hB', hBl, sl, gB, q1, Int.toNat_natCast]
       have nP : SeenP n w X (i + 1 + 1) (seen.set B true) (s + sg.cap) := ⟨sc, by omega, _, by rw [if_neg (by omega), List.length_append, vl]; rfl, sd, fun i' h e => by
        rw [nxt i' h e, List.getD_eq_getElem?_getD, List.getElem?_append_right (by omega), vl, Nat.sub_self]
        rfl, vX⟩
       refine rng_nextP hj (seen.set B true, s + sg.cap) ?_ nP
       exact (weak_eqA [] [(0, 2), (0, 43)] (LzF n w (s + sg.cap) ((i + 1 + 1 : Nat) : Int)) (by refine ⟨?_, ?_, ?_, by simp, ?_⟩ <;> (simp only [↓vp, vv, ↓reduceIte, simprocAttr, coverS, refsF, LzF, LzH, netD, rfB, stt, w1] <;> try rfl)))
   ·obtain ⟨seen, s⟩ := u
    obtain ⟨vis, vl, vse, vle, vX⟩ := hP2.g
    rw [List.drop_of_length_le (Nat.le_refl _), lenGo] at vX
    dsimp only at vX ⊢
    rw [← vX]
    simp (maxSteps:=500000) only [↓vp, vv, ↓reduceIte, simprocAttr, c60, r60, c60_1, c60_10, c60_11, c60_2, c60_3, c60_4, c60_5, c60_6, c60_7, c60_8, c60_9, r60, TLz, LzF, LzH, netD, Int.lt_irrefl, Pu]
def c58_1 : C := (.ops false [oP 25 (.bin .add (.t 13) (cI 1)), oM 13 25])
def c58_2 : C := (.seq (.block 1 (.seq (.ops false [oM 15 13, oM 5 15]) (.seq (.ops true [oM 16 0, oM 17 5, oA 18 (.iaS 1 (.t 16) (.t 17)) [1, 0], oA 19 (.ld 1 false (.t 18)) [0, 1, 2], oM 20 1, oM 21 5, oA 22 (.iaS 1 (.t 20) (.t 21)) [5, 4], oA 23 (.ld 1 false (.t 22)) [4, 5, 6], oA 24 (.bin .neq (.t 19) (.t 23)) [6, 5, 4, 2, 1, 0, 7, 3]])
 (.cond (.t 24) (.seq (.ops false [oP 4 (.mv (cB false))]) .ret) .skip)))) c58_1)
def c58_3 : C := (.seq (.ops false [oP 14 (.bin .lss (.t 13) (.t 12))]) (.seq (.cond (.t 14) .skip (.exit 0)) c58_2))
def c58_4 : C := (.seq (.ops false [oP 4 (.mv (cB true))]) .ret)
def c58_5 : C := (.seq (.seq (.ops false [oM 11 0, oP 12 (.len (.t 11)), oP 13 (.mv (cI 0))]) (.block 0 (.loop c58_3))) c58_4)
def c58 : C := (.seq (.ops false [oP 4 (.mv (cB false))]) (.seq (.seq (.ops false [oM 6 0, oP 7 (.len (.t 6)), oM 8 1, oP 9 (.len (.t 8)), oP 10 (.bin .neq (.t 7) (.t 9))]) (.cond (.t 10) (.seq (.ops false [oP 4 (.mv (cB false))]) .ret) .skip)) c58_5))
def r58 : List RV := [(.tmp 4)]
theorem c58_ok : ∃ code, Try.f58.body = some code ∧ compC Try.prog Try.f58.ntmps code = some (C.strip c58) := ⟨_, rfl, by kernel_rfl⟩
theorem r58_ok : compRes Try.prog Try.f58.results.toList = some r58 := by kernel_rfl
theorem f58_ok : fnOk Try.prog 58 = true := by kernel_rfl
def selInts : List D → Option (Prop × D)
 | [.sl a, .sl b] => match intsOf a with
  | some ns => some (b = a ∧ ns.length ≤ 1000000, db true)
  | Option.none => Option.none
 | _ => Option.none
set_option maxHeartbeats 4000000 in
theorem Ints_same (x : List Int) (hx : x.length ≤ 1000000) (nn : Nm) : CallsA Try.prog 58 [.sl (x.map iRow), .sl (x.map iRow)] Hp.none nn (Pu (db true) Hp.none) := by
 obtain ⟨code, h1, h2⟩ := c58_ok
 refine callsA_of (T0_ok _) mixed (N := fun t => (0, t)) Try.func58 h1 h2 r58_ok [] false js_nil js_nil' (by simp [Try.f58]) ?_
 simp (maxSteps:=500000) only [↓vp, vv, ↓reduceIte, simprocAttr, c58, r58, c58_1, c58_2, c58_3, c58_4, c58_5, bne_self_eq_false]
 refine rng_loop x.length (fun j => ⟨fr [(0, .sl (x.map iRow)), (1, .sl (x.map iRow)), (12, di x.length), (13, di j)], Hp.none⟩) (fun _ => True) (weak0 (by simp only [↓vp, vv, ↓reduceIte, simprocAttr, coverS]) (by simp only [↓vp, vv, ↓reduceIte, simprocAttr, refsF])) trivial (fun j hj _ => ?_) (fun _ => ?_)
 ·have hj' : (j : Int) < x.length := by omega
  have hn := idx_nn j
  have w1 := idx_next (j := j) (by omega)
  have hg := iRow_at x j hj
  simp (maxSteps:=500000) only [↓vp, vv, ↓reduceIte, simprocAttr, c58, r58, c58_1, c58_2, c58_3, c58_4, c58_5, hj', hn, Int.toNat_natCast, hg, w1, bne_self_eq_false]
  exact rng_next hj (weak0 (by simp only [↓vp, vv, ↓reduceIte, simprocAttr, coverS, w1]) (by simp only [↓vp, vv, ↓reduceIte, simprocAttr, refsF])) trivial
 ·simp (maxSteps:=500000) only [↓vp, vv, ↓reduceIte, simprocAttr, c58, r58, c58_1, c58_2, c58_3, c58_4, c58_5, Int.lt_irrefl, Pu]
theorem tc_ints {T : Tbl} (hT : TblOk Try.prog T) : TblOk Try.prog (tc 58 (rowPu selInts) T) :=
 tc_pu f58_ok (fun args pre d h hp nn => by
  unfold selInts at h
  split at h
  ·split at h
   ·rename_i ns e
    cases h
    rw [hp.1, intsOf_eq e]
    exact Ints_same ns hp.2 nn
   ·cases h
  ·cases h) hT
def IlT : Tbl := tc 58 (rowPu selInts) T0
theorem IlT_ok : TblOk Try.prog IlT := tc_ints (T0_ok _)
theorem nRow_i (l : List Nat) : l.map nRow = (l.map fun x : Nat => (x : Int)).map iRow := by rw [List.map_map]; rfl
theorem lists_same (x : List (List Nat)) (hx : x.length ≤ 1000000) (h : ∀ l, l ∈ x → l.length ≤ 1000000) (nn : Nm) : CallsA Try.prog 119 [.sl (x.map pRow), .sl (x.map pRow)] Hp.none nn (Pu (db true) Hp.none) := by
 obtain ⟨code, h1, h2⟩ := c119_ok
 refine callsA_of IlT_ok mixed (N := fun t => (0, t)) Try.func119 h1 h2 r119_ok [] false js_nil js_nil' (by simp [Try.f119]) ?_
 simp (maxSteps:=500000) only [↓vp, vv, ↓reduceIte, simprocAttr, c119, r119, c119_1, c119_2, c119_3, c119_4, c119_5, IlT, bne_self_eq_false]
 refine rng_loop x.length (fun j => ⟨fr [(0, .sl (x.map pRow)), (1, .sl (x.map pRow)), (12, di x.length), (13, di j)], Hp.none⟩) (fun _ => True) (weak0 (by simp only [↓vp, vv, ↓reduceIte, simprocAttr, coverS]) (by simp only [↓vp, vv, ↓reduceIte, simprocAttr, refsF])) trivial (fun j hj _ => ?_) (fun _ => ?_)
 ·have hj' : (j : Int) < x.length := by omega
  have hn := idx_nn j
  have w1 := idx_next (j := j) (by omega)
  have hg := getD_map pRow x j hj
  have hl := h _ (List.getElem_mem hj)
  generalize x[j] = l at hg hl
  have hi : intsOf (l.map nRow) = some (l.map fun x : Nat => (x : Int)) := by rw [nRow_i]; exact intsOf_map _
  have hll : (l.map fun x : Nat => (x : Int)).length ≤ 1000000 := by rw [List.length_map]; exact hl
  generalize (l.map fun x : Nat => (x : Int)) = li at hi hll
  simp (maxSteps:=500000) only [↓vp, vv, ↓reduceIte, simprocAttr, c119, r119, c119_1, c119_2, c119_3, c119_4, c119_5, IlT, selInts, hj', hj, hn, Int.toNat_natCast, hg, pRow, hi, hll, w1, Bool.not_true]
  exact rng_next hj (weak0 (by simp only [↓vp, vv, ↓reduceIte, simprocAttr, coverS, w1]) (by simp only [↓vp, vv, ↓reduceIte, simprocAttr, refsF])) trivial
 ·simp (maxSteps:=500000) only [↓vp, vv, ↓reduceIte, simprocAttr, c119, r119, c119_1, c119_2, c119_3, c119_4, c119_5, r119, Int.lt_irrefl, Pu]
def selLs (x : List (List Nat)) : List D → Option (Prop × D)
 | [.sl a, .sl b] => some (a = x.map pRow ∧ b = x.map pRow ∧ x.length ≤ 1000000 ∧ ∀ l, l ∈ x → l.length ≤ 1000000, db true)
 | _ => Option.none
theorem tc_ls {T : Tbl} (x : List (List Nat)) {f : FuncId} (hf : fnOk Try.prog f = true) (h : x.length ≤ 1000000 → (∀ l, l ∈ x → l.length ≤ 1000000) → ∀ nn, CallsA Try.prog f [.sl (x.map pRow), .sl (x.map pRow)] Hp.none nn (Pu (db true) Hp.none)) (hT : TblOk Try.prog T) : TblOk Try.prog (tc f (rowPu (selLs x)) T) :=
 tc_pu hf (fun args pre d hs hp nn => by
  unfold selLs at hs
  split at hs
  ·cases hs
   obtain ⟨rfl, rfl, h1, h2⟩ := hp
   exact h h1 h2 nn
  ·cases hs) hT
theorem lists13_same (x : List (List Nat)) (hx : x.length ≤ 1000000) (h : ∀ l, l ∈ x → l.length ≤ 1000000) (nn : Nm) : CallsA Try.prog 63 [.sl (x.map pRow), .sl (x.map pRow)] Hp.none nn (Pu (db true) Hp.none) := by
 obtain ⟨code, h1, h2⟩ := c63_ok
 refine callsA_of (tc_ls x f119_ok (fun a b nn => lists_same x a b nn) (T0_ok _)) mixed (N := fun t => (0, t)) Try.func63 h1 h2 r63_ok [] false js_nil js_nil' (by simp [Try.f63]) ?_
 have hall : (∀ l, l ∈ x → l.length ≤ 1000000) = True := eq_true h
 simp (maxSteps:=500000) only [↓vp, vv, ↓reduceIte, simprocAttr, c63, r63, r63, selLs, hx, hall, Pu]
end Go.Proofs.Ytadjhfjiimgddaa

/- route.Cuts for every network, list and segment: a clone of an empty list is walked by hand. -/
namespace Go.Proofs.Ytadjhfjiimgddaa
open Go Go.RowKit
theorem run_eqnil {P : Program} {t e : TypeId} (hu : P.underlying t = some (.slice e)) (x : Option Addr) (c : Nat) (w : World) : (binOp .eql t (.slice x 0 c) (.slice Option.none 0 0)).run P w = .ok (.bool x.isNone) w := by
 have h : ∀ d : Nat, (Op.equalIn (d + 1) t (.slice x 0 c) (.slice Option.none 0 0)).run P w = .ok x.isNone w := fun d => by
  cases x <;> simp [Op.equalIn, run_underlying hu]
 simp [binOp, Op.equal, Op.maxDepth, h 9999]
theorem clone_none (a : Option Addr) (cap : Nat) (w : World) :
  Calls Try.prog 114 #[.slice a 0 cap] w fun e w' => (∃ a' cap', e = .returned (.slice a' 0 cap')) ∧ Below w.heap.size w w' := by
 have hq := run_eqnil Try.underlying62
 cases a with
 | none =>
  go_enter Try.func114, Try.ntmps114
  go_wp2
  go_ret
  exact ⟨⟨_, _, rfl⟩, Below.refl _ _⟩
 | some a =>
  go_enter Try.func114, Try.ntmps114
  go_wp2
  go_ret
  exact ⟨⟨_, _, rfl⟩, (Below.refl _ _).alloc (Nat.le_refl _) _⟩
theorem left_sl0 {P : Program} {nn : Nm} {Im : Nat → Prop} {p : Pl} {w w' : World} (hR : RelH Im p Hp.none w.heap) (b : Below w.heap.size w w') (a : Option Addr) (cap : Nat) : Left P Hp.none nn (Pu (.sl []) Hp.none) Im p w (.returned (.slice a 0 cap)) w' Im p (.sl []) Hp.none (.slice a 0 cap) :=
 ⟨rfl, ⟨rfl, rfl⟩, .p (.sl0 a cap), ⟨fun i e hi => (by cases hi), fun i j e e' hi => (by cases hi), fun c hc => Nat.lt_of_lt_of_le (hR.im c hc) b.size⟩,
  ⟨fun _ h => h, fun c hc => b.block c (hR.im c hc), fun i e hi => (by cases hi)⟩,
  fun n => ⟨b.os, b.tape, b.output, b.size, fun c hc _ => b.block c hc, fun _ h => h, fun c hc => .inl hc, fun i e hi => (by cases hi)⟩, fun i e hi => (by cases hi)⟩
theorem Clone_nil (nn : Nm) : CallsA Try.prog 114 [.sl []] Hp.none nn (Pu (.sl []) Hp.none) := by
 intro w Im p us hsz hargs hR _ _
 obtain ⟨us⟩ := us
 match us, hsz with
 | [u], _ =>
 have r := hargs 0 _ u rfl rfl
 generalize hd : (D.sl []) = d at r
 cases r with
 | p r =>
  cases r with
  | v => cases hd
  | any => cases hd
  | mt => cases hd
  | sl0 a cap =>
   exact (clone_none a cap w).mono fun e w' ⟨⟨a', cap', he⟩, hb⟩ => by subst he; exact ⟨Im, p, _, _, _, left_sl0 hR hb a' cap'⟩
  | sl1 l' b o n cap sz u hl1 hn hsz him hcell hrel =>
   injection hd with hd
   subst hd
   obtain rfl : n = 0 := by simpa using hl1.symm
   exact (clone_none _ cap w).mono fun e w' ⟨⟨a', cap', he⟩, hb⟩ => by subst he; exact ⟨Im, p, _, _, _, left_sl0 hR hb a' cap'⟩
 | _ => cases hd
def selClE : List D → Option (Prop × D)
 | [.sl []] => some (True, .sl [])
 | _ => Option.none
def TCv : Tbl := tc 114 (rowPu selClE) (tc 105 (rowPu selGk) T0)
theorem TCv_ok : TblOk Try.prog TCv := tc_pu f114_ok (fun args pre d hs hp nn => by
  unfold selClE at hs
  split at hs
  ·cases hs
   exact Clone_nil nn
  ·cases hs) (tc_gk (T0_ok _))
set_option maxHeartbeats 8000000 in
theorem cutsA_c (n : Net) (c : List Bool) (hc : c.length ≤ 1000000) (k : Int) (nn : Nm) : CallsA Try.prog 55 [n.enc, .sl (c.map bRow), di k] Hp.none nn (Pu (cutsA n c k) Hp.none) := by
 have hg := gOf1_row n c
 have hgk : gchk n c [] = rchk n c := by
  rw [gchk_r]
  by_cases h : rchk n c = 0
  ·rw [if_pos h, if_neg (by simp), h]
  ·rw [if_neg h]
 have hks : lsOf intOf1 [] = some [] := rfl
 have pb : ∀ l : List Bool, (∀ j, j ∈ l → ∀ d, d ∈ bRow j → d.plain = true) := fun l j _ d hd => by rw [List.mem_singleton.1 hd]; rfl
 obtain ⟨code, h1, h2⟩ := c55_ok
 rcases Nat.eq_zero_or_pos c.length with q0 | q1
 ·obtain rfl : c = [] := List.length_eq_zero_iff.1 q0
  refine callsA_of TCv_ok mixed (N := fun t => (0, t)) Try.func55 h1 h2 r55_ok [] false js_nil js_nil' (by simp [Try.f55]) ?_
  unfold cutsA
  unfold gD at hg
  rw [List.map_nil] at hg ⊢
  by_cases c0 : rchk n [] = 0
  ·have hl := (rtv_of c0).l
   have hk0 : gchk n [] [] = 0 := by rw [hgk]; exact c0
   rw [if_pos c0]
   have hl0 : (n.segs.length : Int) = 0 := by have : ([] : List Bool).length = 0 := rfl; omega
   have us : unkS n k = true := by
    unfold unkS
    rw [hl0]
    split
    ·rfl
    ·rename_i h
     have : ¬ k < 0 := by simpa using h
     exact decide_eq_true (by omega)
   rw [if_pos us]
   cases k0 : decide (k < 0) with
   | true => simp (maxSteps:=500000) only [↓vp, vv, ↓reduceIte, simprocAttr, c55, r55, c55_1, c55_2, c55_3, r55, TCv, selClE, selGk, Net.enc, hg, hks, hk0, k0, bne_self_eq_false, Pu]
   | false =>
    have k1 : decide ((n.segs.length : Int) ≤ k) = true := decide_eq_true (by have := of_decide_eq_false k0; omega)
    simp (maxSteps:=500000) only [↓vp, vv, ↓reduceIte, simprocAttr, c55, r55, c55_1, c55_2, c55_3, r55, TCv, selClE, selGk, Net.enc, hg, hks, hk0, k0, k1, bne_self_eq_false, Pu]
  ·have c0' : (gchk n [] [] != 0) = true := by rw [hgk]; simpa using c0
   rw [if_neg c0, ← hgk]
   simp (maxSteps:=500000) only [↓vp, vv, ↓reduceIte, simprocAttr, c55, r55, c55_1, c55_2, c55_3, r55, TCv, selClE, selGk, Net.enc, hg, hks, c0', Pu]
 ·have hb1 : lsOf boolOf1 (c.map bRow) = some c := lsOf_map boolOf1_row c
  have q1 : 1 ≤ c.length := q1
  have tk : (c.map bRow).take c.length = c.map bRow := List.take_of_length_le (by simp)
  by_cases c0 : rchk n c = 0
  ·have h := rtv_of c0
   have hk0 : gchk n c [] = 0 := by rw [hgk]; exact c0
   unfold cutsA
   rw [if_pos c0]
   unfold unkS
   unfold gD at hg
   cases k0 : decide (k < 0) with
   | true =>
    refine callsA_of TCu_ok mixed (N := fun t => (0, t)) Try.func55 h1 h2 r55_ok [] false js_nil js_nil' (by simp [Try.f55]) ?_
    simp (maxSteps:=500000) only [↓vp, vv, ↓reduceIte, simprocAttr, c55, r55, c55_1, c55_2, c55_3, r55, TCu, rowOwn, selCl, selGk, Net.enc, hg, hk0, hks, hb1, q1, hc, tk, k0, bne_self_eq_false, Pu]
    exact pb c
   | false =>
    have k0' := of_decide_eq_false k0
    cases k1 : decide ((n.segs.length : Int) ≤ k) with
    | true =>
     refine callsA_of TCu_ok mixed (N := fun t => (0, t)) Try.func55 h1 h2 r55_ok [] false js_nil js_nil' (by simp [Try.f55]) ?_
     simp (maxSteps:=500000) only [↓vp, vv, ↓reduceIte, simprocAttr, c55, r55, c55_1, c55_2, c55_3, r55, TCu, rowOwn, selCl, selGk, Net.enc, hg, hk0, hks, hb1, q1, hc, tk, k0, k1, bne_self_eq_false, Pu]
     exact pb c
    | false =>
     have k1' := of_decide_eq_false k1
     have := Cuts_c n c h k.toNat (by omega) nn
     rw [show ((k.toNat : Nat) : Int) = k by omega] at this
     exact this
  ·have c0' : (gchk n c [] != 0) = true := by rw [hgk]; simpa using c0
   unfold cutsA
   rw [if_neg c0, ← hgk]
   unfold gD at hg
   refine callsA_of TCu_ok mixed (N := fun t => (0, t)) Try.func55 h1 h2 r55_ok [] false js_nil js_nil' (by simp [Try.f55]) ?_
   simp (maxSteps:=500000) only [↓vp, vv, ↓reduceIte, simprocAttr, c55, r55, c55_1, c55_2, c55_3, r55, TCu, rowOwn, selCl, selGk, Net.enc, hg, hks, hb1, q1, hc, tk, c0', Pu]
   exact pb c
theorem RtOk.hop {n : Net} {c : List Bool} (h : RtOk n c) {k : Nat} {x : Seg × Bool} {a w : Nat} {b : Bool} (hk : (n.segs.zip c)[k]? = some x) (e : ovr x a = some (w, b)) :
  k < n.segs.length ∧ c[k]? = some false ∧ hEnds n ((k : Int), b) = ((a : Int), (w : Int)) ∧ w < n.nodes.length ∧ a < n.nodes.length := by
 have hs := h.s x (List.mem_of_getElem? hk)
 have hlt : k < (n.segs.zip c).length := (List.getElem?_eq_some_iff.1 hk).1
 have hl := h.l
 rw [List.length_zip] at hlt
 have k1 : k < n.segs.length := by omega
 have k2 : k < c.length := by omega
 rw [zip_get k1 k2] at hk
 obtain ⟨q1, q2⟩ := ovr_lt hs e
 refine ⟨k1, ?_, ?_, q1, q2⟩
 ·rw [List.getElem?_eq_getElem k2]
  cases hk
  unfold ovr at e
  dsimp only at e
  split at e
  ·cases e
  ·rename_i h1; simpa using h1
 ·unfold hEnds
  dsimp only
  rw [show ((k : Int).toNat) = k from Int.toNat_natCast k, List.getElem?_eq_getElem k1]
  cases hk
  obtain ⟨⟨s1, s2⟩, s3, s4⟩ := hs
  unfold ovr at e
  dsimp only at e s1 s2 s3 s4 ⊢
  split at e
  ·cases e
  ·split at e
   ·cases e
    rw [if_neg (by simp)]
    exact Prod.ext (by dsimp only; assumption) (by dsimp only; omega)
   ·split at e
    ·cases e
     rw [if_pos rfl]
     exact Prod.ext (by dsimp only; assumption) (by dsimp only; omega)
    ·cases e
theorem WayP.inv {E : List (Seg × Bool)} {a t : Nat} {l : List (Int × Bool)} {h : Int × Bool} (hw : WayP E a (h :: l) t) : ∃ (k : Nat) (x : Seg × Bool) (w : Nat) (b : Bool), h = ((k : Int), b) ∧ E[k]? = some x ∧ ovr x a = some (w, b) ∧ WayP E w l t := by
 cases hw with
 | cons hk e h => exact ⟨_, _, _, _, rfl, hk, e, h⟩
theorem WayP.known {n : Net} {c : List Bool} (h : RtOk n c) : ∀ {l : List (Int × Bool)} {a t : Nat}, WayP (n.segs.zip c) a l t → ∀ y ∈ l, unkH n y = false ∧ hIn n y ∧ c.getD y.1.toNat false = false
 | [], a, t, _, y, hy => by cases hy
 | x :: l, a, t, hw, y, hy => by
  obtain ⟨k, z, w, b, rfl, hk, e, hr⟩ := hw.inv
  rcases List.mem_cons.1 hy with rfl | hy
  ·obtain ⟨q1, q2, _⟩ := h.hop hk e
   have hu : unkH n ((k : Int), b) = false := by
    unfold unkH
    dsimp only
    rw [decide_eq_false (by omega), if_neg (by simp)]
    exact decide_eq_false (by omega)
   refine ⟨hu, ⟨by dsimp only; omega, by dsimp only; omega⟩, ?_⟩
   dsimp only
   rw [Int.toNat_natCast, List.getD_eq_getElem?_getD, q2]
   rfl
  ·exact hr.known h y hy
theorem RtOk.set {n : Net} {c : List Bool} (h : RtOk n c) (x : Nat) : RtOk n (c.set x true) := ⟨by rw [List.length_set]; exact h.l, fun y hy => by
 obtain ⟨k, hk⟩ := List.getElem?_of_mem hy
 have hlt : k < (n.segs.zip (c.set x true)).length := (List.getElem?_eq_some_iff.1 hk).1
 have hl := h.l
 rw [List.length_zip, List.length_set] at hlt
 rw [zip_get (by omega) (by rw [List.length_set]; omega)] at hk
 cases hk
 exact h.s (n.segs[k], c[k]) (List.mem_of_getElem? (zip_get (by omega) (by omega)))⟩
def Jn (n : Net) (c : List Bool) (a b : Nat) : Prop := ∃ m, Hops (n.segs.zip c) a b m
theorem Jn.refl (n : Net) (c : List Bool) (a : Nat) : Jn n c a a := ⟨0, .nil a⟩
theorem Jn.trans {n : Net} {c : List Bool} {a b d : Nat} (h : Jn n c a b) (k : Jn n c b d) : Jn n c a d := by
 obtain ⟨m, h⟩ := h
 obtain ⟨j, k⟩ := k
 exact ⟨_, h.trans k⟩
theorem Jn.symm {n : Net} {c : List Bool} (ho : RtOk n c) {a b : Nat} (h : Jn n c a b) : Jn n c b a := by
 obtain ⟨m, h⟩ := h
 exact ⟨m, h.symm ho.s⟩
theorem RtOk.mem {n : Net} {c : List Bool} (h : RtOk n c) {k j : Nat} (hk : k < n.nodes.length) : j ∈ rL n c k ↔ j < n.nodes.length ∧ Jn n c k j := h.mem_rL hk
theorem RtOk.jn {n : Net} {c : List Bool} (h : RtOk n c) {a t : Nat} (ha : a < n.nodes.length) (ht : t < n.nodes.length) : 0 ≤ (hopsL n c t).getD a 0 ↔ Jn n c a t := by
 have := h.join ht ha
 unfold joinB at this
 rw [this]
 exact ⟨fun hh => Jn.symm h hh, fun hh => Jn.symm h hh⟩
theorem RtV.gen {n : Net} (hn : NetOk n) {c : List Bool} (hc : c.length = n.segs.length) : RtV n c := ⟨net_sz hn, check_ok hn, hc⟩
end Go.Proofs.Ytadjhfjiimgddaa
