
/- The reference of flow: Check. -/
import Derived.Test.YtkjibmfggeibjaaRf2
import Derived.Test.YtkjibmfggeibjaaRkA
namespace Go.Proofs.Ytkjibmfggeibjaa
open Go
set_option linter.unusedVariables false
set_option linter.unusedSimpArgs false
set_option maxRecDepth 100000

theorem bal_nodes {n : Net} (hv : NetV n) (p : Pln) : amt comeOf (flowsOf n p) = amt leaveOf (flowsOf n p) ↔ ∀ v : Nat, v < n.nodes.length → sumI (comeOf (v : Int)) (flowsOf n p) = sumI (leaveOf (v : Int)) (flowsOf n p) := by
  rw [bal_iff]
  have sub : ∀ v : Int, sumI (netOf v) (flowsOf n p) = sumI (comeOf v) (flowsOf n p) - sumI (leaveOf v) (flowsOf n p) := fun v => by
    have e := sumI_sub (comeOf v) (leaveOf v) (flowsOf n p)
    rw [sumI_congr fun t _ => come_leave v t] at e
    exact e.symm
  have hnl := hv.nl
  refine ⟨fun h v hv2 => ?_, fun h v hv2 => ?_⟩
  · have := h v (by omega)
    rw [sub] at this
    omega
  · rcases Nat.lt_or_ge v n.nodes.length with h1 | h1
    · rw [sub, h v h1]; omega
    · refine sumI_zero fun t ht => ?_
      have hin : t.1 < n.nodes.length ∧ t.2.1 < n.nodes.length := by
        rcases List.mem_append.1 ht with ht | ht
        · rw [← List.map_uncurry_zip_eq_zipWith] at ht
          obtain ⟨x, hx, rfl⟩ := List.mem_map.1 ht
          have := hv.se x.1 (List.of_mem_zip hx).1
          exact ⟨this.1.2, this.2.1.2⟩
        · rw [← List.map_uncurry_zip_eq_zipWith] at ht
          obtain ⟨x, hx, rfl⟩ := List.mem_map.1 ht
          have := hv.pe x.1 (List.of_mem_zip hx).1
          exact ⟨show (-1 : Int) < _ by omega, this.2⟩
      unfold netOf
      rw [if_neg (by omega), if_neg (by omega)]
      rfl
theorem ordB_le {n : Net} (hv : NetV n) (p : Pln) : (ordB n p).length ≤ n.nodes.length := by
  obtain ⟨th, h, _⟩ := ord_inv (E := n.segs.zip p.rates) (edge_ok p hv)
  have := h.cnt
  unfold ordB
  omega
def RkF (l : List (Nat × D)) : List (Nat × D) := (2, .ptr (0, 2) 0 0 0) :: (3, .ptr (0, 3) 0 0 0) :: l
def selS16 : List D → Option (Prop × D)
  | [.agg a, .agg b, .v (.int .i64 k)] => match netOf1 a, plnOf1 b with
    | some n, some p => some (FlOk n p ∧ 0 ≤ k, .tup [di (sumI (comeOf k) (flowsOf n p)), di (sumI (leaveOf k) (flowsOf n p))])
    | _, _ => Option.none
  | _ => Option.none
def TRk16 : Tbl := tc 99 (rowPu (selNet fun n => di (checkI n))) (tc 124 (rowPu selS16) (tc 119 (rowPu (selNP OrdIn fun n p => .sl ((ordB n p).map nRow))) T0))
theorem TRk16_ok : TblOk Try.prog TRk16 := tc_netf f99_ok (fun n hz nn => rcheck_c n hz nn) (tc_pu f124_ok (fun args pre d hs hp nn => by
  unfold selS16 at hs
  split at hs
  · split at hs
    · rename_i e1 e2
      cases hs
      rw [netOf1_eq e1, plnOf1_eq e2]
      exact rsums_c _ _ hp.1 _ hp.2 nn
    · cases hs
  · cases hs) (tc_np f119_ok (fun n p h nn => rorder_c n p h nn) (T0_ok _)))
set_option maxHeartbeats 16000000 in
theorem rchk16_c (n : Net) (p : Pln) (hz : NetSz n) (hq : PlnSz p) (nn : Nm) : CallsA Try.prog 56 [n.enc, p.enc] Hp.none nn (Pu (di (fckI n p)) Hp.none) := by
  obtain ⟨code, h1, h2⟩ := c56_ok
  refine callsA_of TRk16_ok mixed (N := fun t => (0, t)) Try.func56 h1 h2 r56_ok [] false js_nil js_nil' (by simp [Try.f56]) ?_
  have hn1 : netOf1 [D.sl (n.nodes.map nmRow), .sl (n.segs.map Seg.row), .sl (n.ports.map Port.row), .sl (n.sts.map Stn.row), di n.vap, di n.set] = some n := netOf1_row n
  have hp1 : plnOf1 [D.sl (p.rates.map iRow), .sl (p.ports.map iRow), .sl (p.pumps.map bRow)] = some p := plnOf1_row p
  by_cases a0 : checkI n = 0
  · have b0 : (checkI n != 0) = false := by simp [a0]
    have hv := check0 a0
    cases a1 : lenBad n p with
    | true =>
      have hc : fckI n p = 9 := by unfold fckI; rw [if_pos a0, if_pos a1]
      unfold lenBad at a1
      cases c1 : ((p.rates.length : Int) != n.segs.length) with
      | true => simp (config := { maxSteps := 500000 }) only [↓vp, vv, implies_true, forall_const, undef, InI, ↓reduceIte, simprocAttr, c56, c56_15, r56, TRk16, selNet, Net.enc, Pln.enc, netD, plnD, hn1, hz, a0, bne_self_eq_false, c1, hc, Pu]
      | false =>
        rw [c1] at a1
        cases c2 : ((p.ports.length : Int) != n.ports.length) with
        | true => simp (config := { maxSteps := 500000 }) only [↓vp, vv, implies_true, forall_const, undef, InI, ↓reduceIte, simprocAttr, c56, c56_15, r56, TRk16, selNet, Net.enc, Pln.enc, netD, plnD, hn1, hz, a0, bne_self_eq_false, c1, c2, hc, Pu]
        | false =>
          rw [c2] at a1
          have c3 : ((p.pumps.length : Int) != n.sts.length) = true := by simpa using a1
          simp (config := { maxSteps := 500000 }) only [↓vp, vv, implies_true, forall_const, undef, InI, ↓reduceIte, simprocAttr, c56, c56_15, r56, TRk16, selNet, Net.enc, Pln.enc, netD, plnD, hn1, hz, a0, bne_self_eq_false, c1, c2, c3, hc, Pu]
    | false =>
      obtain ⟨l1, l2, l3⟩ := len_ok a1
      have c1 : ((p.rates.length : Int) != n.segs.length) = false := by simp [l1]
      have c2 : ((p.ports.length : Int) != n.ports.length) = false := by simp [l2]
      have c3 : ((p.pumps.length : Int) != n.sts.length) = false := by simp [l3]
      generalize hb : (n.segs.zip p.rates).any rateBad = b
      have hc : fckI n p = if b = true then 1 else if p.ports.any portBadR = true then 1 else if amt comeOf (flowsOf n p) = amt leaveOf (flowsOf n p) then (if (ordB n p).length < n.nodes.length then 13 else 0) else 12 := by unfold fckI; rw [if_pos a0, a1, if_neg (by simp), hb]
      simp (config := { maxSteps := 500000 }) only [↓vp, vv, implies_true, forall_const, undef, InI, ↓reduceIte, simprocAttr, c56, c56_15, c56_14, TRk16, selNet, Net.enc, Pln.enc, netD, plnD, hn1, hz, a0, bne_self_eq_false, c1, c2, c3]
      have hsl := hv.sl
      refine rng_loop p.rates.length (fun j => ⟨fr (RkF [(45, .sl (p.rates.map iRow)), (46, di p.rates.length), (47, di (j : Nat))]), HF n p⟩) (fun j => ((n.segs.zip p.rates).drop j).any rateBad = b) (weak_eq [] [(0, 2), (0, 3)] (RkF [(45, .sl (p.rates.map iRow)), (46, di p.rates.length), (47, di 0)]) (by simp (config := { maxSteps := 500000 }) only [↓vp, vv, implies_true, forall_const, undef, InI, ↓reduceIte, simprocAttr, coverS, RkF, HF, netD, plnD]) (by simp (config := { maxSteps := 500000 }) only [↓vp, vv, implies_true, forall_const, undef, InI, ↓reduceIte, simprocAttr, refsF, RkF, HF, netD, plnD]) (by simp (config := { maxSteps := 500000 }) only [↓vp, vv, implies_true, forall_const, undef, InI, ↓reduceIte, simprocAttr, RkF, HF, netD, plnD]) (by simp) (by simp (config := { maxSteps := 500000 }) only [↓vp, vv, implies_true, forall_const, undef, InI, ↓reduceIte, simprocAttr, RkF, HF, netD, plnD]; try rfl)) hb (fun j hj he => ?_) (fun he => ?_)
      · have hj' : (j : Int) < p.rates.length := by omega
        have hjs : j < n.segs.length := by omega
        have hjs' : (j : Int) < n.segs.length := by omega
        have hjn := idx_nn j
        have w1 := idx_next (j := j) (by omega)
        have hg := getD_map Seg.row n.segs j hjs
        have hg2 := iRow_at p.rates j hj
        have hzl : j < (n.segs.zip p.rates).length := by rw [List.length_zip]; omega
        obtain ⟨hf, ht⟩ := drop_any hzl he
        have hx : (n.segs.zip p.rates)[j] = (n.segs[j], p.rates[j]) := List.getElem_zip
        rw [hx] at hf ht
        have hcp := hv.se _ (List.getElem_mem hjs)
        generalize n.segs[j] = s at hg hf ht hcp
        generalize p.rates[j] = r at hg2 hf ht
        have hm : 1 ≤ most s ∧ most s ≤ 1000 := by unfold most; constructor <;> split <;> omega
        have hm2 : (if s.cap < 1000 then s.cap else 1000) = most s := rfl
        have wn : IntKind.i64.wrap (0 - most s) = -most s := by rw [wrap_i (by omega)]; omega
        cases d1 : decide (r < -most s) with
        | true =>
          have dw : withB r (most s) = false := by unfold withB; rw [if_neg (by simp at d1; omega)]
          have e1 := hf (by unfold rateBad; rw [dw]; rfl)
          rw [e1] at hc
          have hc3 : fckI n p = 1 := hc
          simp (config := { maxSteps := 500000 }) only [↓vp, vv, implies_true, forall_const, undef, InI, ↓reduceIte, simprocAttr, c56_3, c56_2, c56_1, r56, RkF, HF, netD, plnD, hj', hjs', hjn, Int.toNat_natCast, hg, hg2, Seg.row, hm2, wn, d1, hc3, Pu]
        | false =>
          cases d2 : decide (most s < r) with
          | true =>
            have dw : withB r (most s) = false := by unfold withB; rw [if_pos (by simp at d1; omega)]; simp at d2 ⊢; omega
            have e1 := hf (by unfold rateBad; rw [dw]; rfl)
            rw [e1] at hc
            have hc3 : fckI n p = 1 := hc
            simp (config := { maxSteps := 500000 }) only [↓vp, vv, implies_true, forall_const, undef, InI, ↓reduceIte, simprocAttr, c56_3, c56_2, c56_1, r56, RkF, HF, netD, plnD, hj', hjs', hjn, Int.toNat_natCast, hg, hg2, Seg.row, hm2, wn, d1, d2, hc3, Pu]
          | false =>
            have dw : withB r (most s) = true := by unfold withB; rw [if_pos (by simp at d1; omega)]; simp at d2 ⊢; omega
            simp (config := { maxSteps := 500000 }) only [↓vp, vv, implies_true, forall_const, undef, InI, ↓reduceIte, simprocAttr, c56_3, c56_2, c56_1, RkF, HF, netD, plnD, hj', hjs', hjn, Int.toNat_natCast, hg, hg2, Seg.row, hm2, wn, d1, d2, w1]
            exact rng_next hj (weak_eq [] [(0, 2), (0, 3)] (RkF [(45, .sl (p.rates.map iRow)), (46, di p.rates.length), (47, di (j + 1 : Nat))]) (by simp (config := { maxSteps := 500000 }) only [↓vp, vv, implies_true, forall_const, undef, InI, ↓reduceIte, simprocAttr, coverS, RkF, HF, netD, plnD, w1, Seg.row]) (by simp (config := { maxSteps := 500000 }) only [↓vp, vv, implies_true, forall_const, undef, InI, ↓reduceIte, simprocAttr, refsF, RkF, HF, netD, plnD, w1, Seg.row]) (by simp (config := { maxSteps := 500000 }) only [↓vp, vv, implies_true, forall_const, undef, InI, ↓reduceIte, simprocAttr, RkF, HF, netD, plnD, w1, Seg.row]) (by simp) (by simp (config := { maxSteps := 500000 }) only [↓vp, vv, implies_true, forall_const, undef, InI, ↓reduceIte, simprocAttr, RkF, HF, netD, plnD, w1, Seg.row]; try rfl)) (ht (by unfold rateBad; rw [dw]; rfl))
      · have e1 : b = false := drop_any_end (by rw [List.length_zip]; omega) he
        rw [e1] at hc hb
        simp only [Bool.false_eq_true, if_false] at hc
        generalize hb2 : p.ports.any portBadR = b2 at hc
        have hql := hv.ql
        simp (config := { maxSteps := 500000 }) only [↓vp, vv, implies_true, forall_const, undef, InI, ↓reduceIte, simprocAttr, c56_3, c56_13, RkF, HF, netD, plnD, Int.lt_irrefl]
        refine rng_loop p.ports.length (fun j => ⟨fr (RkF [(70, .sl (p.ports.map iRow)), (71, di p.ports.length), (72, di (j : Nat))]), HF n p⟩) (fun j => (p.ports.drop j).any portBadR = b2) (weak_eq [] [(0, 2), (0, 3)] (RkF [(70, .sl (p.ports.map iRow)), (71, di p.ports.length), (72, di 0)]) (by simp (config := { maxSteps := 500000 }) only [↓vp, vv, implies_true, forall_const, undef, InI, ↓reduceIte, simprocAttr, coverS, RkF, HF, netD, plnD]) (by simp (config := { maxSteps := 500000 }) only [↓vp, vv, implies_true, forall_const, undef, InI, ↓reduceIte, simprocAttr, refsF, RkF, HF, netD, plnD]) (by simp (config := { maxSteps := 500000 }) only [↓vp, vv, implies_true, forall_const, undef, InI, ↓reduceIte, simprocAttr, RkF, HF, netD, plnD]) (by simp) (by simp (config := { maxSteps := 500000 }) only [↓vp, vv, implies_true, forall_const, undef, InI, ↓reduceIte, simprocAttr, RkF, HF, netD, plnD]; try rfl)) hb2 (fun j hj he => ?_) (fun he => ?_)
        · have hj' : (j : Int) < p.ports.length := by omega
          have hjn := idx_nn j
          have w1 := idx_next (j := j) (by omega)
          have hg2 := iRow_at p.ports j hj
          obtain ⟨hf, ht⟩ := drop_any hj he
          generalize p.ports[j] = r at hg2 hf ht
          cases d1 : decide (r < -1000) with
          | true =>
            have dw : withB r 1000 = false := by unfold withB; rw [if_neg (by simp at d1; omega)]
            have e1 := hf (by unfold portBadR; rw [dw]; rfl)
            rw [e1] at hc
            have hc3 : fckI n p = 1 := hc
            simp (config := { maxSteps := 500000 }) only [↓vp, vv, implies_true, forall_const, undef, InI, ↓reduceIte, simprocAttr, c56_6, c56_5, c56_4, r56, RkF, HF, netD, plnD, hj', hjn, Int.toNat_natCast, hg2, d1, hc3, Pu]
          | false =>
            cases d2 : decide (1000 < r) with
            | true =>
              have dw : withB r 1000 = false := by unfold withB; rw [if_pos (by simp at d1; omega)]; simp at d2 ⊢; omega
              have e1 := hf (by unfold portBadR; rw [dw]; rfl)
              rw [e1] at hc
              have hc3 : fckI n p = 1 := hc
              simp (config := { maxSteps := 500000 }) only [↓vp, vv, implies_true, forall_const, undef, InI, ↓reduceIte, simprocAttr, c56_6, c56_5, c56_4, r56, RkF, HF, netD, plnD, hj', hjn, Int.toNat_natCast, hg2, d1, d2, hc3, Pu]
            | false =>
              have dw : withB r 1000 = true := by unfold withB; rw [if_pos (by simp at d1; omega)]; simp at d2 ⊢; omega
              simp (config := { maxSteps := 500000 }) only [↓vp, vv, implies_true, forall_const, undef, InI, ↓reduceIte, simprocAttr, c56_6, c56_5, c56_4, RkF, HF, netD, plnD, hj', hjn, Int.toNat_natCast, hg2, d1, d2, w1]
              exact rng_next hj (weak_eq [] [(0, 2), (0, 3)] (RkF [(70, .sl (p.ports.map iRow)), (71, di p.ports.length), (72, di (j + 1 : Nat))]) (by simp (config := { maxSteps := 500000 }) only [↓vp, vv, implies_true, forall_const, undef, InI, ↓reduceIte, simprocAttr, coverS, RkF, HF, netD, plnD, w1]) (by simp (config := { maxSteps := 500000 }) only [↓vp, vv, implies_true, forall_const, undef, InI, ↓reduceIte, simprocAttr, refsF, RkF, HF, netD, plnD, w1]) (by simp (config := { maxSteps := 500000 }) only [↓vp, vv, implies_true, forall_const, undef, InI, ↓reduceIte, simprocAttr, RkF, HF, netD, plnD, w1]) (by simp) (by simp (config := { maxSteps := 500000 }) only [↓vp, vv, implies_true, forall_const, undef, InI, ↓reduceIte, simprocAttr, RkF, HF, netD, plnD, w1]; try rfl)) (ht (by unfold portBadR; rw [dw]; rfl))
        · have e2 : b2 = false := drop_any_end rfl he
          rw [e2] at hc hb2
          simp only [Bool.false_eq_true, if_false] at hc
          have hfl := fl_ok hv l1 l2 hb hb2
          have hord : OrdIn n p := ⟨hv.nl.2, hv.sl, l1, edge_ok p hv⟩
          have hbal := bal_nodes hv p
          have hole := ordB_le hv p
          have hnl := hv.nl
          simp (config := { maxSteps := 500000 }) only [↓vp, vv, implies_true, forall_const, undef, InI, ↓reduceIte, simprocAttr, c56_6, c56_12, RkF, HF, netD, plnD, Int.lt_irrefl]
          refine rng_loop n.nodes.length (fun j => ⟨fr (RkF [(85, di n.nodes.length), (86, di (j : Nat))]), HF n p⟩) (fun j => ∀ v : Nat, v < j → sumI (comeOf (v : Int)) (flowsOf n p) = sumI (leaveOf (v : Int)) (flowsOf n p)) (weak_eq [] [(0, 2), (0, 3)] (RkF [(85, di n.nodes.length), (86, di 0)]) (by simp (config := { maxSteps := 500000 }) only [↓vp, vv, implies_true, forall_const, undef, InI, ↓reduceIte, simprocAttr, coverS, RkF, HF, netD, plnD]) (by simp (config := { maxSteps := 500000 }) only [↓vp, vv, implies_true, forall_const, undef, InI, ↓reduceIte, simprocAttr, refsF, RkF, HF, netD, plnD]) (by simp (config := { maxSteps := 500000 }) only [↓vp, vv, implies_true, forall_const, undef, InI, ↓reduceIte, simprocAttr, RkF, HF, netD, plnD]) (by simp) (by simp (config := { maxSteps := 500000 }) only [↓vp, vv, implies_true, forall_const, undef, InI, ↓reduceIte, simprocAttr, RkF, HF, netD, plnD]; try rfl)) (fun v hv => absurd hv (by omega)) (fun j hj hP => ?_) (fun hP => ?_)
          · have hj' : (j : Int) < n.nodes.length := by omega
            have hjn := idx_nn j
            have w1 := idx_next (j := j) (by omega)
            cases d1 : (sumI (comeOf (j : Int)) (flowsOf n p) != sumI (leaveOf (j : Int)) (flowsOf n p)) with
            | true =>
              have hne : ¬ amt comeOf (flowsOf n p) = amt leaveOf (flowsOf n p) := fun e => by
                have := hbal.1 e j hj
                rw [bne_iff_ne] at d1
                exact d1 this
              rw [if_neg hne] at hc
              simp (config := { maxSteps := 500000 }) only [↓vp, vv, implies_true, forall_const, undef, InI, ↓reduceIte, simprocAttr, c56_9, c56_8, r56, TRk16, selS16, RkF, HF, netD, plnD, hj', hjn, hn1, hp1, hfl, d1, hc, Pu]
            | false =>
              have heq : sumI (comeOf (j : Int)) (flowsOf n p) = sumI (leaveOf (j : Int)) (flowsOf n p) := by simpa using d1
              simp (config := { maxSteps := 500000 }) only [↓vp, vv, implies_true, forall_const, undef, InI, ↓reduceIte, simprocAttr, c56_9, c56_8, c56_7, TRk16, selS16, RkF, HF, netD, plnD, hj', hjn, hn1, hp1, hfl, d1, w1]
              exact rng_next hj (weak_eq [] [(0, 2), (0, 3)] (RkF [(85, di n.nodes.length), (86, di (j + 1 : Nat))]) (by simp (config := { maxSteps := 500000 }) only [↓vp, vv, implies_true, forall_const, undef, InI, ↓reduceIte, simprocAttr, coverS, RkF, HF, netD, plnD, w1]) (by simp (config := { maxSteps := 500000 }) only [↓vp, vv, implies_true, forall_const, undef, InI, ↓reduceIte, simprocAttr, refsF, RkF, HF, netD, plnD, w1]) (by simp (config := { maxSteps := 500000 }) only [↓vp, vv, implies_true, forall_const, undef, InI, ↓reduceIte, simprocAttr, RkF, HF, netD, plnD, w1]) (by simp) (by simp (config := { maxSteps := 500000 }) only [↓vp, vv, implies_true, forall_const, undef, InI, ↓reduceIte, simprocAttr, RkF, HF, netD, plnD, w1]; try rfl)) (fun v hv => by
                rcases Nat.lt_or_ge v j with h | h
                · exact hP v h
                · have : v = j := by omega
                  subst this
                  exact heq)
          · rw [if_pos (hbal.2 hP)] at hc
            by_cases a6 : (ordB n p).length < n.nodes.length
            · rw [if_pos a6] at hc
              have a7 : (((ordB n p).length : Int) != n.nodes.length) = true := by rw [bne_iff_ne]; omega
              simp (config := { maxSteps := 500000 }) only [↓vp, vv, implies_true, forall_const, undef, InI, ↓reduceIte, simprocAttr, c56_9, c56_11, c56_10, r56, TRk16, selNP, RkF, HF, netD, plnD, Int.lt_irrefl, hn1, hp1, hord, a7, hc, Pu]
            · rw [if_neg a6] at hc
              have a7 : (((ordB n p).length : Int) != n.nodes.length) = false := by rw [bne_eq_false_iff_eq]; omega
              simp (config := { maxSteps := 500000 }) only [↓vp, vv, implies_true, forall_const, undef, InI, ↓reduceIte, simprocAttr, c56_9, c56_11, c56_10, r56, TRk16, selNP, RkF, HF, netD, plnD, Int.lt_irrefl, hn1, hp1, hord, a7, hc, Pu]
  · have b0 : (checkI n != 0) = true := by simp [a0]
    have hc : fckI n p = checkI n := by unfold fckI; rw [if_neg a0]
    simp (config := { maxSteps := 500000 }) only [↓vp, vv, implies_true, forall_const, undef, InI, ↓reduceIte, simprocAttr, c56, r56, TRk16, selNet, Net.enc, Pln.enc, netD, plnD, hn1, hz, b0, hc, Pu]
end Go.Proofs.Ytkjibmfggeibjaa
