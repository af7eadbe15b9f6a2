
/- The reference's check of troubles; agree. -/
import Derived.Test.YtfkhjkkhdfcnjaaTm1
namespace Go.Proofs.Ytfkhjkkhdfcnjaa
open Go
set_option linter.unusedVariables false
set_option linter.unusedSimpArgs false
set_option maxRecDepth 100000

def TM1 : Tbl := tc 57 (rowPu selNum) T0
theorem TM1_ok : TblOk Try.prog TM1 := by
  refine tc_pu f57_ok (fun args pre d h hp nn => ?_) (T0_ok _)
  unfold selNum at h
  split at h <;> cases h
  exact Numbers_c _ _ _ _ _ _ hp.1 hp.2 nn
theorem val_f {p q : Nat} {t : Tro} (h : t.kind < 1 ∨ 5 ≤ t.kind ∨ t.fr < 0 ∨ t.to < t.fr ∨ 1099511627776 < t.to ∨ t.index < 0 ∨ cntB p q t.kind ≤ t.index) : valB p q t = false := by
  unfold valB
  split
  · rfl
  split
  · rfl
  split
  · rfl
  split
  · rfl
  split
  · rfl
  split
  · rfl
  split
  · rfl
  exfalso
  omega
theorem val_k {p q : Nat} {t : Tro} (h1 : ¬ t.index < 0) (h2 : ¬ t.fr < 0) (h3 : ¬ t.to < t.fr) (h4 : ¬ 1099511627776 < t.to) (h5 : 1 ≤ t.kind ∧ t.kind ≤ 4) (h6 : ¬ cntB p q t.kind ≤ t.index) : valB p q t = if t.kind = 1 then (if decide (1 ≤ t.value) = true then decide (t.value ≤ 1000) else false) else if t.kind = 2 then (if decide (-100000 ≤ t.value) = true then decide (t.value ≤ 100000) else false) else t.value == 0 := by
  unfold valB
  rw [if_neg (by omega), if_neg (by omega), if_neg h2, if_neg h3, if_neg h4, if_neg h1, if_neg h6]
set_option maxHeartbeats 16000000 in
theorem right_c (a b c d : List (List D)) (v s : Int) (t : Tro) (hb : b.length ≤ 1000000) (hc : c.length ≤ 1000000) (nn : Nm) : CallsA Try.prog 83 [.agg [.sl a, .sl b, .sl c, .sl d, di v, di s], .agg t.row] Hp.none nn (Pu (db (valB b.length c.length t)) Hp.none) := by
  obtain ⟨code, h1, h2⟩ := c83_ok
  refine callsA_of TM1_ok mixed (N := fun t => (0, t)) Try.func83 h1 h2 r83_ok [] false js_nil js_nil' (by simp [Try.f83]) ?_
  by_cases a1 : t.index < 0
  · have hv := val_f (p := b.length) (q := c.length) (.inr (.inr (.inr (.inr (.inr (.inl a1))))))
    simp (config := { maxSteps := 500000 }) only [↓vp, vv, implies_true, forall_const, undef, InI, ↓reduceIte, simprocAttr, c83, r83, c83_1, c83_2, r83, TM1, Tro.row, a1, hv, Pu, decide_true, decide_false]
  by_cases a2 : t.fr < 0
  · have hv := val_f (p := b.length) (q := c.length) (.inr (.inr (.inl a2)))
    simp (config := { maxSteps := 500000 }) only [↓vp, vv, implies_true, forall_const, undef, InI, ↓reduceIte, simprocAttr, c83, r83, c83_1, c83_2, r83, TM1, Tro.row, a1, a2, hv, Pu, decide_true, decide_false]
  by_cases a3 : t.to < t.fr
  · have hv := val_f (p := b.length) (q := c.length) (.inr (.inr (.inr (.inl a3))))
    simp (config := { maxSteps := 500000 }) only [↓vp, vv, implies_true, forall_const, undef, InI, ↓reduceIte, simprocAttr, c83, r83, c83_1, c83_2, r83, TM1, Tro.row, a1, a2, a3, hv, Pu, decide_true, decide_false]
  by_cases a4 : 1099511627776 < t.to
  · have hv := val_f (p := b.length) (q := c.length) (.inr (.inr (.inr (.inr (.inl a4)))))
    simp (config := { maxSteps := 500000 }) only [↓vp, vv, implies_true, forall_const, undef, InI, ↓reduceIte, simprocAttr, c83, r83, c83_1, c83_2, r83, TM1, Tro.row, a1, a2, a3, a4, hv, Pu, decide_true, decide_false]
  have hk := val_k (p := b.length) (q := c.length) a1 a2 a3 a4
  obtain ⟨k, ix, vl, f, to⟩ := t
  dsimp only at a1 a2 a3 a4 hk
  by_cases k1 : k = 1
  · subst k1
    cases a7 : decide (ix < (b.length : Int)) with
    | false =>
      have hv : valB b.length c.length ⟨1, ix, vl, f, to⟩ = false := val_f (.inr (.inr (.inr (.inr (.inr (.inr (by have := of_decide_eq_false a7; show ((b.length : Nat) : Int) ≤ ix; omega)))))))
      simp (config := { maxSteps := 500000 }) only [↓vp, vv, implies_true, forall_const, undef, InI, ↓reduceIte, simprocAttr, c83, r83, c83_1, c83_2, r83, TM1, Tro.row, a1, a2, a3, a4, a7, hv, Pu, decide_true, decide_false]
    | true =>
      have hv := hk (by omega) (by have := of_decide_eq_true a7; show ¬ ((b.length : Nat) : Int) ≤ ix; omega)
      rw [if_pos rfl] at hv
      cases a8 : decide (1 ≤ vl) <;> (rw [a8] at hv; simp only [if_true, if_false, Bool.false_eq_true] at hv; simp (config := { maxSteps := 500000 }) only [↓vp, vv, implies_true, forall_const, undef, InI, ↓reduceIte, simprocAttr, c83, r83, c83_1, c83_2, r83, TM1, Tro.row, a1, a2, a3, a4, a7, a8, hv, Pu, decide_true, decide_false])
  by_cases k2 : k = 2
  · subst k2
    cases a7 : decide (ix < (c.length : Int)) with
    | false =>
      have hv : valB b.length c.length ⟨2, ix, vl, f, to⟩ = false := val_f (.inr (.inr (.inr (.inr (.inr (.inr (by have := of_decide_eq_false a7; show ((c.length : Nat) : Int) ≤ ix; omega)))))))
      simp (config := { maxSteps := 500000 }) only [↓vp, vv, implies_true, forall_const, undef, InI, ↓reduceIte, simprocAttr, c83, r83, c83_1, c83_2, r83, TM1, Tro.row, a1, a2, a3, a4, a7, hv, Pu, decide_true, decide_false]
    | true =>
      have hv := hk (by omega) (by have := of_decide_eq_true a7; show ¬ ((c.length : Nat) : Int) ≤ ix; omega)
      rw [if_neg (by decide), if_pos rfl] at hv
      cases a8 : decide (-100000 ≤ vl) <;> (rw [a8] at hv; simp only [if_true, if_false, Bool.false_eq_true] at hv; simp (config := { maxSteps := 500000 }) only [↓vp, vv, implies_true, forall_const, undef, InI, ↓reduceIte, simprocAttr, c83, r83, c83_1, c83_2, r83, TM1, Tro.row, a1, a2, a3, a4, a7, a8, hv, Pu, decide_true, decide_false])
  by_cases k3 : k = 3
  · subst k3
    cases a7 : decide (ix < (c.length : Int)) with
    | false =>
      have hv : valB b.length c.length ⟨3, ix, vl, f, to⟩ = false := val_f (.inr (.inr (.inr (.inr (.inr (.inr (by have := of_decide_eq_false a7; show ((c.length : Nat) : Int) ≤ ix; omega)))))))
      simp (config := { maxSteps := 500000 }) only [↓vp, vv, implies_true, forall_const, undef, InI, ↓reduceIte, simprocAttr, c83, r83, c83_1, c83_2, r83, TM1, Tro.row, a1, a2, a3, a4, a7, hv, Pu, decide_true, decide_false]
    | true =>
      have hv := hk (by omega) (by have := of_decide_eq_true a7; show ¬ ((c.length : Nat) : Int) ≤ ix; omega)
      rw [if_neg (by decide), if_neg (by decide)] at hv
      simp (config := { maxSteps := 500000 }) only [↓vp, vv, implies_true, forall_const, undef, InI, ↓reduceIte, simprocAttr, c83, r83, c83_1, c83_2, r83, TM1, Tro.row, a1, a2, a3, a4, a7, hv, Pu, decide_true, decide_false]
  by_cases k4 : k = 4
  · subst k4
    cases a7 : decide (ix < (b.length : Int) + (c.length : Int)) with
    | false =>
      have hv : valB b.length c.length ⟨4, ix, vl, f, to⟩ = false := val_f (.inr (.inr (.inr (.inr (.inr (.inr (by have := of_decide_eq_false a7; show (b.length : Int) + (c.length : Int) ≤ ix; omega)))))))
      simp (config := { maxSteps := 500000 }) only [↓vp, vv, implies_true, forall_const, undef, InI, ↓reduceIte, simprocAttr, c83, r83, c83_1, c83_2, r83, TM1, selNum, hb, hc, Tro.row, a1, a2, a3, a4, a7, hv, Pu, decide_true, decide_false]
    | true =>
      have hv := hk (by omega) (by have := of_decide_eq_true a7; show ¬ (b.length : Int) + (c.length : Int) ≤ ix; omega)
      rw [if_neg (by decide), if_neg (by decide)] at hv
      simp (config := { maxSteps := 500000 }) only [↓vp, vv, implies_true, forall_const, undef, InI, ↓reduceIte, simprocAttr, c83, r83, c83_1, c83_2, r83, TM1, selNum, hb, hc, Tro.row, a1, a2, a3, a4, a7, hv, Pu, decide_true, decide_false]
  have hv : valB b.length c.length ⟨k, ix, vl, f, to⟩ = false := val_f (by dsimp only; omega)
  have q1 : (k == 1) = false := by simp [k1]
  have q2 : (k == 2) = false := by simp [k2]
  have q3 : (k == 3) = false := by simp [k3]
  have q4 : (k == 4) = false := by simp [k4]
  simp (config := { maxSteps := 500000 }) only [↓vp, vv, implies_true, forall_const, undef, InI, ↓reduceIte, simprocAttr, c83, r83, c83_1, c83_2, r83, TM1, Tro.row, a1, a2, a3, a4, q1, q2, q3, q4, hv, Pu, decide_true, decide_false]
def TM2 : Tbl := tc 34 (rowPu (selNet fun n => di (checkI n))) (tc 83 (rowPu selVal) T0)
theorem TM2_ok : TblOk Try.prog TM2 := by
  refine tc_netf f34_ok (fun n hz nn => rcheck_c n hz nn) (tc_pu f83_ok (fun args pre d h hp nn => ?_) (T0_ok _))
  unfold selVal at h
  split at h
  · split at h
    · rename_i x hx
      cases h
      have e := troOf_eq hx
      cases e
      exact right_c _ _ _ _ _ _ x hp.1 hp.2 nn
    · cases h
  · cases h
def RcF (l : List Tro) (j : Int) : List (Nat × D) := [(1, .sl (l.map Tro.row)), (2, .ptr (0, 2) 0 0 0), (6, di j)]
def RcH (n : Net) : Hp := Hp.none.put (0, 2) ⟨0, 6, [netD n]⟩
set_option maxHeartbeats 16000000 in
theorem r42check_c (n : Net) (hz : NetSz n) (l : List Tro) (hl : l.length ≤ 1000000) (nn : Nm) : CallsA Try.prog 23 [n.enc, .sl (l.map Tro.row)] Hp.none nn (Pu (di (chkT n l)) Hp.none) := by
  obtain ⟨code, h1, h2⟩ := c23_ok
  refine callsA_of TM2_ok mixed (N := fun t => (0, t)) Try.func23 h1 h2 r23_ok [] false js_nil js_nil' (by simp [Try.f23]) ?_
  have hn1 : netOf1 [D.sl (n.nodes.map nmRow), .sl (n.segs.map Seg.row), .sl (n.ports.map Port.row), .sl (n.sts.map Stn.row), di n.vap, di n.set] = some n := netOf1_row n
  by_cases a1 : checkI n = 0
  · have hc : chkT n l = if (32 : Int) < l.length then 4 else if l.any (valBad n) = true then 30 else 0 := by unfold chkT; rw [if_pos a1]
    by_cases a2 : (32 : Int) < l.length
    · rw [if_pos a2] at hc
      simp (config := { maxSteps := 500000 }) only [↓vp, vv, implies_true, forall_const, undef, InI, ↓reduceIte, simprocAttr, c23, r23, c23_1, c23_2, c23_3, c23_4, c23_5, c23_6, r23, TM2, selNet, Net.enc, hn1, hz, a1, bne_self_eq_false, a2, decide_true, hc, Pu]
    · rw [if_neg a2] at hc
      have hz1 := hz.segs
      have hz2 := hz.ports
      generalize hb : l.any (valBad n) = b at hc
      simp (config := { maxSteps := 500000 }) only [↓vp, vv, implies_true, forall_const, undef, InI, ↓reduceIte, simprocAttr, c23, c23_6, c23_5, TM2, selNet, Net.enc, hn1, hz, a1, bne_self_eq_false, a2, decide_false]
      refine rng_loop l.length (fun j => ⟨fr (RcF l j), RcH n⟩) (fun j => (l.drop j).any (valBad n) = b) (weak_eq [] [(0, 2)] (RcF l 0) (by simp (config := { maxSteps := 500000 }) only [↓vp, vv, implies_true, forall_const, undef, InI, ↓reduceIte, simprocAttr, coverS, RcF, RcH, netD]) (by simp (config := { maxSteps := 500000 }) only [↓vp, vv, implies_true, forall_const, undef, InI, ↓reduceIte, simprocAttr, refsF, RcF, RcH, netD]) (by simp (config := { maxSteps := 500000 }) only [↓vp, vv, implies_true, forall_const, undef, InI, ↓reduceIte, simprocAttr, RcF, RcH, netD]) (by simp) (by simp (config := { maxSteps := 500000 }) only [↓vp, vv, implies_true, forall_const, undef, InI, ↓reduceIte, simprocAttr, RcF, RcH, netD]; try rfl)) hb (fun j hj he => ?_) (fun he => ?_)
      · have hj' : (j : Int) < l.length := by omega
        have hjn := idx_nn j
        have w1 := idx_next (j := j) (by omega)
        obtain ⟨gf, gt⟩ := drop_any hj he
        have hg := getD_map Tro.row l j hj
        generalize l[j] = x at gf gt hg
        cases hx : valB n.segs.length n.ports.length x with
        | false =>
          have hc : chkT n l = 30 := by rw [hc, gf (by unfold valBad; rw [hx]; rfl)]; rfl
          simp (config := { maxSteps := 500000 }) only [↓vp, vv, implies_true, forall_const, undef, InI, ↓reduceIte, simprocAttr, c23, r23, c23_1, c23_2, c23_3, c23_4, c23_5, c23_6, r23, TM2, selVal, RcF, RcH, netD, hj', hjn, Int.toNat_natCast, hg, Tro.row, troOf_one, hx, hz1, hz2, hc, Pu]
        | true =>
          simp (config := { maxSteps := 500000 }) only [↓vp, vv, implies_true, forall_const, undef, InI, ↓reduceIte, simprocAttr, c23, r23, c23_1, c23_2, c23_3, c23_4, c23_5, c23_6, TM2, selVal, RcF, RcH, netD, hj', hjn, Int.toNat_natCast, hg, Tro.row, troOf_one, hx, hz1, hz2, w1]
          exact rng_next hj (weak_eq [] [(0, 2)] (RcF l (j + 1 : Nat)) (by simp (config := { maxSteps := 500000 }) only [↓vp, vv, implies_true, forall_const, undef, InI, ↓reduceIte, simprocAttr, coverS, RcF, RcH, netD, w1]) (by simp (config := { maxSteps := 500000 }) only [↓vp, vv, implies_true, forall_const, undef, InI, ↓reduceIte, simprocAttr, refsF, RcF, RcH, netD, w1]) (by simp (config := { maxSteps := 500000 }) only [↓vp, vv, implies_true, forall_const, undef, InI, ↓reduceIte, simprocAttr, RcF, RcH, netD, w1]) (by simp) (by simp (config := { maxSteps := 500000 }) only [↓vp, vv, implies_true, forall_const, undef, InI, ↓reduceIte, simprocAttr, RcF, RcH, netD, w1]; try rfl)) (gt (by unfold valBad; rw [hx]; rfl))
      · have e0 : b = false := drop_any_end rfl he
        rw [e0] at hc
        have hc2 : chkT n l = 0 := hc
        simp (config := { maxSteps := 500000 }) only [↓vp, vv, implies_true, forall_const, undef, InI, ↓reduceIte, simprocAttr, c23, r23, c23_1, c23_2, c23_3, c23_4, c23_5, c23_6, r23, RcF, RcH, Int.lt_irrefl, hc2, Pu]
  · have a1' : (checkI n != 0) = true := by simp [a1]
    have hc : chkT n l = checkI n := by unfold chkT; rw [if_neg a1]
    simp (config := { maxSteps := 500000 }) only [↓vp, vv, implies_true, forall_const, undef, InI, ↓reduceIte, simprocAttr, c23, r23, c23_1, c23_2, c23_3, c23_4, c23_5, c23_6, r23, TM2, selNet, Net.enc, hn1, hz, a1', hc, Pu]
def selRleak (k : Int) : List D → Option (Prop × D) := selLeak k
def TM3 : Tbl := tc 84 (rowPu selNext) (tc 85 (rowPu (selLeak 1)) (tc 87 (rowPu (selLeak 2)) (tc 89 (rowPu (selStop 3)) (tc 91 (rowPu (selStop 4)) TT4))))
theorem TM3_ok : TblOk Try.prog TM3 := by
  refine tc_pu f84_ok (fun args pre d h hp nn => ?_) (tc_pu f85_ok (fun args pre d h hp nn => ?_) (tc_pu f87_ok (fun args pre d h hp nn => ?_) (tc_pu f89_ok (fun args pre d h hp nn => ?_) (tc_pu f91_ok (fun args pre d h hp nn => ?_) TT4_ok))))
  · unfold selNext at h
    split at h
    · split at h
      · rename_i hm; cases h; rw [troOf_eq hm]; exact rNext_c _ _ hp nn
      · cases h
    · cases h
  · unfold selLeak at h
    split at h
    · split at h
      · rename_i hm; cases h; rw [troOf_eq hm]; exact rLeak_c _ _ _ hp nn
      · cases h
    · cases h
  · unfold selLeak at h
    split at h
    · split at h
      · rename_i hm; cases h; rw [troOf_eq hm]; exact rDrift_c _ _ _ hp nn
      · cases h
    · cases h
  · unfold selStop at h
    split at h
    · split at h
      · rename_i hm; cases h; rw [troOf_eq hm]; exact rStop_c _ _ _ hp nn
      · cases h
    · cases h
  · unfold selStop at h
    split at h
    · split at h
      · rename_i hm; cases h; rw [troOf_eq hm]; exact rStuck_c _ _ _ hp nn
      · cases h
    · cases h
set_option maxHeartbeats 4000000 in
theorem agree42_c (l : List Tro) (i t : Int) (hl : l.length ≤ 1000000) (nn : Nm) : CallsA Try.prog 24 [.sl (l.map Tro.row), di i, di t] Hp.none nn (Pu (db true) Hp.none) := by
  obtain ⟨code, h1, h2⟩ := c24_ok
  refine callsA_of TM3_ok mixed (N := fun t => (0, t)) Try.func24 h1 h2 r24_ok [] false js_nil js_nil' (by simp [Try.f24]) ?_
  have ht := troOf_map l
  simp (config := { maxSteps := 500000 }) only [↓vp, vv, implies_true, forall_const, undef, InI, ↓reduceIte, simprocAttr, c24, r24, r24, TM3, TT4, selNext, selLeak, selStop, ht, hl, beq_self_eq_true, Pu]
end Go.Proofs.Ytfkhjkkhdfcnjaa
