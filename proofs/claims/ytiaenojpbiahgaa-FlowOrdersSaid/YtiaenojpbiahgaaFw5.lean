
/- Flow: Order, Through, Feeds. -/
import Derived.Test.YtiaenojpbiahgaaFw4
namespace Go.Proofs.Ytiaenojpbiahgaa
open Go
set_option linter.unusedVariables false
set_option linter.unusedSimpArgs false
set_option maxRecDepth 100000

/-- What a valid plan is. -/
structure PlnV (n : Net) (p : Pln) : Prop where
  net : NetV n
  ck : checkI n = 0
  rl : p.rates.length = n.segs.length
  pl : p.ports.length = n.ports.length
  ul : p.pumps.length = n.sts.length
  rb : ∀ x ∈ n.segs.zip p.rates, withB x.2 (most x.1) = true
  pb : ∀ r ∈ p.ports, -1000 ≤ r ∧ r ≤ 1000
  fl : FlOk n p
  bal : amt comeOf (flowsOf n p) = amt leaveOf (flowsOf n p)
  ord : OrdPre n p
  all : n.nodes.length ≤ (ordB n p).length
theorem fck0 {n : Net} {p : Pln} (h : fckI n p = 0) : PlnV n p := by
  unfold fckI at h
  split at h
  · rename_i a0
    have hv := check0 a0
    cases a1 : lenBad n p with
    | true => rw [a1] at h; simp at h
    | false =>
      obtain ⟨l1, l2, l3⟩ := len_ok a1
      rw [a1] at h
      cases a2 : (n.segs.zip p.rates).any rateBad with
      | true => rw [a2] at h; simp at h
      | false =>
        rw [a2] at h
        cases a3 : p.ports.any portBadR with
        | true => rw [a3] at h; simp at h
        | false =>
          rw [a3] at h
          simp only [Bool.false_eq_true, if_false] at h
          split at h
          · rename_i a5
            split at h
            · cases h
            · rename_i a6
              refine ⟨hv, a0, l1, l2, l3, fun x hx => ?_, fun r hr => ?_, fl_ok hv l1 l2 a2 a3, a5, ⟨by have := hv.nl; omega, by have := hv.sl; omega, l1, edge_ok p hv⟩, by omega⟩
              · have := any_f a2 hx
                unfold rateBad at this
                simpa using this
              · have := any_f a3 hr
                unfold portBadR at this
                exact withB_of (by simpa using this)
          · cases h
  · rename_i h1; exact absurd h h1
def ordR (n : Net) (p : Pln) : List Nat := if fckI n p = 0 then ordB n p else []
def FckPre (n : Net) (p : Pln) : Prop := NetSz n ∧ PlnSz p
def TFk : Tbl := tc 31 (rowPu (selNP FckPre fun n p => di (fckI n p))) (tc 70 (rowPu (selNP FlOk fun n p => .agg ((amtM (flowsOf n p)).map di))) (tc 65 (rowPu (selNP OrdPre fun n p => .sl ((ordB n p).map nRow))) T0))
theorem TFk_ok : TblOk Try.prog TFk := tc_np f31_ok (fun n p h nn => fcheck_c n p h.1 h.2 nn) (tc_np f70_ok sums_c (tc_np f65_ok (fun n p h nn => order_c n p h.1 h.2.1 h.2.2.1 h.2.2.2 nn) (T0_ok _)))
set_option maxHeartbeats 4000000 in
theorem fOrder_c (n : Net) (p : Pln) (hz : FckPre n p) (nn : Nm) : CallsA Try.prog 28 [n.enc, p.enc] Hp.none nn (Pu (.tup [.sl ((ordR n p).map nRow), di (fckI n p)]) Hp.none) := by
  obtain ⟨code, h1, h2⟩ := c28_ok
  refine callsA_of TFk_ok mixed (N := fun t => (0, t)) Try.func28 h1 h2 r28_ok [] false js_nil js_nil' (by simp [Try.f28]) ?_
  have hn1 : netOf1 [D.sl (n.nodes.map nmRow), .sl (n.segs.map Seg.row), .sl (n.ports.map Port.row), .sl (n.sts.map Stn.row), di n.vap, di n.set] = some n := netOf1_row n
  have hp1 : plnOf1 [D.sl (p.rates.map iRow), .sl (p.ports.map iRow), .sl (p.pumps.map bRow)] = some p := plnOf1_row p
  by_cases a0 : fckI n p = 0
  · have hv := fck0 a0
    have ho := hv.ord
    have hr : ordR n p = ordB n p := if_pos a0
    simp (config := { maxSteps := 500000 }) only [↓vp, vv, implies_true, forall_const, undef, InI, ↓reduceIte, simprocAttr, c28, r28, c28_1, TFk, selNP, Net.enc, Pln.enc, netD, plnD, hn1, hp1, hz, ho, a0, bne_self_eq_false, hr, Pu]
  · have b0 : (fckI n p != 0) = true := by simp [a0]
    have hr : ordR n p = [] := if_neg a0
    simp (config := { maxSteps := 500000 }) only [↓vp, vv, implies_true, forall_const, undef, InI, ↓reduceIte, simprocAttr, c28, r28, c28_1, TFk, selNP, Net.enc, Pln.enc, netD, plnD, hn1, hp1, hz, b0, hr, Pu]
def thrI (n : Net) (p : Pln) (k : Int) : Int × Int := if fckI n p = 0 then (if k < 0 then (0, 8) else if (n.nodes.length : Int) ≤ k then (0, 8) else (sumI (comeOf k) (flowsOf n p), 0)) else (0, fckI n p)
theorem amt_at (f : Int → Fl → Int) (T : List Fl) (k : Nat) (h : k < 24) : ((amt f T).map di).getD k .any = di (sumI (f (k : Int)) T) := by
  rw [getDi _ k (by rw [amt_len]; exact h)]
  unfold amt
  rw [List.getD_eq_getElem?_getD, List.getElem?_map, List.getElem?_range h]
  rfl
set_option maxHeartbeats 4000000 in
theorem fThrough_c (n : Net) (p : Pln) (k : Int) (hz : FckPre n p) (nn : Nm) : CallsA Try.prog 33 [n.enc, p.enc, di k] Hp.none nn (Pu (.tup [di (thrI n p k).1, di (thrI n p k).2]) Hp.none) := by
  obtain ⟨code, h1, h2⟩ := c33_ok
  refine callsA_of TFk_ok mixed (N := fun t => (0, t)) Try.func33 h1 h2 r33_ok [] false js_nil js_nil' (by simp [Try.f33]) ?_
  have hn1 : netOf1 [D.sl (n.nodes.map nmRow), .sl (n.segs.map Seg.row), .sl (n.ports.map Port.row), .sl (n.sts.map Stn.row), di n.vap, di n.set] = some n := netOf1_row n
  have hp1 : plnOf1 [D.sl (p.rates.map iRow), .sl (p.ports.map iRow), .sl (p.pumps.map bRow)] = some p := plnOf1_row p
  by_cases a0 : fckI n p = 0
  · have hv := fck0 a0
    have hf := hv.fl
    by_cases a1 : k < 0
    · simp (config := { maxSteps := 500000 }) only [↓vp, vv, implies_true, forall_const, undef, InI, ↓reduceIte, simprocAttr, c33, r33, c33_1, c33_2, TFk, selNP, Net.enc, Pln.enc, netD, plnD, hn1, hp1, hz, a0, bne_self_eq_false, a1, decide_true, decide_false, thrI, Pu]
    · by_cases a2 : (n.nodes.length : Int) ≤ k
      · simp (config := { maxSteps := 500000 }) only [↓vp, vv, implies_true, forall_const, undef, InI, ↓reduceIte, simprocAttr, c33, r33, c33_1, c33_2, TFk, selNP, Net.enc, Pln.enc, netD, plnD, hn1, hp1, hz, a0, bne_self_eq_false, a1, a2, decide_true, decide_false, thrI, Pu]
      · have hl := hv.net.nl
        have a3 : 0 ≤ k := by omega
        have a4 : k < 24 := by omega
        have a5 : k.toNat + 1 ≤ 24 := by omega
        have g := amt_at comeOf (flowsOf n p) k.toNat (by omega)
        rw [show ((k.toNat : Nat) : Int) = k by omega] at g
        have l1 := amtM_len (flowsOf n p)
        have l2 := amt_len comeOf (flowsOf n p)
        simp (config := { maxSteps := 500000 }) only [↓vp, vv, implies_true, forall_const, undef, InI, ↓reduceIte, simprocAttr, c33, r33, c33_1, c33_2, TFk, selNP, Net.enc, Pln.enc, netD, plnD, hn1, hp1, hz, hf, a0, bne_self_eq_false, a1, a2, a3, a4, a5, g, l1, l2, amt_take, flat_di, Nat.mul_one, decide_true, decide_false, thrI, Pu]
  · have b0 : (fckI n p != 0) = true := by simp [a0]
    simp (config := { maxSteps := 500000 }) only [↓vp, vv, implies_true, forall_const, undef, InI, ↓reduceIte, simprocAttr, c33, r33, c33_1, c33_2, TFk, selNP, Net.enc, Pln.enc, netD, plnD, hn1, hp1, hz, a0, b0, thrI, Pu]
def posI (r : Int) : Int := if 0 < r then r else 0
def negI (r : Int) : Int := if 0 < -r then -r else 0
def feedI (n : Net) (p : Pln) : Int × Int := if fckI n p = 0 then (sumI posI p.ports, sumI negI p.ports) else (0, 0)
theorem pos_b (r : Int) (h : -1000 ≤ r ∧ r ≤ 1000) : (0 ≤ posI r ∧ posI r ≤ 1000) ∧ 0 ≤ negI r ∧ negI r ≤ 1000 := by unfold posI negI; constructor <;> split <;> omega
theorem sum_b {R : List Int} (h : ∀ r ∈ R, -1000 ≤ r ∧ r ≤ 1000) : (0 ≤ sumI posI R ∧ sumI posI R ≤ 1000 * R.length) ∧ 0 ≤ sumI negI R ∧ sumI negI R ≤ 1000 * R.length :=
  ⟨⟨sumI_nn fun r hr => (pos_b r (h r hr)).1.1, sumI_le 1000 fun r hr => (pos_b r (h r hr)).1.2⟩, sumI_nn fun r hr => (pos_b r (h r hr)).2.1, sumI_le 1000 fun r hr => (pos_b r (h r hr)).2.2⟩
theorem sum_take (f : Int → Int) (R : List Int) (j : Nat) (h : j < R.length) : sumI f (R.take (j + 1)) = sumI f (R.take j) + f R[j] := by
  rw [← List.take_append_getElem h, sumI_snoc]
set_option maxHeartbeats 4000000 in
theorem fFeeds_c (n : Net) (p : Pln) (hz : FckPre n p) (nn : Nm) : CallsA Try.prog 34 [n.enc, p.enc] Hp.none nn (Pu (.tup [di (feedI n p).1, di (feedI n p).2, di (fckI n p)]) Hp.none) := by
  obtain ⟨code, h1, h2⟩ := c34_ok
  refine callsA_of TFk_ok mixed (N := fun t => (0, t)) Try.func34 h1 h2 r34_ok [] false js_nil js_nil' (by simp [Try.f34]) ?_
  have hn1 : netOf1 [D.sl (n.nodes.map nmRow), .sl (n.segs.map Seg.row), .sl (n.ports.map Port.row), .sl (n.sts.map Stn.row), di n.vap, di n.set] = some n := netOf1_row n
  have hp1 : plnOf1 [D.sl (p.rates.map iRow), .sl (p.ports.map iRow), .sl (p.pumps.map bRow)] = some p := plnOf1_row p
  by_cases a0 : fckI n p = 0
  · have hv := fck0 a0
    have hpl := hv.pl
    have hql := hv.net.ql
    simp (config := { maxSteps := 500000 }) only [↓vp, vv, implies_true, forall_const, undef, InI, ↓reduceIte, simprocAttr, c34, r34, c34_1, c34_2, c34_3, c34_4, TFk, selNP, Net.enc, Pln.enc, netD, plnD, hn1, hp1, hz, a0, bne_self_eq_false]
    refine rng_loop p.ports.length (fun j => ⟨fr [(8, di (sumI posI (p.ports.take j))), (9, di (sumI negI (p.ports.take j))), (19, .sl (p.ports.map iRow)), (20, di p.ports.length), (21, di j)], Hp.none⟩) (fun _ => True) (weak0 (by simp (config := { maxSteps := 500000 }) only [↓vp, vv, implies_true, forall_const, undef, InI, ↓reduceIte, simprocAttr, coverS, sumI]) (by simp (config := { maxSteps := 500000 }) only [↓vp, vv, implies_true, forall_const, undef, InI, ↓reduceIte, simprocAttr, refsF])) trivial (fun j hj _ => ?_) (fun _ => ?_)
    · have hj' : (j : Int) < p.ports.length := by omega
      have hn := idx_nn j
      have w1 := idx_next (j := j) (by omega)
      have hg := iRow_at p.ports j hj
      have e1 := sum_take posI p.ports j hj
      have e2 := sum_take negI p.ports j hj
      have hb := hv.pb _ (List.getElem_mem hj)
      have hs := sum_b (R := p.ports.take j) fun r hr => hv.pb r (List.mem_of_mem_take hr)
      have hlt : (p.ports.take j).length = j := by rw [List.length_take]; omega
      rw [hlt] at hs
      have hpb := pos_b _ hb
      generalize p.ports[j] = r at hg e1 e2 hb hpb
      have wn : IntKind.i64.wrap (0 - r) = -r := by rw [wrap_i (by omega)]; omega
      have m1 : (if 0 < r then r else 0) = posI r := rfl
      have m2 : (if 0 < -r then -r else 0) = negI r := rfl
      have w2 : IntKind.i64.wrap (sumI posI (p.ports.take j) + posI r) = sumI posI (p.ports.take (j + 1)) := by rw [e1]; exact wrap_i (by omega)
      have w3 : IntKind.i64.wrap (sumI negI (p.ports.take j) + negI r) = sumI negI (p.ports.take (j + 1)) := by rw [e2]; exact wrap_i (by omega)
      simp (config := { maxSteps := 500000 }) only [↓vp, vv, implies_true, forall_const, undef, InI, ↓reduceIte, simprocAttr, c34, r34, c34_1, c34_2, c34_3, c34_4, hj', hn, Int.toNat_natCast, hg, w1, wn, m1, m2, w2, w3]
      exact rng_next hj (weak0 (by simp (config := { maxSteps := 500000 }) only [↓vp, vv, implies_true, forall_const, undef, InI, ↓reduceIte, simprocAttr, coverS, w1, w2, w3]) (by simp (config := { maxSteps := 500000 }) only [↓vp, vv, implies_true, forall_const, undef, InI, ↓reduceIte, simprocAttr, refsF])) trivial
    · have hf : feedI n p = (sumI posI p.ports, sumI negI p.ports) := if_pos a0
      simp (config := { maxSteps := 500000 }) only [↓vp, vv, implies_true, forall_const, undef, InI, ↓reduceIte, simprocAttr, c34, r34, c34_1, c34_2, c34_3, c34_4, Int.lt_irrefl, List.take_length, hf, a0, Pu]
  · have b0 : (fckI n p != 0) = true := by simp [a0]
    have hf : feedI n p = (0, 0) := if_neg a0
    simp (config := { maxSteps := 500000 }) only [↓vp, vv, implies_true, forall_const, undef, InI, ↓reduceIte, simprocAttr, c34, r34, c34_1, c34_2, c34_3, c34_4, TFk, selNP, Net.enc, Pln.enc, netD, plnD, hn1, hp1, hz, b0, hf, Pu]
end Go.Proofs.Ytiaenojpbiahgaa
