
/- Lineups: the reference's Need, Permits, Shut; Shut for any lineup. -/
import Derived.Test.YtkjibmfggeibjaaLuZ
import Derived.Test.YtkjibmfggeibjaaRfA
import Derived.Test.YtkjibmfggeibjaaCodeLM
import Derived.Test.YtkjibmfggeibjaaWr
/- Lineups: the reference's Need, Permits, Shut; Shut for any lineup. -/
namespace Go.Proofs.Ytkjibmfggeibjaa
open Go
set_option linter.unusedVariables false
set_option linter.unusedSimpArgs false
set_option maxRecDepth 100000

def NdF (l : List (Nat × D)) : List (Nat × D) := (1, .ptr (0, 1) 0 0 0) :: (2, .ptr (0, 2) 0 0 0) :: (3, .ptr (0, 3) 0 0 0) :: l
def NdH (p : Pln) (j k : Nat) : Hp := ((((Hp.none.put (0, 1002) ⟨k, 1, (nzs p.ports k).map bRow⟩).put (0, 1001) ⟨j, 1, (nzs p.rates j).map bRow⟩).put (0, 3) ⟨0, 2, [[.own (0, 1001) j 0 j, .own (0, 1002) k 0 k]]⟩).put (0, 2) ⟨0, 2, [[.mt, .mt]]⟩).put (0, 1) ⟨0, 3, [plnD p]⟩
set_option maxHeartbeats 8000000 in
theorem needs24_c (p : Pln) (h : PlnSz p) (nn : Nm) : CallsA Try.prog 104 [p.enc] Hp.none nn (Pu (needL p).enc Hp.none) := by
  obtain ⟨code, h1, h2⟩ := c104_ok
  refine callsA_of (T0_ok _) mixed (N := fun t => (0, t)) Try.func104 h1 h2 r104_ok [] false js_nil js_nil' (by simp [Try.f104]) ?_
  have hr := h.rates
  have hq := h.ports
  have er : needL p = ⟨nzs p.rates p.rates.length, nzs p.ports p.ports.length⟩ := by rw [nzs_all, nzs_all]; rfl
  rw [er]
  simp (config := { maxSteps := 500000 }) only [↓vp, vv, implies_true, forall_const, undef, InI, ↓reduceIte, simprocAttr, c104, Pln.enc, plnD]
  refine rng_loop p.rates.length (fun j => ⟨fr (NdF [(4, di (j : Nat))]), NdH p j 0⟩) (fun _ => True) ((weak_ownC (0, 3) 0 2 [] [.mt] (0, 1001) 1 (by simp (config := { maxSteps := 500000 }) only [↓vp, vv, implies_true, forall_const, undef, InI, ↓reduceIte, simprocAttr, ]) (by simp (config := { maxSteps := 500000 }) only [↓vp, vv, implies_true, forall_const, undef, InI, ↓reduceIte, simprocAttr, ])).trans ((weak_ownC (0, 3) 0 2 [.own (0, 1001) 0 0 0] [] (0, 1002) 1 (by simp (config := { maxSteps := 500000 }) only [↓vp, vv, implies_true, forall_const, undef, InI, ↓reduceIte, simprocAttr, ]) (by simp (config := { maxSteps := 500000 }) only [↓vp, vv, implies_true, forall_const, undef, InI, ↓reduceIte, simprocAttr, ])).trans (weak_eq [] [(0, 1), (0, 2), (0, 3), (0, 1001), (0, 1002)] (NdF [(4, di 0)]) (by simp (config := { maxSteps := 500000 }) only [↓vp, vv, implies_true, forall_const, undef, InI, ↓reduceIte, simprocAttr, coverS, NdF, NdH, plnD, nzs, bRow, List.take_zero, List.map_nil]) (by simp (config := { maxSteps := 500000 }) only [↓vp, vv, implies_true, forall_const, undef, InI, ↓reduceIte, simprocAttr, refsF, NdF, NdH, plnD, nzs, bRow, List.take_zero, List.map_nil]) (by simp (config := { maxSteps := 500000 }) only [↓vp, vv, implies_true, forall_const, undef, InI, ↓reduceIte, simprocAttr, NdF, NdH, plnD, nzs, bRow, List.take_zero, List.map_nil]) (by simp) (by simp (config := { maxSteps := 500000 }) only [↓vp, vv, implies_true, forall_const, undef, InI, ↓reduceIte, simprocAttr, NdF, NdH, plnD, nzs, bRow, List.take_zero, List.map_nil]; try rfl)))) trivial (fun j hj _ => ?_) (fun _ => ?_)
  · have hj' : (j : Int) < p.rates.length := by omega
    have hjn := idx_nn j
    have w1 := idx_next (j := j) (by omega)
    have g := iRow_at p.rates j hj
    have hs := nzs_succ hj
    have hl := nzs_len (R := p.rates) (j := j) (by omega)
    have hl2 := nzs_len (R := p.rates) (j := j + 1) (by omega)
    have y1 : (j + 1) * 1 ≤ 140737488355328 := by omega
    have y2 : j + 1 ≤ 4611686018427387904 := by omega
    generalize p.rates[j] = r at g hs
    have hnz : nz r = (r != 0) := rfl
    simp (config := { maxSteps := 500000 }) only [↓vp, vv, implies_true, forall_const, undef, InI, ↓reduceIte, simprocAttr, c104_2, c104_1, NdF, NdH, plnD, hj', hjn, g, hl, w1, y1, y2, Int.toNat_natCast]
    exact rng_next hj (weak_eq [] [(0, 1), (0, 2), (0, 3), (0, 1001), (0, 1002)] (NdF [(4, di (j + 1 : Nat))]) (by simp (config := { maxSteps := 500000 }) only [↓vp, vv, implies_true, forall_const, undef, InI, ↓reduceIte, simprocAttr, coverS, NdF, NdH, plnD, bRow, w1, hs, hl, hl2, hnz, List.map_append, List.map_cons, List.map_nil]) (by simp (config := { maxSteps := 500000 }) only [↓vp, vv, implies_true, forall_const, undef, InI, ↓reduceIte, simprocAttr, refsF, NdF, NdH, plnD, bRow, w1, hs, hl, hl2, hnz, List.map_append, List.map_cons, List.map_nil]) (by simp (config := { maxSteps := 500000 }) only [↓vp, vv, implies_true, forall_const, undef, InI, ↓reduceIte, simprocAttr, NdF, NdH, plnD, bRow, w1, hs, hl, hl2, hnz, List.map_append, List.map_cons, List.map_nil]) (by simp) (by simp (config := { maxSteps := 500000 }) only [↓vp, vv, implies_true, forall_const, undef, InI, ↓reduceIte, simprocAttr, NdF, NdH, plnD, bRow, w1, hs, hl, hl2, hnz, List.map_append, List.map_cons, List.map_nil]; try rfl)) trivial
  · simp (config := { maxSteps := 500000 }) only [↓vp, vv, implies_true, forall_const, undef, InI, ↓reduceIte, simprocAttr, c104_2, c104_6, NdF, NdH, plnD, Int.lt_irrefl]
    refine rng_loop p.ports.length (fun j => ⟨fr (NdF [(5, di (j : Nat))]), NdH p p.rates.length j⟩) (fun _ => True) (weak_eq [] [(0, 1), (0, 2), (0, 3), (0, 1001), (0, 1002)] (NdF [(5, di 0)]) (by simp (config := { maxSteps := 500000 }) only [↓vp, vv, implies_true, forall_const, undef, InI, ↓reduceIte, simprocAttr, coverS, NdF, NdH, plnD, bRow]) (by simp (config := { maxSteps := 500000 }) only [↓vp, vv, implies_true, forall_const, undef, InI, ↓reduceIte, simprocAttr, refsF, NdF, NdH, plnD, bRow]) (by simp (config := { maxSteps := 500000 }) only [↓vp, vv, implies_true, forall_const, undef, InI, ↓reduceIte, simprocAttr, NdF, NdH, plnD, bRow]) (by simp) (by simp (config := { maxSteps := 500000 }) only [↓vp, vv, implies_true, forall_const, undef, InI, ↓reduceIte, simprocAttr, NdF, NdH, plnD, bRow]; try rfl)) trivial (fun j hj _ => ?_) (fun _ => ?_)
    · have hj' : (j : Int) < p.ports.length := by omega
      have hjn := idx_nn j
      have w1 := idx_next (j := j) (by omega)
      have g := iRow_at p.ports j hj
      have hs := nzs_succ hj
      have hl := nzs_len (R := p.ports) (j := j) (by omega)
      have hl2 := nzs_len (R := p.ports) (j := j + 1) (by omega)
      have y1 : (j + 1) * 1 ≤ 140737488355328 := by omega
      have y2 : j + 1 ≤ 4611686018427387904 := by omega
      generalize p.ports[j] = r at g hs
      have hnz : nz r = (r != 0) := rfl
      simp (config := { maxSteps := 500000 }) only [↓vp, vv, implies_true, forall_const, undef, InI, ↓reduceIte, simprocAttr, c104_4, c104_3, NdF, NdH, plnD, hj', hjn, g, hl, w1, y1, y2, Int.toNat_natCast]
      exact rng_next hj (weak_eq [] [(0, 1), (0, 2), (0, 3), (0, 1001), (0, 1002)] (NdF [(5, di (j + 1 : Nat))]) (by simp (config := { maxSteps := 500000 }) only [↓vp, vv, implies_true, forall_const, undef, InI, ↓reduceIte, simprocAttr, coverS, NdF, NdH, plnD, bRow, w1, hs, hl, hl2, hnz, List.map_append, List.map_cons, List.map_nil]) (by simp (config := { maxSteps := 500000 }) only [↓vp, vv, implies_true, forall_const, undef, InI, ↓reduceIte, simprocAttr, refsF, NdF, NdH, plnD, bRow, w1, hs, hl, hl2, hnz, List.map_append, List.map_cons, List.map_nil]) (by simp (config := { maxSteps := 500000 }) only [↓vp, vv, implies_true, forall_const, undef, InI, ↓reduceIte, simprocAttr, NdF, NdH, plnD, bRow, w1, hs, hl, hl2, hnz, List.map_append, List.map_cons, List.map_nil]) (by simp) (by simp (config := { maxSteps := 500000 }) only [↓vp, vv, implies_true, forall_const, undef, InI, ↓reduceIte, simprocAttr, NdF, NdH, plnD, bRow, w1, hs, hl, hl2, hnz, List.map_append, List.map_cons, List.map_nil]; try rfl)) trivial
    · have l1 := nzs_len (R := p.rates) (j := p.rates.length) (Nat.le_refl _)
      have l2 := nzs_len (R := p.ports) (j := p.ports.length) (Nat.le_refl _)
      have t1 : ((nzs p.rates p.rates.length).map bRow).take p.rates.length = (nzs p.rates p.rates.length).map bRow := List.take_of_length_le (by rw [List.length_map]; omega)
      have t2 : ((nzs p.ports p.ports.length).map bRow).take p.ports.length = (nzs p.ports p.ports.length).map bRow := List.take_of_length_le (by rw [List.length_map]; omega)
      have pX : ∀ A : List Bool, (∀ j ∈ A, ∀ d ∈ bRow j, d.plain = true) = True := fun A => eq_true fun _ _ d hd => by rw [List.mem_singleton.1 hd]; rfl
      simp (config := { maxSteps := 500000 }) only [↓vp, vv, implies_true, forall_const, undef, InI, ↓reduceIte, simprocAttr, c104_4, c104_5, r104, NdF, NdH, plnD, Lnp.enc, lnpD, l1, l2, t1, t2, pX, Int.lt_irrefl, Pu]
def selPl (ok : Pln → Prop) (out : Pln → D) : List D → Option (Prop × D)
  | [.agg a] => match plnOf1 a with
    | some p => some (ok p, out p)
    | Option.none => Option.none
  | _ => Option.none
def TNd : Tbl := tc 56 (rowPu (selNP FckPre fun n p => di (fckI n p))) (tc 104 (rowPu (selPl PlnSz fun p => (needL p).enc)) T0)
theorem TNd_ok : TblOk Try.prog TNd := tc_np f56_ok (fun n p h nn => rchk16_c n p h.1 h.2 nn) (tc_pu f104_ok (fun args pre d hs hp nn => by
  unfold selPl at hs
  split at hs
  · split at hs
    · rename_i e
      cases hs
      rw [plnOf1_eq e]
      exact needs24_c _ hp nn
    · cases hs
  · cases hs) (T0_ok _))
set_option maxHeartbeats 4000000 in
theorem need24_c (n : Net) (p : Pln) (hz : FckPre n p) (nn : Nm) : CallsA Try.prog 46 [n.enc, p.enc] Hp.none nn (Pu (.tup [(needR n p).enc, di (fckI n p)]) Hp.none) := by
  obtain ⟨code, h1, h2⟩ := c46_ok
  refine callsA_of TNd_ok mixed (N := fun t => (0, t)) Try.func46 h1 h2 r46_ok [] false js_nil js_nil' (by simp [Try.f46]) ?_
  have hn1 : netOf1 [D.sl (n.nodes.map nmRow), .sl (n.segs.map Seg.row), .sl (n.ports.map Port.row), .sl (n.sts.map Stn.row), di n.vap, di n.set] = some n := netOf1_row n
  have hp1 : plnOf1 [D.sl (p.rates.map iRow), .sl (p.ports.map iRow), .sl (p.pumps.map bRow)] = some p := plnOf1_row p
  have hps := hz.2
  unfold needR
  cases c1 : (fckI n p != 0) with
  | true =>
    rw [if_neg (by simpa using c1)]
    simp (config := { maxSteps := 500000 }) only [↓vp, vv, implies_true, forall_const, undef, InI, ↓reduceIte, simprocAttr, c46, r46, c46_1, r46, TNd, selNP, selPl, Net.enc, Pln.enc, netD, plnD, Lnp.enc, lnpD, hn1, hp1, hz, c1, List.map_nil, Pu]
  | false =>
    have e1 : fckI n p = 0 := by simpa using c1
    rw [if_pos e1]
    simp (config := { maxSteps := 500000 }) only [↓vp, vv, implies_true, forall_const, undef, InI, ↓reduceIte, simprocAttr, c46, r46, c46_1, r46, TNd, selNP, selPl, Net.enc, Pln.enc, netD, plnD, Lnp.enc, lnpD, hn1, hp1, hz, hps, e1, bne_self_eq_false, Pu]
end Go.Proofs.Ytkjibmfggeibjaa
/- Lineups: Changes, Permits, Shut for any lineups, of both. -/
namespace Go.Proofs.Ytkjibmfggeibjaa
open Go
set_option linter.unusedVariables false
set_option linter.unusedSimpArgs false
set_option maxRecDepth 100000

def chgD (n : Net) (x y : Lnp) : D := if bothI n [x, y] = 0 then .tup [.sl ((dif (lall x) (lall y) (lall x).length).map nRow), .sl ((dif (lall y) (lall x) (lall x).length).map nRow), di 0] else .tup [.sl [], .sl [], di (bothI n [x, y])]
structure LxPre (n : Net) (x y : Lnp) : Prop where
  z : NetSz n
  x : LnpSz x
  y : LnpSz y
theorem both0 {n : Net} {x y : Lnp} (h : bothI n [x, y] = 0) : checkI n = 0 ∧ lvB n x = true ∧ lvB n y = true := by
  unfold bothI at h
  split at h
  · rename_i h1
    split at h
    · rename_i h2
      simp at h2
      exact ⟨h1, h2.1, h2.2⟩
    · omega
  · contradiction
theorem nRow_plT : ∀ A : List Nat, (∀ j ∈ A, ∀ d ∈ nRow j, d.plain = true) = True := fun A => eq_true fun _ _ d hd => by rw [List.mem_singleton.1 hd]; rfl
set_option maxHeartbeats 16000000 in
theorem changes_p (n : Net) (x y : Lnp) (h : LxPre n x y) (nn : Nm) : CallsA Try.prog 103 [n.enc, x.enc, y.enc] Hp.none nn (Pu (chgD n x y) Hp.none) := by
  obtain ⟨code, h1, h2⟩ := c103_ok
  refine callsA_of TLu3_ok mixed (N := fun t => (0, t)) Try.func103 h1 h2 r103_ok [] false js_nil js_nil' (by simp [Try.f103]) ?_
  have hn1 : netOf1 [D.sl (n.nodes.map nmRow), .sl (n.segs.map Seg.row), .sl (n.ports.map Port.row), .sl (n.sts.map Stn.row), di n.vap, di n.set] = some n := netOf1_row n
  have hl1 : lnpOf1 [D.sl (x.segs.map bRow), .sl (x.ports.map bRow)] = some x := lnpOf1_row x
  have hl2 : lnpOf1 [D.sl (y.segs.map bRow), .sl (y.ports.map bRow)] = some y := lnpOf1_row y
  have hb : lsOf lnpOf1 [[D.sl (x.segs.map bRow), .sl (x.ports.map bRow)], [.sl (y.segs.map bRow), .sl (y.ports.map bRow)]] = some [x, y] := lsOf_map lnpOf1_row [x, y]
  have hz := h.z
  have hx := h.x
  have hy := h.y
  unfold chgD
  cases c1 : (bothI n [x, y] != 0) with
  | true =>
    rw [if_neg (by simpa using c1)]
    simp (config := { maxSteps := 500000 }) only [↓vp, vv, implies_true, forall_const, undef, InI, ↓reduceIte, simprocAttr, c103, r103, TLu3, selBoth, Net.enc, Lnp.enc, netD, lnpD, hn1, hb, hz, c1, Pu]
  | false =>
    have e1 : bothI n [x, y] = 0 := by simpa using c1
    rw [if_pos e1]
    obtain ⟨_, v1, v2⟩ := both0 e1
    have lx := lv_len v1
    have ly := lv_len v2
    have hx1 := hx.1
    have hx2 := hx.2
    have hAB : (lall x).length = (lall y).length := by simp [lall]; omega
    have hAz : (lall x).length ≤ 2000000 := by simp [lall]; omega
    simp (config := { maxSteps := 500000 }) only [↓vp, vv, implies_true, forall_const, undef, InI, ↓reduceIte, simprocAttr, c103, c103_5, TLu3, selBoth, selL, Net.enc, Lnp.enc, netD, lnpD, hn1, hb, hl1, hl2, hz, hx, hy, e1, bne_self_eq_false]
    generalize lall x = A at hAB hAz
    generalize lall y = B at hAB
    refine rng_loop A.length (fun j => ⟨fr (ChF 0 1001 A B j), ChH 0 1001 A B j⟩) (fun _ => True) ((weak_own 6 (0, 1001) 1 (by simp (config := { maxSteps := 500000 }) only [↓vp, vv, implies_true, forall_const, undef, InI, ↓reduceIte, simprocAttr, ]) (by simp (config := { maxSteps := 500000 }) only [↓vp, vv, implies_true, forall_const, undef, InI, ↓reduceIte, simprocAttr, ])).trans ((weak_own 7 (0, 6001) 1 (by simp (config := { maxSteps := 500000 }) only [↓vp, vv, implies_true, forall_const, undef, InI, ↓reduceIte, simprocAttr, ]) (by simp (config := { maxSteps := 500000 }) only [↓vp, vv, implies_true, forall_const, undef, InI, ↓reduceIte, simprocAttr, ])).trans (weak_eq [] [(0, 1001), (0, 6001)] (ChF 0 1001 A B 0) (by simp (config := { maxSteps := 500000 }) only [↓vp, vv, implies_true, forall_const, undef, InI, ↓reduceIte, simprocAttr, coverS, ChF, ChH, dif, nRow, List.range_zero, List.filter_nil]) (by simp (config := { maxSteps := 500000 }) only [↓vp, vv, implies_true, forall_const, undef, InI, ↓reduceIte, simprocAttr, refsF, ChF, ChH, dif, nRow, List.range_zero, List.filter_nil]) (by simp (config := { maxSteps := 500000 }) only [↓vp, vv, implies_true, forall_const, undef, InI, ↓reduceIte, simprocAttr, ChF, ChH, dif, nRow, List.range_zero, List.filter_nil]) (by simp) (by simp (config := { maxSteps := 500000 }) only [↓vp, vv, implies_true, forall_const, undef, InI, ↓reduceIte, simprocAttr, ChF, ChH, dif, nRow, List.range_zero, List.filter_nil]; try rfl)))) trivial (fun j hj _ => ?_) (fun _ => ?_)
    · have hj' : (j : Int) < A.length := by omega
      have hjB : (j : Int) < B.length := by omega
      have hjn := idx_nn j
      have w1 := idx_next (j := j) (by omega)
      have hjb : j < B.length := by omega
      have hgA := bRow_g A j hj
      have hgB := bRow_g B j hjb
      have d1 := dif_succ A B j
      have d2 := dif_succ B A j
      have l1 := dif_le A B j
      have l2 := dif_le B A j
      have eA : A.getD j false = A[j] := by rw [List.getD_eq_getElem?_getD, List.getElem?_eq_getElem hj]; rfl
      have eB : B.getD j false = B[j] := by rw [List.getD_eq_getElem?_getD, List.getElem?_eq_getElem hjb]; rfl
      rw [eA, eB] at d1 d2
      generalize A[j] = u at hgA d1 d2
      generalize B[j] = v at hgB d1 d2
      have y1 : ((dif A B j).length + 1) * 8 ≤ 140737488355328 := by omega
      have y2 : (dif A B j).length + 1 ≤ 4611686018427387904 := by omega
      have y3 : ((dif B A j).length + 1) * 8 ≤ 140737488355328 := by omega
      have y4 : (dif B A j).length + 1 ≤ 4611686018427387904 := by omega
      cases u <;> cases v <;> simp only [Bool.not_true, Bool.not_false, Bool.and_self, Bool.and_true, Bool.and_false, Bool.false_and, Bool.true_and, if_true, if_false, Bool.false_eq_true] at d1 d2 <;> (simp (config := { maxSteps := 500000 }) only [↓vp, vv, implies_true, forall_const, undef, InI, ↓reduceIte, simprocAttr, c103_3, c103_2, c103_1, ChF, ChH, hj', hjB, hjn, Int.toNat_natCast, hgA, hgB, w1, y1, y2, y3, y4, nRow]; exact rng_next hj (weak_eq [] [(0, 1001), (0, 6001)] (ChF 0 1001 A B (j + 1)) (by simp (config := { maxSteps := 500000 }) only [↓vp, vv, implies_true, forall_const, undef, InI, ↓reduceIte, simprocAttr, coverS, ChF, ChH, nRow, w1, d1, d2, List.map_append, List.map_cons, List.map_nil, List.length_append, List.length_cons, List.length_nil]) (by simp (config := { maxSteps := 500000 }) only [↓vp, vv, implies_true, forall_const, undef, InI, ↓reduceIte, simprocAttr, refsF, ChF, ChH, nRow, w1, d1, d2, List.map_append, List.map_cons, List.map_nil, List.length_append, List.length_cons, List.length_nil]) (by simp (config := { maxSteps := 500000 }) only [↓vp, vv, implies_true, forall_const, undef, InI, ↓reduceIte, simprocAttr, ChF, ChH, nRow, w1, d1, d2, List.map_append, List.map_cons, List.map_nil, List.length_append, List.length_cons, List.length_nil]) (by simp) (by simp (config := { maxSteps := 500000 }) only [↓vp, vv, implies_true, forall_const, undef, InI, ↓reduceIte, simprocAttr, ChF, ChH, nRow, w1, d1, d2, List.map_append, List.map_cons, List.map_nil, List.length_append, List.length_cons, List.length_nil]; try rfl)) trivial)
    · have t1 : ∀ Z : List Nat, (Z.map nRow).take Z.length = Z.map nRow := fun Z => List.take_of_length_le (by simp)
      have pl := nRow_plT
      simp (config := { maxSteps := 500000 }) only [↓vp, vv, implies_true, forall_const, undef, InI, ↓reduceIte, simprocAttr, c103_3, c103_4, r103, ChF, ChH, t1, pl, Int.lt_irrefl, Pu]
def TL24c : Tbl := tc 99 (rowPu (selNet fun n => di (checkI n))) (tc 109 (rowPu (selNL (fun _ _ => True) fun n l => db (lvB n l))) (tc 170 (rowPu (selL LnpSz fun l => .sl ((lall l).map bRow))) (tc 46 (rowPu (selNP FckPre fun n p => .tup [(needR n p).enc, di (fckI n p)])) T0)))
theorem TL24c_ok : TblOk Try.prog TL24c := tc_netf f99_ok (fun n hz nn => rcheck_c n hz nn) (tc_nl f109_ok (fun n l _ nn => rlvalid_c n l nn) (tc_l f170_ok (fun l h nn => all_c l h.1 h.2 nn) (tc_np f46_ok (fun n p h nn => need24_c n p h nn) (T0_ok _))))
def CgF (A B : List Bool) (j : Nat) : List (Nat × D) := [(10, .sl (A.map bRow)), (11, .sl (B.map bRow)), (12, .own (0, 1001) (dif A B j).length 0 (dif A B j).length), (13, .own (0, 6001) (dif B A j).length 0 (dif B A j).length), (14, di j)]
set_option maxHeartbeats 16000000 in
theorem changes24_c (n : Net) (x y : Lnp) (h : LxPre n x y) (nn : Nm) : CallsA Try.prog 112 [n.enc, x.enc, y.enc] Hp.none nn (Pu (chgD n x y) Hp.none) := by
  obtain ⟨code, h1, h2⟩ := c112_ok
  refine callsA_of TL24c_ok mixed (N := fun t => (0, t)) Try.func112 h1 h2 r112_ok [] false js_nil js_nil' (by simp [Try.f112]) ?_
  have hn1 : netOf1 [D.sl (n.nodes.map nmRow), .sl (n.segs.map Seg.row), .sl (n.ports.map Port.row), .sl (n.sts.map Stn.row), di n.vap, di n.set] = some n := netOf1_row n
  have hl1 : lnpOf1 [D.sl (x.segs.map bRow), .sl (x.ports.map bRow)] = some x := lnpOf1_row x
  have hl2 : lnpOf1 [D.sl (y.segs.map bRow), .sl (y.ports.map bRow)] = some y := lnpOf1_row y
  have hz := h.z
  have hx := h.x
  have hy := h.y
  unfold chgD bothI
  cases c0 : (checkI n != 0) with
  | true =>
    have c0' : ¬ checkI n = 0 := by simpa using c0
    rw [if_neg c0', if_neg c0']
    simp (config := { maxSteps := 500000 }) only [↓vp, vv, implies_true, forall_const, undef, InI, ↓reduceIte, simprocAttr, c112, r112, TL24c, selNet, Net.enc, Lnp.enc, netD, lnpD, hn1, hz, c0, Pu]
  | false =>
    have c0' : checkI n = 0 := by simpa using c0
    rw [if_pos c0']
    rw [c0'] at c0
    have ea : [x, y].all (lvB n) = (lvB n x && lvB n y) := by simp
    rw [ea]
    cases v1 : lvB n x with
    | false => simp (config := { maxSteps := 500000 }) only [↓vp, vv, implies_true, forall_const, undef, InI, ↓reduceIte, simprocAttr, c112, c112_7, r112, TL24c, selNet, selNL, Net.enc, Lnp.enc, netD, lnpD, hn1, hl1, hl2, hz, c0, c0', v1, Bool.false_and, if_false, Bool.false_eq_true, Pu]; try rfl
    | true =>
      cases v2 : lvB n y with
      | false => simp (config := { maxSteps := 500000 }) only [↓vp, vv, implies_true, forall_const, undef, InI, ↓reduceIte, simprocAttr, c112, c112_7, r112, TL24c, selNet, selNL, Net.enc, Lnp.enc, netD, lnpD, hn1, hl1, hl2, hz, c0, c0', v1, v2, Bool.and_false, if_false, Bool.false_eq_true, Pu]; try rfl
      | true =>
        rw [Bool.and_self, if_pos rfl, if_pos rfl]
        have lx := lv_len v1
        have ly := lv_len v2
        have hx1 := hx.1
        have hx2 := hx.2
        have hAB : (lall x).length = (lall y).length := by simp [lall]; omega
        have hAz : (lall x).length ≤ 2000000 := by simp [lall]; omega
        simp (config := { maxSteps := 500000 }) only [↓vp, vv, implies_true, forall_const, undef, InI, ↓reduceIte, simprocAttr, c112, c112_7, c112_6, TL24c, selNet, selNL, selL, Net.enc, Lnp.enc, netD, lnpD, hn1, hl1, hl2, hz, hx, hy, c0, c0', v1, v2]
        generalize lall x = A at hAB hAz
        generalize lall y = B at hAB
        refine rng_loop A.length (fun j => ⟨fr (CgF A B j), ChH 0 1001 A B j⟩) (fun _ => True) ((weak_own 12 (0, 1001) 1 (by simp (config := { maxSteps := 500000 }) only [↓vp, vv, implies_true, forall_const, undef, InI, ↓reduceIte, simprocAttr, ]) (by simp (config := { maxSteps := 500000 }) only [↓vp, vv, implies_true, forall_const, undef, InI, ↓reduceIte, simprocAttr, ])).trans ((weak_own 13 (0, 6001) 1 (by simp (config := { maxSteps := 500000 }) only [↓vp, vv, implies_true, forall_const, undef, InI, ↓reduceIte, simprocAttr, ]) (by simp (config := { maxSteps := 500000 }) only [↓vp, vv, implies_true, forall_const, undef, InI, ↓reduceIte, simprocAttr, ])).trans (weak_eq [] [(0, 1001), (0, 6001)] (CgF A B 0) (by simp (config := { maxSteps := 500000 }) only [↓vp, vv, implies_true, forall_const, undef, InI, ↓reduceIte, simprocAttr, coverS, CgF, ChH, dif, nRow, List.range_zero, List.filter_nil]) (by simp (config := { maxSteps := 500000 }) only [↓vp, vv, implies_true, forall_const, undef, InI, ↓reduceIte, simprocAttr, refsF, CgF, ChH, dif, nRow, List.range_zero, List.filter_nil]) (by simp (config := { maxSteps := 500000 }) only [↓vp, vv, implies_true, forall_const, undef, InI, ↓reduceIte, simprocAttr, CgF, ChH, dif, nRow, List.range_zero, List.filter_nil]) (by simp) (by simp (config := { maxSteps := 500000 }) only [↓vp, vv, implies_true, forall_const, undef, InI, ↓reduceIte, simprocAttr, CgF, ChH, dif, nRow, List.range_zero, List.filter_nil]; try rfl)))) trivial (fun j hj _ => ?_) (fun _ => ?_)
        · have hj' : (j : Int) < A.length := by omega
          have hjB : (j : Int) < B.length := by omega
          have hjn := idx_nn j
          have w1 := idx_next (j := j) (by omega)
          have hjb : j < B.length := by omega
          have hgA := bRow_g A j hj
          have hgB := bRow_g B j hjb
          have d1 := dif_succ A B j
          have d2 := dif_succ B A j
          have l1 := dif_le A B j
          have l2 := dif_le B A j
          have eA : A.getD j false = A[j] := by rw [List.getD_eq_getElem?_getD, List.getElem?_eq_getElem hj]; rfl
          have eB : B.getD j false = B[j] := by rw [List.getD_eq_getElem?_getD, List.getElem?_eq_getElem hjb]; rfl
          rw [eA, eB] at d1 d2
          generalize A[j] = u at hgA d1 d2
          generalize B[j] = v at hgB d1 d2
          have y1 : ((dif A B j).length + 1) * 8 ≤ 140737488355328 := by omega
          have y2 : (dif A B j).length + 1 ≤ 4611686018427387904 := by omega
          have y3 : ((dif B A j).length + 1) * 8 ≤ 140737488355328 := by omega
          have y4 : (dif B A j).length + 1 ≤ 4611686018427387904 := by omega
          cases u <;> cases v <;> simp only [Bool.not_true, Bool.not_false, Bool.and_self, Bool.and_true, Bool.and_false, Bool.false_and, Bool.true_and, if_true, if_false, Bool.false_eq_true] at d1 d2 <;> (simp (config := { maxSteps := 500000 }) only [↓vp, vv, implies_true, forall_const, undef, InI, ↓reduceIte, simprocAttr, c112_4, c112_3, c112_2, c112_1, CgF, ChH, hj', hjB, hjn, Int.toNat_natCast, hgA, hgB, w1, y1, y2, y3, y4, nRow]; exact rng_next hj (weak_eq [] [(0, 1001), (0, 6001)] (CgF A B (j + 1)) (by simp (config := { maxSteps := 500000 }) only [↓vp, vv, implies_true, forall_const, undef, InI, ↓reduceIte, simprocAttr, coverS, CgF, ChH, nRow, w1, d1, d2, List.map_append, List.map_cons, List.map_nil, List.length_append, List.length_cons, List.length_nil]) (by simp (config := { maxSteps := 500000 }) only [↓vp, vv, implies_true, forall_const, undef, InI, ↓reduceIte, simprocAttr, refsF, CgF, ChH, nRow, w1, d1, d2, List.map_append, List.map_cons, List.map_nil, List.length_append, List.length_cons, List.length_nil]) (by simp (config := { maxSteps := 500000 }) only [↓vp, vv, implies_true, forall_const, undef, InI, ↓reduceIte, simprocAttr, CgF, ChH, nRow, w1, d1, d2, List.map_append, List.map_cons, List.map_nil, List.length_append, List.length_cons, List.length_nil]) (by simp) (by simp (config := { maxSteps := 500000 }) only [↓vp, vv, implies_true, forall_const, undef, InI, ↓reduceIte, simprocAttr, CgF, ChH, nRow, w1, d1, d2, List.map_append, List.map_cons, List.map_nil, List.length_append, List.length_cons, List.length_nil]; try rfl)) trivial)
        · have t1 : ∀ Z : List Nat, (Z.map nRow).take Z.length = Z.map nRow := fun Z => List.take_of_length_le (by simp)
          have pl := nRow_plT
          simp (config := { maxSteps := 500000 }) only [↓vp, vv, implies_true, forall_const, undef, InI, ↓reduceIte, simprocAttr, c112_4, c112_5, r112, CgF, ChH, t1, pl, Int.lt_irrefl, Pu]
end Go.Proofs.Ytkjibmfggeibjaa
/- Lineups of valves. -/
namespace Go.Proofs.Ytkjibmfggeibjaa
open Go
set_option linter.unusedVariables false
set_option linter.unusedSimpArgs false
set_option maxRecDepth 100000

structure Vlv where
  tr : Int
  op : Int
  wa : Bool
  st : Bool
def Vlv.row (v : Vlv) : List D := [di v.tr, di v.op, db v.wa, db v.st]
def vlvOf1 : List D → Option Vlv
  | [.v (.int .i64 a), .v (.int .i64 b), .v (.bool c), .v (.bool d)] => some ⟨a, b, c, d⟩
  | _ => Option.none
theorem vlvOf1_row (v : Vlv) : vlvOf1 v.row = some v := rfl
theorem vlvOf1_eq {r : List D} {v : Vlv} (e : vlvOf1 r = some v) : r = v.row := by
  unfold vlvOf1 at e
  split at e
  · cases e; rfl
  · cases e
def vlvB (v : Vlv) : Bool := if decide (1 ≤ v.tr) = true then (if decide (v.tr ≤ 60) = true then (if decide (0 ≤ v.op) = true then decide (v.op ≤ v.tr) else false) else false) else false
def vopB (v : Vlv) : Bool := if vlvB v = true then v.op == v.tr else false
theorem vvalid_c (v : Vlv) (nn : Nm) : CallsA Try.prog 166 [.agg v.row] Hp.none nn (Pu (db (vlvB v)) Hp.none) := by
  obtain ⟨code, h1, h2⟩ := c166_ok
  refine callsA_of (T0_ok _) mixed (N := fun t => (0, t)) Try.func166 h1 h2 r166_ok [] false js_nil js_nil' (by simp [Try.f166]) ?_
  unfold vlvB
  cases c1 : decide (1 ≤ v.tr) <;> cases c2 : decide (v.tr ≤ 60) <;> cases c3 : decide (0 ≤ v.op) <;> simp (config := { maxSteps := 500000 }) only [↓vp, vv, implies_true, forall_const, undef, InI, ↓reduceIte, simprocAttr, c166, r166, r166, Vlv.row, c1, c2, c3, Pu]
theorem rvvalid_c (v : Vlv) (nn : Nm) : CallsA Try.prog 197 [.agg v.row] Hp.none nn (Pu (db (vlvB v)) Hp.none) := by
  obtain ⟨code, h1, h2⟩ := c197_ok
  refine callsA_of (T0_ok _) mixed (N := fun t => (0, t)) Try.func197 h1 h2 r197_ok [] false js_nil js_nil' (by simp [Try.f197]) ?_
  unfold vlvB
  cases c1 : decide (1 ≤ v.tr) <;> cases c2 : decide (v.tr ≤ 60) <;> cases c3 : decide (0 ≤ v.op) <;> simp (config := { maxSteps := 500000 }) only [↓vp, vv, implies_true, forall_const, undef, InI, ↓reduceIte, simprocAttr, c197, r197, r197, Vlv.row, c1, c2, c3, Pu]
def selVl (out : Vlv → D) : List D → Option (Prop × D)
  | [.agg a] => match vlvOf1 a with
    | some v => some (True, out v)
    | Option.none => Option.none
  | _ => Option.none
theorem tc_vl {f : FuncId} {T : Tbl} {out : Vlv → D} (hf : fnOk Try.prog f = true) (h : ∀ v nn, CallsA Try.prog f [.agg (Vlv.row v)] Hp.none nn (Pu (out v) Hp.none)) (hT : TblOk Try.prog T) : TblOk Try.prog (tc f (rowPu (selVl out)) T) :=
  tc_pu hf (fun args pre d hs hp nn => by
    unfold selVl at hs
    split at hs
    · split at hs
      · rename_i e
        cases hs
        rw [vlvOf1_eq e]
        exact h _ nn
      · cases hs
    · cases hs) hT
theorem vopen_c (v : Vlv) (nn : Nm) : CallsA Try.prog 167 [.agg v.row] Hp.none nn (Pu (db (vopB v)) Hp.none) := by
  obtain ⟨code, h1, h2⟩ := c167_ok
  refine callsA_of (tc_vl f166_ok vvalid_c (T0_ok _)) mixed (N := fun t => (0, t)) Try.func167 h1 h2 r167_ok [] false js_nil js_nil' (by simp [Try.f167]) ?_
  unfold vopB
  have e : vlvOf1 [di v.tr, di v.op, db v.wa, db v.st] = some v := rfl
  cases c1 : vlvB v <;> simp (config := { maxSteps := 500000 }) only [↓vp, vv, implies_true, forall_const, undef, InI, ↓reduceIte, simprocAttr, c167, r167, r167, selVl, Vlv.row, e, c1, Pu]
theorem rvopen_c (v : Vlv) (nn : Nm) : CallsA Try.prog 169 [.agg v.row] Hp.none nn (Pu (db (vopB v)) Hp.none) := by
  obtain ⟨code, h1, h2⟩ := c169_ok
  refine callsA_of (tc_vl f197_ok rvvalid_c (T0_ok _)) mixed (N := fun t => (0, t)) Try.func169 h1 h2 r169_ok [] false js_nil js_nil' (by simp [Try.f169]) ?_
  unfold vopB
  have e : vlvOf1 [di v.tr, di v.op, db v.wa, db v.st] = some v := rfl
  cases c1 : vlvB v <;> simp (config := { maxSteps := 500000 }) only [↓vp, vv, implies_true, forall_const, undef, InI, ↓reduceIte, simprocAttr, c169, r169, r169, selVl, Vlv.row, e, c1, Pu]
def cntI (n : Net) : Int := (n.segs.length : Int) + n.ports.length
theorem count_c (n : Net) (hz : NetSz n) (nn : Nm) : CallsA Try.prog 165 [n.enc] Hp.none nn (Pu (di (cntI n)) Hp.none) := by
  obtain ⟨code, h1, h2⟩ := c165_ok
  refine callsA_of (T0_ok _) mixed (N := fun t => (0, t)) Try.func165 h1 h2 r165_ok [] false js_nil js_nil' (by simp [Try.f165]) ?_
  have a := hz.segs
  have b := hz.ports
  have w : IntKind.i64.wrap ((n.segs.length : Int) + n.ports.length) = (n.segs.length : Int) + n.ports.length := wrap_i (by omega)
  simp (config := { maxSteps := 500000 }) only [↓vp, vv, implies_true, forall_const, undef, InI, ↓reduceIte, simprocAttr, c165, r165, r165, Net.enc, netD, w, cntI, Pu]
theorem numb24_c (n : Net) (hz : NetSz n) (nn : Nm) : CallsA Try.prog 44 [n.enc] Hp.none nn (Pu (di (cntI n)) Hp.none) := by
  obtain ⟨code, h1, h2⟩ := c44_ok
  refine callsA_of (T0_ok _) mixed (N := fun t => (0, t)) Try.func44 h1 h2 r44_ok [] false js_nil js_nil' (by simp [Try.f44]) ?_
  have a := hz.segs
  have b := hz.ports
  have w : IntKind.i64.wrap ((n.segs.length : Int) + n.ports.length) = (n.segs.length : Int) + n.ports.length := wrap_i (by omega)
  simp (config := { maxSteps := 500000 }) only [↓vp, vv, implies_true, forall_const, undef, InI, ↓reduceIte, simprocAttr, c44, r44, r44, Net.enc, netD, w, cntI, Pu]
def valI (n : Net) (l : List Vlv) : Int := if ((l.length : Int) != cntI n) = true then 20 else if l.all vlvB = true then 0 else 20
def ofI (n : Net) (l : List Vlv) : Int := if checkI n ≠ 0 then checkI n else valI n l
def ofL (n : Net) (l : List Vlv) : Lnp := ⟨(l.take n.segs.length).map vopB, (l.drop n.segs.length).map vopB⟩
def ofD (n : Net) (l : List Vlv) : D := if ofI n l = 0 then .tup [(ofL n l).enc, di 0] else .tup [(⟨[], []⟩ : Lnp).enc, di (ofI n l)]
structure OfPre (n : Net) (l : List Vlv) : Prop where
  z : NetSz n
  l : l.length ≤ 1000000
theorem vlv_g (o : List Vlv) (j : Nat) (h : j < o.length) : (o.map Vlv.row).getD j [] = o[j].row := getD_map Vlv.row o j h
theorem all_drop {α : Type} {f : α → Bool} {l : List α} {j : Nat} (h : j < l.length) : (l.drop j).all f = (f l[j] && (l.drop (j + 1)).all f) := by
  rw [List.drop_eq_getElem_cons h, List.all_cons]
def TVv : Tbl := tc 44 (rowPu (selNet fun n => di (cntI n))) (tc 197 (rowPu (selVl fun v => db (vlvB v))) T0)
theorem TVv_ok : TblOk Try.prog TVv := tc_netf f44_ok (fun n hz nn => numb24_c n hz nn) (tc_vl f197_ok rvvalid_c (T0_ok _))
set_option maxHeartbeats 8000000 in
theorem valves24_c (n : Net) (l : List Vlv) (h : OfPre n l) (nn : Nm) : CallsA Try.prog 168 [n.enc, .sl (l.map Vlv.row)] Hp.none nn (Pu (di (valI n l)) Hp.none) := by
  obtain ⟨code, h1, h2⟩ := c168_ok
  refine callsA_of TVv_ok mixed (N := fun t => (0, t)) Try.func168 h1 h2 r168_ok [] false js_nil js_nil' (by simp [Try.f168]) ?_
  have hn1 : netOf1 [D.sl (n.nodes.map nmRow), .sl (n.segs.map Seg.row), .sl (n.ports.map Port.row), .sl (n.sts.map Stn.row), di n.vap, di n.set] = some n := netOf1_row n
  have hz := h.z
  have hl := h.l
  unfold valI
  cases c1 : ((l.length : Int) != cntI n) with
  | true =>
    rw [if_pos rfl]
    simp (config := { maxSteps := 500000 }) only [↓vp, vv, implies_true, forall_const, undef, InI, ↓reduceIte, simprocAttr, c168, r168, TVv, selNet, Net.enc, netD, hn1, hz, c1, Pu]
  | false =>
    rw [if_neg Bool.false_ne_true]
    generalize hb : l.all vlvB = b
    simp (config := { maxSteps := 500000 }) only [↓vp, vv, implies_true, forall_const, undef, InI, ↓reduceIte, simprocAttr, c168, c168_5, TVv, selNet, Net.enc, netD, hn1, hz, c1]
    refine rng_loop l.length (fun j => ⟨fr [(1, .sl (l.map Vlv.row)), (5, di (j : Nat))], Hp.none⟩) (fun j => (l.drop j).all vlvB = b) (weak_eq [] [] [(1, .sl (l.map Vlv.row)), (5, di 0)] (by simp (config := { maxSteps := 500000 }) only [↓vp, vv, implies_true, forall_const, undef, InI, ↓reduceIte, simprocAttr, coverS]) (by simp (config := { maxSteps := 500000 }) only [↓vp, vv, implies_true, forall_const, undef, InI, ↓reduceIte, simprocAttr, refsF]) (by simp (config := { maxSteps := 500000 }) only [↓vp, vv, implies_true, forall_const, undef, InI, ↓reduceIte, simprocAttr, ]) (by simp) (by simp (config := { maxSteps := 500000 }) only [↓vp, vv, implies_true, forall_const, undef, InI, ↓reduceIte, simprocAttr, ]; try rfl)) hb (fun j hj hP => ?_) (fun hP => ?_)
    · have hj' : (j : Int) < l.length := by omega
      have hjn := idx_nn j
      have w1 := idx_next (j := j) (by omega)
      have g := vlv_g l j hj
      rw [all_drop hj] at hP
      generalize l[j] = v at g hP
      have e : vlvOf1 [di v.tr, di v.op, db v.wa, db v.st] = some v := rfl
      cases c2 : vlvB v with
      | false =>
        rw [c2, Bool.false_and] at hP
        rw [← hP, if_neg Bool.false_ne_true]
        simp (config := { maxSteps := 500000 }) only [↓vp, vv, implies_true, forall_const, undef, InI, ↓reduceIte, simprocAttr, c168_3, c168_2, r168, TVv, selVl, hj', hjn, g, Vlv.row, e, c2, Int.toNat_natCast, Pu]
      | true =>
        rw [c2, Bool.true_and] at hP
        simp (config := { maxSteps := 500000 }) only [↓vp, vv, implies_true, forall_const, undef, InI, ↓reduceIte, simprocAttr, c168_3, c168_2, c168_1, TVv, selVl, hj', hjn, g, Vlv.row, e, c2, w1, Int.toNat_natCast]
        exact rng_next hj (weak_eq [] [] [(1, .sl (l.map Vlv.row)), (5, di (j + 1 : Nat))] (by simp (config := { maxSteps := 500000 }) only [↓vp, vv, implies_true, forall_const, undef, InI, ↓reduceIte, simprocAttr, coverS, w1]) (by simp (config := { maxSteps := 500000 }) only [↓vp, vv, implies_true, forall_const, undef, InI, ↓reduceIte, simprocAttr, refsF]) (by simp (config := { maxSteps := 500000 }) only [↓vp, vv, implies_true, forall_const, undef, InI, ↓reduceIte, simprocAttr, ]) (by simp) (by simp (config := { maxSteps := 500000 }) only [↓vp, vv, implies_true, forall_const, undef, InI, ↓reduceIte, simprocAttr, ]; try rfl)) hP
    · rw [List.drop_of_length_le (Nat.le_refl _)] at hP
      have hP2 : b = true := hP.symm
      rw [hP2, if_pos rfl]
      simp (config := { maxSteps := 500000 }) only [↓vp, vv, implies_true, forall_const, undef, InI, ↓reduceIte, simprocAttr, c168_3, c168_4, r168, Int.lt_irrefl, Pu]
end Go.Proofs.Ytkjibmfggeibjaa
/- Lineups of valves: Of, of both. -/
namespace Go.Proofs.Ytkjibmfggeibjaa
open Go
set_option linter.unusedVariables false
set_option linter.unusedSimpArgs false
set_option maxRecDepth 100000

theorem bRow_plT : ∀ A : List Bool, (∀ j ∈ A, ∀ d ∈ bRow j, d.plain = true) = True := fun A => eq_true fun _ _ d hd => by rw [List.mem_singleton.1 hd]; rfl
def OfF (j : Nat) (l : List Vlv) (r : List (Nat × D)) : List (Nat × D) := (2, .ptr (0, 2) 0 0 0) :: (4, .ptr (0, 4) 0 0 0) :: (7, .own (0, 1000) j 0 j) :: (23, .sl (l.map Vlv.row)) :: (24, di l.length) :: r
def OfH (n : Net) (l : List Vlv) (j : Nat) : Hp := ((Hp.none.put (0, 1000) ⟨j, 1, ((l.take j).map vopB).map bRow⟩).put (0, 4) ⟨0, 2, [[.mt, .mt]]⟩).put (0, 2) ⟨0, 6, [netD n]⟩
def TOf : Tbl := tc 74 (rowPu (selNet fun n => di (checkI n))) (tc 165 (rowPu (selNet fun n => di (cntI n))) (tc 166 (rowPu (selVl fun v => db (vlvB v))) (tc 167 (rowPu (selVl fun v => db (vopB v))) T0)))
theorem TOf_ok : TblOk Try.prog TOf := tc_netf f74_ok (fun n hz nn => check_c n hz nn) (tc_netf f165_ok (fun n hz nn => count_c n hz nn) (tc_vl f166_ok vvalid_c (tc_vl f167_ok vopen_c (T0_ok _))))
theorem of_cases (n : Net) (l : List Vlv) : (checkI n ≠ 0 ∧ ofI n l = checkI n) ∨ (checkI n = 0 ∧ ofI n l = valI n l) := by
  unfold ofI
  by_cases h : checkI n = 0
  · exact .inr ⟨h, if_neg (by omega)⟩
  · exact .inl ⟨h, if_pos h⟩
set_option maxHeartbeats 16000000 in
theorem of_p (n : Net) (l : List Vlv) (h : OfPre n l) (nn : Nm) : CallsA Try.prog 105 [n.enc, .sl (l.map Vlv.row)] Hp.none nn (Pu (ofD n l) Hp.none) := by
  obtain ⟨code, h1, h2⟩ := c105_ok
  refine callsA_of TOf_ok mixed (N := fun t => (0, t)) Try.func105 h1 h2 r105_ok [] false js_nil js_nil' (by simp [Try.f105]) ?_
  have hn1 : netOf1 [D.sl (n.nodes.map nmRow), .sl (n.segs.map Seg.row), .sl (n.ports.map Port.row), .sl (n.sts.map Stn.row), di n.vap, di n.set] = some n := netOf1_row n
  have hz := h.z
  have hl := h.l
  unfold ofD
  rcases of_cases n l with ⟨a1, a2⟩ | ⟨a1, a2⟩
  · have c0 : (checkI n != 0) = true := by simp [a1]
    rw [a2, if_neg a1]
    simp (config := { maxSteps := 500000 }) only [↓vp, vv, implies_true, forall_const, undef, InI, ↓reduceIte, simprocAttr, c105, r105, TOf, selNet, Net.enc, netD, Lnp.enc, lnpD, hn1, hz, c0, List.map_nil, Pu]
  · rw [a2]
    unfold valI
    cases c1 : ((l.length : Int) != cntI n) with
    | true =>
      rw [if_pos rfl, if_neg (by omega)]
      simp (config := { maxSteps := 500000 }) only [↓vp, vv, implies_true, forall_const, undef, InI, ↓reduceIte, simprocAttr, c105, c105_7, r105, TOf, selNet, Net.enc, netD, Lnp.enc, lnpD, hn1, hz, a1, bne_self_eq_false, c1, List.map_nil, Pu]
    | false =>
      rw [if_neg Bool.false_ne_true]
      have hlen : (l.length : Int) = (n.segs.length : Int) + n.ports.length := by
        have h9 : (l.length : Int) = cntI n := by simpa using c1
        exact h9
      generalize hb : l.all vlvB = b
      simp (config := { maxSteps := 500000 }) only [↓vp, vv, implies_true, forall_const, undef, InI, ↓reduceIte, simprocAttr, c105, c105_7, c105_6, TOf, selNet, Net.enc, netD, hn1, hz, a1, bne_self_eq_false, c1]
      refine rng_loop l.length (fun j => ⟨fr (OfF j l [(25, di (j : Nat))]), OfH n l j⟩) (fun j => (l.drop j).all vlvB = b) ((weak_own 7 (0, 1000) 1 (by simp (config := { maxSteps := 500000 }) only [↓vp, vv, implies_true, forall_const, undef, InI, ↓reduceIte, simprocAttr, ]) (by simp (config := { maxSteps := 500000 }) only [↓vp, vv, implies_true, forall_const, undef, InI, ↓reduceIte, simprocAttr, ])).trans (weak_eq [] [(0, 2), (0, 4), (0, 1000)] (OfF 0 l [(25, di 0)]) (by simp (config := { maxSteps := 500000 }) only [↓vp, vv, implies_true, forall_const, undef, InI, ↓reduceIte, simprocAttr, coverS, OfF, OfH, netD, bRow, List.take_zero, List.map_nil]) (by simp (config := { maxSteps := 500000 }) only [↓vp, vv, implies_true, forall_const, undef, InI, ↓reduceIte, simprocAttr, refsF, OfF, OfH, netD, bRow, List.take_zero, List.map_nil]) (by simp (config := { maxSteps := 500000 }) only [↓vp, vv, implies_true, forall_const, undef, InI, ↓reduceIte, simprocAttr, OfF, OfH, netD, bRow, List.take_zero, List.map_nil]) (by simp) (by simp (config := { maxSteps := 500000 }) only [↓vp, vv, implies_true, forall_const, undef, InI, ↓reduceIte, simprocAttr, OfF, OfH, netD, bRow, List.take_zero, List.map_nil]; try rfl))) hb (fun j hj hP => ?_) (fun hP => ?_)
      · have hj' : (j : Int) < l.length := by omega
        have hjn := idx_nn j
        have w1 := idx_next (j := j) (by omega)
        have g := vlv_g l j hj
        have ht := List.take_append_getElem hj
        have htl : (l.take j).length = j := by rw [List.length_take]; omega
        rw [all_drop hj] at hP
        generalize l[j] = v at g hP ht
        have e : vlvOf1 [di v.tr, di v.op, db v.wa, db v.st] = some v := rfl
        cases c2 : vlvB v with
        | false =>
          rw [c2, Bool.false_and] at hP
          rw [← hP, if_neg Bool.false_ne_true, if_neg (by omega)]
          simp (config := { maxSteps := 500000 }) only [↓vp, vv, implies_true, forall_const, undef, InI, ↓reduceIte, simprocAttr, c105_4, c105_3, r105, TOf, selVl, OfF, OfH, netD, Lnp.enc, lnpD, hj', hjn, g, Vlv.row, e, c2, Int.toNat_natCast, List.map_nil, Pu]
        | true =>
          rw [c2, Bool.true_and] at hP
          have y1 : (j + 1) * 1 ≤ 140737488355328 := by omega
          have y2 : j + 1 ≤ 4611686018427387904 := by omega
          simp (config := { maxSteps := 500000 }) only [↓vp, vv, implies_true, forall_const, undef, InI, ↓reduceIte, simprocAttr, c105_4, c105_3, c105_2, c105_1, TOf, selVl, OfF, OfH, netD, hj', hjn, g, Vlv.row, e, c2, w1, y1, y2, htl, Int.toNat_natCast]
          exact rng_next hj (weak_eq [] [(0, 2), (0, 4), (0, 1000)] (OfF (j + 1) l [(25, di (j + 1 : Nat))]) (by simp (config := { maxSteps := 500000 }) only [↓vp, vv, implies_true, forall_const, undef, InI, ↓reduceIte, simprocAttr, coverS, OfF, OfH, netD, bRow, w1, ← ht, List.map_append, List.map_cons, List.map_nil]) (by simp (config := { maxSteps := 500000 }) only [↓vp, vv, implies_true, forall_const, undef, InI, ↓reduceIte, simprocAttr, refsF, OfF, OfH, netD, bRow, w1, ← ht, List.map_append, List.map_cons, List.map_nil]) (by simp (config := { maxSteps := 500000 }) only [↓vp, vv, implies_true, forall_const, undef, InI, ↓reduceIte, simprocAttr, OfF, OfH, netD, bRow, w1, ← ht, List.map_append, List.map_cons, List.map_nil]) (by simp) (by simp (config := { maxSteps := 500000 }) only [↓vp, vv, implies_true, forall_const, undef, InI, ↓reduceIte, simprocAttr, OfF, OfH, netD, bRow, w1, ← ht, List.map_append, List.map_cons, List.map_nil]; try rfl)) hP
      · rw [List.drop_of_length_le (Nat.le_refl _)] at hP
        have hP2 : b = true := hP.symm
        rw [hP2, if_pos rfl, if_pos rfl]
        have k1 : n.segs.length ≤ l.length := by omega
        have k2 : (n.segs.length : Int) ≤ l.length := by omega
        have k3 := idx_nn n.segs.length
        have t1 : (((l.map vopB).map bRow)).take n.segs.length = ((l.take n.segs.length).map vopB).map bRow := by rw [List.map_take, List.map_take]
        have t2 : (((l.map vopB).map bRow).drop n.segs.length).take (l.length - n.segs.length) = ((l.drop n.segs.length).map vopB).map bRow := by
          rw [List.take_of_length_le (by simp), List.map_drop, List.map_drop]
        have pX := bRow_plT
        have hlm : ((l.map vopB).map bRow).length = l.length := by simp
        unfold ofL
        simp (config := { maxSteps := 500000 }) only [↓vp, vv, implies_true, forall_const, undef, InI, ↓reduceIte, simprocAttr, c105_4, c105_5, r105, OfF, OfH, netD, Lnp.enc, lnpD, List.take_length, k1, k2, k3, t1, t2, pX, hlm, Int.lt_irrefl, Int.toNat_natCast, Nat.sub_zero, Nat.zero_add, List.drop_zero, Pu]
        exact ⟨fun j _ d hd => (by rw [List.mem_singleton.1 hd]; rfl), fun j _ d hd => (by rw [List.mem_singleton.1 hd]; rfl), by omega⟩
def selOf (out : Net → List Vlv → D) : List D → Option (Prop × D)
  | [.agg a, .sl rows] => match netOf1 a, lsOf vlvOf1 rows with
    | some n, some l => some (OfPre n l, out n l)
    | _, _ => Option.none
  | _ => Option.none
theorem tc_of {f : FuncId} {T : Tbl} {out : Net → List Vlv → D} (hf : fnOk Try.prog f = true) (h : ∀ n l, OfPre n l → ∀ nn, CallsA Try.prog f [n.enc, .sl (l.map Vlv.row)] Hp.none nn (Pu (out n l) Hp.none)) (hT : TblOk Try.prog T) : TblOk Try.prog (tc f (rowPu (selOf out)) T) :=
  tc_pu hf (fun args pre d hs hp nn => by
    unfold selOf at hs
    split at hs
    · split at hs
      · rename_i e1 e2
        cases hs
        rw [netOf1_eq e1, lsOf_eq (fun r x => vlvOf1_eq) e2]
        exact h _ _ hp nn
      · cases hs
    · cases hs) hT
def ofA (l : List Vlv) (k j : Nat) : List Bool := ((l.take j).take k).map vopB
def ofB (l : List Vlv) (k j : Nat) : List Bool := ((l.take j).drop k).map vopB
theorem ofA_lt {l : List Vlv} {k j : Nat} (h : j < l.length) (hk : j < k) : ofA l k (j + 1) = ofA l k j ++ [vopB l[j]] := by
  unfold ofA
  have e1 : (l.take (j + 1)).take k = l.take (j + 1) := List.take_of_length_le (by rw [List.length_take]; omega)
  have e2 : (l.take j).take k = l.take j := List.take_of_length_le (by rw [List.length_take]; omega)
  rw [e1, e2, ← List.take_append_getElem h, List.map_append]
  rfl
theorem ofA_ge {l : List Vlv} {k j : Nat} (hk : k ≤ j) : ofA l k (j + 1) = ofA l k j := by
  unfold ofA
  rw [List.take_take, List.take_take, Nat.min_eq_left (by omega), Nat.min_eq_left (by omega)]
theorem ofB_lt {l : List Vlv} {k j : Nat} (hk : j < k) : ofB l k (j + 1) = ofB l k j := by
  unfold ofB
  have e1 : (l.take (j + 1)).drop k = [] := List.drop_of_length_le (by rw [List.length_take]; omega)
  have e2 : (l.take j).drop k = [] := List.drop_of_length_le (by rw [List.length_take]; omega)
  rw [e1, e2]
theorem ofB_ge {l : List Vlv} {k j : Nat} (h : j < l.length) (hk : k ≤ j) : ofB l k (j + 1) = ofB l k j ++ [vopB l[j]] := by
  unfold ofB
  rw [← List.take_append_getElem h, List.drop_append_of_le_length (by rw [List.length_take]; omega), List.map_append]
  rfl
theorem ofA_le (l : List Vlv) (k j : Nat) : (ofA l k j).length ≤ j := by
  unfold ofA
  rw [List.length_map, List.length_take, List.length_take]
  omega
theorem ofB_le (l : List Vlv) (k j : Nat) : (ofB l k j).length ≤ j := by
  unfold ofB
  rw [List.length_map, List.length_drop, List.length_take]
  omega
def TOg : Tbl := tc 99 (rowPu (selNet fun n => di (checkI n))) (tc 168 (rowPu (selOf fun n l => di (valI n l))) (tc 169 (rowPu (selVl fun v => db (vopB v))) T0))
theorem TOg_ok : TblOk Try.prog TOg := tc_netf f99_ok (fun n hz nn => rcheck_c n hz nn) (tc_of f168_ok (fun n l h nn => valves24_c n l h nn) (tc_vl f169_ok rvopen_c (T0_ok _)))
def OgF (l : List Vlv) (r : List (Nat × D)) : List (Nat × D) := (1, .sl (l.map Vlv.row)) :: (2, .ptr (0, 2) 0 0 0) :: (4, .ptr (0, 4) 0 0 0) :: (8, .ptr (0, 8) 0 0 0) :: r
def OgH (n : Net) (A B : List Bool) : Hp := ((((Hp.none.put (0, 1002) ⟨B.length, 1, B.map bRow⟩).put (0, 1001) ⟨A.length, 1, A.map bRow⟩).put (0, 8) ⟨0, 2, [[.own (0, 1001) A.length 0 A.length, .own (0, 1002) B.length 0 B.length]]⟩).put (0, 4) ⟨0, 2, [[.mt, .mt]]⟩).put (0, 2) ⟨0, 6, [netD n]⟩
set_option maxHeartbeats 16000000 in
theorem of24_c (n : Net) (l : List Vlv) (h : OfPre n l) (nn : Nm) : CallsA Try.prog 106 [n.enc, .sl (l.map Vlv.row)] Hp.none nn (Pu (ofD n l) Hp.none) := by
  obtain ⟨code, h1, h2⟩ := c106_ok
  refine callsA_of TOg_ok mixed (N := fun t => (0, t)) Try.func106 h1 h2 r106_ok [] false js_nil js_nil' (by simp [Try.f106]) ?_
  have hn1 : netOf1 [D.sl (n.nodes.map nmRow), .sl (n.segs.map Seg.row), .sl (n.ports.map Port.row), .sl (n.sts.map Stn.row), di n.vap, di n.set] = some n := netOf1_row n
  have hv1 : lsOf vlvOf1 (l.map Vlv.row) = some l := lsOf_map vlvOf1_row l
  have hz := h.z
  have hl := h.l
  unfold ofD
  rcases of_cases n l with ⟨a1, a2⟩ | ⟨a1, a2⟩
  · have c0 : (checkI n != 0) = true := by simp [a1]
    rw [a2, if_neg a1]
    simp (config := { maxSteps := 500000 }) only [↓vp, vv, implies_true, forall_const, undef, InI, ↓reduceIte, simprocAttr, c106, r106, TOg, selNet, Net.enc, netD, Lnp.enc, lnpD, hn1, hz, c0, List.map_nil, Pu]
  · rw [a2]
    cases c1 : (valI n l != 0) with
    | true =>
      have c1' : ¬ valI n l = 0 := by simpa using c1
      rw [if_neg c1']
      simp (config := { maxSteps := 500000 }) only [↓vp, vv, implies_true, forall_const, undef, InI, ↓reduceIte, simprocAttr, c106, c106_6, r106, TOg, selNet, selOf, Net.enc, netD, Lnp.enc, lnpD, hn1, hv1, hz, h, a1, bne_self_eq_false, c1, List.map_nil, Pu]
    | false =>
      have c1' : valI n l = 0 := by simpa using c1
      rw [if_pos c1']
      simp (config := { maxSteps := 500000 }) only [↓vp, vv, implies_true, forall_const, undef, InI, ↓reduceIte, simprocAttr, c106, c106_6, c106_5, TOg, selNet, selOf, Net.enc, netD, hn1, hv1, hz, h, a1, bne_self_eq_false, c1']
      refine rng_loop l.length (fun j => ⟨fr (OgF l [(9, di (j : Nat))]), OgH n (ofA l n.segs.length j) (ofB l n.segs.length j)⟩) (fun _ => True) ((weak_ownC (0, 8) 0 2 [] [.mt] (0, 1001) 1 (by simp (config := { maxSteps := 500000 }) only [↓vp, vv, implies_true, forall_const, undef, InI, ↓reduceIte, simprocAttr, ]) (by simp (config := { maxSteps := 500000 }) only [↓vp, vv, implies_true, forall_const, undef, InI, ↓reduceIte, simprocAttr, ])).trans ((weak_ownC (0, 8) 0 2 [.own (0, 1001) 0 0 0] [] (0, 1002) 1 (by simp (config := { maxSteps := 500000 }) only [↓vp, vv, implies_true, forall_const, undef, InI, ↓reduceIte, simprocAttr, ]) (by simp (config := { maxSteps := 500000 }) only [↓vp, vv, implies_true, forall_const, undef, InI, ↓reduceIte, simprocAttr, ])).trans (weak_eq [] [(0, 2), (0, 4), (0, 8), (0, 1001), (0, 1002)] (OgF l [(9, di 0)]) (by simp (config := { maxSteps := 500000 }) only [↓vp, vv, implies_true, forall_const, undef, InI, ↓reduceIte, simprocAttr, coverS, OgF, OgH, netD, ofA, ofB, bRow, List.take_zero, List.take_nil, List.drop_nil, List.map_nil, List.length_nil]) (by simp (config := { maxSteps := 500000 }) only [↓vp, vv, implies_true, forall_const, undef, InI, ↓reduceIte, simprocAttr, refsF, OgF, OgH, netD, ofA, ofB, bRow, List.take_zero, List.take_nil, List.drop_nil, List.map_nil, List.length_nil]) (by simp (config := { maxSteps := 500000 }) only [↓vp, vv, implies_true, forall_const, undef, InI, ↓reduceIte, simprocAttr, OgF, OgH, netD, ofA, ofB, bRow, List.take_zero, List.take_nil, List.drop_nil, List.map_nil, List.length_nil]) (by simp) (by simp (config := { maxSteps := 500000 }) only [↓vp, vv, implies_true, forall_const, undef, InI, ↓reduceIte, simprocAttr, OgF, OgH, netD, ofA, ofB, bRow, List.take_zero, List.take_nil, List.drop_nil, List.map_nil, List.length_nil]; try rfl)))) trivial (fun j hj _ => ?_) (fun _ => ?_)
      · have hj' : (j : Int) < l.length := by omega
        have hjn := idx_nn j
        have w1 := idx_next (j := j) (by omega)
        have g := vlv_g l j hj
        have lA := ofA_le l n.segs.length j
        have lB := ofB_le l n.segs.length j
        have y1 : ((ofA l n.segs.length j).length + 1) * 1 ≤ 140737488355328 := by omega
        have y2 : (ofA l n.segs.length j).length + 1 ≤ 4611686018427387904 := by omega
        have y3 : ((ofB l n.segs.length j).length + 1) * 1 ≤ 140737488355328 := by omega
        have y4 : (ofB l n.segs.length j).length + 1 ≤ 4611686018427387904 := by omega
        by_cases hk : j < n.segs.length
        · have hk' : (j : Int) < n.segs.length := by omega
          have eA := ofA_lt hj hk
          have eB := ofB_lt (l := l) hk
          generalize l[j] = v at g eA
          have e : vlvOf1 [di v.tr, di v.op, db v.wa, db v.st] = some v := rfl
          simp (config := { maxSteps := 500000 }) only [↓vp, vv, implies_true, forall_const, undef, InI, ↓reduceIte, simprocAttr, c106_3, c106_2, c106_1, TOg, selVl, OgF, OgH, netD, hj', hjn, hk', g, Vlv.row, e, w1, y1, y2, Int.toNat_natCast]
          exact rng_next hj (weak_eq [] [(0, 2), (0, 4), (0, 8), (0, 1001), (0, 1002)] (OgF l [(9, di (j + 1 : Nat))]) (by simp (config := { maxSteps := 500000 }) only [↓vp, vv, implies_true, forall_const, undef, InI, ↓reduceIte, simprocAttr, coverS, OgF, OgH, netD, bRow, w1, eA, eB, List.map_append, List.map_cons, List.map_nil, List.length_append, List.length_cons, List.length_nil]) (by simp (config := { maxSteps := 500000 }) only [↓vp, vv, implies_true, forall_const, undef, InI, ↓reduceIte, simprocAttr, refsF, OgF, OgH, netD, bRow, w1, eA, eB, List.map_append, List.map_cons, List.map_nil, List.length_append, List.length_cons, List.length_nil]) (by simp (config := { maxSteps := 500000 }) only [↓vp, vv, implies_true, forall_const, undef, InI, ↓reduceIte, simprocAttr, OgF, OgH, netD, bRow, w1, eA, eB, List.map_append, List.map_cons, List.map_nil, List.length_append, List.length_cons, List.length_nil]) (by simp) (by simp (config := { maxSteps := 500000 }) only [↓vp, vv, implies_true, forall_const, undef, InI, ↓reduceIte, simprocAttr, OgF, OgH, netD, bRow, w1, eA, eB, List.map_append, List.map_cons, List.map_nil, List.length_append, List.length_cons, List.length_nil]; try rfl)) trivial
        · have hk' : ¬ (j : Int) < n.segs.length := by omega
          have eA := ofA_ge (l := l) (show n.segs.length ≤ j by omega)
          have eB := ofB_ge hj (show n.segs.length ≤ j by omega)
          generalize l[j] = v at g eB
          have e : vlvOf1 [di v.tr, di v.op, db v.wa, db v.st] = some v := rfl
          simp (config := { maxSteps := 500000 }) only [↓vp, vv, implies_true, forall_const, undef, InI, ↓reduceIte, simprocAttr, c106_3, c106_2, c106_1, TOg, selVl, OgF, OgH, netD, hj', hjn, hk', g, Vlv.row, e, w1, y3, y4, Int.toNat_natCast]
          exact rng_next hj (weak_eq [] [(0, 2), (0, 4), (0, 8), (0, 1001), (0, 1002)] (OgF l [(9, di (j + 1 : Nat))]) (by simp (config := { maxSteps := 500000 }) only [↓vp, vv, implies_true, forall_const, undef, InI, ↓reduceIte, simprocAttr, coverS, OgF, OgH, netD, bRow, w1, eA, eB, List.map_append, List.map_cons, List.map_nil, List.length_append, List.length_cons, List.length_nil]) (by simp (config := { maxSteps := 500000 }) only [↓vp, vv, implies_true, forall_const, undef, InI, ↓reduceIte, simprocAttr, refsF, OgF, OgH, netD, bRow, w1, eA, eB, List.map_append, List.map_cons, List.map_nil, List.length_append, List.length_cons, List.length_nil]) (by simp (config := { maxSteps := 500000 }) only [↓vp, vv, implies_true, forall_const, undef, InI, ↓reduceIte, simprocAttr, OgF, OgH, netD, bRow, w1, eA, eB, List.map_append, List.map_cons, List.map_nil, List.length_append, List.length_cons, List.length_nil]) (by simp) (by simp (config := { maxSteps := 500000 }) only [↓vp, vv, implies_true, forall_const, undef, InI, ↓reduceIte, simprocAttr, OgF, OgH, netD, bRow, w1, eA, eB, List.map_append, List.map_cons, List.map_nil, List.length_append, List.length_cons, List.length_nil]; try rfl)) trivial
      · have eA : ofA l n.segs.length l.length = (l.take n.segs.length).map vopB := by unfold ofA; rw [List.take_length]
        have eB : ofB l n.segs.length l.length = (l.drop n.segs.length).map vopB := by unfold ofB; rw [List.take_length]
        have t1 : ∀ Z : List Bool, (Z.map bRow).take Z.length = Z.map bRow := fun Z => List.take_of_length_le (by simp)
        have pX := bRow_plT
        unfold ofL
        rw [← eA, ← eB]
        generalize ofA l n.segs.length l.length = X
        generalize ofB l n.segs.length l.length = Y
        simp (config := { maxSteps := 500000 }) only [↓vp, vv, implies_true, forall_const, undef, InI, ↓reduceIte, simprocAttr, c106_3, c106_4, r106, OgF, OgH, netD, Lnp.enc, lnpD, t1, pX, Int.lt_irrefl, Pu]
end Go.Proofs.Ytkjibmfggeibjaa
/- Lineups: Permits, Shut, comparisons; all of them agree. -/
namespace Go.Proofs.Ytkjibmfggeibjaa
open Go
set_option linter.unusedVariables false
set_option linter.unusedSimpArgs false
set_option maxRecDepth 100000

def PgF (A B : List Bool) (j : Int) : List (Nat × D) := [(11, .sl (A.map bRow)), (12, .sl (B.map bRow)), (13, di j)]
set_option maxHeartbeats 8000000 in
theorem permits24_c (n : Net) (l : Lnp) (p : Pln) (hz : FckPre n p) (hl : LnpSz l) (nn : Nm) : CallsA Try.prog 111 [n.enc, l.enc, p.enc] Hp.none nn (Pu (.tup [db (prmI n l p).1, di (prmI n l p).2]) Hp.none) := by
  obtain ⟨code, h1, h2⟩ := c111_ok
  refine callsA_of TL24c_ok mixed (N := fun t => (0, t)) Try.func111 h1 h2 r111_ok [] false js_nil js_nil' (by simp [Try.f111]) ?_
  have hn1 : netOf1 [D.sl (n.nodes.map nmRow), .sl (n.segs.map Seg.row), .sl (n.ports.map Port.row), .sl (n.sts.map Stn.row), di n.vap, di n.set] = some n := netOf1_row n
  have hp1 : plnOf1 [D.sl (p.rates.map iRow), .sl (p.ports.map iRow), .sl (p.pumps.map bRow)] = some p := plnOf1_row p
  have hl1 : ∀ l : Lnp, lnpOf1 [D.sl (l.segs.map bRow), .sl (l.ports.map bRow)] = some l := lnpOf1_row
  have hz1 := hz.1
  by_cases a1 : checkI n = 0
  · cases a2 : lvB n l with
    | false =>
      have hr : prmI n l p = (false, 9) := by unfold prmI; rw [if_pos a1, a2]; rfl
      simp (config := { maxSteps := 500000 }) only [↓vp, vv, implies_true, forall_const, undef, InI, ↓reduceIte, simprocAttr, c111, r111, c111_1, c111_2, c111_3, c111_4, c111_5, c111_6, c111_7, r111, TL24c, selNet, selNP, selNL, Net.enc, Pln.enc, netD, plnD, Lnp.enc, lnpD, hr, hn1, hp1, hl1, hz, hz1, a1, a2, bne_self_eq_false, Pu]
    | true =>
      by_cases a3 : fckI n p = 0
      · have hr : prmI n l p = (permB (lall (needL p)) (lall l), 0) := by unfold prmI; rw [if_pos a1, a2, if_pos rfl, if_pos a3]
        have hnr : needR n p = needL p := if_pos a3
        have hll := lv_len a2
        have hpl := fck_len a3
        have hns : LnpSz (needL p) := ⟨by have := hz.2.rates; simp [needL]; exact this, by have := hz.2.ports; simp [needL]; exact this⟩
        have hAB : (lall (needL p)).length = (lall l).length := by simp [lall, needL]; omega
        have hAz : (lall l).length ≤ 2000000 := by have a := hl.1; have b := hl.2; simp [lall]; omega
        simp (config := { maxSteps := 500000 }) only [↓vp, vv, implies_true, forall_const, undef, InI, ↓reduceIte, simprocAttr, c111, c111_7, c111_6, c111_5, TL24c, selNet, selNP, selNL, selL, Net.enc, Pln.enc, netD, plnD, Lnp.enc, lnpD, hr, hnr, hn1, hp1, hl1, hz, hz1, hl, hns, a1, a2, a3, bne_self_eq_false]
        generalize lall (needL p) = A at hAB
        generalize lall l = B at hAB hAz
        generalize hb : permB A B = b
        unfold permB at hb
        refine rng_loop A.length (fun j => ⟨fr (PgF A B j), Hp.none⟩) (fun j => ((A.zip B).drop j).all (fun x => if x.1 = true then x.2 else true) = b) (weak_eq [] [] (PgF A B 0) (by simp (config := { maxSteps := 500000 }) only [↓vp, vv, implies_true, forall_const, undef, InI, ↓reduceIte, simprocAttr, coverS, PgF]) (by simp (config := { maxSteps := 500000 }) only [↓vp, vv, implies_true, forall_const, undef, InI, ↓reduceIte, simprocAttr, refsF, PgF]) (by simp (config := { maxSteps := 500000 }) only [↓vp, vv, implies_true, forall_const, undef, InI, ↓reduceIte, simprocAttr, PgF]) (by simp) (by simp (config := { maxSteps := 500000 }) only [↓vp, vv, implies_true, forall_const, undef, InI, ↓reduceIte, simprocAttr, PgF]; try rfl)) hb (fun j hj he => ?_) (fun he => ?_)
        · have hj' : (j : Int) < A.length := by omega
          have hjB : (j : Int) < B.length := by omega
          have hjn := idx_nn j
          have w1 := idx_next (j := j) (by omega)
          have hjb : j < B.length := by omega
          have hjz : j < (A.zip B).length := by rw [List.length_zip]; omega
          obtain ⟨gf, gt⟩ := drop_all hjz he
          have hzz : (A.zip B)[j] = (A[j], B[j]) := List.getElem_zip
          rw [hzz] at gf gt
          have hgA := bRow_g A j hj
          have hgB := bRow_g B j hjb
          generalize A[j] = x at gf gt hgA
          generalize B[j] = y at gf gt hgB
          cases x with
          | false =>
            simp (config := { maxSteps := 500000 }) only [↓vp, vv, implies_true, forall_const, undef, InI, ↓reduceIte, simprocAttr, c111_3, c111_2, c111_1, PgF, hj', hjB, hjn, Int.toNat_natCast, hgA, hgB, w1]
            exact rng_next hj (weak_eq [] [] (PgF A B (j + 1 : Nat)) (by simp (config := { maxSteps := 500000 }) only [↓vp, vv, implies_true, forall_const, undef, InI, ↓reduceIte, simprocAttr, coverS, PgF, w1]) (by simp (config := { maxSteps := 500000 }) only [↓vp, vv, implies_true, forall_const, undef, InI, ↓reduceIte, simprocAttr, refsF, PgF, w1]) (by simp (config := { maxSteps := 500000 }) only [↓vp, vv, implies_true, forall_const, undef, InI, ↓reduceIte, simprocAttr, PgF, w1]) (by simp) (by simp (config := { maxSteps := 500000 }) only [↓vp, vv, implies_true, forall_const, undef, InI, ↓reduceIte, simprocAttr, PgF, w1]; try rfl)) (gt rfl)
          | true =>
            cases y with
            | true =>
              simp (config := { maxSteps := 500000 }) only [↓vp, vv, implies_true, forall_const, undef, InI, ↓reduceIte, simprocAttr, c111_3, c111_2, c111_1, PgF, hj', hjB, hjn, Int.toNat_natCast, hgA, hgB, w1]
              exact rng_next hj (weak_eq [] [] (PgF A B (j + 1 : Nat)) (by simp (config := { maxSteps := 500000 }) only [↓vp, vv, implies_true, forall_const, undef, InI, ↓reduceIte, simprocAttr, coverS, PgF, w1]) (by simp (config := { maxSteps := 500000 }) only [↓vp, vv, implies_true, forall_const, undef, InI, ↓reduceIte, simprocAttr, refsF, PgF, w1]) (by simp (config := { maxSteps := 500000 }) only [↓vp, vv, implies_true, forall_const, undef, InI, ↓reduceIte, simprocAttr, PgF, w1]) (by simp) (by simp (config := { maxSteps := 500000 }) only [↓vp, vv, implies_true, forall_const, undef, InI, ↓reduceIte, simprocAttr, PgF, w1]; try rfl)) (gt rfl)
            | false =>
              have e0 := gf rfl
              simp (config := { maxSteps := 500000 }) only [↓vp, vv, implies_true, forall_const, undef, InI, ↓reduceIte, simprocAttr, c111_3, c111_2, c111_1, r111, PgF, hj', hjB, hjn, Int.toNat_natCast, hgA, hgB, w1, e0, Pu]
        · rw [List.drop_of_length_le (by rw [List.length_zip]; omega)] at he
          have e0 : b = true := he.symm
          simp (config := { maxSteps := 500000 }) only [↓vp, vv, implies_true, forall_const, undef, InI, ↓reduceIte, simprocAttr, c111_3, c111_4, r111, PgF, Int.lt_irrefl, e0, Pu]
      · have a3' : (fckI n p != 0) = true := by simp [a3]
        have hnr : needR n p = ⟨[], []⟩ := if_neg a3
        have hr : prmI n l p = (false, fckI n p) := by unfold prmI; rw [if_pos a1, a2, if_pos rfl, if_neg a3]
        simp (config := { maxSteps := 500000 }) only [↓vp, vv, implies_true, forall_const, undef, InI, ↓reduceIte, simprocAttr, c111, r111, c111_1, c111_2, c111_3, c111_4, c111_5, c111_6, c111_7, r111, TL24c, selNet, selNP, selNL, Net.enc, Pln.enc, netD, plnD, Lnp.enc, lnpD, hr, hnr, hn1, hp1, hl1, hz, hz1, a1, a2, a3', bne_self_eq_false, Pu]
  · have a1' : (checkI n != 0) = true := by simp [a1]
    have hr : prmI n l p = (false, checkI n) := by unfold prmI; rw [if_neg a1]
    simp (config := { maxSteps := 500000 }) only [↓vp, vv, implies_true, forall_const, undef, InI, ↓reduceIte, simprocAttr, c111, r111, c111_1, c111_2, c111_3, c111_4, c111_5, c111_6, c111_7, r111, TL24c, selNet, Net.enc, Pln.enc, netD, plnD, Lnp.enc, lnpD, hr, hn1, hz1, a1', Pu]
def notL (l : Lnp) (j : Nat) : List Bool := (l.segs.take j).map fun b => !b
theorem notL_succ {l : Lnp} {j : Nat} (h : j < l.segs.length) : notL l (j + 1) = notL l j ++ [!l.segs[j]] := by unfold notL; rw [← List.take_append_getElem h, List.map_append]; rfl
theorem notL_len {l : Lnp} {j : Nat} (h : j ≤ l.segs.length) : (notL l j).length = j := by unfold notL; rw [List.length_map, List.length_take]; omega
def shutD (n : Net) (l : Lnp) : D := if bothI n [l] = 0 then .tup [.sl ((notL l l.segs.length).map bRow), di 0] else .tup [.sl [], di (bothI n [l])]
structure LyPre (n : Net) (l : Lnp) : Prop where
  z : NetSz n
  l : LnpSz l
set_option maxHeartbeats 8000000 in
theorem shut_p (n : Net) (l : Lnp) (h : LyPre n l) (nn : Nm) : CallsA Try.prog 113 [n.enc, l.enc] Hp.none nn (Pu (shutD n l) Hp.none) := by
  obtain ⟨code, h1, h2⟩ := c113_ok
  refine callsA_of (tc_both (T0_ok _)) mixed (N := fun t => (0, t)) Try.func113 h1 h2 r113_ok [] false js_nil js_nil' (by simp [Try.f113]) ?_
  have hn1 : netOf1 [D.sl (n.nodes.map nmRow), .sl (n.segs.map Seg.row), .sl (n.ports.map Port.row), .sl (n.sts.map Stn.row), di n.vap, di n.set] = some n := netOf1_row n
  have hb : lsOf lnpOf1 [[D.sl (l.segs.map bRow), .sl (l.ports.map bRow)]] = some [l] := lsOf_map lnpOf1_row [l]
  have hz := h.z
  have hl := h.l.1
  unfold shutD
  cases c1 : (bothI n [l] != 0) with
  | true =>
    rw [if_neg (by simpa using c1)]
    simp (config := { maxSteps := 500000 }) only [↓vp, vv, implies_true, forall_const, undef, InI, ↓reduceIte, simprocAttr, c113, r113, selBoth, Net.enc, Lnp.enc, netD, lnpD, hn1, hb, hz, c1, Pu]
  | false =>
    have e1 : bothI n [l] = 0 := by simpa using c1
    rw [if_pos e1]
    simp (config := { maxSteps := 500000 }) only [↓vp, vv, implies_true, forall_const, undef, InI, ↓reduceIte, simprocAttr, c113, c113_4, selBoth, Net.enc, Lnp.enc, netD, lnpD, hn1, hb, hz, e1, bne_self_eq_false]
    refine rng_loop l.segs.length (fun j => ⟨fr [(7, .own (0, 1000) j 0 j), (18, .sl (l.segs.map bRow)), (19, di l.segs.length), (20, di (j : Nat))], Hp.none.put (0, 1000) ⟨j, 1, (notL l j).map bRow⟩⟩) (fun _ => True) ((weak_own 7 (0, 1000) 1 (by simp (config := { maxSteps := 500000 }) only [↓vp, vv, implies_true, forall_const, undef, InI, ↓reduceIte, simprocAttr, ]) (by simp (config := { maxSteps := 500000 }) only [↓vp, vv, implies_true, forall_const, undef, InI, ↓reduceIte, simprocAttr, ])).trans (weak_eq [] [(0, 1000)] [(7, .own (0, 1000) 0 0 0), (18, .sl (l.segs.map bRow)), (19, di l.segs.length), (20, di 0)] (by simp (config := { maxSteps := 500000 }) only [↓vp, vv, implies_true, forall_const, undef, InI, ↓reduceIte, simprocAttr, coverS, notL, bRow, List.take_zero, List.map_nil]) (by simp (config := { maxSteps := 500000 }) only [↓vp, vv, implies_true, forall_const, undef, InI, ↓reduceIte, simprocAttr, refsF, notL, bRow, List.take_zero, List.map_nil]) (by simp (config := { maxSteps := 500000 }) only [↓vp, vv, implies_true, forall_const, undef, InI, ↓reduceIte, simprocAttr, notL, bRow, List.take_zero, List.map_nil]) (by simp) (by simp (config := { maxSteps := 500000 }) only [↓vp, vv, implies_true, forall_const, undef, InI, ↓reduceIte, simprocAttr, notL, bRow, List.take_zero, List.map_nil]; try rfl))) trivial (fun j hj _ => ?_) (fun _ => ?_)
    · have hj' : (j : Int) < l.segs.length := by omega
      have hjn := idx_nn j
      have w1 := idx_next (j := j) (by omega)
      have g := bRow_g l.segs j hj
      have hs := notL_succ hj
      have hlj := notL_len (l := l) (j := j) (by omega)
      have y1 : (j + 1) * 1 ≤ 140737488355328 := by omega
      have y2 : j + 1 ≤ 4611686018427387904 := by omega
      generalize l.segs[j] = b at g hs
      simp (config := { maxSteps := 500000 }) only [↓vp, vv, implies_true, forall_const, undef, InI, ↓reduceIte, simprocAttr, c113_2, c113_1, hj', hjn, g, hlj, w1, y1, y2, Int.toNat_natCast]
      exact rng_next hj (weak_eq [] [(0, 1000)] [(7, .own (0, 1000) (j + 1) 0 (j + 1)), (18, .sl (l.segs.map bRow)), (19, di l.segs.length), (20, di (j + 1 : Nat))] (by simp (config := { maxSteps := 500000 }) only [↓vp, vv, implies_true, forall_const, undef, InI, ↓reduceIte, simprocAttr, coverS, bRow, w1, hs, List.map_append, List.map_cons, List.map_nil]) (by simp (config := { maxSteps := 500000 }) only [↓vp, vv, implies_true, forall_const, undef, InI, ↓reduceIte, simprocAttr, refsF, bRow, w1, hs, List.map_append, List.map_cons, List.map_nil]) (by simp (config := { maxSteps := 500000 }) only [↓vp, vv, implies_true, forall_const, undef, InI, ↓reduceIte, simprocAttr, bRow, w1, hs, List.map_append, List.map_cons, List.map_nil]) (by simp) (by simp (config := { maxSteps := 500000 }) only [↓vp, vv, implies_true, forall_const, undef, InI, ↓reduceIte, simprocAttr, bRow, w1, hs, List.map_append, List.map_cons, List.map_nil]; try rfl)) trivial
    · have hlj := notL_len (l := l) (Nat.le_refl _)
      have t1 : ((notL l l.segs.length).map bRow).take l.segs.length = (notL l l.segs.length).map bRow := List.take_of_length_le (by rw [List.length_map]; omega)
      have pX := bRow_plT
      simp (config := { maxSteps := 500000 }) only [↓vp, vv, implies_true, forall_const, undef, InI, ↓reduceIte, simprocAttr, c113_2, c113_3, r113, t1, pX, hlj, Int.lt_irrefl, Pu]
set_option maxHeartbeats 8000000 in
theorem shut24_c (n : Net) (l : Lnp) (h : LyPre n l) (nn : Nm) : CallsA Try.prog 114 [n.enc, l.enc] Hp.none nn (Pu (shutD n l) Hp.none) := by
  obtain ⟨code, h1, h2⟩ := c114_ok
  refine callsA_of TL24c_ok mixed (N := fun t => (0, t)) Try.func114 h1 h2 r114_ok [] false js_nil js_nil' (by simp [Try.f114]) ?_
  have hn1 : netOf1 [D.sl (n.nodes.map nmRow), .sl (n.segs.map Seg.row), .sl (n.ports.map Port.row), .sl (n.sts.map Stn.row), di n.vap, di n.set] = some n := netOf1_row n
  have hl1 : lnpOf1 [D.sl (l.segs.map bRow), .sl (l.ports.map bRow)] = some l := lnpOf1_row l
  have hz := h.z
  have hl := h.l.1
  unfold shutD bothI
  cases c0 : (checkI n != 0) with
  | true =>
    have c0' : ¬ checkI n = 0 := by simpa using c0
    rw [if_neg c0', if_neg c0']
    simp (config := { maxSteps := 500000 }) only [↓vp, vv, implies_true, forall_const, undef, InI, ↓reduceIte, simprocAttr, c114, r114, TL24c, selNet, Net.enc, Lnp.enc, netD, lnpD, hn1, hz, c0, Pu]
  | false =>
    have c0' : checkI n = 0 := by simpa using c0
    rw [if_pos c0']
    rw [c0'] at c0
    have ea : [l].all (lvB n) = lvB n l := by simp
    rw [ea]
    cases v1 : lvB n l with
    | false => simp (config := { maxSteps := 500000 }) only [↓vp, vv, implies_true, forall_const, undef, InI, ↓reduceIte, simprocAttr, c114, c114_5, r114, TL24c, selNet, selNL, Net.enc, Lnp.enc, netD, lnpD, hn1, hl1, hz, c0, c0', v1, if_false, Bool.false_eq_true, Pu]; try rfl
    | true =>
      rw [if_pos rfl, if_pos rfl]
      simp (config := { maxSteps := 500000 }) only [↓vp, vv, implies_true, forall_const, undef, InI, ↓reduceIte, simprocAttr, c114, c114_5, c114_4, TL24c, selNet, selNL, Net.enc, Lnp.enc, netD, lnpD, hn1, hl1, hz, c0, c0', v1]
      refine rng_loop l.segs.length (fun j => ⟨fr [(3, .ptr (0, 3) 0 0 0), (7, .own (0, 1000) j 0 j), (8, di (j : Nat))], (Hp.none.put (0, 1000) ⟨j, 1, (notL l j).map bRow⟩).put (0, 3) ⟨0, 2, [lnpD l]⟩⟩) (fun _ => True) ((weak_own 7 (0, 1000) 1 (by simp (config := { maxSteps := 500000 }) only [↓vp, vv, implies_true, forall_const, undef, InI, ↓reduceIte, simprocAttr, ]) (by simp (config := { maxSteps := 500000 }) only [↓vp, vv, implies_true, forall_const, undef, InI, ↓reduceIte, simprocAttr, ])).trans (weak_eq [] [(0, 3), (0, 1000)] [(3, .ptr (0, 3) 0 0 0), (7, .own (0, 1000) 0 0 0), (8, di 0)] (by simp (config := { maxSteps := 500000 }) only [↓vp, vv, implies_true, forall_const, undef, InI, ↓reduceIte, simprocAttr, coverS, notL, lnpD, bRow, List.take_zero, List.map_nil]) (by simp (config := { maxSteps := 500000 }) only [↓vp, vv, implies_true, forall_const, undef, InI, ↓reduceIte, simprocAttr, refsF, notL, lnpD, bRow, List.take_zero, List.map_nil]) (by simp (config := { maxSteps := 500000 }) only [↓vp, vv, implies_true, forall_const, undef, InI, ↓reduceIte, simprocAttr, notL, lnpD, bRow, List.take_zero, List.map_nil]) (by simp) (by simp (config := { maxSteps := 500000 }) only [↓vp, vv, implies_true, forall_const, undef, InI, ↓reduceIte, simprocAttr, notL, lnpD, bRow, List.take_zero, List.map_nil]; try rfl))) trivial (fun j hj _ => ?_) (fun _ => ?_)
      · have hj' : (j : Int) < l.segs.length := by omega
        have hjn := idx_nn j
        have w1 := idx_next (j := j) (by omega)
        have g := bRow_g l.segs j hj
        have hs := notL_succ hj
        have hlj := notL_len (l := l) (j := j) (by omega)
        have y1 : (j + 1) * 1 ≤ 140737488355328 := by omega
        have y2 : j + 1 ≤ 4611686018427387904 := by omega
        generalize l.segs[j] = b at g hs
        simp (config := { maxSteps := 500000 }) only [↓vp, vv, implies_true, forall_const, undef, InI, ↓reduceIte, simprocAttr, c114_2, c114_1, lnpD, hj', hjn, g, hlj, w1, y1, y2, Int.toNat_natCast]
        exact rng_next hj (weak_eq [] [(0, 3), (0, 1000)] [(3, .ptr (0, 3) 0 0 0), (7, .own (0, 1000) (j + 1) 0 (j + 1)), (8, di (j + 1 : Nat))] (by simp (config := { maxSteps := 500000 }) only [↓vp, vv, implies_true, forall_const, undef, InI, ↓reduceIte, simprocAttr, coverS, bRow, lnpD, w1, hs, List.map_append, List.map_cons, List.map_nil]) (by simp (config := { maxSteps := 500000 }) only [↓vp, vv, implies_true, forall_const, undef, InI, ↓reduceIte, simprocAttr, refsF, bRow, lnpD, w1, hs, List.map_append, List.map_cons, List.map_nil]) (by simp (config := { maxSteps := 500000 }) only [↓vp, vv, implies_true, forall_const, undef, InI, ↓reduceIte, simprocAttr, bRow, lnpD, w1, hs, List.map_append, List.map_cons, List.map_nil]) (by simp) (by simp (config := { maxSteps := 500000 }) only [↓vp, vv, implies_true, forall_const, undef, InI, ↓reduceIte, simprocAttr, bRow, lnpD, w1, hs, List.map_append, List.map_cons, List.map_nil]; try rfl)) trivial
      · have hlj := notL_len (l := l) (Nat.le_refl _)
        have t1 : ((notL l l.segs.length).map bRow).take l.segs.length = (notL l l.segs.length).map bRow := List.take_of_length_le (by rw [List.length_map]; omega)
        have pX := bRow_plT
        simp (config := { maxSteps := 500000 }) only [↓vp, vv, implies_true, forall_const, undef, InI, ↓reduceIte, simprocAttr, c114_2, c114_3, r114, lnpD, t1, pX, hlj, Int.lt_irrefl, Pu]
def SiF (x : List Nat) (j : Int) : List (Nat × D) := [(0, .sl (x.map nRow)), (1, .sl (x.map nRow)), (5, di j)]
theorem nRow_gm (o : List Nat) (j : Nat) (h : j < o.length) : (o.map nRow).getD j [] = [di (o[j] : Nat)] := by rw [getD_map nRow o j h]; rfl
set_option maxHeartbeats 4000000 in
theorem sameI_c (x : List Nat) (hx : x.length ≤ 2000000) (nn : Nm) : CallsA Try.prog 115 [.sl (x.map nRow), .sl (x.map nRow)] Hp.none nn (Pu (db true) Hp.none) := by
  obtain ⟨code, h1, h2⟩ := c115_ok
  refine callsA_of (T0_ok _) mixed (N := fun t => (0, t)) Try.func115 h1 h2 r115_ok [] false js_nil js_nil' (by simp [Try.f115]) ?_
  simp (config := { maxSteps := 500000 }) only [↓vp, vv, implies_true, forall_const, undef, InI, ↓reduceIte, simprocAttr, c115, c115_5, bne_self_eq_false]
  refine rng_loop x.length (fun j => ⟨fr (SiF x j), Hp.none⟩) (fun _ => True) (weak_eq [] [] (SiF x 0) (by simp (config := { maxSteps := 500000 }) only [↓vp, vv, implies_true, forall_const, undef, InI, ↓reduceIte, simprocAttr, coverS, SiF]) (by simp (config := { maxSteps := 500000 }) only [↓vp, vv, implies_true, forall_const, undef, InI, ↓reduceIte, simprocAttr, refsF, SiF]) (by simp (config := { maxSteps := 500000 }) only [↓vp, vv, implies_true, forall_const, undef, InI, ↓reduceIte, simprocAttr, SiF]) (by simp) (by simp (config := { maxSteps := 500000 }) only [↓vp, vv, implies_true, forall_const, undef, InI, ↓reduceIte, simprocAttr, SiF]; try rfl)) trivial (fun j hj _ => ?_) (fun _ => ?_)
  · have hj' : (j : Int) < x.length := by omega
    have hjn := idx_nn j
    have w1 := idx_next (j := j) (by omega)
    have hg := nRow_gm x j hj
    simp (config := { maxSteps := 500000 }) only [↓vp, vv, implies_true, forall_const, undef, InI, ↓reduceIte, simprocAttr, c115_3, c115_2, c115_1, SiF, hj', hjn, Int.toNat_natCast, hg, bne_self_eq_false, w1]
    exact rng_next hj (weak_eq [] [] (SiF x (j + 1 : Nat)) (by simp (config := { maxSteps := 500000 }) only [↓vp, vv, implies_true, forall_const, undef, InI, ↓reduceIte, simprocAttr, coverS, SiF, w1]) (by simp (config := { maxSteps := 500000 }) only [↓vp, vv, implies_true, forall_const, undef, InI, ↓reduceIte, simprocAttr, refsF, SiF, w1]) (by simp (config := { maxSteps := 500000 }) only [↓vp, vv, implies_true, forall_const, undef, InI, ↓reduceIte, simprocAttr, SiF, w1]) (by simp) (by simp (config := { maxSteps := 500000 }) only [↓vp, vv, implies_true, forall_const, undef, InI, ↓reduceIte, simprocAttr, SiF, w1]; try rfl)) trivial
  · simp (config := { maxSteps := 500000 }) only [↓vp, vv, implies_true, forall_const, undef, InI, ↓reduceIte, simprocAttr, c115_3, c115_4, r115, SiF, Int.lt_irrefl, Pu]
def natOf1 : List D → Option Nat
  | [.v (.int .i64 k)] => some k.toNat
  | _ => Option.none
theorem natOf1_row (k : Nat) : natOf1 (nRow k) = some k := by unfold natOf1 nRow; simp
def selSI (P : List (List D) → List (List D) → Prop) : List D → Option (Prop × D)
  | [.sl u, .sl v] => some (P u v, db true)
  | _ => Option.none
def SiP (u v : List (List D)) : Prop := ∃ x : List Nat, x.length ≤ 2000000 ∧ u = x.map nRow ∧ v = x.map nRow
theorem tc_si {T : Tbl} (hT : TblOk Try.prog T) : TblOk Try.prog (tc 115 (rowPu (selSI SiP)) T) :=
  tc_pu f115_ok (fun args pre d hs hp nn => by
    unfold selSI at hs
    split at hs
    · cases hs
      obtain ⟨x, hx, rfl, rfl⟩ := hp
      exact sameI_c x hx nn
    · cases hs) hT
def selLL : List D → Option (Prop × D)
  | [.agg a, .agg b] => match lnpOf1 a, lnpOf1 b with
    | some x, some y => some (x = y ∧ x.segs.length ≤ 2000000 ∧ x.ports.length ≤ 2000000, db true)
    | _, _ => Option.none
  | _ => Option.none
theorem same24_c (x : Lnp) (h1' : x.segs.length ≤ 2000000) (h2' : x.ports.length ≤ 2000000) (nn : Nm) : CallsA Try.prog 107 [x.enc, x.enc] Hp.none nn (Pu (db true) Hp.none) := by
  obtain ⟨code, h1, h2⟩ := c107_ok
  refine callsA_of (tc_sb (T0_ok _)) mixed (N := fun t => (0, t)) Try.func107 h1 h2 r107_ok [] false js_nil js_nil' (by simp [Try.f107]) ?_
  have e1 : lsOf boolOf1 (x.segs.map bRow) = some x.segs := lsOf_map boolOf1_row _
  have e2 : lsOf boolOf1 (x.ports.map bRow) = some x.ports := lsOf_map boolOf1_row _
  simp (config := { maxSteps := 500000 }) only [↓vp, vv, implies_true, forall_const, undef, InI, ↓reduceIte, simprocAttr, c107, r107, r107, selSB, Lnp.enc, lnpD, e1, e2, h1', h2', Pu]
theorem tc_s24 {T : Tbl} (hT : TblOk Try.prog T) : TblOk Try.prog (tc 107 (rowPu selLL) T) :=
  tc_pu f107_ok (fun args pre d hs hp nn => by
    unfold selLL at hs
    split at hs
    · split at hs
      · rename_i e1 e2
        cases hs
        obtain ⟨rfl, h1, h2⟩ := hp
        rw [lnpOf1_eq e1, lnpOf1_eq e2]
        exact same24_c _ h1 h2 nn
      · cases hs
    · cases hs) hT
def selNLL (out : Net → Lnp → Lnp → D) : List D → Option (Prop × D)
  | [.agg a, .agg b, .agg c] => match netOf1 a, lnpOf1 b, lnpOf1 c with
    | some n, some x, some y => some (LxPre n x y, out n x y)
    | _, _, _ => Option.none
  | _ => Option.none
theorem tc_nll {f : FuncId} {T : Tbl} {out : Net → Lnp → Lnp → D} (hf : fnOk Try.prog f = true) (h : ∀ n x y, LxPre n x y → ∀ nn, CallsA Try.prog f [n.enc, x.enc, y.enc] Hp.none nn (Pu (out n x y) Hp.none)) (hT : TblOk Try.prog T) : TblOk Try.prog (tc f (rowPu (selNLL out)) T) :=
  tc_pu hf (fun args pre d hs hp nn => by
    unfold selNLL at hs
    split at hs
    · split at hs
      · rename_i e1 e2 e3
        cases hs
        rw [netOf1_eq e1, lnpOf1_eq e2, lnpOf1_eq e3]
        exact h _ _ _ hp nn
      · cases hs
    · cases hs) hT
structure PmPre (n : Net) (l : Lnp) (p : Pln) : Prop where
  z : FckPre n p
  l : LnpSz l
def TAg : Tbl := tc 102 (rowPu (selNP FckPre fun n p => .tup [(needR n p).enc, di (fckI n p)])) (tc 46 (rowPu (selNP FckPre fun n p => .tup [(needR n p).enc, di (fckI n p)])) (tc 105 (rowPu (selOf ofD)) (tc 106 (rowPu (selOf ofD)) (tc 107 (rowPu selLL) (tc 108 (rowPu (selNL (fun _ _ => True) fun n l => db (lvB n l))) (tc 109 (rowPu (selNL (fun _ _ => True) fun n l => db (lvB n l))) (tc 110 (rowPu (selNLP PmPre fun n l p => .tup [db (prmI n l p).1, di (prmI n l p).2])) (tc 111 (rowPu (selNLP PmPre fun n l p => .tup [db (prmI n l p).1, di (prmI n l p).2])) (tc 103 (rowPu (selNLL chgD)) (tc 112 (rowPu (selNLL chgD)) (tc 113 (rowPu (selNL LyPre shutD)) (tc 114 (rowPu (selNL LyPre shutD)) (tc 115 (rowPu (selSI SiP)) (tc 116 (rowPu selSB) T0))))))))))))))
theorem TAg_ok : TblOk Try.prog TAg := tc_np f102_ok (fun n p h nn => need_c n p h nn) (tc_np f46_ok (fun n p h nn => need24_c n p h nn) (tc_of f105_ok (fun n l h nn => of_p n l h nn) (tc_of f106_ok (fun n l h nn => of24_c n l h nn) (tc_s24 (tc_nl f108_ok (fun n l _ nn => lvalid_c n l nn) (tc_nl f109_ok (fun n l _ nn => rlvalid_c n l nn) (tc_nlp f110_ok (fun n l p h nn => permits_c n l p h.z h.l nn) (tc_nlp f111_ok (fun n l p h nn => permits24_c n l p h.z h.l nn) (tc_nll f103_ok (fun n x y h nn => changes_p n x y h nn) (tc_nll f112_ok (fun n x y h nn => changes24_c n x y h nn) (tc_nl f113_ok (fun n l h nn => shut_p n l h nn) (tc_nl f114_ok (fun n l h nn => shut24_c n l h nn) (tc_si (tc_sb (T0_ok _)))))))))))))))
theorem of_form {n : Net} {l : List Vlv} (h : OfPre n l) : ∃ (L : Lnp) (e : Int), ofD n l = .tup [.agg [.sl (L.segs.map bRow), .sl (L.ports.map bRow)], di e] ∧ L.segs.length ≤ 2000000 ∧ L.ports.length ≤ 2000000 := by
  have := h.l
  unfold ofD
  split
  · exact ⟨ofL n l, 0, rfl, by unfold ofL; simp; omega, by unfold ofL; simp; omega⟩
  · exact ⟨⟨[], []⟩, _, rfl, by simp, by simp⟩
theorem need_form {n : Net} {p : Pln} (h : FckPre n p) : (needR n p).segs.length ≤ 2000000 ∧ (needR n p).ports.length ≤ 2000000 := by
  have h1 := h.2.rates
  have h2 := h.2.ports
  unfold needR
  split
  · unfold needL; simp; omega
  · simp
theorem chg_form {n : Net} {x y : Lnp} (h : LxPre n x y) : ∃ (X Y : List Nat) (e : Int), chgD n x y = .tup [.sl (X.map nRow), .sl (Y.map nRow), di e] ∧ X.length ≤ 2000000 ∧ Y.length ≤ 2000000 := by
  have h1 := h.x.1
  have h2 := h.x.2
  unfold chgD
  split
  · refine ⟨_, _, 0, rfl, ?_, ?_⟩
    · have := dif_le (lall x) (lall y) (lall x).length
      have e : (lall x).length = x.segs.length + x.ports.length := by simp [lall]
      omega
    · have := dif_le (lall y) (lall x) (lall x).length
      have e : (lall x).length = x.segs.length + x.ports.length := by simp [lall]
      omega
  · exact ⟨[], [], _, rfl, by simp, by simp⟩
theorem shut_form {n : Net} {l : Lnp} (h : LyPre n l) : ∃ (X : List Bool) (e : Int), shutD n l = .tup [.sl (X.map bRow), di e] ∧ X.length ≤ 2000000 := by
  have h1 := h.l.1
  unfold shutD
  split
  · exact ⟨_, 0, rfl, by rw [notL_len (Nat.le_refl _)]; omega⟩
  · exact ⟨[], _, rfl, by simp⟩
structure AgPre (n : Net) (a b : Lnp) (p : Pln) (v : List Vlv) : Prop where
  z : FckPre n p
  a : LnpSz a
  b : LnpSz b
  v : v.length ≤ 1000000
set_option maxHeartbeats 16000000 in
theorem agree_c (n : Net) (a b : Lnp) (p : Pln) (v : List Vlv) (h : AgPre n a b p v) (nn : Nm) : CallsA Try.prog 47 [n.enc, a.enc, b.enc, p.enc, .sl (v.map Vlv.row)] Hp.none nn (Pu (db true) Hp.none) := by
  obtain ⟨code, h1, h2⟩ := c47_ok
  refine callsA_of TAg_ok mixed (N := fun t => (0, t)) Try.func47 h1 h2 r47_ok [] false js_nil js_nil' (by simp [Try.f47]) ?_
  have hn1 : netOf1 [D.sl (n.nodes.map nmRow), .sl (n.segs.map Seg.row), .sl (n.ports.map Port.row), .sl (n.sts.map Stn.row), di n.vap, di n.set] = some n := netOf1_row n
  have hp1 : plnOf1 [D.sl (p.rates.map iRow), .sl (p.ports.map iRow), .sl (p.pumps.map bRow)] = some p := plnOf1_row p
  have hl1 : ∀ l : Lnp, lnpOf1 [D.sl (l.segs.map bRow), .sl (l.ports.map bRow)] = some l := lnpOf1_row
  have hv1 : lsOf vlvOf1 (v.map Vlv.row) = some v := lsOf_map vlvOf1_row v
  have hz := h.z
  have hof : OfPre n v := ⟨hz.1, h.v⟩
  have hlx : LxPre n a b := ⟨hz.1, h.a, h.b⟩
  have hly : LyPre n a := ⟨hz.1, h.a⟩
  have hpm : PmPre n a p := ⟨hz, h.a⟩
  obtain ⟨L, e, hL, l1, l2⟩ := of_form hof
  obtain ⟨X, Y, e', hX, x1, x2⟩ := chg_form hlx
  obtain ⟨Z, e'', hZ, z1⟩ := shut_form hly
  obtain ⟨m1, m2⟩ := need_form hz
  have sX : SiP (X.map nRow) (X.map nRow) := ⟨X, x1, rfl, rfl⟩
  have sY : SiP (Y.map nRow) (Y.map nRow) := ⟨Y, x2, rfl, rfl⟩
  have hb1 : lsOf boolOf1 (Z.map bRow) = some Z := lsOf_map boolOf1_row Z
  simp (config := { maxSteps := 500000 }) only [↓vp, vv, implies_true, forall_const, undef, InI, ↓reduceIte, simprocAttr, c47, c47_1, r47, TAg, selNP, selOf, selLL, selNL, selNLP, selNLL, selSI, selSB, Net.enc, Lnp.enc, Pln.enc, netD, lnpD, plnD, hn1, hp1, hl1, hv1, hz, hof, hlx, hly, hpm, hL, hX, hZ, l1, l2, m1, m2, sX, sY, hb1, z1, bne_self_eq_false, beq_self_eq_true, Pu]
end Go.Proofs.Ytkjibmfggeibjaa
/- Valves and plans out of a source, where one thing is off. -/
namespace Go.Proofs.Ytkjibmfggeibjaa
open Go
set_option linter.unusedVariables false
set_option linter.unusedSimpArgs false
set_option maxRecDepth 100000

set_option maxHeartbeats 4000000 in
theorem valve_c : SrcC Try.prog 45 [] (fun _ : Vlv => True) (fun v => .agg v.row) := by
  intro i L at' nn ho
  obtain ⟨code, h1, h2⟩ := c45_ok
  refine callsA_of T2_ok mixed (N := fun t => (i.1 + 1, t)) Try.func45 h1 h2 r45_ok [i] false js_one js_one' (by simp [Try.f45]) ?_
  have hp : intsOf [[di 1], [di 2], [di 3], [di 6], [di 60]] = some [1, 2, 3, 6, 60] := rfl
  simp (config := { maxSteps := 500000 }) only [↓vp, vv, implies_true, forall_const, undef, InI, ↓reduceIte, simprocAttr, c45, r45, T2, T1, selPick, selI, ho, hp]
  intro a1 x hx a2 y hy a3 z hz
  have b1 : 1 ≤ x ∧ x ≤ 60 := by unfold IsMem at hx; simp at hx; omega
  have wx : IntKind.i64.wrap (x + 1) = x + 1 := wrap_i (by omega)
  rw [wx]
  exact ⟨⟨by omega, by omega⟩, fun a4 u hu a5 v hv => ⟨a5.1, ⟨x, v, y == 0, z == 7⟩, a5.2, trivial, rfl, rfl⟩⟩
structure OffPre (p : Pln) : Prop where
  rates : p.rates.length ≤ 1000
  ports : p.ports.length ≤ 1000
  pumps : p.pumps.length ≤ 1000
def OfpH (i : Nm) (L : List (List D)) (at' : Int) (p : Pln) (gu : Nat) (U : List Bool) (nq : Nat) (R Q : List Int) : Hp := (((((Hp.none.put (i.1 + 1, 13) ⟨gu, 1, U.map bRow⟩).put (i.1 + 1, 9) ⟨1, 1, Q.map iRow⟩).put (i.1 + 1, 5) ⟨1, 1, R.map iRow⟩).put (i.1 + 1, 4) ⟨0, 3, [[.mt, .mt, .mt]]⟩).put (i.1 + 1, 3) ⟨0, 3, [[.own (i.1 + 1, 5) 1 0 R.length, .own (i.1 + 1, 9) 1 0 nq, .own (i.1 + 1, 13) gu 0 U.length]]⟩).put i (sE L at')
set_option maxHeartbeats 16000000 in
theorem off_c (p : Pln) (h : OffPre p) : SrcC Try.prog 35 [p.enc] PlnSz Pln.enc := by
  intro i L at' nn ho
  obtain ⟨code, h1, h2⟩ := c35_ok
  refine callsA_of T2_ok mixed (N := fun t => (i.1 + 1, t)) Try.func35 h1 h2 r35_ok [i] false js_one js_one' (by simp [Try.f35]) ?_
  have hr := h.rates
  have hq := h.ports
  have hu := h.pumps
  have e1 : ∀ A : List Int, (∀ j ∈ A, (iRow j).length = 1) = True := fun _ => eq_true fun _ _ => rfl
  have e2 : ∀ A : List Bool, (∀ j ∈ A, (bRow j).length = 1) = True := fun _ => eq_true fun _ _ => rfl
  have y1 : p.rates.length * 8 ≤ 140737488355328 := by omega
  have y2 : p.rates.length ≤ 4611686018427387904 := by omega
  have y3 : p.ports.length * 8 ≤ 140737488355328 := by omega
  have y4 : p.ports.length ≤ 4611686018427387904 := by omega
  have y5 : p.pumps.length * 1 ≤ 140737488355328 := by omega
  have y6 : p.pumps.length ≤ 4611686018427387904 := by omega
  have hi5 : InI 5 := by unfold InI; omega
  simp (config := { maxSteps := 500000 }) only [↓vp, vv, implies_true, forall_const, undef, InI, ↓reduceIte, simprocAttr, c35, T2, T1, selPick, selI, Pln.enc, plnD, ho, e1, e2, y1, y2, y3, y4, y5, y6, hi5]
  intro a1 x hx
  have o1 := a1.2
  have pI : ∀ A : List Int, (∀ j ∈ A, ∀ d ∈ iRow j, d.plain = true) = True := fun _ => eq_true fun _ _ d hd => by rw [List.mem_singleton.1 hd]; rfl
  have pB : ∀ A : List Bool, (∀ j ∈ A, ∀ d ∈ bRow j, d.plain = true) = True := fun _ => eq_true fun _ _ d hd => by rw [List.mem_singleton.1 hd]; rfl
  have tI : ∀ A : List Int, (A.map iRow).take A.length = A.map iRow := fun A => List.take_of_length_le (by simp)
  have tB : ∀ A : List Bool, (A.map bRow).take A.length = A.map bRow := fun A => List.take_of_length_le (by simp)
  cases c0 : (x == 0) with
  | true =>
    have z1 : (p.pumps.length + 1) * 1 ≤ 140737488355328 := by omega
    have z2 : p.pumps.length + 1 ≤ 4611686018427387904 := by omega
    simp (config := { maxSteps := 500000 }) only [↓vp, vv, implies_true, forall_const, undef, InI, ↓reduceIte, simprocAttr, c35_1, r35, c0, z1, z2, pI, pB, tI, tB]
    exact ⟨by omega, a1.1, ⟨p.rates, p.ports, p.pumps ++ [true]⟩, o1, ⟨by dsimp only; omega, by dsimp only; omega, by simp; omega⟩, by simp [Pln.enc, plnD, bRow], rfl⟩
  | false =>
    cases c1 : (x == 1) with
    | true =>
      have wq : IntKind.i64.wrap ((p.ports.length : Int) + 1) = (p.ports.length : Int) + 1 := wrap_i (by omega)
      have hiq : InI ((p.ports.length : Int) + 1) := by unfold InI; omega
      simp (config := { maxSteps := 500000 }) only [↓vp, vv, implies_true, forall_const, undef, InI, ↓reduceIte, simprocAttr, c35_1, r35, T2, T1, selPick, selI, c0, c1, o1, wq, hiq]
      intro a2 y hy
      have hy0 := hy.1
      have hy1 := hy.2.1 (by omega)
      have hy2 : y.toNat ≤ p.ports.length := by omega
      have hy3 : y ≤ (p.ports.length : Int) := by omega
      have tk : (p.ports.map iRow).take y.toNat = (p.ports.take y.toNat).map iRow := by rw [List.map_take]
      simp (config := { maxSteps := 500000 }) only [↓vp, vv, implies_true, forall_const, undef, InI, ↓reduceIte, simprocAttr, hy0, hy2, hy3, tk, pI, pB, tI, tB, Nat.sub_zero, List.drop_zero]
      exact ⟨a2.1, ⟨p.rates, p.ports.take y.toNat, p.pumps⟩, a2.2, ⟨by dsimp only; omega, by dsimp only; rw [List.length_take]; omega, by dsimp only; omega⟩, rfl, rfl⟩
    | false =>
      cases c2 : (x == 2) with
      | true =>
        by_cases c3 : (0 : Int) < p.ports.length
        · have hlen : 1 ≤ p.ports.length := by omega
          have hiq : InI (p.ports.length : Int) := by unfold InI; omega
          simp (config := { maxSteps := 500000 }) only [↓vp, vv, implies_true, forall_const, undef, InI, ↓reduceIte, simprocAttr, c35_1, r35, T2, T1, selPick, selI, c0, c1, c2, c3, o1, hiq]
          intro a2 y hy
          have hy0 := hy.1
          have hy1 := hy.2.1 (by omega)
          have hy2 : y.toNat < p.ports.length := by omega
          have o2 := a2.2
          have hp : intsOf [[di 1], [di (-1)], [di 1001], [di (-4611686018427387904)]] = some [1, -1, 1001, -4611686018427387904] := rfl
          have g : (p.ports.map iRow).getD y.toNat [] = [di p.ports[y.toNat]] := iRow_at p.ports y.toNat hy2
          have eS : ∀ v, (p.ports.map iRow).set y.toNat [di v] = (p.ports.set y.toNat v).map iRow := fun v => (List.map_set ..).symm
          have ls : ∀ v, (p.ports.set y.toNat v).length = p.ports.length := fun v => List.length_set
          have tk : ∀ v, ((p.ports.set y.toNat v).map iRow).take p.ports.length = (p.ports.set y.toNat v).map iRow := fun v => List.take_of_length_le (by simp)
          simp (config := { maxSteps := 500000 }) only [↓vp, vv, implies_true, forall_const, undef, InI, ↓reduceIte, simprocAttr, T2, T1, selPick, selI, hy0, hy1, hy2, o2, hp, g, eS, ls, tk, pI, pB, tI, tB]
          exact fun a3 z hz => ⟨a3.1, ⟨p.rates, p.ports.set y.toNat (IntKind.i64.wrap (p.ports[y.toNat] + z)), p.pumps⟩, a3.2, ⟨by dsimp only; (try rw [List.length_set]); omega, by dsimp only; (try rw [List.length_set]); omega, by dsimp only; omega⟩, rfl, rfl⟩
        · simp (config := { maxSteps := 500000 }) only [↓vp, vv, implies_true, forall_const, undef, InI, ↓reduceIte, simprocAttr, c35_1, r35, T2, T1, selPick, selI, c0, c1, c2, c3, o1, pI, pB, tI, tB]
          exact ⟨a1.1, p, o1, ⟨by omega, by omega, by omega⟩, rfl, rfl⟩
      | false =>
        by_cases c3 : (0 : Int) < p.rates.length
        · have hlen : 1 ≤ p.rates.length := by omega
          have hiq : InI (p.rates.length : Int) := by unfold InI; omega
          simp (config := { maxSteps := 500000 }) only [↓vp, vv, implies_true, forall_const, undef, InI, ↓reduceIte, simprocAttr, c35_1, r35, T2, T1, selPick, selI, c0, c1, c2, c3, o1, hiq]
          intro a2 y hy
          have hy0 := hy.1
          have hy1 := hy.2.1 (by omega)
          have hy2 : y.toNat < p.rates.length := by omega
          have o2 := a2.2
          have hp : intsOf [[di 1], [di (-1)], [di 5], [di 1001], [di 4611686018427387904], [di (-4611686018427387904)]] = some [1, -1, 5, 1001, 4611686018427387904, -4611686018427387904] := rfl
          have g : (p.rates.map iRow).getD y.toNat [] = [di p.rates[y.toNat]] := iRow_at p.rates y.toNat hy2
          have eS : ∀ v, (p.rates.map iRow).set y.toNat [di v] = (p.rates.set y.toNat v).map iRow := fun v => (List.map_set ..).symm
          have ls : ∀ v, (p.rates.set y.toNat v).length = p.rates.length := fun v => List.length_set
          have tk : ∀ v, ((p.rates.set y.toNat v).map iRow).take p.rates.length = (p.rates.set y.toNat v).map iRow := fun v => List.take_of_length_le (by simp)
          simp (config := { maxSteps := 500000 }) only [↓vp, vv, implies_true, forall_const, undef, InI, ↓reduceIte, simprocAttr, T2, T1, selPick, selI, hy0, hy1, hy2, o2, hp, g, eS, ls, tk, pI, pB, tI, tB]
          exact fun a3 z hz => ⟨a3.1, ⟨p.rates.set y.toNat (IntKind.i64.wrap (p.rates[y.toNat] + z)), p.ports, p.pumps⟩, a3.2, ⟨by dsimp only; (try rw [List.length_set]); omega, by dsimp only; (try rw [List.length_set]); omega, by dsimp only; omega⟩, rfl, rfl⟩
        · simp (config := { maxSteps := 500000 }) only [↓vp, vv, implies_true, forall_const, undef, InI, ↓reduceIte, simprocAttr, c35_1, r35, T2, T1, selPick, selI, c0, c1, c2, c3, o1, pI, pB, tI, tB]
          exact ⟨a1.1, p, o1, ⟨by omega, by omega, by omega⟩, rfl, rfl⟩
end Go.Proofs.Ytkjibmfggeibjaa
