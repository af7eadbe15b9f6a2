
/- Tools: Launch, Run. -/
import Derived.Test.YtkjibmfggeibjaaTo3
import Derived.Test.YtkjibmfggeibjaaGFo
namespace Go.Proofs.Ytkjibmfggeibjaa
open Go
set_option linter.unusedVariables false
set_option linter.unusedSimpArgs false
set_option maxRecDepth 100000

theorem netD_pl (n : Net) : (netD n).length = 6 := rfl
def badT (n : Net) (t : Tol) : Bool := !(tolV n t)
def selVal : List D → Option (Prop × D)
  | [.agg a, .agg b] => match netOf1 a, tolOf1 b with
    | some n, some t => some (NetV n ∧ t.way.length ≤ 1000000, db (tolV n t))
    | _, _ => Option.none
  | _ => Option.none
theorem tc_val {T : Tbl} (hT : TblOk Try.prog T) : TblOk Try.prog (tc 75 (rowPu selVal) T) :=
  tc_pu f75_ok (fun args pre d hs hp nn => by
    unfold selVal at hs
    split at hs
    · split at hs
      · rename_i e1 e2
        cases hs
        rw [netOf1_eq e1, tolOf1_eq e2]
        exact valid_c _ hp.1 _ hp.2 nn
      · cases hs
    · cases hs) hT
theorem tck1_c (n : Net) (hv : NetV n) (t : Tol) (hw : t.way.length ≤ 1000000) (nn : Nm) : CallsA Try.prog 150 [.agg t.row, .ip (netD n)] Hp.none nn (Pu (db (badT n t)) Hp.none) := by
  obtain ⟨code, h1, h2⟩ := c150_ok
  refine callsA_of (tc_val (T0_ok _)) mixed (N := fun t => (0, t)) Try.func150 h1 h2 r150_ok [] false js_nil js_nil' (by simp [Try.f150]) ?_
  have hn1 : netOf1 [D.sl (n.nodes.map nmRow), .sl (n.segs.map Seg.row), .sl (n.ports.map Port.row), .sl (n.sts.map Stn.row), di n.vap, di n.set] = some n := netOf1_row n
  have ht1 : tolOf1 [.sl (t.way.map tHop), di t.hop, di t.pos] = some t := tolOf1_row t
  simp (config := { maxSteps := 500000 }) only [↓vp, vv, implies_true, forall_const, undef, InI, ↓reduceIte, simprocAttr, c150, r150, r150, selVal, netD, Tol.row, hn1, ht1, hv, hw, badT, Pu]
def toolE (n : Net) (p : Pln) (l : List Tol) : Int := if checkI n ≠ 0 then checkI n else if fckI n p ≠ 0 then fckI n p else if l.any (badT n) = true then 24 else 0
def TCk (P : Program) (n : Net) : Tbl := tc 74 (rowPu (selNet fun n => di (checkI n))) (tc 55 (rowPu (selNP FckPre fun n p => di (fckI n p))) (tc 149 (rowPu (selQ P true 3 (fun g l => qRow tolOf1 (badT n)) outC)) T0))
theorem TCk_ok (n : Net) : TblOk Try.prog (TCk Try.prog n) := by
  refine tc_netf f74_ok (fun n hz nn => check_c n hz nn) (tc_np f55_ok (fun n p h nn => fcheck_c n p h.1 h.2 nn) (tc_pu f149_ok (fun args pre d h hp nn => ?_) (T0_ok _)))
  unfold selQ at h
  split at h
  · split at h
    · rename_i hi
      cases h
      rw [ipsOf_eq hi]
      exact hasF_O _ _ _ _ hp nn
    · cases h
  · cases h
theorem Tol.done (t : Tol) : doneL t.row = true := rfl
set_option maxHeartbeats 8000000 in
theorem check_t (n : Net) (p : Pln) (l : List Tol) (h : FckPre n p) (hl : l.length ≤ 1000000) (hw : ∀ t ∈ l, t.way.length ≤ 1000000) (nn : Nm) : CallsA Try.prog 77 [n.enc, p.enc, .sl (l.map Tol.row)] Hp.none nn (Pu (di (toolE n p l)) Hp.none) := by
  obtain ⟨code, h1, h2⟩ := c77_ok
  refine callsA_of (TCk_ok n) mixed (N := fun t => (0, t)) Try.func77 h1 h2 r77_ok [] false js_nil js_nil' (by simp [Try.f77]) ?_
  have hn1 : netOf1 [D.sl (n.nodes.map nmRow), .sl (n.segs.map Seg.row), .sl (n.ports.map Port.row), .sl (n.sts.map Stn.row), di n.vap, di n.set] = some n := netOf1_row n
  have hp1 : plnOf1 [D.sl (p.rates.map iRow), .sl (p.ports.map iRow), .sl (p.pumps.map bRow)] = some p := plnOf1_row p
  have hz := h.1
  unfold toolE
  cases c1 : (checkI n != 0) with
  | true =>
    rw [if_pos (by simpa using c1)]
    simp (config := { maxSteps := 500000 }) only [↓vp, vv, implies_true, forall_const, undef, InI, ↓reduceIte, simprocAttr, c77, r77, TCk, selNet, Net.enc, netD, Pln.enc, plnD, hn1, hz, c1, Pu]
  | false =>
    have e1 : checkI n = 0 := by simpa using c1
    have hv := check0 e1
    rw [if_neg (by omega)]
    rw [e1] at c1
    cases c2 : (fckI n p != 0) with
    | true =>
      rw [if_pos (by simpa using c2)]
      simp (config := { maxSteps := 500000 }) only [↓vp, vv, implies_true, forall_const, undef, InI, ↓reduceIte, simprocAttr, c77, c77_3, r77, TCk, selNet, selNP, Net.enc, netD, Pln.enc, plnD, hn1, hp1, hz, h, e1, c1, c2, Pu]
    | false =>
      have e2 : fckI n p = 0 := by simpa using c2
      rw [if_neg (by omega)]
      rw [e2] at c2
      have hq : QOk Try.prog true 3 (qRow tolOf1 (badT n)) 150 [netD n] (l.map Tol.row) := by
        refine ⟨f150_ok, by rw [List.length_map]; omega, fun r hr => ?_⟩
        obtain ⟨x, hx, rfl⟩ := List.mem_map.1 hr
        refine ⟨rfl, rfl, fun h => Bool.noConfusion h, fun nn => ?_⟩
        have e : qRow tolOf1 (badT n) (elV true x.row) = badT n x := qRow_agg (tolOf1_row x)
        rw [e]
        exact tck1_c n hv x (hw x hx) nn
      have ho : outC (fun r => qRow tolOf1 (badT n) (elV true r)) (l.map Tol.row) = db (l.any (badT n)) := by
        unfold outC
        rw [List.any_map]
        congr 2
        funext x
        exact qRow_agg (tolOf1_row x)
      simp (config := { maxSteps := 500000 }) only [↓vp, vv, implies_true, forall_const, undef, InI, ↓reduceIte, simprocAttr, c77, c77_3, TCk, selNet, selNP, Net.enc, netD, Pln.enc, plnD, hn1, hp1, hz, h, e1, c1, e2, c2]
      refine vc_wk ((weak_ip 3 (0, 3) 0 6 (netD n) (by simp (config := { maxSteps := 500000 }) only [↓vp, vv, implies_true, forall_const, undef, InI, ↓reduceIte, simprocAttr, ]) (by simp (config := { maxSteps := 500000 }) only [↓vp, vv, implies_true, forall_const, undef, InI, ↓reduceIte, simprocAttr, netD]) (by simp (config := { maxSteps := 500000 }) only [↓vp, vv, implies_true, forall_const, undef, InI, ↓reduceIte, simprocAttr, netD]) (by simp)).trans (weak_eq [] [] [(2, .sl (l.map Tol.row)), (3, .ip (netD n))] (by simp (config := { maxSteps := 500000 }) only [↓vp, vv, implies_true, forall_const, undef, InI, ↓reduceIte, simprocAttr, coverS]) (by simp (config := { maxSteps := 500000 }) only [↓vp, vv, implies_true, forall_const, undef, InI, ↓reduceIte, simprocAttr, refsF]) (by simp (config := { maxSteps := 500000 }) only [↓vp, vv, implies_true, forall_const, undef, InI, ↓reduceIte, simprocAttr, ]) (by simp) (by simp (config := { maxSteps := 500000 }) only [↓vp, vv, implies_true, forall_const, undef, InI, ↓reduceIte, simprocAttr, ]; try rfl))) ?_
      cases c3 : l.any (badT n) with
      | true =>
        rw [c3] at ho
        rw [if_pos rfl]
        simp (config := { maxSteps := 500000 }) only [↓vp, vv, implies_true, forall_const, undef, InI, ↓reduceIte, simprocAttr, c77_2, r77, TCk, selQ, ipsOf, hq, ho, Pu]
      | false =>
        rw [c3] at ho
        rw [if_neg Bool.false_ne_true]
        simp (config := { maxSteps := 500000 }) only [↓vp, vv, implies_true, forall_const, undef, InI, ↓reduceIte, simprocAttr, c77_2, c77_1, r77, TCk, selQ, ipsOf, hq, ho, Pu]
/-- A new tool. -/
def TLa : Tbl := tc 74 (rowPu (selNet fun n => di (checkI n))) (tc 75 (rowPu selVal) (tc 76 (rowPu (selTol wayP Tol.enc)) T0))
theorem TLa_ok : TblOk Try.prog TLa := tc_netf f74_ok (fun n hz nn => check_c n hz nn) (tc_val (tc_tol f76_ok (fun t h nn => copied_c t h nn) (T0_ok _)))
def launD (n : Net) (w : List (Int × Bool)) : D := if tolV n ⟨w, 0, 0⟩ = true then .tup [(⟨w, 0, 0⟩ : Tol).enc, di 0] else .tup [(⟨[], 0, 0⟩ : Tol).enc, di 24]
set_option maxHeartbeats 8000000 in
theorem launch_c (n : Net) (w : List (Int × Bool)) (hz : NetSz n) (hck : checkI n = 0) (hw : w.length ≤ 1000000) (nn : Nm) : CallsA Try.prog 12 [n.enc, .sl (w.map tHop)] Hp.none nn (Pu (launD n w) Hp.none) := by
  obtain ⟨code, h1, h2⟩ := c12_ok
  refine callsA_of TLa_ok mixed (N := fun t => (0, t)) Try.func12 h1 h2 r12_ok [] false js_nil js_nil' (by simp [Try.f12]) ?_
  have hn1 : netOf1 [D.sl (n.nodes.map nmRow), .sl (n.segs.map Seg.row), .sl (n.ports.map Port.row), .sl (n.sts.map Stn.row), di n.vap, di n.set] = some n := netOf1_row n
  have ht1 : tolOf1 [.sl (w.map tHop), di 0, di 0] = some ⟨w, 0, 0⟩ := tolOf1_row ⟨w, 0, 0⟩
  have hv := check0 hck
  unfold launD
  cases c1 : tolV n ⟨w, 0, 0⟩ with
  | true =>
    have hT := (tolV_iff n ⟨w, 0, 0⟩).1 c1
    have hwp : wayP ⟨w, 0, 0⟩ := ⟨hT.l.1, hw⟩
    rw [if_pos rfl]
    simp (config := { maxSteps := 500000 }) only [↓vp, vv, implies_true, forall_const, undef, InI, ↓reduceIte, simprocAttr, c12, c12_2, c12_1, r12, TLa, selNet, selVal, selTol, Net.enc, netD, Tol.enc, Tol.row, hn1, ht1, hz, hck, hv, hw, hwp, c1, bne_self_eq_false, Pu]
  | false =>
    rw [if_neg Bool.false_ne_true]
    simp (config := { maxSteps := 500000 }) only [↓vp, vv, implies_true, forall_const, undef, InI, ↓reduceIte, simprocAttr, c12, c12_2, c12_1, r12, TLa, selNet, selVal, selTol, Net.enc, netD, Tol.enc, Tol.row, hn1, ht1, hz, hck, hv, hw, c1, bne_self_eq_false, List.map_nil, Pu]
end Go.Proofs.Ytkjibmfggeibjaa
