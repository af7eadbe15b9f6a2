
/- Tools: copied, received, moved. -/
import Derived.Test.YtkjibmfggeibjaaTo2
namespace Go.Proofs.Ytkjibmfggeibjaa
open Go
set_option linter.unusedVariables false
set_option linter.unusedSimpArgs false
set_option maxRecDepth 100000

set_option maxHeartbeats 4000000 in
theorem copied_c (t : Tol) (h : 1 ≤ t.way.length ∧ t.way.length ≤ 1000000) (nn : Nm) : CallsA Try.prog 76 [t.enc] Hp.none nn (Pu t.enc Hp.none) := by
  obtain ⟨code, h1, h2⟩ := c76_ok
  refine callsA_of (T0_ok _) mixed (N := fun t => (0, t)) Try.func76 h1 h2 r76_ok [] false js_nil js_nil' (by simp [Try.f76]) ?_
  have z1 : (16 : Int) * t.way.length ≤ 281474976710656 := by omega
  have z2 : (t.way.length : Int) ≤ 4611686018427387904 := by omega
  have z3 := idx_nn t.way.length
  have e3 : 0 < t.way.length := by omega
  have e4 : List.drop t.way.length (List.replicate t.way.length [di 0, db false]) = [] := List.drop_of_length_le (by simp)
  have e5 : (t.way.map tHop).take t.way.length = t.way.map tHop := List.take_of_length_le (by simp)
  simp (config := { maxSteps := 500000 }) only [↓vp, vv, implies_true, forall_const, undef, InI, ↓reduceIte, simprocAttr, c76, r76, r76, Tol.enc, Tol.row, z1, z2, z3, e3, e4, e5, Nat.min_self, Nat.zero_add, List.take_zero, List.nil_append, List.append_nil, List.length_replicate, Int.toNat_natCast, Pu]
  exact ⟨fun _ _ => rfl, fun j _ => tHop_pl j⟩
theorem received_c (t : Tol) (nn : Nm) : CallsA Try.prog 16 [t.enc] Hp.none nn (Pu (db (if decide ((0 : Int) < t.way.length) = true then t.hop == (t.way.length : Int) else false)) Hp.none) := by
  obtain ⟨code, h1, h2⟩ := c16_ok
  refine callsA_of (T0_ok _) mixed (N := fun t => (0, t)) Try.func16 h1 h2 r16_ok [] false js_nil js_nil' (by simp [Try.f16]) ?_
  cases c1 : decide ((0 : Int) < t.way.length) <;> simp (config := { maxSteps := 500000 }) only [↓vp, vv, implies_true, forall_const, undef, InI, ↓reduceIte, simprocAttr, c16, r16, r16, Tol.enc, Tol.row, c1, Pu]
def selTol (ok : Tol → Prop) (out : Tol → D) : List D → Option (Prop × D)
  | [.agg r] => match tolOf1 r with
    | some t => some (ok t, out t)
    | Option.none => Option.none
  | _ => Option.none
theorem tc_tol {f : FuncId} {T : Tbl} {ok : Tol → Prop} {out : Tol → D} (hf : fnOk Try.prog f = true) (h : ∀ t, ok t → ∀ nn, CallsA Try.prog f [t.enc] Hp.none nn (Pu (out t) Hp.none)) (hT : TblOk Try.prog T) : TblOk Try.prog (tc f (rowPu (selTol ok out)) T) :=
  tc_pu hf (fun args pre d hs hp nn => by
    unfold selTol at hs
    split at hs
    · split at hs
      · rename_i e
        cases hs
        rw [tolOf1_eq e]
        exact h _ hp nn
      · cases hs
    · cases hs) hT
def wayP (t : Tol) : Prop := 1 ≤ t.way.length ∧ t.way.length ≤ 1000000
def recB (t : Tol) : Bool := if decide ((0 : Int) < t.way.length) = true then t.hop == (t.way.length : Int) else false
def TMv : Tbl := tc 76 (rowPu (selTol wayP Tol.enc)) (tc 16 (rowPu (selTol (fun _ => True) fun t => db (recB t))) T0)
theorem TMv_ok : TblOk Try.prog TMv := tc_tol f76_ok (fun t h nn => copied_c t h nn) (tc_tol f16_ok (fun t _ nn => received_c t nn) (T0_ok _))
structure MvPre (n : Net) (p : Pln) (t : Tol) : Prop where
  v : NetV n
  t : TolOk n t
  rl : p.rates.length = n.segs.length
  rb : ∀ r ∈ p.rates, -1000000 ≤ r ∧ r ≤ 1000000
set_option maxHeartbeats 8000000 in
theorem moved_c (n : Net) (p : Pln) (t : Tol) (h : MvPre n p t) (nn : Nm) : CallsA Try.prog 78 [n.enc, p.enc, t.enc] Hp.none nn (Pu (mov1 n p t).enc Hp.none) := by
  obtain ⟨code, h1, h2⟩ := c78_ok
  refine callsA_of TMv_ok mixed (N := fun t => (0, t)) Try.func78 h1 h2 r78_ok [] false js_nil js_nil' (by simp [Try.f78]) ?_
  have hl := h.t.l
  have ht1 : tolOf1 [.sl (t.way.map tHop), di t.hop, di t.pos] = some t := tolOf1_row t
  have hw : wayP t := ⟨by omega, by omega⟩
  have hrec : recB t = (t.hop == (t.way.length : Int)) := by unfold recB; rw [decide_eq_true (by omega), if_pos rfl]
  unfold mov1
  cases c1 : (t.hop == (t.way.length : Int)) with
  | true =>
    rw [c1] at hrec
    rw [if_pos rfl]
    simp (config := { maxSteps := 500000 }) only [↓vp, vv, implies_true, forall_const, undef, InI, ↓reduceIte, simprocAttr, c78, r78, TMv, selTol, Net.enc, Pln.enc, Tol.enc, netD, plnD, Tol.row, ht1, hw, hrec, Pu]
  | false =>
    rw [c1] at hrec
    rw [if_neg Bool.false_ne_true]
    have h1' : ¬ t.hop = (t.way.length : Int) := by simpa using c1
    obtain ⟨q1, q2, q3, q4⟩ := h.t.at' h1'
    have q5 : t.hop.toNat < t.way.length := by omega
    have gw := tHop_g t.way t.hop.toNat q5
    rw [way_get q5] at q4 ⊢
    have hin := chn_in h.t.ch _ (List.getElem_mem q5)
    obtain ⟨sg, gs, _, hcap, _, _, hc1, hc2⟩ := seg_at h.v hin
    rw [hcap] at q4 ⊢
    have hrl := h.rl
    have hrb := h.rb
    have hsl := h.v.sl
    generalize hy : t.way[t.hop.toNat] = y at *
    obtain ⟨k, b⟩ := y
    obtain ⟨u1, u2⟩ := hin
    dsimp only at u1 u2 gs
    have k1 : k.toNat < p.rates.length := by omega
    have k2 : k < (p.rates.length : Int) := by omega
    have gr : (p.rates.map iRow).getD k.toNat [] = [di (p.rates.getD k.toNat 0)] := by rw [List.getD_eq_getElem?_getD (l := p.rates), List.getElem?_eq_getElem k1]; exact iRow_at p.rates k.toNat k1
    have hr : -1000000 ≤ p.rates.getD k.toNat 0 ∧ p.rates.getD k.toNat 0 ≤ 1000000 := by
      rw [List.getD_eq_getElem?_getD, List.getElem?_eq_getElem k1]
      exact hrb _ (List.getElem_mem k1)
    unfold tRate
    dsimp only
    generalize p.rates.getD k.toNat 0 = r at *
    have wh : IntKind.i64.wrap (t.hop + 1) = t.hop + 1 := wrap_i (by omega)
    cases b
    · rw [if_neg Bool.false_ne_true]
      have wr : IntKind.i64.wrap (t.pos + r) = t.pos + r := wrap_i (by omega)
      have em : (if 0 < t.pos + r then t.pos + r else 0) = pos0 (t.pos + r) := rfl
      cases d1 : decide (sg.cap < pos0 (t.pos + r)) with
      | true =>
        rw [if_pos rfl]
        simp (config := { maxSteps := 500000 }) only [↓vp, vv, implies_true, forall_const, undef, InI, ↓reduceIte, simprocAttr, c78, c78_3, c78_2, c78_1, r78, TMv, selTol, Net.enc, Pln.enc, Tol.enc, netD, plnD, Tol.row, ht1, hw, hrec, q1, q2, gw, tHop, u1, u2, k2, gr, gs, Seg.row, wr, em, d1, wh, Pu]
      | false =>
        rw [if_neg Bool.false_ne_true]
        simp (config := { maxSteps := 500000 }) only [↓vp, vv, implies_true, forall_const, undef, InI, ↓reduceIte, simprocAttr, c78, c78_3, c78_2, c78_1, r78, TMv, selTol, Net.enc, Pln.enc, Tol.enc, netD, plnD, Tol.row, ht1, hw, hrec, q1, q2, gw, tHop, u1, u2, k2, gr, gs, Seg.row, wr, em, d1, wh, Pu]
    · rw [if_pos rfl]
      have wn : IntKind.i64.wrap (0 - r) = -r := by rw [wrap_i (by omega)]; omega
      have wr : IntKind.i64.wrap (t.pos + -r) = t.pos + -r := wrap_i (by omega)
      have em : (if 0 < t.pos + -r then t.pos + -r else 0) = pos0 (t.pos + -r) := rfl
      cases d1 : decide (sg.cap < pos0 (t.pos + -r)) with
      | true =>
        rw [if_pos rfl]
        simp (config := { maxSteps := 500000 }) only [↓vp, vv, implies_true, forall_const, undef, InI, ↓reduceIte, simprocAttr, c78, c78_3, c78_2, c78_1, r78, TMv, selTol, Net.enc, Pln.enc, Tol.enc, netD, plnD, Tol.row, ht1, hw, hrec, q1, q2, gw, tHop, u1, u2, k2, gr, gs, Seg.row, wn, wr, em, d1, wh, Pu]
      | false =>
        rw [if_neg Bool.false_ne_true]
        simp (config := { maxSteps := 500000 }) only [↓vp, vv, implies_true, forall_const, undef, InI, ↓reduceIte, simprocAttr, c78, c78_3, c78_2, c78_1, r78, TMv, selTol, Net.enc, Pln.enc, Tol.enc, netD, plnD, Tol.row, ht1, hw, hrec, q1, q2, gw, tHop, u1, u2, k2, gr, gs, Seg.row, wn, wr, em, d1, wh, Pu]
end Go.Proofs.Ytkjibmfggeibjaa
