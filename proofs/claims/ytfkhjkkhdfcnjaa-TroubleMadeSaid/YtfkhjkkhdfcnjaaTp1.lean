
/- Troubles: valid, Check. -/
import Derived.Test.YtfkhjkkhdfcnjaaTr5
import Derived.Test.YtfkhjkkhdfcnjaaNk7
import Derived.Test.YtfkhjkkhdfcnjaaCodeP
namespace Go.Proofs.Ytfkhjkkhdfcnjaa
open Go
set_option linter.unusedVariables false
set_option linter.unusedSimpArgs false
set_option maxRecDepth 100000

set_option maxHeartbeats 1000000 in
theorem targets_c (nn : Nm) : CallsA Try.prog 145 [] Hp.none nn (Pu (.sl [[di 0], [di 1], [di 2], [di 2], [di 3]]) Hp.none) := by
  obtain ⟨code, h1, h2⟩ := c145_ok
  refine callsA_of (T0_ok _) mixed (N := fun t => (0, t)) Try.func145 h1 h2 r145_ok [] false js_nil js_nil' (by simp [Try.f145]) ?_
  simp (config := { maxSteps := 500000 }) only [↓vp, vv, implies_true, forall_const, undef, InI, ↓reduceIte, simprocAttr, c145, r145, Pu]
def selTgt : List D → Option (Prop × D)
  | [] => some (True, .sl [[di 0], [di 1], [di 2], [di 2], [di 3]])
  | _ => Option.none
def TV0 : Tbl := tc 145 (rowPu selTgt) T0
theorem TV0_ok : TblOk Try.prog TV0 := by
  refine tc_pu f145_ok (fun args pre d h hp nn => ?_) (T0_ok _)
  unfold selTgt at h
  split at h <;> cases h
  exact targets_c nn
def cntB (p q : Nat) (k : Int) : Int := if k = 1 then p else if k = 2 then q else if k = 3 then q else p + q
def valB (p q : Nat) (t : Tro) : Bool := if t.kind < 1 then false else if 5 ≤ t.kind then false else if t.fr < 0 then false else if t.to < t.fr then false else if 1099511627776 < t.to then false else if t.index < 0 then false else if cntB p q t.kind ≤ t.index then false else
  if t.kind = 1 then (if decide (1 ≤ t.value) = true then decide (t.value ≤ 1000) else false) else if t.kind = 2 then (if decide (-100000 ≤ t.value) = true then decide (t.value ≤ 100000) else false) else t.value == 0
set_option maxHeartbeats 8000000 in
theorem valid_c (a b c d : List (List D)) (v s : Int) (t : Tro) (hb : b.length ≤ 1000000) (hc : c.length ≤ 1000000) (nn : Nm) : CallsA Try.prog 82 [.agg [.sl a, .sl b, .sl c, .sl d, di v, di s], .agg t.row] Hp.none nn (Pu (db (valB b.length c.length t)) Hp.none) := by
  obtain ⟨code, h1, h2⟩ := c82_ok
  refine callsA_of TV0_ok mixed (N := fun t => (0, t)) Try.func82 h1 h2 r82_ok [] false js_nil js_nil' (by simp [Try.f82]) ?_
  have w : IntKind.i64.wrap ((b.length : Int) + c.length) = b.length + c.length := wrap_i (by omega)
  by_cases a1 : t.kind < 1
  · simp (config := { maxSteps := 500000 }) only [↓vp, vv, implies_true, forall_const, undef, InI, ↓reduceIte, simprocAttr, c82, r82, c82_1, c82_2, c82_3, TV0, selTgt, Tro.row, decide_true, decide_false, Int.reduceEq, w, valB, Pu, a1]
  by_cases a2 : 5 ≤ t.kind
  · simp (config := { maxSteps := 500000 }) only [↓vp, vv, implies_true, forall_const, undef, InI, ↓reduceIte, simprocAttr, c82, r82, c82_1, c82_2, c82_3, TV0, selTgt, Tro.row, decide_true, decide_false, Int.reduceEq, w, valB, Pu, a1, a2]
  by_cases a3 : t.fr < 0
  · simp (config := { maxSteps := 500000 }) only [↓vp, vv, implies_true, forall_const, undef, InI, ↓reduceIte, simprocAttr, c82, r82, c82_1, c82_2, c82_3, TV0, selTgt, Tro.row, decide_true, decide_false, Int.reduceEq, w, valB, Pu, a1, a2, a3]
  by_cases a4 : t.to < t.fr
  · simp (config := { maxSteps := 500000 }) only [↓vp, vv, implies_true, forall_const, undef, InI, ↓reduceIte, simprocAttr, c82, r82, c82_1, c82_2, c82_3, TV0, selTgt, Tro.row, decide_true, decide_false, Int.reduceEq, w, valB, Pu, a1, a2, a3, a4]
  by_cases a5 : 1099511627776 < t.to
  · simp (config := { maxSteps := 500000 }) only [↓vp, vv, implies_true, forall_const, undef, InI, ↓reduceIte, simprocAttr, c82, r82, c82_1, c82_2, c82_3, TV0, selTgt, Tro.row, decide_true, decide_false, Int.reduceEq, w, valB, Pu, a1, a2, a3, a4, a5]
  obtain ⟨k, ix, vl, f, to⟩ := t
  dsimp only at a1 a2 a3 a4 a5
  have hk : k = 1 ∨ k = 2 ∨ k = 3 ∨ k = 4 := by omega
  rcases hk with rfl | rfl | rfl | rfl
  · by_cases a6 : ix < 0
    · simp (config := { maxSteps := 500000 }) only [↓vp, vv, implies_true, forall_const, undef, InI, ↓reduceIte, simprocAttr, c82, r82, c82_1, c82_2, c82_3, TV0, selTgt, Tro.row, decide_true, decide_false, Int.reduceEq, w, valB, Pu, a3, a4, a5, a6, cntB]
    by_cases a7 : (b.length : Int) ≤ ix
    · simp (config := { maxSteps := 500000 }) only [↓vp, vv, implies_true, forall_const, undef, InI, ↓reduceIte, simprocAttr, c82, r82, c82_1, c82_2, c82_3, TV0, selTgt, Tro.row, decide_true, decide_false, Int.reduceEq, w, valB, Pu, a3, a4, a5, a6, a7, cntB]
    cases a8 : decide (1 ≤ vl) <;> simp (config := { maxSteps := 500000 }) only [↓vp, vv, implies_true, forall_const, undef, InI, ↓reduceIte, simprocAttr, c82, r82, c82_1, c82_2, c82_3, TV0, selTgt, Tro.row, decide_true, decide_false, Int.reduceEq, w, valB, Pu, a3, a4, a5, a6, a7, a8, cntB]
  · by_cases a6 : ix < 0
    · simp (config := { maxSteps := 500000 }) only [↓vp, vv, implies_true, forall_const, undef, InI, ↓reduceIte, simprocAttr, c82, r82, c82_1, c82_2, c82_3, TV0, selTgt, Tro.row, decide_true, decide_false, Int.reduceEq, w, valB, Pu, a3, a4, a5, a6, cntB]
    by_cases a7 : (c.length : Int) ≤ ix
    · simp (config := { maxSteps := 500000 }) only [↓vp, vv, implies_true, forall_const, undef, InI, ↓reduceIte, simprocAttr, c82, r82, c82_1, c82_2, c82_3, TV0, selTgt, Tro.row, decide_true, decide_false, Int.reduceEq, w, valB, Pu, a3, a4, a5, a6, a7, cntB]
    cases a8 : decide (-100000 ≤ vl) <;> simp (config := { maxSteps := 500000 }) only [↓vp, vv, implies_true, forall_const, undef, InI, ↓reduceIte, simprocAttr, c82, r82, c82_1, c82_2, c82_3, TV0, selTgt, Tro.row, decide_true, decide_false, Int.reduceEq, w, valB, Pu, a3, a4, a5, a6, a7, a8, cntB]
  · by_cases a6 : ix < 0
    · simp (config := { maxSteps := 500000 }) only [↓vp, vv, implies_true, forall_const, undef, InI, ↓reduceIte, simprocAttr, c82, r82, c82_1, c82_2, c82_3, TV0, selTgt, Tro.row, decide_true, decide_false, Int.reduceEq, w, valB, Pu, a3, a4, a5, a6, cntB]
    by_cases a7 : (c.length : Int) ≤ ix
    · simp (config := { maxSteps := 500000 }) only [↓vp, vv, implies_true, forall_const, undef, InI, ↓reduceIte, simprocAttr, c82, r82, c82_1, c82_2, c82_3, TV0, selTgt, Tro.row, decide_true, decide_false, Int.reduceEq, w, valB, Pu, a3, a4, a5, a6, a7, cntB]
    simp (config := { maxSteps := 500000 }) only [↓vp, vv, implies_true, forall_const, undef, InI, ↓reduceIte, simprocAttr, c82, r82, c82_1, c82_2, c82_3, TV0, selTgt, Tro.row, decide_true, decide_false, Int.reduceEq, w, valB, Pu, a3, a4, a5, a6, a7, cntB]
  · by_cases a6 : ix < 0
    · simp (config := { maxSteps := 500000 }) only [↓vp, vv, implies_true, forall_const, undef, InI, ↓reduceIte, simprocAttr, c82, r82, c82_1, c82_2, c82_3, TV0, selTgt, Tro.row, decide_true, decide_false, Int.reduceEq, w, valB, Pu, a3, a4, a5, a6, cntB]
    by_cases a7 : (b.length : Int) + c.length ≤ ix
    · simp (config := { maxSteps := 500000 }) only [↓vp, vv, implies_true, forall_const, undef, InI, ↓reduceIte, simprocAttr, c82, r82, c82_1, c82_2, c82_3, TV0, selTgt, Tro.row, decide_true, decide_false, Int.reduceEq, w, valB, Pu, a3, a4, a5, a6, a7, cntB]
    simp (config := { maxSteps := 500000 }) only [↓vp, vv, implies_true, forall_const, undef, InI, ↓reduceIte, simprocAttr, c82, r82, c82_1, c82_2, c82_3, TV0, selTgt, Tro.row, decide_true, decide_false, Int.reduceEq, w, valB, Pu, a3, a4, a5, a6, a7, cntB]
def valBad (n : Net) (t : Tro) : Bool := !valB n.segs.length n.ports.length t
def selVal : List D → Option (Prop × D)
  | [.agg [.sl a, .sl b, .sl c, .sl d, .v (.int .i64 v), .v (.int .i64 s)], .agg r] => match troOf [r] with
    | some [t] => some (b.length ≤ 1000000 ∧ c.length ≤ 1000000, db (valB b.length c.length t))
    | _ => Option.none
  | _ => Option.none
def TV1 : Tbl := tc 82 (rowPu selVal) T0
theorem TV1_ok : TblOk Try.prog TV1 := by
  refine tc_pu f82_ok (fun args pre d h hp nn => ?_) (T0_ok _)
  unfold selVal at h
  split at h
  · split at h
    · rename_i x hx
      cases h
      have e := troOf_eq hx
      cases e
      exact valid_c _ _ _ _ _ _ x hp.1 hp.2 nn
    · cases h
  · cases h
set_option maxHeartbeats 2000000 in
theorem tck1_c (n : Net) (hz : NetSz n) (t : Tro) (nn : Nm) : CallsA Try.prog 81 [.agg t.row, .ip (netD n)] Hp.none nn (Pu (db (valBad n t)) Hp.none) := by
  obtain ⟨code, h1, h2⟩ := c81_ok
  refine callsA_of TV1_ok mixed (N := fun t => (0, t)) Try.func81 h1 h2 r81_ok [] false js_nil js_nil' (by simp [Try.f81]) ?_
  obtain ⟨_, hz1, hz2, _, _⟩ := hz
  simp (config := { maxSteps := 500000 }) only [↓vp, vv, implies_true, forall_const, undef, InI, ↓reduceIte, simprocAttr, c81, r81, TV1, selVal, Tro.row, netD, troOf_one, hz1, hz2, valBad, Pu]
def troOf1 (r : List D) : Option Tro := match troOf [r] with
  | some [t] => some t
  | _ => Option.none
theorem troOf1_row (t : Tro) : troOf1 t.row = some t := rfl
def chkT (n : Net) (l : List Tro) : Int := if checkI n = 0 then (if (32 : Int) < l.length then 4 else if l.any (valBad n) = true then 30 else 0) else checkI n
def TCk (P : Program) (n : Net) : Tbl := tc 79 (rowPu (selNet fun n => di (checkI n))) (tc 80 (rowPu (selQ P true 5 (fun g l => qRow troOf1 (valBad n)) outC)) T0)
theorem TCk_ok (n : Net) : TblOk Try.prog (TCk Try.prog n) := tc_netf f79_ok check_c (tc_cf f80_ok (fun q g l rows h nn => hasF_T q g l rows h nn) (T0_ok _))
set_option maxHeartbeats 4000000 in
theorem tcheck_c (n : Net) (hz : NetSz n) (l : List Tro) (hl : l.length ≤ 1000000) (nn : Nm) : CallsA Try.prog 22 [n.enc, .sl (l.map Tro.row)] Hp.none nn (Pu (di (chkT n l)) Hp.none) := by
  obtain ⟨code, h1, h2⟩ := c22_ok
  refine callsA_of (TCk_ok n) mixed (N := fun t => (0, t)) Try.func22 h1 h2 r22_ok [] false js_nil js_nil' (by simp [Try.f22]) ?_
  have hn1 : netOf1 [D.sl (n.nodes.map nmRow), .sl (n.segs.map Seg.row), .sl (n.ports.map Port.row), .sl (n.sts.map Stn.row), di n.vap, di n.set] = some n := netOf1_row n
  by_cases a1 : checkI n = 0
  · have a1' : (checkI n != 0) = false := by simp [a1]
    have hc : chkT n l = if (32 : Int) < l.length then 4 else if l.any (valBad n) = true then 30 else 0 := by unfold chkT; rw [if_pos a1]
    have hq : QOk Try.prog true 5 (qRow troOf1 (valBad n)) 81 [netD n] (l.map Tro.row) := by
      refine ⟨f81_ok, by simp; omega, fun r hr => ?_⟩
      obtain ⟨x, _, rfl⟩ := List.mem_map.1 hr
      exact ⟨rfl, x.done, fun h => Bool.noConfusion h, fun nn => tck1_c n hz x nn⟩
    have ho := outC_rows troOf1 Tro.row (valBad n) troOf1_row l
    simp (config := { maxSteps := 500000 }) only [↓vp, vv, implies_true, forall_const, undef, InI, ↓reduceIte, simprocAttr, c22, TCk, selNet, Net.enc, hn1, hz, a1, bne_self_eq_false]
    refine vc_wk ((weak_ip 2 (0, 2) 0 6 (netD n) (by simp (config := { maxSteps := 500000 }) only [↓vp, vv, implies_true, forall_const, undef, InI, ↓reduceIte, simprocAttr, ]) (by simp (config := { maxSteps := 500000 }) only [↓vp, vv, implies_true, forall_const, undef, InI, ↓reduceIte, simprocAttr, netD]) (by simp (config := { maxSteps := 500000 }) only [↓vp, vv, implies_true, forall_const, undef, InI, ↓reduceIte, simprocAttr, netD]) (by simp)).trans (weak0 (l := [(1, .sl (l.map Tro.row)), (2, .ip (netD n))]) (by simp (config := { maxSteps := 500000 }) only [↓vp, vv, implies_true, forall_const, undef, InI, ↓reduceIte, simprocAttr, coverS]) (by simp (config := { maxSteps := 500000 }) only [↓vp, vv, implies_true, forall_const, undef, InI, ↓reduceIte, simprocAttr, refsF]))) ?_
    by_cases a2 : (32 : Int) < l.length
    · rw [if_pos a2] at hc
      simp (config := { maxSteps := 500000 }) only [↓vp, vv, implies_true, forall_const, undef, InI, ↓reduceIte, simprocAttr, c22, r22, c22_1, c22_2, a2, hc, Pu]
    · rw [if_neg a2] at hc
      cases a3 : l.any (valBad n) with
      | true =>
        rw [a3] at hc ho
        have hc3 : chkT n l = 30 := hc
        simp (config := { maxSteps := 500000 }) only [↓vp, vv, implies_true, forall_const, undef, InI, ↓reduceIte, simprocAttr, c22, r22, c22_1, c22_2, TCk, selQ, ipsOf, hq, ho, a2, hc3, Pu]
      | false =>
        rw [a3] at hc ho
        have hc3 : chkT n l = 0 := hc
        simp (config := { maxSteps := 500000 }) only [↓vp, vv, implies_true, forall_const, undef, InI, ↓reduceIte, simprocAttr, c22, r22, c22_1, c22_2, TCk, selQ, ipsOf, hq, ho, a2, hc3, Pu]
  · have a1' : (checkI n != 0) = true := by simp [a1]
    have hc : chkT n l = checkI n := by unfold chkT; rw [if_neg a1]
    simp (config := { maxSteps := 500000 }) only [↓vp, vv, implies_true, forall_const, undef, InI, ↓reduceIte, simprocAttr, c22, r22, c22_1, c22_2, TCk, selNet, Net.enc, hn1, hz, a1', hc, Pu]
end Go.Proofs.Ytfkhjkkhdfcnjaa
