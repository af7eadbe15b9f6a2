
/- Networks: segments in their ranges. -/
import Derived.Test.YtkjibmfggeibjaaNk5
namespace Go.Proofs.Ytkjibmfggeibjaa
open Go
set_option linter.unusedVariables false
set_option linter.unusedSimpArgs false
set_option maxRecDepth 100000

def inB (a b c : Int) : Bool := if decide (b ≤ a) = true then decide (a ≤ c) else false
set_option maxHeartbeats 1000000 in
theorem in_c (a b c : Int) (nn : Nm) : CallsA Try.prog 190 [di a, di b, di c] Hp.none nn (Pu (db (inB a b c)) Hp.none) := by
  obtain ⟨code, h1, h2⟩ := c190_ok
  refine callsA_of (T0_ok _) mixed (N := fun t => (0, t)) Try.func190 h1 h2 r190_ok [] false js_nil js_nil' (by simp [Try.f190]) ?_
  cases hb : decide (b ≤ a) <;> simp (config := { maxSteps := 500000 }) only [↓vp, vv, implies_true, forall_const, undef, InI, ↓reduceIte, simprocAttr, c190, r190, hb, Pu, inB]
set_option maxHeartbeats 1000000 in
theorem rin_c (a b c : Int) (nn : Nm) : CallsA Try.prog 156 [di a, di b, di c] Hp.none nn (Pu (db (inB a b c)) Hp.none) := by
  obtain ⟨code, h1, h2⟩ := c156_ok
  refine callsA_of (T0_ok _) mixed (N := fun t => (0, t)) Try.func156 h1 h2 r156_ok [] false js_nil js_nil' (by simp [Try.f156]) ?_
  cases hb : decide (b ≤ a) <;> simp (config := { maxSteps := 500000 }) only [↓vp, vv, implies_true, forall_const, undef, InI, ↓reduceIte, simprocAttr, c156, r156, hb, Pu, inB]
def selIn : List D → Option (Prop × D)
  | [.v (.int .i64 a), .v (.int .i64 b), .v (.int .i64 c)] => some (True, db (inB a b c))
  | _ => Option.none
def TI : Tbl := tc 190 (rowPu selIn) (tc 156 (rowPu selIn) T0)
theorem TI_ok : TblOk Try.prog TI := by
  refine tc_pu f190_ok (fun args pre d h hp nn => ?_) (tc_pu f156_ok (fun args pre d h hp nn => ?_) (T0_ok _))
  · unfold selIn at h
    split at h <;> cases h
    exact in_c _ _ _ nn
  · unfold selIn at h
    split at h <;> cases h
    exact rin_c _ _ _ nn
/-- A point that is not in its ranges, or not behind the one before. -/
def ptBad (l : List Pt) (i : Nat) : Bool := match l[i]? with
  | some p => if inB p.height (-500) 5000 = true then (if inB p.limit 0 100000000 = true then (if 0 < i then decide (p.at' ≤ (l.getD (i - 1) ⟨0, 0, 0⟩).at') else false) else true) else true
  | Option.none => false
def pipeB (s : Seg) : Bool := if (s.fr == s.to) = true then false else if inB s.cap 1 1000000 = true then (if inB s.resist 0 1000 = true then (if inB s.wave 0 100000 = true then
    (if (List.range s.points.length).any (ptBad s.points) = true then false else if ((s.points.getD 0 ⟨0, 0, 0⟩).at' == 0) = true then (s.points.getD (s.points.length - 1) ⟨0, 0, 0⟩).at' == s.cap else false) else false) else false) else false
theorem pt_at {l : List Pt} {i : Nat} (h : i < l.length) : ptBad l i = if inB l[i].height (-500) 5000 = true then (if inB l[i].limit 0 100000000 = true then (if 0 < i then decide (l[i].at' ≤ (l.getD (i - 1) ⟨0, 0, 0⟩).at') else false) else true) else true := by
  unfold ptBad
  rw [List.getElem?_eq_getElem h]
theorem getD_lt {α : Type} {l : List α} {k : Nat} (h : k < l.length) (d : α) : l.getD k d = l[k] := by rw [List.getD_eq_getElem?_getD, List.getElem?_eq_getElem h]; rfl
set_option maxHeartbeats 8000000 in
theorem pipe_c (s : Seg) (hz : 1 ≤ s.points.length ∧ s.points.length ≤ 1000000) (nn : Nm) : CallsA Try.prog 187 [.agg s.row] Hp.none nn (Pu (db (pipeB s)) Hp.none) := by
  obtain ⟨code, h1, h2⟩ := c187_ok
  refine callsA_of TI_ok mixed (N := fun t => (0, t)) Try.func187 h1 h2 r187_ok [] false js_nil js_nil' (by simp [Try.f187]) ?_
  cases a1 : (s.fr == s.to) with
  | true => simp (config := { maxSteps := 500000 }) only [↓vp, vv, implies_true, forall_const, undef, InI, ↓reduceIte, simprocAttr, c187, r187, c187_1, c187_2, c187_3, c187_4, c187_5, TI, selIn, Seg.row, a1, pipeB, Pu]
  | false =>
  cases a2 : inB s.cap 1 1000000 with
  | false => simp (config := { maxSteps := 500000 }) only [↓vp, vv, implies_true, forall_const, undef, InI, ↓reduceIte, simprocAttr, c187, r187, c187_1, c187_2, c187_3, c187_4, c187_5, TI, selIn, Seg.row, a1, a2, pipeB, Pu]
  | true =>
  cases a3 : inB s.resist 0 1000 with
  | false => simp (config := { maxSteps := 500000 }) only [↓vp, vv, implies_true, forall_const, undef, InI, ↓reduceIte, simprocAttr, c187, r187, c187_1, c187_2, c187_3, c187_4, c187_5, TI, selIn, Seg.row, a1, a2, a3, pipeB, Pu]
  | true =>
  cases a4 : inB s.wave 0 100000 with
  | false => simp (config := { maxSteps := 500000 }) only [↓vp, vv, implies_true, forall_const, undef, InI, ↓reduceIte, simprocAttr, c187, r187, c187_1, c187_2, c187_3, c187_4, c187_5, TI, selIn, Seg.row, a1, a2, a3, a4, pipeB, Pu]
  | true =>
  generalize hb : (List.range s.points.length).any (ptBad s.points) = b
  have hp : pipeB s = if b = true then false else if ((s.points.getD 0 ⟨0, 0, 0⟩).at' == 0) = true then (s.points.getD (s.points.length - 1) ⟨0, 0, 0⟩).at' == s.cap else false := by unfold pipeB; rw [a1, a2, a3, a4, hb]; rfl
  simp (config := { maxSteps := 500000 }) only [↓vp, vv, implies_true, forall_const, undef, InI, ↓reduceIte, simprocAttr, c187, c187_5, TI, selIn, Seg.row, a1, a2, a3, a4]
  refine rng_loop s.points.length (fun j => ⟨fr [(1, .ptr (0, 1) 0 0 0), (29, .sl (s.points.map Pt.row)), (30, di s.points.length), (31, di j)], Hp.none.put (0, 1) ⟨0, 7, [s.row]⟩⟩) (fun j => ((List.range s.points.length).drop j).any (ptBad s.points) = b) (weak1 (by simp (config := { maxSteps := 500000 }) only [↓vp, vv, implies_true, forall_const, undef, InI, ↓reduceIte, simprocAttr, coverS]) (by simp (config := { maxSteps := 500000 }) only [↓vp, vv, implies_true, forall_const, undef, InI, ↓reduceIte, simprocAttr, refsF]) (by simp (config := { maxSteps := 500000 }) only [↓vp, vv, implies_true, forall_const, undef, InI, ↓reduceIte, simprocAttr, Seg.row]) (by simp (config := { maxSteps := 500000 }) only [↓vp, vv, implies_true, forall_const, undef, InI, ↓reduceIte, simprocAttr, ])) hb (fun j hj he => ?_) (fun he => ?_)
  · have hj' : (j : Int) < s.points.length := by omega
    have hn := idx_nn j
    have w1 := idx_next (j := j) (by omega)
    have hjl : j < (List.range s.points.length).length := by simpa using hj
    obtain ⟨hf, ht⟩ := drop_any hjl he
    rw [range_at, pt_at hj] at hf ht
    have hg := getD_map Pt.row s.points j hj
    have hpr : 0 < j → (s.points.map Pt.row).getD (j - 1) [] = (s.points.getD (j - 1) ⟨0, 0, 0⟩).row := fun h => by
      have h' : j - 1 < s.points.length := by omega
      rw [getD_map Pt.row s.points (j - 1) h', getD_lt h']
    generalize s.points[j] = x at hf ht hg
    generalize s.points.getD (j - 1) ⟨0, 0, 0⟩ = y at hf ht hpr
    have bad : b = true → pipeB s = false := fun h => by rw [hp, h]; rfl
    cases b1 : inB x.height (-500) 5000 with
    | false =>
      have e1 := bad (hf (by rw [b1]; rfl))
      simp (config := { maxSteps := 500000 }) only [↓vp, vv, implies_true, forall_const, undef, InI, ↓reduceIte, simprocAttr, c187, r187, c187_1, c187_2, c187_3, c187_4, c187_5, TI, selIn, hj', hn, Int.toNat_natCast, hg, Pt.row, b1, e1, Pu]
    | true =>
    cases b2 : inB x.limit 0 100000000 with
    | false =>
      have e1 := bad (hf (by rw [b1, b2]; rfl))
      simp (config := { maxSteps := 500000 }) only [↓vp, vv, implies_true, forall_const, undef, InI, ↓reduceIte, simprocAttr, c187, r187, c187_1, c187_2, c187_3, c187_4, c187_5, TI, selIn, hj', hn, Int.toNat_natCast, hg, Pt.row, b1, b2, e1, Pu]
    | true =>
    by_cases b3 : 0 < j
    · have b3' : (0 : Int) < j := by omega
      have w2 : IntKind.i64.wrap ((j : Int) - 1) = ((j - 1 : Nat) : Int) := by rw [wrap_i (by omega)]; omega
      have hn2 := idx_nn (j - 1)
      have hj2 : ((j - 1 : Nat) : Int) < s.points.length := by omega
      have hpr' := hpr b3
      cases b4 : decide (x.at' ≤ y.at') with
      | true =>
        have e1 := bad (hf (by rw [b1, b2, b4]; simp [b3]))
        simp (config := { maxSteps := 500000 }) only [↓vp, vv, implies_true, forall_const, undef, InI, ↓reduceIte, simprocAttr, c187, r187, c187_1, c187_2, c187_3, c187_4, c187_5, TI, selIn, hj', hn, Int.toNat_natCast, hg, Seg.row, Pt.row, b1, b2, b3', w2, hn2, hj2, hpr', b4, e1, Pu]
      | false =>
        simp (config := { maxSteps := 500000 }) only [↓vp, vv, implies_true, forall_const, undef, InI, ↓reduceIte, simprocAttr, c187, r187, c187_1, c187_2, c187_3, c187_4, c187_5, TI, selIn, hj', hn, Int.toNat_natCast, hg, Seg.row, Pt.row, b1, b2, b3', w2, hn2, hj2, hpr', b4, w1]
        exact rng_next hj (weak1 (by simp (config := { maxSteps := 500000 }) only [↓vp, vv, implies_true, forall_const, undef, InI, ↓reduceIte, simprocAttr, coverS, Pt.row, w1]) (by simp (config := { maxSteps := 500000 }) only [↓vp, vv, implies_true, forall_const, undef, InI, ↓reduceIte, simprocAttr, refsF]) (by simp (config := { maxSteps := 500000 }) only [↓vp, vv, implies_true, forall_const, undef, InI, ↓reduceIte, simprocAttr, Seg.row]) (by simp (config := { maxSteps := 500000 }) only [↓vp, vv, implies_true, forall_const, undef, InI, ↓reduceIte, simprocAttr, ])) (ht (by rw [b1, b2, b4]; simp))
    · have b3' : ¬ (0 : Int) < j := by omega
      simp (config := { maxSteps := 500000 }) only [↓vp, vv, implies_true, forall_const, undef, InI, ↓reduceIte, simprocAttr, c187, r187, c187_1, c187_2, c187_3, c187_4, c187_5, TI, selIn, hj', hn, Int.toNat_natCast, hg, Seg.row, Pt.row, b1, b2, b3', w1, decide_false]
      exact rng_next hj (weak1 (by simp (config := { maxSteps := 500000 }) only [↓vp, vv, implies_true, forall_const, undef, InI, ↓reduceIte, simprocAttr, coverS, Pt.row, w1]) (by simp (config := { maxSteps := 500000 }) only [↓vp, vv, implies_true, forall_const, undef, InI, ↓reduceIte, simprocAttr, refsF]) (by simp (config := { maxSteps := 500000 }) only [↓vp, vv, implies_true, forall_const, undef, InI, ↓reduceIte, simprocAttr, Seg.row]) (by simp (config := { maxSteps := 500000 }) only [↓vp, vv, implies_true, forall_const, undef, InI, ↓reduceIte, simprocAttr, ])) (ht (by rw [b1, b2]; simp [b3]))
  · have e1 : b = false := drop_any_end (by simp) he
    rw [e1] at hp
    simp only [Bool.false_eq_true, if_false] at hp
    have h0 : (s.points.map Pt.row).getD 0 [] = (s.points.getD 0 ⟨0, 0, 0⟩).row := by rw [getD_map Pt.row s.points 0 (by omega), getD_lt (by omega)]
    have h9 : (s.points.map Pt.row).getD (s.points.length - 1) [] = (s.points.getD (s.points.length - 1) ⟨0, 0, 0⟩).row := by rw [getD_map Pt.row s.points (s.points.length - 1) (by omega), getD_lt (by omega)]
    generalize s.points.getD 0 ⟨0, 0, 0⟩ = x at hp h0
    generalize s.points.getD (s.points.length - 1) ⟨0, 0, 0⟩ = y at hp h9
    have w2 : IntKind.i64.wrap ((s.points.length : Int) - 1) = ((s.points.length - 1 : Nat) : Int) := by rw [wrap_i (by omega)]; omega
    have hn2 := idx_nn (s.points.length - 1)
    have hj2 : ((s.points.length - 1 : Nat) : Int) < s.points.length := by omega
    have hj0 : (0 : Int) < s.points.length := by omega
    have hlt' : ¬ (s.points.length : Int) < s.points.length := by omega
    cases b1 : (x.at' == 0) with
    | false =>
      rw [b1] at hp
      simp (config := { maxSteps := 500000 }) only [↓vp, vv, implies_true, forall_const, undef, InI, ↓reduceIte, simprocAttr, c187, r187, c187_1, c187_2, c187_3, c187_4, c187_5, TI, selIn, Seg.row, Pt.row, Int.lt_irrefl, hj0, h0, b1, hp, Pu]
    | true =>
      rw [b1, if_pos rfl] at hp
      simp (config := { maxSteps := 500000 }) only [↓vp, vv, implies_true, forall_const, undef, InI, ↓reduceIte, simprocAttr, c187, r187, c187_1, c187_2, c187_3, c187_4, c187_5, TI, selIn, Seg.row, Pt.row, Int.lt_irrefl, Int.toNat_natCast, hj0, h0, h9, w2, hn2, hj2, b1, hp, Pu]
end Go.Proofs.Ytkjibmfggeibjaa
