
/- Troubles: Leak, Drift, Stopped, Stuck. -/
import Derived.Test.YtiaenojpbiahgaaTr1
namespace Go.Proofs.Ytiaenojpbiahgaa
open Go
set_option linter.unusedVariables false
set_option linter.unusedSimpArgs false
set_option maxRecDepth 100000

set_option maxHeartbeats 4000000 in
theorem some1_c (x : Tro) (k i t : Int) (nn : Nm) : CallsA Try.prog 80 [.agg x.row, .ip [di k], .ip [di i], .ip [di t]] Hp.none nn (Pu (db (isB k i t x)) Hp.none) := by
  obtain ⟨code, h1, h2⟩ := c80_ok
  refine callsA_of TT0_ok mixed (N := fun t => (0, t)) Try.func80 h1 h2 r80_ok [] false js_nil js_nil' (by simp [Try.f80]) ?_
  cases hk : x.kind == k with
  | false => simp (config := { maxSteps := 500000 }) only [↓vp, implies_true, forall_const, v1, v2, v3, v4, v5, v6, v7, v8, Int.reduceBEq, Nat.reduceEqDiff, Nat.reduceAdd, Nat.reduceSub, Nat.reduceMul, Nat.reduceLT, Nat.reduceLeDiff, ↓reduceIte, reduceCtorEq, undef, InI, Int.reduceNeg, Int.reduceSub, Int.reduceLE, Int.reduceLT, Int.reduceAdd, Int.reduceMul, Int.reduceToNat, reduceIte, c80, r80, TT0, selThere, Tro.row, hk, isB, troOf_one, Pu]
  | true =>
    cases hi : x.index == i with
    | false => simp (config := { maxSteps := 500000 }) only [↓vp, implies_true, forall_const, v1, v2, v3, v4, v5, v6, v7, v8, Int.reduceBEq, Nat.reduceEqDiff, Nat.reduceAdd, Nat.reduceSub, Nat.reduceMul, Nat.reduceLT, Nat.reduceLeDiff, ↓reduceIte, reduceCtorEq, undef, InI, Int.reduceNeg, Int.reduceSub, Int.reduceLE, Int.reduceLT, Int.reduceAdd, Int.reduceMul, Int.reduceToNat, reduceIte, c80, r80, TT0, selThere, Tro.row, hk, hi, isB, troOf_one, Pu]
    | true => simp (config := { maxSteps := 500000 }) only [↓vp, implies_true, forall_const, v1, v2, v3, v4, v5, v6, v7, v8, Int.reduceBEq, Nat.reduceEqDiff, Nat.reduceAdd, Nat.reduceSub, Nat.reduceMul, Nat.reduceLT, Nat.reduceLeDiff, ↓reduceIte, reduceCtorEq, undef, InI, Int.reduceNeg, Int.reduceSub, Int.reduceLE, Int.reduceLT, Int.reduceAdd, Int.reduceMul, Int.reduceToNat, reduceIte, c80, r80, TT0, selThere, Tro.row, hk, hi, isB, troOf_one, Pu]
def qSome (g : FuncId) (l : List (List D)) (d : D) : Bool :=
  match l, d with
  | [[.v (.int .i64 k)], [.v (.int .i64 i)], [.v (.int .i64 t)]], .agg r => match troOf [r] with
    | some [x] => isB k i t x
    | _ => false
  | _, _ => false
theorem qSome_at (g : FuncId) (k i t : Int) (x : Tro) : qSome g [[di k], [di i], [di t]] (elV true x.row) = isB k i t x := rfl
def TT1 (P : Program) : Tbl := tc 55 (rowPu (selQ P true 5 qSome outC)) T0
theorem TT1_ok : TblOk Try.prog (TT1 Try.prog) := by
  refine tc_pu f55_ok (fun args pre d h hp nn => ?_) (T0_ok _)
  unfold selQ at h
  split at h
  · split at h
    · rename_i hi
      cases h
      rw [ipsOf_eq hi]
      exact hasF_T _ _ _ _ hp nn
    · cases h
  · cases h
theorem qok_some (l : List Tro) (k i t : Int) (hl : l.length ≤ 1000000) : QOk Try.prog true 5 (qSome 80 [[di k], [di i], [di t]]) 80 [[di k], [di i], [di t]] (l.map Tro.row) := by
  refine ⟨f80_ok, by simp; omega, fun r hr => ?_⟩
  obtain ⟨x, _, rfl⟩ := List.mem_map.1 hr
  exact ⟨rfl, x.done, fun h => (Bool.noConfusion h), fun nn => some1_c x k i t nn⟩
set_option maxHeartbeats 4000000 in
theorem some_c (l : List Tro) (k i t : Int) (hl : l.length ≤ 1000000) (nn : Nm) : CallsA Try.prog 51 [.sl (l.map Tro.row), di k, di i, di t] Hp.none nn (Pu (db (trHas l k i t)) Hp.none) := by
  obtain ⟨code, h1, h2⟩ := c51_ok
  refine callsA_of TT1_ok mixed (N := fun t => (0, t)) Try.func51 h1 h2 r51_ok [] false js_nil js_nil' (by simp [Try.f51]) ?_
  have ha : outC (fun r => qSome 80 [[di k], [di i], [di t]] (elV true r)) (l.map Tro.row) = db (trHas l k i t) := by
    unfold outC trHas
    rw [List.any_map]
    rfl
  simp (config := { maxSteps := 500000 }) only [↓vp, implies_true, forall_const, v1, v2, v3, v4, v5, v6, v7, v8, Int.reduceBEq, Nat.reduceEqDiff, Nat.reduceAdd, Nat.reduceSub, Nat.reduceMul, Nat.reduceLT, Nat.reduceLeDiff, ↓reduceIte, reduceCtorEq, undef, InI, Int.reduceNeg, Int.reduceSub, Int.reduceLE, Int.reduceLT, Int.reduceAdd, Int.reduceMul, Int.reduceToNat, reduceIte, c51]
  refine vc_wk ((weak_ip 5 (0, 5) 0 1 [di k] (by simp (config := { maxSteps := 500000 }) only [↓vp, implies_true, forall_const, v1, v2, v3, v4, v5, v6, v7, v8, Int.reduceBEq, Nat.reduceEqDiff, Nat.reduceAdd, Nat.reduceSub, Nat.reduceMul, Nat.reduceLT, Nat.reduceLeDiff, ↓reduceIte, reduceCtorEq, undef, InI, Int.reduceNeg, Int.reduceSub, Int.reduceLE, Int.reduceLT, Int.reduceAdd, Int.reduceMul, Int.reduceToNat, reduceIte, ]) (by simp (config := { maxSteps := 500000 }) only [↓vp, implies_true, forall_const, v1, v2, v3, v4, v5, v6, v7, v8, Int.reduceBEq, Nat.reduceEqDiff, Nat.reduceAdd, Nat.reduceSub, Nat.reduceMul, Nat.reduceLT, Nat.reduceLeDiff, ↓reduceIte, reduceCtorEq, undef, InI, Int.reduceNeg, Int.reduceSub, Int.reduceLE, Int.reduceLT, Int.reduceAdd, Int.reduceMul, Int.reduceToNat, reduceIte, ]) (by simp (config := { maxSteps := 500000 }) only [↓vp, implies_true, forall_const, v1, v2, v3, v4, v5, v6, v7, v8, Int.reduceBEq, Nat.reduceEqDiff, Nat.reduceAdd, Nat.reduceSub, Nat.reduceMul, Nat.reduceLT, Nat.reduceLeDiff, ↓reduceIte, reduceCtorEq, undef, InI, Int.reduceNeg, Int.reduceSub, Int.reduceLE, Int.reduceLT, Int.reduceAdd, Int.reduceMul, Int.reduceToNat, reduceIte, ]) (by simp)).trans ((weak_ip 6 (0, 6) 0 1 [di i] (by simp (config := { maxSteps := 500000 }) only [↓vp, implies_true, forall_const, v1, v2, v3, v4, v5, v6, v7, v8, Int.reduceBEq, Nat.reduceEqDiff, Nat.reduceAdd, Nat.reduceSub, Nat.reduceMul, Nat.reduceLT, Nat.reduceLeDiff, ↓reduceIte, reduceCtorEq, undef, InI, Int.reduceNeg, Int.reduceSub, Int.reduceLE, Int.reduceLT, Int.reduceAdd, Int.reduceMul, Int.reduceToNat, reduceIte, ]) (by simp (config := { maxSteps := 500000 }) only [↓vp, implies_true, forall_const, v1, v2, v3, v4, v5, v6, v7, v8, Int.reduceBEq, Nat.reduceEqDiff, Nat.reduceAdd, Nat.reduceSub, Nat.reduceMul, Nat.reduceLT, Nat.reduceLeDiff, ↓reduceIte, reduceCtorEq, undef, InI, Int.reduceNeg, Int.reduceSub, Int.reduceLE, Int.reduceLT, Int.reduceAdd, Int.reduceMul, Int.reduceToNat, reduceIte, ]) (by simp (config := { maxSteps := 500000 }) only [↓vp, implies_true, forall_const, v1, v2, v3, v4, v5, v6, v7, v8, Int.reduceBEq, Nat.reduceEqDiff, Nat.reduceAdd, Nat.reduceSub, Nat.reduceMul, Nat.reduceLT, Nat.reduceLeDiff, ↓reduceIte, reduceCtorEq, undef, InI, Int.reduceNeg, Int.reduceSub, Int.reduceLE, Int.reduceLT, Int.reduceAdd, Int.reduceMul, Int.reduceToNat, reduceIte, ]) (by simp)).trans ((weak_ip 7 (0, 7) 0 1 [di t] (by simp (config := { maxSteps := 500000 }) only [↓vp, implies_true, forall_const, v1, v2, v3, v4, v5, v6, v7, v8, Int.reduceBEq, Nat.reduceEqDiff, Nat.reduceAdd, Nat.reduceSub, Nat.reduceMul, Nat.reduceLT, Nat.reduceLeDiff, ↓reduceIte, reduceCtorEq, undef, InI, Int.reduceNeg, Int.reduceSub, Int.reduceLE, Int.reduceLT, Int.reduceAdd, Int.reduceMul, Int.reduceToNat, reduceIte, ]) (by simp (config := { maxSteps := 500000 }) only [↓vp, implies_true, forall_const, v1, v2, v3, v4, v5, v6, v7, v8, Int.reduceBEq, Nat.reduceEqDiff, Nat.reduceAdd, Nat.reduceSub, Nat.reduceMul, Nat.reduceLT, Nat.reduceLeDiff, ↓reduceIte, reduceCtorEq, undef, InI, Int.reduceNeg, Int.reduceSub, Int.reduceLE, Int.reduceLT, Int.reduceAdd, Int.reduceMul, Int.reduceToNat, reduceIte, ]) (by simp (config := { maxSteps := 500000 }) only [↓vp, implies_true, forall_const, v1, v2, v3, v4, v5, v6, v7, v8, Int.reduceBEq, Nat.reduceEqDiff, Nat.reduceAdd, Nat.reduceSub, Nat.reduceMul, Nat.reduceLT, Nat.reduceLeDiff, ↓reduceIte, reduceCtorEq, undef, InI, Int.reduceNeg, Int.reduceSub, Int.reduceLE, Int.reduceLT, Int.reduceAdd, Int.reduceMul, Int.reduceToNat, reduceIte, ]) (by simp)).trans
    (weak_eq [] [] [(0, .sl (l.map Tro.row)), (5, .ip [di k]), (6, .ip [di i]), (7, .ip [di t])] (by simp (config := { maxSteps := 500000 }) only [↓vp, implies_true, forall_const, v1, v2, v3, v4, v5, v6, v7, v8, Int.reduceBEq, Nat.reduceEqDiff, Nat.reduceAdd, Nat.reduceSub, Nat.reduceMul, Nat.reduceLT, Nat.reduceLeDiff, ↓reduceIte, reduceCtorEq, undef, InI, Int.reduceNeg, Int.reduceSub, Int.reduceLE, Int.reduceLT, Int.reduceAdd, Int.reduceMul, Int.reduceToNat, reduceIte, coverS]) (by simp (config := { maxSteps := 500000 }) only [↓vp, implies_true, forall_const, v1, v2, v3, v4, v5, v6, v7, v8, Int.reduceBEq, Nat.reduceEqDiff, Nat.reduceAdd, Nat.reduceSub, Nat.reduceMul, Nat.reduceLT, Nat.reduceLeDiff, ↓reduceIte, reduceCtorEq, undef, InI, Int.reduceNeg, Int.reduceSub, Int.reduceLE, Int.reduceLT, Int.reduceAdd, Int.reduceMul, Int.reduceToNat, reduceIte, refsF]) (by simp (config := { maxSteps := 500000 }) only [↓vp, implies_true, forall_const, v1, v2, v3, v4, v5, v6, v7, v8, Int.reduceBEq, Nat.reduceEqDiff, Nat.reduceAdd, Nat.reduceSub, Nat.reduceMul, Nat.reduceLT, Nat.reduceLeDiff, ↓reduceIte, reduceCtorEq, undef, InI, Int.reduceNeg, Int.reduceSub, Int.reduceLE, Int.reduceLT, Int.reduceAdd, Int.reduceMul, Int.reduceToNat, reduceIte, ]) (by simp) (by simp (config := { maxSteps := 500000 }) only [↓vp, implies_true, forall_const, v1, v2, v3, v4, v5, v6, v7, v8, Int.reduceBEq, Nat.reduceEqDiff, Nat.reduceAdd, Nat.reduceSub, Nat.reduceMul, Nat.reduceLT, Nat.reduceLeDiff, ↓reduceIte, reduceCtorEq, undef, InI, Int.reduceNeg, Int.reduceSub, Int.reduceLE, Int.reduceLT, Int.reduceAdd, Int.reduceMul, Int.reduceToNat, reduceIte, ]; try rfl))))) ?_
  have hq := qok_some l k i t hl
  simp (config := { maxSteps := 500000 }) only [↓vp, implies_true, forall_const, v1, v2, v3, v4, v5, v6, v7, v8, Int.reduceBEq, Nat.reduceEqDiff, Nat.reduceAdd, Nat.reduceSub, Nat.reduceMul, Nat.reduceLT, Nat.reduceLeDiff, ↓reduceIte, reduceCtorEq, undef, InI, Int.reduceNeg, Int.reduceSub, Int.reduceLE, Int.reduceLT, Int.reduceAdd, Int.reduceMul, Int.reduceToNat, reduceIte, c51, r51, c51_1, TT1, selQ, ipsOf, hq, ha, Pu]
def selSum : List D → Option (Prop × D)
  | [.sl rows, .v (.int .i64 k), .v (.int .i64 i), .v (.int .i64 t)] => match troOf rows with
    | some l => some (l.length ≤ 1000000, di (trSum l k i t))
    | _ => Option.none
  | _ => Option.none
def selSome : List D → Option (Prop × D)
  | [.sl rows, .v (.int .i64 k), .v (.int .i64 i), .v (.int .i64 t)] => match troOf rows with
    | some l => some (l.length ≤ 1000000, db (trHas l k i t))
    | _ => Option.none
  | _ => Option.none
def TT2 : Tbl := tc 50 (rowPu selSum) (tc 51 (rowPu selSome) T0)
theorem TT2_ok : TblOk Try.prog TT2 := by
  refine tc_pu f50_ok (fun args pre d h hp nn => ?_) (tc_pu f51_ok (fun args pre d h hp nn => ?_) (T0_ok _))
  · unfold selSum at h
    split at h
    · split at h
      · rename_i hm; cases h; rw [troOf_eq hm]; exact sum_c _ _ _ _ hp nn
      · cases h
    · cases h
  · unfold selSome at h
    split at h
    · split at h
      · rename_i hm; cases h; rw [troOf_eq hm]; exact some_c _ _ _ _ hp nn
      · cases h
    · cases h
set_option maxHeartbeats 4000000 in
theorem Leak_c (l : List Tro) (i t : Int) (hl : l.length ≤ 1000000) (nn : Nm) : CallsA Try.prog 18 [.sl (l.map Tro.row), di i, di t] Hp.none nn (Pu (di (trSum l 1 i t)) Hp.none) := by
  obtain ⟨code, h1, h2⟩ := c18_ok
  refine callsA_of TT2_ok mixed (N := fun t => (0, t)) Try.func18 h1 h2 r18_ok [] false js_nil js_nil' (by simp [Try.f18]) ?_
  simp (config := { maxSteps := 500000 }) only [↓vp, implies_true, forall_const, v1, v2, v3, v4, v5, v6, v7, v8, Int.reduceBEq, Nat.reduceEqDiff, Nat.reduceAdd, Nat.reduceSub, Nat.reduceMul, Nat.reduceLT, Nat.reduceLeDiff, ↓reduceIte, reduceCtorEq, undef, InI, Int.reduceNeg, Int.reduceSub, Int.reduceLE, Int.reduceLT, Int.reduceAdd, Int.reduceMul, Int.reduceToNat, reduceIte, c18, r18, TT2, selSum, selSome, troOf_map, hl, Pu]
set_option maxHeartbeats 4000000 in
theorem Drift_c (l : List Tro) (i t : Int) (hl : l.length ≤ 1000000) (nn : Nm) : CallsA Try.prog 19 [.sl (l.map Tro.row), di i, di t] Hp.none nn (Pu (di (trSum l 2 i t)) Hp.none) := by
  obtain ⟨code, h1, h2⟩ := c19_ok
  refine callsA_of TT2_ok mixed (N := fun t => (0, t)) Try.func19 h1 h2 r19_ok [] false js_nil js_nil' (by simp [Try.f19]) ?_
  simp (config := { maxSteps := 500000 }) only [↓vp, implies_true, forall_const, v1, v2, v3, v4, v5, v6, v7, v8, Int.reduceBEq, Nat.reduceEqDiff, Nat.reduceAdd, Nat.reduceSub, Nat.reduceMul, Nat.reduceLT, Nat.reduceLeDiff, ↓reduceIte, reduceCtorEq, undef, InI, Int.reduceNeg, Int.reduceSub, Int.reduceLE, Int.reduceLT, Int.reduceAdd, Int.reduceMul, Int.reduceToNat, reduceIte, c19, r19, TT2, selSum, selSome, troOf_map, hl, Pu]
set_option maxHeartbeats 4000000 in
theorem Stopped_c (l : List Tro) (i t : Int) (hl : l.length ≤ 1000000) (nn : Nm) : CallsA Try.prog 21 [.sl (l.map Tro.row), di i, di t] Hp.none nn (Pu (db (trHas l 3 i t)) Hp.none) := by
  obtain ⟨code, h1, h2⟩ := c21_ok
  refine callsA_of TT2_ok mixed (N := fun t => (0, t)) Try.func21 h1 h2 r21_ok [] false js_nil js_nil' (by simp [Try.f21]) ?_
  simp (config := { maxSteps := 500000 }) only [↓vp, implies_true, forall_const, v1, v2, v3, v4, v5, v6, v7, v8, Int.reduceBEq, Nat.reduceEqDiff, Nat.reduceAdd, Nat.reduceSub, Nat.reduceMul, Nat.reduceLT, Nat.reduceLeDiff, ↓reduceIte, reduceCtorEq, undef, InI, Int.reduceNeg, Int.reduceSub, Int.reduceLE, Int.reduceLT, Int.reduceAdd, Int.reduceMul, Int.reduceToNat, reduceIte, c21, r21, TT2, selSum, selSome, troOf_map, hl, Pu]
set_option maxHeartbeats 4000000 in
theorem Stuck_c (l : List Tro) (i t : Int) (hl : l.length ≤ 1000000) (nn : Nm) : CallsA Try.prog 20 [.sl (l.map Tro.row), di i, di t] Hp.none nn (Pu (db (trHas l 4 i t)) Hp.none) := by
  obtain ⟨code, h1, h2⟩ := c20_ok
  refine callsA_of TT2_ok mixed (N := fun t => (0, t)) Try.func20 h1 h2 r20_ok [] false js_nil js_nil' (by simp [Try.f20]) ?_
  simp (config := { maxSteps := 500000 }) only [↓vp, implies_true, forall_const, v1, v2, v3, v4, v5, v6, v7, v8, Int.reduceBEq, Nat.reduceEqDiff, Nat.reduceAdd, Nat.reduceSub, Nat.reduceMul, Nat.reduceLT, Nat.reduceLeDiff, ↓reduceIte, reduceCtorEq, undef, InI, Int.reduceNeg, Int.reduceSub, Int.reduceLE, Int.reduceLT, Int.reduceAdd, Int.reduceMul, Int.reduceToNat, reduceIte, c20, r20, TT2, selSum, selSome, troOf_map, hl, Pu]
end Go.Proofs.Ytiaenojpbiahgaa
