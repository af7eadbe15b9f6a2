
/- Troubles: Leak, Drift, Stopped, Stuck. -/
import Derived.Test.YtfkhjkkhdfcnjaaTr1
namespace Go.Proofs.Ytfkhjkkhdfcnjaa
open Go
set_option linter.unusedVariables false
set_option linter.unusedSimpArgs false
set_option maxRecDepth 100000

set_option maxHeartbeats 4000000 in
theorem some1_c (x : Tro) (k i t : Int) (nn : Nm) : CallsA Try.prog 176 [.agg x.row, .ip [di k], .ip [di i], .ip [di t]] Hp.none nn (Pu (db (isB k i t x)) Hp.none) := by
  obtain ⟨code, h1, h2⟩ := c176_ok
  refine callsA_of TT0_ok mixed (N := fun t => (0, t)) Try.func176 h1 h2 r176_ok [] false js_nil js_nil' (by simp [Try.f176]) ?_
  cases hk : x.kind == k with
  | false => simp (config := { maxSteps := 500000 }) only [↓vp, vv, implies_true, forall_const, undef, InI, ↓reduceIte, simprocAttr, c176, r176, TT0, selThere, Tro.row, hk, isB, troOf_one, Pu]
  | true =>
    cases hi : x.index == i with
    | false => simp (config := { maxSteps := 500000 }) only [↓vp, vv, implies_true, forall_const, undef, InI, ↓reduceIte, simprocAttr, c176, r176, TT0, selThere, Tro.row, hk, hi, isB, troOf_one, Pu]
    | true => simp (config := { maxSteps := 500000 }) only [↓vp, vv, implies_true, forall_const, undef, InI, ↓reduceIte, simprocAttr, c176, r176, TT0, selThere, Tro.row, hk, hi, isB, troOf_one, Pu]
def qSome (g : FuncId) (l : List (List D)) (d : D) : Bool :=
  match l, d with
  | [[.v (.int .i64 k)], [.v (.int .i64 i)], [.v (.int .i64 t)]], .agg r => match troOf [r] with
    | some [x] => isB k i t x
    | _ => false
  | _, _ => false
theorem qSome_at (g : FuncId) (k i t : Int) (x : Tro) : qSome g [[di k], [di i], [di t]] (elV true x.row) = isB k i t x := rfl
def TT1 (P : Program) : Tbl := tc 80 (rowPu (selQ P true 5 qSome outC)) T0
theorem TT1_ok : TblOk Try.prog (TT1 Try.prog) := by
  refine tc_pu f80_ok (fun args pre d h hp nn => ?_) (T0_ok _)
  unfold selQ at h
  split at h
  · split at h
    · rename_i hi
      cases h
      rw [ipsOf_eq hi]
      exact hasF_T _ _ _ _ hp nn
    · cases h
  · cases h
theorem qok_some (l : List Tro) (k i t : Int) (hl : l.length ≤ 1000000) : QOk Try.prog true 5 (qSome 176 [[di k], [di i], [di t]]) 176 [[di k], [di i], [di t]] (l.map Tro.row) := by
  refine ⟨f176_ok, by simp; omega, fun r hr => ?_⟩
  obtain ⟨x, _, rfl⟩ := List.mem_map.1 hr
  exact ⟨rfl, x.done, fun h => (Bool.noConfusion h), fun nn => some1_c x k i t nn⟩
set_option maxHeartbeats 4000000 in
theorem some_c (l : List Tro) (k i t : Int) (hl : l.length ≤ 1000000) (nn : Nm) : CallsA Try.prog 147 [.sl (l.map Tro.row), di k, di i, di t] Hp.none nn (Pu (db (trHas l k i t)) Hp.none) := by
  obtain ⟨code, h1, h2⟩ := c147_ok
  refine callsA_of TT1_ok mixed (N := fun t => (0, t)) Try.func147 h1 h2 r147_ok [] false js_nil js_nil' (by simp [Try.f147]) ?_
  have ha : outC (fun r => qSome 176 [[di k], [di i], [di t]] (elV true r)) (l.map Tro.row) = db (trHas l k i t) := by
    unfold outC trHas
    rw [List.any_map]
    rfl
  simp (config := { maxSteps := 500000 }) only [↓vp, vv, implies_true, forall_const, undef, InI, ↓reduceIte, simprocAttr, c147]
  refine vc_wk ((weak_ip 5 (0, 5) 0 1 [di k] (by simp (config := { maxSteps := 500000 }) only [↓vp, vv, implies_true, forall_const, undef, InI, ↓reduceIte, simprocAttr, ]) (by simp (config := { maxSteps := 500000 }) only [↓vp, vv, implies_true, forall_const, undef, InI, ↓reduceIte, simprocAttr, ]) (by simp (config := { maxSteps := 500000 }) only [↓vp, vv, implies_true, forall_const, undef, InI, ↓reduceIte, simprocAttr, ]) (by simp)).trans ((weak_ip 6 (0, 6) 0 1 [di i] (by simp (config := { maxSteps := 500000 }) only [↓vp, vv, implies_true, forall_const, undef, InI, ↓reduceIte, simprocAttr, ]) (by simp (config := { maxSteps := 500000 }) only [↓vp, vv, implies_true, forall_const, undef, InI, ↓reduceIte, simprocAttr, ]) (by simp (config := { maxSteps := 500000 }) only [↓vp, vv, implies_true, forall_const, undef, InI, ↓reduceIte, simprocAttr, ]) (by simp)).trans ((weak_ip 7 (0, 7) 0 1 [di t] (by simp (config := { maxSteps := 500000 }) only [↓vp, vv, implies_true, forall_const, undef, InI, ↓reduceIte, simprocAttr, ]) (by simp (config := { maxSteps := 500000 }) only [↓vp, vv, implies_true, forall_const, undef, InI, ↓reduceIte, simprocAttr, ]) (by simp (config := { maxSteps := 500000 }) only [↓vp, vv, implies_true, forall_const, undef, InI, ↓reduceIte, simprocAttr, ]) (by simp)).trans
    (weak_eq [] [] [(0, .sl (l.map Tro.row)), (5, .ip [di k]), (6, .ip [di i]), (7, .ip [di t])] (by simp (config := { maxSteps := 500000 }) only [↓vp, vv, implies_true, forall_const, undef, InI, ↓reduceIte, simprocAttr, coverS]) (by simp (config := { maxSteps := 500000 }) only [↓vp, vv, implies_true, forall_const, undef, InI, ↓reduceIte, simprocAttr, refsF]) (by simp (config := { maxSteps := 500000 }) only [↓vp, vv, implies_true, forall_const, undef, InI, ↓reduceIte, simprocAttr, ]) (by simp) (by simp (config := { maxSteps := 500000 }) only [↓vp, vv, implies_true, forall_const, undef, InI, ↓reduceIte, simprocAttr, ]; try rfl))))) ?_
  have hq := qok_some l k i t hl
  simp (config := { maxSteps := 500000 }) only [↓vp, vv, implies_true, forall_const, undef, InI, ↓reduceIte, simprocAttr, c147, r147, c147_1, TT1, selQ, ipsOf, hq, ha, Pu]
def selSum : List D → Option (Prop × D)
  | [.sl rows, .v (.int .i64 k), .v (.int .i64 i), .v (.int .i64 t)] => match troOf rows with
    | some l => some (l.length ≤ 1000000, di (trSum l k i t))
    | _ => Option.none
  | _ => Option.none
def selSome : List D → Option (Prop × D)
  | [.sl rows, .v (.int .i64 k), .v (.int .i64 i), .v (.int .i64 t)] => match troOf rows with
    | some l => some (l.length ≤ 1000000, db (trHas l k i t))
    | _ => Option.none
  | _ => Option.none
def TT2 : Tbl := tc 135 (rowPu selSum) (tc 147 (rowPu selSome) T0)
theorem TT2_ok : TblOk Try.prog TT2 := by
  refine tc_pu f135_ok (fun args pre d h hp nn => ?_) (tc_pu f147_ok (fun args pre d h hp nn => ?_) (T0_ok _))
  · unfold selSum at h
    split at h
    · split at h
      · rename_i hm; cases h; rw [troOf_eq hm]; exact sum_c _ _ _ _ hp nn
      · cases h
    · cases h
  · unfold selSome at h
    split at h
    · split at h
      · rename_i hm; cases h; rw [troOf_eq hm]; exact some_c _ _ _ _ hp nn
      · cases h
    · cases h
set_option maxHeartbeats 4000000 in
theorem Leak_c (l : List Tro) (i t : Int) (hl : l.length ≤ 1000000) (nn : Nm) : CallsA Try.prog 73 [.sl (l.map Tro.row), di i, di t] Hp.none nn (Pu (di (trSum l 1 i t)) Hp.none) := by
  obtain ⟨code, h1, h2⟩ := c73_ok
  refine callsA_of TT2_ok mixed (N := fun t => (0, t)) Try.func73 h1 h2 r73_ok [] false js_nil js_nil' (by simp [Try.f73]) ?_
  simp (config := { maxSteps := 500000 }) only [↓vp, vv, implies_true, forall_const, undef, InI, ↓reduceIte, simprocAttr, c73, r73, TT2, selSum, selSome, troOf_map, hl, Pu]
set_option maxHeartbeats 4000000 in
theorem Drift_c (l : List Tro) (i t : Int) (hl : l.length ≤ 1000000) (nn : Nm) : CallsA Try.prog 86 [.sl (l.map Tro.row), di i, di t] Hp.none nn (Pu (di (trSum l 2 i t)) Hp.none) := by
  obtain ⟨code, h1, h2⟩ := c86_ok
  refine callsA_of TT2_ok mixed (N := fun t => (0, t)) Try.func86 h1 h2 r86_ok [] false js_nil js_nil' (by simp [Try.f86]) ?_
  simp (config := { maxSteps := 500000 }) only [↓vp, vv, implies_true, forall_const, undef, InI, ↓reduceIte, simprocAttr, c86, r86, TT2, selSum, selSome, troOf_map, hl, Pu]
set_option maxHeartbeats 4000000 in
theorem Stopped_c (l : List Tro) (i t : Int) (hl : l.length ≤ 1000000) (nn : Nm) : CallsA Try.prog 88 [.sl (l.map Tro.row), di i, di t] Hp.none nn (Pu (db (trHas l 3 i t)) Hp.none) := by
  obtain ⟨code, h1, h2⟩ := c88_ok
  refine callsA_of TT2_ok mixed (N := fun t => (0, t)) Try.func88 h1 h2 r88_ok [] false js_nil js_nil' (by simp [Try.f88]) ?_
  simp (config := { maxSteps := 500000 }) only [↓vp, vv, implies_true, forall_const, undef, InI, ↓reduceIte, simprocAttr, c88, r88, TT2, selSum, selSome, troOf_map, hl, Pu]
set_option maxHeartbeats 4000000 in
theorem Stuck_c (l : List Tro) (i t : Int) (hl : l.length ≤ 1000000) (nn : Nm) : CallsA Try.prog 90 [.sl (l.map Tro.row), di i, di t] Hp.none nn (Pu (db (trHas l 4 i t)) Hp.none) := by
  obtain ⟨code, h1, h2⟩ := c90_ok
  refine callsA_of TT2_ok mixed (N := fun t => (0, t)) Try.func90 h1 h2 r90_ok [] false js_nil js_nil' (by simp [Try.f90]) ?_
  simp (config := { maxSteps := 500000 }) only [↓vp, vv, implies_true, forall_const, undef, InI, ↓reduceIte, simprocAttr, c90, r90, TT2, selSum, selSome, troOf_map, hl, Pu]
end Go.Proofs.Ytfkhjkkhdfcnjaa
