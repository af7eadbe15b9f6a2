
/- The reference's Ends and Abs. -/
import Derived.Test.YtkjibmfggeibjaaPl2
import Derived.Test.YtkjibmfggeibjaaFw1
import Derived.Test.YtkjibmfggeibjaaCodeFO
namespace Go.Proofs.Ytkjibmfggeibjaa
open Go
set_option linter.unusedVariables false
set_option linter.unusedSimpArgs false
set_option maxRecDepth 100000

set_option maxHeartbeats 4000000 in
theorem rends_c (s : Seg) (r : Int) (nn : Nm) : CallsA Try.prog 92 [.agg s.row, di r] Hp.none nn (Pu (.tup [di (frOf (s, r)), di (toOf (s, r))]) Hp.none) := by
  obtain ⟨code, h1, h2⟩ := c92_ok
  refine callsA_of (T0_ok _) mixed (N := fun t => (0, t)) Try.func92 h1 h2 r92_ok [] false js_nil js_nil' (by simp [Try.f92]) ?_
  by_cases a1 : r < 0 <;> simp (config := { maxSteps := 500000 }) only [↓vp, vv, implies_true, forall_const, undef, InI, ↓reduceIte, simprocAttr, c92, r92, c92_1, Seg.row, a1, Pu, frOf, toOf]
set_option maxHeartbeats 1000000 in
theorem rabs_c (x : Int) (h : -1000000 ≤ x ∧ x ≤ 1000000) (nn : Nm) : CallsA Try.prog 93 [di x] Hp.none nn (Pu (di (absI x)) Hp.none) := by
  obtain ⟨code, h1, h2⟩ := c93_ok
  refine callsA_of (T0_ok _) mixed (N := fun t => (0, t)) Try.func93 h1 h2 r93_ok [] false js_nil js_nil' (by simp [Try.f93]) ?_
  have w1 : IntKind.i64.wrap (0 - x) = -x := by rw [wrap_i (by omega)]; omega
  have e : (if x < -x then -x else x) = absI x := rfl
  simp (config := { maxSteps := 500000 }) only [↓vp, vv, implies_true, forall_const, undef, InI, ↓reduceIte, simprocAttr, c93, r93, w1, e, Pu]
theorem tc_rends {T : Tbl} (hT : TblOk Try.prog T) : TblOk Try.prog (tc 92 (rowPu selEnds) T) :=
  tc_pu f92_ok (fun args pre d h hp nn => by
    unfold selEnds at h
    split at h
    · split at h
      · rename_i hs
        cases h
        rw [segOf1_eq hs]
        exact rends_c _ _ nn
      · cases h
    · cases h) hT
theorem tc_rabs {T : Tbl} (hT : TblOk Try.prog T) : TblOk Try.prog (tc 93 (rowPu selAbs) T) :=
  tc_pu f93_ok (fun args pre d h hp nn => by
    unfold selAbs at h
    split at h <;> cases h
    exact rabs_c _ hp nn) hT
end Go.Proofs.Ytkjibmfggeibjaa
