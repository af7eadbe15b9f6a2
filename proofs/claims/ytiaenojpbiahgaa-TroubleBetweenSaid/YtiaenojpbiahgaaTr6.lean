
/- The walk of TroubleBetween. -/
import Derived.Test.YtiaenojpbiahgaaTr5
namespace Go.Proofs.Ytiaenojpbiahgaa
open Go
set_option linter.unusedVariables false
set_option linter.unusedSimpArgs false
set_option maxRecDepth 100000

def TBFr (x y : List Tro) (b : Int) (o : Bool) (t : Int) (l : List (Nat × D)) : List (Nat × D) := (7, .sl (x.map Tro.row)) :: (8, .sl (y.map Tro.row)) :: (10, di b) :: (11, db o) :: (12, di t) :: l
def TBI (x y : List Tro) (b : Int) (o : Bool) (t : Int) (ch : Bool) (m : Nat) (s : St) : Prop := ∃ i : Nat, i + m = 6 ∧ s = ⟨fr (TBFr x y b o t [(13, db ch), (14, di i)]), Hp.none⟩
theorem TB_fin (x y : List Tro) (b : Int) (o : Bool) (t : Int) (ch : Bool) (m i : Nat) (hi : i + m = 6) (hi2 : i < 6) (F : Fr) (H : Hp) (f7 : F 7 = .sl (x.map Tro.row)) (f8 : F 8 = .sl (y.map Tro.row)) (f10 : F 10 = di b) (f11 : F 11 = db o) (f12 : F 12 = di t) (f13 : F 13 = db ch) (f14 : F 14 = di (i + 1 : Nat)) : ∃ k' s', k' < m ∧ Weak [] ⟨F, H⟩ s' ∧ TBI x y b o t ch k' s' :=
  ⟨m - 1, _, by omega, weak_eq [] [] (TBFr x y b o t [(13, db ch), (14, di (i + 1 : Nat))]) (by simp (config := { maxSteps := 500000 }) only [↓vp, implies_true, forall_const, v1, v2, v3, v4, v5, v6, v7, v8, Int.reduceBEq, Nat.reduceEqDiff, Nat.reduceAdd, Nat.reduceSub, Nat.reduceMul, Nat.reduceLT, Nat.reduceLeDiff, ↓reduceIte, reduceCtorEq, undef, InI, Int.reduceNeg, Int.reduceSub, Int.reduceLE, Int.reduceLT, Int.reduceAdd, Int.reduceMul, Int.reduceToNat, reduceIte, coverS, TBFr, f7, f8, f10, f11, f12, f13, f14]) (by simp (config := { maxSteps := 500000 }) only [↓vp, implies_true, forall_const, v1, v2, v3, v4, v5, v6, v7, v8, Int.reduceBEq, Nat.reduceEqDiff, Nat.reduceAdd, Nat.reduceSub, Nat.reduceMul, Nat.reduceLT, Nat.reduceLeDiff, ↓reduceIte, reduceCtorEq, undef, InI, Int.reduceNeg, Int.reduceSub, Int.reduceLE, Int.reduceLT, Int.reduceAdd, Int.reduceMul, Int.reduceToNat, reduceIte, refsF, TBFr]) (by simp (config := { maxSteps := 500000 }) only [↓vp, implies_true, forall_const, v1, v2, v3, v4, v5, v6, v7, v8, Int.reduceBEq, Nat.reduceEqDiff, Nat.reduceAdd, Nat.reduceSub, Nat.reduceMul, Nat.reduceLT, Nat.reduceLeDiff, ↓reduceIte, reduceCtorEq, undef, InI, Int.reduceNeg, Int.reduceSub, Int.reduceLE, Int.reduceLT, Int.reduceAdd, Int.reduceMul, Int.reduceToNat, reduceIte, ]) (by simp) (by simp (config := { maxSteps := 500000 }) only [↓vp, implies_true, forall_const, v1, v2, v3, v4, v5, v6, v7, v8, Int.reduceBEq, Nat.reduceEqDiff, Nat.reduceAdd, Nat.reduceSub, Nat.reduceMul, Nat.reduceLT, Nat.reduceLeDiff, ↓reduceIte, reduceCtorEq, undef, InI, Int.reduceNeg, Int.reduceSub, Int.reduceLE, Int.reduceLT, Int.reduceAdd, Int.reduceMul, Int.reduceToNat, reduceIte, ]; try rfl), ⟨i + 1, by omega, rfl⟩⟩
set_option maxHeartbeats 8000000 in
theorem TB_r (x y : List Tro) (hx : x.length ≤ 1000000) (hy : y.length ≤ 1000000) (b : Int) (o : Bool) (t : Int) (ch : Bool) (ht : 0 ≤ t ∧ t ≤ 114) (e1 : ∀ k i, trSum y k i t = trSum x k i t) (e2 : ∀ k i, trHas y k i t = trHas x k i t)
    (hch : ch = true ∨ t = 0 ∨ ((∀ k i, trSum x k i (t - 1) = trSum x k i t) ∧ ∀ k i, trHas x k i (t - 1) = trHas x k i t)) (m : Nat) (s : St) (Q : Ex → St → Prop) (h : TBI x y b o t ch m s)
    (hQ : Q (.exit 4) ⟨putF (putF (fr (TBFr x y b o t [(13, db ch), (14, di 6)])) (some 67) (di 6)) (some 68) (db false), Hp.none⟩) (hn : ∀ s, (∃ k' s', k' < m ∧ Weak [] s s' ∧ TBI x y b o t ch k' s') → Q .nrm s) :
    vc TT5 (fun t => (0, t)) [] c3_6 Q s := by
  obtain ⟨i, hi, rfl⟩ := h
  by_cases h1 : i < 6
  · have h1' : (i : Int) < 6 := by omega
    have w1 : IntKind.i64.wrap ((i : Int) + 1) = ((i + 1 : Nat) : Int) := by rw [wrap_i (by omega)]; rfl
    have w2 : IntKind.i64.wrap (t - 1) = t - 1 := wrap_i (by omega)
    cases ch with
    | true =>
      simp (config := { maxSteps := 500000 }) only [↓vp, implies_true, forall_const, v1, v2, v3, v4, v5, v6, v7, v8, Int.reduceBEq, Nat.reduceEqDiff, Nat.reduceAdd, Nat.reduceSub, Nat.reduceMul, Nat.reduceLT, Nat.reduceLeDiff, ↓reduceIte, reduceCtorEq, undef, InI, Int.reduceNeg, Int.reduceSub, Int.reduceLE, Int.reduceLT, Int.reduceAdd, Int.reduceMul, Int.reduceToNat, reduceIte, c3_6, c3_5, c3_4, c3_3, TT5, TT4, selNext, selLeak, selStop, TBFr, h1', w1, troOf_map, hx, hy, e1, e2, bne_self_eq_false]
      refine hn _ (TB_fin x y b o t true m i hi h1 _ _ ?_ ?_ ?_ ?_ ?_ ?_ ?_) <;> simp (config := { maxSteps := 500000 }) only [↓vp, implies_true, forall_const, v1, v2, v3, v4, v5, v6, v7, v8, Int.reduceBEq, Nat.reduceEqDiff, Nat.reduceAdd, Nat.reduceSub, Nat.reduceMul, Nat.reduceLT, Nat.reduceLeDiff, ↓reduceIte, reduceCtorEq, undef, InI, Int.reduceNeg, Int.reduceSub, Int.reduceLE, Int.reduceLT, Int.reduceAdd, Int.reduceMul, Int.reduceToNat, reduceIte, w1]
    | false =>
      by_cases h2 : 0 < t
      · obtain ⟨e3, e4⟩ := (hch.resolve_left (by simp)).resolve_left (by omega)
        simp (config := { maxSteps := 500000 }) only [↓vp, implies_true, forall_const, v1, v2, v3, v4, v5, v6, v7, v8, Int.reduceBEq, Nat.reduceEqDiff, Nat.reduceAdd, Nat.reduceSub, Nat.reduceMul, Nat.reduceLT, Nat.reduceLeDiff, ↓reduceIte, reduceCtorEq, undef, InI, Int.reduceNeg, Int.reduceSub, Int.reduceLE, Int.reduceLT, Int.reduceAdd, Int.reduceMul, Int.reduceToNat, reduceIte, c3_6, c3_5, c3_4, c3_3, TT5, TT4, selNext, selLeak, selStop, TBFr, h1', w1, w2, h2, troOf_map, hx, hy, e1, e2, e3, e4, bne_self_eq_false]
        refine hn _ (TB_fin x y b o t false m i hi h1 _ _ ?_ ?_ ?_ ?_ ?_ ?_ ?_) <;> simp (config := { maxSteps := 500000 }) only [↓vp, implies_true, forall_const, v1, v2, v3, v4, v5, v6, v7, v8, Int.reduceBEq, Nat.reduceEqDiff, Nat.reduceAdd, Nat.reduceSub, Nat.reduceMul, Nat.reduceLT, Nat.reduceLeDiff, ↓reduceIte, reduceCtorEq, undef, InI, Int.reduceNeg, Int.reduceSub, Int.reduceLE, Int.reduceLT, Int.reduceAdd, Int.reduceMul, Int.reduceToNat, reduceIte, w1]
      · simp (config := { maxSteps := 500000 }) only [↓vp, implies_true, forall_const, v1, v2, v3, v4, v5, v6, v7, v8, Int.reduceBEq, Nat.reduceEqDiff, Nat.reduceAdd, Nat.reduceSub, Nat.reduceMul, Nat.reduceLT, Nat.reduceLeDiff, ↓reduceIte, reduceCtorEq, undef, InI, Int.reduceNeg, Int.reduceSub, Int.reduceLE, Int.reduceLT, Int.reduceAdd, Int.reduceMul, Int.reduceToNat, reduceIte, c3_6, c3_5, c3_4, c3_3, TT5, TT4, selNext, selLeak, selStop, TBFr, h1', w1, w2, h2, troOf_map, hx, hy, e1, e2, bne_self_eq_false]
        refine hn _ (TB_fin x y b o t false m i hi h1 _ _ ?_ ?_ ?_ ?_ ?_ ?_ ?_) <;> simp (config := { maxSteps := 500000 }) only [↓vp, implies_true, forall_const, v1, v2, v3, v4, v5, v6, v7, v8, Int.reduceBEq, Nat.reduceEqDiff, Nat.reduceAdd, Nat.reduceSub, Nat.reduceMul, Nat.reduceLT, Nat.reduceLeDiff, ↓reduceIte, reduceCtorEq, undef, InI, Int.reduceNeg, Int.reduceSub, Int.reduceLE, Int.reduceLT, Int.reduceAdd, Int.reduceMul, Int.reduceToNat, reduceIte, w1]
  · obtain rfl : i = 6 := by omega
    simp (config := { maxSteps := 500000 }) only [↓vp, implies_true, forall_const, v1, v2, v3, v4, v5, v6, v7, v8, Int.reduceBEq, Nat.reduceEqDiff, Nat.reduceAdd, Nat.reduceSub, Nat.reduceMul, Nat.reduceLT, Nat.reduceLeDiff, ↓reduceIte, reduceCtorEq, undef, InI, Int.reduceNeg, Int.reduceSub, Int.reduceLE, Int.reduceLT, Int.reduceAdd, Int.reduceMul, Int.reduceToNat, reduceIte, c3_6, TBFr]
    exact hQ
end Go.Proofs.Ytiaenojpbiahgaa
