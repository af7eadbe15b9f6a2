
/- The same for hops. -/
import Derived.Test.YtkjibmfggeibjaaGF
import Derived.Test.YtkjibmfggeibjaaCodeTO
namespace Go.Proofs.Ytkjibmfggeibjaa
open Go
set_option linter.unusedVariables false
set_option linter.unusedSimpArgs false
set_option maxRecDepth 100000

set_option maxHeartbeats 4000000 in
theorem idxF_O (q : D → Bool) (g : FuncId) (l rows : List (List D)) (h : QOk Try.prog true 3 q g l rows) (nn : Nm) : CallsA Try.prog 193 [.sl rows, .clo g [] (ips l)] Hp.none nn (Pu (outI (fun r => q (elV true r)) rows) Hp.none) := by
  obtain ⟨hg, hl, hq⟩ := h
  obtain ⟨code, h1, h2⟩ := c193_ok
  refine callsA_of (tc_q (q := q) hg (T0_ok _)) mixed (N := fun t => (0, t)) Try.func193 h1 h2 r193_ok [] false js_nil js_nil' (by simp [Try.f193]) ?_
  unfold outI
  simp (config := { maxSteps := 500000 }) only [↓vp, vv, implies_true, forall_const, undef, InI, ↓reduceIte, simprocAttr, c193]
  rw [vc_loop]
  refine ⟨fun m s => ∃ j : Nat, j + m = rows.length ∧ idxOf (fun r => q (elV true r)) 0 rows = idxOf (fun r => q (elV true r)) j (rows.drop j) ∧ s = ⟨fr [(0, .sl rows), (1, .clo g [] (ips l)), (7, di rows.length), (8, di j)], Hp.none⟩, ⟨rows.length, _, (weak_eq [] [] [(0, .sl rows), (1, .clo g [] (ips l)), (7, di rows.length), (8, di 0)] (by simp (config := { maxSteps := 500000 }) only [↓vp, vv, implies_true, forall_const, undef, InI, ↓reduceIte, simprocAttr, coverS]) (by simp (config := { maxSteps := 500000 }) only [↓vp, vv, implies_true, forall_const, undef, InI, ↓reduceIte, simprocAttr, refsF, ips_refs]) (by simp (config := { maxSteps := 500000 }) only [↓vp, vv, implies_true, forall_const, undef, InI, ↓reduceIte, simprocAttr, ]) (by simp) (by simp (config := { maxSteps := 500000 }) only [↓vp, vv, implies_true, forall_const, undef, InI, ↓reduceIte, simprocAttr, ]; try rfl)), ⟨0, by omega, rfl, rfl⟩⟩, ?_⟩
  rintro m s ⟨j, hj, he, rfl⟩
  by_cases hlt : j < rows.length
  · have hlt' : (j : Int) < rows.length := by omega
    have h0 : (0 : Int) ≤ j := by omega
    obtain ⟨r, hr⟩ : ∃ r, rows[j]? = some r := ⟨_, get_lt hlt⟩
    have hg' : rows.getD j [] = r := by rw [List.getD_eq_getElem?_getD, hr]; rfl
    obtain ⟨hr1, hr2, hr0, hr3⟩ := hq r (List.mem_of_getElem? hr)
    rw [idxOf_drop _ _ _ _ hr] at he
    have w1 : IntKind.i64.wrap ((j : Int) + 1) = ((j + 1 : Nat) : Int) := by rw [wrap_i (by omega)]; rfl
    have ht : r.take 3 = r := List.take_of_length_le (by omega)
    have d1 := fun H => (doneR H [] hr2).1
    have d2 := fun H => (doneR H [] hr2).2.1
    have d3 := fun H => (doneR H [] hr2).2.2.1
    have d4 := (doneR Hp.none [] hr2).2.2.2.1
    have d5 := fun js => (doneR Hp.none js hr2).2.2.2.2
    have hc : ∀ nn, CallsA Try.prog g ((.agg r) :: ips l) Hp.none nn (Pu (db (q (.agg r))) Hp.none) := hr3
    have he2 : idxOf (fun r => q (elV true r)) 0 rows = if q (.agg r) = true then (j : Int) else idxOf (fun r => q (elV true r)) (j + 1 : Nat) (rows.drop (j + 1)) := he
    cases hb : q (.agg r) with
    | true =>
      rw [hb, if_pos rfl] at he2
      have hcT : ∀ nn, CallsA Try.prog g ((.agg r) :: ips l) Hp.none nn (Pu (db true) Hp.none) = True := fun nn => eq_true (by have := hc nn; rwa [hb] at this)
      simp (config := { maxSteps := 500000 }) only [↓vp, vv, implies_true, forall_const, undef, InI, ↓reduceIte, simprocAttr, c193, r193, c193_1, c193_2, c193_3, c193_4, hlt', h0, Int.toNat_natCast, hg', hr1, ht, d1, d2, d3, d4, d5, ips_nms, ips_lend, ips_lendNm, ips_ok, ips_refs, rowQ, hb, he2, Pu, addNm, cellNms, hcT]
    | false =>
      rw [hb, if_neg (by simp)] at he2
      have hcT : ∀ nn, CallsA Try.prog g ((.agg r) :: ips l) Hp.none nn (Pu (db false) Hp.none) = True := fun nn => eq_true (by have := hc nn; rwa [hb] at this)
      simp (config := { maxSteps := 500000 }) only [↓vp, vv, implies_true, forall_const, undef, InI, ↓reduceIte, simprocAttr, c193, r193, c193_1, c193_2, c193_3, c193_4, hlt', h0, Int.toNat_natCast, hg', hr1, ht, d1, d2, d3, d4, d5, ips_nms, ips_lend, ips_lendNm, ips_ok, ips_refs, rowQ, hb, addNm, cellNms, hcT]
      exact ⟨m - 1, _, by omega, weak_eq [] [] [(0, .sl rows), (1, .clo g [] (ips l)), (7, di rows.length), (8, di ((j + 1 : Nat) : Int))] (by simp (config := { maxSteps := 500000 }) only [↓vp, vv, implies_true, forall_const, undef, InI, ↓reduceIte, simprocAttr, coverS, w1]) (by simp (config := { maxSteps := 500000 }) only [↓vp, vv, implies_true, forall_const, undef, InI, ↓reduceIte, simprocAttr, refsF, ips_refs]) (by simp (config := { maxSteps := 500000 }) only [↓vp, vv, implies_true, forall_const, undef, InI, ↓reduceIte, simprocAttr, ]) (by simp) (by simp (config := { maxSteps := 500000 }) only [↓vp, vv, implies_true, forall_const, undef, InI, ↓reduceIte, simprocAttr, ]; try rfl), ⟨j + 1, by omega, he2, rfl⟩⟩
  · have hlt' : ¬ (j : Int) < rows.length := by omega
    rw [List.drop_of_length_le (by omega)] at he
    have he2 : idxOf (fun r => q (elV true r)) 0 rows = -1 := he
    simp (config := { maxSteps := 500000 }) only [↓vp, vv, implies_true, forall_const, undef, InI, ↓reduceIte, simprocAttr, c193, r193, c193_1, c193_2, c193_3, c193_4, hlt', he2, Pu]
set_option maxHeartbeats 4000000 in
theorem hasF_O (q : D → Bool) (g : FuncId) (l rows : List (List D)) (h : QOk Try.prog true 3 q g l rows) (nn : Nm) : CallsA Try.prog 149 [.sl rows, .clo g [] (ips l)] Hp.none nn (Pu (outC (fun r => q (elV true r)) rows) Hp.none) := by
  obtain ⟨code, h1, h2⟩ := c149_ok
  refine callsA_of (T := tc 193 (rowPu (selQ Try.prog true 3 (fun g' l' d => q d) outI)) T0) (tc_pu f193_ok (fun args pre d hs hp nn => ?_) (T0_ok _)) mixed (N := fun t => (0, t)) Try.func149 h1 h2 r149_ok [] false js_nil js_nil' (by simp [Try.f149]) ?_
  · unfold selQ at hs
    split at hs
    · split at hs
      · rename_i hi
        cases hs
        rw [ipsOf_eq hi]
        exact idxF_O _ _ _ _ hp nn
      · cases hs
    · cases hs
  · have ha := idxOf_any (fun r => q (elV true r)) rows 0 (Int.le_refl _)
    have hv : decide (0 ≤ idxOf (fun r => q (elV true r)) 0 rows) = rows.any (fun r => q (elV true r)) := by
      rw [Bool.eq_iff_iff, decide_eq_true_eq]; exact ha
    simp (config := { maxSteps := 500000 }) only [↓vp, vv, implies_true, forall_const, undef, InI, ↓reduceIte, simprocAttr, c149, r149, selQ, ipsOf_ips, h, ips_nms, ips_lend, ips_lendNm, ips_ok, ips_refs, outI, outC, addNm, cellNms, hv, Pu]
end Go.Proofs.Ytkjibmfggeibjaa
