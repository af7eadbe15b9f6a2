
/- Plans out of a source. -/
import Derived.Test.YtiaenojpbiahgaaPl7
namespace Go.Proofs.Ytiaenojpbiahgaa
open Go
set_option linter.unusedVariables false
set_option linter.unusedSimpArgs false
set_option maxRecDepth 100000

theorem pg_zero {n : Net} (hv : NetV n) : PG n (List.replicate n.segs.length 0) (List.replicate n.ports.length 0) := by
  have z : ∀ x, x ∈ n.segs.zip (List.replicate n.segs.length (0 : Int)) → x.2 = 0 := fun x hx => (List.mem_replicate.1 (List.of_mem_zip hx).2).2
  refine ⟨⟨List.length_replicate, fun x hx => ?_, fun x hx h => absurd (z x hx) h⟩, List.length_replicate, fun r hr => ?_, fun v => ?_⟩
  · have := (hv.se x.1 (List.of_mem_zip hx).1).2.2.2.1
    unfold RateIn minC
    rw [z x hx]
    split <;> omega
  · rw [(List.mem_replicate.1 hr).2]; omega
  · refine sumI_zero fun t ht => ?_
    have : t.2.2 = 0 := by
      unfold flowsOf at ht
      rcases List.mem_append.1 ht with ht | ht
      · rw [← List.map_uncurry_zip_eq_zipWith] at ht
        obtain ⟨x, hx, rfl⟩ := List.mem_map.1 ht
        exact (List.mem_replicate.1 (List.of_mem_zip hx).2).2
      · rw [← List.map_uncurry_zip_eq_zipWith] at ht
        obtain ⟨x, hx, rfl⟩ := List.mem_map.1 ht
        exact (List.mem_replicate.1 (List.of_mem_zip hx).2).2
    unfold netOf
    rw [this]
    split <;> split <;> rfl
theorem rep_i (k : Nat) : List.replicate k [di 0] = (List.replicate k 0).map iRow := by rw [List.map_replicate]; rfl
set_option maxHeartbeats 16000000 in
theorem Plan_c (n : Net) (hv : NetV n) (hp1 : 1 ≤ n.ports.length) : SrcC Try.prog 27 [n.enc] (PlanOk n) Pln.enc := by
  intro i L at' nn ho
  obtain ⟨code, h1, h2⟩ := c27_ok
  refine callsA_of TPl_ok mixed (N := fun t => (i.1 + 1, t)) Try.func27 h1 h2 r27_ok [i] false js_one js_one' (by simp [Try.f27]) ?_
  have hnl := hv.nl
  have hsl := hv.sl
  have hql := hv.ql
  have htl := hv.tl
  have u1 := idx_nn n.segs.length
  have u2 := idx_nn n.ports.length
  have v1' : (8 : Int) * n.segs.length ≤ 281474976710656 := by omega
  have v2' : (8 : Int) * n.ports.length ≤ 281474976710656 := by omega
  have v4' : (n.segs.length : Int) ≤ 4611686018427387904 := by omega
  have v5' : (n.ports.length : Int) ≤ 4611686018427387904 := by omega
  simp (config := { maxSteps := 500000 }) only [↓vp, vv, implies_true, forall_const, undef, InI, ↓reduceIte, simprocAttr, c27, TPl, T2, T1, Net.enc, u1, u2, v1', v2', v4', v5', Int.toNat_natCast, rep_i]
  rw [vc_loop]
  refine ⟨fun m s => ∃ at' U g, SrcOk L at' ∧ U.length + m = n.sts.length ∧ s = ⟨fr [(0, .ptr i 0 0 0), (3, .ptr (i.1 + 1, 3) 0 0 0), (4, .ptr (i.1 + 1, 4) 0 0 0), (5, .ptr (i.1 + 1, 5) 0 0 0), (6, di U.length)], PH i n g (List.replicate n.segs.length 0) (List.replicate n.ports.length 0) U L at' Hp.none⟩, ⟨n.sts.length, _, (weak_ownC (i.1 + 1, 5) 0 3 [.own (i.1 + 1, 25) 0 0 n.segs.length, .own (i.1 + 1, 29) 0 0 n.ports.length] [] (i.1 + 1, 1005) 1 (by simp (config := { maxSteps := 500000 }) only [↓vp, vv, implies_true, forall_const, undef, InI, ↓reduceIte, simprocAttr, ]) (by simp (config := { maxSteps := 500000 }) only [↓vp, vv, implies_true, forall_const, undef, InI, ↓reduceIte, simprocAttr, ])).trans (weak_eq [] [i, (i.1 + 1, 3), (i.1 + 1, 4), (i.1 + 1, 5), (i.1 + 1, 25), (i.1 + 1, 29), (i.1 + 1, 1005)] [(0, .ptr i 0 0 0), (3, .ptr (i.1 + 1, 3) 0 0 0), (4, .ptr (i.1 + 1, 4) 0 0 0), (5, .ptr (i.1 + 1, 5) 0 0 0), (6, di 0)] (by simp (config := { maxSteps := 500000 }) only [↓vp, vv, implies_true, forall_const, undef, InI, ↓reduceIte, simprocAttr, coverS, PH, netD, iRow, bRow, List.length_replicate]) (by simp (config := { maxSteps := 500000 }) only [↓vp, vv, implies_true, forall_const, undef, InI, ↓reduceIte, simprocAttr, refsF, PH, netD, iRow, bRow, List.length_replicate]) (by simp (config := { maxSteps := 500000 }) only [↓vp, vv, implies_true, forall_const, undef, InI, ↓reduceIte, simprocAttr, PH, netD, iRow, bRow, List.length_replicate]) (by simp) (by simp (config := { maxSteps := 500000 }) only [↓vp, vv, implies_true, forall_const, undef, InI, ↓reduceIte, simprocAttr, PH, netD, iRow, bRow, List.length_replicate]; try rfl)), at', [], 0, ho, by simp, rfl⟩, ?_⟩
  rintro m s ⟨at2, U, g, o2, hm, rfl⟩
  by_cases hj : U.length < n.sts.length
  · have hj' : (U.length : Int) < n.sts.length := by omega
    have w1 := idx_next (j := U.length) (by omega)
    have y1 : (U.length + 1) * 1 ≤ 140737488355328 := by omega
    have y2 : U.length + 1 ≤ 4611686018427387904 := by omega
    simp (config := { maxSteps := 500000 }) only [↓vp, vv, implies_true, forall_const, undef, InI, ↓reduceIte, simprocAttr, c27_2, c27_1, TPl, T2, T1, selI, PH, netD, hj', o2, w1, y1, y2]
    rintro ⟨at3, o3⟩ v hv2
    refine ⟨m - 1, _, by omega, (weak_eq [] [i, (i.1 + 1, 3), (i.1 + 1, 4), (i.1 + 1, 5), (i.1 + 1, 25), (i.1 + 1, 29), (i.1 + 1, 1005)] [(0, .ptr i 0 0 0), (3, .ptr (i.1 + 1, 3) 0 0 0), (4, .ptr (i.1 + 1, 4) 0 0 0), (5, .ptr (i.1 + 1, 5) 0 0 0), (6, di (U.length + 1 : Nat))] (by simp (config := { maxSteps := 500000 }) only [↓vp, vv, implies_true, forall_const, undef, InI, ↓reduceIte, simprocAttr, coverS, PH, netD, iRow, bRow, w1]) (by simp (config := { maxSteps := 500000 }) only [↓vp, vv, implies_true, forall_const, undef, InI, ↓reduceIte, simprocAttr, refsF, PH, netD, iRow, bRow, w1]) (by simp (config := { maxSteps := 500000 }) only [↓vp, vv, implies_true, forall_const, undef, InI, ↓reduceIte, simprocAttr, PH, netD, iRow, bRow, w1]) (by simp) (by simp (config := { maxSteps := 500000 }) only [↓vp, vv, implies_true, forall_const, undef, InI, ↓reduceIte, simprocAttr, PH, netD, iRow, bRow, w1]; try rfl)), at3, U ++ [v == 0], g + 1, o3, by rw [List.length_append, List.length_singleton]; omega, ?_⟩
    simp only [PH, List.map_append, List.map_cons, List.map_nil, bRow, List.length_append, List.length_singleton]
  · have hj' : ¬ (U.length : Int) < n.sts.length := by omega
    have hU : U.length = n.sts.length := by omega
    simp (config := { maxSteps := 500000 }) only [↓vp, vv, implies_true, forall_const, undef, InI, ↓reduceIte, simprocAttr, c27_2, c27_26, TPl, T2, T1, selI, PH, netD, hj', o2]
    rintro ⟨at3, o3⟩ v hv2 ⟨at4, o4⟩ cv ⟨hc0, hc1, _⟩
    have hc2 := hc1 (by omega)
    obtain ⟨c, rfl⟩ : ∃ c : Nat, cv = c := ⟨cv.toNat, by omega⟩
    refine pl2 i L n hv hp1 g _ _ U (v == 0) c (pg_zero hv) (by omega) _ _ at4 o4 (weak_eq [] [i, (i.1 + 1, 3), (i.1 + 1, 4), (i.1 + 1, 5), (i.1 + 1, 25), (i.1 + 1, 29), (i.1 + 1, 1005)] (PF i (v == 0) c []) (by simp (config := { maxSteps := 500000 }) only [↓vp, vv, implies_true, forall_const, undef, InI, ↓reduceIte, simprocAttr, coverS, PF, PH, netD, iRow, bRow]) (by simp (config := { maxSteps := 500000 }) only [↓vp, vv, implies_true, forall_const, undef, InI, ↓reduceIte, simprocAttr, refsF, PF, PH, netD, iRow, bRow]) (by simp (config := { maxSteps := 500000 }) only [↓vp, vv, implies_true, forall_const, undef, InI, ↓reduceIte, simprocAttr, PF, PH, netD, iRow, bRow]) (by simp) (by simp (config := { maxSteps := 500000 }) only [↓vp, vv, implies_true, forall_const, undef, InI, ↓reduceIte, simprocAttr, PF, PH, netD, iRow, bRow]; try rfl)) ?_
    rintro F at5 R Q o5 hG f0 f4 f5 f7
    have hsm : SmI R ∧ SmI Q := ⟨⟨by have := hG.pr.rl; omega, fun r hr => by have := pr_b hG.pr r hr; omega⟩, by have := hG.ql; omega, fun r hr => by have := hG.qb r hr; omega⟩
    have hp := hG.ok hU
    have hp1 : plnOf1 [D.sl (R.map iRow), .sl (Q.map iRow), .sl (U.map bRow)] = some ⟨R, Q, U⟩ := plnOf1_row ⟨R, Q, U⟩
    have hUl : U.length ≤ 1000000 := by omega
    have pl1 : ∀ (W : List Int), ∀ j, j ∈ W → ∀ d, d ∈ iRow j → d.plain = true := fun _ _ _ d hd => by rw [List.mem_singleton.1 hd]; rfl
    have pl2 : ∀ (W : List Bool), ∀ j, j ∈ W → ∀ d, d ∈ bRow j → d.plain = true := fun _ _ _ d hd => by rw [List.mem_singleton.1 hd]; rfl
    cases c1 : (v == (0 : Int)) with
    | true =>
      rw [c1] at f7
      simp (config := { maxSteps := 500000 }) only [↓vp, vv, implies_true, forall_const, undef, InI, ↓reduceIte, simprocAttr, c27_25, c27_24, r27, TPl, selNeg, PH, netD, f0, f4, f5, f7, hp1, hsm, hUl, Pln.enc, plnD]
      exact ⟨⟨pl1 R, pl1 Q, pl2 U⟩, at5, negP ⟨R, Q, U⟩, o5, hp.neg, rfl, rfl⟩
    | false =>
      rw [c1] at f7
      simp (config := { maxSteps := 500000 }) only [↓vp, vv, implies_true, forall_const, undef, InI, ↓reduceIte, simprocAttr, c27_25, c27_24, r27, TPl, selNeg, PH, netD, f0, f4, f5, f7]
      exact ⟨⟨pl1 R, pl1 Q, pl2 U⟩, at5, ⟨R, Q, U⟩, o5, hp, rfl, rfl⟩
end Go.Proofs.Ytiaenojpbiahgaa
