
/- Plans out of a source: Negated, abs; what the loops keep. -/
import Derived.Test.YtiaenojpbiahgaaFw4
import Derived.Test.YtiaenojpbiahgaaPl1
import Derived.Test.YtiaenojpbiahgaaGen5
import Derived.Test.YtiaenojpbiahgaaCodePL
namespace Go.Proofs.Ytiaenojpbiahgaa
open Go
set_option linter.unusedVariables false
set_option linter.unusedSimpArgs false
set_option maxRecDepth 100000

set_option maxHeartbeats 1000000 in
theorem kabs_c (x : Int) (h : -1000000 ≤ x ∧ x ≤ 1000000) (nn : Nm) : CallsA Try.prog 64 [di x] Hp.none nn (Pu (di (absI x)) Hp.none) := by
  obtain ⟨code, h1, h2⟩ := c64_ok
  refine callsA_of (T0_ok _) mixed (N := fun t => (0, t)) Try.func64 h1 h2 r64_ok [] false js_nil js_nil' (by simp [Try.f64]) ?_
  have w1 : IntKind.i64.wrap (0 - x) = -x := by rw [wrap_i (by omega)]; omega
  have e : (if x < -x then -x else x) = absI x := rfl
  simp (config := { maxSteps := 500000 }) only [↓vp, vv, implies_true, forall_const, undef, InI, ↓reduceIte, simprocAttr, c64, r64, w1, e, Pu]
def NegS (p : Pln) (r q : List Int) (g : Nat) : Hp := (((((Hp.none.put (0, 1002) ⟨q.length, 1, q.map iRow⟩).put (0, 1001) ⟨r.length, 1, r.map iRow⟩).put (0, 6) ⟨1, 1, p.pumps.map bRow⟩).put (0, 3) ⟨0, 3, [[.own (0, 1001) r.length 0 r.length, .own (0, 1002) q.length 0 q.length, .own (0, 6) 1 0 p.pumps.length]]⟩).put (0, 2) ⟨0, 3, [[.mt, .mt, .mt]]⟩).put (0, 1) ⟨0, 3, [plnD p]⟩
def SmI (R : List Int) : Prop := R.length ≤ 1000000 ∧ ∀ r ∈ R, -1000000000 ≤ r ∧ r ≤ 1000000000
theorem neg_take (R : List Int) (j : Nat) (h : j < R.length) : (R.take (j + 1)).map (- ·) = (R.take j).map (- ·) ++ [-R[j]] := by
  rw [← List.take_append_getElem h, List.map_append]; rfl
set_option maxHeartbeats 8000000 in
theorem negated_c (p : Pln) (h1 : SmI p.rates) (h2 : SmI p.ports) (h3 : p.pumps.length ≤ 1000000) (nn : Nm) : CallsA Try.prog 35 [p.enc] Hp.none nn (Pu (negP p).enc Hp.none) := by
  obtain ⟨code, k1, k2⟩ := c35_ok
  refine callsA_of (T0_ok _) mixed (N := fun t => (0, t)) Try.func35 k1 k2 r35_ok [] false js_nil js_nil' (by simp [Try.f35]) ?_
  obtain ⟨l1, b1⟩ := h1
  obtain ⟨l2, b2⟩ := h2
  have z1 : p.pumps.length * 1 ≤ 140737488355328 := by omega
  have z2 : p.pumps.length ≤ 4611686018427387904 := by omega
  have hb : ∀ b ∈ p.pumps, (bRow b).length = 1 := fun _ _ => rfl
  simp (config := { maxSteps := 500000 }) only [↓vp, vv, implies_true, forall_const, undef, InI, ↓reduceIte, simprocAttr, c35, Pln.enc, plnD, z1, z2, hb]
  refine ⟨hb, rng_loop p.rates.length (fun j => ⟨fr [(1, .ptr (0, 1) 0 0 0), (2, .ptr (0, 2) 0 0 0), (3, .ptr (0, 3) 0 0 0), (13, di p.rates.length), (14, di j)], NegS p ((p.rates.take j).map (- ·)) [] 0⟩) (fun _ => True) ((weak_ownC (0, 3) 0 3 [] [.mt, .own (0, 6) 1 0 p.pumps.length] (0, 1001) 1 (by simp (config := { maxSteps := 500000 }) only [↓vp, vv, implies_true, forall_const, undef, InI, ↓reduceIte, simprocAttr, ]) (by simp (config := { maxSteps := 500000 }) only [↓vp, vv, implies_true, forall_const, undef, InI, ↓reduceIte, simprocAttr, ])).trans ((weak_ownC (0, 3) 0 3 [.own (0, 1001) 0 0 0] [.own (0, 6) 1 0 p.pumps.length] (0, 1002) 1 (by simp (config := { maxSteps := 500000 }) only [↓vp, vv, implies_true, forall_const, undef, InI, ↓reduceIte, simprocAttr, ]) (by simp (config := { maxSteps := 500000 }) only [↓vp, vv, implies_true, forall_const, undef, InI, ↓reduceIte, simprocAttr, ])).trans (weak_eq [] [(0, 1), (0, 2), (0, 3), (0, 6), (0, 1001), (0, 1002)] [(1, .ptr (0, 1) 0 0 0), (2, .ptr (0, 2) 0 0 0), (3, .ptr (0, 3) 0 0 0), (13, di p.rates.length), (14, di 0)] (by simp (config := { maxSteps := 500000 }) only [↓vp, vv, implies_true, forall_const, undef, InI, ↓reduceIte, simprocAttr, coverS, NegS, plnD, bRow]) (by simp (config := { maxSteps := 500000 }) only [↓vp, vv, implies_true, forall_const, undef, InI, ↓reduceIte, simprocAttr, refsF, NegS, plnD, bRow]) (by simp (config := { maxSteps := 500000 }) only [↓vp, vv, implies_true, forall_const, undef, InI, ↓reduceIte, simprocAttr, NegS, plnD, bRow]) (by simp) (by simp (config := { maxSteps := 500000 }) only [↓vp, vv, implies_true, forall_const, undef, InI, ↓reduceIte, simprocAttr, NegS, plnD, bRow]; try rfl)))) trivial (fun j hj _ => ?_) (fun _ => ?_)⟩
  · have hj' : (j : Int) < p.rates.length := by omega
    have hn := idx_nn j
    have w1 := idx_next (j := j) (by omega)
    have hg := iRow_at p.rates j hj
    have ht := neg_take p.rates j hj
    have hr := b1 _ (List.getElem_mem hj)
    generalize p.rates[j] = r at hg ht hr
    have w2 : IntKind.i64.wrap (0 - r) = -r := by rw [wrap_i (by omega)]; omega
    have hl : (p.rates.take j).length = j := by rw [List.length_take]; omega
    have hl3 : (p.rates.take (j + 1)).length = j + 1 := by rw [List.length_take]; omega
    have y1 : (j + 1) * 8 ≤ 140737488355328 := by omega
    have y2 : j + 1 ≤ 4611686018427387904 := by omega
    simp (config := { maxSteps := 500000 }) only [↓vp, vv, implies_true, forall_const, undef, InI, ↓reduceIte, simprocAttr, c35, r35, c35_1, c35_2, c35_3, c35_4, c35_5, c35_6, NegS, plnD, hj', hn, Int.toNat_natCast, hg, w1, w2, hl, y1, y2]
    exact rng_next hj (weak_eq [] [(0, 1), (0, 2), (0, 3), (0, 6), (0, 1001), (0, 1002)] [(1, .ptr (0, 1) 0 0 0), (2, .ptr (0, 2) 0 0 0), (3, .ptr (0, 3) 0 0 0), (13, di p.rates.length), (14, di (j + 1 : Nat))] (by simp (config := { maxSteps := 500000 }) only [↓vp, vv, implies_true, forall_const, undef, InI, ↓reduceIte, simprocAttr, coverS, NegS, plnD, iRow, bRow, w1, ht, hl, hl3, List.map_append]) (by simp (config := { maxSteps := 500000 }) only [↓vp, vv, implies_true, forall_const, undef, InI, ↓reduceIte, simprocAttr, refsF, NegS, plnD, iRow, bRow, w1, ht, hl, hl3, List.map_append]) (by simp (config := { maxSteps := 500000 }) only [↓vp, vv, implies_true, forall_const, undef, InI, ↓reduceIte, simprocAttr, NegS, plnD, iRow, bRow, w1, ht, hl, hl3, List.map_append]) (by simp) (by simp (config := { maxSteps := 500000 }) only [↓vp, vv, implies_true, forall_const, undef, InI, ↓reduceIte, simprocAttr, NegS, plnD, iRow, bRow, w1, ht, hl, hl3, List.map_append]; try rfl)) trivial
  · simp only [List.take_length]
    have hl1 : (p.rates.map (- ·)).length = p.rates.length := List.length_map _
    generalize hR : p.rates.map (- ·) = R at hl1
    simp (config := { maxSteps := 500000 }) only [↓vp, vv, implies_true, forall_const, undef, InI, ↓reduceIte, simprocAttr, c35, r35, c35_1, c35_2, c35_3, c35_4, c35_5, c35_6, NegS, plnD, Int.lt_irrefl]
    refine rng_loop p.ports.length (fun j => ⟨fr [(1, .ptr (0, 1) 0 0 0), (2, .ptr (0, 2) 0 0 0), (3, .ptr (0, 3) 0 0 0), (31, di p.ports.length), (32, di j)], NegS p R ((p.ports.take j).map (- ·)) 0⟩) (fun _ => True) (weak_eq [] [(0, 1), (0, 2), (0, 3), (0, 6), (0, 1001), (0, 1002)] [(1, .ptr (0, 1) 0 0 0), (2, .ptr (0, 2) 0 0 0), (3, .ptr (0, 3) 0 0 0), (31, di p.ports.length), (32, di 0)] (by simp (config := { maxSteps := 500000 }) only [↓vp, vv, implies_true, forall_const, undef, InI, ↓reduceIte, simprocAttr, coverS, NegS, plnD, iRow, bRow]) (by simp (config := { maxSteps := 500000 }) only [↓vp, vv, implies_true, forall_const, undef, InI, ↓reduceIte, simprocAttr, refsF, NegS, plnD, iRow, bRow]) (by simp (config := { maxSteps := 500000 }) only [↓vp, vv, implies_true, forall_const, undef, InI, ↓reduceIte, simprocAttr, NegS, plnD, iRow, bRow]) (by simp) (by simp (config := { maxSteps := 500000 }) only [↓vp, vv, implies_true, forall_const, undef, InI, ↓reduceIte, simprocAttr, NegS, plnD, iRow, bRow]; try rfl)) trivial (fun j hj _ => ?_) (fun _ => ?_)
    · have hj' : (j : Int) < p.ports.length := by omega
      have hn := idx_nn j
      have w1 := idx_next (j := j) (by omega)
      have hg := iRow_at p.ports j hj
      have ht := neg_take p.ports j hj
      have hr := b2 _ (List.getElem_mem hj)
      generalize p.ports[j] = r at hg ht hr
      have w2 : IntKind.i64.wrap (0 - r) = -r := by rw [wrap_i (by omega)]; omega
      have hl : (p.ports.take j).length = j := by rw [List.length_take]; omega
      have hl3 : (p.ports.take (j + 1)).length = j + 1 := by rw [List.length_take]; omega
      have y1 : (j + 1) * 8 ≤ 140737488355328 := by omega
      have y2 : j + 1 ≤ 4611686018427387904 := by omega
      simp (config := { maxSteps := 500000 }) only [↓vp, vv, implies_true, forall_const, undef, InI, ↓reduceIte, simprocAttr, c35, r35, c35_1, c35_2, c35_3, c35_4, c35_5, c35_6, NegS, plnD, hj', hn, Int.toNat_natCast, hg, w1, w2, hl, y1, y2]
      exact rng_next hj (weak_eq [] [(0, 1), (0, 2), (0, 3), (0, 6), (0, 1001), (0, 1002)] [(1, .ptr (0, 1) 0 0 0), (2, .ptr (0, 2) 0 0 0), (3, .ptr (0, 3) 0 0 0), (31, di p.ports.length), (32, di (j + 1 : Nat))] (by simp (config := { maxSteps := 500000 }) only [↓vp, vv, implies_true, forall_const, undef, InI, ↓reduceIte, simprocAttr, coverS, NegS, plnD, iRow, bRow, w1, ht, hl, hl3, List.map_append]) (by simp (config := { maxSteps := 500000 }) only [↓vp, vv, implies_true, forall_const, undef, InI, ↓reduceIte, simprocAttr, refsF, NegS, plnD, iRow, bRow, w1, ht, hl, hl3, List.map_append]) (by simp (config := { maxSteps := 500000 }) only [↓vp, vv, implies_true, forall_const, undef, InI, ↓reduceIte, simprocAttr, NegS, plnD, iRow, bRow, w1, ht, hl, hl3, List.map_append]) (by simp) (by simp (config := { maxSteps := 500000 }) only [↓vp, vv, implies_true, forall_const, undef, InI, ↓reduceIte, simprocAttr, NegS, plnD, iRow, bRow, w1, ht, hl, hl3, List.map_append]; try rfl)) trivial
    · simp only [List.take_length]
      have e : negP p = ⟨R, p.ports.map (- ·), p.pumps⟩ := by unfold negP; rw [hR]
      rw [e]
      generalize p.ports.map (- ·) = Q
      simp (config := { maxSteps := 500000 }) only [↓vp, vv, implies_true, forall_const, undef, InI, ↓reduceIte, simprocAttr, c35, r35, c35_1, c35_2, c35_3, c35_4, c35_5, c35_6, NegS, plnD, Int.lt_irrefl, Pu]
      exact ⟨fun _ _ d hd => by rw [List.mem_singleton.1 hd]; rfl, fun _ _ d hd => by rw [List.mem_singleton.1 hd]; rfl, fun _ _ d hd => by rw [List.mem_singleton.1 hd]; rfl⟩
end Go.Proofs.Ytiaenojpbiahgaa
