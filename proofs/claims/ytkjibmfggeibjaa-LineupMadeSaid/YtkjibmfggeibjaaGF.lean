
/- Functions of the library that look through slices with a function. -/
import Derived.Test.YtkjibmfggeibjaaVu
import Derived.Test.YtkjibmfggeibjaaCodeS
namespace Go.Proofs.Ytkjibmfggeibjaa
open Go
set_option linter.unusedVariables false
set_option linter.unusedSimpArgs false
set_option maxRecDepth 100000

theorem get_lt {α : Type} {l : List α} {k : Nat} (h : k < l.length) : l[k]? = some l[k] := List.getElem?_eq_getElem h
theorem ipsOf_ips : ∀ (l : List (List D)), ipsOf (ips l) = some l
  | [] => rfl
  | r :: l => by
    show ipsOf (D.ip r :: ips l) = _
    rw [ipsOf, ipsOf_ips l]
def outI (q : List D → Bool) (rows : List (List D)) : D := di (idxOf q 0 rows)
def outC (q : List D → Bool) (rows : List (List D)) : D := db (rows.any q)
set_option maxHeartbeats 4000000 in
theorem idxF_I (q : D → Bool) (g : FuncId) (l rows : List (List D)) (h : QOk Try.prog false 1 q g l rows) (nn : Nm) : CallsA Try.prog 172 [.sl rows, .clo g [] (ips l)] Hp.none nn (Pu (outI (fun r => q (elV false r)) rows) Hp.none) := by
  obtain ⟨hg, hl, hq⟩ := h
  obtain ⟨code, h1, h2⟩ := c172_ok
  refine callsA_of (tc_q (q := q) hg (T0_ok _)) mixed (N := fun t => (0, t)) Try.func172 h1 h2 r172_ok [] false js_nil js_nil' (by simp [Try.f172]) ?_
  unfold outI
  simp (config := { maxSteps := 500000 }) only [↓vp, vv, implies_true, forall_const, undef, InI, ↓reduceIte, simprocAttr, c172]
  rw [vc_loop]
  refine ⟨fun m s => ∃ j : Nat, j + m = rows.length ∧ idxOf (fun r => q (elV false r)) 0 rows = idxOf (fun r => q (elV false r)) j (rows.drop j) ∧ s = ⟨fr [(0, .sl rows), (1, .clo g [] (ips l)), (7, di rows.length), (8, di j)], Hp.none⟩, ⟨rows.length, _, (weak_eq [] [] [(0, .sl rows), (1, .clo g [] (ips l)), (7, di rows.length), (8, di 0)] (by simp (config := { maxSteps := 500000 }) only [↓vp, vv, implies_true, forall_const, undef, InI, ↓reduceIte, simprocAttr, coverS]) (by simp (config := { maxSteps := 500000 }) only [↓vp, vv, implies_true, forall_const, undef, InI, ↓reduceIte, simprocAttr, refsF, ips_refs]) (by simp (config := { maxSteps := 500000 }) only [↓vp, vv, implies_true, forall_const, undef, InI, ↓reduceIte, simprocAttr, ]) (by simp) (by simp (config := { maxSteps := 500000 }) only [↓vp, vv, implies_true, forall_const, undef, InI, ↓reduceIte, simprocAttr, ]; try rfl)), ⟨0, by omega, rfl, rfl⟩⟩, ?_⟩
  rintro m s ⟨j, hj, he, rfl⟩
  by_cases hlt : j < rows.length
  · have hlt' : (j : Int) < rows.length := by omega
    have h0 : (0 : Int) ≤ j := by omega
    obtain ⟨r, hr⟩ : ∃ r, rows[j]? = some r := ⟨_, get_lt hlt⟩
    have hg' : rows.getD j [] = r := by rw [List.getD_eq_getElem?_getD, hr]; rfl
    obtain ⟨hr1, hr2, hr0, hr3⟩ := hq r (List.mem_of_getElem? hr)
    rw [idxOf_drop _ _ _ _ hr] at he
    have w1 : IntKind.i64.wrap ((j : Int) + 1) = ((j + 1 : Nat) : Int) := by rw [wrap_i (by omega)]; rfl
    obtain ⟨x, rfl⟩ := hr0 rfl
    have ht : (0 : Nat) = 0 := rfl
    have d1 : (0 : Nat) = 0 := rfl
    have d2 : (0 : Nat) = 0 := rfl
    have d3 : (0 : Nat) = 0 := rfl
    have d4 : (0 : Nat) = 0 := rfl
    have d5 : (0 : Nat) = 0 := rfl
    have hc : ∀ nn, CallsA Try.prog g ((.v x) :: ips l) Hp.none nn (Pu (db (q (.v x))) Hp.none) := hr3
    have he2 : idxOf (fun r => q (elV false r)) 0 rows = if q (.v x) = true then (j : Int) else idxOf (fun r => q (elV false r)) (j + 1 : Nat) (rows.drop (j + 1)) := he
    cases hb : q (.v x) with
    | true =>
      rw [hb, if_pos rfl] at he2
      have hcT : ∀ nn, CallsA Try.prog g ((.v x) :: ips l) Hp.none nn (Pu (db true) Hp.none) = True := fun nn => eq_true (by have := hc nn; rwa [hb] at this)
      simp (config := { maxSteps := 500000 }) only [↓vp, vv, implies_true, forall_const, undef, InI, ↓reduceIte, simprocAttr, c172, r172, c172_1, c172_2, c172_3, c172_4, hlt', h0, Int.toNat_natCast, hg', hr1, ht, d1, d2, d3, d4, d5, ips_nms, ips_lend, ips_lendNm, ips_ok, ips_refs, rowQ, hb, he2, Pu, addNm, cellNms, hcT]
    | false =>
      rw [hb, if_neg (by simp)] at he2
      have hcT : ∀ nn, CallsA Try.prog g ((.v x) :: ips l) Hp.none nn (Pu (db false) Hp.none) = True := fun nn => eq_true (by have := hc nn; rwa [hb] at this)
      simp (config := { maxSteps := 500000 }) only [↓vp, vv, implies_true, forall_const, undef, InI, ↓reduceIte, simprocAttr, c172, r172, c172_1, c172_2, c172_3, c172_4, hlt', h0, Int.toNat_natCast, hg', hr1, ht, d1, d2, d3, d4, d5, ips_nms, ips_lend, ips_lendNm, ips_ok, ips_refs, rowQ, hb, addNm, cellNms, hcT]
      exact ⟨m - 1, _, by omega, weak_eq [] [] [(0, .sl rows), (1, .clo g [] (ips l)), (7, di rows.length), (8, di ((j + 1 : Nat) : Int))] (by simp (config := { maxSteps := 500000 }) only [↓vp, vv, implies_true, forall_const, undef, InI, ↓reduceIte, simprocAttr, coverS, w1]) (by simp (config := { maxSteps := 500000 }) only [↓vp, vv, implies_true, forall_const, undef, InI, ↓reduceIte, simprocAttr, refsF, ips_refs]) (by simp (config := { maxSteps := 500000 }) only [↓vp, vv, implies_true, forall_const, undef, InI, ↓reduceIte, simprocAttr, ]) (by simp) (by simp (config := { maxSteps := 500000 }) only [↓vp, vv, implies_true, forall_const, undef, InI, ↓reduceIte, simprocAttr, ]; try rfl), ⟨j + 1, by omega, he2, rfl⟩⟩
  · have hlt' : ¬ (j : Int) < rows.length := by omega
    rw [List.drop_of_length_le (by omega)] at he
    have he2 : idxOf (fun r => q (elV false r)) 0 rows = -1 := he
    simp (config := { maxSteps := 500000 }) only [↓vp, vv, implies_true, forall_const, undef, InI, ↓reduceIte, simprocAttr, c172, r172, c172_1, c172_2, c172_3, c172_4, hlt', he2, Pu]
set_option maxHeartbeats 4000000 in
theorem hasF_I (q : D → Bool) (g : FuncId) (l rows : List (List D)) (h : QOk Try.prog false 1 q g l rows) (nn : Nm) : CallsA Try.prog 121 [.sl rows, .clo g [] (ips l)] Hp.none nn (Pu (outC (fun r => q (elV false r)) rows) Hp.none) := by
  obtain ⟨code, h1, h2⟩ := c121_ok
  refine callsA_of (T := tc 172 (rowPu (selQ Try.prog false 1 (fun g' l' d => q d) outI)) T0) (tc_pu f172_ok (fun args pre d hs hp nn => ?_) (T0_ok _)) mixed (N := fun t => (0, t)) Try.func121 h1 h2 r121_ok [] false js_nil js_nil' (by simp [Try.f121]) ?_
  · unfold selQ at hs
    split at hs
    · split at hs
      · rename_i hi
        cases hs
        rw [ipsOf_eq hi]
        exact idxF_I _ _ _ _ hp nn
      · cases hs
    · cases hs
  · have ha := idxOf_any (fun r => q (elV false r)) rows 0 (Int.le_refl _)
    have hv : decide (0 ≤ idxOf (fun r => q (elV false r)) 0 rows) = rows.any (fun r => q (elV false r)) := by
      rw [Bool.eq_iff_iff, decide_eq_true_eq]; exact ha
    simp (config := { maxSteps := 500000 }) only [↓vp, vv, implies_true, forall_const, undef, InI, ↓reduceIte, simprocAttr, c121, r121, selQ, ipsOf_ips, h, ips_nms, ips_lend, ips_lendNm, ips_ok, ips_refs, outI, outC, addNm, cellNms, hv, Pu]
set_option maxHeartbeats 4000000 in
theorem idxF_S (q : D → Bool) (g : FuncId) (l rows : List (List D)) (h : QOk Try.prog false 1 q g l rows) (nn : Nm) : CallsA Try.prog 180 [.sl rows, .clo g [] (ips l)] Hp.none nn (Pu (outI (fun r => q (elV false r)) rows) Hp.none) := by
  obtain ⟨hg, hl, hq⟩ := h
  obtain ⟨code, h1, h2⟩ := c180_ok
  refine callsA_of (tc_q (q := q) hg (T0_ok _)) mixed (N := fun t => (0, t)) Try.func180 h1 h2 r180_ok [] false js_nil js_nil' (by simp [Try.f180]) ?_
  unfold outI
  simp (config := { maxSteps := 500000 }) only [↓vp, vv, implies_true, forall_const, undef, InI, ↓reduceIte, simprocAttr, c180]
  rw [vc_loop]
  refine ⟨fun m s => ∃ j : Nat, j + m = rows.length ∧ idxOf (fun r => q (elV false r)) 0 rows = idxOf (fun r => q (elV false r)) j (rows.drop j) ∧ s = ⟨fr [(0, .sl rows), (1, .clo g [] (ips l)), (7, di rows.length), (8, di j)], Hp.none⟩, ⟨rows.length, _, (weak_eq [] [] [(0, .sl rows), (1, .clo g [] (ips l)), (7, di rows.length), (8, di 0)] (by simp (config := { maxSteps := 500000 }) only [↓vp, vv, implies_true, forall_const, undef, InI, ↓reduceIte, simprocAttr, coverS]) (by simp (config := { maxSteps := 500000 }) only [↓vp, vv, implies_true, forall_const, undef, InI, ↓reduceIte, simprocAttr, refsF, ips_refs]) (by simp (config := { maxSteps := 500000 }) only [↓vp, vv, implies_true, forall_const, undef, InI, ↓reduceIte, simprocAttr, ]) (by simp) (by simp (config := { maxSteps := 500000 }) only [↓vp, vv, implies_true, forall_const, undef, InI, ↓reduceIte, simprocAttr, ]; try rfl)), ⟨0, by omega, rfl, rfl⟩⟩, ?_⟩
  rintro m s ⟨j, hj, he, rfl⟩
  by_cases hlt : j < rows.length
  · have hlt' : (j : Int) < rows.length := by omega
    have h0 : (0 : Int) ≤ j := by omega
    obtain ⟨r, hr⟩ : ∃ r, rows[j]? = some r := ⟨_, get_lt hlt⟩
    have hg' : rows.getD j [] = r := by rw [List.getD_eq_getElem?_getD, hr]; rfl
    obtain ⟨hr1, hr2, hr0, hr3⟩ := hq r (List.mem_of_getElem? hr)
    rw [idxOf_drop _ _ _ _ hr] at he
    have w1 : IntKind.i64.wrap ((j : Int) + 1) = ((j + 1 : Nat) : Int) := by rw [wrap_i (by omega)]; rfl
    obtain ⟨x, rfl⟩ := hr0 rfl
    have ht : (0 : Nat) = 0 := rfl
    have d1 : (0 : Nat) = 0 := rfl
    have d2 : (0 : Nat) = 0 := rfl
    have d3 : (0 : Nat) = 0 := rfl
    have d4 : (0 : Nat) = 0 := rfl
    have d5 : (0 : Nat) = 0 := rfl
    have hc : ∀ nn, CallsA Try.prog g ((.v x) :: ips l) Hp.none nn (Pu (db (q (.v x))) Hp.none) := hr3
    have he2 : idxOf (fun r => q (elV false r)) 0 rows = if q (.v x) = true then (j : Int) else idxOf (fun r => q (elV false r)) (j + 1 : Nat) (rows.drop (j + 1)) := he
    cases hb : q (.v x) with
    | true =>
      rw [hb, if_pos rfl] at he2
      have hcT : ∀ nn, CallsA Try.prog g ((.v x) :: ips l) Hp.none nn (Pu (db true) Hp.none) = True := fun nn => eq_true (by have := hc nn; rwa [hb] at this)
      simp (config := { maxSteps := 500000 }) only [↓vp, vv, implies_true, forall_const, undef, InI, ↓reduceIte, simprocAttr, c180, r180, c180_1, c180_2, c180_3, c180_4, hlt', h0, Int.toNat_natCast, hg', hr1, ht, d1, d2, d3, d4, d5, ips_nms, ips_lend, ips_lendNm, ips_ok, ips_refs, rowQ, hb, he2, Pu, addNm, cellNms, hcT]
    | false =>
      rw [hb, if_neg (by simp)] at he2
      have hcT : ∀ nn, CallsA Try.prog g ((.v x) :: ips l) Hp.none nn (Pu (db false) Hp.none) = True := fun nn => eq_true (by have := hc nn; rwa [hb] at this)
      simp (config := { maxSteps := 500000 }) only [↓vp, vv, implies_true, forall_const, undef, InI, ↓reduceIte, simprocAttr, c180, r180, c180_1, c180_2, c180_3, c180_4, hlt', h0, Int.toNat_natCast, hg', hr1, ht, d1, d2, d3, d4, d5, ips_nms, ips_lend, ips_lendNm, ips_ok, ips_refs, rowQ, hb, addNm, cellNms, hcT]
      exact ⟨m - 1, _, by omega, weak_eq [] [] [(0, .sl rows), (1, .clo g [] (ips l)), (7, di rows.length), (8, di ((j + 1 : Nat) : Int))] (by simp (config := { maxSteps := 500000 }) only [↓vp, vv, implies_true, forall_const, undef, InI, ↓reduceIte, simprocAttr, coverS, w1]) (by simp (config := { maxSteps := 500000 }) only [↓vp, vv, implies_true, forall_const, undef, InI, ↓reduceIte, simprocAttr, refsF, ips_refs]) (by simp (config := { maxSteps := 500000 }) only [↓vp, vv, implies_true, forall_const, undef, InI, ↓reduceIte, simprocAttr, ]) (by simp) (by simp (config := { maxSteps := 500000 }) only [↓vp, vv, implies_true, forall_const, undef, InI, ↓reduceIte, simprocAttr, ]; try rfl), ⟨j + 1, by omega, he2, rfl⟩⟩
  · have hlt' : ¬ (j : Int) < rows.length := by omega
    rw [List.drop_of_length_le (by omega)] at he
    have he2 : idxOf (fun r => q (elV false r)) 0 rows = -1 := he
    simp (config := { maxSteps := 500000 }) only [↓vp, vv, implies_true, forall_const, undef, InI, ↓reduceIte, simprocAttr, c180, r180, c180_1, c180_2, c180_3, c180_4, hlt', he2, Pu]
set_option maxHeartbeats 4000000 in
theorem hasF_S (q : D → Bool) (g : FuncId) (l rows : List (List D)) (h : QOk Try.prog false 1 q g l rows) (nn : Nm) : CallsA Try.prog 143 [.sl rows, .clo g [] (ips l)] Hp.none nn (Pu (outC (fun r => q (elV false r)) rows) Hp.none) := by
  obtain ⟨code, h1, h2⟩ := c143_ok
  refine callsA_of (T := tc 180 (rowPu (selQ Try.prog false 1 (fun g' l' d => q d) outI)) T0) (tc_pu f180_ok (fun args pre d hs hp nn => ?_) (T0_ok _)) mixed (N := fun t => (0, t)) Try.func143 h1 h2 r143_ok [] false js_nil js_nil' (by simp [Try.f143]) ?_
  · unfold selQ at hs
    split at hs
    · split at hs
      · rename_i hi
        cases hs
        rw [ipsOf_eq hi]
        exact idxF_S _ _ _ _ hp nn
      · cases hs
    · cases hs
  · have ha := idxOf_any (fun r => q (elV false r)) rows 0 (Int.le_refl _)
    have hv : decide (0 ≤ idxOf (fun r => q (elV false r)) 0 rows) = rows.any (fun r => q (elV false r)) := by
      rw [Bool.eq_iff_iff, decide_eq_true_eq]; exact ha
    simp (config := { maxSteps := 500000 }) only [↓vp, vv, implies_true, forall_const, undef, InI, ↓reduceIte, simprocAttr, c143, r143, selQ, ipsOf_ips, h, ips_nms, ips_lend, ips_lendNm, ips_ok, ips_refs, outI, outC, addNm, cellNms, hv, Pu]
set_option maxHeartbeats 4000000 in
theorem idxF_G (q : D → Bool) (g : FuncId) (l rows : List (List D)) (h : QOk Try.prog true 7 q g l rows) (nn : Nm) : CallsA Try.prog 199 [.sl rows, .clo g [] (ips l)] Hp.none nn (Pu (outI (fun r => q (elV true r)) rows) Hp.none) := by
  obtain ⟨hg, hl, hq⟩ := h
  obtain ⟨code, h1, h2⟩ := c199_ok
  refine callsA_of (tc_q (q := q) hg (T0_ok _)) mixed (N := fun t => (0, t)) Try.func199 h1 h2 r199_ok [] false js_nil js_nil' (by simp [Try.f199]) ?_
  unfold outI
  simp (config := { maxSteps := 500000 }) only [↓vp, vv, implies_true, forall_const, undef, InI, ↓reduceIte, simprocAttr, c199]
  rw [vc_loop]
  refine ⟨fun m s => ∃ j : Nat, j + m = rows.length ∧ idxOf (fun r => q (elV true r)) 0 rows = idxOf (fun r => q (elV true r)) j (rows.drop j) ∧ s = ⟨fr [(0, .sl rows), (1, .clo g [] (ips l)), (7, di rows.length), (8, di j)], Hp.none⟩, ⟨rows.length, _, (weak_eq [] [] [(0, .sl rows), (1, .clo g [] (ips l)), (7, di rows.length), (8, di 0)] (by simp (config := { maxSteps := 500000 }) only [↓vp, vv, implies_true, forall_const, undef, InI, ↓reduceIte, simprocAttr, coverS]) (by simp (config := { maxSteps := 500000 }) only [↓vp, vv, implies_true, forall_const, undef, InI, ↓reduceIte, simprocAttr, refsF, ips_refs]) (by simp (config := { maxSteps := 500000 }) only [↓vp, vv, implies_true, forall_const, undef, InI, ↓reduceIte, simprocAttr, ]) (by simp) (by simp (config := { maxSteps := 500000 }) only [↓vp, vv, implies_true, forall_const, undef, InI, ↓reduceIte, simprocAttr, ]; try rfl)), ⟨0, by omega, rfl, rfl⟩⟩, ?_⟩
  rintro m s ⟨j, hj, he, rfl⟩
  by_cases hlt : j < rows.length
  · have hlt' : (j : Int) < rows.length := by omega
    have h0 : (0 : Int) ≤ j := by omega
    obtain ⟨r, hr⟩ : ∃ r, rows[j]? = some r := ⟨_, get_lt hlt⟩
    have hg' : rows.getD j [] = r := by rw [List.getD_eq_getElem?_getD, hr]; rfl
    obtain ⟨hr1, hr2, hr0, hr3⟩ := hq r (List.mem_of_getElem? hr)
    rw [idxOf_drop _ _ _ _ hr] at he
    have w1 : IntKind.i64.wrap ((j : Int) + 1) = ((j + 1 : Nat) : Int) := by rw [wrap_i (by omega)]; rfl
    have ht : r.take 7 = r := List.take_of_length_le (by omega)
    have d1 := fun H => (doneR H [] hr2).1
    have d2 := fun H => (doneR H [] hr2).2.1
    have d3 := fun H => (doneR H [] hr2).2.2.1
    have d4 := (doneR Hp.none [] hr2).2.2.2.1
    have d5 := fun js => (doneR Hp.none js hr2).2.2.2.2
    have hc : ∀ nn, CallsA Try.prog g ((.agg r) :: ips l) Hp.none nn (Pu (db (q (.agg r))) Hp.none) := hr3
    have he2 : idxOf (fun r => q (elV true r)) 0 rows = if q (.agg r) = true then (j : Int) else idxOf (fun r => q (elV true r)) (j + 1 : Nat) (rows.drop (j + 1)) := he
    cases hb : q (.agg r) with
    | true =>
      rw [hb, if_pos rfl] at he2
      have hcT : ∀ nn, CallsA Try.prog g ((.agg r) :: ips l) Hp.none nn (Pu (db true) Hp.none) = True := fun nn => eq_true (by have := hc nn; rwa [hb] at this)
      simp (config := { maxSteps := 500000 }) only [↓vp, vv, implies_true, forall_const, undef, InI, ↓reduceIte, simprocAttr, c199, r199, c199_1, c199_2, c199_3, c199_4, hlt', h0, Int.toNat_natCast, hg', hr1, ht, d1, d2, d3, d4, d5, ips_nms, ips_lend, ips_lendNm, ips_ok, ips_refs, rowQ, hb, he2, Pu, addNm, cellNms, hcT]
    | false =>
      rw [hb, if_neg (by simp)] at he2
      have hcT : ∀ nn, CallsA Try.prog g ((.agg r) :: ips l) Hp.none nn (Pu (db false) Hp.none) = True := fun nn => eq_true (by have := hc nn; rwa [hb] at this)
      simp (config := { maxSteps := 500000 }) only [↓vp, vv, implies_true, forall_const, undef, InI, ↓reduceIte, simprocAttr, c199, r199, c199_1, c199_2, c199_3, c199_4, hlt', h0, Int.toNat_natCast, hg', hr1, ht, d1, d2, d3, d4, d5, ips_nms, ips_lend, ips_lendNm, ips_ok, ips_refs, rowQ, hb, addNm, cellNms, hcT]
      exact ⟨m - 1, _, by omega, weak_eq [] [] [(0, .sl rows), (1, .clo g [] (ips l)), (7, di rows.length), (8, di ((j + 1 : Nat) : Int))] (by simp (config := { maxSteps := 500000 }) only [↓vp, vv, implies_true, forall_const, undef, InI, ↓reduceIte, simprocAttr, coverS, w1]) (by simp (config := { maxSteps := 500000 }) only [↓vp, vv, implies_true, forall_const, undef, InI, ↓reduceIte, simprocAttr, refsF, ips_refs]) (by simp (config := { maxSteps := 500000 }) only [↓vp, vv, implies_true, forall_const, undef, InI, ↓reduceIte, simprocAttr, ]) (by simp) (by simp (config := { maxSteps := 500000 }) only [↓vp, vv, implies_true, forall_const, undef, InI, ↓reduceIte, simprocAttr, ]; try rfl), ⟨j + 1, by omega, he2, rfl⟩⟩
  · have hlt' : ¬ (j : Int) < rows.length := by omega
    rw [List.drop_of_length_le (by omega)] at he
    have he2 : idxOf (fun r => q (elV true r)) 0 rows = -1 := he
    simp (config := { maxSteps := 500000 }) only [↓vp, vv, implies_true, forall_const, undef, InI, ↓reduceIte, simprocAttr, c199, r199, c199_1, c199_2, c199_3, c199_4, hlt', he2, Pu]
set_option maxHeartbeats 4000000 in
theorem hasF_G (q : D → Bool) (g : FuncId) (l rows : List (List D)) (h : QOk Try.prog true 7 q g l rows) (nn : Nm) : CallsA Try.prog 178 [.sl rows, .clo g [] (ips l)] Hp.none nn (Pu (outC (fun r => q (elV true r)) rows) Hp.none) := by
  obtain ⟨code, h1, h2⟩ := c178_ok
  refine callsA_of (T := tc 199 (rowPu (selQ Try.prog true 7 (fun g' l' d => q d) outI)) T0) (tc_pu f199_ok (fun args pre d hs hp nn => ?_) (T0_ok _)) mixed (N := fun t => (0, t)) Try.func178 h1 h2 r178_ok [] false js_nil js_nil' (by simp [Try.f178]) ?_
  · unfold selQ at hs
    split at hs
    · split at hs
      · rename_i hi
        cases hs
        rw [ipsOf_eq hi]
        exact idxF_G _ _ _ _ hp nn
      · cases hs
    · cases hs
  · have ha := idxOf_any (fun r => q (elV true r)) rows 0 (Int.le_refl _)
    have hv : decide (0 ≤ idxOf (fun r => q (elV true r)) 0 rows) = rows.any (fun r => q (elV true r)) := by
      rw [Bool.eq_iff_iff, decide_eq_true_eq]; exact ha
    simp (config := { maxSteps := 500000 }) only [↓vp, vv, implies_true, forall_const, undef, InI, ↓reduceIte, simprocAttr, c178, r178, selQ, ipsOf_ips, h, ips_nms, ips_lend, ips_lendNm, ips_ok, ips_refs, outI, outC, addNm, cellNms, hv, Pu]
set_option maxHeartbeats 4000000 in
theorem idxF_P (q : D → Bool) (g : FuncId) (l rows : List (List D)) (h : QOk Try.prog true 3 q g l rows) (nn : Nm) : CallsA Try.prog 200 [.sl rows, .clo g [] (ips l)] Hp.none nn (Pu (outI (fun r => q (elV true r)) rows) Hp.none) := by
  obtain ⟨hg, hl, hq⟩ := h
  obtain ⟨code, h1, h2⟩ := c200_ok
  refine callsA_of (tc_q (q := q) hg (T0_ok _)) mixed (N := fun t => (0, t)) Try.func200 h1 h2 r200_ok [] false js_nil js_nil' (by simp [Try.f200]) ?_
  unfold outI
  simp (config := { maxSteps := 500000 }) only [↓vp, vv, implies_true, forall_const, undef, InI, ↓reduceIte, simprocAttr, c200]
  rw [vc_loop]
  refine ⟨fun m s => ∃ j : Nat, j + m = rows.length ∧ idxOf (fun r => q (elV true r)) 0 rows = idxOf (fun r => q (elV true r)) j (rows.drop j) ∧ s = ⟨fr [(0, .sl rows), (1, .clo g [] (ips l)), (7, di rows.length), (8, di j)], Hp.none⟩, ⟨rows.length, _, (weak_eq [] [] [(0, .sl rows), (1, .clo g [] (ips l)), (7, di rows.length), (8, di 0)] (by simp (config := { maxSteps := 500000 }) only [↓vp, vv, implies_true, forall_const, undef, InI, ↓reduceIte, simprocAttr, coverS]) (by simp (config := { maxSteps := 500000 }) only [↓vp, vv, implies_true, forall_const, undef, InI, ↓reduceIte, simprocAttr, refsF, ips_refs]) (by simp (config := { maxSteps := 500000 }) only [↓vp, vv, implies_true, forall_const, undef, InI, ↓reduceIte, simprocAttr, ]) (by simp) (by simp (config := { maxSteps := 500000 }) only [↓vp, vv, implies_true, forall_const, undef, InI, ↓reduceIte, simprocAttr, ]; try rfl)), ⟨0, by omega, rfl, rfl⟩⟩, ?_⟩
  rintro m s ⟨j, hj, he, rfl⟩
  by_cases hlt : j < rows.length
  · have hlt' : (j : Int) < rows.length := by omega
    have h0 : (0 : Int) ≤ j := by omega
    obtain ⟨r, hr⟩ : ∃ r, rows[j]? = some r := ⟨_, get_lt hlt⟩
    have hg' : rows.getD j [] = r := by rw [List.getD_eq_getElem?_getD, hr]; rfl
    obtain ⟨hr1, hr2, hr0, hr3⟩ := hq r (List.mem_of_getElem? hr)
    rw [idxOf_drop _ _ _ _ hr] at he
    have w1 : IntKind.i64.wrap ((j : Int) + 1) = ((j + 1 : Nat) : Int) := by rw [wrap_i (by omega)]; rfl
    have ht : r.take 3 = r := List.take_of_length_le (by omega)
    have d1 := fun H => (doneR H [] hr2).1
    have d2 := fun H => (doneR H [] hr2).2.1
    have d3 := fun H => (doneR H [] hr2).2.2.1
    have d4 := (doneR Hp.none [] hr2).2.2.2.1
    have d5 := fun js => (doneR Hp.none js hr2).2.2.2.2
    have hc : ∀ nn, CallsA Try.prog g ((.agg r) :: ips l) Hp.none nn (Pu (db (q (.agg r))) Hp.none) := hr3
    have he2 : idxOf (fun r => q (elV true r)) 0 rows = if q (.agg r) = true then (j : Int) else idxOf (fun r => q (elV true r)) (j + 1 : Nat) (rows.drop (j + 1)) := he
    cases hb : q (.agg r) with
    | true =>
      rw [hb, if_pos rfl] at he2
      have hcT : ∀ nn, CallsA Try.prog g ((.agg r) :: ips l) Hp.none nn (Pu (db true) Hp.none) = True := fun nn => eq_true (by have := hc nn; rwa [hb] at this)
      simp (config := { maxSteps := 500000 }) only [↓vp, vv, implies_true, forall_const, undef, InI, ↓reduceIte, simprocAttr, c200, r200, c200_1, c200_2, c200_3, c200_4, hlt', h0, Int.toNat_natCast, hg', hr1, ht, d1, d2, d3, d4, d5, ips_nms, ips_lend, ips_lendNm, ips_ok, ips_refs, rowQ, hb, he2, Pu, addNm, cellNms, hcT]
    | false =>
      rw [hb, if_neg (by simp)] at he2
      have hcT : ∀ nn, CallsA Try.prog g ((.agg r) :: ips l) Hp.none nn (Pu (db false) Hp.none) = True := fun nn => eq_true (by have := hc nn; rwa [hb] at this)
      simp (config := { maxSteps := 500000 }) only [↓vp, vv, implies_true, forall_const, undef, InI, ↓reduceIte, simprocAttr, c200, r200, c200_1, c200_2, c200_3, c200_4, hlt', h0, Int.toNat_natCast, hg', hr1, ht, d1, d2, d3, d4, d5, ips_nms, ips_lend, ips_lendNm, ips_ok, ips_refs, rowQ, hb, addNm, cellNms, hcT]
      exact ⟨m - 1, _, by omega, weak_eq [] [] [(0, .sl rows), (1, .clo g [] (ips l)), (7, di rows.length), (8, di ((j + 1 : Nat) : Int))] (by simp (config := { maxSteps := 500000 }) only [↓vp, vv, implies_true, forall_const, undef, InI, ↓reduceIte, simprocAttr, coverS, w1]) (by simp (config := { maxSteps := 500000 }) only [↓vp, vv, implies_true, forall_const, undef, InI, ↓reduceIte, simprocAttr, refsF, ips_refs]) (by simp (config := { maxSteps := 500000 }) only [↓vp, vv, implies_true, forall_const, undef, InI, ↓reduceIte, simprocAttr, ]) (by simp) (by simp (config := { maxSteps := 500000 }) only [↓vp, vv, implies_true, forall_const, undef, InI, ↓reduceIte, simprocAttr, ]; try rfl), ⟨j + 1, by omega, he2, rfl⟩⟩
  · have hlt' : ¬ (j : Int) < rows.length := by omega
    rw [List.drop_of_length_le (by omega)] at he
    have he2 : idxOf (fun r => q (elV true r)) 0 rows = -1 := he
    simp (config := { maxSteps := 500000 }) only [↓vp, vv, implies_true, forall_const, undef, InI, ↓reduceIte, simprocAttr, c200, r200, c200_1, c200_2, c200_3, c200_4, hlt', he2, Pu]
set_option maxHeartbeats 4000000 in
theorem hasF_P (q : D → Bool) (g : FuncId) (l rows : List (List D)) (h : QOk Try.prog true 3 q g l rows) (nn : Nm) : CallsA Try.prog 188 [.sl rows, .clo g [] (ips l)] Hp.none nn (Pu (outC (fun r => q (elV true r)) rows) Hp.none) := by
  obtain ⟨code, h1, h2⟩ := c188_ok
  refine callsA_of (T := tc 200 (rowPu (selQ Try.prog true 3 (fun g' l' d => q d) outI)) T0) (tc_pu f200_ok (fun args pre d hs hp nn => ?_) (T0_ok _)) mixed (N := fun t => (0, t)) Try.func188 h1 h2 r188_ok [] false js_nil js_nil' (by simp [Try.f188]) ?_
  · unfold selQ at hs
    split at hs
    · split at hs
      · rename_i hi
        cases hs
        rw [ipsOf_eq hi]
        exact idxF_P _ _ _ _ hp nn
      · cases hs
    · cases hs
  · have ha := idxOf_any (fun r => q (elV true r)) rows 0 (Int.le_refl _)
    have hv : decide (0 ≤ idxOf (fun r => q (elV true r)) 0 rows) = rows.any (fun r => q (elV true r)) := by
      rw [Bool.eq_iff_iff, decide_eq_true_eq]; exact ha
    simp (config := { maxSteps := 500000 }) only [↓vp, vv, implies_true, forall_const, undef, InI, ↓reduceIte, simprocAttr, c188, r188, selQ, ipsOf_ips, h, ips_nms, ips_lend, ips_lendNm, ips_ok, ips_refs, outI, outC, addNm, cellNms, hv, Pu]
set_option maxHeartbeats 4000000 in
theorem idxF_N (q : D → Bool) (g : FuncId) (l rows : List (List D)) (h : QOk Try.prog true 5 q g l rows) (nn : Nm) : CallsA Try.prog 183 [.sl rows, .clo g [] (ips l)] Hp.none nn (Pu (outI (fun r => q (elV true r)) rows) Hp.none) := by
  obtain ⟨hg, hl, hq⟩ := h
  obtain ⟨code, h1, h2⟩ := c183_ok
  refine callsA_of (tc_q (q := q) hg (T0_ok _)) mixed (N := fun t => (0, t)) Try.func183 h1 h2 r183_ok [] false js_nil js_nil' (by simp [Try.f183]) ?_
  unfold outI
  simp (config := { maxSteps := 500000 }) only [↓vp, vv, implies_true, forall_const, undef, InI, ↓reduceIte, simprocAttr, c183]
  rw [vc_loop]
  refine ⟨fun m s => ∃ j : Nat, j + m = rows.length ∧ idxOf (fun r => q (elV true r)) 0 rows = idxOf (fun r => q (elV true r)) j (rows.drop j) ∧ s = ⟨fr [(0, .sl rows), (1, .clo g [] (ips l)), (7, di rows.length), (8, di j)], Hp.none⟩, ⟨rows.length, _, (weak_eq [] [] [(0, .sl rows), (1, .clo g [] (ips l)), (7, di rows.length), (8, di 0)] (by simp (config := { maxSteps := 500000 }) only [↓vp, vv, implies_true, forall_const, undef, InI, ↓reduceIte, simprocAttr, coverS]) (by simp (config := { maxSteps := 500000 }) only [↓vp, vv, implies_true, forall_const, undef, InI, ↓reduceIte, simprocAttr, refsF, ips_refs]) (by simp (config := { maxSteps := 500000 }) only [↓vp, vv, implies_true, forall_const, undef, InI, ↓reduceIte, simprocAttr, ]) (by simp) (by simp (config := { maxSteps := 500000 }) only [↓vp, vv, implies_true, forall_const, undef, InI, ↓reduceIte, simprocAttr, ]; try rfl)), ⟨0, by omega, rfl, rfl⟩⟩, ?_⟩
  rintro m s ⟨j, hj, he, rfl⟩
  by_cases hlt : j < rows.length
  · have hlt' : (j : Int) < rows.length := by omega
    have h0 : (0 : Int) ≤ j := by omega
    obtain ⟨r, hr⟩ : ∃ r, rows[j]? = some r := ⟨_, get_lt hlt⟩
    have hg' : rows.getD j [] = r := by rw [List.getD_eq_getElem?_getD, hr]; rfl
    obtain ⟨hr1, hr2, hr0, hr3⟩ := hq r (List.mem_of_getElem? hr)
    rw [idxOf_drop _ _ _ _ hr] at he
    have w1 : IntKind.i64.wrap ((j : Int) + 1) = ((j + 1 : Nat) : Int) := by rw [wrap_i (by omega)]; rfl
    have ht : r.take 5 = r := List.take_of_length_le (by omega)
    have d1 := fun H => (doneR H [] hr2).1
    have d2 := fun H => (doneR H [] hr2).2.1
    have d3 := fun H => (doneR H [] hr2).2.2.1
    have d4 := (doneR Hp.none [] hr2).2.2.2.1
    have d5 := fun js => (doneR Hp.none js hr2).2.2.2.2
    have hc : ∀ nn, CallsA Try.prog g ((.agg r) :: ips l) Hp.none nn (Pu (db (q (.agg r))) Hp.none) := hr3
    have he2 : idxOf (fun r => q (elV true r)) 0 rows = if q (.agg r) = true then (j : Int) else idxOf (fun r => q (elV true r)) (j + 1 : Nat) (rows.drop (j + 1)) := he
    cases hb : q (.agg r) with
    | true =>
      rw [hb, if_pos rfl] at he2
      have hcT : ∀ nn, CallsA Try.prog g ((.agg r) :: ips l) Hp.none nn (Pu (db true) Hp.none) = True := fun nn => eq_true (by have := hc nn; rwa [hb] at this)
      simp (config := { maxSteps := 500000 }) only [↓vp, vv, implies_true, forall_const, undef, InI, ↓reduceIte, simprocAttr, c183, r183, c183_1, c183_2, c183_3, c183_4, hlt', h0, Int.toNat_natCast, hg', hr1, ht, d1, d2, d3, d4, d5, ips_nms, ips_lend, ips_lendNm, ips_ok, ips_refs, rowQ, hb, he2, Pu, addNm, cellNms, hcT]
    | false =>
      rw [hb, if_neg (by simp)] at he2
      have hcT : ∀ nn, CallsA Try.prog g ((.agg r) :: ips l) Hp.none nn (Pu (db false) Hp.none) = True := fun nn => eq_true (by have := hc nn; rwa [hb] at this)
      simp (config := { maxSteps := 500000 }) only [↓vp, vv, implies_true, forall_const, undef, InI, ↓reduceIte, simprocAttr, c183, r183, c183_1, c183_2, c183_3, c183_4, hlt', h0, Int.toNat_natCast, hg', hr1, ht, d1, d2, d3, d4, d5, ips_nms, ips_lend, ips_lendNm, ips_ok, ips_refs, rowQ, hb, addNm, cellNms, hcT]
      exact ⟨m - 1, _, by omega, weak_eq [] [] [(0, .sl rows), (1, .clo g [] (ips l)), (7, di rows.length), (8, di ((j + 1 : Nat) : Int))] (by simp (config := { maxSteps := 500000 }) only [↓vp, vv, implies_true, forall_const, undef, InI, ↓reduceIte, simprocAttr, coverS, w1]) (by simp (config := { maxSteps := 500000 }) only [↓vp, vv, implies_true, forall_const, undef, InI, ↓reduceIte, simprocAttr, refsF, ips_refs]) (by simp (config := { maxSteps := 500000 }) only [↓vp, vv, implies_true, forall_const, undef, InI, ↓reduceIte, simprocAttr, ]) (by simp) (by simp (config := { maxSteps := 500000 }) only [↓vp, vv, implies_true, forall_const, undef, InI, ↓reduceIte, simprocAttr, ]; try rfl), ⟨j + 1, by omega, he2, rfl⟩⟩
  · have hlt' : ¬ (j : Int) < rows.length := by omega
    rw [List.drop_of_length_le (by omega)] at he
    have he2 : idxOf (fun r => q (elV true r)) 0 rows = -1 := he
    simp (config := { maxSteps := 500000 }) only [↓vp, vv, implies_true, forall_const, undef, InI, ↓reduceIte, simprocAttr, c183, r183, c183_1, c183_2, c183_3, c183_4, hlt', he2, Pu]
set_option maxHeartbeats 4000000 in
theorem hasF_N (q : D → Bool) (g : FuncId) (l rows : List (List D)) (h : QOk Try.prog true 5 q g l rows) (nn : Nm) : CallsA Try.prog 191 [.sl rows, .clo g [] (ips l)] Hp.none nn (Pu (outC (fun r => q (elV true r)) rows) Hp.none) := by
  obtain ⟨code, h1, h2⟩ := c191_ok
  refine callsA_of (T := tc 183 (rowPu (selQ Try.prog true 5 (fun g' l' d => q d) outI)) T0) (tc_pu f183_ok (fun args pre d hs hp nn => ?_) (T0_ok _)) mixed (N := fun t => (0, t)) Try.func191 h1 h2 r191_ok [] false js_nil js_nil' (by simp [Try.f191]) ?_
  · unfold selQ at hs
    split at hs
    · split at hs
      · rename_i hi
        cases hs
        rw [ipsOf_eq hi]
        exact idxF_N _ _ _ _ hp nn
      · cases hs
    · cases hs
  · have ha := idxOf_any (fun r => q (elV true r)) rows 0 (Int.le_refl _)
    have hv : decide (0 ≤ idxOf (fun r => q (elV true r)) 0 rows) = rows.any (fun r => q (elV true r)) := by
      rw [Bool.eq_iff_iff, decide_eq_true_eq]; exact ha
    simp (config := { maxSteps := 500000 }) only [↓vp, vv, implies_true, forall_const, undef, InI, ↓reduceIte, simprocAttr, c191, r191, selQ, ipsOf_ips, h, ips_nms, ips_lend, ips_lendNm, ips_ok, ips_refs, outI, outC, addNm, cellNms, hv, Pu]
end Go.Proofs.Ytkjibmfggeibjaa
