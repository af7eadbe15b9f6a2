
/- Functions of the library that look through slices with a function. -/
import Derived.Test.YtiaenojpbiahgaaVu
import Derived.Test.YtiaenojpbiahgaaCodeS
namespace Go.Proofs.Ytiaenojpbiahgaa
open Go
set_option linter.unusedVariables false
set_option linter.unusedSimpArgs false
set_option maxRecDepth 100000

theorem get_lt {α : Type} {l : List α} {k : Nat} (h : k < l.length) : l[k]? = some l[k] := List.getElem?_eq_getElem h
theorem ipsOf_ips : ∀ (l : List (List D)), ipsOf (ips l) = some l
  | [] => rfl
  | r :: l => by
    show ipsOf (D.ip r :: ips l) = _
    rw [ipsOf, ipsOf_ips l]
def outI (q : List D → Bool) (rows : List (List D)) : D := di (idxOf q 0 rows)
def outC (q : List D → Bool) (rows : List (List D)) : D := db (rows.any q)
set_option maxHeartbeats 4000000 in
theorem idxF_T (q : D → Bool) (g : FuncId) (l rows : List (List D)) (h : QOk Try.prog true 5 q g l rows) (nn : Nm) : CallsA Try.prog 89 [.sl rows, .clo g [] (ips l)] Hp.none nn (Pu (outI (fun r => q (elV true r)) rows) Hp.none) := by
  obtain ⟨hg, hl, hq⟩ := h
  obtain ⟨code, h1, h2⟩ := c89_ok
  refine callsA_of (tc_q (q := q) hg (T0_ok _)) mixed (N := fun t => (0, t)) Try.func89 h1 h2 r89_ok [] false js_nil js_nil' (by simp [Try.f89]) ?_
  unfold outI
  simp (config := { maxSteps := 500000 }) only [↓vp, vv, implies_true, forall_const, undef, InI, ↓reduceIte, simprocAttr, c89]
  rw [vc_loop]
  refine ⟨fun m s => ∃ j : Nat, j + m = rows.length ∧ idxOf (fun r => q (elV true r)) 0 rows = idxOf (fun r => q (elV true r)) j (rows.drop j) ∧ s = ⟨fr [(0, .sl rows), (1, .clo g [] (ips l)), (7, di rows.length), (8, di j)], Hp.none⟩, ⟨rows.length, _, (weak_eq [] [] [(0, .sl rows), (1, .clo g [] (ips l)), (7, di rows.length), (8, di 0)] (by simp (config := { maxSteps := 500000 }) only [↓vp, vv, implies_true, forall_const, undef, InI, ↓reduceIte, simprocAttr, coverS]) (by simp (config := { maxSteps := 500000 }) only [↓vp, vv, implies_true, forall_const, undef, InI, ↓reduceIte, simprocAttr, refsF, ips_refs]) (by simp (config := { maxSteps := 500000 }) only [↓vp, vv, implies_true, forall_const, undef, InI, ↓reduceIte, simprocAttr, ]) (by simp) (by simp (config := { maxSteps := 500000 }) only [↓vp, vv, implies_true, forall_const, undef, InI, ↓reduceIte, simprocAttr, ]; try rfl)), ⟨0, by omega, rfl, rfl⟩⟩, ?_⟩
  rintro m s ⟨j, hj, he, rfl⟩
  by_cases hlt : j < rows.length
  · have hlt' : (j : Int) < rows.length := by omega
    have h0 : (0 : Int) ≤ j := by omega
    obtain ⟨r, hr⟩ : ∃ r, rows[j]? = some r := ⟨_, get_lt hlt⟩
    have hg' : rows.getD j [] = r := by rw [List.getD_eq_getElem?_getD, hr]; rfl
    obtain ⟨hr1, hr2, hr0, hr3⟩ := hq r (List.mem_of_getElem? hr)
    rw [idxOf_drop _ _ _ _ hr] at he
    have w1 : IntKind.i64.wrap ((j : Int) + 1) = ((j + 1 : Nat) : Int) := by rw [wrap_i (by omega)]; rfl
    have ht : r.take 5 = r := List.take_of_length_le (by omega)
    have d1 := fun H => (doneR H [] hr2).1
    have d2 := fun H => (doneR H [] hr2).2.1
    have d3 := fun H => (doneR H [] hr2).2.2.1
    have d4 := (doneR Hp.none [] hr2).2.2.2.1
    have d5 := fun js => (doneR Hp.none js hr2).2.2.2.2
    have hc : ∀ nn, CallsA Try.prog g ((.agg r) :: ips l) Hp.none nn (Pu (db (q (.agg r))) Hp.none) := hr3
    have he2 : idxOf (fun r => q (elV true r)) 0 rows = if q (.agg r) = true then (j : Int) else idxOf (fun r => q (elV true r)) (j + 1 : Nat) (rows.drop (j + 1)) := he
    cases hb : q (.agg r) with
    | true =>
      rw [hb, if_pos rfl] at he2
      have hcT : ∀ nn, CallsA Try.prog g ((.agg r) :: ips l) Hp.none nn (Pu (db true) Hp.none) = True := fun nn => eq_true (by have := hc nn; rwa [hb] at this)
      simp (config := { maxSteps := 500000 }) only [↓vp, vv, implies_true, forall_const, undef, InI, ↓reduceIte, simprocAttr, c89, r89, c89_1, c89_2, c89_3, c89_4, hlt', h0, Int.toNat_natCast, hg', hr1, ht, d1, d2, d3, d4, d5, ips_nms, ips_lend, ips_lendNm, ips_ok, ips_refs, rowQ, hb, he2, Pu, addNm, cellNms, hcT]
    | false =>
      rw [hb, if_neg (by simp)] at he2
      have hcT : ∀ nn, CallsA Try.prog g ((.agg r) :: ips l) Hp.none nn (Pu (db false) Hp.none) = True := fun nn => eq_true (by have := hc nn; rwa [hb] at this)
      simp (config := { maxSteps := 500000 }) only [↓vp, vv, implies_true, forall_const, undef, InI, ↓reduceIte, simprocAttr, c89, r89, c89_1, c89_2, c89_3, c89_4, hlt', h0, Int.toNat_natCast, hg', hr1, ht, d1, d2, d3, d4, d5, ips_nms, ips_lend, ips_lendNm, ips_ok, ips_refs, rowQ, hb, addNm, cellNms, hcT]
      exact ⟨m - 1, _, by omega, weak_eq [] [] [(0, .sl rows), (1, .clo g [] (ips l)), (7, di rows.length), (8, di ((j + 1 : Nat) : Int))] (by simp (config := { maxSteps := 500000 }) only [↓vp, vv, implies_true, forall_const, undef, InI, ↓reduceIte, simprocAttr, coverS, w1]) (by simp (config := { maxSteps := 500000 }) only [↓vp, vv, implies_true, forall_const, undef, InI, ↓reduceIte, simprocAttr, refsF, ips_refs]) (by simp (config := { maxSteps := 500000 }) only [↓vp, vv, implies_true, forall_const, undef, InI, ↓reduceIte, simprocAttr, ]) (by simp) (by simp (config := { maxSteps := 500000 }) only [↓vp, vv, implies_true, forall_const, undef, InI, ↓reduceIte, simprocAttr, ]; try rfl), ⟨j + 1, by omega, he2, rfl⟩⟩
  · have hlt' : ¬ (j : Int) < rows.length := by omega
    rw [List.drop_of_length_le (by omega)] at he
    have he2 : idxOf (fun r => q (elV true r)) 0 rows = -1 := he
    simp (config := { maxSteps := 500000 }) only [↓vp, vv, implies_true, forall_const, undef, InI, ↓reduceIte, simprocAttr, c89, r89, c89_1, c89_2, c89_3, c89_4, hlt', he2, Pu]
set_option maxHeartbeats 4000000 in
theorem hasF_T (q : D → Bool) (g : FuncId) (l rows : List (List D)) (h : QOk Try.prog true 5 q g l rows) (nn : Nm) : CallsA Try.prog 55 [.sl rows, .clo g [] (ips l)] Hp.none nn (Pu (outC (fun r => q (elV true r)) rows) Hp.none) := by
  obtain ⟨code, h1, h2⟩ := c55_ok
  refine callsA_of (T := tc 89 (rowPu (selQ Try.prog true 5 (fun g' l' d => q d) outI)) T0) (tc_pu f89_ok (fun args pre d hs hp nn => ?_) (T0_ok _)) mixed (N := fun t => (0, t)) Try.func55 h1 h2 r55_ok [] false js_nil js_nil' (by simp [Try.f55]) ?_
  · unfold selQ at hs
    split at hs
    · split at hs
      · rename_i hi
        cases hs
        rw [ipsOf_eq hi]
        exact idxF_T _ _ _ _ hp nn
      · cases hs
    · cases hs
  · have ha := idxOf_any (fun r => q (elV true r)) rows 0 (Int.le_refl _)
    have hv : decide (0 ≤ idxOf (fun r => q (elV true r)) 0 rows) = rows.any (fun r => q (elV true r)) := by
      rw [Bool.eq_iff_iff, decide_eq_true_eq]; exact ha
    simp (config := { maxSteps := 500000 }) only [↓vp, vv, implies_true, forall_const, undef, InI, ↓reduceIte, simprocAttr, c55, r55, selQ, ipsOf_ips, h, ips_nms, ips_lend, ips_lendNm, ips_ok, ips_refs, outI, outC, addNm, cellNms, hv, Pu]
set_option maxHeartbeats 4000000 in
theorem idxF_I (q : D → Bool) (g : FuncId) (l rows : List (List D)) (h : QOk Try.prog false 1 q g l rows) (nn : Nm) : CallsA Try.prog 93 [.sl rows, .clo g [] (ips l)] Hp.none nn (Pu (outI (fun r => q (elV false r)) rows) Hp.none) := by
  obtain ⟨hg, hl, hq⟩ := h
  obtain ⟨code, h1, h2⟩ := c93_ok
  refine callsA_of (tc_q (q := q) hg (T0_ok _)) mixed (N := fun t => (0, t)) Try.func93 h1 h2 r93_ok [] false js_nil js_nil' (by simp [Try.f93]) ?_
  unfold outI
  simp (config := { maxSteps := 500000 }) only [↓vp, vv, implies_true, forall_const, undef, InI, ↓reduceIte, simprocAttr, c93]
  rw [vc_loop]
  refine ⟨fun m s => ∃ j : Nat, j + m = rows.length ∧ idxOf (fun r => q (elV false r)) 0 rows = idxOf (fun r => q (elV false r)) j (rows.drop j) ∧ s = ⟨fr [(0, .sl rows), (1, .clo g [] (ips l)), (7, di rows.length), (8, di j)], Hp.none⟩, ⟨rows.length, _, (weak_eq [] [] [(0, .sl rows), (1, .clo g [] (ips l)), (7, di rows.length), (8, di 0)] (by simp (config := { maxSteps := 500000 }) only [↓vp, vv, implies_true, forall_const, undef, InI, ↓reduceIte, simprocAttr, coverS]) (by simp (config := { maxSteps := 500000 }) only [↓vp, vv, implies_true, forall_const, undef, InI, ↓reduceIte, simprocAttr, refsF, ips_refs]) (by simp (config := { maxSteps := 500000 }) only [↓vp, vv, implies_true, forall_const, undef, InI, ↓reduceIte, simprocAttr, ]) (by simp) (by simp (config := { maxSteps := 500000 }) only [↓vp, vv, implies_true, forall_const, undef, InI, ↓reduceIte, simprocAttr, ]; try rfl)), ⟨0, by omega, rfl, rfl⟩⟩, ?_⟩
  rintro m s ⟨j, hj, he, rfl⟩
  by_cases hlt : j < rows.length
  · have hlt' : (j : Int) < rows.length := by omega
    have h0 : (0 : Int) ≤ j := by omega
    obtain ⟨r, hr⟩ : ∃ r, rows[j]? = some r := ⟨_, get_lt hlt⟩
    have hg' : rows.getD j [] = r := by rw [List.getD_eq_getElem?_getD, hr]; rfl
    obtain ⟨hr1, hr2, hr0, hr3⟩ := hq r (List.mem_of_getElem? hr)
    rw [idxOf_drop _ _ _ _ hr] at he
    have w1 : IntKind.i64.wrap ((j : Int) + 1) = ((j + 1 : Nat) : Int) := by rw [wrap_i (by omega)]; rfl
    obtain ⟨x, rfl⟩ := hr0 rfl
    have ht : (0 : Nat) = 0 := rfl
    have d1 : (0 : Nat) = 0 := rfl
    have d2 : (0 : Nat) = 0 := rfl
    have d3 : (0 : Nat) = 0 := rfl
    have d4 : (0 : Nat) = 0 := rfl
    have d5 : (0 : Nat) = 0 := rfl
    have hc : ∀ nn, CallsA Try.prog g ((.v x) :: ips l) Hp.none nn (Pu (db (q (.v x))) Hp.none) := hr3
    have he2 : idxOf (fun r => q (elV false r)) 0 rows = if q (.v x) = true then (j : Int) else idxOf (fun r => q (elV false r)) (j + 1 : Nat) (rows.drop (j + 1)) := he
    cases hb : q (.v x) with
    | true =>
      rw [hb, if_pos rfl] at he2
      have hcT : ∀ nn, CallsA Try.prog g ((.v x) :: ips l) Hp.none nn (Pu (db true) Hp.none) = True := fun nn => eq_true (by have := hc nn; rwa [hb] at this)
      simp (config := { maxSteps := 500000 }) only [↓vp, vv, implies_true, forall_const, undef, InI, ↓reduceIte, simprocAttr, c93, r93, c93_1, c93_2, c93_3, c93_4, hlt', h0, Int.toNat_natCast, hg', hr1, ht, d1, d2, d3, d4, d5, ips_nms, ips_lend, ips_lendNm, ips_ok, ips_refs, rowQ, hb, he2, Pu, addNm, cellNms, hcT]
    | false =>
      rw [hb, if_neg (by simp)] at he2
      have hcT : ∀ nn, CallsA Try.prog g ((.v x) :: ips l) Hp.none nn (Pu (db false) Hp.none) = True := fun nn => eq_true (by have := hc nn; rwa [hb] at this)
      simp (config := { maxSteps := 500000 }) only [↓vp, vv, implies_true, forall_const, undef, InI, ↓reduceIte, simprocAttr, c93, r93, c93_1, c93_2, c93_3, c93_4, hlt', h0, Int.toNat_natCast, hg', hr1, ht, d1, d2, d3, d4, d5, ips_nms, ips_lend, ips_lendNm, ips_ok, ips_refs, rowQ, hb, addNm, cellNms, hcT]
      exact ⟨m - 1, _, by omega, weak_eq [] [] [(0, .sl rows), (1, .clo g [] (ips l)), (7, di rows.length), (8, di ((j + 1 : Nat) : Int))] (by simp (config := { maxSteps := 500000 }) only [↓vp, vv, implies_true, forall_const, undef, InI, ↓reduceIte, simprocAttr, coverS, w1]) (by simp (config := { maxSteps := 500000 }) only [↓vp, vv, implies_true, forall_const, undef, InI, ↓reduceIte, simprocAttr, refsF, ips_refs]) (by simp (config := { maxSteps := 500000 }) only [↓vp, vv, implies_true, forall_const, undef, InI, ↓reduceIte, simprocAttr, ]) (by simp) (by simp (config := { maxSteps := 500000 }) only [↓vp, vv, implies_true, forall_const, undef, InI, ↓reduceIte, simprocAttr, ]; try rfl), ⟨j + 1, by omega, he2, rfl⟩⟩
  · have hlt' : ¬ (j : Int) < rows.length := by omega
    rw [List.drop_of_length_le (by omega)] at he
    have he2 : idxOf (fun r => q (elV false r)) 0 rows = -1 := he
    simp (config := { maxSteps := 500000 }) only [↓vp, vv, implies_true, forall_const, undef, InI, ↓reduceIte, simprocAttr, c93, r93, c93_1, c93_2, c93_3, c93_4, hlt', he2, Pu]
set_option maxHeartbeats 4000000 in
theorem hasF_I (q : D → Bool) (g : FuncId) (l rows : List (List D)) (h : QOk Try.prog false 1 q g l rows) (nn : Nm) : CallsA Try.prog 68 [.sl rows, .clo g [] (ips l)] Hp.none nn (Pu (outC (fun r => q (elV false r)) rows) Hp.none) := by
  obtain ⟨code, h1, h2⟩ := c68_ok
  refine callsA_of (T := tc 93 (rowPu (selQ Try.prog false 1 (fun g' l' d => q d) outI)) T0) (tc_pu f93_ok (fun args pre d hs hp nn => ?_) (T0_ok _)) mixed (N := fun t => (0, t)) Try.func68 h1 h2 r68_ok [] false js_nil js_nil' (by simp [Try.f68]) ?_
  · unfold selQ at hs
    split at hs
    · split at hs
      · rename_i hi
        cases hs
        rw [ipsOf_eq hi]
        exact idxF_I _ _ _ _ hp nn
      · cases hs
    · cases hs
  · have ha := idxOf_any (fun r => q (elV false r)) rows 0 (Int.le_refl _)
    have hv : decide (0 ≤ idxOf (fun r => q (elV false r)) 0 rows) = rows.any (fun r => q (elV false r)) := by
      rw [Bool.eq_iff_iff, decide_eq_true_eq]; exact ha
    simp (config := { maxSteps := 500000 }) only [↓vp, vv, implies_true, forall_const, undef, InI, ↓reduceIte, simprocAttr, c68, r68, selQ, ipsOf_ips, h, ips_nms, ips_lend, ips_lendNm, ips_ok, ips_refs, outI, outC, addNm, cellNms, hv, Pu]
set_option maxHeartbeats 4000000 in
theorem idxF_S (q : D → Bool) (g : FuncId) (l rows : List (List D)) (h : QOk Try.prog false 1 q g l rows) (nn : Nm) : CallsA Try.prog 97 [.sl rows, .clo g [] (ips l)] Hp.none nn (Pu (outI (fun r => q (elV false r)) rows) Hp.none) := by
  obtain ⟨hg, hl, hq⟩ := h
  obtain ⟨code, h1, h2⟩ := c97_ok
  refine callsA_of (tc_q (q := q) hg (T0_ok _)) mixed (N := fun t => (0, t)) Try.func97 h1 h2 r97_ok [] false js_nil js_nil' (by simp [Try.f97]) ?_
  unfold outI
  simp (config := { maxSteps := 500000 }) only [↓vp, vv, implies_true, forall_const, undef, InI, ↓reduceIte, simprocAttr, c97]
  rw [vc_loop]
  refine ⟨fun m s => ∃ j : Nat, j + m = rows.length ∧ idxOf (fun r => q (elV false r)) 0 rows = idxOf (fun r => q (elV false r)) j (rows.drop j) ∧ s = ⟨fr [(0, .sl rows), (1, .clo g [] (ips l)), (7, di rows.length), (8, di j)], Hp.none⟩, ⟨rows.length, _, (weak_eq [] [] [(0, .sl rows), (1, .clo g [] (ips l)), (7, di rows.length), (8, di 0)] (by simp (config := { maxSteps := 500000 }) only [↓vp, vv, implies_true, forall_const, undef, InI, ↓reduceIte, simprocAttr, coverS]) (by simp (config := { maxSteps := 500000 }) only [↓vp, vv, implies_true, forall_const, undef, InI, ↓reduceIte, simprocAttr, refsF, ips_refs]) (by simp (config := { maxSteps := 500000 }) only [↓vp, vv, implies_true, forall_const, undef, InI, ↓reduceIte, simprocAttr, ]) (by simp) (by simp (config := { maxSteps := 500000 }) only [↓vp, vv, implies_true, forall_const, undef, InI, ↓reduceIte, simprocAttr, ]; try rfl)), ⟨0, by omega, rfl, rfl⟩⟩, ?_⟩
  rintro m s ⟨j, hj, he, rfl⟩
  by_cases hlt : j < rows.length
  · have hlt' : (j : Int) < rows.length := by omega
    have h0 : (0 : Int) ≤ j := by omega
    obtain ⟨r, hr⟩ : ∃ r, rows[j]? = some r := ⟨_, get_lt hlt⟩
    have hg' : rows.getD j [] = r := by rw [List.getD_eq_getElem?_getD, hr]; rfl
    obtain ⟨hr1, hr2, hr0, hr3⟩ := hq r (List.mem_of_getElem? hr)
    rw [idxOf_drop _ _ _ _ hr] at he
    have w1 : IntKind.i64.wrap ((j : Int) + 1) = ((j + 1 : Nat) : Int) := by rw [wrap_i (by omega)]; rfl
    obtain ⟨x, rfl⟩ := hr0 rfl
    have ht : (0 : Nat) = 0 := rfl
    have d1 : (0 : Nat) = 0 := rfl
    have d2 : (0 : Nat) = 0 := rfl
    have d3 : (0 : Nat) = 0 := rfl
    have d4 : (0 : Nat) = 0 := rfl
    have d5 : (0 : Nat) = 0 := rfl
    have hc : ∀ nn, CallsA Try.prog g ((.v x) :: ips l) Hp.none nn (Pu (db (q (.v x))) Hp.none) := hr3
    have he2 : idxOf (fun r => q (elV false r)) 0 rows = if q (.v x) = true then (j : Int) else idxOf (fun r => q (elV false r)) (j + 1 : Nat) (rows.drop (j + 1)) := he
    cases hb : q (.v x) with
    | true =>
      rw [hb, if_pos rfl] at he2
      have hcT : ∀ nn, CallsA Try.prog g ((.v x) :: ips l) Hp.none nn (Pu (db true) Hp.none) = True := fun nn => eq_true (by have := hc nn; rwa [hb] at this)
      simp (config := { maxSteps := 500000 }) only [↓vp, vv, implies_true, forall_const, undef, InI, ↓reduceIte, simprocAttr, c97, r97, c97_1, c97_2, c97_3, c97_4, hlt', h0, Int.toNat_natCast, hg', hr1, ht, d1, d2, d3, d4, d5, ips_nms, ips_lend, ips_lendNm, ips_ok, ips_refs, rowQ, hb, he2, Pu, addNm, cellNms, hcT]
    | false =>
      rw [hb, if_neg (by simp)] at he2
      have hcT : ∀ nn, CallsA Try.prog g ((.v x) :: ips l) Hp.none nn (Pu (db false) Hp.none) = True := fun nn => eq_true (by have := hc nn; rwa [hb] at this)
      simp (config := { maxSteps := 500000 }) only [↓vp, vv, implies_true, forall_const, undef, InI, ↓reduceIte, simprocAttr, c97, r97, c97_1, c97_2, c97_3, c97_4, hlt', h0, Int.toNat_natCast, hg', hr1, ht, d1, d2, d3, d4, d5, ips_nms, ips_lend, ips_lendNm, ips_ok, ips_refs, rowQ, hb, addNm, cellNms, hcT]
      exact ⟨m - 1, _, by omega, weak_eq [] [] [(0, .sl rows), (1, .clo g [] (ips l)), (7, di rows.length), (8, di ((j + 1 : Nat) : Int))] (by simp (config := { maxSteps := 500000 }) only [↓vp, vv, implies_true, forall_const, undef, InI, ↓reduceIte, simprocAttr, coverS, w1]) (by simp (config := { maxSteps := 500000 }) only [↓vp, vv, implies_true, forall_const, undef, InI, ↓reduceIte, simprocAttr, refsF, ips_refs]) (by simp (config := { maxSteps := 500000 }) only [↓vp, vv, implies_true, forall_const, undef, InI, ↓reduceIte, simprocAttr, ]) (by simp) (by simp (config := { maxSteps := 500000 }) only [↓vp, vv, implies_true, forall_const, undef, InI, ↓reduceIte, simprocAttr, ]; try rfl), ⟨j + 1, by omega, he2, rfl⟩⟩
  · have hlt' : ¬ (j : Int) < rows.length := by omega
    rw [List.drop_of_length_le (by omega)] at he
    have he2 : idxOf (fun r => q (elV false r)) 0 rows = -1 := he
    simp (config := { maxSteps := 500000 }) only [↓vp, vv, implies_true, forall_const, undef, InI, ↓reduceIte, simprocAttr, c97, r97, c97_1, c97_2, c97_3, c97_4, hlt', he2, Pu]
set_option maxHeartbeats 4000000 in
theorem hasF_S (q : D → Bool) (g : FuncId) (l rows : List (List D)) (h : QOk Try.prog false 1 q g l rows) (nn : Nm) : CallsA Try.prog 83 [.sl rows, .clo g [] (ips l)] Hp.none nn (Pu (outC (fun r => q (elV false r)) rows) Hp.none) := by
  obtain ⟨code, h1, h2⟩ := c83_ok
  refine callsA_of (T := tc 97 (rowPu (selQ Try.prog false 1 (fun g' l' d => q d) outI)) T0) (tc_pu f97_ok (fun args pre d hs hp nn => ?_) (T0_ok _)) mixed (N := fun t => (0, t)) Try.func83 h1 h2 r83_ok [] false js_nil js_nil' (by simp [Try.f83]) ?_
  · unfold selQ at hs
    split at hs
    · split at hs
      · rename_i hi
        cases hs
        rw [ipsOf_eq hi]
        exact idxF_S _ _ _ _ hp nn
      · cases hs
    · cases hs
  · have ha := idxOf_any (fun r => q (elV false r)) rows 0 (Int.le_refl _)
    have hv : decide (0 ≤ idxOf (fun r => q (elV false r)) 0 rows) = rows.any (fun r => q (elV false r)) := by
      rw [Bool.eq_iff_iff, decide_eq_true_eq]; exact ha
    simp (config := { maxSteps := 500000 }) only [↓vp, vv, implies_true, forall_const, undef, InI, ↓reduceIte, simprocAttr, c83, r83, selQ, ipsOf_ips, h, ips_nms, ips_lend, ips_lendNm, ips_ok, ips_refs, outI, outC, addNm, cellNms, hv, Pu]
set_option maxHeartbeats 4000000 in
theorem idxF_G (q : D → Bool) (g : FuncId) (l rows : List (List D)) (h : QOk Try.prog true 7 q g l rows) (nn : Nm) : CallsA Try.prog 110 [.sl rows, .clo g [] (ips l)] Hp.none nn (Pu (outI (fun r => q (elV true r)) rows) Hp.none) := by
  obtain ⟨hg, hl, hq⟩ := h
  obtain ⟨code, h1, h2⟩ := c110_ok
  refine callsA_of (tc_q (q := q) hg (T0_ok _)) mixed (N := fun t => (0, t)) Try.func110 h1 h2 r110_ok [] false js_nil js_nil' (by simp [Try.f110]) ?_
  unfold outI
  simp (config := { maxSteps := 500000 }) only [↓vp, vv, implies_true, forall_const, undef, InI, ↓reduceIte, simprocAttr, c110]
  rw [vc_loop]
  refine ⟨fun m s => ∃ j : Nat, j + m = rows.length ∧ idxOf (fun r => q (elV true r)) 0 rows = idxOf (fun r => q (elV true r)) j (rows.drop j) ∧ s = ⟨fr [(0, .sl rows), (1, .clo g [] (ips l)), (7, di rows.length), (8, di j)], Hp.none⟩, ⟨rows.length, _, (weak_eq [] [] [(0, .sl rows), (1, .clo g [] (ips l)), (7, di rows.length), (8, di 0)] (by simp (config := { maxSteps := 500000 }) only [↓vp, vv, implies_true, forall_const, undef, InI, ↓reduceIte, simprocAttr, coverS]) (by simp (config := { maxSteps := 500000 }) only [↓vp, vv, implies_true, forall_const, undef, InI, ↓reduceIte, simprocAttr, refsF, ips_refs]) (by simp (config := { maxSteps := 500000 }) only [↓vp, vv, implies_true, forall_const, undef, InI, ↓reduceIte, simprocAttr, ]) (by simp) (by simp (config := { maxSteps := 500000 }) only [↓vp, vv, implies_true, forall_const, undef, InI, ↓reduceIte, simprocAttr, ]; try rfl)), ⟨0, by omega, rfl, rfl⟩⟩, ?_⟩
  rintro m s ⟨j, hj, he, rfl⟩
  by_cases hlt : j < rows.length
  · have hlt' : (j : Int) < rows.length := by omega
    have h0 : (0 : Int) ≤ j := by omega
    obtain ⟨r, hr⟩ : ∃ r, rows[j]? = some r := ⟨_, get_lt hlt⟩
    have hg' : rows.getD j [] = r := by rw [List.getD_eq_getElem?_getD, hr]; rfl
    obtain ⟨hr1, hr2, hr0, hr3⟩ := hq r (List.mem_of_getElem? hr)
    rw [idxOf_drop _ _ _ _ hr] at he
    have w1 : IntKind.i64.wrap ((j : Int) + 1) = ((j + 1 : Nat) : Int) := by rw [wrap_i (by omega)]; rfl
    have ht : r.take 7 = r := List.take_of_length_le (by omega)
    have d1 := fun H => (doneR H [] hr2).1
    have d2 := fun H => (doneR H [] hr2).2.1
    have d3 := fun H => (doneR H [] hr2).2.2.1
    have d4 := (doneR Hp.none [] hr2).2.2.2.1
    have d5 := fun js => (doneR Hp.none js hr2).2.2.2.2
    have hc : ∀ nn, CallsA Try.prog g ((.agg r) :: ips l) Hp.none nn (Pu (db (q (.agg r))) Hp.none) := hr3
    have he2 : idxOf (fun r => q (elV true r)) 0 rows = if q (.agg r) = true then (j : Int) else idxOf (fun r => q (elV true r)) (j + 1 : Nat) (rows.drop (j + 1)) := he
    cases hb : q (.agg r) with
    | true =>
      rw [hb, if_pos rfl] at he2
      have hcT : ∀ nn, CallsA Try.prog g ((.agg r) :: ips l) Hp.none nn (Pu (db true) Hp.none) = True := fun nn => eq_true (by have := hc nn; rwa [hb] at this)
      simp (config := { maxSteps := 500000 }) only [↓vp, vv, implies_true, forall_const, undef, InI, ↓reduceIte, simprocAttr, c110, r110, c110_1, c110_2, c110_3, c110_4, hlt', h0, Int.toNat_natCast, hg', hr1, ht, d1, d2, d3, d4, d5, ips_nms, ips_lend, ips_lendNm, ips_ok, ips_refs, rowQ, hb, he2, Pu, addNm, cellNms, hcT]
    | false =>
      rw [hb, if_neg (by simp)] at he2
      have hcT : ∀ nn, CallsA Try.prog g ((.agg r) :: ips l) Hp.none nn (Pu (db false) Hp.none) = True := fun nn => eq_true (by have := hc nn; rwa [hb] at this)
      simp (config := { maxSteps := 500000 }) only [↓vp, vv, implies_true, forall_const, undef, InI, ↓reduceIte, simprocAttr, c110, r110, c110_1, c110_2, c110_3, c110_4, hlt', h0, Int.toNat_natCast, hg', hr1, ht, d1, d2, d3, d4, d5, ips_nms, ips_lend, ips_lendNm, ips_ok, ips_refs, rowQ, hb, addNm, cellNms, hcT]
      exact ⟨m - 1, _, by omega, weak_eq [] [] [(0, .sl rows), (1, .clo g [] (ips l)), (7, di rows.length), (8, di ((j + 1 : Nat) : Int))] (by simp (config := { maxSteps := 500000 }) only [↓vp, vv, implies_true, forall_const, undef, InI, ↓reduceIte, simprocAttr, coverS, w1]) (by simp (config := { maxSteps := 500000 }) only [↓vp, vv, implies_true, forall_const, undef, InI, ↓reduceIte, simprocAttr, refsF, ips_refs]) (by simp (config := { maxSteps := 500000 }) only [↓vp, vv, implies_true, forall_const, undef, InI, ↓reduceIte, simprocAttr, ]) (by simp) (by simp (config := { maxSteps := 500000 }) only [↓vp, vv, implies_true, forall_const, undef, InI, ↓reduceIte, simprocAttr, ]; try rfl), ⟨j + 1, by omega, he2, rfl⟩⟩
  · have hlt' : ¬ (j : Int) < rows.length := by omega
    rw [List.drop_of_length_le (by omega)] at he
    have he2 : idxOf (fun r => q (elV true r)) 0 rows = -1 := he
    simp (config := { maxSteps := 500000 }) only [↓vp, vv, implies_true, forall_const, undef, InI, ↓reduceIte, simprocAttr, c110, r110, c110_1, c110_2, c110_3, c110_4, hlt', he2, Pu]
set_option maxHeartbeats 4000000 in
theorem hasF_G (q : D → Bool) (g : FuncId) (l rows : List (List D)) (h : QOk Try.prog true 7 q g l rows) (nn : Nm) : CallsA Try.prog 95 [.sl rows, .clo g [] (ips l)] Hp.none nn (Pu (outC (fun r => q (elV true r)) rows) Hp.none) := by
  obtain ⟨code, h1, h2⟩ := c95_ok
  refine callsA_of (T := tc 110 (rowPu (selQ Try.prog true 7 (fun g' l' d => q d) outI)) T0) (tc_pu f110_ok (fun args pre d hs hp nn => ?_) (T0_ok _)) mixed (N := fun t => (0, t)) Try.func95 h1 h2 r95_ok [] false js_nil js_nil' (by simp [Try.f95]) ?_
  · unfold selQ at hs
    split at hs
    · split at hs
      · rename_i hi
        cases hs
        rw [ipsOf_eq hi]
        exact idxF_G _ _ _ _ hp nn
      · cases hs
    · cases hs
  · have ha := idxOf_any (fun r => q (elV true r)) rows 0 (Int.le_refl _)
    have hv : decide (0 ≤ idxOf (fun r => q (elV true r)) 0 rows) = rows.any (fun r => q (elV true r)) := by
      rw [Bool.eq_iff_iff, decide_eq_true_eq]; exact ha
    simp (config := { maxSteps := 500000 }) only [↓vp, vv, implies_true, forall_const, undef, InI, ↓reduceIte, simprocAttr, c95, r95, selQ, ipsOf_ips, h, ips_nms, ips_lend, ips_lendNm, ips_ok, ips_refs, outI, outC, addNm, cellNms, hv, Pu]
set_option maxHeartbeats 4000000 in
theorem idxF_P (q : D → Bool) (g : FuncId) (l rows : List (List D)) (h : QOk Try.prog true 3 q g l rows) (nn : Nm) : CallsA Try.prog 111 [.sl rows, .clo g [] (ips l)] Hp.none nn (Pu (outI (fun r => q (elV true r)) rows) Hp.none) := by
  obtain ⟨hg, hl, hq⟩ := h
  obtain ⟨code, h1, h2⟩ := c111_ok
  refine callsA_of (tc_q (q := q) hg (T0_ok _)) mixed (N := fun t => (0, t)) Try.func111 h1 h2 r111_ok [] false js_nil js_nil' (by simp [Try.f111]) ?_
  unfold outI
  simp (config := { maxSteps := 500000 }) only [↓vp, vv, implies_true, forall_const, undef, InI, ↓reduceIte, simprocAttr, c111]
  rw [vc_loop]
  refine ⟨fun m s => ∃ j : Nat, j + m = rows.length ∧ idxOf (fun r => q (elV true r)) 0 rows = idxOf (fun r => q (elV true r)) j (rows.drop j) ∧ s = ⟨fr [(0, .sl rows), (1, .clo g [] (ips l)), (7, di rows.length), (8, di j)], Hp.none⟩, ⟨rows.length, _, (weak_eq [] [] [(0, .sl rows), (1, .clo g [] (ips l)), (7, di rows.length), (8, di 0)] (by simp (config := { maxSteps := 500000 }) only [↓vp, vv, implies_true, forall_const, undef, InI, ↓reduceIte, simprocAttr, coverS]) (by simp (config := { maxSteps := 500000 }) only [↓vp, vv, implies_true, forall_const, undef, InI, ↓reduceIte, simprocAttr, refsF, ips_refs]) (by simp (config := { maxSteps := 500000 }) only [↓vp, vv, implies_true, forall_const, undef, InI, ↓reduceIte, simprocAttr, ]) (by simp) (by simp (config := { maxSteps := 500000 }) only [↓vp, vv, implies_true, forall_const, undef, InI, ↓reduceIte, simprocAttr, ]; try rfl)), ⟨0, by omega, rfl, rfl⟩⟩, ?_⟩
  rintro m s ⟨j, hj, he, rfl⟩
  by_cases hlt : j < rows.length
  · have hlt' : (j : Int) < rows.length := by omega
    have h0 : (0 : Int) ≤ j := by omega
    obtain ⟨r, hr⟩ : ∃ r, rows[j]? = some r := ⟨_, get_lt hlt⟩
    have hg' : rows.getD j [] = r := by rw [List.getD_eq_getElem?_getD, hr]; rfl
    obtain ⟨hr1, hr2, hr0, hr3⟩ := hq r (List.mem_of_getElem? hr)
    rw [idxOf_drop _ _ _ _ hr] at he
    have w1 : IntKind.i64.wrap ((j : Int) + 1) = ((j + 1 : Nat) : Int) := by rw [wrap_i (by omega)]; rfl
    have ht : r.take 3 = r := List.take_of_length_le (by omega)
    have d1 := fun H => (doneR H [] hr2).1
    have d2 := fun H => (doneR H [] hr2).2.1
    have d3 := fun H => (doneR H [] hr2).2.2.1
    have d4 := (doneR Hp.none [] hr2).2.2.2.1
    have d5 := fun js => (doneR Hp.none js hr2).2.2.2.2
    have hc : ∀ nn, CallsA Try.prog g ((.agg r) :: ips l) Hp.none nn (Pu (db (q (.agg r))) Hp.none) := hr3
    have he2 : idxOf (fun r => q (elV true r)) 0 rows = if q (.agg r) = true then (j : Int) else idxOf (fun r => q (elV true r)) (j + 1 : Nat) (rows.drop (j + 1)) := he
    cases hb : q (.agg r) with
    | true =>
      rw [hb, if_pos rfl] at he2
      have hcT : ∀ nn, CallsA Try.prog g ((.agg r) :: ips l) Hp.none nn (Pu (db true) Hp.none) = True := fun nn => eq_true (by have := hc nn; rwa [hb] at this)
      simp (config := { maxSteps := 500000 }) only [↓vp, vv, implies_true, forall_const, undef, InI, ↓reduceIte, simprocAttr, c111, r111, c111_1, c111_2, c111_3, c111_4, hlt', h0, Int.toNat_natCast, hg', hr1, ht, d1, d2, d3, d4, d5, ips_nms, ips_lend, ips_lendNm, ips_ok, ips_refs, rowQ, hb, he2, Pu, addNm, cellNms, hcT]
    | false =>
      rw [hb, if_neg (by simp)] at he2
      have hcT : ∀ nn, CallsA Try.prog g ((.agg r) :: ips l) Hp.none nn (Pu (db false) Hp.none) = True := fun nn => eq_true (by have := hc nn; rwa [hb] at this)
      simp (config := { maxSteps := 500000 }) only [↓vp, vv, implies_true, forall_const, undef, InI, ↓reduceIte, simprocAttr, c111, r111, c111_1, c111_2, c111_3, c111_4, hlt', h0, Int.toNat_natCast, hg', hr1, ht, d1, d2, d3, d4, d5, ips_nms, ips_lend, ips_lendNm, ips_ok, ips_refs, rowQ, hb, addNm, cellNms, hcT]
      exact ⟨m - 1, _, by omega, weak_eq [] [] [(0, .sl rows), (1, .clo g [] (ips l)), (7, di rows.length), (8, di ((j + 1 : Nat) : Int))] (by simp (config := { maxSteps := 500000 }) only [↓vp, vv, implies_true, forall_const, undef, InI, ↓reduceIte, simprocAttr, coverS, w1]) (by simp (config := { maxSteps := 500000 }) only [↓vp, vv, implies_true, forall_const, undef, InI, ↓reduceIte, simprocAttr, refsF, ips_refs]) (by simp (config := { maxSteps := 500000 }) only [↓vp, vv, implies_true, forall_const, undef, InI, ↓reduceIte, simprocAttr, ]) (by simp) (by simp (config := { maxSteps := 500000 }) only [↓vp, vv, implies_true, forall_const, undef, InI, ↓reduceIte, simprocAttr, ]; try rfl), ⟨j + 1, by omega, he2, rfl⟩⟩
  · have hlt' : ¬ (j : Int) < rows.length := by omega
    rw [List.drop_of_length_le (by omega)] at he
    have he2 : idxOf (fun r => q (elV true r)) 0 rows = -1 := he
    simp (config := { maxSteps := 500000 }) only [↓vp, vv, implies_true, forall_const, undef, InI, ↓reduceIte, simprocAttr, c111, r111, c111_1, c111_2, c111_3, c111_4, hlt', he2, Pu]
set_option maxHeartbeats 4000000 in
theorem hasF_P (q : D → Bool) (g : FuncId) (l rows : List (List D)) (h : QOk Try.prog true 3 q g l rows) (nn : Nm) : CallsA Try.prog 105 [.sl rows, .clo g [] (ips l)] Hp.none nn (Pu (outC (fun r => q (elV true r)) rows) Hp.none) := by
  obtain ⟨code, h1, h2⟩ := c105_ok
  refine callsA_of (T := tc 111 (rowPu (selQ Try.prog true 3 (fun g' l' d => q d) outI)) T0) (tc_pu f111_ok (fun args pre d hs hp nn => ?_) (T0_ok _)) mixed (N := fun t => (0, t)) Try.func105 h1 h2 r105_ok [] false js_nil js_nil' (by simp [Try.f105]) ?_
  · unfold selQ at hs
    split at hs
    · split at hs
      · rename_i hi
        cases hs
        rw [ipsOf_eq hi]
        exact idxF_P _ _ _ _ hp nn
      · cases hs
    · cases hs
  · have ha := idxOf_any (fun r => q (elV true r)) rows 0 (Int.le_refl _)
    have hv : decide (0 ≤ idxOf (fun r => q (elV true r)) 0 rows) = rows.any (fun r => q (elV true r)) := by
      rw [Bool.eq_iff_iff, decide_eq_true_eq]; exact ha
    simp (config := { maxSteps := 500000 }) only [↓vp, vv, implies_true, forall_const, undef, InI, ↓reduceIte, simprocAttr, c105, r105, selQ, ipsOf_ips, h, ips_nms, ips_lend, ips_lendNm, ips_ok, ips_refs, outI, outC, addNm, cellNms, hv, Pu]
set_option maxHeartbeats 4000000 in
theorem idxF_N (q : D → Bool) (g : FuncId) (l rows : List (List D)) (h : QOk Try.prog true 5 q g l rows) (nn : Nm) : CallsA Try.prog 100 [.sl rows, .clo g [] (ips l)] Hp.none nn (Pu (outI (fun r => q (elV true r)) rows) Hp.none) := by
  obtain ⟨hg, hl, hq⟩ := h
  obtain ⟨code, h1, h2⟩ := c100_ok
  refine callsA_of (tc_q (q := q) hg (T0_ok _)) mixed (N := fun t => (0, t)) Try.func100 h1 h2 r100_ok [] false js_nil js_nil' (by simp [Try.f100]) ?_
  unfold outI
  simp (config := { maxSteps := 500000 }) only [↓vp, vv, implies_true, forall_const, undef, InI, ↓reduceIte, simprocAttr, c100]
  rw [vc_loop]
  refine ⟨fun m s => ∃ j : Nat, j + m = rows.length ∧ idxOf (fun r => q (elV true r)) 0 rows = idxOf (fun r => q (elV true r)) j (rows.drop j) ∧ s = ⟨fr [(0, .sl rows), (1, .clo g [] (ips l)), (7, di rows.length), (8, di j)], Hp.none⟩, ⟨rows.length, _, (weak_eq [] [] [(0, .sl rows), (1, .clo g [] (ips l)), (7, di rows.length), (8, di 0)] (by simp (config := { maxSteps := 500000 }) only [↓vp, vv, implies_true, forall_const, undef, InI, ↓reduceIte, simprocAttr, coverS]) (by simp (config := { maxSteps := 500000 }) only [↓vp, vv, implies_true, forall_const, undef, InI, ↓reduceIte, simprocAttr, refsF, ips_refs]) (by simp (config := { maxSteps := 500000 }) only [↓vp, vv, implies_true, forall_const, undef, InI, ↓reduceIte, simprocAttr, ]) (by simp) (by simp (config := { maxSteps := 500000 }) only [↓vp, vv, implies_true, forall_const, undef, InI, ↓reduceIte, simprocAttr, ]; try rfl)), ⟨0, by omega, rfl, rfl⟩⟩, ?_⟩
  rintro m s ⟨j, hj, he, rfl⟩
  by_cases hlt : j < rows.length
  · have hlt' : (j : Int) < rows.length := by omega
    have h0 : (0 : Int) ≤ j := by omega
    obtain ⟨r, hr⟩ : ∃ r, rows[j]? = some r := ⟨_, get_lt hlt⟩
    have hg' : rows.getD j [] = r := by rw [List.getD_eq_getElem?_getD, hr]; rfl
    obtain ⟨hr1, hr2, hr0, hr3⟩ := hq r (List.mem_of_getElem? hr)
    rw [idxOf_drop _ _ _ _ hr] at he
    have w1 : IntKind.i64.wrap ((j : Int) + 1) = ((j + 1 : Nat) : Int) := by rw [wrap_i (by omega)]; rfl
    have ht : r.take 5 = r := List.take_of_length_le (by omega)
    have d1 := fun H => (doneR H [] hr2).1
    have d2 := fun H => (doneR H [] hr2).2.1
    have d3 := fun H => (doneR H [] hr2).2.2.1
    have d4 := (doneR Hp.none [] hr2).2.2.2.1
    have d5 := fun js => (doneR Hp.none js hr2).2.2.2.2
    have hc : ∀ nn, CallsA Try.prog g ((.agg r) :: ips l) Hp.none nn (Pu (db (q (.agg r))) Hp.none) := hr3
    have he2 : idxOf (fun r => q (elV true r)) 0 rows = if q (.agg r) = true then (j : Int) else idxOf (fun r => q (elV true r)) (j + 1 : Nat) (rows.drop (j + 1)) := he
    cases hb : q (.agg r) with
    | true =>
      rw [hb, if_pos rfl] at he2
      have hcT : ∀ nn, CallsA Try.prog g ((.agg r) :: ips l) Hp.none nn (Pu (db true) Hp.none) = True := fun nn => eq_true (by have := hc nn; rwa [hb] at this)
      simp (config := { maxSteps := 500000 }) only [↓vp, vv, implies_true, forall_const, undef, InI, ↓reduceIte, simprocAttr, c100, r100, c100_1, c100_2, c100_3, c100_4, hlt', h0, Int.toNat_natCast, hg', hr1, ht, d1, d2, d3, d4, d5, ips_nms, ips_lend, ips_lendNm, ips_ok, ips_refs, rowQ, hb, he2, Pu, addNm, cellNms, hcT]
    | false =>
      rw [hb, if_neg (by simp)] at he2
      have hcT : ∀ nn, CallsA Try.prog g ((.agg r) :: ips l) Hp.none nn (Pu (db false) Hp.none) = True := fun nn => eq_true (by have := hc nn; rwa [hb] at this)
      simp (config := { maxSteps := 500000 }) only [↓vp, vv, implies_true, forall_const, undef, InI, ↓reduceIte, simprocAttr, c100, r100, c100_1, c100_2, c100_3, c100_4, hlt', h0, Int.toNat_natCast, hg', hr1, ht, d1, d2, d3, d4, d5, ips_nms, ips_lend, ips_lendNm, ips_ok, ips_refs, rowQ, hb, addNm, cellNms, hcT]
      exact ⟨m - 1, _, by omega, weak_eq [] [] [(0, .sl rows), (1, .clo g [] (ips l)), (7, di rows.length), (8, di ((j + 1 : Nat) : Int))] (by simp (config := { maxSteps := 500000 }) only [↓vp, vv, implies_true, forall_const, undef, InI, ↓reduceIte, simprocAttr, coverS, w1]) (by simp (config := { maxSteps := 500000 }) only [↓vp, vv, implies_true, forall_const, undef, InI, ↓reduceIte, simprocAttr, refsF, ips_refs]) (by simp (config := { maxSteps := 500000 }) only [↓vp, vv, implies_true, forall_const, undef, InI, ↓reduceIte, simprocAttr, ]) (by simp) (by simp (config := { maxSteps := 500000 }) only [↓vp, vv, implies_true, forall_const, undef, InI, ↓reduceIte, simprocAttr, ]; try rfl), ⟨j + 1, by omega, he2, rfl⟩⟩
  · have hlt' : ¬ (j : Int) < rows.length := by omega
    rw [List.drop_of_length_le (by omega)] at he
    have he2 : idxOf (fun r => q (elV true r)) 0 rows = -1 := he
    simp (config := { maxSteps := 500000 }) only [↓vp, vv, implies_true, forall_const, undef, InI, ↓reduceIte, simprocAttr, c100, r100, c100_1, c100_2, c100_3, c100_4, hlt', he2, Pu]
set_option maxHeartbeats 4000000 in
theorem hasF_N (q : D → Bool) (g : FuncId) (l rows : List (List D)) (h : QOk Try.prog true 5 q g l rows) (nn : Nm) : CallsA Try.prog 108 [.sl rows, .clo g [] (ips l)] Hp.none nn (Pu (outC (fun r => q (elV true r)) rows) Hp.none) := by
  obtain ⟨code, h1, h2⟩ := c108_ok
  refine callsA_of (T := tc 100 (rowPu (selQ Try.prog true 5 (fun g' l' d => q d) outI)) T0) (tc_pu f100_ok (fun args pre d hs hp nn => ?_) (T0_ok _)) mixed (N := fun t => (0, t)) Try.func108 h1 h2 r108_ok [] false js_nil js_nil' (by simp [Try.f108]) ?_
  · unfold selQ at hs
    split at hs
    · split at hs
      · rename_i hi
        cases hs
        rw [ipsOf_eq hi]
        exact idxF_N _ _ _ _ hp nn
      · cases hs
    · cases hs
  · have ha := idxOf_any (fun r => q (elV true r)) rows 0 (Int.le_refl _)
    have hv : decide (0 ≤ idxOf (fun r => q (elV true r)) 0 rows) = rows.any (fun r => q (elV true r)) := by
      rw [Bool.eq_iff_iff, decide_eq_true_eq]; exact ha
    simp (config := { maxSteps := 500000 }) only [↓vp, vv, implies_true, forall_const, undef, InI, ↓reduceIte, simprocAttr, c108, r108, selQ, ipsOf_ips, h, ips_nms, ips_lend, ips_lendNm, ips_ok, ips_refs, outI, outC, addNm, cellNms, hv, Pu]
end Go.Proofs.Ytiaenojpbiahgaa
