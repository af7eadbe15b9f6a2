/- ToolStays: GF Vw. -/
import Derived.Test.YtadjhfjiimgddaaKw4
set_option linter.unusedSimpArgs false
set_option linter.unusedVariables false
set_option maxRecDepth 100000

/- Functions of the library that look through slices with a function. -/
namespace Go.Proofs.Ytadjhfjiimgddaa
open Go
theorem get_lt {α : Type} {l : List α} {k : Nat} (h : k < l.length) : l[k]? = some l[k] := List.getElem?_eq_getElem h
theorem ipsOf_ips : ∀ (l : List (List D)), ipsOf (ips l) = some l
 | [] => rfl
 | r :: l => by
  show ipsOf (D.ip r :: ips l) = _
  rw [ipsOf, ipsOf_ips l]
def outI (q : List D → Bool) (rows : List (List D)) : D := di (idxOf q 0 rows)
def outC (q : List D → Bool) (rows : List (List D)) : D := db (rows.any q)
set_option maxHeartbeats 4000000 in
theorem idxF_I (q : D → Bool) (g : FuncId) (l rows : List (List D)) (h : QOk Try.prog false 1 q g l rows) (nn : Nm) : CallsA Try.prog 173 [.sl rows, .clo g [] (ips l)] Hp.none nn (Pu (outI (fun r => q (elV false r)) rows) Hp.none) := by
 obtain ⟨hg, hl, hq⟩ := h
 obtain ⟨code, h1, h2⟩ := c173_ok
 refine callsA_of (tc_q (q := q) hg (T0_ok _)) mixed (N := fun t => (0, t)) Try.func173 h1 h2 r173_ok [] false js_nil js_nil' (by simp [Try.f173]) ?_
 unfold outI
 simp (maxSteps:=500000) only [↓vp, vv, ↓reduceIte, simprocAttr, c173]
 rw [vc_loop]
 refine ⟨fun m s => ∃ j : Nat, j + m = rows.length ∧ idxOf (fun r => q (elV false r)) 0 rows = idxOf (fun r => q (elV false r)) j (rows.drop j) ∧ s = ⟨fr [(0, .sl rows), (1, .clo g [] (ips l)), (7, di rows.length), (8, di j)], Hp.none⟩, ⟨rows.length, _, (weak_eq [] [] [(0, .sl rows), (1, .clo g [] (ips l)), (7, di rows.length), (8, di 0)] (by simp only [↓vp, vv, ↓reduceIte, simprocAttr, coverS]) (by simp only [↓vp, vv, ↓reduceIte, simprocAttr, refsF, ips_refs]) (by simp only [↓vp, vv, ↓reduceIte, simprocAttr, ]) (by simp) (by simp only [↓vp, vv, ↓reduceIte, simprocAttr, ]; try rfl)), ⟨0, by omega, rfl, rfl⟩⟩, ?_⟩
 rintro m s ⟨j, hj, he, rfl⟩
 by_cases hlt : j < rows.length
 ·have hlt' : (j : Int) < rows.length := by omega
  have h0 : (0 : Int) ≤ j := by omega
  obtain ⟨r, hr⟩ : ∃ r, rows[j]? = some r := ⟨_, get_lt hlt⟩
  have hg' : rows.getD j [] = r := by rw [List.getD_eq_getElem?_getD, hr]; rfl
  obtain ⟨hr1, hr2, hr0, hr3⟩ := hq r (List.mem_of_getElem? hr)
  rw [idxOf_drop _ _ _ _ hr] at he
  have w1 : IntKind.i64.wrap ((j : Int) + 1) = ((j + 1 : Nat) : Int) := by rw [wrap_i (by omega)]; rfl
  obtain ⟨x, rfl⟩ := hr0 rfl
  have ht : (0 : Nat) = 0 := rfl
  have d1 : (0 : Nat) = 0 := rfl
  have d2 : (0 : Nat) = 0 := rfl
  have d3 : (0 : Nat) = 0 := rfl
  have d4 : (0 : Nat) = 0 := rfl
  have d5 : (0 : Nat) = 0 := rfl
  have hc : ∀ nn, CallsA Try.prog g ((.v x) :: ips l) Hp.none nn (Pu (db (q (.v x))) Hp.none) := hr3
  have he2 : idxOf (fun r => q (elV false r)) 0 rows = if q (.v x) = true then (j : Int) else idxOf (fun r => q (elV false r)) (j + 1 : Nat) (rows.drop (j + 1)) := he
  cases hb : q (.v x) with
  | true =>
   rw [hb, if_pos rfl] at he2
   have hcT : ∀ nn, CallsA Try.prog g ((.v x) :: ips l) Hp.none nn (Pu (db true) Hp.none) = True := fun nn => eq_true (by have := hc nn; rwa [hb] at this)
   simp (maxSteps:=500000) only [↓vp, vv, ↓reduceIte, simprocAttr, c173, r173, c173_1, c173_2, c173_3, c173_4, hlt', h0, Int.toNat_natCast, hg', hr1, ht, d1, d2, d3, d4, d5, ips_nms, ips_lend, ips_lendNm, ips_ok, ips_refs, rowQ, hb, he2, Pu, addNm, cellNms, hcT]
  | false =>
   rw [hb, if_neg (by simp)] at he2
   have hcT : ∀ nn, CallsA Try.prog g ((.v x) :: ips l) Hp.none nn (Pu (db false) Hp.none) = True := fun nn => eq_true (by have := hc nn; rwa [hb] at this)
   simp (maxSteps:=500000) only [↓vp, vv, ↓reduceIte, simprocAttr, c173, r173, c173_1, c173_2, c173_3, c173_4, hlt', h0, Int.toNat_natCast, hg', hr1, ht, d1, d2, d3, d4, d5, ips_nms, ips_lend, ips_lendNm, ips_ok, ips_refs, rowQ, hb, addNm, cellNms, hcT]
   exact ⟨m - 1, _, by omega, weak_eq [] [] [(0, .sl rows), (1, .clo g [] (ips l)), (7, di rows.length), (8, di ((j + 1 : Nat) : Int))] (by simp only [↓vp, vv, ↓reduceIte, simprocAttr, coverS, w1]) (by simp only [↓vp, vv, ↓reduceIte, simprocAttr, refsF, ips_refs]) (by simp only [↓vp, vv, ↓reduceIte, simprocAttr, ]) (by simp) (by simp only [↓vp, vv, ↓reduceIte, simprocAttr, ]; try rfl), ⟨j + 1, by omega, he2, rfl⟩⟩
 ·have hlt' : ¬ (j : Int) < rows.length := by omega
  rw [List.drop_of_length_le (by omega)] at he
  have he2 : idxOf (fun r => q (elV false r)) 0 rows = -1 := he
  simp (maxSteps:=500000) only [↓vp, vv, ↓reduceIte, simprocAttr, c173, r173, c173_1, c173_2, c173_3, c173_4, hlt', he2, Pu]
set_option maxHeartbeats 4000000 in
theorem hasF_I (q : D → Bool) (g : FuncId) (l rows : List (List D)) (h : QOk Try.prog false 1 q g l rows) (nn : Nm) : CallsA Try.prog 145 [.sl rows, .clo g [] (ips l)] Hp.none nn (Pu (outC (fun r => q (elV false r)) rows) Hp.none) := by
 obtain ⟨code, h1, h2⟩ := c145_ok
 refine callsA_of (T := tc 173 (rowPu (selQ Try.prog false 1 (fun g' l' d => q d) outI)) T0) (tc_pu f173_ok (fun args pre d hs hp nn => ?_) (T0_ok _)) mixed (N := fun t => (0, t)) Try.func145 h1 h2 r145_ok [] false js_nil js_nil' (by simp [Try.f145]) ?_
 ·unfold selQ at hs
  split at hs
  ·split at hs
   ·rename_i hi
    cases hs
    rw [ipsOf_eq hi]
    exact idxF_I _ _ _ _ hp nn
   ·cases hs
  ·cases hs
 ·have ha := idxOf_any (fun r => q (elV false r)) rows 0 (Int.le_refl _)
  have hv : decide (0 ≤ idxOf (fun r => q (elV false r)) 0 rows) = rows.any (fun r => q (elV false r)) := by
   rw [Bool.eq_iff_iff, decide_eq_true_eq]; exact ha
  simp (maxSteps:=500000) only [↓vp, vv, ↓reduceIte, simprocAttr, c145, r145, selQ, ipsOf_ips, h, ips_nms, ips_lend, ips_lendNm, ips_ok, ips_refs, outI, outC, addNm, cellNms, hv, Pu]
set_option maxHeartbeats 4000000 in
theorem idxF_S (q : D → Bool) (g : FuncId) (l rows : List (List D)) (h : QOk Try.prog false 1 q g l rows) (nn : Nm) : CallsA Try.prog 161 [.sl rows, .clo g [] (ips l)] Hp.none nn (Pu (outI (fun r => q (elV false r)) rows) Hp.none) := by
 obtain ⟨hg, hl, hq⟩ := h
 obtain ⟨code, h1, h2⟩ := c161_ok
 refine callsA_of (tc_q (q := q) hg (T0_ok _)) mixed (N := fun t => (0, t)) Try.func161 h1 h2 r161_ok [] false js_nil js_nil' (by simp [Try.f161]) ?_
 unfold outI
 simp (maxSteps:=500000) only [↓vp, vv, ↓reduceIte, simprocAttr, c161]
 rw [vc_loop]
 refine ⟨fun m s => ∃ j : Nat, j + m = rows.length ∧ idxOf (fun r => q (elV false r)) 0 rows = idxOf (fun r => q (elV false r)) j (rows.drop j) ∧ s = ⟨fr [(0, .sl rows), (1, .clo g [] (ips l)), (7, di rows.length), (8, di j)], Hp.none⟩, ⟨rows.length, _, (weak_eq [] [] [(0, .sl rows), (1, .clo g [] (ips l)), (7, di rows.length), (8, di 0)] (by simp only [↓vp, vv, ↓reduceIte, simprocAttr, coverS]) (by simp only [↓vp, vv, ↓reduceIte, simprocAttr, refsF, ips_refs]) (by simp only [↓vp, vv, ↓reduceIte, simprocAttr, ]) (by simp) (by simp only [↓vp, vv, ↓reduceIte, simprocAttr, ]; try rfl)), ⟨0, by omega, rfl, rfl⟩⟩, ?_⟩
 rintro m s ⟨j, hj, he, rfl⟩
 by_cases hlt : j < rows.length
 ·have hlt' : (j : Int) < rows.length := by omega
  have h0 : (0 : Int) ≤ j := by omega
  obtain ⟨r, hr⟩ : ∃ r, rows[j]? = some r := ⟨_, get_lt hlt⟩
  have hg' : rows.getD j [] = r := by rw [List.getD_eq_getElem?_getD, hr]; rfl
  obtain ⟨hr1, hr2, hr0, hr3⟩ := hq r (List.mem_of_getElem? hr)
  rw [idxOf_drop _ _ _ _ hr] at he
  have w1 : IntKind.i64.wrap ((j : Int) + 1) = ((j + 1 : Nat) : Int) := by rw [wrap_i (by omega)]; rfl
  obtain ⟨x, rfl⟩ := hr0 rfl
  have ht : (0 : Nat) = 0 := rfl
  have d1 : (0 : Nat) = 0 := rfl
  have d2 : (0 : Nat) = 0 := rfl
  have d3 : (0 : Nat) = 0 := rfl
  have d4 : (0 : Nat) = 0 := rfl
  have d5 : (0 : Nat) = 0 := rfl
  have hc : ∀ nn, CallsA Try.prog g ((.v x) :: ips l) Hp.none nn (Pu (db (q (.v x))) Hp.none) := hr3
  have he2 : idxOf (fun r => q (elV false r)) 0 rows = if q (.v x) = true then (j : Int) else idxOf (fun r => q (elV false r)) (j + 1 : Nat) (rows.drop (j + 1)) := he
  cases hb : q (.v x) with
  | true =>
   rw [hb, if_pos rfl] at he2
   have hcT : ∀ nn, CallsA Try.prog g ((.v x) :: ips l) Hp.none nn (Pu (db true) Hp.none) = True := fun nn => eq_true (by have := hc nn; rwa [hb] at this)
   simp (maxSteps:=500000) only [↓vp, vv, ↓reduceIte, simprocAttr, c161, r161, c161_1, c161_2, c161_3, c161_4, hlt', h0, Int.toNat_natCast, hg', hr1, ht, d1, d2, d3, d4, d5, ips_nms, ips_lend, ips_lendNm, ips_ok, ips_refs, rowQ, hb, he2, Pu, addNm, cellNms, hcT]
  | false =>
   rw [hb, if_neg (by simp)] at he2
   have hcT : ∀ nn, CallsA Try.prog g ((.v x) :: ips l) Hp.none nn (Pu (db false) Hp.none) = True := fun nn => eq_true (by have := hc nn; rwa [hb] at this)
   simp (maxSteps:=500000) only [↓vp, vv, ↓reduceIte, simprocAttr, c161, r161, c161_1, c161_2, c161_3, c161_4, hlt', h0, Int.toNat_natCast, hg', hr1, ht, d1, d2, d3, d4, d5, ips_nms, ips_lend, ips_lendNm, ips_ok, ips_refs, rowQ, hb, addNm, cellNms, hcT]
   exact ⟨m - 1, _, by omega, weak_eq [] [] [(0, .sl rows), (1, .clo g [] (ips l)), (7, di rows.length), (8, di ((j + 1 : Nat) : Int))] (by simp only [↓vp, vv, ↓reduceIte, simprocAttr, coverS, w1]) (by simp only [↓vp, vv, ↓reduceIte, simprocAttr, refsF, ips_refs]) (by simp only [↓vp, vv, ↓reduceIte, simprocAttr, ]) (by simp) (by simp only [↓vp, vv, ↓reduceIte, simprocAttr, ]; try rfl), ⟨j + 1, by omega, he2, rfl⟩⟩
 ·have hlt' : ¬ (j : Int) < rows.length := by omega
  rw [List.drop_of_length_le (by omega)] at he
  have he2 : idxOf (fun r => q (elV false r)) 0 rows = -1 := he
  simp (maxSteps:=500000) only [↓vp, vv, ↓reduceIte, simprocAttr, c161, r161, c161_1, c161_2, c161_3, c161_4, hlt', he2, Pu]
set_option maxHeartbeats 4000000 in
theorem hasF_S (q : D → Bool) (g : FuncId) (l rows : List (List D)) (h : QOk Try.prog false 1 q g l rows) (nn : Nm) : CallsA Try.prog 134 [.sl rows, .clo g [] (ips l)] Hp.none nn (Pu (outC (fun r => q (elV false r)) rows) Hp.none) := by
 obtain ⟨code, h1, h2⟩ := c134_ok
 refine callsA_of (T := tc 161 (rowPu (selQ Try.prog false 1 (fun g' l' d => q d) outI)) T0) (tc_pu f161_ok (fun args pre d hs hp nn => ?_) (T0_ok _)) mixed (N := fun t => (0, t)) Try.func134 h1 h2 r134_ok [] false js_nil js_nil' (by simp [Try.f134]) ?_
 ·unfold selQ at hs
  split at hs
  ·split at hs
   ·rename_i hi
    cases hs
    rw [ipsOf_eq hi]
    exact idxF_S _ _ _ _ hp nn
   ·cases hs
  ·cases hs
 ·have ha := idxOf_any (fun r => q (elV false r)) rows 0 (Int.le_refl _)
  have hv : decide (0 ≤ idxOf (fun r => q (elV false r)) 0 rows) = rows.any (fun r => q (elV false r)) := by
   rw [Bool.eq_iff_iff, decide_eq_true_eq]; exact ha
  simp (maxSteps:=500000) only [↓vp, vv, ↓reduceIte, simprocAttr, c134, r134, selQ, ipsOf_ips, h, ips_nms, ips_lend, ips_lendNm, ips_ok, ips_refs, outI, outC, addNm, cellNms, hv, Pu]
set_option maxHeartbeats 4000000 in
theorem idxF_G (q : D → Bool) (g : FuncId) (l rows : List (List D)) (h : QOk Try.prog true 7 q g l rows) (nn : Nm) : CallsA Try.prog 177 [.sl rows, .clo g [] (ips l)] Hp.none nn (Pu (outI (fun r => q (elV true r)) rows) Hp.none) := by
 obtain ⟨hg, hl, hq⟩ := h
 obtain ⟨code, h1, h2⟩ := c177_ok
 refine callsA_of (tc_q (q := q) hg (T0_ok _)) mixed (N := fun t => (0, t)) Try.func177 h1 h2 r177_ok [] false js_nil js_nil' (by simp [Try.f177]) ?_
 unfold outI
 simp (maxSteps:=500000) only [↓vp, vv, ↓reduceIte, simprocAttr, c177]
 rw [vc_loop]
 refine ⟨fun m s => ∃ j : Nat, j + m = rows.length ∧ idxOf (fun r => q (elV true r)) 0 rows = idxOf (fun r => q (elV true r)) j (rows.drop j) ∧ s = ⟨fr [(0, .sl rows), (1, .clo g [] (ips l)), (7, di rows.length), (8, di j)], Hp.none⟩, ⟨rows.length, _, (weak_eq [] [] [(0, .sl rows), (1, .clo g [] (ips l)), (7, di rows.length), (8, di 0)] (by simp only [↓vp, vv, ↓reduceIte, simprocAttr, coverS]) (by simp only [↓vp, vv, ↓reduceIte, simprocAttr, refsF, ips_refs]) (by simp only [↓vp, vv, ↓reduceIte, simprocAttr, ]) (by simp) (by simp only [↓vp, vv, ↓reduceIte, simprocAttr, ]; try rfl)), ⟨0, by omega, rfl, rfl⟩⟩, ?_⟩
 rintro m s ⟨j, hj, he, rfl⟩
 by_cases hlt : j < rows.length
 ·have hlt' : (j : Int) < rows.length := by omega
  have h0 : (0 : Int) ≤ j := by omega
  obtain ⟨r, hr⟩ : ∃ r, rows[j]? = some r := ⟨_, get_lt hlt⟩
  have hg' : rows.getD j [] = r := by rw [List.getD_eq_getElem?_getD, hr]; rfl
  obtain ⟨hr1, hr2, hr0, hr3⟩ := hq r (List.mem_of_getElem? hr)
  rw [idxOf_drop _ _ _ _ hr] at he
  have w1 : IntKind.i64.wrap ((j : Int) + 1) = ((j + 1 : Nat) : Int) := by rw [wrap_i (by omega)]; rfl
  have ht : r.take 7 = r := List.take_of_length_le (by omega)
  have d1 := fun H => (doneR H [] hr2).1
  have d2 := fun H => (doneR H [] hr2).2.1
  have d3 := fun H => (doneR H [] hr2).2.2.1
  have d4 := (doneR Hp.none [] hr2).2.2.2.1
  have d5 := fun js => (doneR Hp.none js hr2).2.2.2.2
  have hc : ∀ nn, CallsA Try.prog g ((.agg r) :: ips l) Hp.none nn (Pu (db (q (.agg r))) Hp.none) := hr3
  have he2 : idxOf (fun r => q (elV true r)) 0 rows = if q (.agg r) = true then (j : Int) else idxOf (fun r => q (elV true r)) (j + 1 : Nat) (rows.drop (j + 1)) := he
  cases hb : q (.agg r) with
  | true =>
   rw [hb, if_pos rfl] at he2
   have hcT : ∀ nn, CallsA Try.prog g ((.agg r) :: ips l) Hp.none nn (Pu (db true) Hp.none) = True := fun nn => eq_true (by have := hc nn; rwa [hb] at this)
   simp (maxSteps:=500000) only [↓vp, vv, ↓reduceIte, simprocAttr, c177, r177, c177_1, c177_2, c177_3, c177_4, hlt', h0, Int.toNat_natCast, hg', hr1, ht, d1, d2, d3, d4, d5, ips_nms, ips_lend, ips_lendNm, ips_ok, ips_refs, rowQ, hb, he2, Pu, addNm, cellNms, hcT]
  | false =>
   rw [hb, if_neg (by simp)] at he2
   have hcT : ∀ nn, CallsA Try.prog g ((.agg r) :: ips l) Hp.none nn (Pu (db false) Hp.none) = True := fun nn => eq_true (by have := hc nn; rwa [hb] at this)
   simp (maxSteps:=500000) only [↓vp, vv, ↓reduceIte, simprocAttr, c177, r177, c177_1, c177_2, c177_3, c177_4, hlt', h0, Int.toNat_natCast, hg', hr1, ht, d1, d2, d3, d4, d5, ips_nms, ips_lend, ips_lendNm, ips_ok, ips_refs, rowQ, hb, addNm, cellNms, hcT]
   exact ⟨m - 1, _, by omega, weak_eq [] [] [(0, .sl rows), (1, .clo g [] (ips l)), (7, di rows.length), (8, di ((j + 1 : Nat) : Int))] (by simp only [↓vp, vv, ↓reduceIte, simprocAttr, coverS, w1]) (by simp only [↓vp, vv, ↓reduceIte, simprocAttr, refsF, ips_refs]) (by simp only [↓vp, vv, ↓reduceIte, simprocAttr, ]) (by simp) (by simp only [↓vp, vv, ↓reduceIte, simprocAttr, ]; try rfl), ⟨j + 1, by omega, he2, rfl⟩⟩
 ·have hlt' : ¬ (j : Int) < rows.length := by omega
  rw [List.drop_of_length_le (by omega)] at he
  have he2 : idxOf (fun r => q (elV true r)) 0 rows = -1 := he
  simp (maxSteps:=500000) only [↓vp, vv, ↓reduceIte, simprocAttr, c177, r177, c177_1, c177_2, c177_3, c177_4, hlt', he2, Pu]
set_option maxHeartbeats 4000000 in
theorem hasF_G (q : D → Bool) (g : FuncId) (l rows : List (List D)) (h : QOk Try.prog true 7 q g l rows) (nn : Nm) : CallsA Try.prog 159 [.sl rows, .clo g [] (ips l)] Hp.none nn (Pu (outC (fun r => q (elV true r)) rows) Hp.none) := by
 obtain ⟨code, h1, h2⟩ := c159_ok
 refine callsA_of (T := tc 177 (rowPu (selQ Try.prog true 7 (fun g' l' d => q d) outI)) T0) (tc_pu f177_ok (fun args pre d hs hp nn => ?_) (T0_ok _)) mixed (N := fun t => (0, t)) Try.func159 h1 h2 r159_ok [] false js_nil js_nil' (by simp [Try.f159]) ?_
 ·unfold selQ at hs
  split at hs
  ·split at hs
   ·rename_i hi
    cases hs
    rw [ipsOf_eq hi]
    exact idxF_G _ _ _ _ hp nn
   ·cases hs
  ·cases hs
 ·have ha := idxOf_any (fun r => q (elV true r)) rows 0 (Int.le_refl _)
  have hv : decide (0 ≤ idxOf (fun r => q (elV true r)) 0 rows) = rows.any (fun r => q (elV true r)) := by
   rw [Bool.eq_iff_iff, decide_eq_true_eq]; exact ha
  simp (maxSteps:=500000) only [↓vp, vv, ↓reduceIte, simprocAttr, c159, r159, selQ, ipsOf_ips, h, ips_nms, ips_lend, ips_lendNm, ips_ok, ips_refs, outI, outC, addNm, cellNms, hv, Pu]
set_option maxHeartbeats 4000000 in
theorem idxF_P (q : D → Bool) (g : FuncId) (l rows : List (List D)) (h : QOk Try.prog true 3 q g l rows) (nn : Nm) : CallsA Try.prog 178 [.sl rows, .clo g [] (ips l)] Hp.none nn (Pu (outI (fun r => q (elV true r)) rows) Hp.none) := by
 obtain ⟨hg, hl, hq⟩ := h
 obtain ⟨code, h1, h2⟩ := c178_ok
 refine callsA_of (tc_q (q := q) hg (T0_ok _)) mixed (N := fun t => (0, t)) Try.func178 h1 h2 r178_ok [] false js_nil js_nil' (by simp [Try.f178]) ?_
 unfold outI
 simp (maxSteps:=500000) only [↓vp, vv, ↓reduceIte, simprocAttr, c178]
 rw [vc_loop]
 refine ⟨fun m s => ∃ j : Nat, j + m = rows.length ∧ idxOf (fun r => q (elV true r)) 0 rows = idxOf (fun r => q (elV true r)) j (rows.drop j) ∧ s = ⟨fr [(0, .sl rows), (1, .clo g [] (ips l)), (7, di rows.length), (8, di j)], Hp.none⟩, ⟨rows.length, _, (weak_eq [] [] [(0, .sl rows), (1, .clo g [] (ips l)), (7, di rows.length), (8, di 0)] (by simp only [↓vp, vv, ↓reduceIte, simprocAttr, coverS]) (by simp only [↓vp, vv, ↓reduceIte, simprocAttr, refsF, ips_refs]) (by simp only [↓vp, vv, ↓reduceIte, simprocAttr, ]) (by simp) (by simp only [↓vp, vv, ↓reduceIte, simprocAttr, ]; try rfl)), ⟨0, by omega, rfl, rfl⟩⟩, ?_⟩
 rintro m s ⟨j, hj, he, rfl⟩
 by_cases hlt : j < rows.length
 ·have hlt' : (j : Int) < rows.length := by omega
  have h0 : (0 : Int) ≤ j := by omega
  obtain ⟨r, hr⟩ : ∃ r, rows[j]? = some r := ⟨_, get_lt hlt⟩
  have hg' : rows.getD j [] = r := by rw [List.getD_eq_getElem?_getD, hr]; rfl
  obtain ⟨hr1, hr2, hr0, hr3⟩ := hq r (List.mem_of_getElem? hr)
  rw [idxOf_drop _ _ _ _ hr] at he
  have w1 : IntKind.i64.wrap ((j : Int) + 1) = ((j + 1 : Nat) : Int) := by rw [wrap_i (by omega)]; rfl
  have ht : r.take 3 = r := List.take_of_length_le (by omega)
  have d1 := fun H => (doneR H [] hr2).1
  have d2 := fun H => (doneR H [] hr2).2.1
  have d3 := fun H => (doneR H [] hr2).2.2.1
  have d4 := (doneR Hp.none [] hr2).2.2.2.1
  have d5 := fun js => (doneR Hp.none js hr2).2.2.2.2
  have hc : ∀ nn, CallsA Try.prog g ((.agg r) :: ips l) Hp.none nn (Pu (db (q (.agg r))) Hp.none) := hr3
  have he2 : idxOf (fun r => q (elV true r)) 0 rows = if q (.agg r) = true then (j : Int) else idxOf (fun r => q (elV true r)) (j + 1 : Nat) (rows.drop (j + 1)) := he
  cases hb : q (.agg r) with
  | true =>
   rw [hb, if_pos rfl] at he2
   have hcT : ∀ nn, CallsA Try.prog g ((.agg r) :: ips l) Hp.none nn (Pu (db true) Hp.none) = True := fun nn => eq_true (by have := hc nn; rwa [hb] at this)
   simp (maxSteps:=500000) only [↓vp, vv, ↓reduceIte, simprocAttr, c178, r178, c178_1, c178_2, c178_3, c178_4, hlt', h0, Int.toNat_natCast, hg', hr1, ht, d1, d2, d3, d4, d5, ips_nms, ips_lend, ips_lendNm, ips_ok, ips_refs, rowQ, hb, he2, Pu, addNm, cellNms, hcT]
  | false =>
   rw [hb, if_neg (by simp)] at he2
   have hcT : ∀ nn, CallsA Try.prog g ((.agg r) :: ips l) Hp.none nn (Pu (db false) Hp.none) = True := fun nn => eq_true (by have := hc nn; rwa [hb] at this)
   simp (maxSteps:=500000) only [↓vp, vv, ↓reduceIte, simprocAttr, c178, r178, c178_1, c178_2, c178_3, c178_4, hlt', h0, Int.toNat_natCast, hg', hr1, ht, d1, d2, d3, d4, d5, ips_nms, ips_lend, ips_lendNm, ips_ok, ips_refs, rowQ, hb, addNm, cellNms, hcT]
   exact ⟨m - 1, _, by omega, weak_eq [] [] [(0, .sl rows), (1, .clo g [] (ips l)), (7, di rows.length), (8, di ((j + 1 : Nat) : Int))] (by simp only [↓vp, vv, ↓reduceIte, simprocAttr, coverS, w1]) (by simp only [↓vp, vv, ↓reduceIte, simprocAttr, refsF, ips_refs]) (by simp only [↓vp, vv, ↓reduceIte, simprocAttr, ]) (by simp) (by simp only [↓vp, vv, ↓reduceIte, simprocAttr, ]; try rfl), ⟨j + 1, by omega, he2, rfl⟩⟩
 ·have hlt' : ¬ (j : Int) < rows.length := by omega
  rw [List.drop_of_length_le (by omega)] at he
  have he2 : idxOf (fun r => q (elV true r)) 0 rows = -1 := he
  simp (maxSteps:=500000) only [↓vp, vv, ↓reduceIte, simprocAttr, c178, r178, c178_1, c178_2, c178_3, c178_4, hlt', he2, Pu]
set_option maxHeartbeats 4000000 in
theorem hasF_P (q : D → Bool) (g : FuncId) (l rows : List (List D)) (h : QOk Try.prog true 3 q g l rows) (nn : Nm) : CallsA Try.prog 168 [.sl rows, .clo g [] (ips l)] Hp.none nn (Pu (outC (fun r => q (elV true r)) rows) Hp.none) := by
 obtain ⟨code, h1, h2⟩ := c168_ok
 refine callsA_of (T := tc 178 (rowPu (selQ Try.prog true 3 (fun g' l' d => q d) outI)) T0) (tc_pu f178_ok (fun args pre d hs hp nn => ?_) (T0_ok _)) mixed (N := fun t => (0, t)) Try.func168 h1 h2 r168_ok [] false js_nil js_nil' (by simp [Try.f168]) ?_
 ·unfold selQ at hs
  split at hs
  ·split at hs
   ·rename_i hi
    cases hs
    rw [ipsOf_eq hi]
    exact idxF_P _ _ _ _ hp nn
   ·cases hs
  ·cases hs
 ·have ha := idxOf_any (fun r => q (elV true r)) rows 0 (Int.le_refl _)
  have hv : decide (0 ≤ idxOf (fun r => q (elV true r)) 0 rows) = rows.any (fun r => q (elV true r)) := by
   rw [Bool.eq_iff_iff, decide_eq_true_eq]; exact ha
  simp (maxSteps:=500000) only [↓vp, vv, ↓reduceIte, simprocAttr, c168, r168, selQ, ipsOf_ips, h, ips_nms, ips_lend, ips_lendNm, ips_ok, ips_refs, outI, outC, addNm, cellNms, hv, Pu]
set_option maxHeartbeats 4000000 in
theorem idxF_N (q : D → Bool) (g : FuncId) (l rows : List (List D)) (h : QOk Try.prog true 5 q g l rows) (nn : Nm) : CallsA Try.prog 163 [.sl rows, .clo g [] (ips l)] Hp.none nn (Pu (outI (fun r => q (elV true r)) rows) Hp.none) := by
 obtain ⟨hg, hl, hq⟩ := h
 obtain ⟨code, h1, h2⟩ := c163_ok
 refine callsA_of (tc_q (q := q) hg (T0_ok _)) mixed (N := fun t => (0, t)) Try.func163 h1 h2 r163_ok [] false js_nil js_nil' (by simp [Try.f163]) ?_
 unfold outI
 simp (maxSteps:=500000) only [↓vp, vv, ↓reduceIte, simprocAttr, c163]
 rw [vc_loop]
 refine ⟨fun m s => ∃ j : Nat, j + m = rows.length ∧ idxOf (fun r => q (elV true r)) 0 rows = idxOf (fun r => q (elV true r)) j (rows.drop j) ∧ s = ⟨fr [(0, .sl rows), (1, .clo g [] (ips l)), (7, di rows.length), (8, di j)], Hp.none⟩, ⟨rows.length, _, (weak_eq [] [] [(0, .sl rows), (1, .clo g [] (ips l)), (7, di rows.length), (8, di 0)] (by simp only [↓vp, vv, ↓reduceIte, simprocAttr, coverS]) (by simp only [↓vp, vv, ↓reduceIte, simprocAttr, refsF, ips_refs]) (by simp only [↓vp, vv, ↓reduceIte, simprocAttr, ]) (by simp) (by simp only [↓vp, vv, ↓reduceIte, simprocAttr, ]; try rfl)), ⟨0, by omega, rfl, rfl⟩⟩, ?_⟩
 rintro m s ⟨j, hj, he, rfl⟩
 by_cases hlt : j < rows.length
 ·have hlt' : (j : Int) < rows.length := by omega
  have h0 : (0 : Int) ≤ j := by omega
  obtain ⟨r, hr⟩ : ∃ r, rows[j]? = some r := ⟨_, get_lt hlt⟩
  have hg' : rows.getD j [] = r := by rw [List.getD_eq_getElem?_getD, hr]; rfl
  obtain ⟨hr1, hr2, hr0, hr3⟩ := hq r (List.mem_of_getElem? hr)
  rw [idxOf_drop _ _ _ _ hr] at he
  have w1 : IntKind.i64.wrap ((j : Int) + 1) = ((j + 1 : Nat) : Int) := by rw [wrap_i (by omega)]; rfl
  have ht : r.take 5 = r := List.take_of_length_le (by omega)
  have d1 := fun H => (doneR H [] hr2).1
  have d2 := fun H => (doneR H [] hr2).2.1
  have d3 := fun H => (doneR H [] hr2).2.2.1
  have d4 := (doneR Hp.none [] hr2).2.2.2.1
  have d5 := fun js => (doneR Hp.none js hr2).2.2.2.2
  have hc : ∀ nn, CallsA Try.prog g ((.agg r) :: ips l) Hp.none nn (Pu (db (q (.agg r))) Hp.none) := hr3
  have he2 : idxOf (fun r => q (elV true r)) 0 rows = if q (.agg r) = true then (j : Int) else idxOf (fun r => q (elV true r)) (j + 1 : Nat) (rows.drop (j + 1)) := he
  cases hb : q (.agg r) with
  | true =>
   rw [hb, if_pos rfl] at he2
   have hcT : ∀ nn, CallsA Try.prog g ((.agg r) :: ips l) Hp.none nn (Pu (db true) Hp.none) = True := fun nn => eq_true (by have := hc nn; rwa [hb] at this)
   simp (maxSteps:=500000) only [↓vp, vv, ↓reduceIte, simprocAttr, c163, r163, c163_1, c163_2, c163_3, c163_4, hlt', h0, Int.toNat_natCast, hg', hr1, ht, d1, d2, d3, d4, d5, ips_nms, ips_lend, ips_lendNm, ips_ok, ips_refs, rowQ, hb, he2, Pu, addNm, cellNms, hcT]
  | false =>
   rw [hb, if_neg (by simp)] at he2
   have hcT : ∀ nn, CallsA Try.prog g ((.agg r) :: ips l) Hp.none nn (Pu (db false) Hp.none) = True := fun nn => eq_true (by have := hc nn; rwa [hb] at this)
   simp (maxSteps:=500000) only [↓vp, vv, ↓reduceIte, simprocAttr, c163, r163, c163_1, c163_2, c163_3, c163_4, hlt', h0, Int.toNat_natCast, hg', hr1, ht, d1, d2, d3, d4, d5, ips_nms, ips_lend, ips_lendNm, ips_ok, ips_refs, rowQ, hb, addNm, cellNms, hcT]
   exact ⟨m - 1, _, by omega, weak_eq [] [] [(0, .sl rows), (1, .clo g [] (ips l)), (7, di rows.length), (8, di ((j + 1 : Nat) : Int))] (by simp only [↓vp, vv, ↓reduceIte, simprocAttr, coverS, w1]) (by simp only [↓vp, vv, ↓reduceIte, simprocAttr, refsF, ips_refs]) (by simp only [↓vp, vv, ↓reduceIte, simprocAttr, ]) (by simp) (by simp only [↓vp, vv, ↓reduceIte, simprocAttr, ]; try rfl), ⟨j + 1, by omega, he2, rfl⟩⟩
 ·have hlt' : ¬ (j : Int) < rows.length := by omega
  rw [List.drop_of_length_le (by omega)] at he
  have he2 : idxOf (fun r => q (elV true r)) 0 rows = -1 := he
  simp (maxSteps:=500000) only [↓vp, vv, ↓reduceIte, simprocAttr, c163, r163, c163_1, c163_2, c163_3, c163_4, hlt', he2, Pu]
set_option maxHeartbeats 4000000 in
theorem hasF_N (q : D → Bool) (g : FuncId) (l rows : List (List D)) (h : QOk Try.prog true 5 q g l rows) (nn : Nm) : CallsA Try.prog 171 [.sl rows, .clo g [] (ips l)] Hp.none nn (Pu (outC (fun r => q (elV true r)) rows) Hp.none) := by
 obtain ⟨code, h1, h2⟩ := c171_ok
 refine callsA_of (T := tc 163 (rowPu (selQ Try.prog true 5 (fun g' l' d => q d) outI)) T0) (tc_pu f163_ok (fun args pre d hs hp nn => ?_) (T0_ok _)) mixed (N := fun t => (0, t)) Try.func171 h1 h2 r171_ok [] false js_nil js_nil' (by simp [Try.f171]) ?_
 ·unfold selQ at hs
  split at hs
  ·split at hs
   ·rename_i hi
    cases hs
    rw [ipsOf_eq hi]
    exact idxF_N _ _ _ _ hp nn
   ·cases hs
  ·cases hs
 ·have ha := idxOf_any (fun r => q (elV true r)) rows 0 (Int.le_refl _)
  have hv : decide (0 ≤ idxOf (fun r => q (elV true r)) 0 rows) = rows.any (fun r => q (elV true r)) := by
   rw [Bool.eq_iff_iff, decide_eq_true_eq]; exact ha
  simp (maxSteps:=500000) only [↓vp, vv, ↓reduceIte, simprocAttr, c171, r171, selQ, ipsOf_ips, h, ips_nms, ips_lend, ips_lendNm, ips_ok, ips_refs, outI, outC, addNm, cellNms, hv, Pu]
def RngI (n : Nat) (st : Nat → St) (P : Nat → Prop) (m : Nat) (s : St) : Prop := ∃ j, j + m = n ∧ P j ∧ s = st j
theorem rng_loop {T : Tbl} {N : Nat → Nm} {J : List Nm} {c : C} {Q : Ex → St → Prop} {s : St} (n : Nat) (st : Nat → St) (P : Nat → Prop) (h0 : Weak J s (st 0)) (hP : P 0)
  (hs : ∀ j, j < n → P j → vc T N J c (loopQ J (RngI n st P) (n - j) Q) (st j)) (he : P n → vc T N J c (loopQ J (RngI n st P) 0 Q) (st n)) : vc T N J (.loop c) Q s := by
 rw [vc_loop]
 refine ⟨RngI n st P, ⟨n, _, h0, 0, by omega, hP, rfl⟩, ?_⟩
 rintro m s' ⟨j, hj, hPj, rfl⟩
 by_cases h : j < n
 ·obtain rfl : m = n - j := by omega
  exact hs j h hPj
 ·obtain rfl : j = n := by omega
  obtain rfl : m = 0 := by omega
  exact he hPj
theorem rng_next {J : List Nm} {n : Nat} {st : Nat → St} {P : Nat → Prop} {j : Nat} {s : St} (hj : j < n) (w : Weak J s (st (j + 1))) (hp : P (j + 1)) : ∃ k' s', k' < n - j ∧ Weak J s s' ∧ RngI n st P k' s' :=
 ⟨n - (j + 1), _, by omega, w, j + 1, by omega, hp, rfl⟩
theorem weak0 {F : Fr} {H : Hp} {l : List (Nat × D)} (h1 : coverS F H [] l) (h2 : refsF [] l = true) : Weak [] ⟨F, H⟩ ⟨fr l, Hp.none⟩ := weak_eq [] [] l h1 h2 trivial (by simp) rfl
theorem drop_all {α : Type} {p : α → Bool} {l : List α} {j : Nat} {b : Bool} (hj : j < l.length) (he : (l.drop j).all p = b) : (p l[j] = false → b = false) ∧ (p l[j] = true → (l.drop (j + 1)).all p = b) := by
 rw [List.drop_eq_getElem_cons hj, List.all_cons] at he
 exact ⟨fun h => by rw [h] at he; simpa using he.symm, fun h => by rw [h] at he; simpa using he⟩
theorem drop_all_end {α : Type} {p : α → Bool} {l : List α} {b : Bool} (he : (l.drop l.length).all p = b) : b = true := by
 rw [List.drop_of_length_le (Nat.le_refl _)] at he
 exact he.symm
theorem idx_next {j : Nat} (h : (j : Int) ≤ 1000000000000) : IntKind.i64.wrap ((j : Int) + 1) = ((j + 1 : Nat) : Int) := by rw [wrap_i (by omega)]; rfl
theorem idx_nn (j : Nat) : (0 : Int) ≤ (j : Int) := Int.natCast_nonneg j
end Go.Proofs.Ytadjhfjiimgddaa
