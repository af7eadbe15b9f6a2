
/- The reference of troubles: what the program's functions compute. -/
import Derived.Test.YtfkhjkkhdfcnjaaTp1
import Derived.Test.YtfkhjkkhdfcnjaaTr5
import Derived.Test.YtfkhjkkhdfcnjaaCodeTM
import Derived.Test.YtfkhjkkhdfcnjaaRkA
namespace Go.Proofs.Ytfkhjkkhdfcnjaa
open Go
set_option linter.unusedVariables false
set_option linter.unusedSimpArgs false
set_option maxRecDepth 100000

/-- How many troubles are there. -/
def cntT (l : List Tro) (k i t : Int) : Nat := l.countP (isB k i t)
theorem foldl_tk {α β : Type} (f : β → α → β) (b : β) {l : List α} {j : Nat} (h : j < l.length) : (l.take (j + 1)).foldl f b = f ((l.take j).foldl f b) l[j] := by
  rw [← List.take_append_getElem h, List.foldl_append]; rfl
theorem cnt_tk (k i t : Int) {l : List Tro} {j : Nat} (h : j < l.length) : cntT (l.take (j + 1)) k i t = cntT (l.take j) k i t + if isB k i t l[j] = true then 1 else 0 := by
  unfold cntT
  rw [← List.take_append_getElem h, List.countP_append, List.countP_singleton]
theorem cnt_le (k i t : Int) (l : List Tro) (j : Nat) : cntT (l.take j) k i t ≤ l.length := by
  unfold cntT
  have a := List.countP_le_length (p := isB k i t) (l := l.take j)
  rw [List.length_take] at a
  omega
theorem cnt_has (l : List Tro) (k i t : Int) : decide ((0 : Int) < cntT l k i t) = trHas l k i t := by
  unfold cntT trHas
  cases h : l.any (isB k i t) with
  | true =>
    obtain ⟨x, hx, hb⟩ := List.any_eq_true.1 h
    have := List.countP_pos_iff.2 ⟨x, hx, hb⟩
    exact decide_eq_true (by omega)
  | false =>
    have : l.countP (isB k i t) = 0 := List.countP_eq_zero.2 fun x hx hb => by rw [List.any_eq_false] at h; exact h x hx hb
    rw [this]; rfl
def SmF (l : List Tro) (k i t : Int) (j : Nat) : List (Nat × D) := [(0, .sl (l.map Tro.row)), (1, di k), (2, di i), (3, di t), (10, di ((l.take j).foldl (sumS k i t) 0)), (11, di (cntT (l.take j) k i t)), (12, di j)]
set_option maxHeartbeats 16000000 in
theorem rsum_c (l : List Tro) (k i t : Int) (hl : l.length ≤ 1000000) (nn : Nm) : CallsA Try.prog 146 [.sl (l.map Tro.row), di k, di i, di t] Hp.none nn (Pu (.tup [di (trSum l k i t), di (cntT l k i t)]) Hp.none) := by
  obtain ⟨code, h1, h2⟩ := c146_ok
  refine callsA_of (T0_ok _) mixed (N := fun t => (0, t)) Try.func146 h1 h2 r146_ok [] false js_nil js_nil' (by simp [Try.f146]) ?_
  simp (config := { maxSteps := 500000 }) only [↓vp, vv, implies_true, forall_const, undef, InI, ↓reduceIte, simprocAttr, c146]
  refine rng_loop l.length (fun j => ⟨fr (SmF l k i t j), Hp.none⟩) (fun _ => True) (weak_eq [] [] (SmF l k i t 0) (by simp (config := { maxSteps := 500000 }) only [↓vp, vv, implies_true, forall_const, undef, InI, ↓reduceIte, simprocAttr, coverS, SmF, cntT, List.take_zero, List.foldl_nil, List.countP_nil]) (by simp (config := { maxSteps := 500000 }) only [↓vp, vv, implies_true, forall_const, undef, InI, ↓reduceIte, simprocAttr, refsF, SmF]) (by simp (config := { maxSteps := 500000 }) only [↓vp, vv, implies_true, forall_const, undef, InI, ↓reduceIte, simprocAttr, SmF]) (by simp) (by simp (config := { maxSteps := 500000 }) only [↓vp, vv, implies_true, forall_const, undef, InI, ↓reduceIte, simprocAttr, ]; try rfl)) trivial (fun j hj _ => ?_) (fun _ => ?_)
  · have hj' : (j : Int) < l.length := by omega
    have hjn := idx_nn j
    have w1 := idx_next (j := j) (by omega)
    have hg := getD_map Tro.row l j hj
    have hS := foldl_tk (sumS k i t) 0 hj
    have hC := cnt_tk k i t hj
    have hcl := cnt_le k i t l j
    generalize l[j] = x at hg hS hC
    have st : sumS k i t ((l.take j).foldl (sumS k i t) 0) x = if isB k i t x = true then IntKind.i64.wrap ((l.take j).foldl (sumS k i t) 0 + x.value) else (l.take j).foldl (sumS k i t) 0 := rfl
    rw [st] at hS
    have hB : isB k i t x = if (x.kind == k) = true then (if (x.index == i) = true then (if decide (x.fr ≤ t) = true then decide (t < x.to) else false) else false) else false := rfl
    generalize hA : (l.take j).foldl (sumS k i t) 0 = a at hS
    generalize hA1 : (l.take (j + 1)).foldl (sumS k i t) 0 = a' at hS
    generalize hD : cntT (l.take j) k i t = d at hC hcl
    generalize hD1 : cntT (l.take (j + 1)) k i t = d' at hC
    have w2 : IntKind.i64.wrap ((d : Int) + 1) = d + 1 := wrap_i (by omega)
    cases a1 : (x.kind == k) <;> cases a2 : (x.index == i) <;> cases a3 : decide (x.fr ≤ t) <;> cases a4 : decide (t < x.to) <;> (simp only [a1, a2, a3, a4, if_true, if_false, Bool.false_eq_true] at hB; simp only [hB, if_true, if_false, Bool.false_eq_true, Nat.add_zero] at hS hC; subst hS; subst hC; simp (config := { maxSteps := 500000 }) only [↓vp, vv, implies_true, forall_const, undef, InI, ↓reduceIte, simprocAttr, c146, r146, c146_1, c146_2, c146_3, c146_4, SmF, hA, hD, hj', hjn, Int.toNat_natCast, hg, Tro.row, a1, a2, a3, a4, w1, w2]; exact rng_next hj (weak_eq [] [] (SmF l k i t (j + 1)) (by simp (config := { maxSteps := 500000 }) only [↓vp, vv, implies_true, forall_const, undef, InI, ↓reduceIte, simprocAttr, coverS, SmF, w1, w2, hA, hA1, hD, hD1, Int.natCast_add, Int.cast_ofNat_Int]; try rfl) (by simp (config := { maxSteps := 500000 }) only [↓vp, vv, implies_true, forall_const, undef, InI, ↓reduceIte, simprocAttr, refsF, SmF]) (by simp (config := { maxSteps := 500000 }) only [↓vp, vv, implies_true, forall_const, undef, InI, ↓reduceIte, simprocAttr, SmF]) (by simp) (by simp (config := { maxSteps := 500000 }) only [↓vp, vv, implies_true, forall_const, undef, InI, ↓reduceIte, simprocAttr, ]; try rfl)) trivial)
  · rw [show SmF l k i t l.length = [(0, .sl (l.map Tro.row)), (1, di k), (2, di i), (3, di t), (10, di (trSum l k i t)), (11, di (cntT l k i t)), (12, di l.length)] by unfold SmF; rw [List.take_length]; rfl]
    simp (config := { maxSteps := 500000 }) only [↓vp, vv, implies_true, forall_const, undef, InI, ↓reduceIte, simprocAttr, c146, r146, c146_1, c146_2, c146_3, c146_4, Int.lt_irrefl, Pu]
def selRsum : List D → Option (Prop × D)
  | [.sl rows, .v (.int .i64 k), .v (.int .i64 i), .v (.int .i64 t)] => match troOf rows with
    | some l => some (l.length ≤ 1000000, .tup [di (trSum l k i t), di (cntT l k i t)])
    | Option.none => Option.none
  | _ => Option.none
def TM0 : Tbl := tc 146 (rowPu selRsum) T0
theorem TM0_ok : TblOk Try.prog TM0 := by
  refine tc_pu f146_ok (fun args pre d h hp nn => ?_) (T0_ok _)
  unfold selRsum at h
  split at h
  · split at h
    · rename_i hm; cases h; rw [troOf_eq hm]; exact rsum_c _ _ _ _ hp nn
    · cases h
  · cases h
theorem rLeak_c (l : List Tro) (i t : Int) (hl : l.length ≤ 1000000) (nn : Nm) : CallsA Try.prog 85 [.sl (l.map Tro.row), di i, di t] Hp.none nn (Pu (di (trSum l 1 i t)) Hp.none) := by
  obtain ⟨code, h1, h2⟩ := c85_ok
  refine callsA_of TM0_ok mixed (N := fun t => (0, t)) Try.func85 h1 h2 r85_ok [] false js_nil js_nil' (by simp [Try.f85]) ?_
  have ht := troOf_map l
  simp (config := { maxSteps := 500000 }) only [↓vp, vv, implies_true, forall_const, undef, InI, ↓reduceIte, simprocAttr, c85, r85, TM0, selRsum, ht, hl, Pu]
theorem rDrift_c (l : List Tro) (i t : Int) (hl : l.length ≤ 1000000) (nn : Nm) : CallsA Try.prog 87 [.sl (l.map Tro.row), di i, di t] Hp.none nn (Pu (di (trSum l 2 i t)) Hp.none) := by
  obtain ⟨code, h1, h2⟩ := c87_ok
  refine callsA_of TM0_ok mixed (N := fun t => (0, t)) Try.func87 h1 h2 r87_ok [] false js_nil js_nil' (by simp [Try.f87]) ?_
  have ht := troOf_map l
  simp (config := { maxSteps := 500000 }) only [↓vp, vv, implies_true, forall_const, undef, InI, ↓reduceIte, simprocAttr, c87, r87, TM0, selRsum, ht, hl, Pu]
theorem rStop_c (l : List Tro) (i t : Int) (hl : l.length ≤ 1000000) (nn : Nm) : CallsA Try.prog 89 [.sl (l.map Tro.row), di i, di t] Hp.none nn (Pu (db (trHas l 3 i t)) Hp.none) := by
  obtain ⟨code, h1, h2⟩ := c89_ok
  refine callsA_of TM0_ok mixed (N := fun t => (0, t)) Try.func89 h1 h2 r89_ok [] false js_nil js_nil' (by simp [Try.f89]) ?_
  have ht := troOf_map l
  have hc := cnt_has l 3 i t
  simp (config := { maxSteps := 500000 }) only [↓vp, vv, implies_true, forall_const, undef, InI, ↓reduceIte, simprocAttr, c89, r89, TM0, selRsum, ht, hl, hc, Pu]
theorem rStuck_c (l : List Tro) (i t : Int) (hl : l.length ≤ 1000000) (nn : Nm) : CallsA Try.prog 91 [.sl (l.map Tro.row), di i, di t] Hp.none nn (Pu (db (trHas l 4 i t)) Hp.none) := by
  obtain ⟨code, h1, h2⟩ := c91_ok
  refine callsA_of TM0_ok mixed (N := fun t => (0, t)) Try.func91 h1 h2 r91_ok [] false js_nil js_nil' (by simp [Try.f91]) ?_
  have ht := troOf_map l
  have hc := cnt_has l 4 i t
  simp (config := { maxSteps := 500000 }) only [↓vp, vv, implies_true, forall_const, undef, InI, ↓reduceIte, simprocAttr, c91, r91, TM0, selRsum, ht, hl, hc, Pu]
def RnF (l : List Tro) (t : Int) (B : Int × Bool) (j : Int) (e : List (Nat × D)) : List (Nat × D) := (0, .sl (l.map Tro.row)) :: (1, di t) :: (6, di B.1) :: (7, db B.2) :: (8, di j) :: e
def RnH (x : Tro) : Hp := Hp.none.put (0, 38) ⟨0, 1, [[di x.fr], [di x.to]]⟩
set_option maxHeartbeats 16000000 in
theorem rNext_c (l : List Tro) (t : Int) (hl : l.length ≤ 1000000) (nn : Nm) : CallsA Try.prog 84 [.sl (l.map Tro.row), di t] Hp.none nn (Pu (.tup [di (trNext l t).1, db (trNext l t).2]) Hp.none) := by
  obtain ⟨code, h1, h2⟩ := c84_ok
  refine callsA_of (T0_ok _) mixed (N := fun t => (0, t)) Try.func84 h1 h2 r84_ok [] false js_nil js_nil' (by simp [Try.f84]) ?_
  simp (config := { maxSteps := 500000 }) only [↓vp, vv, implies_true, forall_const, undef, InI, ↓reduceIte, simprocAttr, c84]
  refine rng_loop l.length (fun j => ⟨fr (RnF l t ((l.take j).foldl (nxS t) (0, false)) j []), Hp.none⟩) (fun _ => True) (weak_eq [] [] (RnF l t (0, false) 0 []) (by simp (config := { maxSteps := 500000 }) only [↓vp, vv, implies_true, forall_const, undef, InI, ↓reduceIte, simprocAttr, coverS, RnF]) (by simp (config := { maxSteps := 500000 }) only [↓vp, vv, implies_true, forall_const, undef, InI, ↓reduceIte, simprocAttr, refsF, RnF]) (by simp (config := { maxSteps := 500000 }) only [↓vp, vv, implies_true, forall_const, undef, InI, ↓reduceIte, simprocAttr, RnF]) (by simp) (by simp (config := { maxSteps := 500000 }) only [↓vp, vv, implies_true, forall_const, undef, InI, ↓reduceIte, simprocAttr, RnF]; try rfl)) trivial (fun j hj _ => ?_) (fun _ => ?_)
  · have hj' : (j : Int) < l.length := by omega
    have hjn := idx_nn j
    have w1 := idx_next (j := j) (by omega)
    have hg := getD_map Tro.row l j hj
    have hS := foldl_tk (nxS t) ((0 : Int), false) hj
    generalize l[j] = x at hg hS
    have st : nxS t ((l.take j).foldl (nxS t) (0, false)) x = if x.to ≤ x.fr then (l.take j).foldl (nxS t) (0, false) else nxP t (nxP t ((l.take j).foldl (nxS t) (0, false)) x.fr) x.to := rfl
    rw [st] at hS
    generalize (l.take j).foldl (nxS t) (0, false) = B0 at hS
    by_cases a1 : x.to ≤ x.fr
    · rw [if_pos a1] at hS
      simp (config := { maxSteps := 500000 }) only [↓vp, vv, implies_true, forall_const, undef, InI, ↓reduceIte, simprocAttr, c84_7, c84_6, c84_5, RnF, hj', hjn, Int.toNat_natCast, hg, Tro.row, a1, w1]
      exact rng_next hj (weak_eq [] [] (RnF l t ((l.take (j + 1)).foldl (nxS t) (0, false)) (j + 1 : Nat) []) (by simp (config := { maxSteps := 500000 }) only [↓vp, vv, implies_true, forall_const, undef, InI, ↓reduceIte, simprocAttr, coverS, RnF, w1, hS]) (by simp (config := { maxSteps := 500000 }) only [↓vp, vv, implies_true, forall_const, undef, InI, ↓reduceIte, simprocAttr, refsF, RnF, w1, hS]) (by simp (config := { maxSteps := 500000 }) only [↓vp, vv, implies_true, forall_const, undef, InI, ↓reduceIte, simprocAttr, RnF, w1, hS]) (by simp) (by simp (config := { maxSteps := 500000 }) only [↓vp, vv, implies_true, forall_const, undef, InI, ↓reduceIte, simprocAttr, RnF, w1, hS]; try rfl)) trivial
    · rw [if_neg a1] at hS
      simp (config := { maxSteps := 500000 }) only [↓vp, vv, implies_true, forall_const, undef, InI, ↓reduceIte, simprocAttr, c84_7, c84_6, c84_4, RnF, hj', hjn, Int.toNat_natCast, hg, Tro.row, a1, w1]
      refine rng_loop 2 (fun k => ⟨fr (RnF l t (nxK t B0 x k) j [(9, .own (0, 38) 0 0 2), (10, di k)]), RnH x⟩) (fun _ => True) (weak_eq [] [(0, 38)] (RnF l t B0 j [(9, .own (0, 38) 0 0 2), (10, di 0)]) (by simp (config := { maxSteps := 500000 }) only [↓vp, vv, implies_true, forall_const, undef, InI, ↓reduceIte, simprocAttr, coverS, RnF, RnH, Tro.row]) (by simp (config := { maxSteps := 500000 }) only [↓vp, vv, implies_true, forall_const, undef, InI, ↓reduceIte, simprocAttr, refsF, RnF, RnH, Tro.row]) (by simp (config := { maxSteps := 500000 }) only [↓vp, vv, implies_true, forall_const, undef, InI, ↓reduceIte, simprocAttr, RnF, RnH, Tro.row]) (by simp) (by simp (config := { maxSteps := 500000 }) only [↓vp, vv, implies_true, forall_const, undef, InI, ↓reduceIte, simprocAttr, RnF, RnH, Tro.row]; try rfl)) trivial (fun k hk _ => ?_) (fun _ => ?_)
      · have hk2 : k = 0 ∨ k = 1 := by omega
        have c1 : ((1 : Nat) : Int) = 1 := rfl
        have w3 : IntKind.i64.wrap 1 = 1 := rfl
        have w4 : IntKind.i64.wrap 2 = 2 := rfl
        rcases hk2 with rfl | rfl
        · obtain ⟨b, o⟩ := B0
          have eB := nxK0 t (b, o) x
          have e1 := nxK1 t (b, o) x
          by_cases h1 : t < x.fr
          · cases o with
            | false =>
              have ev : nxK t (b, false) x 1 = (x.fr, true) := by rw [e1]; simp [nxP, h1]
              simp (config := { maxSteps := 500000 }) only [↓vp, vv, implies_true, forall_const, undef, InI, ↓reduceIte, simprocAttr, c84_3, c84_2, c84_1, RnF, RnH, eB, c1, w3, w4, h1]
              exact rng_next (j := 0) (by omega) (weak_eq [] [(0, 38)] (RnF l t (nxK t (b, false) x 1) j [(9, .own (0, 38) 0 0 2), (10, di 1)]) (by simp (config := { maxSteps := 500000 }) only [↓vp, vv, implies_true, forall_const, undef, InI, ↓reduceIte, simprocAttr, coverS, RnF, RnH, Tro.row, ev, c1, w3, w4]) (by simp (config := { maxSteps := 500000 }) only [↓vp, vv, implies_true, forall_const, undef, InI, ↓reduceIte, simprocAttr, refsF, RnF, RnH, Tro.row, ev, c1, w3, w4]) (by simp (config := { maxSteps := 500000 }) only [↓vp, vv, implies_true, forall_const, undef, InI, ↓reduceIte, simprocAttr, RnF, RnH, Tro.row, ev, c1, w3, w4]) (by simp) (by simp (config := { maxSteps := 500000 }) only [↓vp, vv, implies_true, forall_const, undef, InI, ↓reduceIte, simprocAttr, RnF, RnH, Tro.row, ev, c1, w3, w4]; try rfl)) trivial
            | true =>
              by_cases h2 : x.fr < b
              · have ev : nxK t (b, true) x 1 = (x.fr, true) := by rw [e1]; simp [nxP, h1, h2]
                simp (config := { maxSteps := 500000 }) only [↓vp, vv, implies_true, forall_const, undef, InI, ↓reduceIte, simprocAttr, c84_3, c84_2, c84_1, RnF, RnH, eB, c1, w3, w4, h1, h2]
                exact rng_next (j := 0) (by omega) (weak_eq [] [(0, 38)] (RnF l t (nxK t (b, true) x 1) j [(9, .own (0, 38) 0 0 2), (10, di 1)]) (by simp (config := { maxSteps := 500000 }) only [↓vp, vv, implies_true, forall_const, undef, InI, ↓reduceIte, simprocAttr, coverS, RnF, RnH, Tro.row, ev, c1, w3, w4]) (by simp (config := { maxSteps := 500000 }) only [↓vp, vv, implies_true, forall_const, undef, InI, ↓reduceIte, simprocAttr, refsF, RnF, RnH, Tro.row, ev, c1, w3, w4]) (by simp (config := { maxSteps := 500000 }) only [↓vp, vv, implies_true, forall_const, undef, InI, ↓reduceIte, simprocAttr, RnF, RnH, Tro.row, ev, c1, w3, w4]) (by simp) (by simp (config := { maxSteps := 500000 }) only [↓vp, vv, implies_true, forall_const, undef, InI, ↓reduceIte, simprocAttr, RnF, RnH, Tro.row, ev, c1, w3, w4]; try rfl)) trivial
              · have ev : nxK t (b, true) x 1 = (b, true) := by rw [e1]; simp [nxP, h1, h2]
                simp (config := { maxSteps := 500000 }) only [↓vp, vv, implies_true, forall_const, undef, InI, ↓reduceIte, simprocAttr, c84_3, c84_2, c84_1, RnF, RnH, eB, c1, w3, w4, h1, h2]
                exact rng_next (j := 0) (by omega) (weak_eq [] [(0, 38)] (RnF l t (nxK t (b, true) x 1) j [(9, .own (0, 38) 0 0 2), (10, di 1)]) (by simp (config := { maxSteps := 500000 }) only [↓vp, vv, implies_true, forall_const, undef, InI, ↓reduceIte, simprocAttr, coverS, RnF, RnH, Tro.row, ev, c1, w3, w4]) (by simp (config := { maxSteps := 500000 }) only [↓vp, vv, implies_true, forall_const, undef, InI, ↓reduceIte, simprocAttr, refsF, RnF, RnH, Tro.row, ev, c1, w3, w4]) (by simp (config := { maxSteps := 500000 }) only [↓vp, vv, implies_true, forall_const, undef, InI, ↓reduceIte, simprocAttr, RnF, RnH, Tro.row, ev, c1, w3, w4]) (by simp) (by simp (config := { maxSteps := 500000 }) only [↓vp, vv, implies_true, forall_const, undef, InI, ↓reduceIte, simprocAttr, RnF, RnH, Tro.row, ev, c1, w3, w4]; try rfl)) trivial
          · have ev : nxK t (b, o) x 1 = (b, o) := by rw [e1]; simp [nxP, h1]
            simp (config := { maxSteps := 500000 }) only [↓vp, vv, implies_true, forall_const, undef, InI, ↓reduceIte, simprocAttr, c84_3, c84_2, c84_1, RnF, RnH, eB, c1, w3, w4, h1]
            exact rng_next (j := 0) (by omega) (weak_eq [] [(0, 38)] (RnF l t (nxK t (b, o) x 1) j [(9, .own (0, 38) 0 0 2), (10, di 1)]) (by simp (config := { maxSteps := 500000 }) only [↓vp, vv, implies_true, forall_const, undef, InI, ↓reduceIte, simprocAttr, coverS, RnF, RnH, Tro.row, ev, c1, w3, w4]) (by simp (config := { maxSteps := 500000 }) only [↓vp, vv, implies_true, forall_const, undef, InI, ↓reduceIte, simprocAttr, refsF, RnF, RnH, Tro.row, ev, c1, w3, w4]) (by simp (config := { maxSteps := 500000 }) only [↓vp, vv, implies_true, forall_const, undef, InI, ↓reduceIte, simprocAttr, RnF, RnH, Tro.row, ev, c1, w3, w4]) (by simp) (by simp (config := { maxSteps := 500000 }) only [↓vp, vv, implies_true, forall_const, undef, InI, ↓reduceIte, simprocAttr, RnF, RnH, Tro.row, ev, c1, w3, w4]; try rfl)) trivial
        · have e0 := nxK1 t B0 x
          have e1 := nxK2 t B0 x
          rw [← e0] at e1
          obtain ⟨⟨b, o⟩, eB⟩ : ∃ z, nxK t B0 x 1 = z := ⟨_, rfl⟩
          rw [eB] at e1
          by_cases h1 : t < x.to
          · cases o with
            | false =>
              have ev : nxK t B0 x 2 = (x.to, true) := by rw [e1]; simp [nxP, h1]
              simp (config := { maxSteps := 500000 }) only [↓vp, vv, implies_true, forall_const, undef, InI, ↓reduceIte, simprocAttr, c84_3, c84_2, c84_1, RnF, RnH, eB, c1, w3, w4, h1]
              exact rng_next (n := 2) (j := 1) (by omega) (weak_eq [] [(0, 38)] (RnF l t (nxK t B0 x 2) j [(9, .own (0, 38) 0 0 2), (10, di 2)]) (by simp (config := { maxSteps := 500000 }) only [↓vp, vv, implies_true, forall_const, undef, InI, ↓reduceIte, simprocAttr, coverS, RnF, RnH, Tro.row, ev, c1, w3, w4]) (by simp (config := { maxSteps := 500000 }) only [↓vp, vv, implies_true, forall_const, undef, InI, ↓reduceIte, simprocAttr, refsF, RnF, RnH, Tro.row, ev, c1, w3, w4]) (by simp (config := { maxSteps := 500000 }) only [↓vp, vv, implies_true, forall_const, undef, InI, ↓reduceIte, simprocAttr, RnF, RnH, Tro.row, ev, c1, w3, w4]) (by simp) (by simp (config := { maxSteps := 500000 }) only [↓vp, vv, implies_true, forall_const, undef, InI, ↓reduceIte, simprocAttr, RnF, RnH, Tro.row, ev, c1, w3, w4]; try rfl)) trivial
            | true =>
              by_cases h2 : x.to < b
              · have ev : nxK t B0 x 2 = (x.to, true) := by rw [e1]; simp [nxP, h1, h2]
                simp (config := { maxSteps := 500000 }) only [↓vp, vv, implies_true, forall_const, undef, InI, ↓reduceIte, simprocAttr, c84_3, c84_2, c84_1, RnF, RnH, eB, c1, w3, w4, h1, h2]
                exact rng_next (n := 2) (j := 1) (by omega) (weak_eq [] [(0, 38)] (RnF l t (nxK t B0 x 2) j [(9, .own (0, 38) 0 0 2), (10, di 2)]) (by simp (config := { maxSteps := 500000 }) only [↓vp, vv, implies_true, forall_const, undef, InI, ↓reduceIte, simprocAttr, coverS, RnF, RnH, Tro.row, ev, c1, w3, w4]) (by simp (config := { maxSteps := 500000 }) only [↓vp, vv, implies_true, forall_const, undef, InI, ↓reduceIte, simprocAttr, refsF, RnF, RnH, Tro.row, ev, c1, w3, w4]) (by simp (config := { maxSteps := 500000 }) only [↓vp, vv, implies_true, forall_const, undef, InI, ↓reduceIte, simprocAttr, RnF, RnH, Tro.row, ev, c1, w3, w4]) (by simp) (by simp (config := { maxSteps := 500000 }) only [↓vp, vv, implies_true, forall_const, undef, InI, ↓reduceIte, simprocAttr, RnF, RnH, Tro.row, ev, c1, w3, w4]; try rfl)) trivial
              · have ev : nxK t B0 x 2 = (b, true) := by rw [e1]; simp [nxP, h1, h2]
                simp (config := { maxSteps := 500000 }) only [↓vp, vv, implies_true, forall_const, undef, InI, ↓reduceIte, simprocAttr, c84_3, c84_2, c84_1, RnF, RnH, eB, c1, w3, w4, h1, h2]
                exact rng_next (n := 2) (j := 1) (by omega) (weak_eq [] [(0, 38)] (RnF l t (nxK t B0 x 2) j [(9, .own (0, 38) 0 0 2), (10, di 2)]) (by simp (config := { maxSteps := 500000 }) only [↓vp, vv, implies_true, forall_const, undef, InI, ↓reduceIte, simprocAttr, coverS, RnF, RnH, Tro.row, ev, c1, w3, w4]) (by simp (config := { maxSteps := 500000 }) only [↓vp, vv, implies_true, forall_const, undef, InI, ↓reduceIte, simprocAttr, refsF, RnF, RnH, Tro.row, ev, c1, w3, w4]) (by simp (config := { maxSteps := 500000 }) only [↓vp, vv, implies_true, forall_const, undef, InI, ↓reduceIte, simprocAttr, RnF, RnH, Tro.row, ev, c1, w3, w4]) (by simp) (by simp (config := { maxSteps := 500000 }) only [↓vp, vv, implies_true, forall_const, undef, InI, ↓reduceIte, simprocAttr, RnF, RnH, Tro.row, ev, c1, w3, w4]; try rfl)) trivial
          · have ev : nxK t B0 x 2 = (b, o) := by rw [e1]; simp [nxP, h1]
            simp (config := { maxSteps := 500000 }) only [↓vp, vv, implies_true, forall_const, undef, InI, ↓reduceIte, simprocAttr, c84_3, c84_2, c84_1, RnF, RnH, eB, c1, w3, w4, h1]
            exact rng_next (n := 2) (j := 1) (by omega) (weak_eq [] [(0, 38)] (RnF l t (nxK t B0 x 2) j [(9, .own (0, 38) 0 0 2), (10, di 2)]) (by simp (config := { maxSteps := 500000 }) only [↓vp, vv, implies_true, forall_const, undef, InI, ↓reduceIte, simprocAttr, coverS, RnF, RnH, Tro.row, ev, c1, w3, w4]) (by simp (config := { maxSteps := 500000 }) only [↓vp, vv, implies_true, forall_const, undef, InI, ↓reduceIte, simprocAttr, refsF, RnF, RnH, Tro.row, ev, c1, w3, w4]) (by simp (config := { maxSteps := 500000 }) only [↓vp, vv, implies_true, forall_const, undef, InI, ↓reduceIte, simprocAttr, RnF, RnH, Tro.row, ev, c1, w3, w4]) (by simp) (by simp (config := { maxSteps := 500000 }) only [↓vp, vv, implies_true, forall_const, undef, InI, ↓reduceIte, simprocAttr, RnF, RnH, Tro.row, ev, c1, w3, w4]; try rfl)) trivial
      · have e2 := nxK2 t B0 x
        rw [← e2] at hS
        generalize nxK t B0 x 2 = B2 at hS
        simp (config := { maxSteps := 500000 }) only [↓vp, vv, implies_true, forall_const, undef, InI, ↓reduceIte, simprocAttr, c84_3, c84_5, RnF, RnH, Int.lt_irrefl, w1]
        exact rng_next hj (weak_eq [] [] (RnF l t ((l.take (j + 1)).foldl (nxS t) (0, false)) (j + 1 : Nat) []) (by simp (config := { maxSteps := 500000 }) only [↓vp, vv, implies_true, forall_const, undef, InI, ↓reduceIte, simprocAttr, coverS, RnF, w1, hS]) (by simp (config := { maxSteps := 500000 }) only [↓vp, vv, implies_true, forall_const, undef, InI, ↓reduceIte, simprocAttr, refsF, RnF, w1, hS]) (by simp (config := { maxSteps := 500000 }) only [↓vp, vv, implies_true, forall_const, undef, InI, ↓reduceIte, simprocAttr, RnF, w1, hS]) (by simp) (by simp (config := { maxSteps := 500000 }) only [↓vp, vv, implies_true, forall_const, undef, InI, ↓reduceIte, simprocAttr, RnF, w1, hS]; try rfl)) trivial
  · rw [List.take_length]
    simp (config := { maxSteps := 500000 }) only [↓vp, vv, implies_true, forall_const, undef, InI, ↓reduceIte, simprocAttr, c84_7, c84_8, r84, RnF, Int.lt_irrefl, Pu, trNext]
end Go.Proofs.Ytfkhjkkhdfcnjaa
