
/- Flow: ends, amounts. -/
import Derived.Test.YtiaenojpbiahgaaFl2
import Derived.Test.YtiaenojpbiahgaaCodeF
namespace Go.Proofs.Ytiaenojpbiahgaa
open Go
set_option linter.unusedVariables false
set_option linter.unusedSimpArgs false
set_option maxRecDepth 100000

set_option maxHeartbeats 4000000 in
theorem fends_c (s : Seg) (r : Int) (nn : Nm) : CallsA Try.prog 92 [.agg s.row, di r] Hp.none nn (Pu (.tup [di (frOf (s, r)), di (toOf (s, r))]) Hp.none) := by
  obtain ⟨code, h1, h2⟩ := c92_ok
  refine callsA_of (T0_ok _) mixed (N := fun t => (0, t)) Try.func92 h1 h2 r92_ok [] false js_nil js_nil' (by simp [Try.f92]) ?_
  by_cases a1 : r < 0 <;> simp (config := { maxSteps := 500000 }) only [↓vp, vv, implies_true, forall_const, undef, InI, ↓reduceIte, simprocAttr, c92, r92, c92_1, Seg.row, a1, Pu, frOf, toOf]
def withB (r m : Int) : Bool := if -m ≤ r then decide (r ≤ m) else false
set_option maxHeartbeats 4000000 in
theorem within_c (r m : Int) (hm : -1000000 ≤ m ∧ m ≤ 1000000) (nn : Nm) : CallsA Try.prog 67 [di r, di m] Hp.none nn (Pu (db (withB r m)) Hp.none) := by
  obtain ⟨code, h1, h2⟩ := c67_ok
  refine callsA_of (T0_ok _) mixed (N := fun t => (0, t)) Try.func67 h1 h2 r67_ok [] false js_nil js_nil' (by simp [Try.f67]) ?_
  have w1 : IntKind.i64.wrap (0 - m) = -m := by rw [wrap_i (by omega)]; omega
  by_cases a1 : -m ≤ r <;> simp (config := { maxSteps := 500000 }) only [↓vp, vv, implies_true, forall_const, undef, InI, ↓reduceIte, simprocAttr, c67, r67, w1, a1, Pu, withB]
/-- The amounts, with a flow more. -/
def addM (M : List Int) (f t r : Int) : List Int :=
  (fun M1 : List Int => if 0 ≤ t then M1.set t.toNat (M1.getD t.toNat 0 + r) else M1) (if 0 ≤ f then M.set (24 + f.toNat) (M.getD (24 + f.toNat) 0 + r) else M)
def addF (M : List Int) (f t r : Int) : List Int := if r < 0 then addM M t f (-r) else addM M f t r
theorem getDi (M : List Int) (k : Nat) (h : k < M.length) : (M.map di).getD k .any = di (M.getD k 0) := by
  rw [List.getD_eq_getElem?_getD, List.getD_eq_getElem?_getD, List.getElem?_map, List.getElem?_eq_getElem h]; rfl
theorem setDi (M : List Int) (k : Nat) (x : Int) : (M.map di).set k (di x) = (M.set k x).map di := (List.map_set ..).symm
theorem refs_di (js : List Nm) : ∀ M : List Int, refsInL js (M.map di) = true
  | [] => rfl
  | x :: M => by rw [List.map_cons, refsInL, refs_di js M]; rfl
theorem nms_di : ∀ M : List Int, nmsL (M.map di) = []
  | [] => rfl
  | x :: M => by rw [List.map_cons, nmsL, nms_di M]; rfl
theorem done_di : ∀ M : List Int, doneL (M.map di) = true
  | [] => rfl
  | x :: M => by rw [List.map_cons, doneL, done_di M]; rfl
theorem di_done (H : Hp) (M : List Int) : (M.map di).map (lend1 H) = M.map di ∧ (M.map di).flatMap (lendNm1 H) = [] ∧ lendOkL H (M.map di) = True := ⟨(doneR H [] (done_di M)).1, (doneR H [] (done_di M)).2.1, (doneR H [] (done_di M)).2.2.1⟩
set_option maxHeartbeats 8000000 in
theorem add_c (i : Nm) (M : List Int) (f t r : Int) (hM : M.length = 48) (hb : ∀ k, k < 48 → -1000000000 ≤ M.getD k 0 ∧ M.getD k 0 ≤ 1000000000) (hf : -1 ≤ f ∧ f < 24) (ht : -1 ≤ t ∧ t < 24) (hr : -1000000 ≤ r ∧ r ≤ 1000000) (nn : Nm) :
    CallsA Try.prog 94 [.ptr i 0 0 0, di f, di t, di r] (Hp.none.put i ⟨0, 48, [M.map di]⟩) nn (Pu (.tup []) (Hp.none.put i ⟨0, 48, [(addF M f t r).map di]⟩)) := by
  obtain ⟨code, h1, h2⟩ := c94_ok
  refine callsA_of (T0_ok _) mixed (N := fun t => (i.1 + 1, t)) Try.func94 h1 h2 r94_ok [i] false js_one js_one' (by simp [Try.f94]) ?_
  have key : ∀ f t r : Int, -1 ≤ f ∧ f < 24 → -1 ≤ t ∧ t < 24 → 0 ≤ r ∧ r ≤ 1000000 → ∀ F : Fr, F 0 = .ptr i 0 0 0 → F 1 = di f → F 2 = di t → F 3 = di r →
      vc T0 (fun t => (i.1 + 1, t)) [i] c94_2 (finQ r94 [i] false (Pu (.tup []) (Hp.none.put i ⟨0, 48, [(addM M f t r).map di]⟩))) ⟨F, Hp.none.put i ⟨0, 48, [M.map di]⟩⟩ := by
    intro f t r hf ht hr F f0 f1 f2 f3
    have key2 : ∀ (M : List Int), M.length = 48 → (∀ k, k < 24 → -2000000000 ≤ M.getD k 0 ∧ M.getD k 0 ≤ 2000000000) → ∀ F : Fr, F 0 = .ptr i 0 0 0 → F 2 = di t → F 3 = di r →
        vc T0 (fun t => (i.1 + 1, t)) [i] c94_1 (finQ r94 [i] false (Pu (.tup []) (Hp.none.put i ⟨0, 48, [(if 0 ≤ t then M.set t.toNat (M.getD t.toNat 0 + r) else M).map di]⟩))) ⟨F, Hp.none.put i ⟨0, 48, [M.map di]⟩⟩ := by
      intro M hM hb F f0 f2 f3
      by_cases a1 : 0 ≤ t
      · have a2 : t.toNat < 24 := by omega
        have w := hb t.toNat a2
        have w1 : IntKind.i64.wrap (M.getD t.toNat 0 + r) = M.getD t.toNat 0 + r := wrap_i (by omega)
        have g := getDi M t.toNat (by omega)
        have a3 : t < 24 := by omega
        have a4 : t.toNat + 1 ≤ 48 := by omega
        simp (config := { maxSteps := 500000 }) only [↓vp, vv, implies_true, forall_const, undef, InI, ↓reduceIte, simprocAttr, c94_1, r94, f0, f2, f3, a1, a3, a4, hM, g, w1, Nat.mul_one, setDi, refs_di, Pu]
      · simp (config := { maxSteps := 500000 }) only [↓vp, vv, implies_true, forall_const, undef, InI, ↓reduceIte, simprocAttr, c94_1, r94, f0, f2, f3, a1, refs_di, Pu]
    by_cases a1 : 0 ≤ f
    · have a2 : f.toNat < 24 := by omega
      have w := hb (24 + f.toNat) (by omega)
      have w1 : IntKind.i64.wrap (M.getD (24 + f.toNat) 0 + r) = M.getD (24 + f.toNat) 0 + r := wrap_i (by omega)
      have g := getDi M (24 + f.toNat) (by omega)
      have a3 : f < 24 := by omega
      have a4 : 24 + f.toNat + 1 ≤ 48 := by omega
      have e : addM M f t r = if 0 ≤ t then (M.set (24 + f.toNat) (M.getD (24 + f.toNat) 0 + r)).set t.toNat ((M.set (24 + f.toNat) (M.getD (24 + f.toNat) 0 + r)).getD t.toNat 0 + r) else M.set (24 + f.toNat) (M.getD (24 + f.toNat) 0 + r) := by unfold addM; rw [if_pos a1]
      rw [e]
      simp (config := { maxSteps := 500000 }) only [↓vp, vv, implies_true, forall_const, undef, InI, ↓reduceIte, simprocAttr, c94_2, f0, f1, f2, f3, a1, a3, a4, hM, g, w1, Nat.mul_one, setDi]
      refine key2 (M.set (24 + f.toNat) (M.getD (24 + f.toNat) 0 + r)) (by rw [List.length_set]; exact hM) (fun k hk => ?_) _ ?_ ?_ ?_
      · rw [List.getD_eq_getElem?_getD, List.getElem?_set_ne (by omega), ← List.getD_eq_getElem?_getD]
        have := hb k (by omega); omega
      · simp (config := { maxSteps := 500000 }) only [↓vp, vv, implies_true, forall_const, undef, InI, ↓reduceIte, simprocAttr, f0]
      · simp (config := { maxSteps := 500000 }) only [↓vp, vv, implies_true, forall_const, undef, InI, ↓reduceIte, simprocAttr, f2]
      · simp (config := { maxSteps := 500000 }) only [↓vp, vv, implies_true, forall_const, undef, InI, ↓reduceIte, simprocAttr, f3]
    · have e : addM M f t r = if 0 ≤ t then M.set t.toNat (M.getD t.toNat 0 + r) else M := by unfold addM; rw [if_neg a1]
      rw [e]
      simp (config := { maxSteps := 500000 }) only [↓vp, vv, implies_true, forall_const, undef, InI, ↓reduceIte, simprocAttr, c94_2, f0, f1, f2, f3, a1]
      refine key2 M hM (fun k hk => by have := hb k (by omega); omega) _ ?_ ?_ ?_
      · simp (config := { maxSteps := 500000 }) only [↓vp, vv, implies_true, forall_const, undef, InI, ↓reduceIte, simprocAttr, f0]
      · simp (config := { maxSteps := 500000 }) only [↓vp, vv, implies_true, forall_const, undef, InI, ↓reduceIte, simprocAttr, f2]
      · simp (config := { maxSteps := 500000 }) only [↓vp, vv, implies_true, forall_const, undef, InI, ↓reduceIte, simprocAttr, f3]
  by_cases a1 : r < 0
  · have w1 : IntKind.i64.wrap (0 - r) = -r := by rw [wrap_i (by omega)]; omega
    have e : addF M f t r = addM M t f (-r) := by unfold addF; rw [if_pos a1]
    rw [e]
    simp (config := { maxSteps := 500000 }) only [↓vp, vv, implies_true, forall_const, undef, InI, ↓reduceIte, simprocAttr, c94, a1, w1]
    refine key t f (-r) ht hf (by omega) _ ?_ ?_ ?_ ?_ <;> simp (config := { maxSteps := 500000 }) only [↓vp, vv, implies_true, forall_const, undef, InI, ↓reduceIte, simprocAttr, w1]
  · have e : addF M f t r = addM M f t r := by unfold addF; rw [if_neg a1]
    rw [e]
    simp (config := { maxSteps := 500000 }) only [↓vp, vv, implies_true, forall_const, undef, InI, ↓reduceIte, simprocAttr, c94, a1]
    refine key f t r hf ht (by omega) _ ?_ ?_ ?_ ?_ <;> simp (config := { maxSteps := 500000 }) only [↓vp, vv, implies_true, forall_const, undef, InI, ↓reduceIte, simprocAttr, ]
/-- The amounts of flows, in a row. -/
def amtM (T : List Fl) : List Int := amt comeOf T ++ amt leaveOf T
theorem amtM_len (T : List Fl) : (amtM T).length = 48 := by simp [amtM, amt]
theorem amtM_at (T : List Fl) (k : Nat) (h : k < 48) : (amtM T).getD k 0 = if k < 24 then sumI (comeOf (k : Int)) T else sumI (leaveOf ((k - 24 : Nat) : Int)) T := by
  have hl : (amt comeOf T).length = 24 := by simp [amt]
  unfold amtM
  rw [List.getD_eq_getElem?_getD]
  split
  · rename_i h1
    rw [List.getElem?_append_left (by omega)]
    simp [amt, h1]
  · rename_i h1
    rw [List.getElem?_append_right (by omega), hl]
    have : k - 24 < 24 := by omega
    simp [amt, this]
def FlIn (t : Fl) : Prop := (-1 ≤ t.1 ∧ t.1 < 24) ∧ (-1 ≤ t.2.1 ∧ t.2.1 < 24) ∧ -1000 ≤ t.2.2 ∧ t.2.2 ≤ 1000
theorem amtM_bd (T : List Fl) (hl : T.length ≤ 1000) (h : ∀ t ∈ T, FlIn t) (k : Nat) (hk : k < 48) : 0 ≤ (amtM T).getD k 0 ∧ (amtM T).getD k 0 ≤ 1000000 := by
  rw [amtM_at T k hk]
  split
  · have a := sumI_nn (f := comeOf (k : Int)) (l := T) fun x _ => come_nn _ x
    have b := sumI_le (f := comeOf (k : Int)) 1000 (l := T) fun x hx => come_le (h x hx).2.2
    omega
  · have a := sumI_nn (f := leaveOf ((k - 24 : Nat) : Int)) (l := T) fun x _ => leave_nn _ x
    have b := sumI_le (f := leaveOf ((k - 24 : Nat) : Int)) 1000 (l := T) fun x hx => leave_le (h x hx).2.2
    omega
theorem addM_len (M : List Int) (f t r : Int) : (addM M f t r).length = M.length := by
  unfold addM
  split <;> split <;> simp
theorem getD_set (M : List Int) (a k : Nat) (x : Int) (h : a < M.length) : (M.set a x).getD k 0 = if a = k then x else M.getD k 0 := by
  rw [List.getD_eq_getElem?_getD, List.getElem?_set, List.getD_eq_getElem?_getD]
  by_cases c : a = k
  · rw [if_pos c, if_pos h, if_pos c]; rfl
  · rw [if_neg c, if_neg c]
theorem addM_at (M : List Int) (hM : M.length = 48) (f t r : Int) (hf : -1 ≤ f ∧ f < 24) (ht : -1 ≤ t ∧ t < 24) (k : Nat) (hk : k < 48) : (addM M f t r).getD k 0 = M.getD k 0 + (if (k : Int) = t then r else 0) + (if (k : Int) = 24 + f ∧ 0 ≤ f then r else 0) := by
  unfold addM
  dsimp only
  by_cases a : 0 ≤ f
  · rw [if_pos a]
    have s1 : ∀ j, (M.set (24 + f.toNat) (M.getD (24 + f.toNat) 0 + r)).getD j 0 = if 24 + f.toNat = j then M.getD (24 + f.toNat) 0 + r else M.getD j 0 := fun j => getD_set _ _ _ _ (by omega)
    by_cases d : 24 + f.toNat = k
    · have d2 : (k : Int) = 24 + f ∧ 0 ≤ f := by omega
      have d3 : ¬ (k : Int) = t := by omega
      rw [if_pos d2, if_neg d3]
      by_cases b : 0 ≤ t
      · rw [if_pos b, getD_set _ _ _ _ (by rw [List.length_set]; omega), if_neg (by omega : ¬ t.toNat = k), s1, if_pos d, d]; omega
      · rw [if_neg b, s1, if_pos d, d]; omega
    · have d2 : ¬ ((k : Int) = 24 + f ∧ 0 ≤ f) := by omega
      rw [if_neg d2]
      by_cases b : 0 ≤ t
      · rw [if_pos b, getD_set _ _ _ _ (by rw [List.length_set]; omega)]
        by_cases c : t.toNat = k
        · have c2 : (k : Int) = t := by omega
          rw [if_pos c, if_pos c2, s1, if_neg (by omega : ¬ 24 + f.toNat = t.toNat), c]; omega
        · have c2 : ¬ (k : Int) = t := by omega
          rw [if_neg c, if_neg c2, s1, if_neg d]; omega
      · have c2 : ¬ (k : Int) = t := by omega
        rw [if_neg b, if_neg c2, s1, if_neg d]; omega
  · have d2 : ¬ ((k : Int) = 24 + f ∧ 0 ≤ f) := by omega
    rw [if_neg a, if_neg d2]
    by_cases b : 0 ≤ t
    · rw [if_pos b, getD_set _ _ _ _ (by omega)]
      by_cases c : t.toNat = k
      · have c2 : (k : Int) = t := by omega
        rw [if_pos c, if_pos c2, c]; omega
      · have c2 : ¬ (k : Int) = t := by omega
        rw [if_neg c, if_neg c2]; omega
    · have c2 : ¬ (k : Int) = t := by omega
      rw [if_neg b, if_neg c2]; omega
theorem addF_amt (T : List Fl) (t : Fl) (h : FlIn t) : addF (amtM T) t.1 t.2.1 t.2.2 = amtM (T ++ [t]) := by
  obtain ⟨f, g, r⟩ := t
  obtain ⟨h1, h2, h3⟩ := h
  dsimp only at h1 h2 h3 ⊢
  have hlen : (addF (amtM T) f g r).length = 48 := by
    unfold addF
    split <;> rw [addM_len, amtM_len]
  apply List.ext_getElem?
  intro k
  rcases Nat.lt_or_ge k 48 with hk | hk
  · have e : (addF (amtM T) f g r).getD k 0 = (amtM (T ++ [(f, g, r)])).getD k 0 := by
      rw [amtM_at _ k hk]
      unfold addF
      split
      · rename_i hr
        rw [addM_at _ (amtM_len T) _ _ _ h2 h1 k hk, amtM_at _ k hk]
        split
        · rw [sumI_snoc]
          unfold comeOf
          dsimp only
          rw [if_pos hr, if_neg (by omega : ¬ ((k : Int) = 24 + g ∧ 0 ≤ g))]
          by_cases c : (k : Int) = f
          · rw [if_pos c, if_pos c.symm]; omega
          · rw [if_neg c, if_neg (Ne.symm c)]; omega
        · rw [sumI_snoc]
          unfold leaveOf
          dsimp only
          rw [if_pos hr, if_neg (by omega : ¬ (k : Int) = f)]
          by_cases c : (k : Int) = 24 + g ∧ 0 ≤ g
          · rw [if_pos c, if_pos (by omega)]; omega
          · rw [if_neg c, if_neg (by omega)]; omega
      · rename_i hr
        rw [addM_at _ (amtM_len T) _ _ _ h1 h2 k hk, amtM_at _ k hk]
        split
        · rw [sumI_snoc]
          unfold comeOf
          dsimp only
          rw [if_neg hr, if_neg (by omega : ¬ ((k : Int) = 24 + f ∧ 0 ≤ f))]
          by_cases c : (k : Int) = g
          · rw [if_pos c, if_pos c.symm]; omega
          · rw [if_neg c, if_neg (Ne.symm c)]; omega
        · rw [sumI_snoc]
          unfold leaveOf
          dsimp only
          rw [if_neg hr, if_neg (by omega : ¬ (k : Int) = g)]
          by_cases c : (k : Int) = 24 + f ∧ 0 ≤ f
          · rw [if_pos c, if_pos (by omega)]; omega
          · rw [if_neg c, if_neg (by omega)]; omega
    have l1 : k < (addF (amtM T) f g r).length := by omega
    have l2 : k < (amtM (T ++ [(f, g, r)])).length := by rw [amtM_len]; exact hk
    rw [List.getD_eq_getElem?_getD, List.getD_eq_getElem?_getD, List.getElem?_eq_getElem l1, List.getElem?_eq_getElem l2] at e
    rw [List.getElem?_eq_getElem l1, List.getElem?_eq_getElem l2]
    exact congrArg some e
  · rw [List.getElem?_eq_none (by omega), List.getElem?_eq_none (by rw [amtM_len]; exact hk)]
end Go.Proofs.Ytiaenojpbiahgaa
