/- ToolStays: Fw1 Ti2. -/
import Derived.Test.YtadjhfjiimgddaaKw11
set_option linter.unusedSimpArgs false
set_option linter.unusedVariables false
set_option maxRecDepth 100000

/- Flow: ends, amounts. -/
/- Flow: ends, amounts. -/
namespace Go.Proofs.Ytadjhfjiimgddaa
open Go
set_option maxHeartbeats 4000000 in
theorem fends_c (s : Seg) (r : Int) (nn : Nm) : CallsA Try.prog 176 [.agg s.row, di r] Hp.none nn (Pu (.tup [di (frOf (s, r)), di (toOf (s, r))]) Hp.none) := by
 obtain ⟨code, h1, h2⟩ := c176_ok
 refine callsA_of (T0_ok _) mixed (N := fun t => (0, t)) Try.func176 h1 h2 r176_ok [] false js_nil js_nil' (by simp [Try.f176]) ?_
 by_cases a1 : r < 0 <;> simp (maxSteps:=500000) only [↓vp, vv, ↓reduceIte, simprocAttr, c176, r176, c176_1, Seg.row, a1, Pu, frOf, toOf]
def withB (r m : Int) : Bool := if -m ≤ r then decide (r ≤ m) else false
set_option maxHeartbeats 4000000 in
theorem within_c (r m : Int) (hm : -1000000 ≤ m ∧ m ≤ 1000000) (nn : Nm) : CallsA Try.prog 151 [di r, di m] Hp.none nn (Pu (db (withB r m)) Hp.none) := by
 obtain ⟨code, h1, h2⟩ := c151_ok
 refine callsA_of (T0_ok _) mixed (N := fun t => (0, t)) Try.func151 h1 h2 r151_ok [] false js_nil js_nil' (by simp [Try.f151]) ?_
 have w1 : IntKind.i64.wrap (0 - m) = -m := by rw [wrap_i (by omega)]; omega
 by_cases a1 : -m ≤ r <;> simp (maxSteps:=500000) only [↓vp, vv, ↓reduceIte, simprocAttr, c151, r151, w1, a1, Pu, withB]
def addM (M : List Int) (f t r : Int) : List Int :=
 (fun M1 : List Int => if 0 ≤ t then M1.set t.toNat (M1.getD t.toNat 0 + r) else M1) (if 0 ≤ f then M.set (24 + f.toNat) (M.getD (24 + f.toNat) 0 + r) else M)
def addF (M : List Int) (f t r : Int) : List Int := if r < 0 then addM M t f (-r) else addM M f t r
theorem getDi (M : List Int) (k : Nat) (h : k < M.length) : (M.map di).getD k .any = di (M.getD k 0) := by
 rw [List.getD_eq_getElem?_getD, List.getD_eq_getElem?_getD, List.getElem?_map, List.getElem?_eq_getElem h]; rfl
theorem setDi (M : List Int) (k : Nat) (x : Int) : (M.map di).set k (di x) = (M.set k x).map di := (List.map_set ..).symm
theorem refs_di (js : List Nm) : ∀ M : List Int, refsInL js (M.map di) = true
 | [] => rfl
 | x :: M => by rw [List.map_cons, refsInL, refs_di js M]; rfl
theorem nms_di : ∀ M : List Int, nmsL (M.map di) = []
 | [] => rfl
 | x :: M => by rw [List.map_cons, nmsL, nms_di M]; rfl
theorem done_di : ∀ M : List Int, doneL (M.map di) = true
 | [] => rfl
 | x :: M => by rw [List.map_cons, doneL, done_di M]; rfl
theorem di_done (H : Hp) (M : List Int) : (M.map di).map (lend1 H) = M.map di ∧ (M.map di).flatMap (lendNm1 H) = [] ∧ lendOkL H (M.map di) = True := ⟨(doneR H [] (done_di M)).1, (doneR H [] (done_di M)).2.1, (doneR H [] (done_di M)).2.2.1⟩
set_option maxHeartbeats 8000000 in
theorem add_c (i : Nm) (M : List Int) (f t r : Int) (hM : M.length = 48) (hb : ∀ k, k < 48 → -1000000000 ≤ M.getD k 0 ∧ M.getD k 0 ≤ 1000000000) (hf : -1 ≤ f ∧ f < 24) (ht : -1 ≤ t ∧ t < 24) (hr : -1000000 ≤ r ∧ r ≤ 1000000) (nn : Nm) :
  CallsA Try.prog 175 [.ptr i 0 0 0, di f, di t, di r] (Hp.none.put i ⟨0, 48, [M.map di]⟩) nn (Pu (.tup []) (Hp.none.put i ⟨0, 48, [(addF M f t r).map di]⟩)) := by
 obtain ⟨code, h1, h2⟩ := c175_ok
 refine callsA_of (T0_ok _) mixed (N := fun t => (i.1 + 1, t)) Try.func175 h1 h2 r175_ok [i] false js_one js_one' (by simp [Try.f175]) ?_
 have key : ∀ f t r : Int, -1 ≤ f ∧ f < 24 → -1 ≤ t ∧ t < 24 → 0 ≤ r ∧ r ≤ 1000000 → ∀ F : Fr, F 0 = .ptr i 0 0 0 → F 1 = di f → F 2 = di t → F 3 = di r →
   vc T0 (fun t => (i.1 + 1, t)) [i] c175_2 (finQ r175 [i] false (Pu (.tup []) (Hp.none.put i ⟨0, 48, [(addM M f t r).map di]⟩))) ⟨F, Hp.none.put i ⟨0, 48, [M.map di]⟩⟩ := by
  intro f t r hf ht hr F f0 f1 f2 f3
  have key2 : ∀ (M : List Int), M.length = 48 → (∀ k, k < 24 → -2000000000 ≤ M.getD k 0 ∧ M.getD k 0 ≤ 2000000000) → ∀ F : Fr, F 0 = .ptr i 0 0 0 → F 2 = di t → F 3 = di r →
    vc T0 (fun t => (i.1 + 1, t)) [i] c175_1 (finQ r175 [i] false (Pu (.tup []) (Hp.none.put i ⟨0, 48, [(if 0 ≤ t then M.set t.toNat (M.getD t.toNat 0 + r) else M).map di]⟩))) ⟨F, Hp.none.put i ⟨0, 48, [M.map di]⟩⟩ := by
   intro M hM hb F f0 f2 f3
   by_cases a1 : 0 ≤ t
   ·have a2 : t.toNat < 24 := by omega
    have w := hb t.toNat a2
    have w1 : IntKind.i64.wrap (M.getD t.toNat 0 + r) = M.getD t.toNat 0 + r := wrap_i (by omega)
    have g := getDi M t.toNat (by omega)
    have a3 : t < 24 := by omega
    have a4 : t.toNat + 1 ≤ 48 := by omega
    simp (maxSteps:=500000) only [↓vp, vv, ↓reduceIte, simprocAttr, c175_1, r175, f0, f2, f3, a1, a3, a4, hM, g, w1, Nat.mul_one, setDi, refs_di, Pu]
   ·simp (maxSteps:=500000) only [↓vp, vv, ↓reduceIte, simprocAttr, c175_1, r175, f0, f2, f3, a1, refs_di, Pu]
  by_cases a1 : 0 ≤ f
  ·have a2 : f.toNat < 24 := by omega
   have w := hb (24 + f.toNat) (by omega)
   have w1 : IntKind.i64.wrap (M.getD (24 + f.toNat) 0 + r) = M.getD (24 + f.toNat) 0 + r := wrap_i (by omega)
   have g := getDi M (24 + f.toNat) (by omega)
   have a3 : f < 24 := by omega
   have a4 : 24 + f.toNat + 1 ≤ 48 := by omega
   have e : addM M f t r = if 0 ≤ t then (M.set (24 + f.toNat) (M.getD (24 + f.toNat) 0 + r)).set t.toNat ((M.set (24 + f.toNat) (M.getD (24 + f.toNat) 0 + r)).getD t.toNat 0 + r) else M.set (24 + f.toNat) (M.getD (24 + f.toNat) 0 + r) := by unfold addM; rw [if_pos a1]
   rw [e]
   simp (maxSteps:=500000) only [↓vp, vv, ↓reduceIte, simprocAttr, c175_2, f0, f1, f2, f3, a1, a3, a4, hM, g, w1, Nat.mul_one, setDi]
   refine key2 (M.set (24 + f.toNat) (M.getD (24 + f.toNat) 0 + r)) (by rw [List.length_set]; exact hM) (fun k hk => ?_) _ ?_ ?_ ?_
   ·rw [List.getD_eq_getElem?_getD, List.getElem?_set_ne (by omega), ← List.getD_eq_getElem?_getD]
    have := hb k (by omega); omega
   ·simp (maxSteps:=500000) only [↓vp, vv, ↓reduceIte, simprocAttr, f0]
   ·simp (maxSteps:=500000) only [↓vp, vv, ↓reduceIte, simprocAttr, f2]
   ·simp (maxSteps:=500000) only [↓vp, vv, ↓reduceIte, simprocAttr, f3]
  ·have e : addM M f t r = if 0 ≤ t then M.set t.toNat (M.getD t.toNat 0 + r) else M := by unfold addM; rw [if_neg a1]
   rw [e]
   simp (maxSteps:=500000) only [↓vp, vv, ↓reduceIte, simprocAttr, c175_2, f0, f1, f2, f3, a1]
   refine key2 M hM (fun k hk => by have := hb k (by omega); omega) _ ?_ ?_ ?_
   ·simp (maxSteps:=500000) only [↓vp, vv, ↓reduceIte, simprocAttr, f0]
   ·simp (maxSteps:=500000) only [↓vp, vv, ↓reduceIte, simprocAttr, f2]
   ·simp (maxSteps:=500000) only [↓vp, vv, ↓reduceIte, simprocAttr, f3]
 by_cases a1 : r < 0
 ·have w1 : IntKind.i64.wrap (0 - r) = -r := by rw [wrap_i (by omega)]; omega
  have e : addF M f t r = addM M t f (-r) := by unfold addF; rw [if_pos a1]
  rw [e]
  simp (maxSteps:=500000) only [↓vp, vv, ↓reduceIte, simprocAttr, c175, a1, w1]
  refine key t f (-r) ht hf (by omega) _ ?_ ?_ ?_ ?_ <;> simp (maxSteps:=500000) only [↓vp, vv, ↓reduceIte, simprocAttr, w1]
 ·have e : addF M f t r = addM M f t r := by unfold addF; rw [if_neg a1]
  rw [e]
  simp (maxSteps:=500000) only [↓vp, vv, ↓reduceIte, simprocAttr, c175, a1]
  refine key f t r hf ht (by omega) _ ?_ ?_ ?_ ?_ <;> simp (maxSteps:=500000) only [↓vp, vv, ↓reduceIte, simprocAttr, ]
def amtM (T : List Fl) : List Int := amt comeOf T ++ amt leaveOf T
theorem amtM_len (T : List Fl) : (amtM T).length = 48 := by simp [amtM, amt]
theorem amtM_at (T : List Fl) (k : Nat) (h : k < 48) : (amtM T).getD k 0 = if k < 24 then sumI (comeOf (k : Int)) T else sumI (leaveOf ((k - 24 : Nat) : Int)) T := by
 have hl : (amt comeOf T).length = 24 := by simp [amt]
 unfold amtM
 rw [List.getD_eq_getElem?_getD]
 split
 ·rename_i h1
  rw [List.getElem?_append_left (by omega)]
  simp [amt, h1]
 ·rename_i h1
  rw [List.getElem?_append_right (by omega), hl]
  have : k - 24 < 24 := by omega
  simp [amt, this]
def FlIn (t : Fl) : Prop := (-1 ≤ t.1 ∧ t.1 < 24) ∧ (-1 ≤ t.2.1 ∧ t.2.1 < 24) ∧ -1000 ≤ t.2.2 ∧ t.2.2 ≤ 1000
theorem amtM_bd (T : List Fl) (hl : T.length ≤ 1000) (h : ∀ t ∈ T, FlIn t) (k : Nat) (hk : k < 48) : 0 ≤ (amtM T).getD k 0 ∧ (amtM T).getD k 0 ≤ 1000000 := by
 rw [amtM_at T k hk]
 split
 ·have a := sumI_nn (f := comeOf (k : Int)) (l := T) fun x _ => come_nn _ x
  have b := sumI_le (f := comeOf (k : Int)) 1000 (l := T) fun x hx => come_le (h x hx).2.2
  omega
 ·have a := sumI_nn (f := leaveOf ((k - 24 : Nat) : Int)) (l := T) fun x _ => leave_nn _ x
  have b := sumI_le (f := leaveOf ((k - 24 : Nat) : Int)) 1000 (l := T) fun x hx => leave_le (h x hx).2.2
  omega
theorem addM_len (M : List Int) (f t r : Int) : (addM M f t r).length = M.length := by
 unfold addM
 split <;> split <;> simp
theorem getD_set (M : List Int) (a k : Nat) (x : Int) (h : a < M.length) : (M.set a x).getD k 0 = if a = k then x else M.getD k 0 := by
 rw [List.getD_eq_getElem?_getD, List.getElem?_set, List.getD_eq_getElem?_getD]
 by_cases c : a = k
 ·rw [if_pos c, if_pos h, if_pos c]; rfl
 ·rw [if_neg c, if_neg c]
theorem addM_at (M : List Int) (hM : M.length = 48) (f t r : Int) (hf : -1 ≤ f ∧ f < 24) (ht : -1 ≤ t ∧ t < 24) (k : Nat) (hk : k < 48) : (addM M f t r).getD k 0 = M.getD k 0 + (if (k : Int) = t then r else 0) + (if (k : Int) = 24 + f ∧ 0 ≤ f then r else 0) := by
 unfold addM
 dsimp only
 by_cases a : 0 ≤ f
 ·rw [if_pos a]
  have s1 : ∀ j, (M.set (24 + f.toNat) (M.getD (24 + f.toNat) 0 + r)).getD j 0 = if 24 + f.toNat = j then M.getD (24 + f.toNat) 0 + r else M.getD j 0 := fun j => getD_set _ _ _ _ (by omega)
  by_cases d : 24 + f.toNat = k
  ·have d2 : (k : Int) = 24 + f ∧ 0 ≤ f := by omega
   have d3 : ¬ (k : Int) = t := by omega
   rw [if_pos d2, if_neg d3]
   by_cases b : 0 ≤ t
   ·rw [if_pos b, getD_set _ _ _ _ (by rw [List.length_set]; omega), if_neg (by omega : ¬ t.toNat = k), s1, if_pos d, d]; omega
   ·rw [if_neg b, s1, if_pos d, d]; omega
  ·have d2 : ¬ ((k : Int) = 24 + f ∧ 0 ≤ f) := by omega
   rw [if_neg d2]
   by_cases b : 0 ≤ t
   ·rw [if_pos b, getD_set _ _ _ _ (by rw [List.length_set]; omega)]
    by_cases c : t.toNat = k
    ·have c2 : (k : Int) = t := by omega
     rw [if_pos c, if_pos c2, s1, if_neg (by omega : ¬ 24 + f.toNat = t.toNat), c]; omega
    ·have c2 : ¬ (k : Int) = t := by omega
     rw [if_neg c, if_neg c2, s1, if_neg d]; omega
   ·have c2 : ¬ (k : Int) = t := by omega
    rw [if_neg b, if_neg c2, s1, if_neg d]; omega
 ·have d2 : ¬ ((k : Int) = 24 + f ∧ 0 ≤ f) := by omega
  rw [if_neg a, if_neg d2]
  by_cases b : 0 ≤ t
  ·rw [if_pos b, getD_set _ _ _ _ (by omega)]
   by_cases c : t.toNat = k
   ·have c2 : (k : Int) = t := by omega
    rw [if_pos c, if_pos c2, c]; omega
   ·have c2 : ¬ (k : Int) = t := by omega
    rw [if_neg c, if_neg c2]; omega
  ·have c2 : ¬ (k : Int) = t := by omega
   rw [if_neg b, if_neg c2]; omega
theorem addF_amt (T : List Fl) (t : Fl) (h : FlIn t) : addF (amtM T) t.1 t.2.1 t.2.2 = amtM (T ++ [t]) := by
 obtain ⟨f, g, r⟩ := t
 obtain ⟨h1, h2, h3⟩ := h
 dsimp only at h1 h2 h3 ⊢
 have hlen : (addF (amtM T) f g r).length = 48 := by
  unfold addF
  split <;> rw [addM_len, amtM_len]
 apply List.ext_getElem?
 intro k
 rcases Nat.lt_or_ge k 48 with hk | hk
 ·have e : (addF (amtM T) f g r).getD k 0 = (amtM (T ++ [(f, g, r)])).getD k 0 := by
   rw [amtM_at _ k hk]
   unfold addF
   split
   ·rename_i hr
    rw [addM_at _ (amtM_len T) _ _ _ h2 h1 k hk, amtM_at _ k hk]
    split
    ·rw [sumI_snoc]
     unfold comeOf
     dsimp only
     rw [if_pos hr, if_neg (by omega : ¬ ((k : Int) = 24 + g ∧ 0 ≤ g))]
     by_cases c : (k : Int) = f
     ·rw [if_pos c, if_pos c.symm]; omega
     ·rw [if_neg c, if_neg (Ne.symm c)]; omega
    ·rw [sumI_snoc]
     unfold leaveOf
     dsimp only
     rw [if_pos hr, if_neg (by omega : ¬ (k : Int) = f)]
     by_cases c : (k : Int) = 24 + g ∧ 0 ≤ g
     ·rw [if_pos c, if_pos (by omega)]; omega
     ·rw [if_neg c, if_neg (by omega)]; omega
   ·rename_i hr
    rw [addM_at _ (amtM_len T) _ _ _ h1 h2 k hk, amtM_at _ k hk]
    split
    ·rw [sumI_snoc]
     unfold comeOf
     dsimp only
     rw [if_neg hr, if_neg (by omega : ¬ ((k : Int) = 24 + f ∧ 0 ≤ f))]
     by_cases c : (k : Int) = g
     ·rw [if_pos c, if_pos c.symm]; omega
     ·rw [if_neg c, if_neg (Ne.symm c)]; omega
    ·rw [sumI_snoc]
     unfold leaveOf
     dsimp only
     rw [if_neg hr, if_neg (by omega : ¬ (k : Int) = g)]
     by_cases c : (k : Int) = 24 + f ∧ 0 ≤ f
     ·rw [if_pos c, if_pos (by omega)]; omega
     ·rw [if_neg c, if_neg (by omega)]; omega
  have l1 : k < (addF (amtM T) f g r).length := by omega
  have l2 : k < (amtM (T ++ [(f, g, r)])).length := by rw [amtM_len]; exact hk
  rw [List.getD_eq_getElem?_getD, List.getD_eq_getElem?_getD, List.getElem?_eq_getElem l1, List.getElem?_eq_getElem l2] at e
  rw [List.getElem?_eq_getElem l1, List.getElem?_eq_getElem l2]
  exact congrArg some e
 ·rw [List.getElem?_eq_none (by omega), List.getElem?_eq_none (by rw [amtM_len]; exact hk)]
def idsOf : List D → Option (List Int)
 | [] => some []
 | .v (.int .i64 n) :: l => match idsOf l with
  | some ns => some (n :: ns)
  | Option.none => Option.none
 | _ => Option.none
theorem idsOf_map : ∀ (M : List Int), idsOf (M.map di) = some M
 | [] => rfl
 | n :: M => by rw [List.map_cons, idsOf, idsOf_map M]
def AddPre (M : List Int) (f t r : Int) : Prop := M.length = 48 ∧ (∀ k, k < 48 → -1000000000 ≤ M.getD k 0 ∧ M.getD k 0 ≤ 1000000000) ∧ (-1 ≤ f ∧ f < 24) ∧ (-1 ≤ t ∧ t < 24) ∧ -1000000 ≤ r ∧ r ≤ 1000000
def rowAdd : List D → Hp → Nm → Option (Prop × (D → Hp → Prop)) := fun args Hs nn =>
 match args with
 | [.ptr i g r c, .v (.int .i64 a), .v (.int .i64 b), .v (.int .i64 k)] => match Hs i with
  | some ⟨_, _, [row]⟩ => match idsOf row with
   | some M => some ((Hs = Hp.none.put i ⟨0, 48, [M.map di]⟩ ∧ g = 0 ∧ r = 0 ∧ c = 0) ∧ AddPre M a b k, Pu (.tup []) (Hp.none.put i ⟨0, 48, [(addF M a b k).map di]⟩))
   | Option.none => Option.none
  | _ => Option.none
 | _ => Option.none
theorem tc_add {T : Tbl} (hT : TblOk Try.prog T) : TblOk Try.prog (tc 175 rowAdd T) :=
 tc_row f175_ok (fun args Hs nn pre R hr hp => by
  unfold rowAdd at hr
  split at hr
  ·split at hr
   ·split at hr
    ·cases hr
     obtain ⟨⟨rfl, rfl, rfl, rfl⟩, h1, h2, h3, h4, h5⟩ := hp
     exact ⟨⟨_, _, rfl, rfl⟩, add_c _ _ _ _ _ h1 h2 h3 h4 h5 nn⟩
    ·cases hr
   ·cases hr
  ·cases hr) hT
structure FlOk (n : Net) (p : Pln) : Prop where
 sl : n.segs.length ≤ 32
 ql : n.ports.length ≤ 24
 rl : p.rates.length = n.segs.length
 pl : p.ports.length = n.ports.length
 fl : ∀ t ∈ flowsOf n p, FlIn t
def zeros : List D := [di 0, di 0, di 0, di 0, di 0, di 0, di 0, di 0, di 0, di 0, di 0, di 0, di 0, di 0, di 0, di 0, di 0, di 0, di 0, di 0, di 0, di 0, di 0, di 0, di 0, di 0, di 0, di 0, di 0, di 0, di 0, di 0, di 0, di 0, di 0, di 0, di 0, di 0, di 0, di 0, di 0, di 0, di 0, di 0, di 0, di 0, di 0, di 0]
theorem put_all {row ds : List D} (h : ds.length = row.length) : put1 row 0 ds = ds := by
 rw [put1_eq row 0 ds (by omega), List.take_zero, List.drop_of_length_le (by omega)]
 simp
def HS (n : Net) (p : Pln) (T : List Fl) : Hp := (((Hp.none.put (0, 5) ⟨0, 48, [(amtM T).map di]⟩).put (0, 4) ⟨0, 48, [zeros]⟩).put (0, 3) ⟨0, 3, [plnD p]⟩).put (0, 2) ⟨0, 6, [netD n]⟩
def HS2 (p : Pln) (T : List Fl) : Hp := ((Hp.none.put (0, 5) ⟨0, 48, [(amtM T).map di]⟩).put (0, 4) ⟨0, 48, [zeros]⟩).put (0, 3) ⟨0, 3, [plnD p]⟩
theorem zip_take {α β γ : Type} (f : α → β → γ) : ∀ {l : List α} {m : List β} {j : Nat} (h1 : j < l.length) (h2 : j < m.length), List.zipWith f (l.take (j + 1)) (m.take (j + 1)) = List.zipWith f (l.take j) (m.take j) ++ [f l[j] m[j]]
 | x :: l, y :: m, 0, _, _ => by simp
 | x :: l, y :: m, j + 1, h1, h2 => by
  have := zip_take f (l := l) (m := m) (j := j) (by simpa using h1) (by simpa using h2)
  simp only [List.take_succ_cons, List.zipWith_cons_cons, this, List.cons_append, List.getElem_cons_succ]
theorem zip_mem {α β γ : Type} (f : α → β → γ) : ∀ {l : List α} {m : List β} {j : Nat} (h1 : j < l.length) (h2 : j < m.length), f l[j] m[j] ∈ List.zipWith f l m
 | x :: l, y :: m, 0, _, _ => by simp
 | x :: l, y :: m, j + 1, h1, h2 => by
  simp only [List.getElem_cons_succ, List.zipWith_cons_cons]
  exact List.mem_cons_of_mem _ (zip_mem f (by simpa using h1) (by simpa using h2))
theorem zip_sub {α β γ : Type} (f : α → β → γ) : ∀ (l : List α) (m : List β) (j : Nat) (x : γ), x ∈ List.zipWith f (l.take j) (m.take j) → x ∈ List.zipWith f l m
 | [], m, j, x, h => by simp at h
 | a :: l, [], j, x, h => by simp at h
 | a :: l, b :: m, 0, x, h => by simp at h
 | a :: l, b :: m, j + 1, x, h => by
  simp only [List.take_succ_cons, List.zipWith_cons_cons, List.mem_cons] at h ⊢
  exact h.imp id (zip_sub f l m j x)
theorem iRow_at (R : List Int) (j : Nat) (h : j < R.length) : (R.map iRow).getD j [] = [di R[j]] := by rw [getD_map iRow R j h]; rfl
set_option maxHeartbeats 16000000 in
theorem sums_c (n : Net) (p : Pln) (hF : FlOk n p) (nn : Nm) : CallsA Try.prog 153 [n.enc, p.enc] Hp.none nn (Pu (.agg ((amtM (flowsOf n p)).map di)) Hp.none) := by
 obtain ⟨code, h1, h2⟩ := c153_ok
 refine callsA_of (tc_add (T0_ok _)) mixed (N := fun t => (0, t)) Try.func153 h1 h2 r153_ok [] false js_nil js_nil' (by simp [Try.f153]) ?_
 obtain ⟨s1, s2, s3, s4, s5⟩ := hF
 have bound : ∀ T, T.length ≤ 100 → (∀ t ∈ T, FlIn t) → ∀ k, k < 48 → -1000000000 ≤ (amtM T).getD k 0 ∧ (amtM T).getD k 0 ≤ 1000000000 := fun T hl h k hk => by
  have := amtM_bd T (by omega) h k hk
  omega
 simp (maxSteps:=500000) only [↓vp, vv, ↓reduceIte, simprocAttr, c153, Net.enc, Pln.enc, plnD]
 refine rng_loop n.segs.length (fun j => ⟨fr [(2, .ptr (0, 2) 0 0 0), (3, .ptr (0, 3) 0 0 0), (4, .ptr (0, 4) 0 0 0), (5, .ptr (0, 5) 0 0 0), (11, .sl (n.segs.map Seg.row)), (12, di n.segs.length), (13, di j)], HS n p (List.zipWith segFl (n.segs.take j) (p.rates.take j))⟩) (fun j => True) (weak_eqA [] [(0, 2), (0, 3), (0, 4), (0, 5)] [(2, .ptr (0, 2) 0 0 0), (3, .ptr (0, 3) 0 0 0), (4, .ptr (0, 4) 0 0 0), (5, .ptr (0, 5) 0 0 0), (11, .sl (n.segs.map Seg.row)), (12, di n.segs.length), (13, di 0)] (by refine ⟨?_, ?_, ?_, by simp, ?_⟩ <;> (simp only [↓vp, vv, ↓reduceIte, simprocAttr, coverS, refsF, HS, netD, plnD, zeros] <;> try rfl))) trivial (fun j hj _ => ?_) (fun _ => ?_)
 ·have hj' : (j : Int) < n.segs.length := by omega
  have hn := idx_nn j
  have w1 := idx_next (j := j) (by omega)
  have hr : j < p.rates.length := by omega
  have hr' : (j : Int) < p.rates.length := by omega
  have hg := getD_map Seg.row n.segs j hj
  have hg2 := iRow_at p.rates j hr
  have hT := zip_take segFl hj hr
  have hi : FlIn (segFl n.segs[j] p.rates[j]) := s5 _ (List.mem_append_left _ (zip_mem segFl hj hr))
  have hb := bound (List.zipWith segFl (n.segs.take j) (p.rates.take j)) (by rw [List.length_zipWith, List.length_take]; omega) fun t ht => s5 t (List.mem_append_left _ (zip_sub segFl _ _ j t ht))
  have ha := addF_amt (List.zipWith segFl (n.segs.take j) (p.rates.take j)) _ hi
  rw [← hT] at ha
  generalize List.zipWith segFl (n.segs.take j) (p.rates.take j) = T at hb ha
  have hpre : AddPre (amtM T) n.segs[j].fr n.segs[j].to p.rates[j] := ⟨amtM_len T, hb, hi.1, hi.2.1, by have := hi.2.2; unfold segFl at this; dsimp only at this; omega, by have := hi.2.2; unfold segFl at this; dsimp only at this; omega⟩
  unfold segFl at ha
  dsimp only at ha
  generalize n.segs[j] = s at hg ha hpre
  generalize p.rates[j] = r at hg2 ha hpre
  simp (maxSteps:=500000) only [↓vp, vv, ↓reduceIte, simprocAttr, c153, r153, c153_1, c153_2, c153_3, c153_4, c153_5, c153_6, refs_di, nms_di, HS, netD, plnD, rowAdd, idsOf_map, hj', hr', hn, Int.toNat_natCast, hg, hg2, Seg.row, w1, ha, hpre]
  exact rng_next hj (weak_eqA [] [(0, 2), (0, 3), (0, 4), (0, 5)] [(2, .ptr (0, 2) 0 0 0), (3, .ptr (0, 3) 0 0 0), (4, .ptr (0, 4) 0 0 0), (5, .ptr (0, 5) 0 0 0), (11, .sl (n.segs.map Seg.row)), (12, di n.segs.length), (13, di (j + 1 : Nat))] (by refine ⟨?_, ?_, ?_, by simp, ?_⟩ <;> (simp only [↓vp, vv, ↓reduceIte, simprocAttr, coverS, refsF, HS, netD, plnD, zeros, w1, refs_di] <;> try rfl))) trivial
 ·simp (maxSteps:=500000) only [↓vp, vv, ↓reduceIte, simprocAttr, c153, r153, c153_1, c153_2, c153_3, c153_4, c153_5, c153_6, refs_di, nms_di, HS, netD, plnD, Int.lt_irrefl]
  have hTs : List.zipWith segFl (n.segs.take n.segs.length) (p.rates.take n.segs.length) = List.zipWith segFl n.segs p.rates := by rw [List.take_length, ← s3, List.take_length]
  rw [hTs]
  refine rng_loop n.ports.length (fun j => ⟨fr [(3, .ptr (0, 3) 0 0 0), (4, .ptr (0, 4) 0 0 0), (5, .ptr (0, 5) 0 0 0), (30, .sl (n.ports.map Port.row)), (31, di n.ports.length), (32, di j)], HS2 p (List.zipWith segFl n.segs p.rates ++ List.zipWith portFl (n.ports.take j) (p.ports.take j))⟩) (fun j => True) (weak_eqA [] [(0, 3), (0, 4), (0, 5)] [(3, .ptr (0, 3) 0 0 0), (4, .ptr (0, 4) 0 0 0), (5, .ptr (0, 5) 0 0 0), (30, .sl (n.ports.map Port.row)), (31, di n.ports.length), (32, di 0)] (by refine ⟨?_, ?_, ?_, by simp, ?_⟩ <;> (simp only [↓vp, vv, ↓reduceIte, simprocAttr, coverS, refsF, HS2, netD, plnD, zeros, refs_di, List.zipWith_nil_left] <;> try rfl))) trivial (fun j hj _ => ?_) (fun _ => ?_)
  ·have hj' : (j : Int) < n.ports.length := by omega
   have hn := idx_nn j
   have w1 := idx_next (j := j) (by omega)
   have hr : j < p.ports.length := by omega
   have hr' : (j : Int) < p.ports.length := by omega
   have hg := getD_map Port.row n.ports j hj
   have hg2 := iRow_at p.ports j hr
   have hT := zip_take portFl hj hr
   have hi : FlIn (portFl n.ports[j] p.ports[j]) := s5 _ (List.mem_append_right _ (zip_mem portFl hj hr))
   have hb := bound (List.zipWith segFl n.segs p.rates ++ List.zipWith portFl (n.ports.take j) (p.ports.take j)) (by rw [List.length_append, List.length_zipWith, List.length_zipWith, List.length_take]; omega) fun t ht => by
    rcases List.mem_append.1 ht with ht | ht
    ·exact s5 t (List.mem_append_left _ ht)
    ·exact s5 t (List.mem_append_right _ (zip_sub portFl _ _ j t ht))
   have ha := addF_amt (List.zipWith segFl n.segs p.rates ++ List.zipWith portFl (n.ports.take j) (p.ports.take j)) _ hi
   rw [List.append_assoc, ← hT] at ha
   generalize List.zipWith segFl n.segs p.rates ++ List.zipWith portFl (n.ports.take j) (p.ports.take j) = T at hb ha
   have hpre : AddPre (amtM T) (-1) n.ports[j].node p.ports[j] := ⟨amtM_len T, hb, by omega, hi.2.1, by have := hi.2.2; unfold portFl at this; dsimp only at this; omega, by have := hi.2.2; unfold portFl at this; dsimp only at this; omega⟩
   unfold portFl at ha
   dsimp only at ha
   generalize n.ports[j] = s at hg ha hpre
   generalize p.ports[j] = r at hg2 ha hpre
   simp (maxSteps:=500000) only [↓vp, vv, ↓reduceIte, simprocAttr, c153, r153, c153_1, c153_2, c153_3, c153_4, c153_5, c153_6, refs_di, nms_di, HS2, plnD, rowAdd, idsOf_map, hj', hr', hn, Int.toNat_natCast, hg, hg2, Port.row, w1, ha, hpre]
   exact rng_next hj (weak_eqA [] [(0, 3), (0, 4), (0, 5)] [(3, .ptr (0, 3) 0 0 0), (4, .ptr (0, 4) 0 0 0), (5, .ptr (0, 5) 0 0 0), (30, .sl (n.ports.map Port.row)), (31, di n.ports.length), (32, di (j + 1 : Nat))] (by refine ⟨?_, ?_, ?_, by simp, ?_⟩ <;> (simp only [↓vp, vv, ↓reduceIte, simprocAttr, coverS, refsF, HS2, netD, plnD, zeros, w1, refs_di] <;> try rfl))) trivial
  ·have hTs : List.zipWith segFl n.segs p.rates ++ List.zipWith portFl (n.ports.take n.ports.length) (p.ports.take n.ports.length) = flowsOf n p := by rw [List.take_length, ← s4, List.take_length]; rfl
   rw [hTs]
   generalize flowsOf n p = T
   have hl := amtM_len T
   have ht : ((amtM T).map di).take 48 = (amtM T).map di := List.take_of_length_le (by rw [List.length_map, hl]; exact Nat.le_refl _)
   simp (maxSteps:=500000) only [↓vp, vv, ↓reduceIte, simprocAttr, c153, r153, c153_1, c153_2, c153_3, c153_4, c153_5, c153_6, refs_di, nms_di, HS2, plnD, zeros, Int.lt_irrefl, hl, ht, put_all, di_done, Pu]
def nRow (k : Nat) : List D := [di (k : Int)]
def selEnds : List D → Option (Prop × D)
 | [.agg r, .v (.int .i64 k)] => match segOf1 r with
  | some s => some (True, .tup [di (frOf (s, k)), di (toOf (s, k))])
  | Option.none => Option.none
 | _ => Option.none
def TO : Tbl := tc 176 (rowPu selEnds) T0
theorem TO_ok : TblOk Try.prog TO := by
 refine tc_pu f176_ok (fun args pre d h hp nn => ?_) (T0_ok _)
 unfold selEnds at h
 split at h
 ·split at h
  ·rename_i hs
   cases h
   rw [segOf1_eq hs]
   exact fends_c _ _ nn
  ·cases h
 ·cases h
def HO (n : Net) (p : Pln) (g : Nat) (out : List Nat) (th : List Bool) : Hp := (((Hp.none.put (0, 1000) ⟨g, 1, out.map nRow⟩).put (0, 15) ⟨0, 1, th.map bRow⟩).put (0, 3) ⟨0, 3, [plnD p]⟩).put (0, 2) ⟨0, 6, [netD n]⟩
def FrO (g : Nat) (out : List Nat) (th : List Bool) (k : Int) (l : List (Nat × D)) : List (Nat × D) := (2, .ptr (0, 2) 0 0 0) :: (3, .ptr (0, 3) 0 0 0) :: (5, .own (0, 1000) g 0 out.length) :: (6, .own (0, 15) 0 0 th.length) :: (7, di k) :: l
structure OI (n : Net) (p : Pln) (th : List Bool) (out : List Nat) (k : Nat) : Prop where
 tl : th.length = n.nodes.length
 kl : k ≤ n.nodes.length
 cnt : cntF th + out.length = n.nodes.length
 res : ordL (n.segs.zip p.rates) (cntF th) th out = ordB n p
 no : ∀ j, j < k → pickB (n.segs.zip p.rates) th j = false
def OInv (n : Net) (p : Pln) (m : Nat) (s : St) : Prop := ∃ th out k g, OI n p th out k ∧ m = cntF th * (n.nodes.length + 1) + (n.nodes.length - k) ∧ s = ⟨fr (FrO g out th k []), HO n p g out th⟩
theorem OI.skip {n : Net} {p : Pln} {th : List Bool} {out : List Nat} {k : Nat} (h : OI n p th out k) (hk : k < n.nodes.length) (hp : pickB (n.segs.zip p.rates) th k = false) : OI n p th out (k + 1) :=
 ⟨h.tl, hk, h.cnt, h.res, fun j hj => by
  rcases Nat.lt_or_ge j k with h1 | h1
  ·exact h.no j h1
  ·obtain rfl : j = k := by omega
   exact hp⟩
theorem OI.pick {n : Net} {p : Pln} {th : List Bool} {out : List Nat} {k : Nat} (h : OI n p th out k) (hp : pickB (n.segs.zip p.rates) th k = true) : OI n p (th.set k true) (out ++ [k]) 0 ∧ cntF (th.set k true) + 1 = cntF th := by
 have hs := getD_none ((pick_iff _ th k).1 hp).1
 have hc := cntF_set th k hs
 refine ⟨⟨by rw [List.length_set]; exact h.tl, Nat.zero_le _, ?_, ?_, fun j hj => absurd hj (Nat.not_lt_zero j)⟩, hc⟩
 ·have := h.cnt
  rw [List.length_append, List.length_singleton]
  omega
 ·rw [← h.res]
  exact (ord_pick h.no hp).symm
theorem bRow_at (th : List Bool) (k : Nat) (h : k < th.length) : (th.map bRow).getD k [] = [db (th.getD k false)] := by
 rw [getD_map bRow th k h, List.getD_eq_getElem?_getD, List.getElem?_eq_getElem h]
 rfl
theorem bRow_set (th : List Bool) (k : Nat) (b : Bool) : (th.map bRow).set k [db b] = (th.set k b).map bRow := (List.map_set ..).symm
theorem len_set (th : List Bool) (k : Nat) (b : Bool) : (th.set k b).length = th.length := List.length_set
theorem w_zero : IntKind.i64.wrap 0 = 0 := by decide
theorem zip_get {α β : Type} {l : List α} {m : List β} {i : Nat} (h1 : i < l.length) (h2 : i < m.length) : (l.zip m)[i]? = some (l[i], m[i]) := by
 rw [List.getElem?_zip_eq_some]
 exact ⟨List.getElem?_eq_getElem h1, List.getElem?_eq_getElem h2⟩
set_option maxHeartbeats 16000000 in
theorem order_c (n : Net) (p : Pln) (hz1 : n.nodes.length ≤ 1000000) (hz2 : n.segs.length ≤ 1000000) (hr : p.rates.length = n.segs.length) (hE : EdgeIn (n.segs.zip p.rates) n.nodes.length) (nn : Nm) :
  CallsA Try.prog 154 [n.enc, p.enc] Hp.none nn (Pu (.sl ((ordB n p).map nRow)) Hp.none) := by
 obtain ⟨code, h1, h2⟩ := c154_ok
 refine callsA_of TO_ok mixed (N := fun t => (0, t)) Try.func154 h1 h2 r154_ok [] false js_nil js_nil' (by simp [Try.f154]) ?_
 obtain ⟨i1, i2⟩ := init_inv (n.segs.zip p.rates) n.nodes.length
 have e0 : List.replicate n.nodes.length [db false] = (List.replicate n.nodes.length false).map bRow := by rw [List.map_replicate]; rfl
 have z1 : (8 : Int) * n.nodes.length ≤ 281474976710656 := by omega
 have z2 : (n.nodes.length : Int) ≤ 281474976710656 := by omega
 have z3 : (n.nodes.length : Int) ≤ 4611686018427387904 := by omega
 have z4 := idx_nn n.nodes.length
 simp (maxSteps:=500000) only [↓vp, vv, ↓reduceIte, simprocAttr, c154, Net.enc, Pln.enc, plnD, Int.toNat_natCast, z1, z2, z3, z4, e0, Int.one_mul]
 rw [vc_loop]
 refine ⟨OInv n p, ⟨_, _, (weak_own 5 (0, 1000) 1 (by simp only [↓vp, vv, ↓reduceIte, simprocAttr, ]) (by simp only [↓vp, vv, ↓reduceIte, simprocAttr, ])).trans (weak_eqA [] [(0, 2), (0, 3), (0, 15), (0, 1000)] (FrO 0 [] (List.replicate n.nodes.length false) 0 []) (by refine ⟨?_, ?_, ?_, by simp, ?_⟩ <;> (simp only [↓vp, vv, ↓reduceIte, simprocAttr, coverS, refsF, FrO, HO, netD, plnD, bRow, List.length_replicate] <;> try rfl))), List.replicate n.nodes.length false, [], 0, 0, ⟨List.length_replicate, Nat.zero_le _, by rw [i2]; rfl, by rw [i2]; rfl, fun j hj => absurd hj (Nat.not_lt_zero j)⟩, rfl, rfl⟩, ?_⟩
 rintro m s ⟨th, out, k, g, hI, hm, rfl⟩
 have htl := hI.tl
 by_cases hk : k < n.nodes.length
 ·have hk' : (k : Int) < n.nodes.length := by omega
  have hkt : k < th.length := by omega
  have hkt' : (k : Int) < th.length := by omega
  have hn := idx_nn k
  have w1 := idx_next (j := k) (by omega)
  have hg := bRow_at th k hkt
  have fin : pickB (n.segs.zip p.rates) th k = false → ∀ F : Fr, ∀ H : Hp, H (0, 2) = some ⟨0, 6, [netD n]⟩ → H (0, 3) = some ⟨0, 3, [plnD p]⟩ → H (0, 15) = some ⟨0, 1, th.map bRow⟩ → H (0, 1000) = some ⟨g, 1, out.map nRow⟩ → F 2 = .ptr (0, 2) 0 0 0 → F 3 = .ptr (0, 3) 0 0 0 → F 5 = .own (0, 1000) g 0 out.length → F 6 = .own (0, 15) 0 0 th.length → F 7 = di (k + 1 : Nat) →
    ∃ k' s', k' < m ∧ Weak [] ⟨F, H⟩ s' ∧ OInv n p k' s' := by
   intro hp F H g1 g2 g3 g4 f2 f3 f5 f6 f7
   refine ⟨_, _, ?_, (weak_eqA [] [(0, 2), (0, 3), (0, 15), (0, 1000)] (FrO g out th (k + 1 : Nat) []) (by refine ⟨?_, ?_, ?_, by simp, ?_⟩ <;> (simp only [↓vp, vv, ↓reduceIte, simprocAttr, coverS, refsF, FrO, HO, netD, plnD, nRow, bRow, f2, f3, f5, f6, f7, g1, g2, g3, g4] <;> try rfl))), th, out, k + 1, g, hI.skip hk hp, rfl, rfl⟩
   omega
  cases ht : th.getD k false with
  | true =>
   have hp : pickB (n.segs.zip p.rates) th k = false := by
    unfold pickB
    rw [List.getD_eq_getElem?_getD, List.getElem?_eq_getElem hkt, Option.getD_some] at ht ⊢
    rw [if_pos ht]
   rw [ht] at hg
   simp (maxSteps:=500000) only [↓vp, vv, ↓reduceIte, simprocAttr, c154, r154, c154_1, c154_2, c154_3, c154_4, c154_5, c154_6, c154_7, c154_8, c154_9, FrO, HO, netD, plnD, hk', hkt, hkt', hn, Int.toNat_natCast, hg, w1]
   refine fin hp _ _ ?_ ?_ ?_ ?_ ?_ ?_ ?_ ?_ ?_ <;> simp (maxSteps:=500000) only [↓vp, vv, ↓reduceIte, simprocAttr, netD, plnD, w1]
  | false =>
   rw [ht] at hg
   simp (maxSteps:=500000) only [↓vp, vv, ↓reduceIte, simprocAttr, c154, r154, c154_1, c154_2, c154_3, c154_4, c154_5, c154_6, c154_7, c154_8, c154_9, FrO, HO, netD, plnD, hk', hkt, hkt', hn, Int.toNat_natCast, hg, w1]
   refine rng_loop n.segs.length (fun i => ⟨fr (FrO g out th k [(28, .sl (n.segs.map Seg.row)), (29, di n.segs.length), (30, di i)]), HO n p g out th⟩) (fun i => ∀ i', i' < i → ∀ x, (n.segs.zip p.rates)[i']? = some x → blk th k x = false) (weak_eqA [] [(0, 2), (0, 3), (0, 15), (0, 1000)] (FrO g out th k [(28, .sl (n.segs.map Seg.row)), (29, di n.segs.length), (30, di 0)]) (by refine ⟨?_, ?_, ?_, by simp, ?_⟩ <;> (simp only [↓vp, vv, ↓reduceIte, simprocAttr, coverS, refsF, FrO, HO, netD, plnD, nRow, bRow] <;> try rfl))) (fun i' hi' => absurd hi' (Nat.not_lt_zero i')) (fun i hi hP => ?_) (fun hP => ?_)
   ·have hi' : (i : Int) < n.segs.length := by omega
    have hin := idx_nn i
    have w2 := idx_next (j := i) (by omega)
    have hir : i < p.rates.length := by omega
    have hir' : (i : Int) < p.rates.length := by omega
    have hgs := getD_map Seg.row n.segs i hi
    have hgr := iRow_at p.rates i hir
    have hx := zip_get hi hir
    generalize n.segs[i] = s at hgs hx
    generalize p.rates[i] = r at hgr hx
    have hmem : (s, r) ∈ n.segs.zip p.rates := List.mem_of_getElem? hx
    have hfr := fr_in hE hmem
    have hs1 : segOf1 [ds s.name, di s.fr, di s.to, di s.cap, di s.resist, di s.wave, .sl (s.points.map Pt.row)] = some s := segOf1_row s
    have hf0 := hfr.1
    have hf1 : frOf (s, r) < th.length := by omega
    have hf2 : (frOf (s, r)).toNat < th.length := by omega
    have hgf := bRow_at th (frOf (s, r)).toNat hf2
    have hbl := blk_eq th k (s, r)
    have nxt : blk th k (s, r) = false → ∀ i', i' < i + 1 → ∀ x, (n.segs.zip p.rates)[i']? = some x → blk th k x = false := fun hb i' h1 x h2 => by
     rcases Nat.lt_or_ge i' i with h3 | h3
     ·exact hP i' h3 x h2
     ·obtain rfl : i' = i := by omega
      rw [hx] at h2
      cases h2
      exact hb
    have nb : ¬ (r ≠ 0 ∧ toOf (s, r) = k ∧ th.getD (frOf (s, r)).toNat false = false) → blk th k (s, r) = false := fun h => by
     cases hb : blk th k (s, r) with
     | false => rfl
     | true => exact absurd (hbl.1 hb) h
    cases c1 : (r != 0) with
    | false =>
     have hb := nb fun h => by simp at c1; exact h.1 c1
     simp (maxSteps:=500000) only [↓vp, vv, ↓reduceIte, simprocAttr, c154, r154, c154_1, c154_2, c154_3, c154_4, c154_5, c154_6, c154_7, c154_8, c154_9, TO, selEnds, FrO, HO, netD, plnD, hi', hin, hir', Int.toNat_natCast, hgs, hgr, Seg.row, hs1, c1, w2]
     exact rng_next hi (weak_eqA [] [(0, 2), (0, 3), (0, 15), (0, 1000)] (FrO g out th k [(28, .sl (n.segs.map Seg.row)), (29, di n.segs.length), (30, di (i + 1 : Nat))]) (by refine ⟨?_, ?_, ?_, by simp, ?_⟩ <;> (simp only [↓vp, vv, ↓reduceIte, simprocAttr, coverS, refsF, FrO, HO, netD, plnD, nRow, bRow, w2, Seg.row] <;> try rfl))) (nxt hb)
    | true =>
    cases c2 : (toOf (s, r) == (k : Int)) with
    | false =>
     have hb := nb fun h => by simp at c2; exact c2 h.2.1
     simp (maxSteps:=500000) only [↓vp, vv, ↓reduceIte, simprocAttr, c154, r154, c154_1, c154_2, c154_3, c154_4, c154_5, c154_6, c154_7, c154_8, c154_9, TO, selEnds, FrO, HO, netD, plnD, hi', hin, hir', Int.toNat_natCast, hgs, hgr, Seg.row, hs1, c1, c2, w2]
     exact rng_next hi (weak_eqA [] [(0, 2), (0, 3), (0, 15), (0, 1000)] (FrO g out th k [(28, .sl (n.segs.map Seg.row)), (29, di n.segs.length), (30, di (i + 1 : Nat))]) (by refine ⟨?_, ?_, ?_, by simp, ?_⟩ <;> (simp only [↓vp, vv, ↓reduceIte, simprocAttr, coverS, refsF, FrO, HO, netD, plnD, nRow, bRow, w2, Seg.row] <;> try rfl))) (nxt hb)
    | true =>
    cases c3 : th.getD (frOf (s, r)).toNat false with
    | true =>
     have hb := nb fun h => by rw [c3] at h; cases h.2.2
     rw [c3] at hgf
     simp (maxSteps:=500000) only [↓vp, vv, ↓reduceIte, simprocAttr, c154, r154, c154_1, c154_2, c154_3, c154_4, c154_5, c154_6, c154_7, c154_8, c154_9, TO, selEnds, FrO, HO, netD, plnD, hi', hin, hir', Int.toNat_natCast, hgs, hgr, Seg.row, hs1, c1, c2, hf0, hf1, hf2, hgf, w2]
     exact rng_next hi (weak_eqA [] [(0, 2), (0, 3), (0, 15), (0, 1000)] (FrO g out th k [(28, .sl (n.segs.map Seg.row)), (29, di n.segs.length), (30, di (i + 1 : Nat))]) (by refine ⟨?_, ?_, ?_, by simp, ?_⟩ <;> (simp only [↓vp, vv, ↓reduceIte, simprocAttr, coverS, refsF, FrO, HO, netD, plnD, nRow, bRow, w2, Seg.row] <;> try rfl))) (nxt hb)
    | false =>
     have hb : blk th k (s, r) = true := hbl.2 ⟨by simpa using c1, by simpa using c2, c3⟩
     have hp : pickB (n.segs.zip p.rates) th k = false := by
      unfold pickB
      rw [List.any_eq_true.2 ⟨_, hmem, hb⟩]
      split <;> rfl
     rw [c3] at hgf
     simp (maxSteps:=500000) only [↓vp, vv, ↓reduceIte, simprocAttr, c154, r154, c154_1, c154_2, c154_3, c154_4, c154_5, c154_6, c154_7, c154_8, c154_9, TO, selEnds, FrO, HO, netD, plnD, hi', hin, hir', Int.toNat_natCast, hgs, hgr, Seg.row, hs1, c1, c2, hf0, hf1, hf2, hgf, w1]
     refine fin hp _ _ ?_ ?_ ?_ ?_ ?_ ?_ ?_ ?_ ?_ <;> simp (maxSteps:=500000) only [↓vp, vv, ↓reduceIte, simprocAttr, netD, plnD, w1]
   ·have hany : (n.segs.zip p.rates).any (blk th k) = false := by
     rw [List.any_eq_false]
     intro x hx hb
     obtain ⟨i, hi⟩ := List.getElem?_of_mem hx
     have hl : i < n.segs.length := by
      rcases Nat.lt_or_ge i (n.segs.zip p.rates).length with h | h
      ·rw [List.length_zip] at h; omega
      ·rw [List.getElem?_eq_none h] at hi; cases hi
     rw [hP i hl x hi] at hb
     cases hb
    have hp : pickB (n.segs.zip p.rates) th k = true := by
     unfold pickB
     rw [hany]
     rw [List.getD_eq_getElem?_getD, List.getElem?_eq_getElem hkt, Option.getD_some] at ht ⊢
     rw [ht]
     rfl
    obtain ⟨hI2, hc⟩ := hI.pick hp
    have z5 : ((out.length : Int) + 1) * 8 ≤ 140737488355328 := by have := hI.cnt; omega
    have z6 : (out.length + 1) * 8 ≤ 140737488355328 := by have := hI.cnt; omega
    have z7 : out.length + 1 ≤ 4611686018427387904 := by have := hI.cnt; omega
    simp (maxSteps:=500000) only [↓vp, vv, ↓reduceIte, simprocAttr, c154, r154, c154_1, c154_2, c154_3, c154_4, c154_5, c154_6, c154_7, c154_8, c154_9, FrO, HO, netD, plnD, Int.lt_irrefl, hk', hkt, hkt', hn, Int.toNat_natCast, hg, bRow_set, len_set, w_zero, z6, z7, nRow]
    refine ⟨_, _, ?_, (weak_eqA [] [(0, 2), (0, 3), (0, 15), (0, 1000)] (FrO (g + 1) (out ++ [k]) (th.set k true) 0 []) (by refine ⟨?_, ?_, ?_, by simp, ?_⟩ <;> (simp only [↓vp, vv, ↓reduceIte, simprocAttr, coverS, refsF, FrO, HO, netD, plnD, nRow, bRow, len_set, w_zero, List.length_append, List.length_singleton] <;> try rfl))), th.set k true, out ++ [k], 0, g + 1, hI2, rfl, ?_⟩
    ·rw [hm, ← hc, Nat.add_mul]
     omega
    ·simp only [FrO, HO, List.map_append, List.map_cons, List.map_nil, nRow, List.length_append, List.length_singleton, len_set]
     rfl
 ·have hk2 : k = n.nodes.length := by have := hI.kl; omega
  have hk' : ¬ (k : Int) < n.nodes.length := by omega
  have he : ordL (n.segs.zip p.rates) (cntF th) th out = out := ord_end fun j hj => hI.no j (by omega)
  have ho : out = ordB n p := by rw [← he]; exact hI.res
  simp (maxSteps:=500000) only [↓vp, vv, ↓reduceIte, simprocAttr, c154, r154, c154_1, c154_2, c154_3, c154_4, c154_5, c154_6, c154_7, c154_8, c154_9, r154, FrO, HO, netD, plnD, hk', Pu]
  exact ⟨fun j _ d hd => by rw [List.mem_singleton.1 hd]; rfl, by rw [← ho]⟩
theorem weak_ownR {J : List Nm} {F : Fr} {H : Hp} (j : Nm) (g sz : Nat) (rows rows' : List (List D)) (i : Nm) (isz : Nat) (hj : H j = some ⟨g, sz, rows⟩) (hi : H i = Option.none) (hl : rows'.length = rows.length)
  (hc : ∀ (r : Nat) (row' : List D), rows'[r]? = some row' → ∃ row, rows[r]? = some row ∧ row'.length = row.length ∧ ∀ (q : Nat) (d : D), row'[q]? = some d → ∃ d0, row[q]? = some d0 ∧ (d = d0 ∨ d0 = .mt ∧ d = .own i 0 0 0)) :
  Weak J ⟨F, H⟩ ⟨F, (H.put i ⟨0, isz, []⟩).put j ⟨g, sz, rows'⟩⟩ := by
 intro E hE Im p a w hR
 have hnil : rows' ≠ [] ↔ rows ≠ [] := by rw [← List.length_pos_iff, ← List.length_pos_iff, hl]
 have hne : j ≠ i := fun h => by rw [h, hi] at hj; cases hj
 have T : Turn Im p H w.heap i ⟨0, 0, []⟩ ⟨0, isz, []⟩ (0, 0) w.heap := ⟨.inr ⟨hi, rfl⟩, .inl hi, fun _ _ _ => rfl, Nat.le_refl _, fun h => absurd rfl h, fun h => absurd rfl h⟩
 have G := T.grows hR.hp
 have R1 := T.relH hR.hp
 have X1 := T.relE hR.hp hR.en rfl rfl rfl
 generalize p.put i (0, 0) = p1 at *
 have hj1 : (H.put i ⟨0, isz, []⟩) j = some ⟨g, sz, rows⟩ := by rw [Hp.put_other _ hne]; exact hj
 have hi1 : (H.put i ⟨0, isz, []⟩) i = some ⟨0, isz, []⟩ := Hp.put_same _ _ _
 generalize H.put i ⟨0, isz, []⟩ = H1 at *
 have G2 : Grows Im p1 H1 w.heap Im p1 (H1.put j ⟨g, sz, rows'⟩) w.heap := ⟨fun _ h => h, fun _ _ => rfl, fun k ek hk => by
  by_cases h : k = j
  ·subst h
   rw [hj1] at hk
   cases hk
   exact ⟨_, Hp.put_same _ _ _, Nat.le_refl _, fun _ => ⟨rfl, rfl, fun hn => ⟨hnil.2 hn, fun c t hc => ⟨c, hc, rfl⟩⟩⟩⟩
  ·exact ⟨ek, by rw [Hp.put_other _ h]; exact hk, Nat.le_refl _, fun _ => ⟨rfl, rfl, fun hn => ⟨hn, fun c t hc => ⟨c, hc, rfl⟩⟩⟩⟩⟩
 have key : ∀ k ek, (H1.put j ⟨g, sz, rows'⟩) k = some ek → ek.rows ≠ [] → ∃ ek', H1 k = some ek' ∧ ek'.rows ≠ [] := fun k ek hk hn => by
  by_cases h : k = j
  ·subst h
   rw [Hp.put_same] at hk
   cases hk
   exact ⟨_, hj1, hnil.1 hn⟩
  ·rw [Hp.put_other _ h] at hk
   exact ⟨ek, hk, hn⟩
 refine ⟨Im, p1, hR.sz, fun k => ((hR.fr k).mono G).mono G2, ⟨fun k ek hk hn => ?_, fun k l ek el hk hl nk nl hkl => ?_, R1.im⟩, ⟨X1.os, X1.tape, X1.output, X1.size, X1.block, X1.im, X1.im', fun k ek hk hn => ?_⟩, (hR.gr.trans G).trans G2, hR.df⟩
 ·dsimp only at hk ⊢
  by_cases h : k = j
  ·subst h
   rw [Hp.put_same] at hk
   cases hk
   obtain ⟨c, t, k1, k2, k3⟩ := R1.cell k _ hj1 (hnil.1 hn)
   refine ⟨c, t, k1, k2, fun r hr => ?_, by have := k3.le; dsimp only at this ⊢; rw [hl]; exact this, fun r q row d hr hd => ?_⟩
   ·obtain ⟨m, hm, rfl⟩ := List.getElem_of_mem hr
    obtain ⟨row, e1, e2, _⟩ := hc m _ (List.getElem?_eq_getElem hm)
    rw [e2]
    exact k3.len _ (List.mem_of_getElem? e1)
   ·obtain ⟨row0, e1, e2, e3⟩ := hc r _ hr
    obtain ⟨d0, e4, e5⟩ := e3 q d hd
    obtain ⟨u, u1, u2, u3⟩ := k3.cell r q _ d0 e1 e4
    refine ⟨u, u1, ?_, u3⟩
    rcases e5 with rfl | ⟨rfl, rfl⟩
    ·exact u2.mono G2
    ·obtain ⟨ao, rfl⟩ := rel_mt u2
     exact .own i 0 0 0 _ 0 ⟨0, isz, []⟩ (by rw [Hp.put_other _ (Ne.symm hne)]; exact hi1) (Nat.le_refl _) (Nat.le_refl _) fun _ h => absurd h (Nat.lt_irrefl _)
  ·rw [Hp.put_other _ h] at hk
   obtain ⟨c, t, k1, k2, k3⟩ := R1.cell k ek hk hn
   exact ⟨c, t, k1, k2, k3.mono G2⟩
 ·obtain ⟨_, a1, a2⟩ := key k ek hk nk
  obtain ⟨_, b1, b2⟩ := key l el hl nl
  exact R1.inj k l _ _ a1 b1 a2 b2 hkl
 ·obtain ⟨_, a1, a2⟩ := key k ek hk hn
  exact X1.ids k _ a1 a2
def fNm (i : Nat) : Nm := (0, 7000 + i)
def pA (os : List (List Pce)) (i : Nat) : List Pce := os.getD i []
def famH (os : List (List Pce)) (H : Hp) : Hp := fun k => if k.1 = 0 ∧ 7000 ≤ k.2 ∧ k.2 < 7000 + os.length then some ⟨(pA os (k.2 - 7000)).length, 2, (pA os (k.2 - 7000)).map Pce.row⟩ else H k
def oRow (os : List (List Pce)) (i : Nat) : List D := [.own (fNm i) (pA os i).length 0 (pA os i).length]
def oRows (os : List (List Pce)) : List (List D) := (List.range os.length).map (oRow os)
theorem oRows_len (os : List (List Pce)) : (oRows os).length = os.length := by unfold oRows; simp
theorem fNm_ne (i n : Nat) (h : n < 7000) : (fNm i = (0, n)) = False := eq_false fun e => by unfold fNm at e; have := congrArg Prod.snd e; dsimp only at this; omega
theorem fNm_ne' (i n : Nat) (h : n < 7000) : (((0, n) : Nm) = fNm i) = False := eq_false fun e => by unfold fNm at e; have := congrArg Prod.snd e; dsimp only at this; omega
theorem fNm_inj {i k : Nat} (h : fNm i = fNm k) : i = k := by unfold fNm at h; have := congrArg Prod.snd h; dsimp only at this; omega
theorem famH_at (os : List (List Pce)) (H : Hp) (i : Nat) (h : i < os.length) : famH os H (fNm i) = some ⟨(pA os i).length, 2, (pA os i).map Pce.row⟩ := by
 unfold famH fNm
 dsimp only
 rw [if_pos ⟨rfl, by omega, by omega⟩, Nat.add_sub_cancel_left]
theorem famH_no (os : List (List Pce)) (H : Hp) (n : Nat) (h : n < 7000) : famH os H (0, n) = H (0, n) := by
 unfold famH
 rw [if_neg (fun e => by dsimp only at e; omega)]
theorem famH_put (os : List (List Pce)) (H : Hp) (n : Nat) (e : En) (h : n < 7000) : (famH os H).put (0, n) e = famH os (H.put (0, n) e) := by
 funext k
 by_cases h1 : k = (0, n)
 ·subst h1
  rw [famH_no _ _ _ h, Hp.put_same, Hp.put_same]
 ·rw [Hp.put_other _ h1]
  unfold famH
  rw [Hp.put_other _ h1]
theorem pA_set (os : List (List Pce)) (i k : Nat) (x : List Pce) (h : i < os.length) : pA (os.set i x) k = if k = i then x else pA os k := by
 unfold pA
 rw [List.getD_eq_getElem?_getD, List.getElem?_set]
 by_cases e : i = k
 ·subst e; rw [if_pos rfl, if_pos h, if_pos rfl]; rfl
 ·rw [if_neg e, if_neg (fun h => e h.symm), List.getD_eq_getElem?_getD]
theorem famH_set (os : List (List Pce)) (H : Hp) (i : Nat) (p : Pce) (h : i < os.length) : (famH os H).put (fNm i) ⟨(pA os i).length + 1, 2, (pA os i).map Pce.row ++ [[di p.ba, di p.vo]]⟩ = famH (os.set i (pA os i ++ [p])) H := by
 funext k
 unfold Hp.put
 by_cases h1 : k = fNm i
 ·subst h1
  rw [if_pos rfl, famH_at _ _ _ (by simpa using h), pA_set _ _ _ _ h, if_pos rfl, List.length_append, List.map_append]
  rfl
 ·rw [if_neg h1]
  unfold famH
  rw [List.length_set]
  split
  ·rename_i e
   have : k.2 - 7000 ≠ i := fun e' => h1 (by obtain ⟨a, b⟩ := k; dsimp only at e e'; unfold fNm; rw [e.1]; congr 1; omega)
   rw [pA_set _ _ _ _ h, if_neg this]
  ·rfl
theorem oRows_get (os : List (List Pce)) (i : Nat) (h : i < os.length) : (oRows os).getD i [] = oRow os i := by
 unfold oRows
 rw [List.getD_eq_getElem?_getD, List.getElem?_map, List.getElem?_range h]
 rfl
theorem oRows_set (os : List (List Pce)) (i : Nat) (p : Pce) (h : i < os.length) : (oRows os).set i [.own (fNm i) ((pA os i).length + 1) 0 ((pA os i).length + 1)] = oRows (os.set i (pA os i ++ [p])) := by
 refine List.ext_getElem? fun k => ?_
 rw [List.getElem?_set, oRows_len]
 unfold oRows
 rw [List.length_set, List.getElem?_map, List.getElem?_map]
 by_cases hk : k < os.length
 ·rw [List.getElem?_range hk]
  by_cases e : i = k
  ·subst e
   rw [if_pos rfl, if_pos h]
   show _ = some (oRow _ _)
   unfold oRow
   rw [pA_set _ _ _ _ h, if_pos rfl, List.length_append]
   rfl
  ·rw [if_neg e]
   show some (oRow _ _) = some (oRow _ _)
   unfold oRow
   rw [pA_set _ _ _ _ h, if_neg (fun h => e h.symm)]
 ·have hn : (List.range os.length)[k]? = Option.none := List.getElem?_eq_none (by simp; omega)
  rw [hn]
  by_cases e : i = k
  ·omega
  ·rw [if_neg e]; rfl
def fams (n : Nat) : List Nm := (List.range n).map fNm
theorem fams_in {n i : Nat} (h : i < n) : fNm i ∈ fams n := List.mem_map.2 ⟨i, List.mem_range.2 h, rfl⟩
theorem nmIn_mono {i : Nm} {a b : List Nm} (h : ∀ x ∈ a, x ∈ b) (k : nmIn i a = true) : nmIn i b = true := nmIn_iff.2 (h _ (nmIn_iff.1 k))
theorem oRows_ref (os : List (List Pce)) (js : List Nm) : ∀ r ∈ oRows os, refsInL (js ++ fams os.length) r = true := fun r hr => by
 unfold oRows at hr
 obtain ⟨i, hi, rfl⟩ := List.mem_map.1 hr
 unfold oRow
 rw [refsInL, refsInL, Bool.and_true, D.refsIn]
 exact nmIn_iff.2 (List.mem_append_right _ (fams_in (List.mem_range.1 hi)))
mutual
theorem refsIn_mono {a b : List Nm} (h : ∀ x ∈ a, x ∈ b) : ∀ d : D, d.refsIn a = true → d.refsIn b = true
 | .v _, _ => by rw [D.refsIn]
 | .any, _ => by rw [D.refsIn]
 | .sl _, _ => by rw [D.refsIn]
 | .ip _, _ => by rw [D.refsIn]
 | .mt, _ => by rw [D.refsIn]
 | .own _ _ _ _, k => by rw [D.refsIn] at k ⊢; exact nmIn_mono h k
 | .ptr _ _ _ _, k => by rw [D.refsIn] at k ⊢; exact nmIn_mono h k
 | .agg cs, k => by rw [D.refsIn] at k ⊢; exact refsInL_mono h cs k
 | .tup cs, k => by rw [D.refsIn] at k ⊢; exact refsInL_mono h cs k
 | .clo _ fs cs, k => by rw [D.refsIn, Bool.and_eq_true] at k ⊢; exact ⟨refsInL_mono h fs k.1, refsInL_mono h cs k.2⟩
theorem refsInL_mono {a b : List Nm} (h : ∀ x ∈ a, x ∈ b) : ∀ l : List D, refsInL a l = true → refsInL b l = true
 | [], _ => by rw [refsInL]
 | d :: l, k => by rw [refsInL, Bool.and_eq_true] at k ⊢; exact ⟨refsIn_mono h d k.1, refsInL_mono h l k.2⟩
end
theorem refsF_mono {a b : List Nm} (h : ∀ x ∈ a, x ∈ b) : ∀ {l : List (Nat × D)}, refsF a l = true → refsF b l = true
 | [], _ => rfl
 | (t, d) :: l, k => by rw [refsF, Bool.and_eq_true] at k ⊢; exact ⟨refsIn_mono h d k.1, refsF_mono h k.2⟩
theorem closedH_of {H : Hp} {js : List Nm} : ∀ {is : List Nm}, (∀ i ∈ is, ∀ e, H i = some e → ∀ r ∈ e.rows, refsInL js r = true) → ClosedH H js is
 | [], _ => trivial
 | i :: is, h => by
  rw [ClosedH]
  refine ⟨?_, closedH_of fun k hk => h k (List.mem_cons_of_mem _ hk)⟩
  cases e : H i with
  | none => trivial
  | some x => exact h i (List.mem_cons_self ..) x e
theorem weak_fam {F : Fr} {B B' : Hp} (js : List Nm) (l : List (Nat × D)) (os : List (List Pce)) (hjs : ∀ i ∈ js, i.1 = 0 ∧ i.2 < 7000) (h1 : coverS F (famH os B) [] l) (h2 : refsF js l = true) (h3 : ClosedH B (js ++ fams os.length) js) (h5 : B.restr js = B') : Weak [] ⟨F, famH os B⟩ ⟨fr l, famH os B'⟩ := by
 subst h5
 refine weak_eq [] (js ++ fams os.length) l h1 (refsF_mono (fun x h => List.mem_append_left _ h) h2) ?_ (by simp) ?_
 ·exact closedH_of fun i hi e he r hr => by
   rcases List.mem_append.1 hi with h | h
   ·obtain ⟨a, b⟩ := i
    obtain ⟨h6, h7⟩ := hjs _ h
    dsimp only at h6 h7
    subst h6
    rw [Hp.kills, famH_no _ _ _ h7] at he
    exact closedH_mem h3 _ h e he r hr
   ·obtain ⟨k, hk, rfl⟩ := List.mem_map.1 h
    rw [Hp.kills, famH_at _ _ _ (List.mem_range.1 hk)] at he
    cases he
    obtain ⟨x, hx, rfl⟩ := List.mem_map.1 hr
    rfl
 ·funext k
  rw [Hp.kills]
  by_cases hf : k.1 = 0 ∧ 7000 ≤ k.2 ∧ k.2 < 7000 + os.length
  ·have hk : k = fNm (k.2 - 7000) := by obtain ⟨a, b⟩ := k; dsimp only at hf ⊢; unfold fNm; rw [hf.1]; congr 1; omega
   rw [restr_in (List.mem_append_right _ (by rw [hk]; exact fams_in (by omega)))]
   unfold famH
   rw [if_pos hf, if_pos hf]
  ·have e1 : famH os B k = B k := by unfold famH; rw [if_neg hf]
   have e2 : famH os (B.restr js) k = B.restr js k := by unfold famH; rw [if_neg hf]
   rw [e2]
   by_cases hk : k ∈ js
   ·rw [restr_in (List.mem_append_left _ hk), e1, restr_in hk]
   ·rw [restr_out (js := js) hk, restr_out]
    intro h
    rcases List.mem_append.1 h with h | h
    ·exact hk h
    ·obtain ⟨m, hm, rfl⟩ := List.mem_map.1 h
     have := List.mem_range.1 hm
     exact hf ⟨rfl, by unfold fNm; dsimp only; omega, by unfold fNm; dsimp only; omega⟩
end Go.Proofs.Ytadjhfjiimgddaa
