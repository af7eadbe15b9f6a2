/- ToolMade: TwC TwD TwE Vr TwF. -/
import Derived.Test.YtadjhfjiimgddaaTM19
import Derived.Test.YtadjhfjiimgddaaTM4
set_option linter.unusedSectionVars false
set_option linter.unusedSimpArgs false
set_option linter.unusedVariables false
set_option maxRecDepth 100000

/- Tools: Launch, Move, Behind, Valid of both, for every network, plan and tool. -/
namespace Go.Proofs.Ytadjhfjiimgddaa
open Go
def lauT (n : Net) (w : List (Int × Bool)) : Tol := if checkI n = 0 then (if tolV n ⟨w, 0, 0⟩ = true then ⟨w, 0, 0⟩ else ⟨[], 0, 0⟩) else ⟨[], 0, 0⟩
def lauE (n : Net) (w : List (Int × Bool)) : Int := if checkI n = 0 then (if tolV n ⟨w, 0, 0⟩ = true then 0 else 24) else checkI n
def movE (n : Net) (p : Pln) (t : Tol) : Int := if checkI n = 0 then (if fckI n p = 0 then (if tolV n t = true then 0 else 24) else fckI n p) else checkI n
def movT (n : Net) (p : Pln) (t : Tol) : Tol := if movE n p t = 0 then mov1 n p t else t
theorem toolE1 (n : Net) (p : Pln) (t : Tol) : toolE n p [t] = movE n p t := by
  unfold toolE movE
  by_cases h1 : checkI n = 0
  · rw [if_neg (by omega), if_pos h1]
    by_cases h2 : fckI n p = 0
    · rw [if_neg (by omega), if_pos h2]
      cases h3 : tolV n t <;> simp [badT, h3]
    · rw [if_pos h2, if_neg h2]
  · rw [if_pos h1, if_neg h1]
def TW1 : Tbl := tc 95 (rowPu (selNet fun n => di (checkI n))) (tc 96 (rowPu selVal) (tc 79 (rowPu (selTol wayQ Tol.enc)) (tc 80 (rowPu selMv) (tc 78 (rowPu selCk) T0))))
theorem TW1_ok : TblOk Try.prog TW1 := tc_netf f95_ok (fun n hz nn => check_c n hz nn) (tc_val (tc_tol f79_ok (fun t h nn => copied_w t h nn) (tc_pu f80_ok (fun args pre d hs hp nn => by
  unfold selMv at hs
  split at hs
  · split at hs
    · rename_i e1 e2 e3
      cases hs
      rw [netOf1_eq e1, plnOf1_eq e2, tolOf1_eq e3]
      exact moved_c _ _ _ hp nn
    · cases hs
  · cases hs) (tc_pu f78_ok (fun args pre d hs hp nn => by
  unfold selCk at hs
  split at hs
  · split at hs
    · rename_i e1 e2 e3
      cases hs
      rw [netOf1_eq e1, plnOf1_eq e2, lsOf_eq (fun r x => tolOf1_eq) e3]
      exact check_t _ _ _ hp.1 hp.2.1 hp.2.2 nn
    · cases hs
  · cases hs) (T0_ok _)))))
def TW2 : Tbl := tc 97 (rowPu (selNet fun n => di (checkI n))) (tc 100 (rowPu (selNP FckPre fun n p => di (fckI n p))) (tc 98 (rowPu selVal) (tc 99 (rowPu (selTol wayQ Tol.enc)) (tc 101 (rowPu selMv) T0))))
theorem TW2_ok : TblOk Try.prog TW2 := tc_netf f97_ok (fun n hz nn => rcheck_c n hz nn) (tc_np f100_ok (fun n p h nn => rchk16_c n p h.1 h.2 nn) (tc_rval (tc_tol f99_ok (fun t h nn => tcopy_c t h nn) (tc_rmv (T0_ok _)))))
theorem mvpre_of {n : Net} {p : Pln} {t : Tol} (h1 : checkI n = 0) (h2 : fckI n p = 0) (h3 : tolV n t = true) : MvPre n p t :=
  ⟨check0 h1, (tolV_iff n t).1 h3, (fck0 h2).rl, plnv_rb (fck0 h2)⟩
section
variable (n : Net) (hz : NetSz n)
include hz
set_option maxHeartbeats 8000000 in
theorem launch_w (w : List (Int × Bool)) (hw : w.length ≤ 1000000) (nn : Nm) : CallsA Try.prog 38 [n.enc, .sl (w.map tHop)] Hp.none nn (Pu (.tup [(lauT n w).enc, di (lauE n w)]) Hp.none) := by
  obtain ⟨code, h1, h2⟩ := c38_ok
  refine callsA_of TW1_ok mixed (N := fun t => (0, t)) Try.func38 h1 h2 r38_ok [] false js_nil js_nil' (by simp [Try.f38]) ?_
  have hn1 := netOf1_x n
  have ht1 : tolOf1 [.sl (w.map tHop), di 0, di 0] = some ⟨w, 0, 0⟩ := tolOf1_row ⟨w, 0, 0⟩
  have hwq : wayQ ⟨w, 0, 0⟩ := hw
  unfold lauT lauE
  by_cases e1 : checkI n = 0
  · have hv := check0 e1
    rw [if_pos e1, if_pos e1]
    cases c1 : tolV n ⟨w, 0, 0⟩ <;> simp (maxSteps:=500000) only [↓vp, vv, ↓reduceIte, simprocAttr, c38, r38, c38_1, c38_2, TW1, selNet, selVal, selTol, Net.enc, netD, Tol.enc, Tol.row, hn1, ht1, hz, e1, hv, hw, hwq, c1, bne_self_eq_false, Bool.false_eq_true, List.map_nil, Pu]
  · have c1 : (checkI n != 0) = true := by simpa using e1
    rw [if_neg e1, if_neg e1]
    simp (maxSteps:=500000) only [↓vp, vv, ↓reduceIte, simprocAttr, c38, r38, c38_1, c38_2, TW1, selNet, selVal, selTol, Net.enc, netD, Tol.enc, Tol.row, hn1, ht1, hz, c1, List.map_nil, Pu]
set_option maxHeartbeats 8000000 in
theorem rlaunch_w (w : List (Int × Bool)) (hw : w.length ≤ 1000000) (nn : Nm) : CallsA Try.prog 39 [n.enc, .sl (w.map tHop)] Hp.none nn (Pu (.tup [(lauT n w).enc, di (lauE n w)]) Hp.none) := by
  obtain ⟨code, h1, h2⟩ := c39_ok
  refine callsA_of TW2_ok mixed (N := fun t => (0, t)) Try.func39 h1 h2 r39_ok [] false js_nil js_nil' (by simp [Try.f39]) ?_
  have hn1 := netOf1_x n
  have ht1 : tolOf1 [.sl (w.map tHop), di 0, di 0] = some ⟨w, 0, 0⟩ := tolOf1_row ⟨w, 0, 0⟩
  have hwq : wayQ ⟨w, 0, 0⟩ := hw
  unfold lauT lauE
  by_cases e1 : checkI n = 0
  · have hv := check0 e1
    rw [if_pos e1, if_pos e1]
    cases c1 : tolV n ⟨w, 0, 0⟩ <;> simp (maxSteps:=500000) only [↓vp, vv, ↓reduceIte, simprocAttr, c39, r39, c39_1, c39_2, TW2, selNet, selVal, selTol, Net.enc, netD, Tol.enc, Tol.row, hn1, ht1, hz, e1, hv, hw, hwq, c1, bne_self_eq_false, Bool.false_eq_true, List.map_nil, Pu]
  · have c1 : (checkI n != 0) = true := by simpa using e1
    rw [if_neg e1, if_neg e1]
    simp (maxSteps:=500000) only [↓vp, vv, ↓reduceIte, simprocAttr, c39, r39, c39_1, c39_2, TW2, selNet, selVal, selTol, Net.enc, netD, Tol.enc, Tol.row, hn1, ht1, hz, c1, List.map_nil, Pu]
set_option maxHeartbeats 8000000 in
theorem move_w (p : Pln) (t : Tol) (hp : FckPre n p) (hw : t.way.length ≤ 1000000) (nn : Nm) : CallsA Try.prog 28 [n.enc, p.enc, t.enc] Hp.none nn (Pu (.tup [(movT n p t).enc, di (movE n p t)]) Hp.none) := by
  obtain ⟨code, h1, h2⟩ := c28_ok
  refine callsA_of TW1_ok mixed (N := fun t => (0, t)) Try.func28 h1 h2 r28_ok [] false js_nil js_nil' (by simp [Try.f28]) ?_
  have hn1 := netOf1_x n
  have hp1 := plnOf1_x p
  have ht1 := tolOf1_x t
  have hl1 : lsOf tolOf1 [[.sl (t.way.map tHop), di t.hop, di t.pos]] = some [t] := lsOf_map (g := Tol.row) tolOf1_row [t]
  have hwq : wayQ t := hw
  have hall : (∀ x ∈ [t], x.way.length ≤ 1000000) = True := eq_true fun x hx => by rw [List.mem_singleton.1 hx]; exact hw
  have hE := toolE1 n p t
  have ll : (1 : Nat) ≤ 1000000 := by decide
  unfold movT
  by_cases e1 : movE n p t = 0
  · have c1 : (movE n p t != 0) = false := by simp [e1]
    have hm : MvPre n p t := by
      unfold movE at e1
      split at e1
      · rename_i a1
        split at e1
        · rename_i a2
          split at e1
          · rename_i a3
            exact mvpre_of a1 a2 a3
          · omega
        · rename_i a2; exact absurd e1 a2
      · rename_i a1; exact absurd e1 a1
    rw [if_pos e1]
    simp (maxSteps:=500000) only [↓vp, vv, ↓reduceIte, simprocAttr, c28, r28, c28_1, TW1, selCk, selMv, Net.enc, netD, Pln.enc, plnD, Tol.enc, Tol.row, hn1, hp1, ht1, hl1, hp, hall, hw, ll, hE, c1, hm, e1, List.length_cons, List.length_nil, Pu]
  · have c1 : (movE n p t != 0) = true := by simpa using e1
    rw [if_neg e1]
    simp (maxSteps:=500000) only [↓vp, vv, ↓reduceIte, simprocAttr, c28, r28, c28_1, TW1, selCk, selMv, selTol, Net.enc, netD, Pln.enc, plnD, Tol.enc, Tol.row, hn1, hp1, ht1, hl1, hp, hall, hw, ll, hE, c1, hwq, List.length_cons, List.length_nil, Pu]
set_option maxHeartbeats 8000000 in
theorem rmove_w (p : Pln) (t : Tol) (hp : FckPre n p) (hw : t.way.length ≤ 1000000) (nn : Nm) : CallsA Try.prog 40 [n.enc, p.enc, t.enc] Hp.none nn (Pu (.tup [(movT n p t).enc, di (movE n p t)]) Hp.none) := by
  obtain ⟨code, h1, h2⟩ := c40_ok
  refine callsA_of TW2_ok mixed (N := fun t => (0, t)) Try.func40 h1 h2 r40_ok [] false js_nil js_nil' (by simp [Try.f40]) ?_
  have hn1 := netOf1_x n
  have hp1 := plnOf1_x p
  have ht1 := tolOf1_x t
  have hwq : wayQ t := hw
  unfold movT movE
  by_cases e1 : checkI n = 0
  · have c1 : (checkI n != 0) = false := by simp [e1]
    have hv := check0 e1
    simp only [if_pos e1]
    by_cases e2 : fckI n p = 0
    · have c2 : (fckI n p != 0) = false := by simp [e2]
      simp only [if_pos e2]
      cases c3 : tolV n t with
      | true =>
        have hm := mvpre_of e1 e2 c3
        simp (maxSteps:=500000) only [↓vp, vv, ↓reduceIte, simprocAttr, c40, r40, c40_1, c40_2, c40_3, TW2, selNet, selNP, selVal, selTol, selMv, Net.enc, netD, Pln.enc, plnD, Tol.enc, Tol.row, hn1, hp1, ht1, hz, hp, hv, hw, hwq, c1, c2, c3, hm, e1, e2, bne_self_eq_false, Pu]
      | false =>
        simp (maxSteps:=500000) only [↓vp, vv, ↓reduceIte, simprocAttr, c40, r40, c40_1, c40_2, c40_3, TW2, selNet, selNP, selVal, selTol, selMv, Net.enc, netD, Pln.enc, plnD, Tol.enc, Tol.row, hn1, hp1, ht1, hz, hp, hv, hw, hwq, c1, c2, c3, e1, e2, bne_self_eq_false, Bool.false_eq_true, Pu]
    · have c2 : (fckI n p != 0) = true := by simpa using e2
      simp only [if_neg e2]
      simp (maxSteps:=500000) only [↓vp, vv, ↓reduceIte, simprocAttr, c40, r40, c40_1, c40_2, c40_3, TW2, selNet, selNP, selVal, selTol, selMv, Net.enc, netD, Pln.enc, plnD, Tol.enc, Tol.row, hn1, hp1, ht1, hz, hp, c1, c2, e1, bne_self_eq_false, Pu]
  · have c1 : (checkI n != 0) = true := by simpa using e1
    simp only [if_neg e1]
    simp (maxSteps:=500000) only [↓vp, vv, ↓reduceIte, simprocAttr, c40, r40, c40_1, c40_2, c40_3, TW2, selNet, selNP, selVal, selTol, selMv, Net.enc, netD, Pln.enc, plnD, Tol.enc, Tol.row, hn1, hp1, ht1, hz, c1, Pu]
set_option maxHeartbeats 8000000 in
theorem valid_w (t : Tol) (hw : t.way.length ≤ 1000000) (nn : Nm) : CallsA Try.prog 46 [n.enc, t.enc] Hp.none nn (Pu (db (if checkI n = 0 then tolV n t else false)) Hp.none) := by
  obtain ⟨code, h1, h2⟩ := c46_ok
  refine callsA_of TW1_ok mixed (N := fun t => (0, t)) Try.func46 h1 h2 r46_ok [] false js_nil js_nil' (by simp [Try.f46]) ?_
  have hn1 := netOf1_x n
  have ht1 := tolOf1_x t
  by_cases e1 : checkI n = 0
  · have c1 : (checkI n == 0) = true := by simp [e1]
    have hv := check0 e1
    rw [if_pos e1]
    simp (maxSteps:=500000) only [↓vp, vv, ↓reduceIte, simprocAttr, c46, r46, TW1, selNet, selVal, Net.enc, netD, Tol.enc, Tol.row, hn1, ht1, hz, hv, hw, c1, Pu]
  · have c1 : (checkI n == 0) = false := by simpa using e1
    rw [if_neg e1]
    simp (maxSteps:=500000) only [↓vp, vv, ↓reduceIte, simprocAttr, c46, r46, TW1, selNet, selVal, Net.enc, netD, Tol.enc, Tol.row, hn1, ht1, hz, c1, Pu]
set_option maxHeartbeats 8000000 in
theorem rvalid_w (t : Tol) (hw : t.way.length ≤ 1000000) (nn : Nm) : CallsA Try.prog 47 [n.enc, t.enc] Hp.none nn (Pu (db (if checkI n = 0 then tolV n t else false)) Hp.none) := by
  obtain ⟨code, h1, h2⟩ := c47_ok
  refine callsA_of TW2_ok mixed (N := fun t => (0, t)) Try.func47 h1 h2 r47_ok [] false js_nil js_nil' (by simp [Try.f47]) ?_
  have hn1 := netOf1_x n
  have ht1 := tolOf1_x t
  by_cases e1 : checkI n = 0
  · have c1 : (checkI n == 0) = true := by simp [e1]
    have hv := check0 e1
    rw [if_pos e1]
    simp (maxSteps:=500000) only [↓vp, vv, ↓reduceIte, simprocAttr, c47, r47, TW2, selNet, selVal, Net.enc, netD, Tol.enc, Tol.row, hn1, ht1, hz, hv, hw, c1, Pu]
  · have c1 : (checkI n == 0) = false := by simpa using e1
    rw [if_neg e1]
    simp (maxSteps:=500000) only [↓vp, vv, ↓reduceIte, simprocAttr, c47, r47, TW2, selNet, selVal, Net.enc, netD, Tol.enc, Tol.row, hn1, ht1, hz, c1, Pu]
end
def wayEq (a b : List (Int × Bool)) : Bool := a == b
theorem wayEq_len {a b : List (Int × Bool)} (h : a.length ≠ b.length) : wayEq a b = false := by
  unfold wayEq
  exact beq_false_of_ne fun e => h (by rw [e])
theorem wayEq_at {a b : List (Int × Bool)} {j : Nat} {x y : Int × Bool} (h1 : a[j]? = some x) (h2 : b[j]? = some y) (h : x ≠ y) : wayEq a b = false := by
  unfold wayEq
  exact beq_false_of_ne fun e => h (by rw [e, h2] at h1; exact (Option.some.inj h1).symm)
theorem wayEq_all {a b : List (Int × Bool)} (hl : a.length = b.length) (h : ∀ (j : Nat) (x y : Int × Bool), j < a.length → a[j]? = some x → b[j]? = some y → x = y) : wayEq a b = true := by
  unfold wayEq
  rw [beq_iff_eq]
  refine List.ext_getElem hl fun j h1 h2 => ?_
  exact h j _ _ h1 (List.getElem?_eq_getElem h1) (List.getElem?_eq_getElem h2)
set_option maxHeartbeats 4000000 in
theorem sway_w (a b : List (Int × Bool)) (ha : a.length ≤ 1000000) (hb : b.length ≤ 1000000) (nn : Nm) : CallsA Try.prog 103 [.sl (a.map tHop), .sl (b.map tHop)] Hp.none nn (Pu (db (wayEq a b)) Hp.none) := by
  obtain ⟨code, h1, h2⟩ := c103_ok
  refine callsA_of (T0_ok _) mixed (N := fun t => (0, t)) Try.func103 h1 h2 r103_ok [] false js_nil js_nil' (by simp [Try.f103]) ?_
  by_cases hl : a.length = b.length
  · have c1 : ((a.length : Int) != (b.length : Int)) = false := by simp [hl]
    simp (maxSteps:=500000) only [↓vp, vv, ↓reduceIte, simprocAttr, c103, c103_5, c1]
    refine rng_loop a.length (fun j => ⟨fr [(0, .sl (a.map tHop)), (1, .sl (b.map tHop)), (5, di (j : Nat))], Hp.none⟩) (fun j => ∀ (i : Nat) (x y : Int × Bool), i < j → a[i]? = some x → b[i]? = some y → x = y) (weak0 (by simp (maxSteps:=500000) only [↓vp, vv, ↓reduceIte, simprocAttr, coverS]) (by simp (maxSteps:=500000) only [↓vp, vv, ↓reduceIte, simprocAttr, refsF])) (fun i x y h => absurd h (by omega)) (fun j hj hP => ?_) (fun hP => ?_)
    · have hj' : (j : Int) < a.length := by omega
      have hj2 : (j : Int) < b.length := by omega
      have w1 := idx_next (j := j) (by omega)
      have g1 := tHop_g a j hj
      have g2 := tHop_g b j (by omega)
      have x1 : a[j]? = some a[j] := List.getElem?_eq_getElem hj
      have x2 : b[j]? = some b[j] := List.getElem?_eq_getElem (by omega)
      generalize a[j] = x at g1 x1
      generalize b[j] = y at g2 x2
      obtain ⟨k, u⟩ := x
      obtain ⟨q, v⟩ := y
      cases d1 : (k == q) with
      | false =>
        have hf := wayEq_at x1 x2 fun e => by rw [Prod.mk.injEq] at e; rw [e.1] at d1; simp at d1
        simp (maxSteps:=500000) only [↓vp, vv, ↓reduceIte, simprocAttr, c103, r103, c103_1, c103_2, c103_3, c103_4, c103_5, hj', hj2, idx_nn, g1, g2, tHop, eqL, eqOne, d1, hf, Int.toNat_natCast, Pu]
      | true =>
      cases d2 : (u == v) with
      | false =>
        have hf := wayEq_at x1 x2 fun e => by rw [Prod.mk.injEq] at e; rw [e.2] at d2; simp at d2
        simp (maxSteps:=500000) only [↓vp, vv, ↓reduceIte, simprocAttr, c103, r103, c103_1, c103_2, c103_3, c103_4, c103_5, hj', hj2, idx_nn, g1, g2, tHop, eqL, eqOne, d1, d2, hf, Int.toNat_natCast, Pu]
      | true =>
        simp (maxSteps:=500000) only [↓vp, vv, ↓reduceIte, simprocAttr, c103, r103, c103_1, c103_2, c103_3, c103_4, c103_5, hj', hj2, idx_nn, g1, g2, tHop, eqL, eqOne, d1, d2, Int.toNat_natCast, w1]
        exact rng_next hj (weak0 (by simp (maxSteps:=500000) only [↓vp, vv, ↓reduceIte, simprocAttr, coverS, w1]) (by simp (maxSteps:=500000) only [↓vp, vv, ↓reduceIte, simprocAttr, refsF])) (fun i x y hi hx hy => by
          rcases Nat.lt_or_eq_of_le (Nat.lt_succ_iff.1 hi) with h | rfl
          · exact hP i x y h hx hy
          · rw [x1] at hx; rw [x2] at hy; cases hx; cases hy
            rw [beq_iff_eq] at d1 d2
            rw [d1, d2])
    · have ht := wayEq_all hl hP
      simp (maxSteps:=500000) only [↓vp, vv, ↓reduceIte, simprocAttr, c103, r103, c103_1, c103_2, c103_3, c103_4, c103_5, Int.lt_irrefl, ht, Pu]
  · have c1 : ((a.length : Int) != (b.length : Int)) = true := by simpa using fun e => hl (by omega)
    have hf := wayEq_len hl
    simp (maxSteps:=500000) only [↓vp, vv, ↓reduceIte, simprocAttr, c103, r103, c103_1, c103_2, c103_3, c103_4, c103_5, c1, hf, Pu]
set_option maxHeartbeats 4000000 in
theorem equal_w (a b : List (Int × Bool)) (ha : a.length ≤ 1000000) (hb : b.length ≤ 1000000) (nn : Nm) : CallsA Try.prog 102 [.sl (a.map tHop), .sl (b.map tHop)] Hp.none nn (Pu (db (wayEq a b)) Hp.none) := by
  obtain ⟨code, h1, h2⟩ := c102_ok
  refine callsA_of (T0_ok _) mixed (N := fun t => (0, t)) Try.func102 h1 h2 r102_ok [] false js_nil js_nil' (by simp [Try.f102]) ?_
  by_cases hl : a.length = b.length
  · have c1 : ((a.length : Int) != (b.length : Int)) = false := by simp [hl]
    simp (maxSteps:=500000) only [↓vp, vv, ↓reduceIte, simprocAttr, c102, c102_5, c1]
    refine rng_loop a.length (fun j => ⟨fr [(0, .sl (a.map tHop)), (1, .sl (b.map tHop)), (12, di a.length), (13, di (j : Nat))], Hp.none⟩) (fun j => ∀ (i : Nat) (x y : Int × Bool), i < j → a[i]? = some x → b[i]? = some y → x = y) (weak0 (by simp (maxSteps:=500000) only [↓vp, vv, ↓reduceIte, simprocAttr, coverS]) (by simp (maxSteps:=500000) only [↓vp, vv, ↓reduceIte, simprocAttr, refsF])) (fun i x y h => absurd h (by omega)) (fun j hj hP => ?_) (fun hP => ?_)
    · have hj' : (j : Int) < a.length := by omega
      have hj2 : (j : Int) < b.length := by omega
      have w1 := idx_next (j := j) (by omega)
      have g1 := tHop_g a j hj
      have g2 := tHop_g b j (by omega)
      have x1 : a[j]? = some a[j] := List.getElem?_eq_getElem hj
      have x2 : b[j]? = some b[j] := List.getElem?_eq_getElem (by omega)
      generalize a[j] = x at g1 x1
      generalize b[j] = y at g2 x2
      obtain ⟨k, u⟩ := x
      obtain ⟨q, v⟩ := y
      cases d1 : (k == q) with
      | false =>
        have hf := wayEq_at x1 x2 fun e => by rw [Prod.mk.injEq] at e; rw [e.1] at d1; simp at d1
        simp (maxSteps:=500000) only [↓vp, vv, ↓reduceIte, simprocAttr, c102, r102, c102_1, c102_2, c102_3, c102_4, c102_5, hj', hj2, idx_nn, g1, g2, tHop, eqL, eqOne, d1, hf, Int.toNat_natCast, Pu]
      | true =>
      cases d2 : (u == v) with
      | false =>
        have hf := wayEq_at x1 x2 fun e => by rw [Prod.mk.injEq] at e; rw [e.2] at d2; simp at d2
        simp (maxSteps:=500000) only [↓vp, vv, ↓reduceIte, simprocAttr, c102, r102, c102_1, c102_2, c102_3, c102_4, c102_5, hj', hj2, idx_nn, g1, g2, tHop, eqL, eqOne, d1, d2, hf, Int.toNat_natCast, Pu]
      | true =>
        simp (maxSteps:=500000) only [↓vp, vv, ↓reduceIte, simprocAttr, c102, r102, c102_1, c102_2, c102_3, c102_4, c102_5, hj', hj2, idx_nn, g1, g2, tHop, eqL, eqOne, d1, d2, Int.toNat_natCast, w1]
        exact rng_next hj (weak0 (by simp (maxSteps:=500000) only [↓vp, vv, ↓reduceIte, simprocAttr, coverS, w1]) (by simp (maxSteps:=500000) only [↓vp, vv, ↓reduceIte, simprocAttr, refsF])) (fun i x y hi hx hy => by
          rcases Nat.lt_or_eq_of_le (Nat.lt_succ_iff.1 hi) with h | rfl
          · exact hP i x y h hx hy
          · rw [x1] at hx; rw [x2] at hy; cases hx; cases hy
            rw [beq_iff_eq] at d1 d2
            rw [d1, d2])
    · have ht := wayEq_all hl hP
      simp (maxSteps:=500000) only [↓vp, vv, ↓reduceIte, simprocAttr, c102, r102, c102_1, c102_2, c102_3, c102_4, c102_5, Int.lt_irrefl, ht, Pu]
  · have c1 : ((a.length : Int) != (b.length : Int)) = true := by simpa using fun e => hl (by omega)
    have hf := wayEq_len hl
    simp (maxSteps:=500000) only [↓vp, vv, ↓reduceIte, simprocAttr, c102, r102, c102_1, c102_2, c102_3, c102_4, c102_5, c1, hf, Pu]
def selWe : List D → Option (Prop × D)
  | [.sl r, .sl s] => match lsOf tHopOf1 r, lsOf tHopOf1 s with
    | some a, some b => some (a.length ≤ 1000000 ∧ b.length ≤ 1000000, db (wayEq a b))
    | _, _ => Option.none
  | _ => Option.none
theorem tc_we {f : FuncId} {T : Tbl} (hf : fnOk Try.prog f = true) (h : ∀ a b : List (Int × Bool), a.length ≤ 1000000 → b.length ≤ 1000000 → ∀ nn, CallsA Try.prog f [.sl (a.map tHop), .sl (b.map tHop)] Hp.none nn (Pu (db (wayEq a b)) Hp.none)) (hT : TblOk Try.prog T) : TblOk Try.prog (tc f (rowPu selWe) T) :=
  tc_pu hf (fun args pre d hs hp nn => by
    unfold selWe at hs
    split at hs
    · split at hs
      · rename_i e1 e2
        cases hs
        rw [lsOf_eq (fun r x => tHopOf1_eq) e1, lsOf_eq (fun r x => tHopOf1_eq) e2]
        exact h _ _ hp.1 hp.2 nn
      · cases hs
    · cases hs) hT
def TW3 : Tbl := tc 102 (rowPu selWe) TW1
theorem TW3_ok : TblOk Try.prog TW3 := tc_we f102_ok equal_w TW1_ok
def TW4 : Tbl := tc 103 (rowPu selWe) TW2
theorem TW4_ok : TblOk Try.prog TW4 := tc_we f103_ok sway_w TW2_ok
def behE' (n : Net) (a b : Tol) : Int := if checkI n = 0 then (if tolV n a = true then (if tolV n b = true then (if wayEq a.way b.way = true then 0 else 24) else 24) else 24) else checkI n
def behB' (n : Net) (a b : Tol) : Bool := if checkI n = 0 then (if tolV n a = true then (if tolV n b = true then (if wayEq a.way b.way = true then ltT a b else false) else false) else false) else false
set_option maxHeartbeats 8000000 in
theorem behind_w (n : Net) (hz : NetSz n) (a b : Tol) (la : a.way.length ≤ 1000000) (lb : b.way.length ≤ 1000000) (nn : Nm) : CallsA Try.prog 43 [n.enc, a.enc, b.enc] Hp.none nn (Pu (.tup [db (behB' n a b), di (behE' n a b)]) Hp.none) := by
  obtain ⟨code, h1, h2⟩ := c43_ok
  refine callsA_of TW3_ok mixed (N := fun t => (0, t)) Try.func43 h1 h2 r43_ok [] false js_nil js_nil' (by simp [Try.f43]) ?_
  have hn1 := netOf1_x n
  have ht1 : tolOf1 [.sl (a.way.map tHop), di a.hop, di a.pos] = some a := tolOf1_row a
  have ht2 : tolOf1 [.sl (b.way.map tHop), di b.hop, di b.pos] = some b := tolOf1_row b
  have hh1 : lsOf tHopOf1 (a.way.map tHop) = some a.way := lsOf_map tHopOf1_row a.way
  have hh2 : lsOf tHopOf1 (b.way.map tHop) = some b.way := lsOf_map tHopOf1_row b.way
  unfold behB' behE'
  by_cases e1 : checkI n = 0
  · have hv := check0 e1
    simp only [if_pos e1]
    cases c1 : tolV n a with
    | false => simp (maxSteps:=500000) only [↓vp, vv, ↓reduceIte, simprocAttr, c43, r43, c43_1, c43_2, TW3, TW1, selNet, selVal, selWe, Net.enc, netD, Tol.enc, Tol.row, hn1, ht1, ht2, hz, e1, hv, la, lb, c1, bne_self_eq_false, Bool.false_eq_true, Pu]
    | true =>
    cases c2 : tolV n b with
    | false => simp (maxSteps:=500000) only [↓vp, vv, ↓reduceIte, simprocAttr, c43, r43, c43_1, c43_2, TW3, TW1, selNet, selVal, selWe, Net.enc, netD, Tol.enc, Tol.row, hn1, ht1, ht2, hz, e1, hv, la, lb, c1, c2, bne_self_eq_false, Bool.false_eq_true, Pu]
    | true =>
    cases c3 : wayEq a.way b.way with
    | false => simp (maxSteps:=500000) only [↓vp, vv, ↓reduceIte, simprocAttr, c43, r43, c43_1, c43_2, TW3, TW1, selNet, selVal, selWe, Net.enc, netD, Tol.enc, Tol.row, hn1, ht1, ht2, hh1, hh2, hz, e1, hv, la, lb, c1, c2, c3, bne_self_eq_false, Bool.false_eq_true, Pu]
    | true =>
    unfold ltT
    cases d1 : decide (a.hop < b.hop) with
    | true => simp (maxSteps:=500000) only [↓vp, vv, ↓reduceIte, simprocAttr, c43, r43, c43_1, c43_2, TW3, TW1, selNet, selVal, selWe, Net.enc, netD, Tol.enc, Tol.row, hn1, ht1, ht2, hh1, hh2, hz, e1, hv, la, lb, c1, c2, c3, d1, bne_self_eq_false, Pu]
    | false => cases d2 : (a.hop == b.hop) <;> simp (maxSteps:=500000) only [↓vp, vv, ↓reduceIte, simprocAttr, c43, r43, c43_1, c43_2, TW3, TW1, selNet, selVal, selWe, Net.enc, netD, Tol.enc, Tol.row, hn1, ht1, ht2, hh1, hh2, hz, e1, hv, la, lb, c1, c2, c3, d1, d2, bne_self_eq_false, Bool.false_eq_true, Pu]
  · have c1 : (checkI n != 0) = true := by simpa using e1
    simp only [if_neg e1]
    simp (maxSteps:=500000) only [↓vp, vv, ↓reduceIte, simprocAttr, c43, r43, c43_1, c43_2, TW3, TW1, selNet, selVal, Net.enc, netD, Tol.enc, Tol.row, hn1, ht1, ht2, hz, c1, Pu]
set_option maxHeartbeats 8000000 in
theorem rbehind_w (n : Net) (hz : NetSz n) (a b : Tol) (la : a.way.length ≤ 1000000) (lb : b.way.length ≤ 1000000) (nn : Nm) : CallsA Try.prog 44 [n.enc, a.enc, b.enc] Hp.none nn (Pu (.tup [db (behB' n a b), di (behE' n a b)]) Hp.none) := by
  obtain ⟨code, h1, h2⟩ := c44_ok
  refine callsA_of TW4_ok mixed (N := fun t => (0, t)) Try.func44 h1 h2 r44_ok [] false js_nil js_nil' (by simp [Try.f44]) ?_
  have hn1 := netOf1_x n
  have ht1 : tolOf1 [.sl (a.way.map tHop), di a.hop, di a.pos] = some a := tolOf1_row a
  have ht2 : tolOf1 [.sl (b.way.map tHop), di b.hop, di b.pos] = some b := tolOf1_row b
  have hh1 : lsOf tHopOf1 (a.way.map tHop) = some a.way := lsOf_map tHopOf1_row a.way
  have hh2 : lsOf tHopOf1 (b.way.map tHop) = some b.way := lsOf_map tHopOf1_row b.way
  unfold behB' behE'
  by_cases e1 : checkI n = 0
  · have hv := check0 e1
    simp only [if_pos e1]
    cases c1 : tolV n a with
    | false => simp (maxSteps:=500000) only [↓vp, vv, ↓reduceIte, simprocAttr, c44, r44, c44_1, c44_2, TW4, TW2, selNet, selVal, selWe, Net.enc, netD, Tol.enc, Tol.row, hn1, ht1, ht2, hz, e1, hv, la, lb, c1, bne_self_eq_false, Bool.false_eq_true, Pu]
    | true =>
    cases c2 : tolV n b with
    | false => simp (maxSteps:=500000) only [↓vp, vv, ↓reduceIte, simprocAttr, c44, r44, c44_1, c44_2, TW4, TW2, selNet, selVal, selWe, Net.enc, netD, Tol.enc, Tol.row, hn1, ht1, ht2, hz, e1, hv, la, lb, c1, c2, bne_self_eq_false, Bool.false_eq_true, Pu]
    | true =>
    cases c3 : wayEq a.way b.way with
    | false => simp (maxSteps:=500000) only [↓vp, vv, ↓reduceIte, simprocAttr, c44, r44, c44_1, c44_2, TW4, TW2, selNet, selVal, selWe, Net.enc, netD, Tol.enc, Tol.row, hn1, ht1, ht2, hh1, hh2, hz, e1, hv, la, lb, c1, c2, c3, bne_self_eq_false, Bool.false_eq_true, Pu]
    | true =>
    unfold ltT
    cases d1 : decide (a.hop < b.hop) with
    | true => simp (maxSteps:=500000) only [↓vp, vv, ↓reduceIte, simprocAttr, c44, r44, c44_1, c44_2, TW4, TW2, selNet, selVal, selWe, Net.enc, netD, Tol.enc, Tol.row, hn1, ht1, ht2, hh1, hh2, hz, e1, hv, la, lb, c1, c2, c3, d1, bne_self_eq_false, Pu]
    | false => cases d2 : (a.hop == b.hop) <;> simp (maxSteps:=500000) only [↓vp, vv, ↓reduceIte, simprocAttr, c44, r44, c44_1, c44_2, TW4, TW2, selNet, selVal, selWe, Net.enc, netD, Tol.enc, Tol.row, hn1, ht1, ht2, hh1, hh2, hz, e1, hv, la, lb, c1, c2, c3, d1, d2, bne_self_eq_false, Bool.false_eq_true, Pu]
  · have c1 : (checkI n != 0) = true := by simpa using e1
    simp only [if_neg e1]
    simp (maxSteps:=500000) only [↓vp, vv, ↓reduceIte, simprocAttr, c44, r44, c44_1, c44_2, TW4, TW2, selNet, selVal, Net.enc, netD, Tol.enc, Tol.row, hn1, ht1, ht2, hz, c1, Pu]
def outK (k : Int) : Bool := if decide (k < 0) = true then true else decide ((400 : Int) < k)
def rnE (n : Net) (p : Pln) (l : List Tol) (k : Int) : Int := if toolE n p l = 0 then (if outK k = true then 1 else 0) else toolE n p l
def rnL (n : Net) (p : Pln) (l : List Tol) (k : Int) : List Tol := if toolE n p l = 0 then (if outK k = true then l else l.map (movK n p k.toNat)) else l
structure RunQ (n : Net) (p : Pln) (l : List Tol) : Prop where
  z : FckPre n p
  few : l.length ≤ 16
  w : ∀ t ∈ l, t.way.length ≤ 1000000
theorem toolE0 {n : Net} {p : Pln} {l : List Tol} (h : toolE n p l = 0) : checkI n = 0 ∧ fckI n p = 0 ∧ ∀ t ∈ l, tolV n t = true := by
  unfold toolE at h
  split at h
  · rename_i h1; exact absurd h h1
  · rename_i h1
    split at h
    · rename_i h2; exact absurd h h2
    · rename_i h2
      split at h
      · cases h
      · rename_i h3
        refine ⟨by omega, by omega, fun t ht => ?_⟩
        cases e : tolV n t with
        | true => rfl
        | false => exact absurd (List.any_eq_true.2 ⟨t, ht, by unfold badT; rw [e]; rfl⟩) h3
theorem runPre_of {n : Net} {p : Pln} {l : List Tol} {k : Int} (h : RunQ n p l) (e : toolE n p l = 0) (hk : outK k = false) : RunPre n p l (k.toNat : Nat) := by
  obtain ⟨e1, e2, e3⟩ := toolE0 e
  have hk2 : 0 ≤ k ∧ k ≤ 400 := by
    unfold outK at hk
    cases d1 : decide (k < 0) with
    | true => rw [d1, if_pos rfl] at hk; cases hk
    | false =>
      rw [d1, if_neg Bool.false_ne_true] at hk
      have := of_decide_eq_false d1
      have := of_decide_eq_false hk
      omega
  exact ⟨h.z, e2, h.few, fun t ht => (tolV_iff n t).1 (e3 t ht), by omega, by omega⟩
set_option maxHeartbeats 16000000 in
theorem trun_w (n : Net) (p : Pln) (l : List Tol) (ticks : Int) (h : RunQ n p l) (nn : Nm) : CallsA Try.prog 41 [n.enc, p.enc, .sl (l.map Tol.row), di ticks] Hp.none nn (Pu (.tup [.sl ((rnL n p l ticks).map Tol.row), di (rnE n p l ticks)]) Hp.none) := by
  obtain ⟨code, h1, h2⟩ := c41_ok
  refine callsA_of TRun_ok mixed (N := fun t => (0, t)) Try.func41 h1 h2 r41_ok [] false js_nil js_nil' (by simp [Try.f41]) ?_
  have hll := h.few
  have hz := h.z
  have hlw := h.w
  have hn1 := netOf1_x n
  have hp1 := plnOf1_x p
  have hl1 : lsOf tolOf1 (l.map Tol.row) = some l := lsOf_map tolOf1_row l
  have hll2 : l.length ≤ 1000000 := by omega
  have tk : (l.map Tol.row).take l.length = l.map Tol.row := List.take_of_length_le (by simp)
  have pl : (∀ j ∈ l, ∀ d ∈ j.row, d.plain = true) := fun j _ d hd => by
    rcases List.mem_cons.1 hd with rfl | hd
    · rfl
    · rcases List.mem_cons.1 hd with rfl | hd
      · rfl
      · rw [List.mem_singleton.1 hd]; rfl
  simp (maxSteps:=500000) only [↓vp, vv, ↓reduceIte, simprocAttr, c41, Net.enc, Pln.enc, netD, plnD]
  refine rng_loop l.length (fun j => ⟨fr ((2, .sl (l.map Tol.row)) :: RnF ticks j j [(15, .sl (l.map Tol.row)), (16, di l.length), (17, di (j : Nat))]), RnH n p (l.take j) j⟩) (fun _ => True) ((weak_own 10 (0, 1000) 3 (by simp (maxSteps:=500000) only [↓vp, vv, ↓reduceIte, simprocAttr, ]) (by simp (maxSteps:=500000) only [↓vp, vv, ↓reduceIte, simprocAttr, ])).trans (weak_eq [] [(0, 4), (0, 5), (0, 1000)] ((2, .sl (l.map Tol.row)) :: RnF ticks 0 0 [(15, .sl (l.map Tol.row)), (16, di l.length), (17, di 0)]) (by simp (maxSteps:=500000) only [↓vp, vv, ↓reduceIte, simprocAttr, coverS, RnF, RnH, netD, plnD, List.take_zero, Tol.row]) (by simp (maxSteps:=500000) only [↓vp, vv, ↓reduceIte, simprocAttr, refsF, RnF, RnH, netD, plnD, List.take_zero, Tol.row]) (by simp (maxSteps:=500000) only [↓vp, vv, ↓reduceIte, simprocAttr, RnF, RnH, netD, plnD, List.take_zero, Tol.row]) (by simp) (by simp (maxSteps:=500000) only [↓vp, vv, ↓reduceIte, simprocAttr, RnF, RnH, netD, plnD, List.take_zero, Tol.row]; try rfl))) trivial (fun j hj _ => ?_) (fun _ => ?_)
  · have hj' : (j : Int) < l.length := by omega
    have hjn := idx_nn j
    have w1 := idx_next (j := j) (by omega)
    have hg := tolRow_g l j hj
    have ht := List.take_append_getElem hj
    have hwj : wayQ l[j] := hlw _ (List.getElem_mem hj)
    generalize l[j] = t at hg ht hwj
    have ht1 := tolOf1_x t
    have y1 : (j + 1) * 40 ≤ 140737488355328 := by omega
    have y2 : j + 1 ≤ 4611686018427387904 := by omega
    have htl : (l.take j).length = j := by rw [List.length_take]; omega
    simp (maxSteps:=500000) only [↓vp, vv, ↓reduceIte, simprocAttr, c41_2, c41_1, TRun, selTol, RnF, RnH, netD, plnD, hj', hjn, hg, ht1, hwj, Tol.enc, Tol.row, w1, y1, y2, htl, Int.toNat_natCast]
    exact rng_next hj (weak_eq [] [(0, 4), (0, 5), (0, 1000)] ((2, .sl (l.map Tol.row)) :: RnF ticks (j + 1) (j + 1) [(15, .sl (l.map Tol.row)), (16, di l.length), (17, di (j + 1 : Nat))]) (by simp (maxSteps:=500000) only [↓vp, vv, ↓reduceIte, simprocAttr, coverS, RnF, RnH, netD, plnD, w1, ← ht, List.map_append, List.map_cons, List.map_nil, Tol.row]) (by simp (maxSteps:=500000) only [↓vp, vv, ↓reduceIte, simprocAttr, refsF, RnF, RnH, netD, plnD, w1, ← ht, List.map_append, List.map_cons, List.map_nil, Tol.row]) (by simp (maxSteps:=500000) only [↓vp, vv, ↓reduceIte, simprocAttr, RnF, RnH, netD, plnD, w1, ← ht, List.map_append, List.map_cons, List.map_nil, Tol.row]) (by simp) (by simp (maxSteps:=500000) only [↓vp, vv, ↓reduceIte, simprocAttr, RnF, RnH, netD, plnD, w1, ← ht, List.map_append, List.map_cons, List.map_nil, Tol.row]; try rfl)) trivial
  · rw [List.take_length]
    simp (maxSteps:=500000) only [↓vp, vv, ↓reduceIte, simprocAttr, c41_2, RnF, RnH, netD, plnD, Int.lt_irrefl]
    refine vc_wk (weak_eq [] [(0, 4), (0, 5), (0, 1000)] ((2, .sl (l.map Tol.row)) :: RnF ticks l.length l.length []) (by simp (maxSteps:=500000) only [↓vp, vv, ↓reduceIte, simprocAttr, coverS, RnF, RnH, netD, plnD, Tol.row]) (by simp (maxSteps:=500000) only [↓vp, vv, ↓reduceIte, simprocAttr, refsF, RnF, RnH, netD, plnD, Tol.row]) (by simp (maxSteps:=500000) only [↓vp, vv, ↓reduceIte, simprocAttr, RnF, RnH, netD, plnD, Tol.row]) (by simp) (by simp (maxSteps:=500000) only [↓vp, vv, ↓reduceIte, simprocAttr, RnF, RnH, netD, plnD, Tol.row]; try rfl)) ?_
    have hlwT := eq_true hlw
    unfold rnL rnE
    by_cases e1 : toolE n p l = 0
    · have c1 : (toolE n p l != 0) = false := by simp [e1]
      have k1 : decide ((16 : Int) < l.length) = false := decide_eq_false (by omega)
      simp only [if_pos e1]
      cases k2 : decide (ticks < 0) with
      | true =>
        have ho : outK ticks = true := by unfold outK; rw [k2, if_pos rfl]
        simp only [ho]
        simp (maxSteps:=500000) only [↓vp, vv, ↓reduceIte, simprocAttr, c41_11, c41_10, TRun, selCk, RnF, RnH, netD, plnD, hn1, hp1, hl1, hz, hll2, hlwT, c1, k1, k2, r41, tk, Pu]
        exact pl
      | false =>
        cases k3 : decide ((400 : Int) < ticks) with
        | true =>
          have ho : outK ticks = true := by unfold outK; rw [k2, if_neg Bool.false_ne_true, k3]
          simp only [ho]
          simp (maxSteps:=500000) only [↓vp, vv, ↓reduceIte, simprocAttr, c41_11, c41_10, TRun, selCk, RnF, RnH, netD, plnD, hn1, hp1, hl1, hz, hll2, hlwT, c1, k1, k2, k3, r41, tk, Pu]
          exact pl
        | false =>
          have ho : outK ticks = false := by unfold outK; rw [k2, if_neg Bool.false_ne_true, k3]
          have nx := trun_2 n p l ticks.toNat (runPre_of h e1 ho)
          have et : ((ticks.toNat : Nat) : Int) = ticks := by have := of_decide_eq_false k2; omega
          rw [et] at nx
          simp only [ho, Bool.false_eq_true, if_false]
          simp (maxSteps:=500000) only [↓vp, vv, ↓reduceIte, simprocAttr, c41_11, c41_10, TRun, selCk, RnF, RnH, netD, plnD, hn1, hp1, hl1, hz, hll2, hlwT, c1, k1, k2, k3]
          exact nx _ _ (weak_eq [] [(0, 4), (0, 5), (0, 1000)] (RnF ticks l.length l.length []) (by simp (maxSteps:=500000) only [↓vp, vv, ↓reduceIte, simprocAttr, coverS, RnF, RnH, netD, plnD, Tol.row]) (by simp (maxSteps:=500000) only [↓vp, vv, ↓reduceIte, simprocAttr, refsF, RnF, RnH, netD, plnD, Tol.row]) (by simp (maxSteps:=500000) only [↓vp, vv, ↓reduceIte, simprocAttr, RnF, RnH, netD, plnD, Tol.row]) (by simp) (by simp (maxSteps:=500000) only [↓vp, vv, ↓reduceIte, simprocAttr, RnF, RnH, netD, plnD, Tol.row]; try rfl))
    · have c1 : (toolE n p l != 0) = true := by simpa using e1
      simp only [if_neg e1]
      simp (maxSteps:=500000) only [↓vp, vv, ↓reduceIte, simprocAttr, c41_11, c41_10, TRun, selCk, RnF, RnH, netD, plnD, hn1, hp1, hl1, hz, hll2, hlwT, c1, r41, tk, Pu]
      exact pl
def RrF (l : List Tol) (ticks : Int) (q : List (Nat × D)) : List (Nat × D) := (2, .sl (l.map Tol.row)) :: (3, di ticks) :: (4, .ptr (0, 4) 0 0 0) :: (5, .ptr (0, 5) 0 0 0) :: q
def RrH (n : Net) (p : Pln) : Hp := (Hp.none.put (0, 5) ⟨0, 3, [plnD p]⟩).put (0, 4) ⟨0, 6, [netD n]⟩
def RrO (n : Net) (p : Pln) (g : Nat) (o : List Tol) : Hp := ((Hp.none.put (0, 1000) ⟨g, 3, o.map Tol.row⟩).put (0, 5) ⟨0, 3, [plnD p]⟩).put (0, 4) ⟨0, 6, [netD n]⟩
def RrT (n : Net) (p : Pln) (g : Nat) (o : List Tol) (t : Tol) : Hp := (((Hp.none.put (0, 1000) ⟨g, 3, o.map Tol.row⟩).put (0, 15) ⟨0, 3, [t.row]⟩).put (0, 5) ⟨0, 3, [plnD p]⟩).put (0, 4) ⟨0, 6, [netD n]⟩
set_option maxHeartbeats 16000000 in
theorem rrun_w (n : Net) (p : Pln) (l : List Tol) (ticks : Int) (h : RunQ n p l) (nn : Nm) : CallsA Try.prog 42 [n.enc, p.enc, .sl (l.map Tol.row), di ticks] Hp.none nn (Pu (.tup [.sl ((rnL n p l ticks).map Tol.row), di (rnE n p l ticks)]) Hp.none) := by
  obtain ⟨code, h1, h2⟩ := c42_ok
  refine callsA_of TW2_ok mixed (N := fun t => (0, t)) Try.func42 h1 h2 r42_ok [] false js_nil js_nil' (by simp [Try.f42]) ?_
  have hll := h.few
  have hz := h.z
  have hz1 := h.z.1
  have hlw := h.w
  have hn1 := netOf1_x n
  have hp1 := plnOf1_x p
  have hE : toolE n p l = if checkI n = 0 then (if fckI n p = 0 then (if l.any (badT n) = true then 24 else 0) else fckI n p) else checkI n := by
    unfold toolE
    by_cases e1 : checkI n = 0
    · rw [if_neg (by omega), if_pos e1]
      by_cases e2 : fckI n p = 0
      · rw [if_neg (by omega), if_pos e2]
      · rw [if_pos e2, if_neg e2]
    · rw [if_pos e1, if_neg e1]
  by_cases e1 : checkI n = 0
  · rw [if_pos e1] at hE
    have hv := check0 e1
    have c1 : (checkI n != 0) = false := by simp [e1]
    by_cases e2 : fckI n p = 0
    · rw [if_pos e2] at hE
      have c2 : (fckI n p != 0) = false := by simp [e2]
      have hPv := fck0 e2
      simp (maxSteps:=500000) only [↓vp, vv, ↓reduceIte, simprocAttr, c42, c42_15, c42_14, TW2, selNet, selNP, Net.enc, netD, Pln.enc, plnD, hn1, hp1, hz, hz1, c1, c2]
      refine rng_loop l.length (fun j => ⟨fr (RrF l ticks [(12, di (j : Nat))]), RrH n p⟩) (fun j => ∀ (i : Nat) (t : Tol), i < j → l[i]? = some t → tolV n t = true) (weak_eq [] [(0, 4), (0, 5)] (RrF l ticks [(12, di 0)]) (by simp (maxSteps:=500000) only [↓vp, vv, ↓reduceIte, simprocAttr, coverS, RrF, RrH, netD, plnD]) (by simp (maxSteps:=500000) only [↓vp, vv, ↓reduceIte, simprocAttr, refsF, RrF, RrH, netD, plnD]) (by simp (maxSteps:=500000) only [↓vp, vv, ↓reduceIte, simprocAttr, RrF, RrH, netD, plnD]) (by simp) (by simp (maxSteps:=500000) only [↓vp, vv, ↓reduceIte, simprocAttr, RrF, RrH, netD, plnD]; try rfl)) (fun i t h => absurd h (by omega)) (fun j hj hP => ?_) (fun hP => ?_)
      · have hj' : (j : Int) < l.length := by omega
        have w1 := idx_next (j := j) (by omega)
        have hg := tolRow_g l j hj
        have hwj := hlw _ (List.getElem_mem hj)
        have hx : l[j]? = some l[j] := List.getElem?_eq_getElem hj
        have hm := List.getElem_mem hj
        generalize l[j] = t at hg hwj hx hm
        have ht1 := tolOf1_x t
        cases d1 : tolV n t with
        | false =>
          have hb : l.any (badT n) = true := List.any_eq_true.2 ⟨t, hm, by unfold badT; rw [d1]; rfl⟩
          rw [hb, if_pos rfl] at hE
          have hL : rnL n p l ticks = l := by unfold rnL; rw [hE, if_neg (by decide)]
          have hR : rnE n p l ticks = 24 := by unfold rnE; rw [hE, if_neg (by decide)]
          rw [hL, hR]
          simp (maxSteps:=500000) only [↓vp, vv, ↓reduceIte, simprocAttr, c42_3, c42_2, r42, TW2, selVal, RrF, RrH, netD, plnD, Tol.row, hj', idx_nn, hg, ht1, hn1, hv, hwj, d1, Int.toNat_natCast, Pu]
        | true =>
          simp (maxSteps:=500000) only [↓vp, vv, ↓reduceIte, simprocAttr, c42_3, c42_2, c42_1, TW2, selVal, RrF, RrH, netD, plnD, Tol.row, hj', idx_nn, hg, ht1, hn1, hv, hwj, d1, Int.toNat_natCast, w1]
          exact rng_next hj (weak_eq [] [(0, 4), (0, 5)] (RrF l ticks [(12, di (j + 1 : Nat))]) (by simp (maxSteps:=500000) only [↓vp, vv, ↓reduceIte, simprocAttr, coverS, RrF, RrH, netD, plnD, w1]) (by simp (maxSteps:=500000) only [↓vp, vv, ↓reduceIte, simprocAttr, refsF, RrF, RrH, netD, plnD, w1]) (by simp (maxSteps:=500000) only [↓vp, vv, ↓reduceIte, simprocAttr, RrF, RrH, netD, plnD, w1]) (by simp) (by simp (maxSteps:=500000) only [↓vp, vv, ↓reduceIte, simprocAttr, RrF, RrH, netD, plnD, w1]; try rfl)) (fun i t hi ht => by
            rcases Nat.lt_or_eq_of_le (Nat.lt_succ_iff.1 hi) with h | rfl
            · exact hP i t h ht
            · rw [hx] at ht; cases ht; exact d1)
      · have hval : ∀ t ∈ l, tolV n t = true := fun t ht => by
          obtain ⟨i, hi⟩ := List.getElem?_of_mem ht
          exact hP i t (List.getElem?_eq_some_iff.1 hi).1 hi
        have hb : l.any (badT n) = false := by
          cases e : l.any (badT n) with
          | false => rfl
          | true =>
            obtain ⟨t, ht, hbt⟩ := List.any_eq_true.1 e
            unfold badT at hbt
            rw [hval t ht] at hbt
            cases hbt
        rw [hb, if_neg Bool.false_ne_true] at hE
        have k1 : decide ((16 : Int) < l.length) = false := decide_eq_false (by omega)
        unfold rnL rnE
        simp only [if_pos hE]
        cases k2 : decide (ticks < 0) with
        | true =>
          have ho : outK ticks = true := by unfold outK; rw [k2, if_pos rfl]
          simp only [ho]
          simp (maxSteps:=500000) only [↓vp, vv, ↓reduceIte, simprocAttr, c42_3, c42_13, c42_12, r42, RrF, RrH, netD, plnD, Int.lt_irrefl, k1, k2, Pu]
        | false =>
          cases k3 : decide ((400 : Int) < ticks) with
          | true =>
            have ho : outK ticks = true := by unfold outK; rw [k2, if_neg Bool.false_ne_true, k3]
            simp only [ho]
            simp (maxSteps:=500000) only [↓vp, vv, ↓reduceIte, simprocAttr, c42_3, c42_13, c42_12, r42, RrF, RrH, netD, plnD, Int.lt_irrefl, k1, k2, k3, Pu]
          | false =>
            have ho : outK ticks = false := by unfold outK; rw [k2, if_neg Bool.false_ne_true, k3]
            have hK := of_decide_eq_false k2
            have hK2 := of_decide_eq_false k3
            obtain ⟨K, rfl⟩ : ∃ K : Nat, ticks = K := ⟨ticks.toNat, by omega⟩
            rw [Int.toNat_natCast]
            simp only [ho, Bool.false_eq_true, if_false]
            simp (maxSteps:=500000) only [↓vp, vv, ↓reduceIte, simprocAttr, c42_3, c42_13, c42_12, c42_11, RrF, RrH, netD, plnD, Int.lt_irrefl, k1, k2, k3]
            refine rng_loop l.length (fun j => ⟨fr (RrF l K [(13, .own (0, 1000) j 0 j), (14, di (j : Nat))]), RrO n p j ((l.take j).map (movK n p K))⟩) (fun _ => True) ((weak_own 13 (0, 1000) 3 (by simp (maxSteps:=500000) only [↓vp, vv, ↓reduceIte, simprocAttr, ]) (by simp (maxSteps:=500000) only [↓vp, vv, ↓reduceIte, simprocAttr, ])).trans (weak_eq [] [(0, 4), (0, 5), (0, 1000)] (RrF l K [(13, .own (0, 1000) 0 0 0), (14, di 0)]) (by simp (maxSteps:=500000) only [↓vp, vv, ↓reduceIte, simprocAttr, coverS, RrF, RrO, netD, plnD, List.take_zero, List.map_nil]) (by simp (maxSteps:=500000) only [↓vp, vv, ↓reduceIte, simprocAttr, refsF, RrF, RrO, netD, plnD, List.take_zero, List.map_nil]) (by simp (maxSteps:=500000) only [↓vp, vv, ↓reduceIte, simprocAttr, RrF, RrO, netD, plnD, List.take_zero, List.map_nil]) (by simp) (by simp (maxSteps:=500000) only [↓vp, vv, ↓reduceIte, simprocAttr, RrF, RrO, netD, plnD, List.take_zero, List.map_nil]; try rfl))) trivial (fun j hj _ => ?_) (fun _ => ?_)
            · have hj' : (j : Int) < l.length := by omega
              have w1 := idx_next (j := j) (by omega)
              have hg := tolRow_g l j hj
              have hwj : wayQ l[j] := hlw _ (List.getElem_mem hj)
              have hvj := hval _ (List.getElem_mem hj)
              have htk := List.take_append_getElem hj
              generalize l[j] = t at hg hwj hvj htk
              have ht1 := tolOf1_x t
              have y1 : (j + 1) * 40 ≤ 140737488355328 := by omega
              have y2 : j + 1 ≤ 4611686018427387904 := by omega
              have htl : ((l.take j).map (movK n p K)).length = j := by rw [List.length_map, List.length_take]; omega
              have hmn : (l.take (j + 1)).map (movK n p K) = (l.take j).map (movK n p K) ++ [movK n p K t] := by rw [← htk, List.map_append]; rfl
              simp (maxSteps:=500000) only [↓vp, vv, ↓reduceIte, simprocAttr, c42_9, c42_8, TW2, selTol, RrF, RrO, netD, plnD, Tol.enc, Tol.row, hj', idx_nn, hg, ht1, hwj, Int.toNat_natCast]
              refine rng_loop K (fun m => ⟨fr (RrF l K [(13, .own (0, 1000) j 0 j), (14, di (j : Nat)), (15, .ptr (0, 15) 0 0 0), (16, di (m : Nat))]), RrT n p j ((l.take j).map (movK n p K)) (movK n p m t)⟩) (fun _ => True) (weak_eq [] [(0, 4), (0, 5), (0, 15), (0, 1000)] (RrF l K [(13, .own (0, 1000) j 0 j), (14, di (j : Nat)), (15, .ptr (0, 15) 0 0 0), (16, di 0)]) (by simp (maxSteps:=500000) only [↓vp, vv, ↓reduceIte, simprocAttr, coverS, RrF, RrT, netD, plnD, Tol.row, movK]) (by simp (maxSteps:=500000) only [↓vp, vv, ↓reduceIte, simprocAttr, refsF, RrF, RrT, netD, plnD, Tol.row, movK]) (by simp (maxSteps:=500000) only [↓vp, vv, ↓reduceIte, simprocAttr, RrF, RrT, netD, plnD, Tol.row, movK]) (by simp) (by simp (maxSteps:=500000) only [↓vp, vv, ↓reduceIte, simprocAttr, RrF, RrT, netD, plnD, Tol.row, movK]; try rfl)) trivial (fun m hm _ => ?_) (fun _ => ?_)
              · have hm' : (m : Int) < K := by omega
                have wm := idx_next (j := m) (by omega)
                have hto : TolOk n (movK n p m t) := ((tolV_iff n t).1 hvj).movK hPv.net m
                have hmp : MvPre n p (movK n p m t) := ⟨hPv.net, hto, hPv.rl, plnv_rb hPv⟩
                have hsu := movK_succ n p m t
                generalize movK n p m t = u at *
                have hu1 : tolOf1 [.sl (u.way.map tHop), di u.hop, di u.pos] = some u := tolOf1_row u
                simp (maxSteps:=500000) only [↓vp, vv, ↓reduceIte, simprocAttr, c42_5, c42_4, TW2, selMv, RrF, RrT, netD, plnD, Tol.enc, Tol.row, hm', hn1, hp1, hu1, hmp, wm]
                exact rng_next hm (weak_eq [] [(0, 4), (0, 5), (0, 15), (0, 1000)] (RrF l K [(13, .own (0, 1000) j 0 j), (14, di (j : Nat)), (15, .ptr (0, 15) 0 0 0), (16, di (m + 1 : Nat))]) (by simp (maxSteps:=500000) only [↓vp, vv, ↓reduceIte, simprocAttr, coverS, RrF, RrT, netD, plnD, Tol.row, wm, hsu]) (by simp (maxSteps:=500000) only [↓vp, vv, ↓reduceIte, simprocAttr, refsF, RrF, RrT, netD, plnD, Tol.row, wm, hsu]) (by simp (maxSteps:=500000) only [↓vp, vv, ↓reduceIte, simprocAttr, RrF, RrT, netD, plnD, Tol.row, wm, hsu]) (by simp) (by simp (maxSteps:=500000) only [↓vp, vv, ↓reduceIte, simprocAttr, RrF, RrT, netD, plnD, Tol.row, wm, hsu]; try rfl)) trivial
              · simp (maxSteps:=500000) only [↓vp, vv, ↓reduceIte, simprocAttr, c42_5, c42_6, c42_7, RrF, RrT, netD, plnD, Tol.row, Int.lt_irrefl, htl, y1, y2, w1]
                exact rng_next hj (weak_eq [] [(0, 4), (0, 5), (0, 1000)] (RrF l K [(13, .own (0, 1000) (j + 1) 0 (j + 1)), (14, di (j + 1 : Nat))]) (by simp (maxSteps:=500000) only [↓vp, vv, ↓reduceIte, simprocAttr, coverS, RrF, RrO, netD, plnD, Tol.row, w1, hmn, List.map_append, List.map_cons, List.map_nil]) (by simp (maxSteps:=500000) only [↓vp, vv, ↓reduceIte, simprocAttr, refsF, RrF, RrO, netD, plnD, Tol.row, w1, hmn, List.map_append, List.map_cons, List.map_nil]) (by simp (maxSteps:=500000) only [↓vp, vv, ↓reduceIte, simprocAttr, RrF, RrO, netD, plnD, Tol.row, w1, hmn, List.map_append, List.map_cons, List.map_nil]) (by simp) (by simp (maxSteps:=500000) only [↓vp, vv, ↓reduceIte, simprocAttr, RrF, RrO, netD, plnD, Tol.row, w1, hmn, List.map_append, List.map_cons, List.map_nil]; try rfl)) trivial
            · rw [List.take_length]
              have tk : ((l.map (movK n p K)).map Tol.row).take l.length = (l.map (movK n p K)).map Tol.row := List.take_of_length_le (by simp)
              simp (maxSteps:=500000) only [↓vp, vv, ↓reduceIte, simprocAttr, c42_9, c42_10, r42, RrF, RrO, netD, plnD, Int.lt_irrefl, tk, List.length_map, Nat.le_refl, Pu]
              exact fun j _ d hd => (by
                rcases List.mem_cons.1 hd with rfl | hd
                · rfl
                · rcases List.mem_cons.1 hd with rfl | hd
                  · rfl
                  · rw [List.mem_singleton.1 hd]; rfl)
    · rw [if_neg e2] at hE
      have c2 : (fckI n p != 0) = true := by simpa using e2
      have hL : rnL n p l ticks = l := by unfold rnL; rw [hE, if_neg e2]
      have hR : rnE n p l ticks = fckI n p := by unfold rnE; rw [hE, if_neg e2]
      rw [hL, hR]
      simp (maxSteps:=500000) only [↓vp, vv, ↓reduceIte, simprocAttr, c42, c42_15, r42, TW2, selNet, selNP, Net.enc, netD, Pln.enc, plnD, hn1, hp1, hz, hz1, c1, c2, Pu]
  · rw [if_neg e1] at hE
    have c1 : (checkI n != 0) = true := by simpa using e1
    have hL : rnL n p l ticks = l := by unfold rnL; rw [hE, if_neg e1]
    have hR : rnE n p l ticks = checkI n := by unfold rnE; rw [hE, if_neg e1]
    rw [hL, hR]
    simp (maxSteps:=500000) only [↓vp, vv, ↓reduceIte, simprocAttr, c42, r42, TW2, selNet, selNP, Net.enc, netD, Pln.enc, plnD, hn1, hp1, hz, hz1, c1, Pu]
def rnm (i j k : Nm) : Nm := if k = i then j else k
mutual
def D.ren (i j : Nm) : D → D
  | .v x => .v x
  | .any => .any
  | .agg cs => .agg (renDs i j cs)
  | .tup cs => .tup (renDs i j cs)
  | .sl l => .sl l
  | .ip f => .ip f
  | .mt => .mt
  | .own k g off n => .own (rnm i j k) g off n
  | .ptr k g r c => .ptr (rnm i j k) g r c
  | .clo f fs cs => .clo f (renDs i j fs) (renDs i j cs)
def renDs (i j : Nm) : List D → List D
  | [] => []
  | d :: ds => d.ren i j :: renDs i j ds
end
theorem renDs_map (i j : Nm) : ∀ l : List D, renDs i j l = l.map (D.ren i j)
  | [] => by rw [renDs]; rfl
  | d :: l => by rw [renDs, renDs_map i j l]; rfl
def En.ren (i j : Nm) (e : En) : En := ⟨e.g, e.sz, e.rows.map (renDs i j)⟩
def Hp.ren (i j : Nm) (H : Hp) : Hp := fun k => if k = j then (match H i with | some e => some (e.ren i j) | Option.none => Option.none) else if k = i then Option.none else (match H k with | some e => some (e.ren i j) | Option.none => Option.none)
theorem ren_plain {Im : Nat → Prop} {h : Array Obj} {d : D} {x : Value} (r : RelP Im h d x) (i j : Nm) : d.ren i j = d := by
  cases r <;> rw [D.ren]
theorem hren_some {i j k : Nm} {H : Hp} {e : En} (hk : H k = some e) (hj : H j = Option.none) : (H.ren i j) (rnm i j k) = some (e.ren i j) := by
  unfold rnm Hp.ren
  by_cases h : k = i
  · subst h
    rw [if_pos rfl, if_pos rfl, hk]
  · rw [if_neg h, if_neg (fun e' => by rw [e', hj] at hk; cases hk), if_neg h, hk]
theorem prn {p : Pl} {i j k : Nm} {H : Hp} {e : En} (hk : H k = some e) (hj : H j = Option.none) : (p.put j (p i)) (rnm i j k) = p k := by
  unfold rnm
  by_cases h : k = i
  · subst h
    rw [if_pos rfl, Pl.put_same]
  · rw [if_neg h, Pl.put_other _ (fun e' => by rw [e', hj] at hk; cases hk)]
theorem Rel.ren {Im : Nat → Prop} {p : Pl} {H : Hp} {h : Array Obj} {d : D} {x : Value} (i j : Nm) (hj : H j = Option.none) (r : Rel Im p H h d x) : Rel Im (p.put j (p i)) (H.ren i j) h (d.ren i j) x := by
  induction r with
  | p r => rw [ren_plain r]; exact .p r
  | agg cs us hl h1 hr ih =>
    rw [D.ren, renDs_map]
    refine .agg _ us (by simpa using hl) h1 fun m d u hd hu => ?_
    rw [List.getElem?_map] at hd
    cases e : cs[m]? with
    | none => rw [e] at hd; cases hd
    | some d' => rw [e] at hd; cases hd; exact ih m d' u e hu
  | tup cs us hl hr ih =>
    rw [D.ren, renDs_map]
    refine .tup _ us (by simpa using hl) fun m d u hd hu => ?_
    rw [List.getElem?_map] at hd
    cases e : cs[m]? with
    | none => rw [e] at hd; cases hd
    | some d' => rw [e] at hd; cases hd; exact ih m d' u e hu
  | ip f b o u him hcell hr => rw [D.ren]; exact .ip f b o u him hcell hr
  | own k g off n a cap e hH hg hn hl =>
    rw [D.ren]
    refine .own _ g off n a cap _ (hren_some hH hj) hg hn fun hge hc => ?_
    obtain ⟨q1, q2, c, t, q3, q4⟩ := hl hge hc
    rw [prn hH hj]
    exact ⟨q1, by simpa [En.ren] using q2, c, t, q3, q4⟩
  | ptr k g r c x h1 e hH hg hx =>
    rw [D.ren]
    refine .ptr _ g r c x h1 _ (hren_some hH hj) hg fun hge => ?_
    rw [prn hH hj]
    exact hx hge
  | clo f fs cs us vs hl hl' hr hr' ih ih' =>
    rw [D.ren, renDs_map, renDs_map]
    refine .clo f _ _ us vs (by simpa using hl) (by simpa using hl') (fun m d u hd hu => ?_) fun m d u hd hu => ?_
    · rw [List.getElem?_map] at hd
      cases e : fs[m]? with
      | none => rw [e] at hd; cases hd
      | some d' => rw [e] at hd; cases hd; exact ih m d' u e hu
    · rw [List.getElem?_map] at hd
      cases e : cs[m]? with
      | none => rw [e] at hd; cases hd
      | some d' => rw [e] at hd; cases hd; exact ih' m d' u e hu
theorem hren_inv {i j k : Nm} {H : Hp} {e : En} (hj : H j = Option.none) (hk : (H.ren i j) k = some e) : ∃ k' e', H k' = some e' ∧ k = rnm i j k' ∧ e = e'.ren i j := by
  unfold Hp.ren at hk
  split at hk
  · rename_i h
    split at hk
    · rename_i e' h'
      cases hk
      exact ⟨i, e', h', by unfold rnm; rw [if_pos rfl, h], rfl⟩
    · cases hk
  · rename_i h
    split at hk
    · cases hk
    · rename_i h2
      split at hk
      · rename_i e' h'
        cases hk
        exact ⟨k, e', h', by unfold rnm; rw [if_neg h2], rfl⟩
      · cases hk
theorem RowsAt.ren {Im : Nat → Prop} {p : Pl} {H : Hp} {h : Array Obj} {c : Array Value} {s sz : Nat} {rows : List (List D)} (i j : Nm) (hj : H j = Option.none) (r : RowsAt Im p H h c s sz rows) : RowsAt Im (p.put j (p i)) (H.ren i j) h c s sz (rows.map (renDs i j)) := by
  refine ⟨fun x hx => ?_, by rw [List.length_map]; exact r.le, fun a b row d ha hb => ?_⟩
  · obtain ⟨y, hy, rfl⟩ := List.mem_map.1 hx
    rw [renDs_map, List.length_map]
    exact r.len y hy
  · rw [List.getElem?_map] at ha
    cases e : rows[a]? with
    | none => rw [e] at ha; cases ha
    | some row' =>
      rw [e] at ha
      cases ha
      rw [renDs_map, List.getElem?_map] at hb
      cases e2 : row'[b]? with
      | none => rw [e2] at hb; cases hb
      | some d' =>
        rw [e2] at hb
        cases hb
        obtain ⟨u, u1, u2, u3⟩ := r.cell a b row' d' e e2
        exact ⟨u, u1, u2.ren i j hj, u3⟩
theorem weak_ren {J : List Nm} {F : Fr} {H : Hp} (i j : Nm) (hj : H j = Option.none) (hJ : i ∉ J) : Weak J ⟨F, H⟩ ⟨fun t => (F t).ren i j, H.ren i j⟩ := by
  intro E hE Im p a w hR
  have hni : ∀ {k k' e e'}, H k = some e → H k' = some e' → rnm i j k = rnm i j k' → k = k' := fun {k k' e e'} hk hk' h => by
    have nk : k ≠ j := fun h' => by rw [h', hj] at hk; cases hk
    have nk' : k' ≠ j := fun h' => by rw [h', hj] at hk'; cases hk'
    unfold rnm at h
    split at h <;> split at h
    · rename_i h1 h2; rw [h1, h2]
    · exact absurd h.symm nk'
    · exact absurd h nk
    · exact h
  refine ⟨Im, p.put j (p i), hR.sz, fun t => (hR.fr t).ren i j hj, ⟨fun k e hk hn => ?_, fun k l e e' hk hl nk nl hkl => ?_, hR.hp.im⟩, ⟨hR.en.os, hR.en.tape, hR.en.output, hR.en.size, hR.en.block, hR.en.im, hR.en.im', fun k e hk hn => ?_⟩, ⟨hR.gr.im, hR.gr.blk, fun k e hk => ?_⟩, hR.df⟩
  · obtain ⟨k', e', h1, rfl, rfl⟩ := hren_inv hj hk
    have hn' : e'.rows ≠ [] := fun h => hn (by simp [En.ren, h])
    obtain ⟨c, t, q1, q2, q3⟩ := hR.hp.cell k' e' h1 hn'
    rw [prn h1 hj]
    exact ⟨c, t, q1, q2, q3.ren i j hj⟩
  · obtain ⟨k', e1, h1, rfl, rfl⟩ := hren_inv hj hk
    obtain ⟨l', e2, h2, rfl, rfl⟩ := hren_inv hj hl
    rw [prn h1 hj, prn h2 hj]
    exact hR.hp.inj k' l' e1 e2 h1 h2 (fun h => nk (by simp [En.ren, h])) (fun h => nl (by simp [En.ren, h])) (fun h => hkl (by rw [h]))
  · obtain ⟨k', e', h1, rfl, rfl⟩ := hren_inv hj hk
    rw [prn h1 hj]
    exact hR.en.ids k' e' h1 (fun h => hn (by simp [En.ren, h]))
  · obtain ⟨e', h1, h2, h3⟩ := hR.gr.ids k e hk
    have hki : k ≠ i := fun h => hJ (h ▸ hE k e hk)
    have ek : rnm i j k = k := by unfold rnm; rw [if_neg hki]
    have hs := hren_some (i := i) h1 hj
    have hp := prn (p := p) (i := i) h1 hj
    rw [ek] at hs hp
    refine ⟨_, hs, h2, fun he => ?_⟩
    obtain ⟨q1, q2, q3⟩ := h3 he
    rw [hp]
    exact ⟨q1, q2, fun hn => ⟨by simpa [En.ren] using (q3 hn).1, (q3 hn).2⟩⟩
def D.nil : D → D
  | .mt => .sl []
  | d => d
theorem Rel.nil {Im : Nat → Prop} {p : Pl} {H : Hp} {h : Array Obj} {d : D} {x : Value} (r : Rel Im p H h d x) : Rel Im p H h d.nil x := by
  cases d with
  | mt =>
    cases r with
    | p r =>
      cases r with
      | mt a => exact .p (.sl0 a 0)
  | _ => exact r
theorem weak_nil {J : List Nm} {F : Fr} {H : Hp} (j : Nm) (g sz : Nat) (rows : List (List D)) (hj : H j = some ⟨g, sz, rows⟩) : Weak J ⟨F, H⟩ ⟨F, H.put j ⟨g, sz, rows.map fun r => r.map D.nil⟩⟩ := by
  intro E hE Im p a w hR
  have hne : (rows.map fun r => r.map D.nil) ≠ [] → rows ≠ [] := fun h h' => h (by rw [h']; rfl)
  have T : Turn Im p H w.heap j ⟨g, sz, rows⟩ ⟨g, sz, rows.map fun r => r.map D.nil⟩ (p j) w.heap := by
    refine ⟨.inl hj, .inr (.inr ⟨rfl, rfl, rfl, fun hn => ?_⟩), fun _ _ _ => rfl, Nat.le_refl _, fun h => .inl ⟨hne h, rfl⟩, fun h => ?_⟩
    · obtain ⟨c, t, k1, _⟩ := hR.hp.cell j _ hj hn
      exact ⟨by simpa using hn, c, t, c, k1, k1, rfl⟩
    · obtain ⟨c, t, k1, _, k2⟩ := hR.hp.cell j _ hj (hne h)
      refine ⟨c, t, k1, fun r hr => ?_, by dsimp only; rw [List.length_map]; exact k2.le, fun r m row d hr hd => ?_⟩
      · obtain ⟨y, hy, rfl⟩ := List.mem_map.1 hr
        rw [List.length_map]
        exact k2.len y hy
      · rw [List.getElem?_map] at hr
        cases e : rows[r]? with
        | none => rw [e] at hr; cases hr
        | some row' =>
          rw [e] at hr
          cases hr
          rw [List.getElem?_map] at hd
          cases e2 : row'[m]? with
          | none => rw [e2] at hd; cases hd
          | some d' =>
            rw [e2] at hd
            cases hd
            obtain ⟨u, u1, u2, u3⟩ := k2.cell r m row' d' e e2
            exact ⟨u, u1, u2.nil, u3⟩
  have ep : p.put j (p j) = p := by funext k; unfold Pl.put; split <;> simp_all
  have G := T.grows hR.hp
  have R1 := T.relH hR.hp
  have X1 := T.relE hR.hp hR.en rfl rfl rfl
  rw [ep] at G R1 X1
  exact ⟨Im, p, hR.sz, fun k => (hR.fr k).mono G, R1, X1, hR.gr.trans G, hR.df⟩
theorem hren_at (i j k : Nm) (H : Hp) : (H.ren i j) k = if k = j then (match H i with | some e => some (e.ren i j) | Option.none => Option.none) else if k = i then Option.none else (match H k with | some e => some (e.ren i j) | Option.none => Option.none) := rfl
def selLauW : List D → Option (Prop × D)
  | [.agg a, .sl r] => match netOf1 a, lsOf tHopOf1 r with
    | some n, some w => some (NetSz n ∧ w.length ≤ 1000000, .tup [(lauT n w).enc, di (lauE n w)])
    | _, _ => Option.none
  | _ => Option.none
theorem tc_lauw {f : FuncId} {T : Tbl} (hf : fnOk Try.prog f = true) (h : ∀ n, NetSz n → ∀ w : List (Int × Bool), w.length ≤ 1000000 → ∀ nn, CallsA Try.prog f [n.enc, .sl (w.map tHop)] Hp.none nn (Pu (.tup [(lauT n w).enc, di (lauE n w)]) Hp.none)) (hT : TblOk Try.prog T) : TblOk Try.prog (tc f (rowPu selLauW) T) :=
  tc_pu hf (fun args pre d hs hp nn => by
    unfold selLauW at hs
    split at hs
    · split at hs
      · rename_i e1 e2
        cases hs
        rw [netOf1_eq e1, lsOf_eq (fun r x => tHopOf1_eq) e2]
        exact h _ hp.1 _ hp.2 nn
      · cases hs
    · cases hs) hT
def selMovW : List D → Option (Prop × D)
  | [.agg a, .agg b, .agg c] => match netOf1 a, plnOf1 b, tolOf1 c with
    | some n, some p, some t => some (FckPre n p ∧ t.way.length ≤ 1000000, .tup [(movT n p t).enc, di (movE n p t)])
    | _, _, _ => Option.none
  | _ => Option.none
theorem tc_movw {f : FuncId} {T : Tbl} (hf : fnOk Try.prog f = true) (h : ∀ n, NetSz n → ∀ p t, FckPre n p → t.way.length ≤ 1000000 → ∀ nn, CallsA Try.prog f [n.enc, p.enc, t.enc] Hp.none nn (Pu (.tup [(movT n p t).enc, di (movE n p t)]) Hp.none)) (hT : TblOk Try.prog T) : TblOk Try.prog (tc f (rowPu selMovW) T) :=
  tc_pu hf (fun args pre d hs hp nn => by
    unfold selMovW at hs
    split at hs
    · split at hs
      · rename_i e1 e2 e3
        cases hs
        rw [netOf1_eq e1, plnOf1_eq e2, tolOf1_eq e3]
        exact h _ hp.1.1 _ _ hp.1 hp.2 nn
      · cases hs
    · cases hs) hT
def selRunW : List D → Option (Prop × D)
  | [.agg a, .agg b, .sl r, .v (.int .i64 k)] => match netOf1 a, plnOf1 b, lsOf tolOf1 r with
    | some n, some p, some l => some (RunQ n p l, .tup [.sl ((rnL n p l k).map Tol.row), di (rnE n p l k)])
    | _, _, _ => Option.none
  | _ => Option.none
theorem tc_runw {f : FuncId} {T : Tbl} (hf : fnOk Try.prog f = true) (h : ∀ n p l k, RunQ n p l → ∀ nn, CallsA Try.prog f [n.enc, p.enc, .sl (l.map Tol.row), di k] Hp.none nn (Pu (.tup [.sl ((rnL n p l k).map Tol.row), di (rnE n p l k)]) Hp.none)) (hT : TblOk Try.prog T) : TblOk Try.prog (tc f (rowPu selRunW) T) :=
  tc_pu hf (fun args pre d hs hp nn => by
    unfold selRunW at hs
    split at hs
    · split at hs
      · rename_i e1 e2 e3
        cases hs
        rw [netOf1_eq e1, plnOf1_eq e2, lsOf_eq (fun r x => tolOf1_eq) e3]
        exact h _ _ _ _ hp nn
      · cases hs
    · cases hs) hT
def selBhW : List D → Option (Prop × D)
  | [.agg a, .agg b, .agg c] => match netOf1 a, tolOf1 b, tolOf1 c with
    | some n, some x, some y => some (NetSz n ∧ x.way.length ≤ 1000000 ∧ y.way.length ≤ 1000000, .tup [db (behB' n x y), di (behE' n x y)])
    | _, _, _ => Option.none
  | _ => Option.none
theorem tc_bhw {f : FuncId} {T : Tbl} (hf : fnOk Try.prog f = true) (h : ∀ n, NetSz n → ∀ a b : Tol, a.way.length ≤ 1000000 → b.way.length ≤ 1000000 → ∀ nn, CallsA Try.prog f [n.enc, a.enc, b.enc] Hp.none nn (Pu (.tup [db (behB' n a b), di (behE' n a b)]) Hp.none)) (hT : TblOk Try.prog T) : TblOk Try.prog (tc f (rowPu selBhW) T) :=
  tc_pu hf (fun args pre d hs hp nn => by
    unfold selBhW at hs
    split at hs
    · split at hs
      · rename_i e1 e2 e3
        cases hs
        rw [netOf1_eq e1, tolOf1_eq e2, tolOf1_eq e3]
        exact h _ hp.1 _ _ hp.2.1 hp.2.2 nn
      · cases hs
    · cases hs) hT
def selValW : List D → Option (Prop × D)
  | [.agg a, .agg b] => match netOf1 a, tolOf1 b with
    | some n, some t => some (NetSz n ∧ t.way.length ≤ 1000000, db (if checkI n = 0 then tolV n t else false))
    | _, _ => Option.none
  | _ => Option.none
theorem tc_valw {f : FuncId} {T : Tbl} (hf : fnOk Try.prog f = true) (h : ∀ n, NetSz n → ∀ t : Tol, t.way.length ≤ 1000000 → ∀ nn, CallsA Try.prog f [n.enc, t.enc] Hp.none nn (Pu (db (if checkI n = 0 then tolV n t else false)) Hp.none)) (hT : TblOk Try.prog T) : TblOk Try.prog (tc f (rowPu selValW) T) :=
  tc_pu hf (fun args pre d hs hp nn => by
    unfold selValW at hs
    split at hs
    · split at hs
      · rename_i e1 e2
        cases hs
        rw [netOf1_eq e1, tolOf1_eq e2]
        exact h _ hp.1 _ hp.2 nn
      · cases hs
    · cases hs) hT
def TMe (T : Tbl) : Tbl := tc 23 (rowPu selAw) (tc 38 (rowPu selLauW) (tc 39 (rowPu selLauW) (tc 28 (rowPu selMovW) (tc 40 (rowPu selMovW) (tc 41 (rowPu selRunW) (tc 42 (rowPu selRunW) (tc 43 (rowPu selBhW) (tc 44 (rowPu selBhW) (tc 46 (rowPu selValW) (tc 47 (rowPu selValW) (tc 30 (rowPu (selTol (fun _ => True) fun t => db (recB t))) (tc 48 (rowPu (selTol (fun _ => True) fun t => db (recB t))) (tc 45 (rowPu selSame) T)))))))))))))
theorem TMe_ok {T : Tbl} (hT : TblOk Try.prog T) : TblOk Try.prog (TMe T) := tc_pu f23_ok (fun args pre d h hp nn => by
  unfold selAw at h
  split at h
  · cases h; exact awake32_c nn
  · cases h) (tc_lauw f38_ok (fun n hz w hw nn => launch_w n hz w hw nn) (tc_lauw f39_ok (fun n hz w hw nn => rlaunch_w n hz w hw nn) (tc_movw f28_ok (fun n hz p t hp hw nn => move_w n hz p t hp hw nn) (tc_movw f40_ok (fun n hz p t hp hw nn => rmove_w n hz p t hp hw nn) (tc_runw f41_ok trun_w (tc_runw f42_ok rrun_w (tc_bhw f43_ok behind_w (tc_bhw f44_ok rbehind_w (tc_valw f46_ok (fun n hz t hw nn => valid_w n hz t hw nn) (tc_valw f47_ok (fun n hz t hw nn => rvalid_w n hz t hw nn) (tc_tol f30_ok (fun t _ nn => received_c t nn) (tc_tol f48_ok (fun t _ nn => rrec_c t nn) (tc_pu f45_ok (fun args pre d hs hp nn => by
  unfold selSame at hs
  split at hs
  · split at hs
    · rename_i e1 e2
      cases hs
      obtain ⟨rfl, h1, h2⟩ := hp
      rw [lsOf_eq (fun r x => tolOf1_eq) e1, lsOf_eq (fun r x => tolOf1_eq) e2]
      exact tsame_c _ h1 h2 nn
    · cases hs
  · cases hs) hT)))))))))))))
theorem lauT_way (n : Net) (w : List (Int × Bool)) (h : w.length ≤ 1000000) : (lauT n w).way.length ≤ 1000000 := by
  unfold lauT
  split
  · split
    · exact h
    · simp
  · simp
theorem movT_way (n : Net) (p : Pln) (t : Tol) : (movT n p t).way = t.way := by
  unfold movT
  split
  · exact mov1_way n p t
  · rfl
theorem movK_w (n : Net) (p : Pln) : ∀ (k : Nat) (t : Tol), (movK n p k t).way = t.way
  | 0, t => rfl
  | k + 1, t => by
    show (movK n p k (mov1 n p t)).way = t.way
    rw [movK_w n p k, mov1_way]
theorem rnL_len (n : Net) (p : Pln) (l : List Tol) (k : Int) : (rnL n p l k).length = l.length := by
  unfold rnL
  split
  · split
    · rfl
    · rw [List.length_map]
  · rfl
theorem rnL_way (n : Net) (p : Pln) (l : List Tol) (k : Int) (h : ∀ t ∈ l, t.way.length ≤ 1000000) : ∀ t ∈ rnL n p l k, t.way.length ≤ 1000000 := by
  unfold rnL
  split
  · split
    · exact h
    · intro t ht
      obtain ⟨u, hu, rfl⟩ := List.mem_map.1 ht
      rw [movK_w]
      exact h u hu
  · exact h
def TmF (l : List Tol) (k : Int) : List (Nat × D) := [(8, .ptr (0, 8) 0 0 0), (9, .ptr (0, 9) 0 0 0), (11, .sl (l.map Tol.row)), (14, di k)]
def TmH (n : Net) (p : Pln) : Hp := (Hp.none.put (0, 9) ⟨0, 3, [plnD p]⟩).put (0, 8) ⟨0, 6, [netD n]⟩
set_option maxHeartbeats 16000000 in
theorem tm_end (T : Tbl) (n : Net) (p : Pln) (l : List Tol) (k : Int) (h : RunQ n p l) (h0 : 0 < l.length) : vc (TMe T) (fun t => (0, t)) [] c5_5 (finQ r5 [] false (Pu (db true) Hp.none)) ⟨fr (TmF l k), TmH n p⟩ := by
  have hn1 := netOf1_x n
  have hp1 := plnOf1_x p
  have hl1 : lsOf tolOf1 (l.map Tol.row) = some l := lsOf_map tolOf1_row l
  have hz := h.z
  have hz1 := h.z.1
  have hfew := h.few
  have g0 := tolRow_g l 0 h0
  have gm := tolRow_g l (l.length - 1) (by omega)
  have w0 : l[0].way.length ≤ 1000000 := h.w _ (List.getElem_mem h0)
  have wm : l[l.length - 1].way.length ≤ 1000000 := h.w _ (List.getElem_mem (by omega))
  have z0 : (0 : Int) < l.length := by omega
  have zm : ((l.length - 1 : Nat) : Int) < l.length := by omega
  have wl : IntKind.i64.wrap ((l.length : Int) - 1) = ((l.length - 1 : Nat) : Int) := by rw [wrap_i (by omega)]; omega
  generalize l[0] = a at g0 w0
  generalize l[l.length - 1] = b at gm wm
  have ha1 : tolOf1 [.sl (a.way.map tHop), di a.hop, di a.pos] = some a := tolOf1_row a
  have hb1 : tolOf1 [.sl (b.way.map tHop), di b.hop, di b.pos] = some b := tolOf1_row b
  have hw1 : lsOf tHopOf1 (a.way.map tHop) = some a.way := lsOf_map tHopOf1_row a.way
  have lA := lauT_way n a.way w0
  have lC : (movT n p a).way.length ≤ 1000000 := by rw [movT_way]; exact w0
  obtain ⟨A, hA⟩ : ∃ A, lauT n a.way = A := ⟨_, rfl⟩
  obtain ⟨C, hC⟩ : ∃ C, movT n p a = C := ⟨_, rfl⟩
  obtain ⟨X, hX⟩ : ∃ X, rnL n p l k = X := ⟨_, rfl⟩
  rw [hA] at lA
  rw [hC] at lC
  have hs1 : lsOf tolOf1 [[.sl (A.way.map tHop), di A.hop, di A.pos], [.sl (C.way.map tHop), di C.hop, di C.pos]] = some [A, C] := lsOf_map (g := Tol.row) tolOf1_row [A, C]
  have hs2 : lsOf tolOf1 (X.map Tol.row) = some X := lsOf_map tolOf1_row X
  have lX : X.length ≤ 1000000 := by rw [← hX, rnL_len]; omega
  have lXw : (∀ t ∈ X, t.way.length ≤ 1000000) = True := eq_true (by rw [← hX]; exact rnL_way n p l k h.w)
  have l2 : (2 : Nat) ≤ 1000000 := by decide
  have hA1 : tolOf1 [.sl (A.way.map tHop), di A.hop, di A.pos] = some A := tolOf1_row A
  have b1 : ∀ x : Bool, (x == x) = true := fun x => beq_self_eq_true x
  have i1 : ∀ x : Int, (x == x) = true := fun x => beq_self_eq_true x
  simp (maxSteps:=500000) only [↓vp, vv, ↓reduceIte, simprocAttr, c5_5, r5, TMe, selAw, selLauW, selMovW, selRunW, selBhW, selValW, selTol, selSame, TmF, TmH, netD, plnD, Tol.enc, Tol.row, hn1, hp1, hl1, hz, hz1, h, g0, gm, w0, wm, z0, zm, wl, ha1, hb1, hw1, hA, hC, hX, lA, lC, hs1, hs2, lX, lXw, l2, hA1, b1, i1, Int.toNat_natCast, idx_nn, Pu]
  done
end Go.Proofs.Ytadjhfjiimgddaa
