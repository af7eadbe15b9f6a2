/- TankAnswers: TkW TkS TkU TkR. -/
import Derived.Test.YtadjhfjiimgddaaTA4
import Derived.Test.YtadjhfjiimgddaaTA5
import Derived.Test.YtadjhfjiimgddaaTA6
import Derived.Test.YtadjhfjiimgddaaTA7

/- Tanks: the walks of Valid and of the volumes. -/
namespace Go.Proofs.Ytadjhfjiimgddaa
open Go
set_option linter.unusedVariables false
set_option linter.unusedSimpArgs false
set_option maxRecDepth 100000

def Strap.row (s : Strap) : List D := [di s.lv, di s.vl]
def strapOf1 : List D → Option Strap
  | [.v (.int .i64 a), .v (.int .i64 b)] => some ⟨a, b⟩
  | _ => Option.none
theorem strapOf1_row (s : Strap) : strapOf1 s.row = some s := rfl
theorem strapOf1_eq {r : List D} {s : Strap} (h : strapOf1 r = some s) : r = s.row := by
  unfold strapOf1 at h
  split at h
  · cases h; rfl
  · cases h
structure Tnk where
  nm : ByteArray
  l : List Strap
  lo : Int
  hi : Int
def tnkD (t : Tnk) : List D := [ds t.nm, .sl (t.l.map Strap.row), di t.lo, di t.hi]
def Tnk.enc (t : Tnk) : D := .agg (tnkD t)
def tnkOf1 : List D → Option Tnk
  | [.v (.string nm), .sl rows, .v (.int .i64 a), .v (.int .i64 b)] => match lsOf strapOf1 rows with
    | some l => some ⟨nm, l, a, b⟩
    | Option.none => Option.none
  | _ => Option.none
theorem tnkOf1_row (t : Tnk) : tnkOf1 (tnkD t) = some t := by
  have e := lsOf_map strapOf1_row t.l
  unfold tnkD tnkOf1
  simp only [e]
theorem tnkOf1_eq {r : List D} {t : Tnk} (h : tnkOf1 r = some t) : r = tnkD t := by
  unfold tnkOf1 at h
  split at h
  · split at h
    · rename_i hl
      cases h
      rw [lsOf_eq (g := Strap.row) (fun r x e => strapOf1_eq e) hl]
      rfl
    · cases h
  · cases h
def Tnk.ok (t : Tnk) : Bool := tValid t.nm t.l t.lo t.hi
def TkSz (t : Tnk) : Prop := t.l.length ≤ 1000000
theorem row_st (l : List Strap) (j : Nat) (h : j < l.length) : (l.map Strap.row).getD j [] = (st l j).row := by rw [getD_map Strap.row l j h, st_get h]
def TkF (t : Tnk) (l : List (Nat × D)) : List (Nat × D) := (1, .ptr (0, 1) 0 0 0) :: l
def TkH (t : Tnk) : Hp := Hp.none.put (0, 1) ⟨0, 4, [tnkD t]⟩
theorem stOk_not {l : List Strap} {nm : ByteArray} {lo hi : Int} {j : Nat} (hj : j < l.length) (h : ¬ stOk l j) : tValid nm l lo hi = false := decide_eq_false fun k => h (k.2.2.1 j hj)
/-- The end of both functions. -/
theorem tv_end {t : Tnk} {m : Nat} (hl : t.l.length = m + 1) (hn : nameB t.nm = true) (h2 : 2 ≤ t.l.length) (h16 : t.l.length ≤ 16) (hall : ∀ i, i < t.l.length → stOk t.l i) : t.ok = if decide ((st t.l 0).lv ≤ t.lo) = true then (if decide (t.hi ≤ (st t.l m).lv) = true then decide (t.lo < t.hi) else false) else false := by
  unfold Tnk.ok tValid
  rw [Bool.eq_iff_iff, decide_eq_true_eq]
  unfold tOk
  rw [hl, Nat.add_sub_cancel]
  by_cases a1 : (st t.l 0).lv ≤ t.lo
  · by_cases a2 : t.hi ≤ (st t.l m).lv
    · simp only [a1, a2, decide_true, if_true, decide_eq_true_eq]
      exact ⟨fun h => h.2.2.2.2.2, fun h => ⟨hn, ⟨by omega, by omega⟩, fun i hi => hall i (by omega), trivial, trivial, h⟩⟩
    · simp only [a1, a2, decide_true, decide_false, if_true]
      exact ⟨fun h => absurd h.2.2.2.2.1 id, fun h => by cases h⟩
  · simp only [a1, decide_false]
    exact ⟨fun h => absurd h.2.2.2.1 id, fun h => by cases h⟩
set_option maxHeartbeats 8000000 in
theorem valid_c (t : Tnk) (hz : TkSz t) (nn : Nm) : CallsA Try.prog 11 [t.enc] Hp.none nn (Pu (db t.ok) Hp.none) := by
  obtain ⟨code, h1, h2⟩ := c11_ok
  refine callsA_of (tc_pu (sel := fun a => match a with | [.v (.string s)] => some (True, db (nameB s)) | _ => Option.none) f67_ok (fun args pre d h hp nn => by
    split at h <;> cases h
    exact lname_c _ nn) (T0_ok _)) mixed (N := fun t => (0, t)) Try.func11 h1 h2 r11_ok [] false js_nil js_nil' (by simp [Try.f11]) ?_
  unfold TkSz at hz
  cases c0 : nameB t.nm with
  | false =>
    have hf : t.ok = false := decide_eq_false fun h => by have := h.1; rw [c0] at this; cases this
    simp (config := { maxSteps := 500000 }) only [↓vp, vv, implies_true, forall_const, undef, InI, ↓reduceIte, simprocAttr, c11, r11, Tnk.enc, tnkD, c0, hf, Pu]
  | true =>
  cases c1 : decide ((t.l.length : Int) < 2) with
  | true =>
    have hf : t.ok = false := decide_eq_false fun h => by have := h.2.1.1; have := of_decide_eq_true c1; omega
    simp (config := { maxSteps := 500000 }) only [↓vp, vv, implies_true, forall_const, undef, InI, ↓reduceIte, simprocAttr, c11, r11, Tnk.enc, tnkD, c0, c1, hf, Pu]
  | false =>
  cases c2 : decide ((16 : Int) < t.l.length) with
  | true =>
    have hf : t.ok = false := decide_eq_false fun h => by have := h.2.1.2; have := of_decide_eq_true c2; omega
    simp (config := { maxSteps := 500000 }) only [↓vp, vv, implies_true, forall_const, undef, InI, ↓reduceIte, simprocAttr, c11, r11, Tnk.enc, tnkD, c0, c1, c2, hf, Pu]
  | false =>
    have l2 : 2 ≤ t.l.length := by have := of_decide_eq_false c1; omega
    have l16 : t.l.length ≤ 16 := by have := of_decide_eq_false c2; omega
    have hw : t.l.length < 140737488355328 := by omega
    have w0 : IntKind.i64.wrap ((t.l.length : Int) - 1) = ((t.l.length - 1 : Nat) : Int) := by rw [wrap_i (by omega)]; omega
    simp (config := { maxSteps := 500000 }) only [↓vp, vv, implies_true, forall_const, undef, InI, ↓reduceIte, simprocAttr, c11, c11_6, Tnk.enc, tnkD, c0, c1, c2]
    refine rng_loop t.l.length (fun j => ⟨fr (TkF t [(3, di t.l.length), (22, .sl (t.l.map Strap.row)), (23, di t.l.length), (24, di j)]), TkH t⟩) (fun j => ∀ i, i < j → stOk t.l i) (weak_eq [] [(0, 1)] (TkF t [(3, di t.l.length), (22, .sl (t.l.map Strap.row)), (23, di t.l.length), (24, di (0 : Nat))]) (by simp (config := { maxSteps := 500000 }) only [↓vp, vv, implies_true, forall_const, undef, InI, ↓reduceIte, simprocAttr, coverS, TkF, TkH, tnkD]) (by simp (config := { maxSteps := 500000 }) only [↓vp, vv, implies_true, forall_const, undef, InI, ↓reduceIte, simprocAttr, refsF, TkF, TkH, tnkD]) (by simp (config := { maxSteps := 500000 }) only [↓vp, vv, implies_true, forall_const, undef, InI, ↓reduceIte, simprocAttr, TkF, TkH, tnkD]) (by simp) (by simp (config := { maxSteps := 500000 }) only [↓vp, vv, implies_true, forall_const, undef, InI, ↓reduceIte, simprocAttr, TkF, TkH, tnkD]; try rfl)) (fun i h => absurd h (by omega)) (fun j hj hP => ?_) (fun hP => ?_)
    · have hj' : (j : Int) < t.l.length := by omega
      have w1 := idx_next (j := j) (by omega)
      have g1 := row_st t.l j hj
      have hb : ¬ stOk t.l j → t.ok = false := fun h => stOk_not hj h
      have hbn : ∀ h : ¬ stNum (st t.l j), t.ok = false := fun h => hb fun k => h k.1
      cases d1 : decide ((st t.l j).lv < 0) with
      | true => have hf := hbn fun k => absurd k.1.1 (by have := of_decide_eq_true d1; omega); simp (config := { maxSteps := 500000 }) only [↓vp, vv, implies_true, forall_const, undef, InI, ↓reduceIte, simprocAttr, c11_4, c11_3, r11, TkF, TkH, tnkD, Strap.row, Int.toNat_natCast, idx_nn, hj', g1, d1, hf, Pu]
      | false =>
      cases d2 : decide ((1048576 : Int) < (st t.l j).lv) with
      | true => have hf := hbn fun k => absurd k.1.2 (by have := of_decide_eq_true d2; omega); simp (config := { maxSteps := 500000 }) only [↓vp, vv, implies_true, forall_const, undef, InI, ↓reduceIte, simprocAttr, c11_4, c11_3, r11, TkF, TkH, tnkD, Strap.row, Int.toNat_natCast, idx_nn, hj', g1, d1, d2, hf, Pu]
      | false =>
      cases d3 : decide ((st t.l j).vl < 0) with
      | true => have hf := hbn fun k => absurd k.2.1 (by have := of_decide_eq_true d3; omega); simp (config := { maxSteps := 500000 }) only [↓vp, vv, implies_true, forall_const, undef, InI, ↓reduceIte, simprocAttr, c11_4, c11_3, r11, TkF, TkH, tnkD, Strap.row, Int.toNat_natCast, idx_nn, hj', g1, d1, d2, d3, hf, Pu]
      | false =>
      cases d4 : decide ((1099511627776 : Int) < (st t.l j).vl) with
      | true => have hf := hbn fun k => absurd k.2.2 (by have := of_decide_eq_true d4; omega); simp (config := { maxSteps := 500000 }) only [↓vp, vv, implies_true, forall_const, undef, InI, ↓reduceIte, simprocAttr, c11_4, c11_3, r11, TkF, TkH, tnkD, Strap.row, Int.toNat_natCast, idx_nn, hj', g1, d1, d2, d3, d4, hf, Pu]
      | false =>
      have hnum : stNum (st t.l j) := by
        have := of_decide_eq_false d1; have := of_decide_eq_false d2; have := of_decide_eq_false d3; have := of_decide_eq_false d4
        exact ⟨⟨by omega, by omega⟩, by omega, by omega⟩
      rcases Nat.eq_zero_or_pos j with rfl | h0
      · have hP' : ∀ i, i < 0 + 1 → stOk t.l i := fun i hi => by obtain rfl : i = 0 := by omega
                                                                 exact ⟨hnum, fun h => absurd h (by omega)⟩
        have z1 : (0 : Int) < t.l.length := by omega
        have z3 : IntKind.i64.wrap 1 = 1 := rfl
        simp (config := { maxSteps := 500000 }) only [↓vp, vv, implies_true, forall_const, undef, InI, ↓reduceIte, simprocAttr, c11_4, c11_3, c11_1, c11_2, TkF, TkH, tnkD, Strap.row, Int.toNat_natCast, idx_nn, hj', z1, z3, g1, d1, d2, d3, d4]
        exact rng_next hj (weak_eq [] [(0, 1)] (TkF t [(3, di t.l.length), (22, .sl (t.l.map Strap.row)), (23, di t.l.length), (24, di ((0 + 1 : Nat) : Int))]) (by simp (config := { maxSteps := 500000 }) only [↓vp, vv, implies_true, forall_const, undef, InI, ↓reduceIte, simprocAttr, coverS, TkF, TkH, tnkD, Strap.row]) (by simp (config := { maxSteps := 500000 }) only [↓vp, vv, implies_true, forall_const, undef, InI, ↓reduceIte, simprocAttr, refsF, TkF, TkH, tnkD, Strap.row]) (by simp (config := { maxSteps := 500000 }) only [↓vp, vv, implies_true, forall_const, undef, InI, ↓reduceIte, simprocAttr, TkF, TkH, tnkD, Strap.row]) (by simp) (by simp (config := { maxSteps := 500000 }) only [↓vp, vv, implies_true, forall_const, undef, InI, ↓reduceIte, simprocAttr, TkF, TkH, tnkD, Strap.row]; try rfl)) hP'
      have z0 : decide ((0 : Int) < (j : Int)) = true := decide_eq_true (by omega)
      have w2 : IntKind.i64.wrap ((j : Int) - 1) = ((j - 1 : Nat) : Int) := by rw [wrap_i (by omega)]; omega
      have hj1 : j - 1 < t.l.length := by omega
      have hj2 : ((j - 1 : Nat) : Int) < t.l.length := by omega
      have g2 := row_st t.l (j - 1) hj1
      cases d5 : decide ((st t.l j).lv ≤ (st t.l (j - 1)).lv) with
      | true =>
        have hf := hb fun k => absurd (k.2 h0).1 (by have := of_decide_eq_true d5; omega)
        simp (config := { maxSteps := 500000 }) only [↓vp, vv, implies_true, forall_const, undef, InI, ↓reduceIte, simprocAttr, c11_4, c11_3, c11_1, r11, TkF, TkH, tnkD, Strap.row, Int.toNat_natCast, idx_nn, hj', g1, g2, hj1, hj2, w2, z0, d1, d2, d3, d4, d5, hf, Pu]
      | false =>
      cases d6 : decide ((st t.l j).vl ≤ (st t.l (j - 1)).vl) with
      | true =>
        have hf := hb fun k => absurd (k.2 h0).2 (by have := of_decide_eq_true d6; omega)
        simp (config := { maxSteps := 500000 }) only [↓vp, vv, implies_true, forall_const, undef, InI, ↓reduceIte, simprocAttr, c11_4, c11_3, c11_1, r11, TkF, TkH, tnkD, Strap.row, Int.toNat_natCast, idx_nn, hj', g1, g2, hj1, hj2, w2, z0, d1, d2, d3, d4, d5, d6, hf, Pu]
      | false =>
      have hP' : ∀ i, i < j + 1 → stOk t.l i := fun i hi => by
        rcases Nat.lt_or_eq_of_le (Nat.lt_succ_iff.1 hi) with h | rfl
        · exact hP i h
        · exact ⟨hnum, fun _ => ⟨by have := of_decide_eq_false d5; omega, by have := of_decide_eq_false d6; omega⟩⟩
      simp (config := { maxSteps := 500000 }) only [↓vp, vv, implies_true, forall_const, undef, InI, ↓reduceIte, simprocAttr, c11_4, c11_3, c11_1, c11_2, TkF, TkH, tnkD, Strap.row, Int.toNat_natCast, idx_nn, hj', g1, g2, hj1, hj2, w2, z0, d1, d2, d3, d4, d5, d6, w1]
      exact rng_next hj (weak_eq [] [(0, 1)] (TkF t [(3, di t.l.length), (22, .sl (t.l.map Strap.row)), (23, di t.l.length), (24, di ((j + 1 : Nat) : Int))]) (by simp (config := { maxSteps := 500000 }) only [↓vp, vv, implies_true, forall_const, undef, InI, ↓reduceIte, simprocAttr, coverS, TkF, TkH, tnkD, Strap.row, w1]) (by simp (config := { maxSteps := 500000 }) only [↓vp, vv, implies_true, forall_const, undef, InI, ↓reduceIte, simprocAttr, refsF, TkF, TkH, tnkD, Strap.row, w1]) (by simp (config := { maxSteps := 500000 }) only [↓vp, vv, implies_true, forall_const, undef, InI, ↓reduceIte, simprocAttr, TkF, TkH, tnkD, Strap.row, w1]) (by simp) (by simp (config := { maxSteps := 500000 }) only [↓vp, vv, implies_true, forall_const, undef, InI, ↓reduceIte, simprocAttr, TkF, TkH, tnkD, Strap.row, w1]; try rfl)) hP'
    · have hn' : ¬ (t.l.length : Int) < t.l.length := by omega
      have g0 := row_st t.l 0 (by omega)
      have gm := row_st t.l (t.l.length - 1) (by omega)
      have z1 : (0 : Int) < t.l.length := by omega
      have z2 : ((t.l.length - 1 : Nat) : Int) < t.l.length := by omega
      have he := tv_end (m := t.l.length - 1) (by omega) c0 l2 l16 hP
      cases e1 : decide ((st t.l 0).lv ≤ t.lo) with
      | false =>
        rw [e1, if_neg Bool.false_ne_true] at he
        simp (config := { maxSteps := 500000 }) only [↓vp, vv, implies_true, forall_const, undef, InI, ↓reduceIte, simprocAttr, c11_4, c11_3, c11_5, r11, TkF, TkH, tnkD, Strap.row, Int.toNat_natCast, idx_nn, hn', g0, gm, z1, z2, w0, e1, he, Pu]
      | true =>
      cases e2 : decide (t.hi ≤ (st t.l (t.l.length - 1)).lv) with
      | false =>
        rw [e1, e2, if_pos rfl, if_neg Bool.false_ne_true] at he
        simp (config := { maxSteps := 500000 }) only [↓vp, vv, implies_true, forall_const, undef, InI, ↓reduceIte, simprocAttr, c11_4, c11_3, c11_5, r11, TkF, TkH, tnkD, Strap.row, Int.toNat_natCast, idx_nn, hn', g0, gm, z1, z2, w0, e1, e2, he, Pu]
      | true =>
        rw [e1, e2, if_pos rfl, if_pos rfl] at he
        simp (config := { maxSteps := 500000 }) only [↓vp, vv, implies_true, forall_const, undef, InI, ↓reduceIte, simprocAttr, c11_4, c11_3, c11_5, r11, TkF, TkH, tnkD, Strap.row, Int.toNat_natCast, idx_nn, hn', g0, gm, z1, z2, w0, e1, e2, he, Pu]
set_option maxHeartbeats 8000000 in
theorem rvalid_c (t : Tnk) (hz : TkSz t) (nn : Nm) : CallsA Try.prog 12 [t.enc] Hp.none nn (Pu (db t.ok) Hp.none) := by
  obtain ⟨code, h1, h2⟩ := c12_ok
  refine callsA_of (tc_pu (sel := fun a => match a with | [.v (.string s)] => some (True, db (nameB s)) | _ => Option.none) f68_ok (fun args pre d h hp nn => by
    split at h <;> cases h
    exact rname_c _ nn) (T0_ok _)) mixed (N := fun t => (0, t)) Try.func12 h1 h2 r12_ok [] false js_nil js_nil' (by simp [Try.f12]) ?_
  unfold TkSz at hz
  cases c0 : nameB t.nm with
  | false =>
    have hf : t.ok = false := decide_eq_false fun h => by have := h.1; rw [c0] at this; cases this
    simp (config := { maxSteps := 500000 }) only [↓vp, vv, implies_true, forall_const, undef, InI, ↓reduceIte, simprocAttr, c12, r12, Tnk.enc, tnkD, c0, hf, Pu]
  | true =>
  cases c1 : decide ((t.l.length : Int) < 2) with
  | true =>
    have hf : t.ok = false := decide_eq_false fun h => by have := h.2.1.1; have := of_decide_eq_true c1; omega
    simp (config := { maxSteps := 500000 }) only [↓vp, vv, implies_true, forall_const, undef, InI, ↓reduceIte, simprocAttr, c12, r12, Tnk.enc, tnkD, c0, c1, hf, Pu]
  | false =>
  cases c2 : decide ((16 : Int) < t.l.length) with
  | true =>
    have hf : t.ok = false := decide_eq_false fun h => by have := h.2.1.2; have := of_decide_eq_true c2; omega
    simp (config := { maxSteps := 500000 }) only [↓vp, vv, implies_true, forall_const, undef, InI, ↓reduceIte, simprocAttr, c12, r12, Tnk.enc, tnkD, c0, c1, c2, hf, Pu]
  | false =>
    have l2 : 2 ≤ t.l.length := by have := of_decide_eq_false c1; omega
    have l16 : t.l.length ≤ 16 := by have := of_decide_eq_false c2; omega
    have hw : t.l.length < 140737488355328 := by omega
    have w0 : IntKind.i64.wrap ((t.l.length : Int) - 1) = ((t.l.length - 1 : Nat) : Int) := by rw [wrap_i (by omega)]; omega
    simp (config := { maxSteps := 500000 }) only [↓vp, vv, implies_true, forall_const, undef, InI, ↓reduceIte, simprocAttr, c12, c12_5, Tnk.enc, tnkD, c0, c1, c2]
    refine rng_loop t.l.length (fun j => ⟨fr (TkF t [(22, .sl (t.l.map Strap.row)), (23, di t.l.length), (24, di j)]), TkH t⟩) (fun j => ∀ i, i < j → stOk t.l i) (weak_eq [] [(0, 1)] (TkF t [(22, .sl (t.l.map Strap.row)), (23, di t.l.length), (24, di (0 : Nat))]) (by simp (config := { maxSteps := 500000 }) only [↓vp, vv, implies_true, forall_const, undef, InI, ↓reduceIte, simprocAttr, coverS, TkF, TkH, tnkD]) (by simp (config := { maxSteps := 500000 }) only [↓vp, vv, implies_true, forall_const, undef, InI, ↓reduceIte, simprocAttr, refsF, TkF, TkH, tnkD]) (by simp (config := { maxSteps := 500000 }) only [↓vp, vv, implies_true, forall_const, undef, InI, ↓reduceIte, simprocAttr, TkF, TkH, tnkD]) (by simp) (by simp (config := { maxSteps := 500000 }) only [↓vp, vv, implies_true, forall_const, undef, InI, ↓reduceIte, simprocAttr, TkF, TkH, tnkD]; try rfl)) (fun i h => absurd h (by omega)) (fun j hj hP => ?_) (fun hP => ?_)
    · have hj' : (j : Int) < t.l.length := by omega
      have w1 := idx_next (j := j) (by omega)
      have g1 := row_st t.l j hj
      have hb : ¬ stOk t.l j → t.ok = false := fun h => stOk_not hj h
      have hbn : ∀ h : ¬ stNum (st t.l j), t.ok = false := fun h => hb fun k => h k.1
      cases d1 : decide ((st t.l j).lv < 0) with
      | true => have hf := hbn fun k => absurd k.1.1 (by have := of_decide_eq_true d1; omega); simp (config := { maxSteps := 500000 }) only [↓vp, vv, implies_true, forall_const, undef, InI, ↓reduceIte, simprocAttr, c12_3, c12_2, r12, TkF, TkH, tnkD, Strap.row, Int.toNat_natCast, idx_nn, hj', g1, d1, hf, Pu]
      | false =>
      cases d2 : decide ((1048576 : Int) < (st t.l j).lv) with
      | true => have hf := hbn fun k => absurd k.1.2 (by have := of_decide_eq_true d2; omega); simp (config := { maxSteps := 500000 }) only [↓vp, vv, implies_true, forall_const, undef, InI, ↓reduceIte, simprocAttr, c12_3, c12_2, r12, TkF, TkH, tnkD, Strap.row, Int.toNat_natCast, idx_nn, hj', g1, d1, d2, hf, Pu]
      | false =>
      cases d3 : decide ((st t.l j).vl < 0) with
      | true => have hf := hbn fun k => absurd k.2.1 (by have := of_decide_eq_true d3; omega); simp (config := { maxSteps := 500000 }) only [↓vp, vv, implies_true, forall_const, undef, InI, ↓reduceIte, simprocAttr, c12_3, c12_2, r12, TkF, TkH, tnkD, Strap.row, Int.toNat_natCast, idx_nn, hj', g1, d1, d2, d3, hf, Pu]
      | false =>
      cases d4 : decide ((1099511627776 : Int) < (st t.l j).vl) with
      | true => have hf := hbn fun k => absurd k.2.2 (by have := of_decide_eq_true d4; omega); simp (config := { maxSteps := 500000 }) only [↓vp, vv, implies_true, forall_const, undef, InI, ↓reduceIte, simprocAttr, c12_3, c12_2, r12, TkF, TkH, tnkD, Strap.row, Int.toNat_natCast, idx_nn, hj', g1, d1, d2, d3, d4, hf, Pu]
      | false =>
      have hnum : stNum (st t.l j) := by
        have := of_decide_eq_false d1; have := of_decide_eq_false d2; have := of_decide_eq_false d3; have := of_decide_eq_false d4
        exact ⟨⟨by omega, by omega⟩, by omega, by omega⟩
      rcases Nat.eq_zero_or_pos j with rfl | h0
      · have hP' : ∀ i, i < 0 + 1 → stOk t.l i := fun i hi => by obtain rfl : i = 0 := by omega
                                                                 exact ⟨hnum, fun h => absurd h (by omega)⟩
        have z1 : (0 : Int) < t.l.length := by omega
        have z3 : IntKind.i64.wrap 1 = 1 := rfl
        simp (config := { maxSteps := 500000 }) only [↓vp, vv, implies_true, forall_const, undef, InI, ↓reduceIte, simprocAttr, c12_3, c12_2, c12_1, TkF, TkH, tnkD, Strap.row, Int.toNat_natCast, idx_nn, hj', z1, z3, g1, d1, d2, d3, d4]
        exact rng_next hj (weak_eq [] [(0, 1)] (TkF t [(22, .sl (t.l.map Strap.row)), (23, di t.l.length), (24, di ((0 + 1 : Nat) : Int))]) (by simp (config := { maxSteps := 500000 }) only [↓vp, vv, implies_true, forall_const, undef, InI, ↓reduceIte, simprocAttr, coverS, TkF, TkH, tnkD, Strap.row]) (by simp (config := { maxSteps := 500000 }) only [↓vp, vv, implies_true, forall_const, undef, InI, ↓reduceIte, simprocAttr, refsF, TkF, TkH, tnkD, Strap.row]) (by simp (config := { maxSteps := 500000 }) only [↓vp, vv, implies_true, forall_const, undef, InI, ↓reduceIte, simprocAttr, TkF, TkH, tnkD, Strap.row]) (by simp) (by simp (config := { maxSteps := 500000 }) only [↓vp, vv, implies_true, forall_const, undef, InI, ↓reduceIte, simprocAttr, TkF, TkH, tnkD, Strap.row]; try rfl)) hP'
      have z0 : decide ((0 : Int) < (j : Int)) = true := decide_eq_true (by omega)
      have w2 : IntKind.i64.wrap ((j : Int) - 1) = ((j - 1 : Nat) : Int) := by rw [wrap_i (by omega)]; omega
      have hj1 : j - 1 < t.l.length := by omega
      have hj2 : ((j - 1 : Nat) : Int) < t.l.length := by omega
      have g2 := row_st t.l (j - 1) hj1
      cases d5 : decide ((st t.l j).lv ≤ (st t.l (j - 1)).lv) with
      | true =>
        have hf := hb fun k => absurd (k.2 h0).1 (by have := of_decide_eq_true d5; omega)
        simp (config := { maxSteps := 500000 }) only [↓vp, vv, implies_true, forall_const, undef, InI, ↓reduceIte, simprocAttr, c12_3, c12_2, r12, TkF, TkH, tnkD, Strap.row, Int.toNat_natCast, idx_nn, hj', g1, g2, hj1, hj2, w2, z0, d1, d2, d3, d4, d5, hf, Pu]
      | false =>
      cases d6 : decide ((st t.l j).vl ≤ (st t.l (j - 1)).vl) with
      | true =>
        have hf := hb fun k => absurd (k.2 h0).2 (by have := of_decide_eq_true d6; omega)
        simp (config := { maxSteps := 500000 }) only [↓vp, vv, implies_true, forall_const, undef, InI, ↓reduceIte, simprocAttr, c12_3, c12_2, r12, TkF, TkH, tnkD, Strap.row, Int.toNat_natCast, idx_nn, hj', g1, g2, hj1, hj2, w2, z0, d1, d2, d3, d4, d5, d6, hf, Pu]
      | false =>
      have hP' : ∀ i, i < j + 1 → stOk t.l i := fun i hi => by
        rcases Nat.lt_or_eq_of_le (Nat.lt_succ_iff.1 hi) with h | rfl
        · exact hP i h
        · exact ⟨hnum, fun _ => ⟨by have := of_decide_eq_false d5; omega, by have := of_decide_eq_false d6; omega⟩⟩
      simp (config := { maxSteps := 500000 }) only [↓vp, vv, implies_true, forall_const, undef, InI, ↓reduceIte, simprocAttr, c12_3, c12_2, c12_1, TkF, TkH, tnkD, Strap.row, Int.toNat_natCast, idx_nn, hj', g1, g2, hj1, hj2, w2, z0, d1, d2, d3, d4, d5, d6, w1]
      exact rng_next hj (weak_eq [] [(0, 1)] (TkF t [(22, .sl (t.l.map Strap.row)), (23, di t.l.length), (24, di ((j + 1 : Nat) : Int))]) (by simp (config := { maxSteps := 500000 }) only [↓vp, vv, implies_true, forall_const, undef, InI, ↓reduceIte, simprocAttr, coverS, TkF, TkH, tnkD, Strap.row, w1]) (by simp (config := { maxSteps := 500000 }) only [↓vp, vv, implies_true, forall_const, undef, InI, ↓reduceIte, simprocAttr, refsF, TkF, TkH, tnkD, Strap.row, w1]) (by simp (config := { maxSteps := 500000 }) only [↓vp, vv, implies_true, forall_const, undef, InI, ↓reduceIte, simprocAttr, TkF, TkH, tnkD, Strap.row, w1]) (by simp) (by simp (config := { maxSteps := 500000 }) only [↓vp, vv, implies_true, forall_const, undef, InI, ↓reduceIte, simprocAttr, TkF, TkH, tnkD, Strap.row, w1]; try rfl)) hP'
    · have hn' : ¬ (t.l.length : Int) < t.l.length := by omega
      have g0 := row_st t.l 0 (by omega)
      have gm := row_st t.l (t.l.length - 1) (by omega)
      have z1 : (0 : Int) < t.l.length := by omega
      have z2 : ((t.l.length - 1 : Nat) : Int) < t.l.length := by omega
      have he := tv_end (m := t.l.length - 1) (by omega) c0 l2 l16 hP
      cases e1 : decide ((st t.l 0).lv ≤ t.lo) with
      | false =>
        rw [e1, if_neg Bool.false_ne_true] at he
        simp (config := { maxSteps := 500000 }) only [↓vp, vv, implies_true, forall_const, undef, InI, ↓reduceIte, simprocAttr, c12_3, c12_2, c12_4, r12, TkF, TkH, tnkD, Strap.row, Int.toNat_natCast, idx_nn, hn', g0, gm, z1, z2, w0, e1, he, Pu]
      | true =>
      cases e2 : decide (t.hi ≤ (st t.l (t.l.length - 1)).lv) with
      | false =>
        rw [e1, e2, if_pos rfl, if_neg Bool.false_ne_true] at he
        simp (config := { maxSteps := 500000 }) only [↓vp, vv, implies_true, forall_const, undef, InI, ↓reduceIte, simprocAttr, c12_3, c12_2, c12_4, r12, TkF, TkH, tnkD, Strap.row, Int.toNat_natCast, idx_nn, hn', g0, gm, z1, z2, w0, e1, e2, he, Pu]
      | true =>
        rw [e1, e2, if_pos rfl, if_pos rfl] at he
        simp (config := { maxSteps := 500000 }) only [↓vp, vv, implies_true, forall_const, undef, InI, ↓reduceIte, simprocAttr, c12_3, c12_2, c12_4, r12, TkF, TkH, tnkD, Strap.row, Int.toNat_natCast, idx_nn, hn', g0, gm, z1, z2, w0, e1, e2, he, Pu]
end Go.Proofs.Ytadjhfjiimgddaa

/- Tanks: the search. -/
namespace Go.Proofs.Ytadjhfjiimgddaa
open Go
set_option linter.unusedVariables false
set_option linter.unusedSimpArgs false
set_option maxRecDepth 100000

theorem wrapU {y : Int} (h : 0 ≤ y ∧ y < 18446744073709551616) : IntKind.u64.wrap y = y := by
  unfold IntKind.wrap
  simp only [IntKind.bits, IntKind.signed]
  simp
  omega
def qS (p : Nat → Bool) : D → Bool
  | .v (.int .i64 k) => p k.toNat
  | _ => false
/-- What the search asks of its function. -/
def SOk (P : Program) (p : Nat → Bool) (g : FuncId) (l : List (List D)) (n : Int) : Prop :=
  fnOk P g = true ∧ (0 ≤ n ∧ n ≤ 4294967296) ∧ (∀ a b, a ≤ b → b < n.toNat → p a = true → p b = true) ∧ ∀ k : Nat, (k : Int) < n → ∀ nn, CallsA P g (di k :: ips l) Hp.none nn (Pu (db (p k)) Hp.none)
def SrI (p : Nat → Bool) (n : Nat) (g : FuncId) (l : List (List D)) (m : Nat) (s : St) : Prop :=
  ∃ i j : Nat, i ≤ j ∧ j ≤ n ∧ m = j - i ∧ (i = 0 ∨ p (i - 1) = false) ∧ (j = n ∨ p j = true) ∧ s = ⟨fr [(1, .clo g [] (ips l)), (5, di i), (6, di j)], Hp.none⟩
set_option maxHeartbeats 8000000 in
theorem search_c (p : Nat → Bool) (g : FuncId) (l : List (List D)) (n : Int) (h : SOk Try.prog p g l n) (nn : Nm) : CallsA Try.prog 74 [di n, .clo g [] (ips l)] Hp.none nn (Pu (di (leastN p n.toNat 0 : Nat)) Hp.none) := by
  obtain ⟨hg, hn, hm, hc⟩ := h
  obtain ⟨code, h1, h2⟩ := c74_ok
  refine callsA_of (tc_q (q := qS p) hg (T0_ok _)) mixed (N := fun t => (0, t)) Try.func74 h1 h2 r74_ok [] false js_nil js_nil' (by simp [Try.f74]) ?_
  obtain ⟨N, rfl⟩ : ∃ N : Nat, n = N := ⟨n.toNat, by omega⟩
  rw [Int.toNat_natCast] at hm ⊢
  simp (config := { maxSteps := 500000 }) only [↓vp, vv, implies_true, forall_const, undef, InI, ↓reduceIte, simprocAttr, c74]
  rw [vc_loop]
  refine ⟨SrI p N g l, ⟨N, _, (weak_eq [] [] [(1, .clo g [] (ips l)), (5, di (0 : Nat)), (6, di N)] (by simp (config := { maxSteps := 500000 }) only [↓vp, vv, implies_true, forall_const, undef, InI, ↓reduceIte, simprocAttr, coverS]) (by simp (config := { maxSteps := 500000 }) only [↓vp, vv, implies_true, forall_const, undef, InI, ↓reduceIte, simprocAttr, refsF, ips_refs]) (by simp (config := { maxSteps := 500000 }) only [↓vp, vv, implies_true, forall_const, undef, InI, ↓reduceIte, simprocAttr, ]) (by simp) (by simp (config := { maxSteps := 500000 }) only [↓vp, vv, implies_true, forall_const, undef, InI, ↓reduceIte, simprocAttr, ]; try rfl)), 0, N, Nat.zero_le _, Nat.le_refl _, rfl, .inl rfl, .inl rfl, rfl⟩, ?_⟩
  rintro m s ⟨i, j, hij, hjn, rfl, hi, hj, rfl⟩
  by_cases hlt : i < j
  · have hlt' : (i : Int) < j := by omega
    obtain ⟨q, hq⟩ : ∃ q : Nat, ((i : Int) + j).fdiv (2 ^ (min 1 IntKind.u64.bits)) = q := ⟨(i + j) / 2, by
      rw [show (2 : Int) ^ (min 1 IntKind.u64.bits) = 2 from rfl, Int.fdiv_eq_ediv_of_nonneg _ (by omega)]
      omega⟩
    have hq1 : i ≤ q ∧ q < j := by
      rw [show (2 : Int) ^ (min 1 IntKind.u64.bits) = 2 from rfl, Int.fdiv_eq_ediv_of_nonneg _ (by omega)] at hq
      omega
    have w1 : IntKind.i64.wrap ((i : Int) + j) = (i : Int) + j := wrap_i (by omega)
    have w2 : IntKind.u64.wrap ((i : Int) + j) = (i : Int) + j := wrapU (by omega)
    have w3 : IntKind.i64.wrap (q : Int) = q := wrap_i (by omega)
    have w4 := idx_next (j := q) (by omega)
    have hcq := fun nn => hc q (by omega) nn
    cases hb : p q with
    | true =>
      have hcT : ∀ nn, CallsA Try.prog g (di q :: ips l) Hp.none nn (Pu (db true) Hp.none) = True := fun nn => eq_true (by have := hcq nn; rwa [hb] at this)
      simp (config := { maxSteps := 500000 }) only [↓vp, vv, implies_true, forall_const, undef, InI, ↓reduceIte, simprocAttr, c74, r74, c74_1, c74_2, c74_3, hlt', w1, w2, w3, hq, rowQ, qS, Int.toNat_natCast, hb, ips_nms, ips_lend, ips_lendNm, ips_ok, ips_refs, addNm, cellNms, hcT]
      exact ⟨q - i, _, by omega, weak_eq [] [] [(1, .clo g [] (ips l)), (5, di i), (6, di q)] (by simp (config := { maxSteps := 500000 }) only [↓vp, vv, implies_true, forall_const, undef, InI, ↓reduceIte, simprocAttr, coverS]) (by simp (config := { maxSteps := 500000 }) only [↓vp, vv, implies_true, forall_const, undef, InI, ↓reduceIte, simprocAttr, refsF, ips_refs]) (by simp (config := { maxSteps := 500000 }) only [↓vp, vv, implies_true, forall_const, undef, InI, ↓reduceIte, simprocAttr, ]) (by simp) (by simp (config := { maxSteps := 500000 }) only [↓vp, vv, implies_true, forall_const, undef, InI, ↓reduceIte, simprocAttr, ]; try rfl), i, q, hq1.1, by omega, rfl, hi, .inr hb, rfl⟩
    | false =>
      have hcT : ∀ nn, CallsA Try.prog g (di q :: ips l) Hp.none nn (Pu (db false) Hp.none) = True := fun nn => eq_true (by have := hcq nn; rwa [hb] at this)
      simp (config := { maxSteps := 500000 }) only [↓vp, vv, implies_true, forall_const, undef, InI, ↓reduceIte, simprocAttr, c74, r74, c74_1, c74_2, c74_3, hlt', w1, w2, w3, hq, rowQ, qS, Int.toNat_natCast, hb, ips_nms, ips_lend, ips_lendNm, ips_ok, ips_refs, addNm, cellNms, hcT, w4]
      exact ⟨j - (q + 1), _, by omega, weak_eq [] [] [(1, .clo g [] (ips l)), (5, di ((q + 1 : Nat) : Int)), (6, di j)] (by simp (config := { maxSteps := 500000 }) only [↓vp, vv, implies_true, forall_const, undef, InI, ↓reduceIte, simprocAttr, coverS]) (by simp (config := { maxSteps := 500000 }) only [↓vp, vv, implies_true, forall_const, undef, InI, ↓reduceIte, simprocAttr, refsF, ips_refs]) (by simp (config := { maxSteps := 500000 }) only [↓vp, vv, implies_true, forall_const, undef, InI, ↓reduceIte, simprocAttr, ]) (by simp) (by simp (config := { maxSteps := 500000 }) only [↓vp, vv, implies_true, forall_const, undef, InI, ↓reduceIte, simprocAttr, ]; try rfl), q + 1, j, by omega, hjn, rfl, .inr (by rw [Nat.add_sub_cancel]; exact hb), hj, rfl⟩
  · have hlt' : ¬ (i : Int) < j := by omega
    obtain rfl : i = j := by omega
    have hr : i = leastN p N 0 := found_least hm hjn hi hj
    rw [← hr]
    simp (config := { maxSteps := 500000 }) only [↓vp, vv, implies_true, forall_const, undef, InI, ↓reduceIte, simprocAttr, c74, r74, c74_1, c74_2, c74_3, hlt', Pu]
/-- A row for searches. -/
def selS (P : Program) (q : FuncId → List (List D) → Nat → Bool) : List D → Option (Prop × D)
  | [.v (.int .i64 n), .clo g [] cs] => match ipsOf cs with
    | some l => some (SOk P (q g l) g l n, di (leastN (q g l) n.toNat 0 : Nat))
    | Option.none => Option.none
  | _ => Option.none
theorem tc_search {q : FuncId → List (List D) → Nat → Bool} {T : Tbl} (hT : TblOk Try.prog T) : TblOk Try.prog (tc 74 (rowPu (selS Try.prog q)) T) :=
  tc_pu f74_ok (fun args pre d hs hp nn => by
    unfold selS at hs
    split at hs
    · split at hs
      · rename_i hi
        cases hs
        rw [ipsOf_eq hi]
        exact search_c _ _ _ _ hp nn
      · cases hs
    · cases hs) hT
end Go.Proofs.Ytadjhfjiimgddaa

/- Tanks: the volume at a level, of both. -/
namespace Go.Proofs.Ytadjhfjiimgddaa
open Go
set_option linter.unusedVariables false
set_option linter.unusedSimpArgs false
set_option maxRecDepth 100000

def pVol (l : List Strap) (x : Int) (i : Nat) : Bool := decide (x ≤ (st l i).lv)
theorem pVol_mono {l : List Strap} (h : Straps l) (x : Int) : ∀ a b, a ≤ b → b < l.length → pVol l x a = true → pVol l x b = true := by
  intro a b hab hb ha
  have h1 := of_decide_eq_true ha
  refine decide_eq_true ?_
  rcases Nat.lt_or_eq_of_le hab with h2 | rfl
  · have := (asc_of h.ok a b h2 hb).1; omega
  · exact h1
theorem max1_ix {l : List Strap} {x : Int} (h : Straps l) (hx : InL l x) : ((max 1 (leastN (pVol l x) l.length 0) : Nat) : Int) = ((ix l x + 1 : Nat) : Int) := by
  have two := h.two
  obtain ⟨_, hb, hc, hd⟩ := leastN_spec (pVol l x) l.length 0
  rw [Nat.zero_add] at hb hd
  have hlast : pVol l x (l.length - 1) = true := decide_eq_true hx.2
  have hr : leastN (pVol l x) l.length 0 < l.length := by
    rcases Nat.lt_or_ge (leastN (pVol l x) l.length 0) l.length with h1 | h1
    · exact h1
    · have := hc (l.length - 1) (Nat.zero_le _) (by omega)
      rw [hlast] at this; cases this
  have hp : pVol l x (leastN (pVol l x) l.length 0) = true := by
    rcases hd with hd | hd
    · omega
    · exact hd
  generalize leastN (pVol l x) l.length 0 = r at *
  have ar : Around l x (max 1 r - 1) := by
    have hp' := of_decide_eq_true hp
    rcases Nat.eq_zero_or_pos r with rfl | h0
    · have := hx.1
      have a1 := (asc_of h.ok 0 1 (by omega) (by omega)).1
      unfold fst at this
      exact ⟨by omega, this, by show x ≤ (st l (max 1 0 - 1 + 1)).lv; rw [show max 1 0 - 1 + 1 = 1 from rfl]; omega, fun k => absurd k (by omega)⟩
    · have e1 : max 1 r - 1 = r - 1 := by omega
      have e2 : r - 1 + 1 = r := by omega
      rw [e1]
      have := of_decide_eq_false (hc (r - 1) (Nat.zero_le _) (by omega))
      exact ⟨by omega, by omega, by rw [e2]; exact hp', fun _ => by omega⟩
  have := around_eq h (ix_around h hx) ar
  omega
set_option maxHeartbeats 8000000 in
theorem divide_c (a b : Int) (ha : 0 ≤ a ∧ a ≤ 2305843009213693952) (hb : 1 ≤ b ∧ b ≤ 1099511627776) (nn : Nm) : CallsA Try.prog 150 [di a, di b] Hp.none nn (Pu (.tup [di (a / b), di (a % b), db true]) Hp.none) := by
  obtain ⟨code, h1, h2⟩ := c150_ok
  refine callsA_of (T0_ok _) mixed (N := fun t => (0, t)) Try.func150 h1 h2 r150_ok [] false js_nil js_nil' (by simp [Try.f150]) ?_
  have d1 : decide (b < 1) = false := decide_eq_false (by omega)
  have d2 : decide ((1099511627776 : Int) < b) = false := decide_eq_false (by omega)
  have d3 : decide (a < (-2305843009213693952 : Int)) = false := decide_eq_false (by omega)
  have d4 : decide ((2305843009213693952 : Int) < a) = false := decide_eq_false (by omega)
  have e1 : a.tdiv b = a / b := Int.tdiv_eq_ediv_of_nonneg ha.1
  have e2 : a.tmod b = a % b := Int.tmod_eq_emod_of_nonneg ha.1
  have p1 := Int.emod_nonneg a (show b ≠ 0 by omega)
  have p2 := Int.ediv_nonneg ha.1 (show 0 ≤ b by omega)
  have p3 : a / b ≤ a := Int.ediv_le_self b ha.1
  have d5 : decide (a % b < 0) = false := decide_eq_false (by omega)
  have w1 : IntKind.i64.wrap (a / b) = a / b := wrap_i (by omega)
  have nb : b ≠ 0 := by omega
  simp (config := { maxSteps := 500000 }) only [↓vp, vv, implies_true, forall_const, undef, InI, ↓reduceIte, simprocAttr, c150, r150, c150_1, c150_2, d1, d2, d3, d4, d5, e1, e2, w1, nb, Pu]
set_option maxHeartbeats 8000000 in
theorem down_c (a b : Int) (ha : 0 ≤ a ∧ a ≤ 2305843009213693952) (hb : 1 ≤ b ∧ b ≤ 1099511627776) (nn : Nm) : CallsA Try.prog 122 [di a, di b] Hp.none nn (Pu (di (a / b)) Hp.none) := by
  obtain ⟨code, h1, h2⟩ := c122_ok
  refine callsA_of (tc_pu (sel := fun a => match a with | [.v (.int .i64 a), .v (.int .i64 b)] => some ((0 ≤ a ∧ a ≤ 2305843009213693952) ∧ 1 ≤ b ∧ b ≤ 1099511627776, .tup [di (a / b), di (a % b), db true]) | _ => Option.none) f150_ok (fun args pre d h hp nn => by
    split at h <;> cases h
    exact divide_c _ _ hp.1 hp.2 nn) (T0_ok _)) mixed (N := fun t => (0, t)) Try.func122 h1 h2 r122_ok [] false js_nil js_nil' (by simp [Try.f122]) ?_
  simp (config := { maxSteps := 500000 }) only [↓vp, vv, implies_true, forall_const, undef, InI, ↓reduceIte, simprocAttr, c122, r122, ha, hb, Pu]
set_option maxHeartbeats 8000000 in
theorem vol1_c (t : Tnk) (x : Int) (k : Nat) (hk : k < t.l.length) (hz : TkSz t) (nn : Nm) : CallsA Try.prog 121 (di k :: ips [tnkD t, [di x]]) Hp.none nn (Pu (db (pVol t.l x k)) Hp.none) := by
  obtain ⟨code, h1, h2⟩ := c121_ok
  refine callsA_of (T0_ok _) mixed (N := fun t => (0, t)) Try.func121 h1 h2 r121_ok [] false js_nil js_nil' (by simp [Try.f121]) ?_
  have hk' : (k : Int) < t.l.length := by omega
  have g1 := row_st t.l k hk
  simp (config := { maxSteps := 500000 }) only [↓vp, vv, implies_true, forall_const, undef, InI, ↓reduceIte, simprocAttr, c121, r121, tnkD, ips, List.map_cons, List.map_nil, Strap.row, hk', g1, idx_nn, Int.toNat_natCast, pVol, Pu]
def selDown : List D → Option (Prop × D)
  | [.v (.int .i64 a), .v (.int .i64 b)] => some ((0 ≤ a ∧ a ≤ 2305843009213693952) ∧ 1 ≤ b ∧ b ≤ 1099511627776, di (a / b))
  | _ => Option.none
def qVol : FuncId → List (List D) → Nat → Bool
  | _, [t, [.v (.int .i64 x)]] => fun i => match tnkOf1 t with
    | some t => pVol t.l x i
    | Option.none => false
  | _, _ => fun _ => false
def TkV (P : Program) : Tbl := tc 74 (rowPu (selS P qVol)) (tc 122 (rowPu selDown) T0)
theorem TkV_ok : TblOk Try.prog (TkV Try.prog) := tc_search (tc_pu f122_ok (fun args pre d h hp nn => by
  unfold selDown at h
  split at h <;> cases h
  exact down_c _ _ hp.1 hp.2 nn) (T0_ok _))
set_option maxHeartbeats 8000000 in
theorem volume_c (t : Tnk) (x : Int) (h : Straps t.l) (hx : InL t.l x) (nn : Nm) : CallsA Try.prog 71 [t.enc, di x] Hp.none nn (Pu (di (vol t.l x)) Hp.none) := by
  obtain ⟨code, h1, h2⟩ := c71_ok
  refine callsA_of TkV_ok mixed (N := fun t => (0, t)) Try.func71 h1 h2 r71_ok [] false js_nil js_nil' (by simp [Try.f71]) ?_
  have hs := h.most
  have two := h.two
  have ar := ix_around h hx
  have sg := seg_bd (stSeg_of ar h.ok)
  have ss := stSeg_of ar h.ok
  have hq : qVol 121 [tnkD t, [di x]] = pVol t.l x := by funext i; unfold qVol; simp only [tnkOf1_row]
  have so : SOk Try.prog (pVol t.l x) 121 [tnkD t, [di x]] (t.l.length : Int) := ⟨f121_ok, ⟨by omega, by omega⟩, by rw [Int.toNat_natCast]; exact pVol_mono h x, fun k hk nn => vol1_c t x k (by omega) (by unfold TkSz; omega) nn⟩
  have tl : (tnkD t).length = 4 := rfl
  simp (config := { maxSteps := 500000 }) only [↓vp, vv, implies_true, forall_const, undef, InI, ↓reduceIte, simprocAttr, c71, Tnk.enc, tl]
  refine vc_wk ((weak_ip 2 (0, 2) 0 4 (tnkD t) (by simp (config := { maxSteps := 500000 }) only [↓vp, vv, implies_true, forall_const, undef, InI, ↓reduceIte, simprocAttr, ]) (by simp (config := { maxSteps := 500000 }) only [↓vp, vv, implies_true, forall_const, undef, InI, ↓reduceIte, simprocAttr, tnkD]) (by simp (config := { maxSteps := 500000 }) only [↓vp, vv, implies_true, forall_const, undef, InI, ↓reduceIte, simprocAttr, tnkD]) (by simp)).trans ((weak_ip 3 (0, 3) 0 1 [di x] (by simp (config := { maxSteps := 500000 }) only [↓vp, vv, implies_true, forall_const, undef, InI, ↓reduceIte, simprocAttr, tnkD]) (by simp (config := { maxSteps := 500000 }) only [↓vp, vv, implies_true, forall_const, undef, InI, ↓reduceIte, simprocAttr, tnkD]) (by simp (config := { maxSteps := 500000 }) only [↓vp, vv, implies_true, forall_const, undef, InI, ↓reduceIte, simprocAttr, tnkD]) (by simp)).trans (weak_eq [] [] [(2, .ip (tnkD t)), (3, .ip [di x])] (by simp (config := { maxSteps := 500000 }) only [↓vp, vv, implies_true, forall_const, undef, InI, ↓reduceIte, simprocAttr, coverS]) (by simp (config := { maxSteps := 500000 }) only [↓vp, vv, implies_true, forall_const, undef, InI, ↓reduceIte, simprocAttr, refsF]) (by simp (config := { maxSteps := 500000 }) only [↓vp, vv, implies_true, forall_const, undef, InI, ↓reduceIte, simprocAttr, ]) (by simp) (by simp (config := { maxSteps := 500000 }) only [↓vp, vv, implies_true, forall_const, undef, InI, ↓reduceIte, simprocAttr, ]; try rfl)))) ?_
  have hmx : (if (1 : Int) < (leastN (pVol t.l x) t.l.length 0 : Nat) then ((leastN (pVol t.l x) t.l.length 0 : Nat) : Int) else 1) = ((ix t.l x + 1 : Nat) : Int) := by
    rw [← max1_ix h hx]
    split <;> omega
  simp only [tnkD] at hq so
  have i1 : IntKind.i64.wrap (((ix t.l x + 1 : Nat) : Int) - 1) = (ix t.l x : Nat) := by rw [wrap_i (by have := ar.1; omega)]; omega
  have j1 : (ix t.l x : Int) < t.l.length := by have := ar.1; omega
  have j2 : ((ix t.l x + 1 : Nat) : Int) < t.l.length := by have := ar.1; omega
  have g1 := row_st t.l (ix t.l x) (by have := ar.1; omega)
  have g2 := row_st t.l (ix t.l x + 1) ar.1
  obtain ⟨⟨⟨a1, a2⟩, a3, a4⟩, ⟨⟨b1, b2⟩, b3, b4⟩, ⟨u1, u2⟩, l1, l2⟩ := ss
  have m1 := sg.1
  have m2 := sg.2.1
  have m3 := sg.2.2
  have hv : vol t.l x = (st t.l (ix t.l x)).vl + ((st t.l (ix t.l x + 1)).vl - (st t.l (ix t.l x)).vl) * (x - (st t.l (ix t.l x)).lv) / ((st t.l (ix t.l x + 1)).lv - (st t.l (ix t.l x)).lv) := rfl
  have k1 : IntKind.i64.wrap ((st t.l (ix t.l x + 1)).vl - (st t.l (ix t.l x)).vl) = (st t.l (ix t.l x + 1)).vl - (st t.l (ix t.l x)).vl := wrap_i (by omega)
  have k2 : IntKind.i64.wrap (x - (st t.l (ix t.l x)).lv) = x - (st t.l (ix t.l x)).lv := wrap_i (by omega)
  have k3 : IntKind.i64.wrap ((st t.l (ix t.l x + 1)).lv - (st t.l (ix t.l x)).lv) = (st t.l (ix t.l x + 1)).lv - (st t.l (ix t.l x)).lv := wrap_i (by omega)
  have k4 := wrap_i (n := ((st t.l (ix t.l x + 1)).vl - (st t.l (ix t.l x)).vl) * (x - (st t.l (ix t.l x)).lv)) (by omega)
  have k5 : IntKind.i64.wrap ((st t.l (ix t.l x)).vl + ((st t.l (ix t.l x + 1)).vl - (st t.l (ix t.l x)).vl) * (x - (st t.l (ix t.l x)).lv) / ((st t.l (ix t.l x + 1)).lv - (st t.l (ix t.l x)).lv)) = vol t.l x := by
    rw [hv]
    unfold segV at m3
    exact wrap_i (by omega)
  have pr : (0 ≤ ((st t.l (ix t.l x + 1)).vl - (st t.l (ix t.l x)).vl) * (x - (st t.l (ix t.l x)).lv) ∧ ((st t.l (ix t.l x + 1)).vl - (st t.l (ix t.l x)).vl) * (x - (st t.l (ix t.l x)).lv) ≤ 2305843009213693952) ∧ 1 ≤ (st t.l (ix t.l x + 1)).lv - (st t.l (ix t.l x)).lv ∧ (st t.l (ix t.l x + 1)).lv - (st t.l (ix t.l x)).lv ≤ 1099511627776 := ⟨⟨m1.1, by omega⟩, by omega, by omega⟩
  simp (config := { maxSteps := 500000 }) only [↓vp, vv, implies_true, forall_const, undef, InI, ↓reduceIte, simprocAttr, c71_1, r71, TkV, selS, selDown, ipsOf, so, hq, tnkD, Int.toNat_natCast, idx_nn, hmx, i1, j1, j2, g1, g2, Strap.row, k1, k2, k3, k4, k5, pr, Pu]
set_option maxHeartbeats 8000000 in
theorem rvolume_c (t : Tnk) (x : Int) (h : Straps t.l) (hx : InL t.l x) (nn : Nm) : CallsA Try.prog 72 [t.enc, di x] Hp.none nn (Pu (di (vol t.l x)) Hp.none) := by
  obtain ⟨code, h1, h2⟩ := c72_ok
  refine callsA_of (T0_ok _) mixed (N := fun t => (0, t)) Try.func72 h1 h2 r72_ok [] false js_nil js_nil' (by simp [Try.f72]) ?_
  have hs := h.most
  have two := h.two
  simp (config := { maxSteps := 500000 }) only [↓vp, vv, implies_true, forall_const, undef, InI, ↓reduceIte, simprocAttr, c72, Tnk.enc, tnkD]
  refine rng_loop (t.l.length - 1) (fun j => ⟨fr [(1, di x), (2, .ptr (0, 2) 0 0 0), (5, di ((j + 1 : Nat) : Int))], Hp.none.put (0, 2) ⟨0, 4, [tnkD t]⟩⟩) (fun j => ∀ k, 0 < k → k ≤ j → (st t.l k).lv < x) (weak_eq [] [(0, 2)] [(1, di x), (2, .ptr (0, 2) 0 0 0), (5, di ((0 + 1 : Nat) : Int))] (by simp (config := { maxSteps := 500000 }) only [↓vp, vv, implies_true, forall_const, undef, InI, ↓reduceIte, simprocAttr, coverS, tnkD]) (by simp (config := { maxSteps := 500000 }) only [↓vp, vv, implies_true, forall_const, undef, InI, ↓reduceIte, simprocAttr, refsF, tnkD]) (by simp (config := { maxSteps := 500000 }) only [↓vp, vv, implies_true, forall_const, undef, InI, ↓reduceIte, simprocAttr, tnkD]) (by simp) (by simp (config := { maxSteps := 500000 }) only [↓vp, vv, implies_true, forall_const, undef, InI, ↓reduceIte, simprocAttr, tnkD]; try rfl)) (fun k h0 h1 => absurd h1 (by omega)) (fun j hj hP => ?_) (fun hP => ?_)
  · have hj' : ((j + 1 : Nat) : Int) < t.l.length := by omega
    have j1 : (j : Int) < t.l.length := by omega
    have i1 : IntKind.i64.wrap (((j + 1 : Nat) : Int) - 1) = (j : Nat) := by rw [wrap_i (by omega)]; omega
    have w1 := idx_next (j := j + 1) (by omega)
    have g1 := row_st t.l j (by omega)
    have g2 := row_st t.l (j + 1) (by omega)
    cases d1 : decide (x ≤ (st t.l (j + 1)).lv) with
    | true =>
      have hlo : (st t.l j).lv ≤ x := by
        rcases Nat.eq_zero_or_pos j with rfl | h0
        · exact hx.1
        · have := hP j h0 (Nat.le_refl _); omega
      have ar : Around t.l x j := ⟨by omega, hlo, of_decide_eq_true d1, fun h0 => hP j h0 (Nat.le_refl _)⟩
      have hv : vol t.l x = (st t.l j).vl + ((st t.l (j + 1)).vl - (st t.l j).vl) * (x - (st t.l j).lv) / ((st t.l (j + 1)).lv - (st t.l j).lv) := vol_at h ar hx
      have sg := seg_bd (stSeg_of ar h.ok)
      obtain ⟨⟨⟨a1, a2⟩, a3, a4⟩, ⟨⟨b1, b2⟩, b3, b4⟩, ⟨u1, u2⟩, l1, l2⟩ := stSeg_of ar h.ok
      have m1 := sg.1
      have m2 := sg.2.1
      have m3 := sg.2.2
      have k1 : IntKind.i64.wrap ((st t.l (j + 1)).vl - (st t.l j).vl) = (st t.l (j + 1)).vl - (st t.l j).vl := wrap_i (by omega)
      have k2 : IntKind.i64.wrap (x - (st t.l j).lv) = x - (st t.l j).lv := wrap_i (by omega)
      have k3 : IntKind.i64.wrap ((st t.l (j + 1)).lv - (st t.l j).lv) = (st t.l (j + 1)).lv - (st t.l j).lv := wrap_i (by omega)
      have k4 := wrap_i (n := ((st t.l (j + 1)).vl - (st t.l j).vl) * (x - (st t.l j).lv)) (by omega)
      have k6 : (((st t.l (j + 1)).vl - (st t.l j).vl) * (x - (st t.l j).lv)).tdiv ((st t.l (j + 1)).lv - (st t.l j).lv) = ((st t.l (j + 1)).vl - (st t.l j).vl) * (x - (st t.l j).lv) / ((st t.l (j + 1)).lv - (st t.l j).lv) := Int.tdiv_eq_ediv_of_nonneg m1.1
      have k7 : IntKind.i64.wrap (((st t.l (j + 1)).vl - (st t.l j).vl) * (x - (st t.l j).lv) / ((st t.l (j + 1)).lv - (st t.l j).lv)) = ((st t.l (j + 1)).vl - (st t.l j).vl) * (x - (st t.l j).lv) / ((st t.l (j + 1)).lv - (st t.l j).lv) := wrap_i (by omega)
      have k5 : IntKind.i64.wrap ((st t.l j).vl + ((st t.l (j + 1)).vl - (st t.l j).vl) * (x - (st t.l j).lv) / ((st t.l (j + 1)).lv - (st t.l j).lv)) = vol t.l x := by
        rw [hv]
        unfold segV at m3
        exact wrap_i (by omega)
      have nz : (st t.l (j + 1)).lv - (st t.l j).lv ≠ 0 := by omega
      simp (config := { maxSteps := 500000 }) only [↓vp, vv, implies_true, forall_const, undef, InI, ↓reduceIte, simprocAttr, c72, r72, c72_1, c72_2, c72_3, c72_4, tnkD, Strap.row, Int.toNat_natCast, idx_nn, hj', j1, i1, g1, g2, d1, k1, k2, k3, k4, k5, k6, k7, nz, Pu]
    | false =>
      have hP' : ∀ k, 0 < k → k ≤ j + 1 → (st t.l k).lv < x := fun k h0 h1 => by
        rcases Nat.lt_or_eq_of_le h1 with h2 | rfl
        · exact hP k h0 (by omega)
        · have := of_decide_eq_false d1; omega
      simp (config := { maxSteps := 500000 }) only [↓vp, vv, implies_true, forall_const, undef, InI, ↓reduceIte, simprocAttr, c72, r72, c72_1, c72_2, c72_3, c72_4, tnkD, Strap.row, Int.toNat_natCast, idx_nn, hj', j1, i1, g1, g2, d1, w1]
      exact rng_next hj (weak_eq [] [(0, 2)] [(1, di x), (2, .ptr (0, 2) 0 0 0), (5, di ((j + 1 + 1 : Nat) : Int))] (by simp (config := { maxSteps := 500000 }) only [↓vp, vv, implies_true, forall_const, undef, InI, ↓reduceIte, simprocAttr, coverS, tnkD]) (by simp (config := { maxSteps := 500000 }) only [↓vp, vv, implies_true, forall_const, undef, InI, ↓reduceIte, simprocAttr, refsF, tnkD]) (by simp (config := { maxSteps := 500000 }) only [↓vp, vv, implies_true, forall_const, undef, InI, ↓reduceIte, simprocAttr, tnkD]) (by simp) (by simp (config := { maxSteps := 500000 }) only [↓vp, vv, implies_true, forall_const, undef, InI, ↓reduceIte, simprocAttr, tnkD]; try rfl)) hP'
  · exfalso
    have := hP (t.l.length - 1) (by omega) (Nat.le_refl _)
    have := hx.2
    unfold lst at this
    omega
end Go.Proofs.Ytadjhfjiimgddaa

/- Tanks: Volume, Room, Available, Level of both. -/
namespace Go.Proofs.Ytadjhfjiimgddaa
open Go
set_option linter.unusedVariables false
set_option linter.unusedSimpArgs false
set_option maxRecDepth 100000

def tPos (y : Int) : Int := if 0 < y then y else 0
def tSt (t : Tnk) (x : Int) : Int := if t.ok = true then (if InL t.l x then 0 else 16) else 9
def tVl (t : Tnk) (x : Int) : Int := if tSt t x = 0 then vol t.l x else 0
def tRm (t : Tnk) (x : Int) : Int := if tSt t x = 0 then tPos (vol t.l t.hi - vol t.l x) else 0
def tAv (t : Tnk) (x : Int) : Int := if tSt t x = 0 then tPos (vol t.l x - vol t.l t.lo) else 0
def InV (l : List Strap) (v : Int) : Prop := (fst l).vl ≤ v ∧ v ≤ (lst l).vl
instance (l : List Strap) (v : Int) : Decidable (InV l v) := by unfold InV; infer_instance
def tLs (t : Tnk) (v : Int) : Int := if t.ok = true then (if InV t.l v then 0 else 16) else 9
def tLv (t : Tnk) (v : Int) : Int := if tLs t v = 0 then lvl t.l v else 0
theorem ok_t {t : Tnk} (h : t.ok = true) : Straps t.l ∧ InL t.l t.lo ∧ InL t.l t.hi := by
  have h := of_decide_eq_true h
  exact ⟨straps_of h, (tok_in h).1, (tok_in h).2.1⟩
theorem tSt_bad {t : Tnk} {x : Int} (h : t.ok = false) : tSt t x = 9 ∧ tVl t x = 0 ∧ tRm t x = 0 ∧ tAv t x = 0 := by simp [tSt, tVl, tRm, tAv, h]
theorem tSt_out {t : Tnk} {x : Int} (h : t.ok = true) (k : ¬ InL t.l x) : tSt t x = 16 ∧ tVl t x = 0 ∧ tRm t x = 0 ∧ tAv t x = 0 := by simp [tSt, tVl, tRm, tAv, h, k]
theorem tSt_in {t : Tnk} {x : Int} (h : t.ok = true) (k : InL t.l x) : tSt t x = 0 ∧ tVl t x = vol t.l x ∧ tRm t x = tPos (vol t.l t.hi - vol t.l x) ∧ tAv t x = tPos (vol t.l x - vol t.l t.lo) := by simp [tSt, tVl, tRm, tAv, h, k]
theorem tLs_bad {t : Tnk} {x : Int} (h : t.ok = false) : tLs t x = 9 ∧ tLv t x = 0 := by simp [tLs, tLv, h]
theorem tLs_out {t : Tnk} {x : Int} (h : t.ok = true) (k : ¬ InV t.l x) : tLs t x = 16 ∧ tLv t x = 0 := by simp [tLs, tLv, h, k]
theorem tLs_in {t : Tnk} {x : Int} (h : t.ok = true) (k : InV t.l x) : tLs t x = 0 ∧ tLv t x = lvl t.l x := by simp [tLs, tLv, h, k]
def selTv : List D → Option (Prop × D)
  | [.agg r] => match tnkOf1 r with
    | some t => some (TkSz t, db t.ok)
    | Option.none => Option.none
  | _ => Option.none
def selTo : List D → Option (Prop × D)
  | [.agg r, .v (.int .i64 x)] => match tnkOf1 r with
    | some t => some (Straps t.l ∧ InL t.l x, di (vol t.l x))
    | Option.none => Option.none
  | _ => Option.none
def selTb : List D → Option (Prop × D)
  | [.agg r, .v (.int .i64 a), .v (.int .i64 b)] => match tnkOf1 r with
    | some t => some (Straps t.l ∧ InL t.l a ∧ InL t.l b, di (tPos (vol t.l a - vol t.l b)))
    | Option.none => Option.none
  | _ => Option.none
/-- The rows of Volume, Room, Available and Level. -/
def selT2 (f g : Tnk → Int → Int) : List D → Option (Prop × D)
  | [.agg r, .v (.int .i64 x)] => match tnkOf1 r with
    | some t => some (TkSz t, .tup [di (f t x), di (g t x)])
    | Option.none => Option.none
  | _ => Option.none
theorem tnk_enc {r : List D} {t : Tnk} (h : tnkOf1 r = some t) : D.agg r = t.enc := by rw [tnkOf1_eq h]; rfl
theorem tc_tv {T : Tbl} (hT : TblOk Try.prog T) : TblOk Try.prog (tc 11 (rowPu selTv) T) :=
  tc_pu f11_ok (fun args pre d h hp nn => by
    unfold selTv at h
    split at h
    · split at h
      · rename_i e
        cases h
        rw [tnk_enc e]
        exact valid_c _ hp nn
      · cases h
    · cases h) hT
theorem tc_to {T : Tbl} (hT : TblOk Try.prog T) : TblOk Try.prog (tc 71 (rowPu selTo) T) :=
  tc_pu f71_ok (fun args pre d h hp nn => by
    unfold selTo at h
    split at h
    · split at h
      · rename_i e
        cases h
        rw [tnk_enc e]
        exact volume_c _ _ hp.1 hp.2 nn
      · cases h
    · cases h) hT
def Tk1 : Tbl := tc 11 (rowPu selTv) (tc 71 (rowPu selTo) T0)
theorem Tk1_ok : TblOk Try.prog Tk1 := tc_tv (tc_to (T0_ok _))
theorem tc_rtv {T : Tbl} (hT : TblOk Try.prog T) : TblOk Try.prog (tc 12 (rowPu selTv) T) :=
  tc_pu f12_ok (fun args pre d h hp nn => by
    unfold selTv at h
    split at h
    · split at h
      · rename_i e
        cases h
        rw [tnk_enc e]
        exact rvalid_c _ hp nn
      · cases h
    · cases h) hT
theorem tc_rto {T : Tbl} (hT : TblOk Try.prog T) : TblOk Try.prog (tc 72 (rowPu selTo) T) :=
  tc_pu f72_ok (fun args pre d h hp nn => by
    unfold selTo at h
    split at h
    · split at h
      · rename_i e
        cases h
        rw [tnk_enc e]
        exact rvolume_c _ _ hp.1 hp.2 nn
      · cases h
    · cases h) hT
def Tkr1 : Tbl := tc 12 (rowPu selTv) (tc 72 (rowPu selTo) T0)
theorem Tkr1_ok : TblOk Try.prog Tkr1 := tc_rtv (tc_rto (T0_ok _))
set_option maxHeartbeats 8000000 in
theorem Vol_c (t : Tnk) (x : Int) (hz : TkSz t) (nn : Nm) : CallsA Try.prog 14 [t.enc, di x] Hp.none nn (Pu (.tup [di (tVl t x), di (tSt t x)]) Hp.none) := by
  obtain ⟨code, h1, h2⟩ := c14_ok
  refine callsA_of Tk1_ok mixed (N := fun t => (0, t)) Try.func14 h1 h2 r14_ok [] false js_nil js_nil' (by simp [Try.f14]) ?_
  have ht1 : tnkOf1 [ds t.nm, .sl (t.l.map Strap.row), di t.lo, di t.hi] = some t := tnkOf1_row t
  cases c0 : t.ok with
  | false =>
    obtain ⟨f1, f2, _⟩ := tSt_bad (x := x) c0
    simp (config := { maxSteps := 500000 }) only [↓vp, vv, implies_true, forall_const, undef, InI, ↓reduceIte, simprocAttr, c14, r14, c14_1, c14_2, Tnk.enc, tnkD, Tk1, selTv, selTo, ht1, hz, c0, f1, f2, Pu]
  | true =>
    have hs := (ok_t c0).1
    have two := hs.two
    have most := hs.most
    have w0 : IntKind.i64.wrap ((t.l.length : Int) - 1) = ((t.l.length - 1 : Nat) : Int) := by rw [wrap_i (by omega)]; omega
    have g0 := row_st t.l 0 (by omega)
    have gm := row_st t.l (t.l.length - 1) (by omega)
    have z1 : (0 : Int) < t.l.length := by omega
    have z2 : ((t.l.length - 1 : Nat) : Int) < t.l.length := by omega
    cases e1 : decide (x < (st t.l 0).lv) with
    | true =>
      obtain ⟨f1, f2, _⟩ := tSt_out (x := x) c0 (fun k => by have := k.1; unfold fst at this; have := of_decide_eq_true e1; omega)
      simp (config := { maxSteps := 500000 }) only [↓vp, vv, implies_true, forall_const, undef, InI, ↓reduceIte, simprocAttr, c14, r14, c14_1, c14_2, Tnk.enc, tnkD, Tk1, selTv, selTo, ht1, hz, c0, f1, f2, Pu, Int.toNat_natCast, idx_nn, Strap.row, w0, g0, gm, z1, z2, e1]
    | false =>
    cases e2 : decide ((st t.l (t.l.length - 1)).lv < x) with
    | true =>
      obtain ⟨f1, f2, _⟩ := tSt_out (x := x) c0 (fun k => by have := k.2; unfold lst at this; have := of_decide_eq_true e2; omega)
      simp (config := { maxSteps := 500000 }) only [↓vp, vv, implies_true, forall_const, undef, InI, ↓reduceIte, simprocAttr, c14, r14, c14_1, c14_2, Tnk.enc, tnkD, Tk1, selTv, selTo, ht1, hz, c0, f1, f2, Pu, Int.toNat_natCast, idx_nn, Strap.row, w0, g0, gm, z1, z2, e1, e2]
    | false =>
      have hin : InL t.l x := ⟨by unfold fst; have := of_decide_eq_false e1; omega, by unfold lst; have := of_decide_eq_false e2; omega⟩
      obtain ⟨f1, f2, _⟩ := tSt_in (x := x) c0 hin
      simp (config := { maxSteps := 500000 }) only [↓vp, vv, implies_true, forall_const, undef, InI, ↓reduceIte, simprocAttr, c14, r14, c14_1, c14_2, Tnk.enc, tnkD, Tk1, selTv, selTo, ht1, hz, c0, f1, f2, Pu, Int.toNat_natCast, idx_nn, Strap.row, w0, g0, gm, z1, z2, e1, e2, hin, hs]
theorem tc_Vol {T : Tbl} (hT : TblOk Try.prog T) : TblOk Try.prog (tc 14 (rowPu (selT2 tVl tSt)) T) :=
  tc_pu f14_ok (fun args pre d h hp nn => by
    unfold selT2 at h
    split at h
    · split at h
      · rename_i e
        cases h
        rw [tnk_enc e]
        exact Vol_c _ _ hp nn
      · cases h
    · cases h) hT
set_option maxHeartbeats 8000000 in
theorem rVol_c (t : Tnk) (x : Int) (hz : TkSz t) (nn : Nm) : CallsA Try.prog 15 [t.enc, di x] Hp.none nn (Pu (.tup [di (tVl t x), di (tSt t x)]) Hp.none) := by
  obtain ⟨code, h1, h2⟩ := c15_ok
  refine callsA_of Tkr1_ok mixed (N := fun t => (0, t)) Try.func15 h1 h2 r15_ok [] false js_nil js_nil' (by simp [Try.f15]) ?_
  have ht1 : tnkOf1 [ds t.nm, .sl (t.l.map Strap.row), di t.lo, di t.hi] = some t := tnkOf1_row t
  cases c0 : t.ok with
  | false =>
    obtain ⟨f1, f2, _⟩ := tSt_bad (x := x) c0
    simp (config := { maxSteps := 500000 }) only [↓vp, vv, implies_true, forall_const, undef, InI, ↓reduceIte, simprocAttr, c15, r15, c15_1, c15_2, Tnk.enc, tnkD, Tkr1, selTv, selTo, ht1, hz, c0, f1, f2, Pu]
  | true =>
    have hs := (ok_t c0).1
    have two := hs.two
    have most := hs.most
    have w0 : IntKind.i64.wrap ((t.l.length : Int) - 1) = ((t.l.length - 1 : Nat) : Int) := by rw [wrap_i (by omega)]; omega
    have g0 := row_st t.l 0 (by omega)
    have gm := row_st t.l (t.l.length - 1) (by omega)
    have z1 : (0 : Int) < t.l.length := by omega
    have z2 : ((t.l.length - 1 : Nat) : Int) < t.l.length := by omega
    cases e1 : decide (x < (st t.l 0).lv) with
    | true =>
      obtain ⟨f1, f2, _⟩ := tSt_out (x := x) c0 (fun k => by have := k.1; unfold fst at this; have := of_decide_eq_true e1; omega)
      simp (config := { maxSteps := 500000 }) only [↓vp, vv, implies_true, forall_const, undef, InI, ↓reduceIte, simprocAttr, c15, r15, c15_1, c15_2, Tnk.enc, tnkD, Tkr1, selTv, selTo, ht1, hz, c0, f1, f2, Pu, Int.toNat_natCast, idx_nn, Strap.row, w0, g0, gm, z1, z2, e1]
    | false =>
    cases e2 : decide ((st t.l (t.l.length - 1)).lv < x) with
    | true =>
      obtain ⟨f1, f2, _⟩ := tSt_out (x := x) c0 (fun k => by have := k.2; unfold lst at this; have := of_decide_eq_true e2; omega)
      simp (config := { maxSteps := 500000 }) only [↓vp, vv, implies_true, forall_const, undef, InI, ↓reduceIte, simprocAttr, c15, r15, c15_1, c15_2, Tnk.enc, tnkD, Tkr1, selTv, selTo, ht1, hz, c0, f1, f2, Pu, Int.toNat_natCast, idx_nn, Strap.row, w0, g0, gm, z1, z2, e1, e2]
    | false =>
      have hin : InL t.l x := ⟨by unfold fst; have := of_decide_eq_false e1; omega, by unfold lst; have := of_decide_eq_false e2; omega⟩
      obtain ⟨f1, f2, _⟩ := tSt_in (x := x) c0 hin
      simp (config := { maxSteps := 500000 }) only [↓vp, vv, implies_true, forall_const, undef, InI, ↓reduceIte, simprocAttr, c15, r15, c15_1, c15_2, Tnk.enc, tnkD, Tkr1, selTv, selTo, ht1, hz, c0, f1, f2, Pu, Int.toNat_natCast, idx_nn, Strap.row, w0, g0, gm, z1, z2, e1, e2, hin, hs]
theorem tc_rVol {T : Tbl} (hT : TblOk Try.prog T) : TblOk Try.prog (tc 15 (rowPu (selT2 tVl tSt)) T) :=
  tc_pu f15_ok (fun args pre d h hp nn => by
    unfold selT2 at h
    split at h
    · split at h
      · rename_i e
        cases h
        rw [tnk_enc e]
        exact rVol_c _ _ hp nn
      · cases h
    · cases h) hT
set_option maxHeartbeats 8000000 in
theorem between_c (t : Tnk) (a b : Int) (hs : Straps t.l) (ha : InL t.l a) (hb : InL t.l b) (nn : Nm) : CallsA Try.prog 73 [t.enc, di a, di b] Hp.none nn (Pu (di (tPos (vol t.l a - vol t.l b))) Hp.none) := by
  obtain ⟨code, h1, h2⟩ := c73_ok
  refine callsA_of Tk1_ok mixed (N := fun t => (0, t)) Try.func73 h1 h2 r73_ok [] false js_nil js_nil' (by simp [Try.f73]) ?_
  have ht1 : tnkOf1 [ds t.nm, .sl (t.l.map Strap.row), di t.lo, di t.hi] = some t := tnkOf1_row t
  have v1 := vol_num hs ha
  have v2 := vol_num hs hb
  have w1 : IntKind.i64.wrap (vol t.l a - vol t.l b) = vol t.l a - vol t.l b := wrap_i (by omega)
  simp (config := { maxSteps := 500000 }) only [↓vp, vv, implies_true, forall_const, undef, InI, ↓reduceIte, simprocAttr, c73, r73, Tnk.enc, tnkD, Tk1, selTv, selTo, ht1, hs, ha, hb, w1, tPos, Pu]
theorem tc_tb {T : Tbl} (hT : TblOk Try.prog T) : TblOk Try.prog (tc 73 (rowPu selTb) T) :=
  tc_pu f73_ok (fun args pre d h hp nn => by
    unfold selTb at h
    split at h
    · split at h
      · rename_i e
        cases h
        rw [tnk_enc e]
        exact between_c _ _ _ hp.1 hp.2.1 hp.2.2 nn
      · cases h
    · cases h) hT
def Tk2 : Tbl := tc 14 (rowPu (selT2 tVl tSt)) (tc 73 (rowPu selTb) T0)
theorem Tk2_ok : TblOk Try.prog Tk2 := tc_Vol (tc_tb (T0_ok _))
def Tkr2 : Tbl := tc 15 (rowPu (selT2 tVl tSt)) (tc 72 (rowPu selTo) T0)
theorem Tkr2_ok : TblOk Try.prog Tkr2 := tc_rVol (tc_rto (T0_ok _))
set_option maxHeartbeats 8000000 in
theorem Rm_c (t : Tnk) (x : Int) (hz : TkSz t) (nn : Nm) : CallsA Try.prog 16 [t.enc, di x] Hp.none nn (Pu (.tup [di (tRm t x), di (tSt t x)]) Hp.none) := by
  obtain ⟨code, h1, h2⟩ := c16_ok
  refine callsA_of Tk2_ok mixed (N := fun t => (0, t)) Try.func16 h1 h2 r16_ok [] false js_nil js_nil' (by simp [Try.f16]) ?_
  have ht1 : tnkOf1 [ds t.nm, .sl (t.l.map Strap.row), di t.lo, di t.hi] = some t := tnkOf1_row t
  cases c0 : t.ok with
  | false =>
    obtain ⟨f1, f2, f3, f4⟩ := tSt_bad (x := x) c0
    simp (config := { maxSteps := 500000 }) only [↓vp, vv, implies_true, forall_const, undef, InI, ↓reduceIte, simprocAttr, c16, r16, c16_1, Tnk.enc, tnkD, Tk2, selT2, selTb, selTo, ht1, hz, f1, f2, f3, f4, Pu]
  | true =>
    obtain ⟨hs, hlo, hhi⟩ := ok_t c0
    by_cases hin : InL t.l x
    · obtain ⟨f1, f2, f3, f4⟩ := tSt_in (x := x) c0 hin
      have v1 := vol_num hs hlo
      have v2 := vol_num hs hhi
      have v3 := vol_num hs hin
      have w1 : IntKind.i64.wrap (vol t.l t.hi - vol t.l x) = vol t.l t.hi - vol t.l x := wrap_i (by omega)
      have w2 : IntKind.i64.wrap (vol t.l x - vol t.l t.lo) = vol t.l x - vol t.l t.lo := wrap_i (by omega)
      simp (config := { maxSteps := 500000 }) only [↓vp, vv, implies_true, forall_const, undef, InI, ↓reduceIte, simprocAttr, c16, r16, c16_1, Tnk.enc, tnkD, Tk2, selT2, selTb, selTo, ht1, hz, f1, f2, f3, f4, hs, hlo, hhi, hin, w1, w2, tPos, Pu]
    · obtain ⟨f1, f2, f3, f4⟩ := tSt_out (x := x) c0 hin
      simp (config := { maxSteps := 500000 }) only [↓vp, vv, implies_true, forall_const, undef, InI, ↓reduceIte, simprocAttr, c16, r16, c16_1, Tnk.enc, tnkD, Tk2, selT2, selTb, selTo, ht1, hz, f1, f2, f3, f4, Pu]
set_option maxHeartbeats 8000000 in
theorem rRm_c (t : Tnk) (x : Int) (hz : TkSz t) (nn : Nm) : CallsA Try.prog 17 [t.enc, di x] Hp.none nn (Pu (.tup [di (tRm t x), di (tSt t x)]) Hp.none) := by
  obtain ⟨code, h1, h2⟩ := c17_ok
  refine callsA_of Tkr2_ok mixed (N := fun t => (0, t)) Try.func17 h1 h2 r17_ok [] false js_nil js_nil' (by simp [Try.f17]) ?_
  have ht1 : tnkOf1 [ds t.nm, .sl (t.l.map Strap.row), di t.lo, di t.hi] = some t := tnkOf1_row t
  cases c0 : t.ok with
  | false =>
    obtain ⟨f1, f2, f3, f4⟩ := tSt_bad (x := x) c0
    simp (config := { maxSteps := 500000 }) only [↓vp, vv, implies_true, forall_const, undef, InI, ↓reduceIte, simprocAttr, c17, r17, c17_1, Tnk.enc, tnkD, Tkr2, selT2, selTb, selTo, ht1, hz, f1, f2, f3, f4, Pu]
  | true =>
    obtain ⟨hs, hlo, hhi⟩ := ok_t c0
    by_cases hin : InL t.l x
    · obtain ⟨f1, f2, f3, f4⟩ := tSt_in (x := x) c0 hin
      have v1 := vol_num hs hlo
      have v2 := vol_num hs hhi
      have v3 := vol_num hs hin
      have w1 : IntKind.i64.wrap (vol t.l t.hi - vol t.l x) = vol t.l t.hi - vol t.l x := wrap_i (by omega)
      have w2 : IntKind.i64.wrap (vol t.l x - vol t.l t.lo) = vol t.l x - vol t.l t.lo := wrap_i (by omega)
      simp (config := { maxSteps := 500000 }) only [↓vp, vv, implies_true, forall_const, undef, InI, ↓reduceIte, simprocAttr, c17, r17, c17_1, Tnk.enc, tnkD, Tkr2, selT2, selTb, selTo, ht1, hz, f1, f2, f3, f4, hs, hlo, hhi, hin, w1, w2, tPos, Pu]
    · obtain ⟨f1, f2, f3, f4⟩ := tSt_out (x := x) c0 hin
      simp (config := { maxSteps := 500000 }) only [↓vp, vv, implies_true, forall_const, undef, InI, ↓reduceIte, simprocAttr, c17, r17, c17_1, Tnk.enc, tnkD, Tkr2, selT2, selTb, selTo, ht1, hz, f1, f2, f3, f4, Pu]
set_option maxHeartbeats 8000000 in
theorem Av_c (t : Tnk) (x : Int) (hz : TkSz t) (nn : Nm) : CallsA Try.prog 18 [t.enc, di x] Hp.none nn (Pu (.tup [di (tAv t x), di (tSt t x)]) Hp.none) := by
  obtain ⟨code, h1, h2⟩ := c18_ok
  refine callsA_of Tk2_ok mixed (N := fun t => (0, t)) Try.func18 h1 h2 r18_ok [] false js_nil js_nil' (by simp [Try.f18]) ?_
  have ht1 : tnkOf1 [ds t.nm, .sl (t.l.map Strap.row), di t.lo, di t.hi] = some t := tnkOf1_row t
  cases c0 : t.ok with
  | false =>
    obtain ⟨f1, f2, f3, f4⟩ := tSt_bad (x := x) c0
    simp (config := { maxSteps := 500000 }) only [↓vp, vv, implies_true, forall_const, undef, InI, ↓reduceIte, simprocAttr, c18, r18, c18_1, Tnk.enc, tnkD, Tk2, selT2, selTb, selTo, ht1, hz, f1, f2, f3, f4, Pu]
  | true =>
    obtain ⟨hs, hlo, hhi⟩ := ok_t c0
    by_cases hin : InL t.l x
    · obtain ⟨f1, f2, f3, f4⟩ := tSt_in (x := x) c0 hin
      have v1 := vol_num hs hlo
      have v2 := vol_num hs hhi
      have v3 := vol_num hs hin
      have w1 : IntKind.i64.wrap (vol t.l t.hi - vol t.l x) = vol t.l t.hi - vol t.l x := wrap_i (by omega)
      have w2 : IntKind.i64.wrap (vol t.l x - vol t.l t.lo) = vol t.l x - vol t.l t.lo := wrap_i (by omega)
      simp (config := { maxSteps := 500000 }) only [↓vp, vv, implies_true, forall_const, undef, InI, ↓reduceIte, simprocAttr, c18, r18, c18_1, Tnk.enc, tnkD, Tk2, selT2, selTb, selTo, ht1, hz, f1, f2, f3, f4, hs, hlo, hhi, hin, w1, w2, tPos, Pu]
    · obtain ⟨f1, f2, f3, f4⟩ := tSt_out (x := x) c0 hin
      simp (config := { maxSteps := 500000 }) only [↓vp, vv, implies_true, forall_const, undef, InI, ↓reduceIte, simprocAttr, c18, r18, c18_1, Tnk.enc, tnkD, Tk2, selT2, selTb, selTo, ht1, hz, f1, f2, f3, f4, Pu]
set_option maxHeartbeats 8000000 in
theorem rAv_c (t : Tnk) (x : Int) (hz : TkSz t) (nn : Nm) : CallsA Try.prog 19 [t.enc, di x] Hp.none nn (Pu (.tup [di (tAv t x), di (tSt t x)]) Hp.none) := by
  obtain ⟨code, h1, h2⟩ := c19_ok
  refine callsA_of Tkr2_ok mixed (N := fun t => (0, t)) Try.func19 h1 h2 r19_ok [] false js_nil js_nil' (by simp [Try.f19]) ?_
  have ht1 : tnkOf1 [ds t.nm, .sl (t.l.map Strap.row), di t.lo, di t.hi] = some t := tnkOf1_row t
  cases c0 : t.ok with
  | false =>
    obtain ⟨f1, f2, f3, f4⟩ := tSt_bad (x := x) c0
    simp (config := { maxSteps := 500000 }) only [↓vp, vv, implies_true, forall_const, undef, InI, ↓reduceIte, simprocAttr, c19, r19, c19_1, Tnk.enc, tnkD, Tkr2, selT2, selTb, selTo, ht1, hz, f1, f2, f3, f4, Pu]
  | true =>
    obtain ⟨hs, hlo, hhi⟩ := ok_t c0
    by_cases hin : InL t.l x
    · obtain ⟨f1, f2, f3, f4⟩ := tSt_in (x := x) c0 hin
      have v1 := vol_num hs hlo
      have v2 := vol_num hs hhi
      have v3 := vol_num hs hin
      have w1 : IntKind.i64.wrap (vol t.l t.hi - vol t.l x) = vol t.l t.hi - vol t.l x := wrap_i (by omega)
      have w2 : IntKind.i64.wrap (vol t.l x - vol t.l t.lo) = vol t.l x - vol t.l t.lo := wrap_i (by omega)
      simp (config := { maxSteps := 500000 }) only [↓vp, vv, implies_true, forall_const, undef, InI, ↓reduceIte, simprocAttr, c19, r19, c19_1, Tnk.enc, tnkD, Tkr2, selT2, selTb, selTo, ht1, hz, f1, f2, f3, f4, hs, hlo, hhi, hin, w1, w2, tPos, Pu]
    · obtain ⟨f1, f2, f3, f4⟩ := tSt_out (x := x) c0 hin
      simp (config := { maxSteps := 500000 }) only [↓vp, vv, implies_true, forall_const, undef, InI, ↓reduceIte, simprocAttr, c19, r19, c19_1, Tnk.enc, tnkD, Tkr2, selT2, selTb, selTo, ht1, hz, f1, f2, f3, f4, Pu]
end Go.Proofs.Ytadjhfjiimgddaa
