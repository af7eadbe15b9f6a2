/- TankAnswers: TkE TkG TkB Nk3 Nk4 Nk5 Nk6 Nk7 NkOk Fl1 Hints TkA Base. -/
import Derived.Test.YtadjhfjiimgddaaTA8
import Derived.Test.YtadjhfjiimgddaaTA5
import Derived.Test.YtadjhfjiimgddaaTA6
import Derived.WalkKit
import Derived.WalkSpells
import Derived.WalkLawsBesides
import Derived.Deep.QuietTactic
import Derived.BigQuiet
import Derived.Lib.Hide
import Derived.Handy
import Derived.OpenShut

/- Tanks: Level of both. -/
namespace Go.Proofs.Ytadjhfjiimgddaa
open Go
set_option linter.unusedVariables false
set_option linter.unusedSimpArgs false
set_option maxRecDepth 100000

def qLev : FuncId → List (List D) → Nat → Bool
  | _, [t, _, [.v (.int .i64 v)]] => fun k => match tnkOf1 t with
    | some t => lvP t.l v k
    | Option.none => false
  | _, _ => fun _ => false
set_option maxHeartbeats 8000000 in
theorem lev1_c (t : Tnk) (v : Int) (h : Straps t.l) (k : Nat) (hk : k < lvN t.l) (nn : Nm) : CallsA Try.prog 75 (di k :: ips [tnkD t, (st t.l 0).row, [di v]]) Hp.none nn (Pu (db (lvP t.l v k)) Hp.none) := by
  obtain ⟨code, h1, h2⟩ := c75_ok
  refine callsA_of Tk1_ok mixed (N := fun t => (0, t)) Try.func75 h1 h2 r75_ok [] false js_nil js_nil' (by simp [Try.f75]) ?_
  have ht1 : tnkOf1 [ds t.nm, .sl (t.l.map Strap.row), di t.lo, di t.hi] = some t := tnkOf1_row t
  have hin : InL t.l ((st t.l 0).lv + k) := inL_add h (by omega)
  have e := ends_lt h
  have n1 := e.2.2.1.1
  have n2 := e.2.2.2.1
  have w1 : IntKind.i64.wrap ((st t.l 0).lv + (k : Int)) = (st t.l 0).lv + k := wrap_i (by have := hin.2; unfold fst at n1; omega)
  have hp : lvP t.l v k = decide (v ≤ vol t.l ((st t.l 0).lv + k)) := rfl
  simp (config := { maxSteps := 500000 }) only [↓vp, vv, implies_true, forall_const, undef, InI, ↓reduceIte, simprocAttr, c75, r75, tnkD, ips, List.map_cons, List.map_nil, Strap.row, Tk1, selTv, selTo, ht1, h, hin, w1, hp, Pu]
def Tk3 (P : Program) : Tbl := tc 74 (rowPu (selS P qLev)) (tc 11 (rowPu selTv) T0)
theorem Tk3_ok : TblOk Try.prog (Tk3 Try.prog) := tc_search (tc_tv (T0_ok _))
set_option maxHeartbeats 8000000 in
theorem Lev_c (t : Tnk) (v : Int) (hz : TkSz t) (nn : Nm) : CallsA Try.prog 20 [t.enc, di v] Hp.none nn (Pu (.tup [di (tLv t v), di (tLs t v)]) Hp.none) := by
  obtain ⟨code, h1, h2⟩ := c20_ok
  refine callsA_of Tk3_ok mixed (N := fun t => (0, t)) Try.func20 h1 h2 r20_ok [] false js_nil js_nil' (by simp [Try.f20]) ?_
  have ht1 : tnkOf1 [ds t.nm, .sl (t.l.map Strap.row), di t.lo, di t.hi] = some t := tnkOf1_row t
  cases c0 : t.ok with
  | false =>
    obtain ⟨f1, f2⟩ := tLs_bad (x := v) c0
    simp (config := { maxSteps := 500000 }) only [↓vp, vv, implies_true, forall_const, undef, InI, ↓reduceIte, simprocAttr, c20, r20, c20_1, c20_2, Tnk.enc, tnkD, Tk3, selTv, ht1, hz, c0, f1, f2, Pu]
  | true =>
    have hs := (ok_t c0).1
    have two := hs.two
    have most := hs.most
    have w0 : IntKind.i64.wrap ((t.l.length : Int) - 1) = ((t.l.length - 1 : Nat) : Int) := by rw [wrap_i (by omega)]; omega
    have g0 := row_st t.l 0 (by omega)
    have gm := row_st t.l (t.l.length - 1) (by omega)
    have z1 : (0 : Int) < t.l.length := by omega
    have z2 : ((t.l.length - 1 : Nat) : Int) < t.l.length := by omega
    cases e1 : decide (v < (st t.l 0).vl) with
    | true =>
      obtain ⟨f1, f2⟩ := tLs_out (x := v) c0 (fun k => by have := k.1; unfold fst at this; have := of_decide_eq_true e1; omega)
      simp (config := { maxSteps := 500000 }) only [↓vp, vv, implies_true, forall_const, undef, InI, ↓reduceIte, simprocAttr, c20, r20, c20_1, c20_2, Tnk.enc, tnkD, Tk3, selTv, ht1, hz, c0, f1, f2, Pu, Int.toNat_natCast, idx_nn, Strap.row, w0, g0, gm, z1, z2, e1]
    | false =>
    cases e2 : decide ((st t.l (t.l.length - 1)).vl < v) with
    | true =>
      obtain ⟨f1, f2⟩ := tLs_out (x := v) c0 (fun k => by have := k.2; unfold lst at this; have := of_decide_eq_true e2; omega)
      simp (config := { maxSteps := 500000 }) only [↓vp, vv, implies_true, forall_const, undef, InI, ↓reduceIte, simprocAttr, c20, r20, c20_1, c20_2, Tnk.enc, tnkD, Tk3, selTv, ht1, hz, c0, f1, f2, Pu, Int.toNat_natCast, idx_nn, Strap.row, w0, g0, gm, z1, z2, e1, e2]
    | false =>
      have hin : InV t.l v := ⟨by unfold fst; have := of_decide_eq_false e1; omega, by unfold lst; have := of_decide_eq_false e2; omega⟩
      obtain ⟨f1, f2⟩ := tLs_in (x := v) c0 hin
      have e := ends_lt hs
      have n1 := e.2.2.1.1
      have n2 := e.2.2.2.1
      have hl := e.1
      have hle := (lvl_spec hs hin).1
      unfold lst at n2 hl
      unfold fst at n1 hl
      have hN : (lvN t.l : Int) = (st t.l (t.l.length - 1)).lv - (st t.l 0).lv := by unfold lvN lst fst; omega
      have hn : IntKind.i64.wrap ((st t.l (t.l.length - 1)).lv - (st t.l 0).lv) = (lvN t.l : Nat) := by rw [wrap_i (by omega), hN]
      have hv : (st t.l 0).lv + (leastN (lvP t.l v) (lvN t.l) 0 : Nat) = lvl t.l v := rfl
      have wv : IntKind.i64.wrap ((st t.l 0).lv + (leastN (lvP t.l v) (lvN t.l) 0 : Nat)) = lvl t.l v := by
        rw [hv]
        exact wrap_i (by have := hle.1; have := hle.2; unfold fst at *; unfold lst at *; omega)
      have hq : qLev 75 [tnkD t, (st t.l 0).row, [di v]] = lvP t.l v := by funext i; unfold qLev; simp only [tnkOf1_row]
      have so : SOk Try.prog (lvP t.l v) 75 [tnkD t, (st t.l 0).row, [di v]] (lvN t.l : Nat) := ⟨f75_ok, ⟨by omega, by omega⟩, by rw [Int.toNat_natCast]; exact lvP_mono hs v, fun k hk nn => lev1_c t v hs k (by omega) nn⟩
      have tl : (tnkD t).length = 4 := rfl
      simp only [tnkD, Strap.row] at hq so
      simp (config := { maxSteps := 500000 }) only [↓vp, vv, implies_true, forall_const, undef, InI, ↓reduceIte, simprocAttr, c20, c20_2, Tnk.enc, tnkD, Tk3, selTv, ht1, hz, c0, Int.toNat_natCast, idx_nn, Strap.row, w0, g0, gm, z1, z2, e1, e2]
      refine vc_wk ((weak_ip 2 (0, 2) 0 4 (tnkD t) (by simp (config := { maxSteps := 500000 }) only [↓vp, vv, implies_true, forall_const, undef, InI, ↓reduceIte, simprocAttr, tnkD]) (by simp (config := { maxSteps := 500000 }) only [↓vp, vv, implies_true, forall_const, undef, InI, ↓reduceIte, simprocAttr, tnkD]) (by simp (config := { maxSteps := 500000 }) only [↓vp, vv, implies_true, forall_const, undef, InI, ↓reduceIte, simprocAttr, tnkD]) (by simp)).trans ((weak_ip 3 (0, 3) 0 1 [di v] (by simp (config := { maxSteps := 500000 }) only [↓vp, vv, implies_true, forall_const, undef, InI, ↓reduceIte, simprocAttr, tnkD]) (by simp (config := { maxSteps := 500000 }) only [↓vp, vv, implies_true, forall_const, undef, InI, ↓reduceIte, simprocAttr, tnkD]) (by simp (config := { maxSteps := 500000 }) only [↓vp, vv, implies_true, forall_const, undef, InI, ↓reduceIte, simprocAttr, tnkD]) (by simp)).trans ((weak_ip 6 (0, 6) 0 2 (st t.l 0).row (by simp (config := { maxSteps := 500000 }) only [↓vp, vv, implies_true, forall_const, undef, InI, ↓reduceIte, simprocAttr, tnkD]) (by simp (config := { maxSteps := 500000 }) only [↓vp, vv, implies_true, forall_const, undef, InI, ↓reduceIte, simprocAttr, tnkD, Strap.row]) (by simp (config := { maxSteps := 500000 }) only [↓vp, vv, implies_true, forall_const, undef, InI, ↓reduceIte, simprocAttr, tnkD, Strap.row]) (by simp)).trans ((weak_ip 7 (0, 7) 0 2 (st t.l (t.l.length - 1)).row (by simp (config := { maxSteps := 500000 }) only [↓vp, vv, implies_true, forall_const, undef, InI, ↓reduceIte, simprocAttr, tnkD]) (by simp (config := { maxSteps := 500000 }) only [↓vp, vv, implies_true, forall_const, undef, InI, ↓reduceIte, simprocAttr, tnkD, Strap.row]) (by simp (config := { maxSteps := 500000 }) only [↓vp, vv, implies_true, forall_const, undef, InI, ↓reduceIte, simprocAttr, tnkD, Strap.row]) (by simp)).trans (weak_eq [] [] [(2, .ip (tnkD t)), (3, .ip [di v]), (6, .ip (st t.l 0).row), (7, .ip (st t.l (t.l.length - 1)).row)] (by simp (config := { maxSteps := 500000 }) only [↓vp, vv, implies_true, forall_const, undef, InI, ↓reduceIte, simprocAttr, coverS]) (by simp (config := { maxSteps := 500000 }) only [↓vp, vv, implies_true, forall_const, undef, InI, ↓reduceIte, simprocAttr, refsF]) (by simp (config := { maxSteps := 500000 }) only [↓vp, vv, implies_true, forall_const, undef, InI, ↓reduceIte, simprocAttr, ]) (by simp) (by simp (config := { maxSteps := 500000 }) only [↓vp, vv, implies_true, forall_const, undef, InI, ↓reduceIte, simprocAttr, ]; try rfl)))))) ?_
      simp (config := { maxSteps := 500000 }) only [↓vp, vv, implies_true, forall_const, undef, InI, ↓reduceIte, simprocAttr, c20_1, r20, Tk3, selS, ipsOf, so, hq, tnkD, Strap.row, hn, Int.toNat_natCast, wv, f1, f2, Pu]
def RLI (t : Tnk) (v : Int) (m : Nat) (s : St) : Prop :=
  ∃ a b : Int, a ≤ b ∧ m = (b - a).toNat ∧ InL t.l a ∧ InL t.l b ∧ v ≤ vol t.l b ∧ (a = (fst t.l).lv ∨ vol t.l (a - 1) < v) ∧ s = ⟨fr [(1, di v), (2, .ptr (0, 2) 0 0 0), (8, di a), (9, di b)], Hp.none.put (0, 2) ⟨0, 4, [tnkD t]⟩⟩
set_option maxHeartbeats 8000000 in
theorem rLev_c (t : Tnk) (v : Int) (hz : TkSz t) (nn : Nm) : CallsA Try.prog 21 [t.enc, di v] Hp.none nn (Pu (.tup [di (tLv t v), di (tLs t v)]) Hp.none) := by
  obtain ⟨code, h1, h2⟩ := c21_ok
  refine callsA_of Tkr1_ok mixed (N := fun t => (0, t)) Try.func21 h1 h2 r21_ok [] false js_nil js_nil' (by simp [Try.f21]) ?_
  have ht1 : tnkOf1 [ds t.nm, .sl (t.l.map Strap.row), di t.lo, di t.hi] = some t := tnkOf1_row t
  cases c0 : t.ok with
  | false =>
    obtain ⟨f1, f2⟩ := tLs_bad (x := v) c0
    simp (config := { maxSteps := 500000 }) only [↓vp, vv, implies_true, forall_const, undef, InI, ↓reduceIte, simprocAttr, c21, r21, c21_1, c21_2, c21_3, c21_4, c21_5, Tnk.enc, tnkD, Tkr1, selTv, ht1, hz, c0, f1, f2, Pu]
  | true =>
    have hs := (ok_t c0).1
    have two := hs.two
    have most := hs.most
    have w0 : IntKind.i64.wrap ((t.l.length : Int) - 1) = ((t.l.length - 1 : Nat) : Int) := by rw [wrap_i (by omega)]; omega
    have g0 := row_st t.l 0 (by omega)
    have gm := row_st t.l (t.l.length - 1) (by omega)
    have z1 : (0 : Int) < t.l.length := by omega
    have z2 : ((t.l.length - 1 : Nat) : Int) < t.l.length := by omega
    cases e1 : decide (v < (st t.l 0).vl) with
    | true =>
      obtain ⟨f1, f2⟩ := tLs_out (x := v) c0 (fun k => by have := k.1; unfold fst at this; have := of_decide_eq_true e1; omega)
      simp (config := { maxSteps := 500000 }) only [↓vp, vv, implies_true, forall_const, undef, InI, ↓reduceIte, simprocAttr, c21, r21, c21_1, c21_2, c21_3, c21_4, c21_5, Tnk.enc, tnkD, Tkr1, selTv, ht1, hz, c0, f1, f2, Pu, Int.toNat_natCast, idx_nn, Strap.row, w0, g0, gm, z1, z2, e1]
    | false =>
    cases e2 : decide ((st t.l (t.l.length - 1)).vl < v) with
    | true =>
      obtain ⟨f1, f2⟩ := tLs_out (x := v) c0 (fun k => by have := k.2; unfold lst at this; have := of_decide_eq_true e2; omega)
      simp (config := { maxSteps := 500000 }) only [↓vp, vv, implies_true, forall_const, undef, InI, ↓reduceIte, simprocAttr, c21, r21, c21_1, c21_2, c21_3, c21_4, c21_5, Tnk.enc, tnkD, Tkr1, selTv, ht1, hz, c0, f1, f2, Pu, Int.toNat_natCast, idx_nn, Strap.row, w0, g0, gm, z1, z2, e1, e2]
    | false =>
      have hin : InV t.l v := ⟨by unfold fst; have := of_decide_eq_false e1; omega, by unfold lst; have := of_decide_eq_false e2; omega⟩
      obtain ⟨f1, f2⟩ := tLs_in (x := v) c0 hin
      have e := ends_lt hs
      have n1 := e.2.2.1.1
      have n2 := e.2.2.2.1
      have hl := e.1
      have vF := vol_strap hs (i := 0) (by omega)
      have vL := vol_strap hs (i := t.l.length - 1) (by omega)
      simp (config := { maxSteps := 500000 }) only [↓vp, vv, implies_true, forall_const, undef, InI, ↓reduceIte, simprocAttr, c21, c21_5, c21_4, Tnk.enc, tnkD, Tkr1, selTv, ht1, hz, c0, Int.toNat_natCast, idx_nn, Strap.row, w0, g0, gm, z1, z2, e1, e2]
      rw [vc_loop]
      refine ⟨RLI t v, ⟨_, _, (weak_eq [] [(0, 2)] [(1, di v), (2, .ptr (0, 2) 0 0 0), (8, di (st t.l 0).lv), (9, di (st t.l (t.l.length - 1)).lv)] (by simp (config := { maxSteps := 500000 }) only [↓vp, vv, implies_true, forall_const, undef, InI, ↓reduceIte, simprocAttr, coverS, tnkD]) (by simp (config := { maxSteps := 500000 }) only [↓vp, vv, implies_true, forall_const, undef, InI, ↓reduceIte, simprocAttr, refsF, tnkD]) (by simp (config := { maxSteps := 500000 }) only [↓vp, vv, implies_true, forall_const, undef, InI, ↓reduceIte, simprocAttr, tnkD]) (by simp) (by simp (config := { maxSteps := 500000 }) only [↓vp, vv, implies_true, forall_const, undef, InI, ↓reduceIte, simprocAttr, tnkD]; try rfl)), (st t.l 0).lv, (st t.l (t.l.length - 1)).lv, by unfold lst fst at hl; omega, rfl, vF.1, vL.1, by rw [vL.2]; exact hin.2, .inl rfl, rfl⟩, ?_⟩
      rintro m s ⟨a, b, hab, rfl, ha, hb, hvb, hva, rfl⟩
      unfold lst at n2 hl
      unfold fst at n1 hl
      have a1 := ha.1
      have a2 := hb.2
      have a3 := ha.2
      unfold fst at a1
      unfold lst at a2 a3
      by_cases hlt : a < b
      · have wab : IntKind.i64.wrap (a + b) = a + b := wrap_i (by omega)
        obtain ⟨q, hq⟩ : ∃ q : Int, (a + b).tdiv 2 = q := ⟨_, rfl⟩
        have hq1 : a ≤ q ∧ q < b := by
          rw [Int.tdiv_eq_ediv_of_nonneg (by omega)] at hq
          omega
        have wq : IntKind.i64.wrap q = q := wrap_i (by omega)
        have wq1 : IntKind.i64.wrap (q + 1) = q + 1 := wrap_i (by omega)
        have hqi : InL t.l q := ⟨by unfold fst; omega, by unfold lst; omega⟩
        cases d1 : decide (v ≤ vol t.l q) with
        | true =>
          simp (config := { maxSteps := 500000 }) only [↓vp, vv, implies_true, forall_const, undef, InI, ↓reduceIte, simprocAttr, c21_2, c21_1, tnkD, Tkr1, selTv, selTo, ht1, hs, hqi, hlt, wab, hq, wq, d1]
          exact ⟨(q - a).toNat, _, by omega, (weak_eq [] [(0, 2)] [(1, di v), (2, .ptr (0, 2) 0 0 0), (8, di a), (9, di q)] (by simp (config := { maxSteps := 500000 }) only [↓vp, vv, implies_true, forall_const, undef, InI, ↓reduceIte, simprocAttr, coverS, tnkD]) (by simp (config := { maxSteps := 500000 }) only [↓vp, vv, implies_true, forall_const, undef, InI, ↓reduceIte, simprocAttr, refsF, tnkD]) (by simp (config := { maxSteps := 500000 }) only [↓vp, vv, implies_true, forall_const, undef, InI, ↓reduceIte, simprocAttr, tnkD]) (by simp) (by simp (config := { maxSteps := 500000 }) only [↓vp, vv, implies_true, forall_const, undef, InI, ↓reduceIte, simprocAttr, tnkD]; try rfl)), a, q, hq1.1, rfl, ha, hqi, of_decide_eq_true d1, hva, rfl⟩
        | false =>
          have hq2 : InL t.l (q + 1) := ⟨by unfold fst; omega, by unfold lst; omega⟩
          simp (config := { maxSteps := 500000 }) only [↓vp, vv, implies_true, forall_const, undef, InI, ↓reduceIte, simprocAttr, c21_2, c21_1, tnkD, Tkr1, selTv, selTo, ht1, hs, hqi, hlt, wab, hq, wq, wq1, d1]
          exact ⟨(b - (q + 1)).toNat, _, by omega, (weak_eq [] [(0, 2)] [(1, di v), (2, .ptr (0, 2) 0 0 0), (8, di (q + 1)), (9, di b)] (by simp (config := { maxSteps := 500000 }) only [↓vp, vv, implies_true, forall_const, undef, InI, ↓reduceIte, simprocAttr, coverS, tnkD, wq1]) (by simp (config := { maxSteps := 500000 }) only [↓vp, vv, implies_true, forall_const, undef, InI, ↓reduceIte, simprocAttr, refsF, tnkD, wq1]) (by simp (config := { maxSteps := 500000 }) only [↓vp, vv, implies_true, forall_const, undef, InI, ↓reduceIte, simprocAttr, tnkD, wq1]) (by simp) (by simp (config := { maxSteps := 500000 }) only [↓vp, vv, implies_true, forall_const, undef, InI, ↓reduceIte, simprocAttr, tnkD, wq1]; try rfl)), q + 1, b, by omega, rfl, hq2, hb, hvb, .inr (by rw [Int.add_sub_cancel]; have := of_decide_eq_false d1; omega), rfl⟩
      · obtain rfl : a = b := by omega
        have hr := lvl_unique hs hin ha hvb hva
        have hnl : ¬ a < a := hlt
        rw [← hr] at f2
        simp (config := { maxSteps := 500000 }) only [↓vp, vv, implies_true, forall_const, undef, InI, ↓reduceIte, simprocAttr, c21_2, c21_1, c21_3, r21, tnkD, Tkr1, selTv, selTo, hnl, f1, f2, Pu]
end Go.Proofs.Ytadjhfjiimgddaa

/- Tanks out of a source. -/
namespace Go.Proofs.Ytadjhfjiimgddaa
open Go
set_option linter.unusedVariables false
set_option linter.unusedSimpArgs false
set_option maxRecDepth 100000

def TgF (i : Nm) (l : List (Nat × D)) : List (Nat × D) := (0, .ptr i 0 0 0) :: (2, .ptr (i.1 + 1, 2) 0 0 0) :: (3, .ptr (i.1 + 1, 3) 0 0 0) :: l
def TgH (i : Nm) (L : List (List D)) (at' : Int) (nm : ByteArray) (g : Nat) (l : List Strap) (x y : Int) : Hp :=
  ((((Hp.none.put (i.1 + 1, 1001) ⟨g, 2, l.map Strap.row⟩).put (i.1 + 1, 4) ⟨0, 2, [[di x, di y]]⟩).put (i.1 + 1, 3) ⟨0, 4, [[ds nm, .own (i.1 + 1, 1001) g 0 l.length, di 0, di 0]]⟩).put (i.1 + 1, 2) ⟨0, 4, [[ds ⟨#[]⟩, .mt, di 0, di 0]]⟩).put i (sE L at')
def TgI (i : Nm) (L : List (List D)) (nm : ByteArray) (n : Int) (m : Nat) (s : St) : Prop := ∃ at' g l x y, SrcOk L at' ∧ (l.length : Int) + m = n ∧ (0 ≤ x ∧ x ≤ 5 + 1000 * (l.length : Int)) ∧ (0 ≤ y ∧ y ≤ 50 + 1048576 * (l.length : Int)) ∧ (∀ s ∈ l, 0 ≤ s.lv ∧ s.lv ≤ 10000) ∧ s = ⟨fr (TgF i [(4, .ptr (i.1 + 1, 4) 0 0 0), (5, di m)]), TgH i L at' nm g l x y⟩
def TgPost (t : Tnk) : Prop := 1 ≤ t.l.length ∧ t.l.length ≤ 6
theorem st_mem {l : List Strap} {j : Nat} (h : j < l.length) : st l j ∈ l := by rw [← st_get h]; exact List.getElem_mem h
set_option maxHeartbeats 8000000 in
theorem Tank_c : SrcC Try.prog 9 [] TgPost Tnk.enc := by
  intro i L at' nn ho
  obtain ⟨code, h1, h2⟩ := c9_ok
  refine callsA_of T2_ok mixed (N := fun t => (i.1 + 1, t)) Try.func9 h1 h2 r9_ok [i] false js_one js_one' (by simp [Try.f9]) ?_
  simp (config := { maxSteps := 500000 }) only [↓vp, vv, implies_true, forall_const, undef, InI, ↓reduceIte, simprocAttr, c9, T2, T1, selI, selPick, selRange, selName, sz1, ho]
  rintro ⟨at1, o1⟩ a ha ⟨at2, o2⟩ x hx ⟨at3, o3⟩ y hy ⟨at4, o4⟩ n hn
  unfold NPost at ha hx hy
  unfold RPost at hn
  rw [vc_loop]
  refine ⟨TgI i L (nm1B ⟨#[116]⟩ a) n, ⟨n.toNat, _, (weak_ownC (i.1 + 1, 3) 0 4 [ds (nm1B ⟨#[116]⟩ a)] [di 0, di 0] (i.1 + 1, 1001) 2 (by simp (config := { maxSteps := 500000 }) only [↓vp, vv, implies_true, forall_const, undef, InI, ↓reduceIte, simprocAttr, ]) (by simp (config := { maxSteps := 500000 }) only [↓vp, vv, implies_true, forall_const, undef, InI, ↓reduceIte, simprocAttr, ])).trans (weak_eq [] [i, (i.1 + 1, 2), (i.1 + 1, 3), (i.1 + 1, 4), (i.1 + 1, 1001)] (TgF i [(4, .ptr (i.1 + 1, 4) 0 0 0), (5, di n)]) (by simp (config := { maxSteps := 500000 }) only [↓vp, vv, implies_true, forall_const, undef, InI, ↓reduceIte, simprocAttr, coverS, TgF, TgH]) (by simp (config := { maxSteps := 500000 }) only [↓vp, vv, implies_true, forall_const, undef, InI, ↓reduceIte, simprocAttr, refsF, TgF, TgH]) (by simp (config := { maxSteps := 500000 }) only [↓vp, vv, implies_true, forall_const, undef, InI, ↓reduceIte, simprocAttr, TgF, TgH]) (by simp) (by simp (config := { maxSteps := 500000 }) only [↓vp, vv, implies_true, forall_const, undef, InI, ↓reduceIte, simprocAttr, TgF, TgH]; try rfl)), at4, 0, [], x, y, o4, by simp; omega, by simp; omega, by simp; omega, by simp, ?_⟩, ?_⟩
  · rw [show ((n.toNat : Nat) : Int) = n by omega]; rfl
  rintro m s ⟨at5, g, l, x, y, o5, hk, hx, hy, hl, rfl⟩
  by_cases hm : (0 : Int) < m
  · have y1 : (l.length + 1) * 2 ≤ 140737488355328 := by omega
    have y2 : l.length + 1 ≤ 4611686018427387904 := by omega
    simp (config := { maxSteps := 500000 }) only [↓vp, vv, implies_true, forall_const, undef, InI, ↓reduceIte, simprocAttr, c9, r9, c9_1, c9_2, c9_3, T2, T1, selI, selPick, selRange, selName, o5, TgF, TgH, hm, Strap.row, y1, y2]
    refine ⟨by omega, fun a1 p hp => ?_⟩
    simp [IsMem] at hp
    refine ⟨⟨by omega, by omega⟩, fun a2 q hq a3 r hr => ?_⟩
    unfold RPost at hq
    simp [IsMem] at hr
    refine ⟨⟨by omega, by omega⟩, fun a4 v hv => ?_⟩
    unfold RPost at hv
    have w1 : IntKind.i64.wrap (x + q) = x + q := wrap_i (by omega)
    have w2 : IntKind.i64.wrap (y + v) = y + v := wrap_i (by omega)
    have w3 : IntKind.i64.wrap ((m : Int) - 1) = ((m - 1 : Nat) : Int) := by rw [wrap_i (by omega)]; omega
    exact ⟨m - 1, _, by omega, (weak_eq [] [i, (i.1 + 1, 2), (i.1 + 1, 3), (i.1 + 1, 4), (i.1 + 1, 1001)] (TgF i [(4, .ptr (i.1 + 1, 4) 0 0 0), (5, di ((m - 1 : Nat) : Int))]) (by simp (config := { maxSteps := 500000 }) only [↓vp, vv, implies_true, forall_const, undef, InI, ↓reduceIte, simprocAttr, coverS, TgF, TgH, Strap.row, w1, w2, w3, List.map_append, List.length_append, List.length_cons, List.length_nil]) (by simp (config := { maxSteps := 500000 }) only [↓vp, vv, implies_true, forall_const, undef, InI, ↓reduceIte, simprocAttr, refsF, TgF, TgH, Strap.row, w1, w2, w3, List.map_append, List.length_append, List.length_cons, List.length_nil]) (by simp (config := { maxSteps := 500000 }) only [↓vp, vv, implies_true, forall_const, undef, InI, ↓reduceIte, simprocAttr, TgF, TgH, Strap.row, w1, w2, w3, List.map_append, List.length_append, List.length_cons, List.length_nil]) (by simp) (by simp (config := { maxSteps := 500000 }) only [↓vp, vv, implies_true, forall_const, undef, InI, ↓reduceIte, simprocAttr, TgF, TgH, Strap.row, w1, w2, w3, List.map_append, List.length_append, List.length_cons, List.length_nil]; try rfl)), a4.1, g + 1, l ++ [⟨x, y⟩], x + q, y + v, a4.2, by simp; omega, by simp; omega, by simp; omega, by
      intro s hs
      rcases List.mem_append.1 hs with hs | hs
      · exact hl s hs
      · rw [List.mem_singleton.1 hs]; dsimp only; omega, by
      simp [TgH, TgF, Strap.row, sE, w1, w2]⟩
  · have hm0 : m = 0 := by omega
    subst hm0
    have e0 := row_st l 0 (by omega)
    have en := row_st l (l.length - 1) (by omega)
    have w0 : IntKind.i64.wrap ((l.length : Int) - 1) = ((l.length - 1 : Nat) : Int) := by rw [wrap_i (by omega)]; omega
    have b1 := hl _ (st_mem (l := l) (j := 0) (by omega))
    have b2 := hl _ (st_mem (l := l) (j := l.length - 1) (by omega))
    have z1 : (0 : Int) < l.length := by omega
    have z2 : ((l.length - 1 : Nat) : Int) < l.length := by omega
    have wd : IntKind.i64.wrap ((st l (l.length - 1)).lv - (st l 0).lv) = (st l (l.length - 1)).lv - (st l 0).lv := wrap_i (by omega)
    have tk : (l.map Strap.row).take l.length = l.map Strap.row := List.take_of_length_le (by simp)
    simp (config := { maxSteps := 500000 }) only [↓vp, vv, implies_true, forall_const, undef, InI, ↓reduceIte, simprocAttr, c9, r9, c9_1, c9_2, c9_3, T2, T1, selI, selPick, selRange, selName, o5, TgF, TgH, hm, Strap.row, e0, en, w0, z1, z2, wd, Int.toNat_natCast, idx_nn, tk]
    refine ⟨by omega, by omega, by omega, fun a1 p hp => ?_⟩
    unfold NPost at hp
    have w1 : IntKind.i64.wrap ((st l 0).lv + p) = (st l 0).lv + p := wrap_i (by omega)
    have w2 : IntKind.i64.wrap ((st l 0).lv + p + 1) = (st l 0).lv + p + 1 := wrap_i (by omega)
    rw [w1, w2]
    refine ⟨⟨⟨by omega, by omega⟩, by omega, by omega⟩, fun a2 q hq => ?_⟩
    exact ⟨a2.1, ⟨nm1B ⟨#[116]⟩ a, l, (st l 0).lv + p, q⟩, a2.2, ⟨by show 1 ≤ l.length; omega, by show l.length ≤ 6; omega⟩, rfl, rfl⟩
end Go.Proofs.Ytadjhfjiimgddaa

/- Tanks in which one thing was changed. -/
namespace Go.Proofs.Ytadjhfjiimgddaa
open Go
set_option linter.unusedVariables false
set_option linter.unusedSimpArgs false
set_option maxRecDepth 100000

theorem Strap.plain (s : Strap) : ∀ d ∈ s.row, d.plain = true := fun d hd => by
  rcases List.mem_cons.1 hd with rfl | hd
  · rfl
  · rw [List.mem_singleton.1 hd]; rfl
theorem map_set_row (l : List Strap) (k : Nat) (s : Strap) : (l.map Strap.row).set k s.row = (l.set k s).map Strap.row := by rw [List.map_set]
theorem bent_set {i : Nm} {L : List (List D)} {t : Tnk} (hz : TgPost t) {at' : Int} (o : SrcOk L at') {k : Int} (hk : NPost (t.l.length : Int) k) (c : Nat) (hc : c < 2) (x : Int) :
    (0 ≤ k ∧ k < (t.l.length : Int)) ∧ (k.toNat < t.l.length ∧ c + 1 ≤ ((t.l.map Strap.row).getD k.toNat []).length) ∧
    ((∀ r : List D, r ∈ (t.l.map Strap.row).set k.toNat (((t.l.map Strap.row).getD k.toNat []).set c (di x)) → ∀ d : D, d ∈ r → d.plain = true) ∧ t.l.length ≤ ((t.l.map Strap.row).set k.toNat (((t.l.map Strap.row).getD k.toNat []).set c (di x))).length) ∧
    SrcR i L (fun t => t.l.length ≤ 6) Tnk.enc (D.agg [ds t.nm, D.sl (List.take t.l.length ((t.l.map Strap.row).set k.toNat (((t.l.map Strap.row).getD k.toNat []).set c (di x)))), di t.lo, di t.hi]) (Hp.none.put i (sE L at')) := by
  obtain ⟨h1, h2⟩ := hz
  obtain ⟨k1, k2, _⟩ := hk
  have kl : k.toNat < t.l.length := by have := k2 (by omega); omega
  obtain ⟨s, hs⟩ : ∃ s : Strap, ((t.l.map Strap.row).getD k.toNat []).set c (di x) = s.row := by
    rw [row_st _ _ kl]
    match c, hc with
    | 0, _ => exact ⟨⟨x, (st t.l k.toNat).vl⟩, rfl⟩
    | 1, _ => exact ⟨⟨(st t.l k.toNat).lv, x⟩, rfl⟩
  rw [hs, map_set_row]
  refine ⟨⟨k1, k2 (by omega)⟩, ⟨kl, by rw [row_st _ _ kl]; exact hc⟩, ⟨fun r hr => ?_, by simp⟩, at', ⟨t.nm, t.l.set k.toNat s, t.lo, t.hi⟩, o, by show (t.l.set k.toNat s).length ≤ 6; rw [List.length_set]; exact h2, ?_, rfl⟩
  · obtain ⟨y, _, rfl⟩ := List.mem_map.1 hr
    exact y.plain
  · rw [List.take_of_length_le (by simp)]
    rfl
def BtPost (t : Tnk) : Prop := t.l.length ≤ 6
set_option maxHeartbeats 8000000 in
theorem Bent_c (t : Tnk) (hz : TgPost t) : SrcC Try.prog 10 [t.enc] BtPost Tnk.enc := by
  intro i L at' nn ho
  obtain ⟨code, h1, h2⟩ := c10_ok
  refine callsA_of T2_ok mixed (N := fun t => (i.1 + 1, t)) Try.func10 h1 h2 r10_ok [i] false js_one js_one' (by simp [Try.f10]) ?_
  have hz1 := hz.1
  have hz2 := hz.2
  have y1 : t.l.length * 16 ≤ 140737488355328 := by omega
  have y2 : t.l.length ≤ 4611686018427387904 := by omega
  have wl : IntKind.i64.wrap ((t.l.length : Int) + 1) = (t.l.length : Int) + 1 := wrap_i (by omega)
  have pz : (0 : Int) < t.l.length := by omega
  simp (config := { maxSteps := 500000 }) only [↓vp, vv, implies_true, forall_const, undef, InI, ↓reduceIte, simprocAttr, c10, c10_1, pz, wl, r10, T2, T1, selI, selPick, selRange, selName, sz1, ho, Tnk.enc, tnkD, y1, y2]
  have pl : ∀ j : Strap, j ∈ t.l → ∀ d : D, d ∈ j.row → d.plain = true := fun j _ => j.plain
  refine ⟨fun j _ => rfl, fun a1 p hp => ?_⟩
  split
  · exact fun a2 q hq => ⟨pl, a2.1, ⟨t.nm, t.l, q, t.hi⟩, a2.2, hz2, rfl, rfl⟩
  split
  · exact fun a2 q hq => ⟨pl, a2.1, ⟨t.nm, t.l, t.lo, q⟩, a2.2, hz2, rfl, rfl⟩
  split
  · refine ⟨⟨by omega, by omega⟩, fun a2 q hq => ?_⟩
    obtain ⟨q1, q2, _⟩ := hq
    have q3 := q2 (by omega)
    refine ⟨⟨q1, by omega⟩, ⟨pl, by omega⟩, a2.1, ⟨t.nm, t.l.take (q.toNat - 0), t.lo, t.hi⟩, a2.2, by show (t.l.take (q.toNat - 0)).length ≤ 6; rw [List.length_take]; omega, ?_, rfl⟩
    simp only [Tnk.enc, tnkD, List.map_take]
  split
  · exact ⟨⟨by omega, by omega⟩, fun a2 q hq a3 x hx => bent_set hz a3.2 hq 0 (by omega) x⟩
  · exact ⟨⟨by omega, by omega⟩, fun a2 q hq a3 x hx => bent_set hz a3.2 hq 1 (by omega) x⟩
end Go.Proofs.Ytadjhfjiimgddaa

/- Networks: names that are there twice, indices that are known. -/
namespace Go.Proofs.Ytadjhfjiimgddaa
open Go
set_option linter.unusedVariables false
set_option linter.unusedSimpArgs false
set_option maxRecDepth 100000

end Go.Proofs.Ytadjhfjiimgddaa

/- Networks: twice, known. -/
namespace Go.Proofs.Ytadjhfjiimgddaa
open Go
set_option linter.unusedVariables false
set_option linter.unusedSimpArgs false
set_option maxRecDepth 100000

end Go.Proofs.Ytadjhfjiimgddaa

/- Networks: known indices; segments in their ranges. -/
namespace Go.Proofs.Ytadjhfjiimgddaa
open Go
set_option linter.unusedVariables false
set_option linter.unusedSimpArgs false
set_option maxRecDepth 100000

def iRow (k : Int) : List D := [di k]
end Go.Proofs.Ytadjhfjiimgddaa

/- Networks: segments in their ranges. -/
namespace Go.Proofs.Ytadjhfjiimgddaa
open Go
set_option linter.unusedVariables false
set_option linter.unusedSimpArgs false
set_option maxRecDepth 100000

end Go.Proofs.Ytadjhfjiimgddaa

/- Networks: network.Check. -/
namespace Go.Proofs.Ytadjhfjiimgddaa
open Go
set_option linter.unusedVariables false
set_option linter.unusedSimpArgs false
set_option maxRecDepth 100000

end Go.Proofs.Ytadjhfjiimgddaa

/- Networks out of a source are valid. -/
namespace Go.Proofs.Ytadjhfjiimgddaa
open Go
set_option linter.unusedVariables false
set_option linter.unusedSimpArgs false
set_option maxRecDepth 100000

theorem AllI.map {α β : Type} {P : Nat → β → Prop} {Q : Nat → α → Prop} {l : List α} (f : α → β) (h : AllI Q l) (hq : ∀ j x, Q j x → P j (f x)) : AllI P (l.map f) := fun j y hj => by
  rw [List.getElem?_map] at hj
  cases hx : l[j]? with
  | none => rw [hx] at hj; cases hj
  | some x => rw [hx] at hj; cases hj; exact hq j x (h j x hx)
end Go.Proofs.Ytadjhfjiimgddaa

/- Plans and flows: plain laws. -/
namespace Go.Proofs.Ytadjhfjiimgddaa
open Go
set_option linter.unusedVariables false
set_option linter.unusedSimpArgs false
set_option maxRecDepth 100000

structure Pln where
  rates : List Int
  ports : List Int
  pumps : List Bool
def bRow (b : Bool) : List D := [db b]
def plnD (p : Pln) : List D := [.sl (p.rates.map iRow), .sl (p.ports.map iRow), .sl (p.pumps.map bRow)]
def Pln.enc (p : Pln) : D := .agg (plnD p)
/-- The order of flow. -/
def blk (th : List Bool) (k : Nat) (x : Seg × Int) : Bool := if (x.2 == 0) = true then false else if ((if x.2 < 0 then x.1.fr else x.1.to) == (k : Int)) = true then !(th.getD (if x.2 < 0 then x.1.to else x.1.fr).toNat false) else false
theorem getD_none {th : List Bool} {k : Nat} (h : th.getD k true = false) : th[k]? = some false := by
  rw [List.getD_eq_getElem?_getD] at h
  cases e : th[k]? with
  | none => rw [e] at h; cases h
  | some b => rw [e] at h; exact congrArg some h
end Go.Proofs.Ytadjhfjiimgddaa
/- What runs of functions must know of their loops (printed by a program). -/
namespace Go.Proofs.Ytadjhfjiimgddaa
open Go
def hints : List (FuncId × Hint) := [
  (3, ⟨[([1, 2, 9, 10, 53, 54, 55], []), ([1, 2, 9, 10, 12, 53, 54, 55, 77, 78, 79], []), ([1, 2, 9, 10, 12, 53, 54, 55, 168, 169, 170], [])], false, []⟩),
  (4, ⟨[([1, 5, 6, 7, 8], []), ([6, 9, 10, 12, 13, 14], [])], false, []⟩),
  (5, ⟨[([1, 2, 7, 8, 9, 10, 11, 12], [])], false, []⟩),
  (6, ⟨[([1, 2, 3, 4, 13, 14, 15, 78, 79, 80], []), ([1, 2, 3, 4, 13, 14, 15, 17, 78, 79, 80, 86, 87, 88], []), ([1, 2, 3, 4, 13, 14, 15, 17, 19, 78, 79, 80, 86, 87, 88, 105, 106, 107], []), ([1, 2, 3, 4, 13, 14, 15, 17, 19, 78, 79, 80, 86, 87, 88, 105, 106, 107, 215, 216, 217], [])], false, []⟩),
  (9, ⟨[([0, 2, 3, 4, 5], [])], false, []⟩),
  (11, ⟨[([1, 3, 22, 23, 24], [])], false, []⟩),
  (12, ⟨[([1, 22, 23, 24], [])], false, []⟩),
  (21, ⟨[([1, 2, 8, 9], [])], false, []⟩),
  (26, ⟨[([0, 1, 2, 7], [])], false, []⟩),
  (29, ⟨[([1, 3, 4, 6, 12, 13, 14, 15, 60, 61], []), ([3, 4, 6, 12, 13, 14, 15, 80, 81, 82], []), ([3, 4, 6, 12, 13, 14, 15, 20, 21, 22, 23, 24, 80, 81, 82, 87, 88, 89], []), ([3, 4, 6, 12, 13, 14, 15, 20, 21, 22, 23, 24, 80, 81, 82, 146, 147, 148], []), ([3, 4, 6, 12, 13, 14, 15, 23, 24, 31, 80, 81, 82, 209, 210, 211], []), ([3, 4, 6, 12, 13, 14, 15, 23, 31, 80, 81, 82, 224, 225, 226], []), ([12, 13, 14, 15, 272, 273], []), ([12, 13, 15, 295, 296], [])], false, []⟩),
  (31, ⟨[([1, 14, 15, 16], [])], false, []⟩),
  (32, ⟨[([0, 2, 3, 4], []), ([0, 2, 3, 5, 6], []), ([0, 2, 3, 5, 7], []), ([0, 2, 3, 5, 9], [])], false, []⟩),
  (33, ⟨[([0, 3, 4, 5, 6], []), ([0, 3, 4, 5, 7, 8], []), ([0, 3, 4, 5, 7, 8, 9, 10, 11, 12, 13], []), ([0, 3, 4, 5, 7, 8, 9, 10, 11, 12, 13, 90, 91, 92], []), ([0, 3, 4, 5, 7, 8, 9, 10, 11, 12, 13, 16, 139, 140, 141], []), ([0, 3, 4, 5, 7, 8, 11, 239, 240, 241], [])], false, []⟩),
  (36, ⟨[([0, 3, 4, 5, 6], [])], false, []⟩),
  (41, ⟨[([2, 3, 4, 5, 10, 15, 16, 17], []), ([3, 4, 5, 10, 49, 50], []), ([3, 4, 5, 10, 14, 49, 50, 53, 54], [])], false, []⟩),
  (42, ⟨[([2, 3, 4, 5, 12], []), ([2, 3, 4, 5, 13, 14], []), ([2, 3, 4, 5, 13, 14, 15, 16], [])], false, []⟩),
  (45, ⟨[([0, 1, 5], [])], false, []⟩),
  (50, ⟨[([0, 3, 5, 6], [])], false, []⟩),
  (51, ⟨[([3, 4, 10, 12, 13, 14], []), ([3, 4, 10, 12, 13, 14, 44, 45], [])], false, []⟩),
  (52, ⟨[([1, 2, 3, 4, 11, 12], []), ([1, 2, 3, 4, 11, 12, 13, 50, 51], []), ([1, 2, 3, 4, 11, 12, 13, 14, 50, 51, 54, 55, 56], [])], false, []⟩),
  (57, ⟨[([0, 1, 12, 13], [])], false, []⟩),
  (58, ⟨[([0, 1, 12, 13], [])], false, []⟩),
  (59, ⟨[([2, 7, 8, 21, 22, 23], [])], false, []⟩),
  (60, ⟨[([1, 2, 22, 23, 24], []), ([1, 2, 9, 10, 44, 45, 46], [])], false, []⟩),
  (61, ⟨[([6, 8, 21, 22], [])], false, []⟩),
  (62, ⟨[([1, 2, 7, 18, 19], [])], false, []⟩),
  (67, ⟨[([0, 19, 20], [])], false, []⟩),
  (68, ⟨[([0, 3], [])], false, []⟩),
  (72, ⟨[([1, 2, 5], [])], false, []⟩),
  (74, ⟨[([1, 5, 6], [])], false, []⟩),
  (76, ⟨[([0, 3, 9, 10, 11], [])], false, []⟩),
  (77, ⟨[([0, 3, 6, 7], [])], false, []⟩),
  (81, ⟨[([3, 31, 32], [])], false, []⟩),
  (85, ⟨[([3, 6, 7, 8], [])], false, []⟩),
  (86, ⟨[([1, 5, 6, 19, 20, 21], []), ([1, 5, 6, 8, 9, 10, 19, 20, 21], []), ([1, 5, 6, 8, 9, 19, 20, 21, 43, 44], []), ([5, 71, 72], [])], false, []⟩),
  (87, ⟨[([0, 3, 4], [])], false, []⟩),
  (89, ⟨[([0, 8, 9, 10, 11], [])], false, []⟩),
  (91, ⟨[([1, 2, 3, 13, 14], []), ([1, 2, 3, 31, 32], [])], false, []⟩),
  (92, ⟨[([2, 7, 8, 9, 10], []), ([2, 7, 8, 9, 10], []), ([2, 7, 8, 9, 10, 11, 13], [])], false, []⟩),
  (95, ⟨[([1, 9, 10], [])], false, []⟩),
  (96, ⟨[([2, 3, 5, 21, 22, 23], [])], false, []⟩),
  (97, ⟨[([1, 51, 52, 53], []), ([1, 5, 65, 66], []), ([1, 5, 65, 66, 69, 70, 71], []), ([1, 80, 81], []), ([1, 89, 90], []), ([1, 12, 13, 89, 90], []), ([1, 14, 117, 118, 119], []), ([1, 14, 137, 138, 139], []), ([1, 14, 150, 151, 152], []), ([1, 163, 164, 165], []), ([1, 174, 175, 176], []), ([1, 186, 187, 188], [])], false, []⟩),
  (100, ⟨[([2, 3, 45, 46, 47], []), ([2, 3, 70, 71, 72], []), ([2, 3, 85, 86], [])], false, []⟩),
  (102, ⟨[([0, 1, 12, 13], [])], false, []⟩),
  (103, ⟨[([0, 1, 5], [])], false, []⟩),
  (104, ⟨[([0, 1, 9, 10, 11], [])], false, []⟩),
  (106, ⟨[([2, 5, 6], []), ([2, 5, 6, 7, 38, 39], [])], false, []⟩),
  (110, ⟨[([1, 2, 3, 7, 17, 18], []), ([1, 3, 7, 9], []), ([1, 3, 7, 9, 36, 37, 38], [])], false, []⟩),
  (112, ⟨[([5, 10, 11, 12], [])], false, []⟩),
  (113, ⟨[([7, 8, 15, 16], [])], false, []⟩),
  (119, ⟨[([0, 1, 12, 13], [])], false, []⟩),
  (124, ⟨[([2, 3, 40, 41, 42], [])], false, []⟩),
  (127, ⟨[([1, 2, 20, 21], []), ([1, 2, 32, 33], [])], false, []⟩),
  (128, ⟨[([2, 3, 5, 6], []), ([2, 3, 5, 6, 7, 20, 21], []), ([2, 3, 5, 6, 7, 8, 9, 20, 21, 30, 31, 32], [])], false, []⟩),
  (129, ⟨[([0, 1, 5, 8, 9], [])], false, []⟩),
  (130, ⟨[([1, 6, 7, 11, 12, 13], [])], false, []⟩),
  (131, ⟨[([1, 2, 4, 8, 10, 11, 12], []), ([1, 2, 4, 8, 10, 11, 12, 13], [])], false, []⟩),
  (133, ⟨[([1, 2, 3, 14, 15, 16], []), ([1, 2, 3, 29, 30, 31], []), ([2, 3, 44, 45, 46], [])], false, []⟩),
  (136, ⟨[([1, 10, 11], []), ([1, 4, 10, 11, 14, 15, 16], []), ([1, 29, 30, 31], [])], false, []⟩),
  (137, ⟨[([1, 3, 11, 12, 13], []), ([1, 3, 26, 27, 28], []), ([1, 3, 39, 40, 41], [])], false, []⟩),
  (140, ⟨[([1, 2, 3, 14, 15, 16], []), ([1, 2, 3, 29, 30, 31], []), ([2, 3, 44, 45, 46], [])], false, []⟩),
  (141, ⟨[([0, 6, 7], []), ([0, 3, 4, 6, 7], [])], false, []⟩),
  (142, ⟨[([1, 51, 52, 53], [])], false, []⟩),
  (143, ⟨[([1, 2, 5], []), ([1, 2, 6], [])], false, []⟩),
  (144, ⟨[([2, 3, 4, 8, 9, 17, 18, 19], []), ([2, 4, 8, 9, 64, 65, 66], [])], false, []⟩),
  (147, ⟨[([7, 8], [])], false, []⟩),
  (148, ⟨[([0, 1, 7, 8], [])], false, []⟩),
  (149, ⟨[([0, 1, 7, 8], [])], false, []⟩),
  (153, ⟨[([2, 3, 4, 5, 11, 12, 13], []), ([3, 4, 5, 30, 31, 32], [])], false, []⟩),
  (154, ⟨[([2, 3, 5, 6, 7], []), ([2, 3, 5, 6, 7, 28, 29, 30], [])], false, []⟩),
  (155, ⟨[([0, 1, 7, 8], [])], false, []⟩),
  (156, ⟨[([1, 2, 3, 6, 8], [])], false, []⟩),
  (161, ⟨[([0, 1, 7, 8], [])], false, []⟩),
  (162, ⟨[([0, 1, 7, 8], [])], false, []⟩),
  (163, ⟨[([0, 1, 7, 8], [])], false, []⟩),
  (167, ⟨[([1, 29, 30, 31], [])], false, []⟩),
  (173, ⟨[([0, 1, 7, 8], [])], false, []⟩),
  (177, ⟨[([0, 1, 7, 8], [])], false, []⟩),
  (178, ⟨[([0, 1, 7, 8], [])], false, []⟩)]
end Go.Proofs.Ytadjhfjiimgddaa

/- TankAnswers: the walk. -/
namespace Go.Proofs.Ytadjhfjiimgddaa
open Go
set_option linter.unusedVariables false
set_option linter.unusedSimpArgs false
set_option maxRecDepth 100000

def exT : Tnk := ⟨⟨#[116]⟩, [⟨0, 0⟩, ⟨10, 100⟩, ⟨20, 250⟩], 2, 18⟩
theorem f64_ok : fnOk Try.prog 64 = true := by kernel_rfl
theorem exT_c (nn : Nm) : CallsA Try.prog 64 [] Hp.none nn (Pu exT.enc Hp.none) := run_c mixed hints 200 30 (by kernel_rfl)
def selEx (d : D) : List D → Option (Prop × D)
  | [] => some (True, d)
  | _ => Option.none
theorem tc_ex {T : Tbl} (hT : TblOk Try.prog T) : TblOk Try.prog (tc 64 (rowPu (selEx exT.enc)) T) :=
  tc_pu f64_ok (fun args pre d h hp nn => by
    unfold selEx at h
    split at h
    · cases h; exact exT_c nn
    · cases h) hT
theorem tc_tRoom {T : Tbl} (hT : TblOk Try.prog T) : TblOk Try.prog (tc 16 (rowPu (selT2 tRm tSt)) T) :=
  tc_pu f16_ok (fun args pre d h hp nn => by
    unfold selT2 at h
    split at h
    · split at h
      · rename_i e
        cases h
        rw [tnk_enc e]
        exact Rm_c _ _ hp nn
      · cases h
    · cases h) hT
theorem tc_trRoom {T : Tbl} (hT : TblOk Try.prog T) : TblOk Try.prog (tc 17 (rowPu (selT2 tRm tSt)) T) :=
  tc_pu f17_ok (fun args pre d h hp nn => by
    unfold selT2 at h
    split at h
    · split at h
      · rename_i e
        cases h
        rw [tnk_enc e]
        exact rRm_c _ _ hp nn
      · cases h
    · cases h) hT
theorem tc_tAvl {T : Tbl} (hT : TblOk Try.prog T) : TblOk Try.prog (tc 18 (rowPu (selT2 tAv tSt)) T) :=
  tc_pu f18_ok (fun args pre d h hp nn => by
    unfold selT2 at h
    split at h
    · split at h
      · rename_i e
        cases h
        rw [tnk_enc e]
        exact Av_c _ _ hp nn
      · cases h
    · cases h) hT
theorem tc_trAvl {T : Tbl} (hT : TblOk Try.prog T) : TblOk Try.prog (tc 19 (rowPu (selT2 tAv tSt)) T) :=
  tc_pu f19_ok (fun args pre d h hp nn => by
    unfold selT2 at h
    split at h
    · split at h
      · rename_i e
        cases h
        rw [tnk_enc e]
        exact rAv_c _ _ hp nn
      · cases h
    · cases h) hT
theorem tc_tLev {T : Tbl} (hT : TblOk Try.prog T) : TblOk Try.prog (tc 20 (rowPu (selT2 tLv tLs)) T) :=
  tc_pu f20_ok (fun args pre d h hp nn => by
    unfold selT2 at h
    split at h
    · split at h
      · rename_i e
        cases h
        rw [tnk_enc e]
        exact Lev_c _ _ hp nn
      · cases h
    · cases h) hT
theorem tc_trLev {T : Tbl} (hT : TblOk Try.prog T) : TblOk Try.prog (tc 21 (rowPu (selT2 tLv tLs)) T) :=
  tc_pu f21_ok (fun args pre d h hp nn => by
    unfold selT2 at h
    split at h
    · split at h
      · rename_i e
        cases h
        rw [tnk_enc e]
        exact rLev_c _ _ hp nn
      · cases h
    · cases h) hT
def TkT : Tbl := tc 14 (rowPu (selT2 tVl tSt)) (tc 15 (rowPu (selT2 tVl tSt)) (tc 16 (rowPu (selT2 tRm tSt)) (tc 17 (rowPu (selT2 tRm tSt)) (tc 18 (rowPu (selT2 tAv tSt)) (tc 19 (rowPu (selT2 tAv tSt)) (tc 20 (rowPu (selT2 tLv tLs)) (tc 21 (rowPu (selT2 tLv tLs)) (tc 11 (rowPu selTv) (tc 12 (rowPu selTv) T2)))))))))
theorem TkT_ok : TblOk Try.prog TkT := tc_Vol (tc_rVol (tc_tRoom (tc_trRoom (tc_tAvl (tc_trAvl (tc_tLev (tc_trLev (tc_tv (tc_rtv T2_ok)))))))))
theorem exT_v : tVl exT 13 = 145 ∧ tSt exT 13 = 0 ∧ tLv exT 101 = 11 ∧ tLs exT 101 = 0 ∧ tRm exT 13 = 75 := by
  refine ⟨?_, ?_, ?_, ?_, ?_⟩ <;> kernel_rfl
def TkW6 : Tbl := tc 64 (rowPu (selEx exT.enc)) TkT
theorem TkW6_ok : TblOk Try.prog TkW6 := tc_ex TkT_ok
set_option maxHeartbeats 8000000 in
theorem awake06_c (nn : Nm) : CallsA Try.prog 7 [] Hp.none nn (Pu (db true) Hp.none) := by
  obtain ⟨code, h1, h2⟩ := c7_ok
  refine callsA_of TkW6_ok mixed (N := fun t => (0, t)) Try.func7 h1 h2 r7_ok [] false js_nil js_nil' (by simp [Try.f7]) ?_
  have ht1 : tnkOf1 [ds ⟨#[116]⟩, .sl [[di 0, di 0], [di 10, di 100], [di 20, di 250]], di 2, di 18] = some exT := rfl
  obtain ⟨e1, e2, e3, e4, e5⟩ := exT_v
  have sz : TkSz exT := by unfold TkSz exT; simp
  have ex : exT.enc = .agg [ds ⟨#[116]⟩, .sl [[di 0, di 0], [di 10, di 100], [di 20, di 250]], di 2, di 18] := rfl
  simp (config := { maxSteps := 500000 }) only [↓vp, vv, implies_true, forall_const, undef, InI, ↓reduceIte, simprocAttr, c7, r7, TkW6, TkT, selEx, selT2, ex, ht1, e1, e2, e3, e4, e5, sz, Pu]
/-- Loops over ranges, with something that changes beside. -/
theorem rng_loop' {T : Tbl} {N : Nat → Nm} {J : List Nm} {c : C} {Q : Ex → St → Prop} {s : St} {α : Type} (n : Nat) (st : Nat → α → St) {u0 : α} (h0 : Weak J s (st 0 u0))
    (hs : ∀ j, j < n → ∀ u, vc T N J c (loopQ J (fun m s => ∃ (j : Nat) (u : α), j + m = n ∧ s = st j u) (n - j) Q) (st j u)) (he : ∀ u, vc T N J c (loopQ J (fun m s => ∃ (j : Nat) (u : α), j + m = n ∧ s = st j u) 0 Q) (st n u)) : vc T N J (.loop c) Q s := by
  rw [vc_loop]
  refine ⟨fun m s => ∃ (j : Nat) (u : α), j + m = n ∧ s = st j u, ⟨n, _, h0, 0, u0, by omega, rfl⟩, ?_⟩
  rintro m s' ⟨j, u, hj, rfl⟩
  by_cases h : j < n
  · obtain rfl : m = n - j := by omega
    exact hs j h u
  · obtain rfl : j = n := by omega
    obtain rfl : m = 0 := by omega
    exact he u
theorem rng_next' {J : List Nm} {n : Nat} {α : Type} {st : Nat → α → St} {j : Nat} {s : St} (hj : j < n) (u : α) (w : Weak J s (st (j + 1) u)) : ∃ k' s', k' < n - j ∧ Weak J s s' ∧ ∃ (j : Nat) (u : α), j + k' = n ∧ s' = st j u :=
  ⟨n - (j + 1), _, by omega, w, j + 1, u, by omega, rfl⟩
def selBt : List D → Option (Prop × (Tnk → Prop))
  | [.agg r] => match tnkOf1 r with
    | some t => some (TgPost t, BtPost)
    | Option.none => Option.none
  | _ => Option.none
theorem tc_bent {T : Tbl} (hT : TblOk Try.prog T) : TblOk Try.prog (tc 10 (rowSrc selBt Tnk.enc) T) :=
  tc_src f10_ok (fun args pre post h hp => by
    unfold selBt at h
    split at h
    · split at h
      · rename_i e
        cases h
        rw [tnk_enc e]
        exact ⟨⟨exT, by unfold BtPost exT; simp⟩, Bent_c _ hp⟩
      · cases h
    · cases h) hT
theorem tc_tank {T : Tbl} (hT : TblOk Try.prog T) : TblOk Try.prog (tc 9 (rowSrc (sel0 TgPost) Tnk.enc) T) :=
  tc_src f9_ok (fun args pre post h hp => by
    unfold sel0 at h
    split at h <;> cases h
    exact ⟨⟨exT, by unfold TgPost exT; simp⟩, Tank_c⟩) hT
def TkL6 : Tbl := tc 7 (rowPu selAw) (tc 8 rowNew (tc 9 (rowSrc (sel0 TgPost) Tnk.enc) (tc 10 (rowSrc selBt Tnk.enc) TkT)))
theorem TkL6_ok : TblOk Try.prog TkL6 := tc_pu f7_ok (fun args pre d h hp nn => by
  unfold selAw at h
  split at h
  · cases h; exact awake06_c nn
  · cases h) (tc_new (tc_tank (tc_bent TkT_ok)))
def TaF (lv v : Int) (l : List (Nat × D)) : List (Nat × D) := (1, di lv) :: (2, di v) :: (9, .ptr (0, 45) 0 0 0) :: (10, .ptr (0, 10) 0 0 0) :: l
def TaH (L : List (List D)) (at' : Int) (t : Tnk) : Hp := (Hp.none.put (0, 10) ⟨0, 4, [tnkD t]⟩).put (0, 45) (sE L at')
def TaG (L : List (List D)) (at' : Int) (t x : Tnk) : Hp := ((Hp.none.put (0, 12) ⟨0, 4, [tnkD x]⟩).put (0, 10) ⟨0, 4, [tnkD t]⟩).put (0, 45) (sE L at')
set_option maxHeartbeats 16000000 in
theorem TA_c (raw : Tnk) (lv v : Int) (ns : List Int) (hns : ∀ n ∈ ns, InI n) (nn : Nm) : CallsA Try.prog 3 [raw.enc, di lv, di v, .sl (ns.map fun n => [di n])] Hp.none nn (Pu (db true) Hp.none) := by
  obtain ⟨code, h1, h2⟩ := c3_ok
  refine callsA_of TkL6_ok mixed (N := fun t => (0, t)) Try.func3 h1 h2 r3_ok [] false js_nil js_nil' (by simp [Try.f3]) ?_
  have ho := src_new ns hns
  generalize (ns.map fun n => [di n]) = L0 at ho ⊢
  cases c1 : decide ((40 : Int) < raw.l.length) with
  | true => simp (config := { maxSteps := 500000 }) only [↓vp, vv, implies_true, forall_const, undef, InI, ↓reduceIte, simprocAttr, c3, r3, TkL6, selAw, Tnk.enc, tnkD, c1, Pu]
  | false =>
  cases c2 : decide ((60 : Int) < raw.nm.size) with
  | true => simp (config := { maxSteps := 500000 }) only [↓vp, vv, implies_true, forall_const, undef, InI, ↓reduceIte, simprocAttr, c3, r3, TkL6, selAw, Tnk.enc, tnkD, c1, c2, Pu]
  | false =>
    have hz : raw.l.length ≤ 40 := by have := of_decide_eq_false c1; omega
    simp (config := { maxSteps := 500000 }) only [↓vp, vv, implies_true, forall_const, undef, InI, ↓reduceIte, simprocAttr, c3, c3_13, TkL6, TkT, T2, T1, rowNew, sel0, Tnk.enc, tnkD, c1, c2, ho]
    clear c1 c2
    intro a1 t ht
    have ht1 : ∀ t : Tnk, tnkOf1 [ds t.nm, .sl (t.l.map Strap.row), di t.lo, di t.hi] = some t := fun t => tnkOf1_row t
    simp (config := { maxSteps := 500000 }) only [↓vp, vv, implies_true, forall_const, undef, InI, ↓reduceIte, simprocAttr, TkL6, TkT, T2, T1, selBt, ht1, ht, a1.2, Tnk.enc, tnkD]
    intro a2 t' ht'
    generalize List.take 2000 L0 = L at a1 a2 ho ⊢
    obtain ⟨X, hX⟩ : ∃ X : List Tnk, X = [raw, t, t'] := ⟨_, rfl⟩
    have xl : X.length = 3 := by rw [hX]; rfl
    have xd : X.map tnkD = [tnkD raw, tnkD t, tnkD t'] := by rw [hX]; rfl
    have xz : ∀ x ∈ X, TkSz x := by
      rw [hX]
      intro x hx
      simp only [List.mem_cons, List.not_mem_nil, or_false] at hx
      have := ht.2
      unfold BtPost at ht'
      unfold TkSz
      rcases hx with rfl | rfl | rfl <;> omega
    have g0 := row_st t.l 0 ht.1
    have gm := row_st t.l (t.l.length - 1) (by have := ht.1; omega)
    have w0 : IntKind.i64.wrap ((t.l.length : Int) - 1) = ((t.l.length - 1 : Nat) : Int) := by have := ht.1; have := ht.2; rw [wrap_i (by omega)]; omega
    have z1 : (0 : Int) < t.l.length := by have := ht.1; omega
    have z2 : ((t.l.length - 1 : Nat) : Int) < t.l.length := by have := ht.1; omega
    refine rng_loop' 3 (fun j (u : SA L) => ⟨fr (TaF lv v [(53, .sl (X.map tnkD)), (54, di 3), (55, di j)]), TaH L u.1 t⟩) (weak_eq [(0, 53)] [(0, 45), (0, 10)] (TaF lv v [(53, .sl (X.map tnkD)), (54, di 3), (55, di 0)]) (by simp (config := { maxSteps := 500000 }) only [↓vp, vv, implies_true, forall_const, undef, InI, ↓reduceIte, simprocAttr, coverS, TaF, TaH, sE, tnkD, xd]) (by simp (config := { maxSteps := 500000 }) only [↓vp, vv, implies_true, forall_const, undef, InI, ↓reduceIte, simprocAttr, refsF, TaF, TaH, sE, tnkD, xd]) (by simp (config := { maxSteps := 500000 }) only [↓vp, vv, implies_true, forall_const, undef, InI, ↓reduceIte, simprocAttr, TaF, TaH, sE, tnkD, xd]) (by simp) (by simp (config := { maxSteps := 500000 }) only [↓vp, vv, implies_true, forall_const, undef, InI, ↓reduceIte, simprocAttr, TaF, TaH, sE, tnkD, xd]; try rfl)) (u0 := a2) (fun j hj u => ?_) (fun u => ?_)
    · have hj' : (j : Int) < 3 := by omega
      have hjx : j < X.length := by omega
      have g : (X.map tnkD).getD j [] = tnkD X[j] := getD_map tnkD X j hjx
      have xs : TkSz X[j] := xz _ (List.getElem_mem hjx)
      have uo := u.2
      have wj := idx_next (j := j) (by omega)
      clear xd hX
      generalize X[j] = x at g xs
      simp (config := { maxSteps := 500000 }) only [↓vp, vv, implies_true, forall_const, undef, InI, ↓reduceIte, simprocAttr, c3_11, c3_10, c3_8, TkL6, TkT, T2, T1, selI, TaF, TaH, tnkD, Strap.row, hj', idx_nn, xl, g, Int.toNat_natCast, ht1, xs, uo, selTv, bne_self_eq_false, g0, z1]
      intro a3 r hr
      obtain ⟨E, hE⟩ : ∃ E : List Int, E = [lv, r, t.lo, t.hi, IntKind.i64.wrap ((st t.l 0).lv - 1)] := ⟨_, rfl⟩
      have el : E.length = 5 := by rw [hE]; rfl
      have ed : E.map iRow = [[di lv], [di r], [di t.lo], [di t.hi], [di (IntKind.i64.wrap ((st t.l 0).lv - 1))]] := by rw [hE]; rfl
      refine rng_loop' 5 (fun k (u : SA L) => ⟨fr (TaF lv v [(12, .ptr (0, 12) 0 0 0), (53, .sl (X.map tnkD)), (54, di 3), (55, di j), (77, .sl (E.map iRow)), (78, di 5), (79, di k)]), TaG L u.1 t x⟩) (weak_eq [(0, 77)] [(0, 45), (0, 10), (0, 12)] (TaF lv v [(12, .ptr (0, 12) 0 0 0), (53, .sl (X.map tnkD)), (54, di 3), (55, di j), (77, .sl (E.map iRow)), (78, di 5), (79, di 0)]) (by simp (config := { maxSteps := 500000 }) only [↓vp, vv, implies_true, forall_const, undef, InI, ↓reduceIte, simprocAttr, coverS, TaF, TaG, sE, tnkD, Strap.row, ed]) (by simp (config := { maxSteps := 500000 }) only [↓vp, vv, implies_true, forall_const, undef, InI, ↓reduceIte, simprocAttr, refsF, TaF, TaG, sE, tnkD, Strap.row, ed]) (by simp (config := { maxSteps := 500000 }) only [↓vp, vv, implies_true, forall_const, undef, InI, ↓reduceIte, simprocAttr, TaF, TaG, sE, tnkD, Strap.row, ed]) (by simp) (by simp (config := { maxSteps := 500000 }) only [↓vp, vv, implies_true, forall_const, undef, InI, ↓reduceIte, simprocAttr, TaF, TaG, sE, tnkD, Strap.row, ed]; try rfl)) (u0 := a3) (fun k hk u => ?_) (fun u => ?_)
      · have hk' : (k : Int) < 5 := by omega
        have hke : k < E.length := by omega
        have ge : (E.map iRow).getD k [] = [di E[k]] := getD_map iRow E k hke
        have uo := u.2
        have wk := idx_next (j := k) (by omega)
        clear ed hE
        generalize E[k] = e at ge
        simp (config := { maxSteps := 500000 }) only [↓vp, vv, implies_true, forall_const, undef, InI, ↓reduceIte, simprocAttr, c3_3, c3_2, c3_1, TkL6, TkT, T2, T1, selT2, TaF, TaG, tnkD, hk', idx_nn, el, ge, Int.toNat_natCast, ht1, xs, uo, bne_self_eq_false, wk]
        exact rng_next' hk u (weak_eq [] [(0, 45), (0, 10), (0, 12)] (TaF lv v [(12, .ptr (0, 12) 0 0 0), (53, .sl (X.map tnkD)), (54, di 3), (55, di j), (77, .sl (E.map iRow)), (78, di 5), (79, di (k + 1 : Nat))]) (by simp (config := { maxSteps := 500000 }) only [↓vp, vv, implies_true, forall_const, undef, InI, ↓reduceIte, simprocAttr, coverS, TaF, TaG, sE, tnkD, wk]) (by simp (config := { maxSteps := 500000 }) only [↓vp, vv, implies_true, forall_const, undef, InI, ↓reduceIte, simprocAttr, refsF, TaF, TaG, sE, tnkD, wk]) (by simp (config := { maxSteps := 500000 }) only [↓vp, vv, implies_true, forall_const, undef, InI, ↓reduceIte, simprocAttr, TaF, TaG, sE, tnkD, wk]) (by simp) (by simp (config := { maxSteps := 500000 }) only [↓vp, vv, implies_true, forall_const, undef, InI, ↓reduceIte, simprocAttr, TaF, TaG, sE, tnkD, wk]; try rfl))
      · have uo := u.2
        clear ed hE hr
        simp (config := { maxSteps := 500000 }) only [↓vp, vv, implies_true, forall_const, undef, InI, ↓reduceIte, simprocAttr, c3_3, c3_7, TkL6, TkT, T2, T1, selI, TaF, TaG, tnkD, Strap.row, Int.lt_irrefl, idx_nn, g0, gm, w0, z1, z2, Int.toNat_natCast, ht1, xs, uo]
        intro a4 r4 hr4 a5 r5 hr5
        clear hr4 hr5
        generalize IntKind.i64.wrap ((st t.l (t.l.length - 1)).vl + r5) = q5
        obtain ⟨M, hM⟩ : ∃ M : List Int, M = [v, r4, (st t.l 0).vl, q5] := ⟨_, rfl⟩
        have ml : M.length = 4 := by rw [hM]; rfl
        have md : M.map iRow = [[di v], [di r4], [di (st t.l 0).vl], [di q5]] := by rw [hM]; rfl
        refine rng_loop' 4 (fun k (u : SA L) => ⟨fr (TaF lv v [(12, .ptr (0, 12) 0 0 0), (53, .sl (X.map tnkD)), (54, di 3), (55, di j), (168, .sl (M.map iRow)), (169, di 4), (170, di k)]), TaG L u.1 t x⟩) (weak_eq [(0, 168)] [(0, 45), (0, 10), (0, 12)] (TaF lv v [(12, .ptr (0, 12) 0 0 0), (53, .sl (X.map tnkD)), (54, di 3), (55, di j), (168, .sl (M.map iRow)), (169, di 4), (170, di 0)]) (by simp (config := { maxSteps := 500000 }) only [↓vp, vv, implies_true, forall_const, undef, InI, ↓reduceIte, simprocAttr, coverS, TaF, TaG, sE, tnkD, Strap.row, md]) (by simp (config := { maxSteps := 500000 }) only [↓vp, vv, implies_true, forall_const, undef, InI, ↓reduceIte, simprocAttr, refsF, TaF, TaG, sE, tnkD, Strap.row, md]) (by simp (config := { maxSteps := 500000 }) only [↓vp, vv, implies_true, forall_const, undef, InI, ↓reduceIte, simprocAttr, TaF, TaG, sE, tnkD, Strap.row, md]) (by simp) (by simp (config := { maxSteps := 500000 }) only [↓vp, vv, implies_true, forall_const, undef, InI, ↓reduceIte, simprocAttr, TaF, TaG, sE, tnkD, Strap.row, md]; try rfl)) (u0 := a5) (fun k hk u => ?_) (fun u => ?_)
        · have hk' : (k : Int) < 4 := by omega
          have hke : k < M.length := by omega
          have ge : (M.map iRow).getD k [] = [di M[k]] := getD_map iRow M k hke
          have uo := u.2
          have wk := idx_next (j := k) (by omega)
          clear md hM
          generalize M[k] = e at ge
          simp (config := { maxSteps := 500000 }) only [↓vp, vv, implies_true, forall_const, undef, InI, ↓reduceIte, simprocAttr, c3_6, c3_5, c3_4, TkL6, TkT, T2, T1, selT2, TaF, TaG, tnkD, hk', idx_nn, ml, ge, Int.toNat_natCast, ht1, xs, uo, bne_self_eq_false, wk]
          exact rng_next' hk u (weak_eq [] [(0, 45), (0, 10), (0, 12)] (TaF lv v [(12, .ptr (0, 12) 0 0 0), (53, .sl (X.map tnkD)), (54, di 3), (55, di j), (168, .sl (M.map iRow)), (169, di 4), (170, di (k + 1 : Nat))]) (by simp (config := { maxSteps := 500000 }) only [↓vp, vv, implies_true, forall_const, undef, InI, ↓reduceIte, simprocAttr, coverS, TaF, TaG, sE, tnkD, wk]) (by simp (config := { maxSteps := 500000 }) only [↓vp, vv, implies_true, forall_const, undef, InI, ↓reduceIte, simprocAttr, refsF, TaF, TaG, sE, tnkD, wk]) (by simp (config := { maxSteps := 500000 }) only [↓vp, vv, implies_true, forall_const, undef, InI, ↓reduceIte, simprocAttr, TaF, TaG, sE, tnkD, wk]) (by simp) (by simp (config := { maxSteps := 500000 }) only [↓vp, vv, implies_true, forall_const, undef, InI, ↓reduceIte, simprocAttr, TaF, TaG, sE, tnkD, wk]; try rfl))
        · clear md hM
          simp (config := { maxSteps := 500000 }) only [↓vp, vv, implies_true, forall_const, undef, InI, ↓reduceIte, simprocAttr, c3_6, c3_9, TaF, TaG, tnkD, Int.lt_irrefl, wj]
          exact rng_next' hj u (weak_eq [] [(0, 45), (0, 10)] (TaF lv v [(53, .sl (X.map tnkD)), (54, di 3), (55, di (j + 1 : Nat))]) (by simp (config := { maxSteps := 500000 }) only [↓vp, vv, implies_true, forall_const, undef, InI, ↓reduceIte, simprocAttr, coverS, TaF, TaH, tnkD, wj]) (by simp (config := { maxSteps := 500000 }) only [↓vp, vv, implies_true, forall_const, undef, InI, ↓reduceIte, simprocAttr, refsF, TaF, TaH, tnkD, wj]) (by simp (config := { maxSteps := 500000 }) only [↓vp, vv, implies_true, forall_const, undef, InI, ↓reduceIte, simprocAttr, TaF, TaH, tnkD, wj]) (by simp) (by simp (config := { maxSteps := 500000 }) only [↓vp, vv, implies_true, forall_const, undef, InI, ↓reduceIte, simprocAttr, TaF, TaH, tnkD, wj]; try rfl))
    · simp (config := { maxSteps := 500000 }) only [↓vp, vv, implies_true, forall_const, undef, InI, ↓reduceIte, simprocAttr, c3_11, c3_12, r3, TkL6, selAw, TaF, TaH, Int.lt_irrefl, Pu]
end Go.Proofs.Ytadjhfjiimgddaa

/- Small plain notions for walks over worlds: 'Only': no old block but one has changed; 'Kept': no old block has changed. No program in sight. -/
namespace Go.Proofs.Ytadjhfjiimgddaa
open Go.RowKit
set_option linter.unusedVariables false
set_option linter.unusedSimpArgs false

/-- No block that was there has changed. -/
abbrev Kept (w w' : World) : Prop := Below w.heap.size w w'
theorem Kept.refl (w : World) : Kept w w := Below.refl _ _
theorem Kept.trans {a b c : World} (h : Kept a b) (k : Kept b c) : Kept a c := Below.trans h (Below.mono k h.size)
theorem Kept.alloc {a w : World} (h : Kept a w) (o : Obj) : Kept a (w.alloc o) := Below.alloc h h.size o
theorem Kept.drew {a w : World} (h : Kept a w) : Kept a w.drew := Below.drew h
theorem Kept.setCell {a w : World} (h : Kept a w) {p : Addr} (hp : a.heap.size ≤ p.block) (u : Value) : Kept a (w.setCell p u) := Below.setCell h hp u

/-- Of the blocks that were there at most block bs has changed. -/
structure Only (bs : Nat) (w w' : World) : Prop where
  os : w'.os = w.os
  tape : w'.tape = w.tape
  output : w'.output = w.output
  size : w.heap.size ≤ w'.heap.size
  block : ∀ k, k < w.heap.size → k ≠ bs → w'.heap[k]? = w.heap[k]?
theorem Only.refl (bs : Nat) (w : World) : Only bs w w := ⟨rfl, rfl, rfl, Nat.le_refl _, fun _ _ _ => rfl⟩
theorem Only.trans {bs : Nat} {a b c : World} (h : Only bs a b) (k : Only bs b c) : Only bs a c :=
  ⟨k.os.trans h.os, k.tape.trans h.tape, k.output.trans h.output, Nat.le_trans h.size k.size, fun i hi hn => (k.block i (Nat.lt_of_lt_of_le hi h.size) hn).trans (h.block i hi hn)⟩
theorem Only.of_kept {bs : Nat} {w w' : World} (h : Kept w w') : Only bs w w' := ⟨h.os, h.tape, h.output, h.size, fun k hk _ => h.block k hk⟩
theorem Only.kept {bs : Nat} {a w w' : World} (h : Kept a w) (k : Only bs w w') (hb : a.heap.size ≤ bs) : Kept a w' :=
  ⟨k.os.trans h.os, k.tape.trans h.tape, k.output.trans h.output, Nat.le_trans h.size k.size, fun i hi => (k.block i (Nat.lt_of_lt_of_le hi h.size) (by omega)).trans (h.block i hi)⟩
theorem Only.alloc {bs : Nat} {a w : World} (h : Only bs a w) (o : Obj) : Only bs a (w.alloc o) := h.trans (.of_kept ((Kept.refl w).alloc o))
theorem Only.drew {bs : Nat} {a w : World} (h : Only bs a w) : Only bs a w.drew := ⟨h.os, h.tape, h.output, h.size, h.block⟩
theorem Only.setCell {bs : Nat} {a w : World} (h : Only bs a w) {p : Addr} (hp : p.block = bs ∨ a.heap.size ≤ p.block) (u : Value) : Only bs a (w.setCell p u) :=
  ⟨h.os, h.tape, h.output, by have := h.size; simpa [World.setCell] using this, fun k hk hn => by rw [Below.heap_setCell _ _ _ _ (by omega)]; exact h.block k hk hn⟩

/-- A cell of which nothing is said. -/
def farCell (w : World) (b o : Nat) : Option Value := w.cell? ⟨b, o, none⟩
def farFree (w : World) (b o : Nat) : Bool := w.frozen? ⟨b, o, none⟩
/-- What the walk uses by itself behind a contract: old cells read as they did. (Stated by 'if', so that the walk decides the condition by arithmetic.) -/
theorem kcell {w w' : World} (hb : Kept w w') : (∀ b o, w'.cell? ⟨b, o, none⟩ = if b < w.heap.size then w.cell? ⟨b, o, none⟩ else farCell w' b o) ∧ (∀ b o, w'.frozen? ⟨b, o, none⟩ = if b < w.heap.size then w.frozen? ⟨b, o, none⟩ else farFree w' b o) :=
  ⟨fun b o => by split; · exact Below.cell hb (p := ⟨b, o, none⟩) ‹_›
                 · rfl,
   fun b o => by split; · exact Below.frozen hb (p := ⟨b, o, none⟩) ‹_›
                 · rfl⟩
theorem ocell {bs : Nat} {w w' : World} (hb : Only bs w w') : (∀ b o, w'.cell? ⟨b, o, none⟩ = if b < w.heap.size ∧ b ≠ bs then w.cell? ⟨b, o, none⟩ else farCell w' b o) ∧ (∀ b o, w'.frozen? ⟨b, o, none⟩ = if b < w.heap.size ∧ b ≠ bs then w.frozen? ⟨b, o, none⟩ else farFree w' b o) :=
  ⟨fun b o => by split; · exact World.cell?_of_block (w := w) (hb.block b (by omega) (by omega))
                 · rfl,
   fun b o => by split; · exact World.frozen?_of_block (w := w) (hb.block b (by omega) (by omega))
                 · rfl⟩
/-- A cell behind a new block, by arithmetic on the block's number. -/
@[go_sem] theorem cell_alloc_ite (w : World) (c : Array Value) (t : TypeId) (fr : Nat × Nat) (n i : Nat) : (w.alloc (.cells c t fr)).cell? ⟨n, i, none⟩ = if n < w.heap.size then w.cell? ⟨n, i, none⟩ else if n = w.heap.size then c[i]? else farCell (w.alloc (.cells c t fr)) n i := by
  split
  · exact World.cell?_alloc_lt _ _ _ ‹_›
  split
  · subst n
    show (match (w.heap.push _)[w.heap.size]? with | some (.cells c _ _) => _ | _ => _) = _
    simp
  · rfl
@[go_sem] theorem free_alloc_ite (w : World) (c : Array Value) (t : TypeId) (n i : Nat) : (w.alloc (.cells c t)).frozen? ⟨n, i, none⟩ = if n < w.heap.size then w.frozen? ⟨n, i, none⟩ else if n = w.heap.size then false else farFree (w.alloc (.cells c t)) n i := by
  split
  · exact World.frozen?_alloc_past _ _ _ ‹_›
  split
  · exact World.frozen?_alloc_at _ _ _ _ ‹_›
  · rfl
/-- A cell behind a store, by arithmetic on the two addresses. -/
@[go_sem] theorem cell_set_ite (w : World) (b o n i : Nat) (v : Value) : (w.setCell ⟨b, o, none⟩ v).cell? ⟨n, i, none⟩ = if b = n ∧ o = i then (w.cell? ⟨n, i, none⟩).map (fun _ => v) else w.cell? ⟨n, i, none⟩ := by
  split
  · obtain ⟨rfl, rfl⟩ := ‹_ ∧ _›
    cases hc : w.cell? ⟨b, o, none⟩ with
    | some u => exact World.cell?_setCell_same _ _ _ hc
    | none =>
      simp only [World.cell?, World.setCell, Array.getElem?_modify, if_pos] at hc ⊢
      cases hh : w.heap[b]? with
      | none => simp
      | some x =>
        rw [hh] at hc
        cases x <;> simp at hc ⊢
        omega
  · exact World.cell?_setCell_other _ _ _ _ (fun e => by injection e with e1 e2; exact (‹¬ (b = n ∧ o = i)› ⟨e1, e2⟩).elim)
theorem kcell1 {w w' : World} (hb : Kept w w') {b : Nat} (h : b < w.heap.size) (o : Nat) : w'.cell? ⟨b, o, none⟩ = w.cell? ⟨b, o, none⟩ := Below.cell hb (p := ⟨b, o, none⟩) h
theorem ocell1 {bs : Nat} {w w' : World} (hb : Only bs w w') {b : Nat} (h : b < w.heap.size) (hn : b ≠ bs) (o : Nat) : w'.cell? ⟨b, o, none⟩ = w.cell? ⟨b, o, none⟩ := World.cell?_of_block (w := w) (hb.block b h hn)
/-- A world in which no block of w has changed. -/
structure KW (w : World) where
  it : World
  kept : Kept w it
/-- A world in which of w's blocks at most bs has changed. -/
structure OW (bs : Nat) (w : World) where
  it : World
  only : Only bs w it
instance (w : World) : Nonempty (KW w) := ⟨⟨w, Kept.refl w⟩⟩
instance (bs : Nat) (w : World) : Nonempty (OW bs w) := ⟨⟨w, Only.refl bs w⟩⟩
@[go_sem] theorem kw_cell {w : World} (k : KW w) (b o : Nat) : k.it.cell? ⟨b, o, none⟩ = if b < w.heap.size then w.cell? ⟨b, o, none⟩ else farCell k.it b o := (kcell k.kept).1 b o
@[go_sem] theorem ow_cell {bs : Nat} {w : World} (k : OW bs w) (b o : Nat) : k.it.cell? ⟨b, o, none⟩ = if b < w.heap.size ∧ b ≠ bs then w.cell? ⟨b, o, none⟩ else farCell k.it b o := (ocell k.only).1 b o
/-- A region that draws its order, whose operations read and whose calls at most make memory: one walk, in the text's order, serves every order. -/
theorem wp_region_kw {P : Program} {id : Nat} {Q : Exit → Act → World → Prop} {a : Act} {w : World} {l : List Oper} (hm : P.follows .mixedOrders = true) (hB : Region.lexB .any l.toArray = true)
    (h : wpQuiet P l.toArray (fun w' => ∃ k : KW w, w' = k.it) (fun a' => ∀ w', (∃ k : KW w, w' = k.it) → Q .normal a' w') l a) : (Code.region id l.toArray true).wp P Q a w :=
  wp_region_quiet (C := fun w' => ∃ k : KW w, w' = k.it) hm hB ⟨⟨w.drew, (Kept.refl w).drew⟩, rfl⟩ (by simpa using h)
/-- The call returns the value, and no old block has changed. -/
def Ret (v : Value) (w : World) (e : Ending) (w' : World) : Prop := e = .returned v ∧ Kept w w'
theorem heap_new (w : World) (o : Obj) : (w.alloc o).heap[w.heap.size]? = some o := by
  show (w.heap.push o)[_]? = _
  simp
/-- Block b holds the cells c, and may be written. -/
def Box (w : World) (b : Nat) (c : Array Value) : Prop := ∃ t, w.heap[b]? = some (.cells c t (0, 0))
theorem Box.cell {w : World} {b : Nat} {c : Array Value} (h : Box w b c) (i : Nat) : w.cell? ⟨b, i, none⟩ = c[i]? := by
  obtain ⟨t, h⟩ := h
  simp [World.cell?, h]
theorem Box.lt {w : World} {b : Nat} {c : Array Value} (h : Box w b c) : b < w.heap.size := by
  obtain ⟨t, h⟩ := h
  rcases Nat.lt_or_ge b w.heap.size with hl | hl
  · exact hl
  · rw [Array.getElem?_eq_none hl] at h; cases h
theorem Box.kept {w w' : World} {b : Nat} {c : Array Value} (h : Box w b c) (k : Kept w w') : Box w' b c := by
  have hl := h.lt
  obtain ⟨t, h⟩ := h
  exact ⟨t, by rw [k.block b hl]; exact h⟩
theorem Box.only {w w' : World} {b bs : Nat} {c : Array Value} (h : Box w b c) (k : Only bs w w') (hn : b ≠ bs) : Box w' b c := by
  have hl := h.lt
  obtain ⟨t, h⟩ := h
  exact ⟨t, by rw [k.block b hl hn]; exact h⟩
theorem Box.new {w : World} {b : Nat} {c : Array Value} {t : TypeId} (hb : b = w.heap.size) : Box (w.alloc (.cells c t)) b c := ⟨t, by subst hb; exact heap_new w _⟩
theorem Box.old {w : World} {b : Nat} {c : Array Value} (h : Box w b c) (o : Obj) : Box (w.alloc o) b c := h.kept ((Kept.refl w).alloc o)
theorem Box.drew {w : World} {b : Nat} {c : Array Value} (h : Box w b c) : Box w.drew b c := h
theorem Box.set {w : World} {b i : Nat} {c c' : Array Value} {v : Value} (h : Box w b c) (hc : c' = c.setIfInBounds i v) : Box (w.setCell ⟨b, i, none⟩ v) b c' := by
  obtain ⟨t, h⟩ := h
  refine ⟨t, ?_⟩
  subst hc
  simp [World.setCell, Array.getElem?_modify, h]
theorem Box.other {w : World} {b : Nat} {c : Array Value} {p : Addr} {v : Value} (h : Box w b c) (hn : b ≠ p.block) : Box (w.setCell p v) b c := by
  obtain ⟨t, h⟩ := h
  exact ⟨t, by rw [Below.heap_setCell _ _ _ _ hn]; exact h⟩
/-- The numbers of an int. -/
def I64 (n : Int) : Prop := -9223372036854775808 ≤ n ∧ n ≤ 9223372036854775807

/-- Block bs is a reader of numbers (Src) over a list whose memory lies below block number base; base ≤ bs. -/
def IsSrc (base : Nat) (w : World) (bs : Nat) : Prop :=
  ∃ (a : Option Addr) (len cap at' : Nat) (t : TypeId), base ≤ bs ∧ bs < w.heap.size ∧ len ≤ 2000 ∧ at' ≤ len ∧
    w.heap[bs]? = some (.cells #[.slice a len cap, .int .i64 at'] t (0, 0)) ∧
    (0 < len → ∃ b o, a = some ⟨b, o, none⟩ ∧ b < base ∧ ∀ i, i < len → ∃ n : Int, I64 n ∧ w.cell? ⟨b, o + i, none⟩ = some (.int .i64 n))
theorem IsSrc.lt {base : Nat} {w : World} {bs : Nat} (h : IsSrc base w bs) : base ≤ bs ∧ bs < w.heap.size := by
  obtain ⟨a, len, cap, at', t, h1, h2, _⟩ := h
  exact ⟨h1, h2⟩
/-- A reader stays one where its block, and all blocks below base, are as they were. -/
theorem IsSrc.keep {base : Nat} {w w' : World} {bs : Nat} (h : IsSrc base w bs) (hs : w.heap.size ≤ w'.heap.size) (hb : w'.heap[bs]? = w.heap[bs]?) (hl : ∀ k, k < base → w'.heap[k]? = w.heap[k]?) : IsSrc base w' bs := by
  obtain ⟨a, len, cap, at', t, h1, h2, h3, h4, h5, h6⟩ := h
  refine ⟨a, len, cap, at', t, h1, by omega, h3, h4, by rw [hb]; exact h5, fun hp => ?_⟩
  obtain ⟨b, o, e, hbb, hc⟩ := h6 hp
  refine ⟨b, o, e, hbb, fun i hi => ?_⟩
  obtain ⟨n, hn, hcell⟩ := hc i hi
  exact ⟨n, hn, by rw [World.cell?_of_block (w := w) (hl b hbb)]; exact hcell⟩
theorem IsSrc.kept {base : Nat} {w w' : World} {bs : Nat} (h : IsSrc base w bs) (k : Kept w w') : IsSrc base w' bs :=
  h.keep k.size (k.block _ h.lt.2) (fun i hi => k.block i (by have := h.lt; omega))
theorem IsSrc.only {base : Nat} {w w' : World} {bs b2 : Nat} (h : IsSrc base w bs) (k : Only b2 w w') (hn : b2 ≠ bs) (hb : base ≤ b2) : IsSrc base w' bs :=
  h.keep k.size (k.block _ h.lt.2 (Ne.symm hn)) (fun i hi => k.block i (by have := h.lt; omega) (by omega))
theorem IsSrc.heap {base : Nat} {w w' : World} {bs : Nat} (h : IsSrc base w bs) (e : w'.heap = w.heap) : IsSrc base w' bs :=
  h.keep (by rw [e]; exact Nat.le_refl _) (by rw [e]) (fun k _ => by rw [e])
theorem IsSrc.alloc {base : Nat} {w : World} {bs : Nat} (h : IsSrc base w bs) (o : Obj) : IsSrc base (w.alloc o) bs := h.kept ((Kept.refl w).alloc o)
theorem IsSrc.drew {base : Nat} {w : World} {bs : Nat} (h : IsSrc base w bs) : IsSrc base w.drew bs := h.kept (Kept.refl w).drew
theorem IsSrc.setCell {base : Nat} {w : World} {bs : Nat} (h : IsSrc base w bs) {p : Addr} (hn : p.block ≠ bs) (hp : base ≤ p.block) (u : Value) : IsSrc base (w.setCell p u) bs :=
  h.keep (by simp [World.setCell]) (Below.heap_setCell _ _ _ _ (by omega)) (fun k hk => Below.heap_setCell _ _ _ _ (by omega))
end Go.Proofs.Ytadjhfjiimgddaa
