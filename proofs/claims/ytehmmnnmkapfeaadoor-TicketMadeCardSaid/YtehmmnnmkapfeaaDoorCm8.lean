/- TicketMade: CtA CtB CtC CtD CtG. -/
import Derived.Test.YtehmmnnmkapfeaaDoorCm7
import Derived.Test.YtehmmnnmkapfeaaDoorCm6
set_option linter.unusedSimpArgs false
set_option linter.unusedVariables false
set_option maxRecDepth 100000

/- Tickets: checks and single tickets, of both. -/
namespace Go.Proofs.YtehmmnnmkapfeaaDoor
open Go
def tcOf : List D → Option Tic
  | [.v (.int .i64 a), .v (.int .i64 b), .v (.int .i64 c), .v (.int .i64 d), .v (.int .i64 e), .v (.int .i64 f), .v (.int .i64 g), .v (.int .i64 h)] => some ⟨a, b, c, d, e, f, g, h⟩
  | _ => Option.none
theorem tcOf_x (t : Tic) : tcOf [di t.ba, di t.fl, di t.fp, di t.tl, di t.tp, di t.te, di t.pr, di t.vol] = some t := rfl
theorem tcOf_eq {l : List D} {m : Tic} (h : tcOf l = some m) : l = m.row := by unfold tcOf at h; split at h <;> cases h; rfl
def decMPI : List D → Option (Mtr × Prd × Int)
  | [.agg a, .agg b, .v (.int .i64 n)] => match mtrOf a, prdOf b with
    | some m, some p => some (m, p, n)
    | _, _ => Option.none
  | _ => Option.none
theorem decMPI_eq : ∀ l a, decMPI l = some a → l = [a.1.enc, a.2.1.enc, di a.2.2] := fun l a h => by
  unfold decMPI at h
  split at h
  · split at h
    · rename_i e e'; cases h; rw [mtrOf_eq e, prdOf_eq e']; rfl
    · cases h
  · cases h
def decMPT : List D → Option (Mtr × Prd × Tic)
  | [.agg a, .agg b, .agg c] => match mtrOf a, prdOf b, tcOf c with
    | some m, some p, some t => some (m, p, t)
    | _, _, _ => Option.none
  | _ => Option.none
theorem decMPT_eq : ∀ l a, decMPT l = some a → l = [a.1.enc, a.2.1.enc, a.2.2.enc] := fun l a h => by
  unfold decMPT at h
  split at h
  · split at h
    · rename_i e e' e''; cases h; rw [mtrOf_eq e, prdOf_eq e', tcOf_eq e'']; rfl
    · cases h
  · cases h
structure MkA where
  m : Mtr
  p : Prd
  b : Int
  x : Cnt
  y : Cnt
  c : Cnd
def decMk : List D → Option MkA
  | [.agg a, .agg b, .v (.int .i64 n), .agg x, .agg y, .agg c] => match mtrOf a, prdOf b, cntOf x, cntOf y, cndOf c with
    | some m, some p, some x, some y, some c => some ⟨m, p, n, x, y, c⟩
    | _, _, _, _, _ => Option.none
  | _ => Option.none
theorem decMk_eq : ∀ l a, decMk l = some a → l = [a.m.enc, a.p.enc, di a.b, a.x.enc, a.y.enc, a.c.enc] := fun l a h => by
  unfold decMk at h
  split at h
  · split at h
    · rename_i e1 e2 e3 e4 e5; cases h; rw [mtrOf_eq e1, prdOf_eq e2, cntOf_eq e3, cntOf_eq e4, cndOf_eq e5]; rfl
    · cases h
  · cases h
def te2 (p : Tic × Int) : D := .tup [p.1.enc, di p.2]
set_option maxHeartbeats 8000000 in
theorem tcheck_c (m : Mtr) (p : Prd) (b : Int) (nn : Nm) : CallsA Tryd.prog 55 [m.enc, p.enc, di b] Hp.none nn (Pu (di (begI m p b)) Hp.none) := by
  obtain ⟨code, h1, h2⟩ := c55_ok
  refine callsA_of (tc_mv (tc_pv (T0_ok _))) mixed (N := fun t => (0, t)) Tryd.func55 h1 h2 r55_ok [] false js_nil js_nil' (by simp [Tryd.f55]) ?_
  cases c1 : mV m with
  | false =>
    have e : begI m p b = 9 := by unfold begI; rw [c1]; rfl
    simp (maxSteps:=500000) only [↓vp, vv, ↓reduceIte, simprocAttr, c55, r55, c55_1, Mtr.enc, Mtr.row, Prd.enc, Prd.row, selMV, selPV, selX, decM, decP, mtrOf_x, prdOf_x, tt, c1, e, Pu]
  | true =>
  cases c2 : pV p with
  | false =>
    have e : begI m p b = 9 := by unfold begI; rw [c1, c2]; rfl
    simp (maxSteps:=500000) only [↓vp, vv, ↓reduceIte, simprocAttr, c55, r55, c55_1, Mtr.enc, Mtr.row, Prd.enc, Prd.row, selMV, selPV, selX, decM, decP, mtrOf_x, prdOf_x, tt, c1, c2, e, Pu]
  | true =>
  have e0 : begI m p b = if 0 ≤ b ∧ b < 1000 then 0 else 8 := by unfold begI; rw [c1, c2]; rfl
  cases c3 : decide (b < 0) with
  | true =>
    have e : begI m p b = 8 := by rw [e0, if_neg (by have := of_decide_eq_true c3; omega)]
    simp (maxSteps:=500000) only [↓vp, vv, ↓reduceIte, simprocAttr, c55, r55, c55_1, Mtr.enc, Mtr.row, Prd.enc, Prd.row, selMV, selPV, selX, decM, decP, mtrOf_x, prdOf_x, tt, c1, c2, c3, e, Pu]
  | false =>
  cases c4 : decide (1000 ≤ b) with
  | true =>
    have e : begI m p b = 8 := by rw [e0, if_neg (by have := of_decide_eq_true c4; omega)]
    simp (maxSteps:=500000) only [↓vp, vv, ↓reduceIte, simprocAttr, c55, r55, c55_1, Mtr.enc, Mtr.row, Prd.enc, Prd.row, selMV, selPV, selX, decM, decP, mtrOf_x, prdOf_x, tt, c1, c2, c3, c4, e, Pu]
  | false =>
    have e : begI m p b = 0 := by rw [e0, if_pos ⟨by have := of_decide_eq_false c3; omega, by have := of_decide_eq_false c4; omega⟩]
    simp (maxSteps:=500000) only [↓vp, vv, ↓reduceIte, simprocAttr, c55, r55, c55_1, Mtr.enc, Mtr.row, Prd.enc, Prd.row, selMV, selPV, selX, decM, decP, mtrOf_x, prdOf_x, tt, c1, c2, c3, c4, e, Pu]
set_option maxHeartbeats 8000000 in
theorem rbegin_c (m : Mtr) (p : Prd) (b : Int) (nn : Nm) : CallsA Tryd.prog 59 [m.enc, p.enc, di b] Hp.none nn (Pu (di (begI m p b)) Hp.none) := by
  obtain ⟨code, h1, h2⟩ := c59_ok
  refine callsA_of (tc_rmv (tc_rpv (T0_ok _))) mixed (N := fun t => (0, t)) Tryd.func59 h1 h2 r59_ok [] false js_nil js_nil' (by simp [Tryd.f59]) ?_
  cases c1 : mV m with
  | false =>
    have e : begI m p b = 9 := by unfold begI; rw [c1]; rfl
    simp (maxSteps:=500000) only [↓vp, vv, ↓reduceIte, simprocAttr, c59, r59, c59_1, c59_2, Mtr.enc, Mtr.row, Prd.enc, Prd.row, selMV, selPV, selX, decM, decP, mtrOf_x, prdOf_x, tt, c1, e, Pu]
  | true =>
  cases c2 : pV p with
  | false =>
    have e : begI m p b = 9 := by unfold begI; rw [c1, c2]; rfl
    simp (maxSteps:=500000) only [↓vp, vv, ↓reduceIte, simprocAttr, c59, r59, c59_1, c59_2, Mtr.enc, Mtr.row, Prd.enc, Prd.row, selMV, selPV, selX, decM, decP, mtrOf_x, prdOf_x, tt, c1, c2, e, Pu]
  | true =>
  have e0 : begI m p b = if 0 ≤ b ∧ b < 1000 then 0 else 8 := by unfold begI; rw [c1, c2]; rfl
  cases c3 : decide (b < 0) with
  | true =>
    have e : begI m p b = 8 := by rw [e0, if_neg (by have := of_decide_eq_true c3; omega)]
    simp (maxSteps:=500000) only [↓vp, vv, ↓reduceIte, simprocAttr, c59, r59, c59_1, c59_2, Mtr.enc, Mtr.row, Prd.enc, Prd.row, selMV, selPV, selX, decM, decP, mtrOf_x, prdOf_x, tt, c1, c2, c3, e, Pu]
  | false =>
  cases c4 : decide (1000 ≤ b) with
  | true =>
    have e : begI m p b = 8 := by rw [e0, if_neg (by have := of_decide_eq_true c4; omega)]
    simp (maxSteps:=500000) only [↓vp, vv, ↓reduceIte, simprocAttr, c59, r59, c59_1, c59_2, Mtr.enc, Mtr.row, Prd.enc, Prd.row, selMV, selPV, selX, decM, decP, mtrOf_x, prdOf_x, tt, c1, c2, c3, c4, e, Pu]
  | false =>
    have e : begI m p b = 0 := by rw [e0, if_pos ⟨by have := of_decide_eq_false c3; omega, by have := of_decide_eq_false c4; omega⟩]
    simp (maxSteps:=500000) only [↓vp, vv, ↓reduceIte, simprocAttr, c59, r59, c59_1, c59_2, Mtr.enc, Mtr.row, Prd.enc, Prd.row, selMV, selPV, selX, decM, decP, mtrOf_x, prdOf_x, tt, c1, c2, c3, c4, e, Pu]
def selBg := selX decMPI tt fun q => di (begI q.1 q.2.1 q.2.2)
theorem tc_bg {T : Tbl} (hT : TblOk Tryd.prog T) : TblOk Tryd.prog (tc 55 (rowPu selBg) T) := tc_x f55_ok decMPI_eq (fun a h nn => tcheck_c _ _ _ nn) hT
theorem tc_rbg {T : Tbl} (hT : TblOk Tryd.prog T) : TblOk Tryd.prog (tc 59 (rowPu selBg) T) := tc_x f59_ok decMPI_eq (fun a h nn => rbegin_c _ _ _ nn) hT
theorem neq_b {a b : Int} (h : (a != b) = true) : a ≠ b := by simpa using h
theorem eq_b {a b : Int} (h : (a != b) = false) : a = b := by simpa using h
set_option maxHeartbeats 8000000 in
theorem tmake_c (m : Mtr) (p : Prd) (b : Int) (x y : Cnt) (c : Cnd) (nn : Nm) : CallsA Tryd.prog 19 [m.enc, p.enc, di b, x.enc, y.enc, c.enc] Hp.none nn (Pu (te2 (makI m p b x y c)) Hp.none) := by
  obtain ⟨code, h1, h2⟩ := c19_ok
  refine callsA_of (tc_bg (tc_bet (tc_fa (tc_sd (T0_ok _))))) mixed (N := fun t => (0, t)) Tryd.func19 h1 h2 r19_ok [] false js_nil js_nil' (by simp [Tryd.f19]) ?_
  cases c1 : (begI m p b != 0) with
  | true =>
    have e : makI m p b x y c = (Tic.zero, begI m p b) := by unfold makI; rw [if_neg (neq_b c1)]
    simp (maxSteps:=500000) only [↓vp, vv, ↓reduceIte, simprocAttr, c19, r19, c19_1, c19_2, c19_3, c19_4, r19, Mtr.enc, Mtr.row, Prd.enc, Prd.row, Cnt.enc, Cnt.row, Cnd.enc, Cnd.row, selBg, selBet, selFa, selSd, selX, decMPI, decMCC, decPC, decII, mtrOf_x, prdOf_x, cntOf_x, cndOf_x, tt, ie, te2, Tic.enc, Tic.row, c1, e, Tic.zero, Pu]
  | false =>
  have k1 := eq_b c1
  cases c2 : ((betI m x y).2 != 0) with
  | true =>
    have e : makI m p b x y c = (Tic.zero, (betI m x y).2) := by unfold makI; rw [if_pos k1, if_neg (neq_b c2)]
    simp (maxSteps:=500000) only [↓vp, vv, ↓reduceIte, simprocAttr, c19, r19, c19_1, c19_2, c19_3, c19_4, r19, Mtr.enc, Mtr.row, Prd.enc, Prd.row, Cnt.enc, Cnt.row, Cnd.enc, Cnd.row, selBg, selBet, selFa, selSd, selX, decMPI, decMCC, decPC, decII, mtrOf_x, prdOf_x, cntOf_x, cndOf_x, tt, ie, te2, Tic.enc, Tic.row, k1, c2, e, Tic.zero, Pu]
  | false =>
  have k2 := eq_b c2
  cases c3 : ((facI p c).2 != 0) with
  | true =>
    have e : makI m p b x y c = (Tic.zero, (facI p c).2) := by unfold makI; rw [if_pos k1, if_pos k2, if_neg (neq_b c3)]
    simp (maxSteps:=500000) only [↓vp, vv, ↓reduceIte, simprocAttr, c19, r19, c19_1, c19_2, c19_3, c19_4, r19, Mtr.enc, Mtr.row, Prd.enc, Prd.row, Cnt.enc, Cnt.row, Cnd.enc, Cnd.row, selBg, selBet, selFa, selSd, selX, decMPI, decMCC, decPC, decII, mtrOf_x, prdOf_x, cntOf_x, cndOf_x, tt, ie, te2, Tic.enc, Tic.row, k1, k2, c3, e, Tic.zero, Pu]
  | false =>
  have k3 := eq_b c3
  cases c4 : ((stdI (betI m x y).1 (facI p c).1).2 != 0) with
  | true =>
    have e : makI m p b x y c = (Tic.zero, (stdI (betI m x y).1 (facI p c).1).2) := by unfold makI; rw [if_pos k1, if_pos k2, if_pos k3, if_neg (neq_b c4)]
    simp (maxSteps:=500000) only [↓vp, vv, ↓reduceIte, simprocAttr, c19, r19, c19_1, c19_2, c19_3, c19_4, r19, Mtr.enc, Mtr.row, Prd.enc, Prd.row, Cnt.enc, Cnt.row, Cnd.enc, Cnd.row, selBg, selBet, selFa, selSd, selX, decMPI, decMCC, decPC, decII, mtrOf_x, prdOf_x, cntOf_x, cndOf_x, tt, ie, te2, Tic.enc, Tic.row, k1, k2, k3, c4, e, Tic.zero, Pu]
  | false =>
    have k4 := eq_b c4
    have e : makI m p b x y c = (ticOf b x y c (stdI (betI m x y).1 (facI p c).1).1, 0) := by unfold makI; rw [if_pos k1, if_pos k2, if_pos k3, if_pos k4]
    simp (maxSteps:=500000) only [↓vp, vv, ↓reduceIte, simprocAttr, c19, r19, c19_1, c19_2, c19_3, c19_4, r19, Mtr.enc, Mtr.row, Prd.enc, Prd.row, Cnt.enc, Cnt.row, Cnd.enc, Cnd.row, selBg, selBet, selFa, selSd, selX, decMPI, decMCC, decPC, decII, mtrOf_x, prdOf_x, cntOf_x, cndOf_x, tt, ie, te2, Tic.enc, Tic.row, k1, k2, k3, k4, e, ticOf, Pu]
set_option maxHeartbeats 8000000 in
theorem rmake_c (m : Mtr) (p : Prd) (b : Int) (x y : Cnt) (c : Cnd) (nn : Nm) : CallsA Tryd.prog 20 [m.enc, p.enc, di b, x.enc, y.enc, c.enc] Hp.none nn (Pu (te2 (makI m p b x y c)) Hp.none) := by
  obtain ⟨code, h1, h2⟩ := c20_ok
  refine callsA_of (tc_rbg (tc_rbet (tc_rfa (tc_rsd (T0_ok _))))) mixed (N := fun t => (0, t)) Tryd.func20 h1 h2 r20_ok [] false js_nil js_nil' (by simp [Tryd.f20]) ?_
  cases c1 : (begI m p b != 0) with
  | true =>
    have e : makI m p b x y c = (Tic.zero, begI m p b) := by unfold makI; rw [if_neg (neq_b c1)]
    simp (maxSteps:=500000) only [↓vp, vv, ↓reduceIte, simprocAttr, c20, r20, c20_1, c20_2, c20_3, c20_4, r20, Mtr.enc, Mtr.row, Prd.enc, Prd.row, Cnt.enc, Cnt.row, Cnd.enc, Cnd.row, selBg, selBet, selFa, selSd, selX, decMPI, decMCC, decPC, decII, mtrOf_x, prdOf_x, cntOf_x, cndOf_x, tt, ie, te2, Tic.enc, Tic.row, c1, e, Tic.zero, Pu]
  | false =>
  have k1 := eq_b c1
  cases c2 : ((betI m x y).2 != 0) with
  | true =>
    have e : makI m p b x y c = (Tic.zero, (betI m x y).2) := by unfold makI; rw [if_pos k1, if_neg (neq_b c2)]
    simp (maxSteps:=500000) only [↓vp, vv, ↓reduceIte, simprocAttr, c20, r20, c20_1, c20_2, c20_3, c20_4, r20, Mtr.enc, Mtr.row, Prd.enc, Prd.row, Cnt.enc, Cnt.row, Cnd.enc, Cnd.row, selBg, selBet, selFa, selSd, selX, decMPI, decMCC, decPC, decII, mtrOf_x, prdOf_x, cntOf_x, cndOf_x, tt, ie, te2, Tic.enc, Tic.row, k1, c2, e, Tic.zero, Pu]
  | false =>
  have k2 := eq_b c2
  cases c3 : ((facI p c).2 != 0) with
  | true =>
    have e : makI m p b x y c = (Tic.zero, (facI p c).2) := by unfold makI; rw [if_pos k1, if_pos k2, if_neg (neq_b c3)]
    simp (maxSteps:=500000) only [↓vp, vv, ↓reduceIte, simprocAttr, c20, r20, c20_1, c20_2, c20_3, c20_4, r20, Mtr.enc, Mtr.row, Prd.enc, Prd.row, Cnt.enc, Cnt.row, Cnd.enc, Cnd.row, selBg, selBet, selFa, selSd, selX, decMPI, decMCC, decPC, decII, mtrOf_x, prdOf_x, cntOf_x, cndOf_x, tt, ie, te2, Tic.enc, Tic.row, k1, k2, c3, e, Tic.zero, Pu]
  | false =>
  have k3 := eq_b c3
  cases c4 : ((stdI (betI m x y).1 (facI p c).1).2 != 0) with
  | true =>
    have e : makI m p b x y c = (Tic.zero, (stdI (betI m x y).1 (facI p c).1).2) := by unfold makI; rw [if_pos k1, if_pos k2, if_pos k3, if_neg (neq_b c4)]
    simp (maxSteps:=500000) only [↓vp, vv, ↓reduceIte, simprocAttr, c20, r20, c20_1, c20_2, c20_3, c20_4, r20, Mtr.enc, Mtr.row, Prd.enc, Prd.row, Cnt.enc, Cnt.row, Cnd.enc, Cnd.row, selBg, selBet, selFa, selSd, selX, decMPI, decMCC, decPC, decII, mtrOf_x, prdOf_x, cntOf_x, cndOf_x, tt, ie, te2, Tic.enc, Tic.row, k1, k2, k3, c4, e, Tic.zero, Pu]
  | false =>
    have k4 := eq_b c4
    have e : makI m p b x y c = (ticOf b x y c (stdI (betI m x y).1 (facI p c).1).1, 0) := by unfold makI; rw [if_pos k1, if_pos k2, if_pos k3, if_pos k4]
    simp (maxSteps:=500000) only [↓vp, vv, ↓reduceIte, simprocAttr, c20, r20, c20_1, c20_2, c20_3, c20_4, r20, Mtr.enc, Mtr.row, Prd.enc, Prd.row, Cnt.enc, Cnt.row, Cnd.enc, Cnd.row, selBg, selBet, selFa, selSd, selX, decMPI, decMCC, decPC, decII, mtrOf_x, prdOf_x, cntOf_x, cndOf_x, tt, ie, te2, Tic.enc, Tic.row, k1, k2, k3, k4, e, ticOf, Pu]
def selMk := selX decMk (fun _ => True) fun q => te2 (makI q.m q.p q.b q.x q.y q.c)
theorem tc_mk {T : Tbl} (hT : TblOk Tryd.prog T) : TblOk Tryd.prog (tc 19 (rowPu selMk) T) := tc_x f19_ok decMk_eq (fun a h nn => tmake_c _ _ _ _ _ _ nn) hT
theorem tc_rmk {T : Tbl} (hT : TblOk Tryd.prog T) : TblOk Tryd.prog (tc 20 (rowPu selMk) T) := tc_x f20_ok decMk_eq (fun a h nn => rmake_c _ _ _ _ _ _ nn) hT
def ticE (x t : Tic) : Bool := x.ba == t.ba && (x.fl == t.fl && (x.fp == t.fp && (x.tl == t.tl && (x.tp == t.tp && (x.te == t.te && (x.pr == t.pr && (x.vol == t.vol && true)))))))
theorem ticE_eq (x t : Tic) : ticE x t = decide (x = t) := by
  rw [Bool.eq_iff_iff]
  unfold ticE
  simp only [Bool.and_eq_true, beq_iff_eq, decide_eq_true_eq, and_true]
  exact Tic.ext_iff2 x t
theorem eqL_tic (x t : Tic) : eqL [0, 0, 0, 0, 0, 0, 0, 0] [di x.ba, di x.fl, di x.fp, di x.tl, di x.tp, di x.te, di x.pr, di x.vol] [di t.ba, di t.fl, di t.fp, di t.tl, di t.tp, di t.te, di t.pr, di t.vol] = some (ticE x t) := rfl
set_option maxHeartbeats 8000000 in
theorem tchk_c (m : Mtr) (p : Prd) (t : Tic) (nn : Nm) : CallsA Tryd.prog 24 [m.enc, p.enc, t.enc] Hp.none nn (Pu (di (chkI m p t)) Hp.none) := by
  obtain ⟨code, h1, h2⟩ := c24_ok
  refine callsA_of (tc_mk (T0_ok _)) mixed (N := fun t => (0, t)) Tryd.func24 h1 h2 r24_ok [] false js_nil js_nil' (by simp [Tryd.f24]) ?_
  have d1 : (⟨t.fl, t.fp⟩ : Cnt) = t.fr := rfl
  have d2 : (⟨t.tl, t.tp⟩ : Cnt) = t.to := rfl
  have d3 : (⟨t.te, t.pr⟩ : Cnd) = t.cd := rfl
  cases c1 : ((makI m p t.ba t.fr t.to t.cd).2 != 0) with
  | true =>
    have e : chkI m p t = (makI m p t.ba t.fr t.to t.cd).2 := by unfold chkI; rw [if_neg (neq_b c1)]
    simp (maxSteps:=500000) only [↓vp, vv, ↓reduceIte, simprocAttr, c24, r24, c24_1, r24, Mtr.enc, Mtr.row, Prd.enc, Prd.row, Tic.enc, Tic.row, selMk, selX, decMk, mtrOf_x, prdOf_x, cntOf, cndOf, te2, eqL_tic, d1, d2, d3, c1, e, Pu]
  | false =>
  have k1 := eq_b c1
  cases c2 : ticE (makI m p t.ba t.fr t.to t.cd).1 t with
  | false =>
    have e : chkI m p t = 26 := by
      rw [ticE_eq] at c2
      unfold chkI; rw [if_pos k1, if_neg (of_decide_eq_false c2)]
    simp (maxSteps:=500000) only [↓vp, vv, ↓reduceIte, simprocAttr, c24, r24, c24_1, r24, Mtr.enc, Mtr.row, Prd.enc, Prd.row, Tic.enc, Tic.row, selMk, selX, decMk, mtrOf_x, prdOf_x, cntOf, cndOf, te2, eqL_tic, d1, d2, d3, k1, c2, e, Pu]
  | true =>
    have e : chkI m p t = 0 := by
      rw [ticE_eq] at c2
      unfold chkI; rw [if_pos k1, if_pos (of_decide_eq_true c2)]
    simp (maxSteps:=500000) only [↓vp, vv, ↓reduceIte, simprocAttr, c24, r24, c24_1, r24, Mtr.enc, Mtr.row, Prd.enc, Prd.row, Tic.enc, Tic.row, selMk, selX, decMk, mtrOf_x, prdOf_x, cntOf, cndOf, te2, eqL_tic, d1, d2, d3, k1, c2, e, Pu]
set_option maxHeartbeats 8000000 in
theorem rchk_c (m : Mtr) (p : Prd) (t : Tic) (nn : Nm) : CallsA Tryd.prog 25 [m.enc, p.enc, t.enc] Hp.none nn (Pu (di (chkI m p t)) Hp.none) := by
  obtain ⟨code, h1, h2⟩ := c25_ok
  refine callsA_of (tc_rmk (T0_ok _)) mixed (N := fun t => (0, t)) Tryd.func25 h1 h2 r25_ok [] false js_nil js_nil' (by simp [Tryd.f25]) ?_
  have d1 : (⟨t.fl, t.fp⟩ : Cnt) = t.fr := rfl
  have d2 : (⟨t.tl, t.tp⟩ : Cnt) = t.to := rfl
  have d3 : (⟨t.te, t.pr⟩ : Cnd) = t.cd := rfl
  cases c1 : ((makI m p t.ba t.fr t.to t.cd).2 != 0) with
  | true =>
    have e : chkI m p t = (makI m p t.ba t.fr t.to t.cd).2 := by unfold chkI; rw [if_neg (neq_b c1)]
    simp (maxSteps:=500000) only [↓vp, vv, ↓reduceIte, simprocAttr, c25, r25, c25_1, c25_2, r25, Mtr.enc, Mtr.row, Prd.enc, Prd.row, Tic.enc, Tic.row, selMk, selX, decMk, mtrOf_x, prdOf_x, cntOf, cndOf, te2, eqL_tic, d1, d2, d3, c1, e, Pu]
  | false =>
  have k1 := eq_b c1
  cases c2 : ticE (makI m p t.ba t.fr t.to t.cd).1 t with
  | false =>
    have e : chkI m p t = 26 := by
      rw [ticE_eq] at c2
      unfold chkI; rw [if_pos k1, if_neg (of_decide_eq_false c2)]
    simp (maxSteps:=500000) only [↓vp, vv, ↓reduceIte, simprocAttr, c25, r25, c25_1, c25_2, r25, Mtr.enc, Mtr.row, Prd.enc, Prd.row, Tic.enc, Tic.row, selMk, selX, decMk, mtrOf_x, prdOf_x, cntOf, cndOf, te2, eqL_tic, d1, d2, d3, k1, c2, e, Pu]
  | true =>
    have e : chkI m p t = 0 := by
      rw [ticE_eq] at c2
      unfold chkI; rw [if_pos k1, if_pos (of_decide_eq_true c2)]
    simp (maxSteps:=500000) only [↓vp, vv, ↓reduceIte, simprocAttr, c25, r25, c25_1, c25_2, r25, Mtr.enc, Mtr.row, Prd.enc, Prd.row, Tic.enc, Tic.row, selMk, selX, decMk, mtrOf_x, prdOf_x, cntOf, cndOf, te2, eqL_tic, d1, d2, d3, k1, c2, e, Pu]
def selCk := selX decMPT tt fun q => di (chkI q.1 q.2.1 q.2.2)
theorem tc_ck {T : Tbl} (hT : TblOk Tryd.prog T) : TblOk Tryd.prog (tc 24 (rowPu selCk) T) := tc_x f24_ok decMPT_eq (fun a h nn => tchk_c _ _ _ nn) hT
theorem tc_rck {T : Tbl} (hT : TblOk Tryd.prog T) : TblOk Tryd.prog (tc 25 (rowPu selCk) T) := tc_x f25_ok decMPT_eq (fun a h nn => rchk_c _ _ _ nn) hT
def RngIP {α : Type} (n : Nat) (st : Nat → α → St) (P : Nat → α → Prop) (m : Nat) (s : St) : Prop := ∃ (j : Nat) (u : α), j + m = n ∧ P j u ∧ s = st j u
theorem rng_loopP {T : Tbl} {N : Nat → Nm} {J : List Nm} {c : C} {Q : Ex → St → Prop} {s : St} {α : Type} (n : Nat) (st : Nat → α → St) (P : Nat → α → Prop) {u0 : α} (h0 : Weak J s (st 0 u0)) (hP : P 0 u0)
    (hs : ∀ j, j < n → ∀ u, P j u → vc T N J c (loopQ J (RngIP n st P) (n - j) Q) (st j u)) (he : ∀ u, P n u → vc T N J c (loopQ J (RngIP n st P) 0 Q) (st n u)) : vc T N J (.loop c) Q s := by
  rw [vc_loop]
  refine ⟨RngIP n st P, ⟨n, _, h0, 0, u0, by omega, hP, rfl⟩, ?_⟩
  rintro m s' ⟨j, u, hj, hPj, rfl⟩
  by_cases h : j < n
  · obtain rfl : m = n - j := by omega
    exact hs j h u hPj
  · obtain rfl : j = n := by omega
    obtain rfl : m = 0 := by omega
    exact he u hPj
theorem rng_nextP {J : List Nm} {n : Nat} {α : Type} {st : Nat → α → St} {P : Nat → α → Prop} {j : Nat} {s : St} (hj : j < n) (u : α) (w : Weak J s (st (j + 1) u)) (hp : P (j + 1) u) : ∃ k' s', k' < n - j ∧ Weak J s s' ∧ RngIP n st P k' s' :=
  ⟨n - (j + 1), _, by omega, w, j + 1, u, by omega, hp, rfl⟩
def cnA (cs : List Cnt) (j : Nat) : Cnt := cs.getD j ⟨0, 0⟩
def cdA (l : List Cnd) (j : Nat) : Cnd := l.getD j ⟨0, 0⟩
theorem cn_get {cs : List Cnt} {j : Nat} (h : j < cs.length) : (cs.map Cnt.row).getD j [] = [di (cnA cs j).last, di (cnA cs j).pul] := by
  unfold cnA
  rw [List.getD_eq_getElem?_getD, List.getElem?_map, List.getD_eq_getElem?_getD, List.getElem?_eq_getElem h]
  rfl
theorem cd_get {l : List Cnd} {j : Nat} (h : j < l.length) : (l.map Cnd.row).getD j [] = [di (cdA l j).te, di (cdA l j).pr] := by
  unfold cdA
  rw [List.getD_eq_getElem?_getD, List.getElem?_map, List.getD_eq_getElem?_getD, List.getElem?_eq_getElem h]
  rfl
theorem cd_drop {l : List Cnd} {j : Nat} (h : j < l.length) : l.drop j = cdA l j :: l.drop (j + 1) := by
  rw [List.drop_eq_getElem_cons h]
  congr 1
  unfold cdA
  rw [List.getD_eq_getElem?_getD, List.getElem?_eq_getElem h]
  rfl
def ChP (m : Mtr) (p : Prd) (b : Int) (cs : List Cnt) (l : List Cnd) (X : List Tic × Run × Int) (j : Nat) (u : Run × List Tic × Nat) : Prop := RunOk u.1 ∧ u.2.1.length = j ∧ chGo m p b cs (l.drop j) j u.1 u.2.1 = X
theorem chP_bad {m : Mtr} {p : Prd} {b : Int} {cs : List Cnt} {l : List Cnd} {X : List Tic × Run × Int} {j : Nat} {u : Run × List Tic × Nat} (h : ChP m p b cs l X j u) (hj : j < l.length) {e : Int} (he : e ≠ 0) (hs : stepI m p b u.1 (cnA cs j) (cnA cs (j + 1)) (cdA l j) = (Tic.zero, Run.zero, e)) : X = ([], Run.zero, e) := by
  have h3 := h.2.2
  rw [cd_drop hj, chGo] at h3
  unfold cnA at hs
  rw [hs, if_neg he] at h3
  exact h3.symm
theorem chP_next {m : Mtr} {p : Prd} {b : Int} {cs : List Cnt} {l : List Cnd} {X : List Tic × Run × Int} {j : Nat} {r : Run} {out : List Tic} {g : Nat} (h : ChP m p b cs l X j (r, out, g)) (hj : j < l.length) {t : Tic} {x : Run} (hx : RunOk x) (hs : stepI m p b r (cnA cs j) (cnA cs (j + 1)) (cdA l j) = (t, x, 0)) (g' : Nat) : ChP m p b cs l X (j + 1) (x, out ++ [t], g') := by
  have h3 := h.2.2
  have h2 := h.2.1
  rw [cd_drop hj, chGo] at h3
  unfold cnA at hs
  dsimp only at h3 h2
  rw [hs, if_pos rfl] at h3
  exact ⟨hx, by simp; omega, h3⟩
theorem tic_plain (l : List Tic) : ∀ r : List D, r ∈ l.map Tic.row → ∀ d : D, d ∈ r → d.plain = true := fun r hr d hd => by
  obtain ⟨t, _, rfl⟩ := List.mem_map.1 hr
  unfold Tic.row at hd
  simp only [List.mem_cons, List.not_mem_nil, or_false] at hd
  rcases hd with rfl | rfl | rfl | rfl | rfl | rfl | rfl | rfl <;> rfl
theorem step_b {m : Mtr} {p : Prd} {b : Int} {r : Run} {x y : Cnt} {c : Cnd} (h : (betI m x y).2 ≠ 0) : stepI m p b r x y c = (Tic.zero, Run.zero, (betI m x y).2) := by unfold stepI; rw [if_neg h]
theorem step_f {m : Mtr} {p : Prd} {b : Int} {r : Run} {x y : Cnt} {c : Cnd} (h : (betI m x y).2 = 0) (h2 : (facI p c).2 ≠ 0) : stepI m p b r x y c = (Tic.zero, Run.zero, (facI p c).2) := by unfold stepI; rw [if_pos h, if_neg h2]
theorem step_a {m : Mtr} {p : Prd} {b : Int} {r : Run} {x y : Cnt} {c : Cnd} (h : (betI m x y).2 = 0) (h2 : (facI p c).2 = 0) (h3 : (addI r (betI m x y).1 (facI p c).1).2 ≠ 0) : stepI m p b r x y c = (Tic.zero, Run.zero, (addI r (betI m x y).1 (facI p c).1).2) := by unfold stepI; rw [if_pos h, if_pos h2, if_neg h3]
theorem step_o {m : Mtr} {p : Prd} {b : Int} {r : Run} {x y : Cnt} {c : Cnd} (h : (betI m x y).2 = 0) (h2 : (facI p c).2 = 0) (h3 : (addI r (betI m x y).1 (facI p c).1).2 = 0) : stepI m p b r x y c = (ticOf b x y c ((addI r (betI m x y).1 (facI p c).1).1.vol - r.vol), (addI r (betI m x y).1 (facI p c).1).1, 0) := by unfold stepI; rw [if_pos h, if_pos h2, if_pos h3]
theorem add_o {r : Run} {g f : Int} (h : (addI r g f).2 = 0) : RunOk (addI r g f).1 ∧ r.vol ≤ (addI r g f).1.vol := add_ok (r := r) (g := g) (f := f) (x := (addI r g f).1) (by rw [← h])
def CsT : Tbl := tc 55 (rowPu selBg) (tc 56 (rowPu selBet) (tc 57 (rowPu selFa) (tc 62 (rowPu selAd) T0)))
theorem CsT_ok : TblOk Tryd.prog CsT := tc_bg (tc_bet (tc_fa (tc_ad (T0_ok _))))
def CrT : Tbl := tc 63 (rowPu selMV) (tc 64 (rowPu selPV) (tc 59 (rowPu selBg) (tc 60 (rowPu selBet) (tc 35 (rowPu selFa) (tc 65 (rowPu selAd) T0)))))
theorem CrT_ok : TblOk Tryd.prog CrT := tc_rmv (tc_rpv (tc_rbg (tc_rbet (tc_rfa (tc_rad (T0_ok _))))))
structure ChA where
  m : Mtr
  p : Prd
  b : Int
  cs : List Cnt
  l : List Cnd
def cntsOf : List (List D) → Option (List Cnt)
  | [] => some []
  | r :: l => match cntOf r, cntsOf l with
    | some c, some cs => some (c :: cs)
    | _, _ => Option.none
theorem cntsOf_map (l : List Cnt) : cntsOf (l.map Cnt.row) = some l := by
  induction l with
  | nil => rfl
  | cons c l ih => rw [List.map_cons, cntsOf, ih]; rfl
theorem cntsOf_eq : ∀ {l : List (List D)} {cs : List Cnt}, cntsOf l = some cs → l = cs.map Cnt.row
  | [], cs, h => by cases h; rfl
  | r :: l, cs, h => by
    rw [cntsOf] at h
    split at h
    · rename_i e e'; cases h; rw [List.map_cons, cntOf_eq e, cntsOf_eq e']
    · cases h
def cndsOf : List (List D) → Option (List Cnd)
  | [] => some []
  | r :: l => match cndOf r, cndsOf l with
    | some c, some cs => some (c :: cs)
    | _, _ => Option.none
theorem cndsOf_map (l : List Cnd) : cndsOf (l.map Cnd.row) = some l := by
  induction l with
  | nil => rfl
  | cons c l ih => rw [List.map_cons, cndsOf, ih]; rfl
theorem cndsOf_eq : ∀ {l : List (List D)} {cs : List Cnd}, cndsOf l = some cs → l = cs.map Cnd.row
  | [], cs, h => by cases h; rfl
  | r :: l, cs, h => by
    rw [cndsOf] at h
    split at h
    · rename_i e e'; cases h; rw [List.map_cons, cndOf_eq e, cndsOf_eq e']
    · cases h
def ticsOf : List (List D) → Option (List Tic)
  | [] => some []
  | r :: l => match tcOf r, ticsOf l with
    | some c, some cs => some (c :: cs)
    | _, _ => Option.none
theorem ticsOf_map (l : List Tic) : ticsOf (l.map Tic.row) = some l := by
  induction l with
  | nil => rfl
  | cons c l ih => rw [List.map_cons, ticsOf, ih]; rfl
theorem ticsOf_eq : ∀ {l : List (List D)} {cs : List Tic}, ticsOf l = some cs → l = cs.map Tic.row
  | [], cs, h => by cases h; rfl
  | r :: l, cs, h => by
    rw [ticsOf] at h
    split at h
    · rename_i e e'; cases h; rw [List.map_cons, tcOf_eq e, ticsOf_eq e']
    · cases h
def decCh : List D → Option ChA
  | [.agg a, .agg b, .v (.int .i64 n), .sl x, .sl y] => match mtrOf a, prdOf b, cntsOf x, cndsOf y with
    | some m, some p, some x, some y => some ⟨m, p, n, x, y⟩
    | _, _, _, _ => Option.none
  | _ => Option.none
theorem decCh_eq : ∀ l a, decCh l = some a → l = [a.m.enc, a.p.enc, di a.b, .sl (a.cs.map Cnt.row), .sl (a.l.map Cnd.row)] := fun l a h => by
  unfold decCh at h
  split at h
  · split at h
    · rename_i e1 e2 e3 e4; cases h; rw [mtrOf_eq e1, prdOf_eq e2, cntsOf_eq e3, cndsOf_eq e4]; rfl
    · cases h
  · cases h
def ChOk (a : ChA) : Prop := a.l.length ≤ 1000000 ∧ a.cs.length ≤ 1000000
def tA (l : List Tic) (j : Nat) : Tic := l.getD j Tic.zero
theorem t_get {l : List Tic} {j : Nat} (h : j < l.length) : (l.map Tic.row).getD j [] = [di (tA l j).ba, di (tA l j).fl, di (tA l j).fp, di (tA l j).tl, di (tA l j).tp, di (tA l j).te, di (tA l j).pr, di (tA l j).vol] := by
  unfold tA
  rw [List.getD_eq_getElem?_getD, List.getElem?_map, List.getD_eq_getElem?_getD, List.getElem?_eq_getElem h]
  rfl
theorem t_drop {l : List Tic} {j : Nat} (h : j < l.length) : l.drop j = tA l j :: l.drop (j + 1) := by
  rw [List.drop_eq_getElem_cons h]
  congr 1
  unfold tA
  rw [List.getD_eq_getElem?_getD, List.getElem?_eq_getElem h]
  rfl
theorem tA_get {l : List Tic} {j : Nat} (h : j < l.length) : l[j] = tA l j := by
  unfold tA
  rw [List.getD_eq_getElem?_getD, List.getElem?_eq_getElem h]
  rfl
theorem tot_next {b : Int} {l : List Tic} {j : Nat} (hj : j < l.length) {s X : Int} (h : totGo b (l.drop j) s = X) : totGo b (l.drop (j + 1)) (if ticB b (tA l j) then IntKind.i64.wrap (s + (tA l j).vol) else s) = X := by
  rw [t_drop hj, totGo] at h
  exact h
def TtF (b : Int) (l : List Tic) (s : Int) (j : Int) : List (Nat × D) := [(1, di b), (5, di s), (8, .sl (l.map Tic.row)), (9, di l.length), (10, di j)]
set_option maxHeartbeats 16000000 in
theorem ttot_c (b : Int) (l : List Tic) (hl : l.length ≤ 1000000) (nn : Nm) : CallsA Tryd.prog 26 [.sl (l.map Tic.row), di b] Hp.none nn (Pu (di (totI b l)) Hp.none) := by
  obtain ⟨code, h1, h2⟩ := c26_ok
  refine callsA_of (T0_ok _) mixed (N := fun t => (0, t)) Tryd.func26 h1 h2 r26_ok [] false js_nil js_nil' (by simp [Tryd.f26]) ?_
  generalize hX : totI b l = X
  simp (maxSteps:=500000) only [↓vp, vv, ↓reduceIte, simprocAttr, c26]
  refine rng_loopP l.length (fun j (s : Int) => ⟨fr (TtF b l s (j : Nat)), Hp.none⟩) (fun j s => totGo b (l.drop j) s = X) (u0 := 0) (weak0 (by simp (maxSteps:=500000) only [↓vp, vv, ↓reduceIte, simprocAttr, coverS, TtF]) (by simp (maxSteps:=500000) only [↓vp, vv, ↓reduceIte, simprocAttr, refsF, TtF])) hX (fun j hj s hP => ?_) (fun s hP => ?_)
  · have hj' : (j : Int) < l.length := by omega
    have w1 := idx_next (j := j) (by omega)
    have g1 := t_get hj
    have nx := tot_next hj hP
    generalize tA l j = t at g1 nx
    cases c1 : (t.ba == b) with
    | false =>
      have e : ticB b t = false := by unfold ticB; rw [c1]; rfl
      rw [e] at nx
      simp (maxSteps:=500000) only [↓vp, vv, ↓reduceIte, simprocAttr, c26_3, c26_2, c26_1, TtF, hj', hj, g1, Int.toNat_natCast, idx_nn, c1]
      refine rng_nextP hj s ?_ nx
      exact (weak_eq [] [] (TtF b l s ((j + 1 : Nat) : Int)) (by simp (maxSteps:=500000) only [↓vp, vv, ↓reduceIte, simprocAttr, coverS, TtF, w1]) (by simp (maxSteps:=500000) only [↓vp, vv, ↓reduceIte, simprocAttr, refsF, TtF, w1]) (by simp (maxSteps:=500000) only [↓vp, vv, ↓reduceIte, simprocAttr, TtF, w1]) (by simp) (by simp (maxSteps:=500000) only [↓vp, vv, ↓reduceIte, simprocAttr, TtF, w1]; try rfl))
    | true =>
    cases c2 : decide (0 ≤ t.vol) with
    | false =>
      have e : ticB b t = false := by unfold ticB; rw [c1, c2]; rfl
      rw [e] at nx
      simp (maxSteps:=500000) only [↓vp, vv, ↓reduceIte, simprocAttr, c26_3, c26_2, c26_1, TtF, hj', hj, g1, Int.toNat_natCast, idx_nn, c1, c2]
      refine rng_nextP hj s ?_ nx
      exact (weak_eq [] [] (TtF b l s ((j + 1 : Nat) : Int)) (by simp (maxSteps:=500000) only [↓vp, vv, ↓reduceIte, simprocAttr, coverS, TtF, w1]) (by simp (maxSteps:=500000) only [↓vp, vv, ↓reduceIte, simprocAttr, refsF, TtF, w1]) (by simp (maxSteps:=500000) only [↓vp, vv, ↓reduceIte, simprocAttr, TtF, w1]) (by simp) (by simp (maxSteps:=500000) only [↓vp, vv, ↓reduceIte, simprocAttr, TtF, w1]; try rfl))
    | true =>
    cases c3 : decide (t.vol ≤ 1099511627776) with
    | false =>
      have e : ticB b t = false := by unfold ticB; rw [c1, c2, c3]; rfl
      rw [e] at nx
      simp (maxSteps:=500000) only [↓vp, vv, ↓reduceIte, simprocAttr, c26_3, c26_2, c26_1, TtF, hj', hj, g1, Int.toNat_natCast, idx_nn, c1, c2, c3]
      refine rng_nextP hj s ?_ nx
      exact (weak_eq [] [] (TtF b l s ((j + 1 : Nat) : Int)) (by simp (maxSteps:=500000) only [↓vp, vv, ↓reduceIte, simprocAttr, coverS, TtF, w1]) (by simp (maxSteps:=500000) only [↓vp, vv, ↓reduceIte, simprocAttr, refsF, TtF, w1]) (by simp (maxSteps:=500000) only [↓vp, vv, ↓reduceIte, simprocAttr, TtF, w1]) (by simp) (by simp (maxSteps:=500000) only [↓vp, vv, ↓reduceIte, simprocAttr, TtF, w1]; try rfl))
    | true =>
      have e : ticB b t = true := by unfold ticB; rw [c1, c2, c3]; rfl
      rw [e] at nx
      simp (maxSteps:=500000) only [↓vp, vv, ↓reduceIte, simprocAttr, c26_3, c26_2, c26_1, TtF, hj', hj, g1, Int.toNat_natCast, idx_nn, c1, c2, c3]
      refine rng_nextP hj (IntKind.i64.wrap (s + t.vol)) ?_ nx
      exact (weak_eq [] [] (TtF b l (IntKind.i64.wrap (s + t.vol)) ((j + 1 : Nat) : Int)) (by simp (maxSteps:=500000) only [↓vp, vv, ↓reduceIte, simprocAttr, coverS, TtF, w1]) (by simp (maxSteps:=500000) only [↓vp, vv, ↓reduceIte, simprocAttr, refsF, TtF, w1]) (by simp (maxSteps:=500000) only [↓vp, vv, ↓reduceIte, simprocAttr, TtF, w1]) (by simp) (by simp (maxSteps:=500000) only [↓vp, vv, ↓reduceIte, simprocAttr, TtF, w1]; try rfl))
  · rw [List.drop_of_length_le (Nat.le_refl _), totGo] at hP
    simp (maxSteps:=500000) only [↓vp, vv, ↓reduceIte, simprocAttr, c26_3, c26_4, r26, Int.lt_irrefl, TtF, hP, Pu]
def TrF (b : Int) (l : List Tic) (s : Int) (j : Int) : List (Nat × D) := [(0, .sl (l.map Tic.row)), (1, di b), (5, di s), (6, di j)]
set_option maxHeartbeats 16000000 in
theorem rtot_c (b : Int) (l : List Tic) (hl : l.length ≤ 1000000) (nn : Nm) : CallsA Tryd.prog 27 [.sl (l.map Tic.row), di b] Hp.none nn (Pu (di (totI b l)) Hp.none) := by
  obtain ⟨code, h1, h2⟩ := c27_ok
  refine callsA_of (T0_ok _) mixed (N := fun t => (0, t)) Tryd.func27 h1 h2 r27_ok [] false js_nil js_nil' (by simp [Tryd.f27]) ?_
  generalize hX : totI b l = X
  simp (maxSteps:=500000) only [↓vp, vv, ↓reduceIte, simprocAttr, c27]
  refine rng_loopP l.length (fun j (s : Int) => ⟨fr (TrF b l s (j : Nat)), Hp.none⟩) (fun j s => totGo b (l.drop j) s = X) (u0 := 0) (weak0 (by simp (maxSteps:=500000) only [↓vp, vv, ↓reduceIte, simprocAttr, coverS, TrF]) (by simp (maxSteps:=500000) only [↓vp, vv, ↓reduceIte, simprocAttr, refsF, TrF])) hX (fun j hj s hP => ?_) (fun s hP => ?_)
  · have hj' : (j : Int) < l.length := by omega
    have w1 := idx_next (j := j) (by omega)
    have g1 := t_get hj
    have nx := tot_next hj hP
    generalize tA l j = t at g1 nx
    cases c1 : (t.ba == b) with
    | false =>
      have e : ticB b t = false := by unfold ticB; rw [c1]; rfl
      rw [e] at nx
      simp (maxSteps:=500000) only [↓vp, vv, ↓reduceIte, simprocAttr, c27_3, c27_2, c27_1, TrF, hj', hj, g1, Int.toNat_natCast, idx_nn, c1]
      refine rng_nextP hj s ?_ nx
      exact (weak_eq [] [] (TrF b l s ((j + 1 : Nat) : Int)) (by simp (maxSteps:=500000) only [↓vp, vv, ↓reduceIte, simprocAttr, coverS, TrF, w1]) (by simp (maxSteps:=500000) only [↓vp, vv, ↓reduceIte, simprocAttr, refsF, TrF, w1]) (by simp (maxSteps:=500000) only [↓vp, vv, ↓reduceIte, simprocAttr, TrF, w1]) (by simp) (by simp (maxSteps:=500000) only [↓vp, vv, ↓reduceIte, simprocAttr, TrF, w1]; try rfl))
    | true =>
    cases c2 : decide (0 ≤ t.vol) with
    | false =>
      have e : ticB b t = false := by unfold ticB; rw [c1, c2]; rfl
      rw [e] at nx
      simp (maxSteps:=500000) only [↓vp, vv, ↓reduceIte, simprocAttr, c27_3, c27_2, c27_1, TrF, hj', hj, g1, Int.toNat_natCast, idx_nn, c1, c2]
      refine rng_nextP hj s ?_ nx
      exact (weak_eq [] [] (TrF b l s ((j + 1 : Nat) : Int)) (by simp (maxSteps:=500000) only [↓vp, vv, ↓reduceIte, simprocAttr, coverS, TrF, w1]) (by simp (maxSteps:=500000) only [↓vp, vv, ↓reduceIte, simprocAttr, refsF, TrF, w1]) (by simp (maxSteps:=500000) only [↓vp, vv, ↓reduceIte, simprocAttr, TrF, w1]) (by simp) (by simp (maxSteps:=500000) only [↓vp, vv, ↓reduceIte, simprocAttr, TrF, w1]; try rfl))
    | true =>
    cases c3 : decide (t.vol ≤ 1099511627776) with
    | false =>
      have e : ticB b t = false := by unfold ticB; rw [c1, c2, c3]; rfl
      rw [e] at nx
      simp (maxSteps:=500000) only [↓vp, vv, ↓reduceIte, simprocAttr, c27_3, c27_2, c27_1, TrF, hj', hj, g1, Int.toNat_natCast, idx_nn, c1, c2, c3]
      refine rng_nextP hj s ?_ nx
      exact (weak_eq [] [] (TrF b l s ((j + 1 : Nat) : Int)) (by simp (maxSteps:=500000) only [↓vp, vv, ↓reduceIte, simprocAttr, coverS, TrF, w1]) (by simp (maxSteps:=500000) only [↓vp, vv, ↓reduceIte, simprocAttr, refsF, TrF, w1]) (by simp (maxSteps:=500000) only [↓vp, vv, ↓reduceIte, simprocAttr, TrF, w1]) (by simp) (by simp (maxSteps:=500000) only [↓vp, vv, ↓reduceIte, simprocAttr, TrF, w1]; try rfl))
    | true =>
      have e : ticB b t = true := by unfold ticB; rw [c1, c2, c3]; rfl
      rw [e] at nx
      simp (maxSteps:=500000) only [↓vp, vv, ↓reduceIte, simprocAttr, c27_3, c27_2, c27_1, TrF, hj', hj, g1, Int.toNat_natCast, idx_nn, c1, c2, c3]
      refine rng_nextP hj (IntKind.i64.wrap (s + t.vol)) ?_ nx
      exact (weak_eq [] [] (TrF b l (IntKind.i64.wrap (s + t.vol)) ((j + 1 : Nat) : Int)) (by simp (maxSteps:=500000) only [↓vp, vv, ↓reduceIte, simprocAttr, coverS, TrF, w1]) (by simp (maxSteps:=500000) only [↓vp, vv, ↓reduceIte, simprocAttr, refsF, TrF, w1]) (by simp (maxSteps:=500000) only [↓vp, vv, ↓reduceIte, simprocAttr, TrF, w1]) (by simp) (by simp (maxSteps:=500000) only [↓vp, vv, ↓reduceIte, simprocAttr, TrF, w1]; try rfl))
  · rw [List.drop_of_length_le (Nat.le_refl _), totGo] at hP
    simp (maxSteps:=500000) only [↓vp, vv, ↓reduceIte, simprocAttr, c27_3, c27_4, r27, Int.lt_irrefl, TrF, hP, Pu]
def decTI : List D → Option (List Tic × Int)
  | [.sl x, .v (.int .i64 n)] => match ticsOf x with
    | some l => some (l, n)
    | Option.none => Option.none
  | _ => Option.none
theorem decTI_eq : ∀ l a, decTI l = some a → l = [.sl (a.1.map Tic.row), di a.2] := fun l a h => by
  unfold decTI at h
  split at h
  · split at h
    · rename_i e; cases h; rw [ticsOf_eq e]
    · cases h
  · cases h
def TtOk (a : List Tic × Int) : Prop := a.1.length ≤ 1000000
def selTt := selX decTI TtOk fun a => di (totI a.2 a.1)
theorem tc_tt {T : Tbl} (hT : TblOk Tryd.prog T) : TblOk Tryd.prog (tc 26 (rowPu selTt) T) := tc_x f26_ok decTI_eq (fun a h nn => ttot_c _ _ h nn) hT
theorem tc_rtt {T : Tbl} (hT : TblOk Tryd.prog T) : TblOk Tryd.prog (tc 27 (rowPu selTt) T) := tc_x f27_ok decTI_eq (fun a h nn => rtot_c _ _ h nn) hT
def SmF (a b : List Tic) (j : Int) : List (Nat × D) := [(0, .sl (a.map Tic.row)), (1, .sl (b.map Tic.row)), (5, di j)]
set_option maxHeartbeats 16000000 in
theorem same_c (a b : List Tic) (hl : a.length ≤ 1000000) (nn : Nm) : CallsA Tryd.prog 23 [.sl (a.map Tic.row), .sl (b.map Tic.row)] Hp.none nn (Pu (db (decide (a = b))) Hp.none) := by
  obtain ⟨code, h1, h2⟩ := c23_ok
  refine callsA_of (T0_ok _) mixed (N := fun t => (0, t)) Tryd.func23 h1 h2 r23_ok [] false js_nil js_nil' (by simp [Tryd.f23]) ?_
  cases c0 : ((a.length : Int) != (b.length : Int)) with
  | true =>
    have e : decide (a = b) = false := decide_eq_false fun h => neq_b c0 (by rw [h])
    simp (maxSteps:=500000) only [↓vp, vv, ↓reduceIte, simprocAttr, c23, c23_5, r23, c0, e, Pu]
  | false =>
  have hab : a.length = b.length := by have := eq_b c0; omega
  simp (maxSteps:=500000) only [↓vp, vv, ↓reduceIte, simprocAttr, c23, c23_5, r23, c0]
  refine rng_loop a.length (fun j => ⟨fr (SmF a b (j : Nat)), Hp.none⟩) (fun j => ∀ i, i < j → tA a i = tA b i) (weak0 (by simp (maxSteps:=500000) only [↓vp, vv, ↓reduceIte, simprocAttr, coverS, SmF]) (by simp (maxSteps:=500000) only [↓vp, vv, ↓reduceIte, simprocAttr, refsF, SmF])) (fun i hi => by omega) (fun j hj hP => ?_) (fun hP => ?_)
  · have hj' : (j : Int) < a.length := by omega
    have hb : j < b.length := by omega
    have hb' : (j : Int) < b.length := by omega
    have w1 := idx_next (j := j) (by omega)
    have g1 := t_get hj
    have g2 := t_get hb
    cases c1 : ticE (tA a j) (tA b j) with
    | false =>
      have e : decide (a = b) = false := decide_eq_false fun h => by
        rw [ticE_eq] at c1
        exact of_decide_eq_false c1 (by rw [h])
      simp (maxSteps:=500000) only [↓vp, vv, ↓reduceIte, simprocAttr, c23_3, c23_2, c23_1, r23, SmF, hj', hj, hb, hb', g1, g2, Int.toNat_natCast, idx_nn, eqL_tic, c1, e, Pu]
    | true =>
      have e : tA a j = tA b j := by
        rw [ticE_eq] at c1
        exact of_decide_eq_true c1
      simp (maxSteps:=500000) only [↓vp, vv, ↓reduceIte, simprocAttr, c23_3, c23_2, c23_1, r23, SmF, hj', hj, hb, hb', g1, g2, Int.toNat_natCast, idx_nn, eqL_tic, c1]
      refine rng_next hj ?_ (fun i hi => ?_)
      · exact (weak_eq [] [] (SmF a b ((j + 1 : Nat) : Int)) (by simp (maxSteps:=500000) only [↓vp, vv, ↓reduceIte, simprocAttr, coverS, SmF, w1]) (by simp (maxSteps:=500000) only [↓vp, vv, ↓reduceIte, simprocAttr, refsF, SmF, w1]) (by simp (maxSteps:=500000) only [↓vp, vv, ↓reduceIte, simprocAttr, SmF, w1]) (by simp) (by simp (maxSteps:=500000) only [↓vp, vv, ↓reduceIte, simprocAttr, SmF, w1]; try rfl))
      · rcases Nat.lt_or_eq_of_le (Nat.lt_succ_iff.1 hi) with h1 | rfl
        · exact hP i h1
        · exact e
  · have e : decide (a = b) = true := decide_eq_true (List.ext_getElem hab fun i h1 h2 => by rw [tA_get h1, tA_get h2]; exact hP i h1)
    simp (maxSteps:=500000) only [↓vp, vv, ↓reduceIte, simprocAttr, c23_3, c23_4, r23, Int.lt_irrefl, SmF, e, Pu]
def decTT : List D → Option (List Tic × List Tic)
  | [.sl x, .sl y] => match ticsOf x, ticsOf y with
    | some a, some b => some (a, b)
    | _, _ => Option.none
  | _ => Option.none
theorem decTT_eq : ∀ l a, decTT l = some a → l = [.sl (a.1.map Tic.row), .sl (a.2.map Tic.row)] := fun l a h => by
  unfold decTT at h
  split at h
  · split at h
    · rename_i e e'; cases h; rw [ticsOf_eq e, ticsOf_eq e']
    · cases h
  · cases h
def SmOk (a : List Tic × List Tic) : Prop := a.1.length ≤ 1000000
def selSm := selX decTT SmOk fun a => db (decide (a.1 = a.2))
theorem tc_sm {T : Tbl} (hT : TblOk Tryd.prog T) : TblOk Tryd.prog (tc 23 (rowPu selSm) T) := tc_x f23_ok decTT_eq (fun a h nn => same_c _ _ h nn) hT
set_option maxHeartbeats 8000000 in
theorem Meter_s : SrcC Tryd.prog 12 [] MtrOk Mtr.enc := by
  intro i L at' nn ho
  obtain ⟨code, h1, h2⟩ := c12_ok
  refine callsA_of T2_ok mixed (N := fun t => (i.1 + 1, t)) Tryd.func12 h1 h2 r12_ok [i] false js_one js_one' (by simp [Tryd.f12]) ?_
  simp (maxSteps:=500000) only [↓vp, vv, ↓reduceIte, simprocAttr, c12, r12, T2, T1, selI, selPick, selRange, selName, ho, Mtr.enc, Mtr.row]
  intro a1 x hx a2 y hy a3 z hz
  simp only [IsMem, List.mem_cons, List.not_mem_nil, or_false] at hx hy hz
  refine ⟨a3.1, ⟨x, y, z⟩, a3.2, ⟨?_, ?_, ?_⟩, rfl, rfl⟩ <;> dsimp only <;> omega
def CndIn (c : Cnd) : Prop := cdOk c.te c.pr
set_option maxHeartbeats 8000000 in
theorem Condition_s : SrcC Tryd.prog 16 [] CndIn Cnd.enc := by
  intro i L at' nn ho
  obtain ⟨code, h1, h2⟩ := c16_ok
  refine callsA_of T2_ok mixed (N := fun t => (i.1 + 1, t)) Tryd.func16 h1 h2 r16_ok [i] false js_one js_one' (by simp [Tryd.f16]) ?_
  simp (maxSteps:=500000) only [↓vp, vv, ↓reduceIte, simprocAttr, c16, r16, T2, T1, selI, selPick, selRange, selName, ho, Cnd.enc, Cnd.row]
  intro a1 x hx a2 y hy
  simp only [IsMem, List.mem_cons, List.not_mem_nil, or_false] at hx hy
  refine ⟨a2.1, ⟨x, y⟩, a2.2, ?_, rfl, rfl⟩
  unfold CndIn cdOk
  dsimp only
  omega
structure PrdIn (n : Int) (p : Prd) : Prop where
  nm : p.nm = nm1B ⟨#[112]⟩ n
  de : 400 ≤ p.de ∧ p.de ≤ 1200
  ex : 0 ≤ p.ex ∧ p.ex ≤ 2000
  co : 0 ≤ p.co ∧ p.co ≤ 5000
  fr : 1 ≤ p.fr ∧ p.fr ≤ 2000
set_option maxHeartbeats 8000000 in
theorem Product_s (n : Int) (hn : 0 ≤ n ∧ n < 26) : SrcC Tryd.prog 13 [di n] (PrdIn n) Prd.enc := by
  intro i L at' nn ho
  obtain ⟨code, h1, h2⟩ := c13_ok
  refine callsA_of T2_ok mixed (N := fun t => (i.1 + 1, t)) Tryd.func13 h1 h2 r13_ok [i] false js_one js_one' (by simp [Tryd.f13]) ?_
  simp (maxSteps:=500000) only [↓vp, vv, ↓reduceIte, simprocAttr, c13, r13, T2, T1, selI, selPick, selRange, selName, ho, hn, Prd.enc, Prd.row]
  refine ⟨by decide, ?_⟩
  intro a0 w hw a1 x hx a2 y hy a3 z hz
  simp only [IsMem, RPost, List.mem_cons, List.not_mem_nil, or_false] at hw hx hy hz
  refine ⟨a3.1, ⟨nm1B ⟨#[112]⟩ n, w, x, y, z⟩, a3.2, ⟨rfl, ?_, ?_, ?_, ?_⟩, rfl, rfl⟩ <;> dsimp only <;> omega
set_option maxHeartbeats 8000000 in
theorem Odd_s (p : Prd) : SrcC Tryd.prog 18 [p.enc] (fun _ : Prd => True) Prd.enc := by
  intro i L at' nn ho
  obtain ⟨code, h1, h2⟩ := c18_ok
  refine callsA_of T2_ok mixed (N := fun t => (i.1 + 1, t)) Tryd.func18 h1 h2 r18_ok [i] false js_one js_one' (by simp [Tryd.f18]) ?_
  simp (maxSteps:=500000) only [↓vp, vv, ↓reduceIte, simprocAttr, c18, r18, c18_1, r18, T2, T1, selI, selPick, selText, selRange, selName, ho, Prd.enc, Prd.row]
  intro a1 q hq
  split
  · exact fun a2 x hx => ⟨a2.1, ⟨x, p.de, p.ex, p.co, p.fr⟩, a2.2, trivial, rfl, rfl⟩
  split
  · exact fun a2 x hx => ⟨a2.1, ⟨p.nm, x, p.ex, p.co, p.fr⟩, a2.2, trivial, rfl, rfl⟩
  split
  · exact fun a2 x hx => ⟨a2.1, ⟨p.nm, p.de, x, p.co, p.fr⟩, a2.2, trivial, rfl, rfl⟩
  split
  · exact fun a2 x hx => ⟨a2.1, ⟨p.nm, p.de, p.ex, x, p.fr⟩, a2.2, trivial, rfl, rfl⟩
  · exact fun a2 x hx => ⟨a2.1, ⟨p.nm, p.de, p.ex, p.co, x⟩, a2.2, trivial, rfl, rfl⟩
def SrcO {α : Type} (i nn : Nm) (L : List (List D)) (sz : Nat) (row : α → List D) (post : List α → Prop) : D → Hp → Prop := fun v H' => ∃ at' g l, SrcOk L at' ∧ post l ∧ v = .own nn g 0 l.length ∧ H' = (Hp.none.put nn ⟨g, sz, l.map row⟩).put i (sE L at')
theorem SrcO_all {α : Type} (i nn : Nm) (L : List (List D)) (sz : Nat) (row : α → List D) (post : List α → Prop) (K : D → Hp → Prop) : (∀ v H', SrcO i nn L sz row post v H' → K v H') = ∀ (at' : SA L) (g : Nat) (l : List α), post l → K (.own nn g 0 l.length) ((Hp.none.put nn ⟨g, sz, l.map row⟩).put i (sE L at'.1)) :=
  propext ⟨fun h at' g l h2 => h _ _ ⟨at'.1, g, l, at'.2, h2, rfl, rfl⟩, fun h v H' ⟨at', g, l, h1, h2, e1, e2⟩ => by rw [e1, e2]; exact h ⟨at', h1⟩ g l h2⟩
theorem js_two (i nn : Nm) (e : En) : ∀ (j : Nm) (x : En), (Hp.none.put i e) j = some x → j ∈ [i, nn] := fun j x h => by
  by_cases hj : j = i
  · rw [hj]; exact List.mem_cons_self ..
  · rw [Hp.put_other _ hj] at h; cases h
theorem js_two' (i nn : Nm) (e : En) : ∀ j ∈ [i, nn], ((Hp.none.put i e) j).isSome = true ∨ j = nn := fun j h => by
  rcases List.mem_cons.1 h with h | h
  · rw [h, Hp.put_same]; exact .inl rfl
  · exact .inr (List.mem_singleton.1 h)
structure CtsOk (m : Mtr) (l : List Cnt) : Prop where
  len : 1 ≤ l.length ∧ l.length ≤ 6
  zero : cnA l 0 = ⟨0, 0⟩
  ok : ∀ j, j < l.length → (cnA l j).last = (cnA l j).pul % spI m.bits ∧ (0 ≤ (cnA l j).pul ∧ (cnA l j).pul ≤ 60000 * (j : Int))
  asc : ∀ j, j + 1 < l.length → (cnA l j).pul ≤ (cnA l (j + 1)).pul
theorem cn_left {l : List Cnt} {c : Cnt} {j : Nat} (h : j < l.length) : cnA (l ++ [c]) j = cnA l j := by
  unfold cnA
  rw [List.getD_eq_getElem?_getD, List.getD_eq_getElem?_getD, List.getElem?_append_left h]
theorem cn_right (l : List Cnt) (c : Cnt) : cnA (l ++ [c]) l.length = c := by
  unfold cnA
  rw [List.getD_eq_getElem?_getD, List.getElem?_append_right (Nat.le_refl _), Nat.sub_self]
  rfl
theorem spI_bd (m : Mtr) : 65536 ≤ spI m.bits ∧ spI m.bits ≤ 4294967296 := by unfold spI; split <;> omega
theorem cts_next {m : Mtr} {l : List Cnt} (h : CtsOk m l) (hl : l.length < 6) {c : Cnt} (h0 : c.last = c.pul % spI m.bits) (h3 : (cnA l (l.length - 1)).pul ≤ c.pul) (h4 : c.pul ≤ (cnA l (l.length - 1)).pul + 60000) : CtsOk m (l ++ [c]) := by
  have h1 := h.len
  have h2 := (h.ok (l.length - 1) (by omega)).2
  refine ⟨by simp; omega, by rw [cn_left (by omega)]; exact h.zero, fun j hj => ?_, fun j hj => ?_⟩
  · simp only [List.length_append, List.length_cons, List.length_nil] at hj
    by_cases hjl : j < l.length
    · rw [cn_left hjl]; exact h.ok j hjl
    · obtain rfl : j = l.length := by omega
      rw [cn_right]
      exact ⟨h0, by omega, by omega⟩
  · simp only [List.length_append, List.length_cons, List.length_nil] at hj
    by_cases hjl : j + 1 < l.length
    · rw [cn_left hjl, cn_left (by omega)]; exact h.asc j hjl
    · have he : l.length = j + 1 := by omega
      have hr := cn_right l c
      rw [he] at hr
      rw [hr, cn_left (by omega)]
      rw [he, Nat.add_sub_cancel] at h3
      exact h3
def CcF (i nn : Nm) (g n : Nat) (k : Int) : List (Nat × D) := [(0, .ptr i 0 0 0), (3, .ptr (i.1 + 1, 3) 0 0 0), (5, .ptr (i.1 + 1, 5) 0 0 0), (6, .own nn g 0 n), (7, di k)]
def CcH (i nn : Nm) (L : List (List D)) (at' : Int) (m : Mtr) (c : Cnt) (g : Nat) (l : List Cnt) : Hp := (((Hp.none.put nn ⟨g, 2, l.map Cnt.row⟩).put (i.1 + 1, 5) ⟨0, 2, [c.row]⟩).put (i.1 + 1, 3) ⟨0, 3, [m.row]⟩).put i (sE L at')
def CcI (i nn : Nm) (L : List (List D)) (m : Mtr) (k : Nat) (s : St) : Prop := ∃ at' g l, SrcOk L at' ∧ CtsOk m l ∧ l.length + k ≤ 6 ∧ s = ⟨fr (CcF i nn g l.length k), CcH i nn L at' m (cnA l (l.length - 1)) g l⟩
set_option maxHeartbeats 8000000 in
theorem counts_o (m : Mtr) (hm : MtrOk m) : ∀ i L at' nn, SrcOk L at' → nn.1 ≤ i.1 → nn ≠ i → CallsA Tryd.prog 15 [.ptr i 0 0 0, m.enc] (Hp.none.put i (sE L at')) nn (SrcO i nn L 2 Cnt.row (CtsOk m)) := by
  intro i L at' nn ho hn1 hn2
  have hn3 : ¬ i = nn := fun e => hn2 e.symm
  have hn4 : ∀ t : Nat, ¬ nn = (i.1 + 1, t) := fun t e => by rw [e] at hn1; dsimp only at hn1; omega
  have hn5 : ∀ t : Nat, ¬ (i.1 + 1, t) = nn := fun t e => hn4 t e.symm
  have hn6 : ¬ nn = i := hn2
  obtain ⟨code, h1, h2⟩ := c15_ok
  refine callsA_of T2_ok mixed (N := fun t => if t = 10 then nn else (i.1 + 1, t)) Tryd.func15 h1 h2 r15_ok [i, nn] true (js_two i nn _) (js_two' i nn _) (by simp [Tryd.f15]) ?_
  simp (maxSteps:=500000) only [↓vp, vv, ↓reduceIte, simprocAttr, hn3, hn4, hn5, hn6, c15, T2, T1, selI, selPick, ho, Mtr.enc]
  refine ⟨rfl, fun a1 n hn => ?_⟩
  unfold NPost at hn
  have hz : CtsOk m [⟨0, 0⟩] := ⟨by simp, rfl, fun j hj => by
    obtain rfl : j = 0 := by simp at hj; exact hj
    exact ⟨by show (0 : Int) = 0 % spI m.bits; rw [Int.zero_emod], by decide, by decide⟩, fun j hj => by simp at hj⟩
  rw [vc_loop]
  refine ⟨CcI i nn L m, ⟨n.toNat, _, (weak_eq [] [i, (i.1 + 1, 3), (i.1 + 1, 5), nn] (CcF i nn 0 1 n) (by simp (maxSteps:=500000) only [↓vp, vv, ↓reduceIte, simprocAttr, coverS, CcF, Mtr.row, Cnt.row, hn3, hn4, hn5, hn6]) (by simp (maxSteps:=500000) only [↓vp, vv, ↓reduceIte, simprocAttr, refsF, CcF, Mtr.row, Cnt.row, hn3, hn4, hn5, hn6]) (by simp (maxSteps:=500000) only [↓vp, vv, ↓reduceIte, simprocAttr, CcF, Mtr.row, Cnt.row, hn3, hn4, hn5, hn6]) (by simp) (by simp (maxSteps:=500000) only [↓vp, vv, ↓reduceIte, simprocAttr, CcF, Mtr.row, Cnt.row, hn3, hn4, hn5, hn6]; try rfl)), a1.1, 0, [⟨0, 0⟩], a1.2, hz, by simp; omega, by rw [show ((n.toNat : Nat) : Int) = n by omega]; rfl⟩, ?_⟩
  rintro k s ⟨at1, g, l, o1, hl, hlk, rfl⟩
  have hlen := hl.len
  by_cases hk : (0 : Int) < k
  · have y1 : (l.length + 1) * 16 ≤ 140737488355328 := by omega
    have y2 : l.length + 1 ≤ 4611686018427387904 := by omega
    have w1 : IntKind.i64.wrap ((k : Int) - 1) = ((k - 1 : Nat) : Int) := by rw [wrap_i (by omega)]; omega
    have sb := spI_bd m
    have b1 : IntKind.i64.wrap (1 * 2 ^ min (IntKind.u64.wrap m.bits).toNat IntKind.i64.bits) = spI m.bits := by
      rcases hm.bits with e | e <;> rw [e] <;> decide
    have b0 : 0 ≤ IntKind.u64.wrap m.bits := by rcases hm.bits with e | e <;> rw [e] <;> decide
    have hc := (hl.ok (l.length - 1) (by omega)).2
    have nx := fun c => cts_next hl (c := c) (by omega)
    generalize hcc : cnA l (l.length - 1) = c at hc nx
    have nz : spI m.bits ≠ 0 := by omega
    simp (maxSteps:=500000) only [↓vp, vv, ↓reduceIte, simprocAttr, hn3, hn4, hn5, hn6, c15_2, c15_1, T2, T1, selI, selPick, o1, CcF, CcH, hcc, hk, y1, y2, Mtr.row, Cnt.row]
    intro a2 x hx
    simp only [IsMem, List.mem_cons, List.not_mem_nil, or_false] at hx
    have w2 : IntKind.i64.wrap (c.pul + x) = c.pul + x := wrap_i (by omega)
    have e1 : (c.pul + x).tmod (spI m.bits) = (c.pul + x) % spI m.bits := Int.tmod_eq_emod_of_nonneg (by omega)
    have hq := cn_right l (⟨(c.pul + x) % spI m.bits, c.pul + x⟩ : Cnt)
    refine ⟨b0, by rw [b1]; exact nz, ?_⟩
    refine ⟨k - 1, ⟨fr (CcF i nn (g + 1) (l.length + 1) ((k - 1 : Nat) : Int)), CcH i nn L a2.1 m ⟨(c.pul + x) % spI m.bits, c.pul + x⟩ (g + 1) (l ++ [⟨(c.pul + x) % spI m.bits, c.pul + x⟩])⟩, by omega, ?_, a2.1, g + 1, l ++ [⟨(c.pul + x) % spI m.bits, c.pul + x⟩], a2.2, nx _ rfl (by dsimp only; omega) (by dsimp only; omega), by simp; omega, ?_⟩
    · exact (weak_eq [] [i, (i.1 + 1, 3), (i.1 + 1, 5), nn] (CcF i nn (g + 1) (l.length + 1) ((k - 1 : Nat) : Int)) (by simp (maxSteps:=500000) only [↓vp, vv, ↓reduceIte, simprocAttr, coverS, CcF, CcH, Mtr.row, Cnt.row, hn3, hn4, hn5, hn6, w1, w2, e1, b1, List.map_append, List.map_cons, List.map_nil]) (by simp (maxSteps:=500000) only [↓vp, vv, ↓reduceIte, simprocAttr, refsF, CcF, CcH, Mtr.row, Cnt.row, hn3, hn4, hn5, hn6, w1, w2, e1, b1, List.map_append, List.map_cons, List.map_nil]) (by simp (maxSteps:=500000) only [↓vp, vv, ↓reduceIte, simprocAttr, CcF, CcH, Mtr.row, Cnt.row, hn3, hn4, hn5, hn6, w1, w2, e1, b1, List.map_append, List.map_cons, List.map_nil]) (by simp) (by simp (maxSteps:=500000) only [↓vp, vv, ↓reduceIte, simprocAttr, CcF, CcH, Mtr.row, Cnt.row, hn3, hn4, hn5, hn6, w1, w2, e1, b1, List.map_append, List.map_cons, List.map_nil]; try rfl))
    · simp [CcF, CcH, Mtr.row, Cnt.row, sE, hq]
  · have tk : (l.map Cnt.row).take l.length = l.map Cnt.row := List.take_of_length_le (by simp)
    simp (maxSteps:=500000) only [↓vp, vv, ↓reduceIte, simprocAttr, hn3, hn4, hn5, hn6, c15_2, c15_3, r15, T2, T1, o1, CcF, CcH, hk, tk]
    exact ⟨fun j hj => rfl, at1, g, l, o1, hl, rfl, rfl⟩
end Go.Proofs.YtehmmnnmkapfeaaDoor
