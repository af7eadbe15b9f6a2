/- TicketMade: CmC CodeB Gen1 Gen2 Gen3 Gen4 Gen5 Nk1 CmP. -/
import Derived.Test.YtehmmnnmkapfeaaDoorCm5
import Derived.Test.YtehmmnnmkapfeaaDoorCm3
import Derived.Test.YtehmmnnmkapfeaaDoorProg
import Derived.Test.YtehmmnnmkapfeaaDoorCm4
set_option linter.unusedSimpArgs false
set_option linter.unusedVariables false
set_option maxRecDepth 100000

/- Meters: litres between two counts, of both. -/
namespace Go.Proofs.YtehmmnnmkapfeaaDoor
open Go
def decI : List D → Option Int
  | [.v (.int .i64 n)] => some n
  | _ => Option.none
theorem decI_eq : ∀ l a, decI l = some a → l = [di a] := fun l a h => by unfold decI at h; split at h <;> cases h; rfl
def spI (n : Int) : Int := if n = 16 then 65536 else 4294967296
theorem span_c (n : Int) (h : n = 16 ∨ n = 32) (nn : Nm) : CallsA Tryd.prog 150 [di n] Hp.none nn (Pu (di (spI n)) Hp.none) := by
  obtain ⟨code, h1, h2⟩ := c150_ok
  refine callsA_of (T0_ok _) mixed (N := fun t => (0, t)) Tryd.func150 h1 h2 r150_ok [] false js_nil js_nil' (by simp [Tryd.f150]) ?_
  have a1 : IntKind.u64.wrap 16 = 16 := by decide
  have a2 : IntKind.u64.wrap 32 = 32 := by decide
  rcases h with rfl | rfl
  · have e : spI 16 = 65536 := rfl
    have b1 : IntKind.i64.wrap (IntKind.u64.wrap (1 * 2 ^ min 16 IntKind.u64.bits)) = 65536 := by decide
    simp (maxSteps:=500000) only [↓vp, vv, ↓reduceIte, simprocAttr, c150, r150, a1, b1, e, Pu]
  · have e : spI 32 = 4294967296 := rfl
    have b1 : IntKind.i64.wrap (IntKind.u64.wrap (1 * 2 ^ min 32 IntKind.u64.bits)) = 4294967296 := by decide
    simp (maxSteps:=500000) only [↓vp, vv, ↓reduceIte, simprocAttr, c150, r150, a2, b1, e, Pu]
def selSp := selX decI (fun n => n = 16 ∨ n = 32) fun n => di (spI n)
theorem tc_sp {T : Tbl} (hT : TblOk Tryd.prog T) : TblOk Tryd.prog (tc 150 (rowPu selSp) T) := tc_x f150_ok decI_eq (fun a h nn => span_c _ h nn) hT
def rdV (m : Mtr) (n : Int) : Bool := decide (0 ≤ n) && decide (n < spI m.bits)
theorem reading_c (m : Mtr) (n : Int) (h : MtrOk m) (nn : Nm) : CallsA Tryd.prog 128 [m.enc, di n] Hp.none nn (Pu (db (rdV m n)) Hp.none) := by
  obtain ⟨code, h1, h2⟩ := c128_ok
  refine callsA_of (tc_sp (T0_ok _)) mixed (N := fun t => (0, t)) Tryd.func128 h1 h2 r128_ok [] false js_nil js_nil' (by simp [Tryd.f128]) ?_
  have hb := h.bits
  cases c1 : decide (0 ≤ n) with
  | false => simp (maxSteps:=500000) only [↓vp, vv, ↓reduceIte, simprocAttr, c128, r128, Mtr.enc, Mtr.row, rdV, c1, Pu]
  | true => simp (maxSteps:=500000) only [↓vp, vv, ↓reduceIte, simprocAttr, c128, r128, Mtr.enc, Mtr.row, rdV, c1, selSp, selX, decI, hb, Pu]
theorem rreading_c (m : Mtr) (n : Int) (h : MtrOk m) (nn : Nm) : CallsA Tryd.prog 131 [m.enc, di n] Hp.none nn (Pu (db (rdV m n)) Hp.none) := by
  obtain ⟨code, h1, h2⟩ := c131_ok
  refine callsA_of (T0_ok _) mixed (N := fun t => (0, t)) Tryd.func131 h1 h2 r131_ok [] false js_nil js_nil' (by simp [Tryd.f131]) ?_
  have b1 : IntKind.i64.wrap (1 * 2 ^ min m.bits.toNat IntKind.i64.bits) = spI m.bits := by
    rcases h.bits with e | e <;> rw [e] <;> decide
  have b0 : 0 ≤ m.bits := by rcases h.bits with e | e <;> omega
  cases c1 : decide (0 ≤ n) with
  | false => simp (maxSteps:=500000) only [↓vp, vv, ↓reduceIte, simprocAttr, c131, r131, Mtr.enc, Mtr.row, rdV, c1, Pu]
  | true => simp (maxSteps:=500000) only [↓vp, vv, ↓reduceIte, simprocAttr, c131, r131, Mtr.enc, Mtr.row, rdV, c1, b0, b1, Pu]
def mOk (p : Mtr × Int) : Prop := MtrOk p.1
def selRd := selX decMI mOk fun p => db (rdV p.1 p.2)
theorem tc_rd {T : Tbl} (hT : TblOk Tryd.prog T) : TblOk Tryd.prog (tc 128 (rowPu selRd) T) := tc_x f128_ok decMI_eq (fun a h nn => reading_c _ _ h nn) hT
theorem tc_rrd {T : Tbl} (hT : TblOk Tryd.prog T) : TblOk Tryd.prog (tc 131 (rowPu selRd) T) := tc_x f131_ok decMI_eq (fun a h nn => rreading_c _ _ h nn) hT
theorem cV_b (m : Mtr) (c : Cnt) : cV m c = (rdV m c.last && (decide (0 ≤ c.pul) && decide (c.pul ≤ 1099511627776))) := by
  rw [Bool.eq_iff_iff]
  unfold cV rdV
  simp only [Bool.and_eq_true, decide_eq_true_eq]
  exact ⟨fun h => ⟨h.last, h.pul⟩, fun h => ⟨h.1, h.2⟩⟩
theorem cvalid_c (m : Mtr) (c : Cnt) (h : MtrOk m) (nn : Nm) : CallsA Tryd.prog 92 [m.enc, c.enc] Hp.none nn (Pu (db (cV m c)) Hp.none) := by
  obtain ⟨code, h1, h2⟩ := c92_ok
  refine callsA_of (tc_rd (T0_ok _)) mixed (N := fun t => (0, t)) Tryd.func92 h1 h2 r92_ok [] false js_nil js_nil' (by simp [Tryd.f92]) ?_
  have e := cV_b m c
  cases c1 : rdV m c.last with
  | false => simp (maxSteps:=500000) only [↓vp, vv, ↓reduceIte, simprocAttr, c92, r92, Mtr.enc, Mtr.row, Cnt.enc, Cnt.row, selRd, selX, decMI, mtrOf_x, mOk, h, c1, e, Pu]
  | true =>
  cases c2 : decide (0 ≤ c.pul) with
  | false => simp (maxSteps:=500000) only [↓vp, vv, ↓reduceIte, simprocAttr, c92, r92, Mtr.enc, Mtr.row, Cnt.enc, Cnt.row, selRd, selX, decMI, mtrOf_x, mOk, h, c1, c2, e, Pu]
  | true => simp (maxSteps:=500000) only [↓vp, vv, ↓reduceIte, simprocAttr, c92, r92, Mtr.enc, Mtr.row, Cnt.enc, Cnt.row, selRd, selX, decMI, mtrOf_x, mOk, h, c1, c2, e, Pu]
theorem rcount_c (m : Mtr) (c : Cnt) (h : MtrOk m) (nn : Nm) : CallsA Tryd.prog 98 [m.enc, c.enc] Hp.none nn (Pu (db (cV m c)) Hp.none) := by
  obtain ⟨code, h1, h2⟩ := c98_ok
  refine callsA_of (tc_rrd (T0_ok _)) mixed (N := fun t => (0, t)) Tryd.func98 h1 h2 r98_ok [] false js_nil js_nil' (by simp [Tryd.f98]) ?_
  have e := cV_b m c
  cases c1 : rdV m c.last with
  | false => simp (maxSteps:=500000) only [↓vp, vv, ↓reduceIte, simprocAttr, c98, r98, Mtr.enc, Mtr.row, Cnt.enc, Cnt.row, selRd, selX, decMI, mtrOf_x, mOk, h, c1, e, Pu]
  | true =>
  cases c2 : decide (0 ≤ c.pul) with
  | false => simp (maxSteps:=500000) only [↓vp, vv, ↓reduceIte, simprocAttr, c98, r98, Mtr.enc, Mtr.row, Cnt.enc, Cnt.row, selRd, selX, decMI, mtrOf_x, mOk, h, c1, c2, e, Pu]
  | true => simp (maxSteps:=500000) only [↓vp, vv, ↓reduceIte, simprocAttr, c98, r98, Mtr.enc, Mtr.row, Cnt.enc, Cnt.row, selRd, selX, decMI, mtrOf_x, mOk, h, c1, c2, e, Pu]
def mcOk (p : Mtr × Cnt) : Prop := MtrOk p.1
def selCV := selX decMC mcOk fun p => db (cV p.1 p.2)
theorem tc_cv {T : Tbl} (hT : TblOk Tryd.prog T) : TblOk Tryd.prog (tc 92 (rowPu selCV) T) := tc_x f92_ok decMC_eq (fun a h nn => cvalid_c _ _ h nn) hT
theorem tc_rcv {T : Tbl} (hT : TblOk Tryd.prog T) : TblOk Tryd.prog (tc 98 (rowPu selCV) T) := tc_x f98_ok decMC_eq (fun a h nn => rcount_c _ _ h nn) hT
def LtOk (p : Mtr × Int) : Prop := MtrOk p.1 ∧ 0 ≤ p.2 ∧ p.2 ≤ 1099511627776
theorem litres_c (m : Mtr) (n : Int) (h : LtOk (m, n)) (nn : Nm) : CallsA Tryd.prog 93 [m.enc, di n] Hp.none nn (Pu (di (litI m n)) Hp.none) := by
  obtain ⟨code, h1, h2⟩ := c93_ok
  refine callsA_of (tc_dw (T0_ok _)) mixed (N := fun t => (0, t)) Tryd.func93 h1 h2 r93_ok [] false js_nil js_nil' (by simp [Tryd.f93]) ?_
  obtain ⟨l1, l2, l3⟩ := lit_bd (m := m) (n := n) h.1 h.2.1 h.2.2
  have w1 : IntKind.i64.wrap (n * m.fac) = n * m.fac := wrap_i (by omega)
  have w2 : IntKind.i64.wrap (100 * m.pl) = 100 * m.pl := wrap_i (by omega)
  have dv : DvOk (n * m.fac, 100 * m.pl) := ⟨by dsimp only; omega, by dsimp only; omega⟩
  simp (maxSteps:=500000) only [↓vp, vv, ↓reduceIte, simprocAttr, c93, r93, Mtr.enc, Mtr.row, selDw, selX, decII, w1, w2, dv, litI, mLit, Pu]
theorem rLitres_c (m : Mtr) (n : Int) (h : LtOk (m, n)) (nn : Nm) : CallsA Tryd.prog 99 [m.enc, di n] Hp.none nn (Pu (.tup [di (litI m n), di 0]) Hp.none) := by
  obtain ⟨code, h1, h2⟩ := c99_ok
  refine callsA_of (tc_rmv (T0_ok _)) mixed (N := fun t => (0, t)) Tryd.func99 h1 h2 r99_ok [] false js_nil js_nil' (by simp [Tryd.f99]) ?_
  obtain ⟨l1, l2, l3⟩ := lit_bd (m := m) (n := n) h.1 h.2.1 h.2.2
  have hm := mV_t h.1
  have n1 : decide (n < 0) = false := decide_eq_false (by have := h.2; dsimp only at this; omega)
  have n2 : decide (1099511627776 < n) = false := decide_eq_false (by have := h.2; dsimp only at this; omega)
  have w1 : IntKind.i64.wrap (n * m.fac) = n * m.fac := wrap_i (by omega)
  have w2 : IntKind.i64.wrap (100 * m.pl) = 100 * m.pl := wrap_i (by omega)
  have nz : 100 * m.pl ≠ 0 := by omega
  have e1 : (n * m.fac).tdiv (100 * m.pl) = litI m n := Int.tdiv_eq_ediv_of_nonneg l1.1
  have w3 : IntKind.i64.wrap (litI m n) = litI m n := wrap_i (by omega)
  simp (maxSteps:=500000) only [↓vp, vv, ↓reduceIte, simprocAttr, c99, r99, c99_1, c99_2, Mtr.enc, Mtr.row, selMV, selX, decM, mtrOf_x, tt, hm, n1, n2, w1, w2, nz, e1, w3, Pu]
def selLt := selX decMI LtOk fun p => di (litI p.1 p.2)
theorem tc_lt {T : Tbl} (hT : TblOk Tryd.prog T) : TblOk Tryd.prog (tc 93 (rowPu selLt) T) := tc_x f93_ok decMI_eq (fun a h nn => litres_c _ _ h nn) hT
def selLt2 := selX decMI LtOk fun p => .tup [di (litI p.1 p.2), di 0]
theorem tc_rlt {T : Tbl} (hT : TblOk Tryd.prog T) : TblOk Tryd.prog (tc 99 (rowPu selLt2) T) := tc_x f99_ok decMI_eq (fun a h nn => rLitres_c _ _ h nn) hT
set_option maxHeartbeats 8000000 in
theorem between_c (m : Mtr) (a b : Cnt) (nn : Nm) : CallsA Tryd.prog 56 [m.enc, a.enc, b.enc] Hp.none nn (Pu (ie (betI m a b)) Hp.none) := by
  obtain ⟨code, h1, h2⟩ := c56_ok
  refine callsA_of (tc_mv (tc_cv (tc_lt (T0_ok _)))) mixed (N := fun t => (0, t)) Tryd.func56 h1 h2 r56_ok [] false js_nil js_nil' (by simp [Tryd.f56]) ?_
  cases c1 : mV m with
  | false =>
    have e : betI m a b = (0, 9) := by unfold betI; rw [c1]; rfl
    simp (maxSteps:=500000) only [↓vp, vv, ↓reduceIte, simprocAttr, c56, r56, c56_1, c56_2, c56_3, Mtr.enc, Mtr.row, Cnt.enc, Cnt.row, selMV, selCV, selLt, selX, decM, decMC, decMI, mtrOf_x, cntOf_x, tt, mcOk, ie, eqL, eqOne, c1, e, Pu]
  | true =>
  have hm := mV_o c1
  cases c2 : cV m a with
  | false =>
    have e : betI m a b = (0, 9) := by unfold betI; rw [c1, c2]; rfl
    simp (maxSteps:=500000) only [↓vp, vv, ↓reduceIte, simprocAttr, c56, r56, c56_1, c56_2, c56_3, Mtr.enc, Mtr.row, Cnt.enc, Cnt.row, selMV, selCV, selLt, selX, decM, decMC, decMI, mtrOf_x, cntOf_x, tt, mcOk, ie, eqL, eqOne, c1, c2, hm, e, Pu]
  | true =>
  cases c3 : cV m b with
  | false =>
    have e : betI m a b = (0, 9) := by unfold betI; rw [c1, c2, c3]; rfl
    simp (maxSteps:=500000) only [↓vp, vv, ↓reduceIte, simprocAttr, c56, r56, c56_1, c56_2, c56_3, Mtr.enc, Mtr.row, Cnt.enc, Cnt.row, selMV, selCV, selLt, selX, decM, decMC, decMI, mtrOf_x, cntOf_x, tt, mcOk, ie, eqL, eqOne, c1, c2, c3, hm, e, Pu]
  | true =>
  have ha := (cV_o c2).pul
  have hb := (cV_o c3).pul
  have la : LtOk (m, a.pul) := ⟨hm, ha⟩
  have lb : LtOk (m, b.pul) := ⟨hm, hb⟩
  have ba := (lit_bd hm ha.1 ha.2).2.2
  have bb := (lit_bd hm hb.1 hb.2).2.2
  have w : IntKind.i64.wrap (litI m b.pul - litI m a.pul) = litI m b.pul - litI m a.pul := wrap_i (by omega)
  have e0 : betI m a b = if a.pul ≤ b.pul then (litI m b.pul - litI m a.pul, 0) else (0, 6) := by unfold betI; rw [c1, c2, c3]; rfl
  cases c4 : (a.last == b.last) with
  | true =>
    cases c5 : (a.pul == b.pul) with
    | true =>
      have e : betI m a b = (0, 0) := by
        have : a.pul = b.pul := by simpa using c5
        rw [e0, if_pos (by omega), this, Int.sub_self]
      simp (maxSteps:=500000) only [↓vp, vv, ↓reduceIte, simprocAttr, c56, r56, c56_1, c56_2, c56_3, Mtr.enc, Mtr.row, Cnt.enc, Cnt.row, selMV, selCV, selLt, selX, decM, decMC, decMI, mtrOf_x, cntOf_x, tt, mcOk, ie, eqL, eqOne, c1, c2, c3, c4, c5, hm, la, lb, e, Pu]
    | false =>
      cases c6 : decide (b.pul < a.pul) with
      | true =>
        have e : betI m a b = (0, 6) := by rw [e0, if_neg (by have := of_decide_eq_true c6; omega)]
        simp (maxSteps:=500000) only [↓vp, vv, ↓reduceIte, simprocAttr, c56, r56, c56_1, c56_2, c56_3, Mtr.enc, Mtr.row, Cnt.enc, Cnt.row, selMV, selCV, selLt, selX, decM, decMC, decMI, mtrOf_x, cntOf_x, tt, mcOk, ie, eqL, eqOne, c1, c2, c3, c4, c5, c6, hm, la, lb, e, Pu]
      | false =>
        have e : betI m a b = (litI m b.pul - litI m a.pul, 0) := by rw [e0, if_pos (by have := of_decide_eq_false c6; omega)]
        simp (maxSteps:=500000) only [↓vp, vv, ↓reduceIte, simprocAttr, c56, r56, c56_1, c56_2, c56_3, Mtr.enc, Mtr.row, Cnt.enc, Cnt.row, selMV, selCV, selLt, selX, decM, decMC, decMI, mtrOf_x, cntOf_x, tt, mcOk, ie, eqL, eqOne, c1, c2, c3, c4, c5, c6, hm, la, lb, w, e, Pu]
  | false =>
  cases c6 : decide (b.pul < a.pul) with
  | true =>
    have e : betI m a b = (0, 6) := by rw [e0, if_neg (by have := of_decide_eq_true c6; omega)]
    simp (maxSteps:=500000) only [↓vp, vv, ↓reduceIte, simprocAttr, c56, r56, c56_1, c56_2, c56_3, Mtr.enc, Mtr.row, Cnt.enc, Cnt.row, selMV, selCV, selLt, selX, decM, decMC, decMI, mtrOf_x, cntOf_x, tt, mcOk, ie, eqL, eqOne, c1, c2, c3, c6, hm, la, lb, e, Pu, c4]
  | false =>
    have e : betI m a b = (litI m b.pul - litI m a.pul, 0) := by rw [e0, if_pos (by have := of_decide_eq_false c6; omega)]
    simp (maxSteps:=500000) only [↓vp, vv, ↓reduceIte, simprocAttr, c56, r56, c56_1, c56_2, c56_3, Mtr.enc, Mtr.row, Cnt.enc, Cnt.row, selMV, selCV, selLt, selX, decM, decMC, decMI, mtrOf_x, cntOf_x, tt, mcOk, ie, eqL, eqOne, c1, c2, c3, c6, hm, la, lb, w, e, Pu, c4]
set_option maxHeartbeats 8000000 in
theorem rbetween_c (m : Mtr) (a b : Cnt) (nn : Nm) : CallsA Tryd.prog 60 [m.enc, a.enc, b.enc] Hp.none nn (Pu (ie (betI m a b)) Hp.none) := by
  obtain ⟨code, h1, h2⟩ := c60_ok
  refine callsA_of (tc_rmv (tc_rcv (tc_rlt (T0_ok _)))) mixed (N := fun t => (0, t)) Tryd.func60 h1 h2 r60_ok [] false js_nil js_nil' (by simp [Tryd.f60]) ?_
  cases c1 : mV m with
  | false =>
    have e : betI m a b = (0, 9) := by unfold betI; rw [c1]; rfl
    simp (maxSteps:=500000) only [↓vp, vv, ↓reduceIte, simprocAttr, c60, r60, c60_1, c60_2, Mtr.enc, Mtr.row, Cnt.enc, Cnt.row, selMV, selCV, selLt2, selX, decM, decMC, decMI, mtrOf_x, cntOf_x, tt, mcOk, ie, eqL, eqOne, c1, e, Pu]
  | true =>
  have hm := mV_o c1
  cases c2 : cV m a with
  | false =>
    have e : betI m a b = (0, 9) := by unfold betI; rw [c1, c2]; rfl
    simp (maxSteps:=500000) only [↓vp, vv, ↓reduceIte, simprocAttr, c60, r60, c60_1, c60_2, Mtr.enc, Mtr.row, Cnt.enc, Cnt.row, selMV, selCV, selLt2, selX, decM, decMC, decMI, mtrOf_x, cntOf_x, tt, mcOk, ie, eqL, eqOne, c1, c2, hm, e, Pu]
  | true =>
  cases c3 : cV m b with
  | false =>
    have e : betI m a b = (0, 9) := by unfold betI; rw [c1, c2, c3]; rfl
    simp (maxSteps:=500000) only [↓vp, vv, ↓reduceIte, simprocAttr, c60, r60, c60_1, c60_2, Mtr.enc, Mtr.row, Cnt.enc, Cnt.row, selMV, selCV, selLt2, selX, decM, decMC, decMI, mtrOf_x, cntOf_x, tt, mcOk, ie, eqL, eqOne, c1, c2, c3, hm, e, Pu]
  | true =>
  have ha := (cV_o c2).pul
  have hb := (cV_o c3).pul
  have la : LtOk (m, a.pul) := ⟨hm, ha⟩
  have lb : LtOk (m, b.pul) := ⟨hm, hb⟩
  have ba := (lit_bd hm ha.1 ha.2).2.2
  have bb := (lit_bd hm hb.1 hb.2).2.2
  have w : IntKind.i64.wrap (litI m b.pul - litI m a.pul) = litI m b.pul - litI m a.pul := wrap_i (by omega)
  have e0 : betI m a b = if a.pul ≤ b.pul then (litI m b.pul - litI m a.pul, 0) else (0, 6) := by unfold betI; rw [c1, c2, c3]; rfl
  cases c6 : decide (b.pul < a.pul) with
  | true =>
    have e : betI m a b = (0, 6) := by rw [e0, if_neg (by have := of_decide_eq_true c6; omega)]
    simp (maxSteps:=500000) only [↓vp, vv, ↓reduceIte, simprocAttr, c60, r60, c60_1, c60_2, Mtr.enc, Mtr.row, Cnt.enc, Cnt.row, selMV, selCV, selLt2, selX, decM, decMC, decMI, mtrOf_x, cntOf_x, tt, mcOk, ie, eqL, eqOne, c1, c2, c3, c6, hm, la, lb, e, Pu]
  | false =>
    have e : betI m a b = (litI m b.pul - litI m a.pul, 0) := by rw [e0, if_pos (by have := of_decide_eq_false c6; omega)]
    simp (maxSteps:=500000) only [↓vp, vv, ↓reduceIte, simprocAttr, c60, r60, c60_1, c60_2, Mtr.enc, Mtr.row, Cnt.enc, Cnt.row, selMV, selCV, selLt2, selX, decM, decMC, decMI, mtrOf_x, cntOf_x, tt, mcOk, ie, eqL, eqOne, c1, c2, c3, c6, hm, la, lb, w, e, Pu]
def selBet := selX decMCC tt fun p => ie (betI p.1 p.2.1 p.2.2)
theorem tc_bet {T : Tbl} (hT : TblOk Tryd.prog T) : TblOk Tryd.prog (tc 56 (rowPu selBet) T) := tc_x f56_ok decMCC_eq (fun a h nn => between_c _ _ _ nn) hT
theorem tc_rbet {T : Tbl} (hT : TblOk Tryd.prog T) : TblOk Tryd.prog (tc 60 (rowPu selBet) T) := tc_x f60_ok decMCC_eq (fun a h nn => rbetween_c _ _ _ nn) hT
def c11 : C := (.seq (.ops false [oP 2 (.mv (.c (.v (.pointer Option.none))))]) (.seq (.ops false [oP 3 (.mv (.t 0)), oP 4 (.mv (.t 0)), oP 5 (.len (.t 4)), oP 6 (.mnx false (.t 5) (cI 2000)), oP 7 (.slc 1 (.t 3) Option.none (.some (.t 6))), oP 8 (.bld [.mt, (.v (.int .i64 0))] [(0, (1, (.t 7)))]), oP 9 (.box 2 (.t 8)), oP 2 (.mv (.t 9))]) .ret))
def r11 : List RV := [(.tmp 2)]
theorem c11_ok : ∃ code, Tryd.f11.body = some code ∧ compC Tryd.prog Tryd.f11.ntmps code = some (C.strip c11) := ⟨_, rfl, by kernel_rfl⟩
theorem r11_ok : compRes Tryd.prog Tryd.f11.results.toList = some r11 := by kernel_rfl
theorem f11_ok : fnOk Tryd.prog 11 = true := by kernel_rfl
def c14 : C := (.seq (.ops false [oP 4 (.mv (cI 0))]) (.seq (.ops false [oP 5 (.mv (.t 0)), oB 6 (.call 53 [(.t 5)]), oP 7 (.mv (.t 1)), oB 8 (.call 52 [(.t 6), (.t 7)]), oP 4 (.mv (.t 8))]) .ret))
def r14 : List RV := [(.tmp 4)]
theorem c14_ok : ∃ code, Tryd.f14.body = some code ∧ compC Tryd.prog Tryd.f14.ntmps code = some (C.strip c14) := ⟨_, rfl, by kernel_rfl⟩
theorem r14_ok : compRes Tryd.prog Tryd.f14.results.toList = some r14 := by kernel_rfl
theorem f14_ok : fnOk Tryd.prog 14 = true := by kernel_rfl
def c32 : C := (.seq (.ops false [oP 6 (.mv (cI 0))]) (.seq (.ops false [oP 7 (.mv (.t 1)), oP 8 (.mv (.t 0)), oP 9 (.mv (.t 2)), oP 10 (.mv (.t 1)), oP 11 (.bin .sub (.t 9) (.t 10)), oP 12 (.bin .add (.t 11) (cI 1)), oB 13 (.call 14 [(.t 8), (.t 12)]), oP 14 (.bin .add (.t 7) (.t 13)), oP 6 (.mv (.t 14))]) .ret))
def r32 : List RV := [(.tmp 6)]
theorem c32_ok : ∃ code, Tryd.f32.body = some code ∧ compC Tryd.prog Tryd.f32.ntmps code = some (C.strip c32) := ⟨_, rfl, by kernel_rfl⟩
theorem r32_ok : compRes Tryd.prog Tryd.f32.results.toList = some r32 := by kernel_rfl
theorem f32_ok : fnOk Tryd.prog 32 = true := by kernel_rfl
def c33 : C := (.seq (.ops false [oP 4 (.mv (cI 0))]) (.seq (.ops false [oP 5 (.mv (.t 1)), oP 6 (.mv (.t 0)), oP 7 (.mv (.t 1)), oP 8 (.len (.t 7)), oB 9 (.call 14 [(.t 6), (.t 8)]), oP 10 (.iaS 1 (.t 5) (.t 9)), oP 11 (.ld 1 false (.t 10)), oP 4 (.mv (.t 11))]) .ret))
def r33 : List RV := [(.tmp 4)]
theorem c33_ok : ∃ code, Tryd.f33.body = some code ∧ compC Tryd.prog Tryd.f33.ntmps code = some (C.strip c33) := ⟨_, rfl, by kernel_rfl⟩
theorem r33_ok : compRes Tryd.prog Tryd.f33.results.toList = some r33 := by kernel_rfl
theorem f33_ok : fnOk Tryd.prog 33 = true := by kernel_rfl
def c51 : C := (.seq (.ops false [oP 4 (.mv (.c (.v (.string ({ data := #[] })))))]) (.seq (.ops false [oP 5 (.mv (.t 0)), oP 6 (.mv (.t 1)), oP 7 (.bin .rem (.t 6) (cI 26)), oP 8 (.bin .add (cI 97) (.t 7)), oP 9 (.cvi .u8 (.t 8)), oP 10 (.bsl 1 1 [(.v (.int .u8 0))] [(0, (.t 9))]), oP 11 (.bts (.t 10)), oP 12 (.bin .add (.t 5) (.t 11)), oP 4 (.mv (.t 12))]) .ret))
def r51 : List RV := [(.tmp 4)]
theorem c51_ok : ∃ code, Tryd.f51.body = some code ∧ compC Tryd.prog Tryd.f51.ntmps code = some (C.strip c51) := ⟨_, rfl, by kernel_rfl⟩
theorem r51_ok : compRes Tryd.prog Tryd.f51.results.toList = some r51 := by kernel_rfl
theorem f51_ok : fnOk Tryd.prog 51 = true := by kernel_rfl
def c52_1 : C := (.seq (.ops false [oP 15 (.mv (.t 0)), oP 4 (.mv (.t 15))]) .ret)
def c52_2 : C := (.seq (.ops false [oP 7 (.mv (.t 0)), oP 8 (.mv (.t 1)), oP 9 (.bin .rem (.t 7) (.t 8)), oP 0 (.mv (.t 9))]) (.seq (.seq (.ops false [oP 10 (.mv (.t 0)), oP 11 (.bin .lss (.t 10) (cI 0))]) (.cond (.t 11) (.ops false [oP 12 (.mv (.t 0)), oP 13 (.mv (.t 1)), oP 14 (.bin .add (.t 12) (.t 13)), oP 0 (.mv (.t 14))]) .skip)) c52_1))
def c52 : C := (.seq (.ops false [oP 4 (.mv (cI 0))]) (.seq (.seq (.ops false [oP 5 (.mv (.t 1)), oP 6 (.bin .lss (.t 5) (cI 1))]) (.cond (.t 6) (.seq (.ops false [oP 4 (.mv (cI 0))]) .ret) .skip)) c52_2))
def r52 : List RV := [(.tmp 4)]
theorem c52_ok : ∃ code, Tryd.f52.body = some code ∧ compC Tryd.prog Tryd.f52.ntmps code = some (C.strip c52) := ⟨_, rfl, by kernel_rfl⟩
theorem r52_ok : compRes Tryd.prog Tryd.f52.results.toList = some r52 := by kernel_rfl
theorem f52_ok : fnOk Tryd.prog 52 = true := by kernel_rfl
def c53_1 : C := (.seq (.ops false [oP 13 (.mv (.t 0)), oP 14 (.nck (.t 13)), oP 15 (.fa 1 (.t 14)), oP 16 (.ld 1 false (.t 15)), oP 17 (.bin .add (.t 16) (cI 1)), oP 18 (.nck (.t 13)), oP 19 (.fa 1 (.t 18)), oS (.st 1 (.t 19) (.t 17))]) (.seq (.ops true [oP 20 (.mv (.t 0)), oA 21 (.nck (.t 20)) [0], oA 22 (.fa 0 (.t 21)) [0, 1], oA 23 (.ld 1 false (.t 22)) [1, 0, 2], oP 24 (.mv (.t 0)), oA 25 (.nck (.t 24)) [4],
  oA 26 (.fa 1 (.t 25)) [4, 5], oA 27 (.ld 1 false (.t 26)) [5, 4, 6], oA 28 (.bin .sub (.t 27) (cI 1)) [6, 4, 5, 7], oA 29 (.iaS 1 (.t 23) (.t 28)) [7, 5, 4, 6, 2, 0, 1, 8, 3], oA 30 (.ld 1 false (.t 29)) [3, 8, 1, 0, 2, 6, 4, 5, 7, 9], oA 2 (.mv (.t 30)) [9, 8, 7, 6, 5, 4, 3, 2, 1, 0, 10]]) .ret))
def c53 : C := (.seq (.ops false [oP 2 (.mv (cI 0))]) (.seq (.seq (.ops true [oP 3 (.mv (.t 0)), oA 4 (.nck (.t 3)) [0], oA 5 (.fa 1 (.t 4)) [0, 1], oA 6 (.ld 1 false (.t 5)) [1, 0, 2], oP 7 (.mv (.t 0)), oA 8 (.nck (.t 7)) [4], oA 9 (.fa 0 (.t 8)) [4, 5], oA 10 (.ld 1 false (.t 9)) [5, 4, 6], oA 11 (.len (.t 10)) [6, 4, 5, 7], oA 12 (.bin .geq (.t 6) (.t 11)) [7, 5, 4, 6, 2, 0, 1, 8, 3]]) (.cond (.t 12)
  (.seq (.ops false [oP 2 (.mv (cI 0))]) .ret) .skip)) c53_1))
def r53 : List RV := [(.tmp 2)]
theorem c53_ok : ∃ code, Tryd.f53.body = some code ∧ compC Tryd.prog Tryd.f53.ntmps code = some (C.strip c53) := ⟨_, rfl, by kernel_rfl⟩
theorem r53_ok : compRes Tryd.prog Tryd.f53.results.toList = some r53 := by kernel_rfl
theorem f53_ok : fnOk Tryd.prog 53 = true := by kernel_rfl
def c54 : C := (.seq (.ops false [oP 4 (.mv (.c (.v (.string ({ data := #[] })))))]) (.seq (.ops false [oP 5 (.mv (.t 1)), oP 6 (.mv (.t 0)), oP 7 (.mv (.t 1)), oP 8 (.len (.t 7)), oB 9 (.call 14 [(.t 6), (.t 8)]), oP 10 (.iaS 1 (.t 5) (.t 9)), oP 11 (.ld 1 false (.t 10)), oP 4 (.mv (.t 11))]) .ret))
def r54 : List RV := [(.tmp 4)]
theorem c54_ok : ∃ code, Tryd.f54.body = some code ∧ compC Tryd.prog Tryd.f54.ntmps code = some (C.strip c54) := ⟨_, rfl, by kernel_rfl⟩
theorem r54_ok : compRes Tryd.prog Tryd.f54.results.toList = some r54 := by kernel_rfl
theorem f54_ok : fnOk Tryd.prog 54 = true := by kernel_rfl
def modI (x n : Int) : Int := if n < 1 then 0 else if x.tmod n < 0 then x.tmod n + n else x.tmod n
theorem modI_in (x n : Int) : 0 ≤ modI x n ∧ (1 ≤ n → modI x n < n) ∧ (n < 1 → modI x n = 0) := by
  unfold modI
  split
  · exact ⟨by omega, fun h => by omega, fun _ => rfl⟩
  · have h1 := Int.lt_tmod_of_pos x (b := n) (by omega)
    have h2 := Int.tmod_lt_of_pos x (b := n) (by omega)
    split <;> exact ⟨by omega, fun _ => by omega, fun h => by omega⟩
set_option maxHeartbeats 2000000 in
theorem Mod_c (x n : Int) (hn : InI n) (nn : Nm) : CallsA Tryd.prog 52 [di x, di n] Hp.none nn (Pu (di (modI x n)) Hp.none) := by
  obtain ⟨code, h1, h2⟩ := c52_ok
  refine callsA_of (T0_ok _) mixed (N := fun t => (0, t)) Tryd.func52 h1 h2 r52_ok [] false js_nil js_nil' (by simp [Tryd.f52]) ?_
  have hi := modI_in x n
  by_cases hb : n < 1
  · simp (maxSteps:=500000) only [↓vp, vv, ↓reduceIte, simprocAttr, c52, r52, c52_1, c52_2, hb, Pu, modI, decide_true]
  · have h0 : n ≠ 0 := by omega
    have h2 := Int.lt_tmod_of_pos x (b := n) (by omega)
    have h3 := Int.tmod_lt_of_pos x (b := n) (by omega)
    by_cases hr : x.tmod n < 0
    · have hw : IntKind.i64.wrap (x.tmod n + n) = x.tmod n + n := wrap_i (by omega)
      simp (maxSteps:=500000) only [↓vp, vv, ↓reduceIte, simprocAttr, c52, r52, c52_1, c52_2, hb, hr, hw, Pu, modI, decide_true, decide_false, ne_eq, h0, not_false_eq_true]
    · simp (maxSteps:=500000) only [↓vp, vv, ↓reduceIte, simprocAttr, c52, r52, c52_1, c52_2, hb, hr, Pu, modI, decide_true, decide_false, ne_eq, h0, not_false_eq_true]
set_option maxHeartbeats 4000000 in
theorem Raw_c : SrcC Tryd.prog 53 [] InI di := by
  intro i L at' nn ho
  obtain ⟨code, h1, h2⟩ := c53_ok
  refine callsA_of (T0_ok _) mixed (N := fun t => (i.1 + 1, t)) Tryd.func53 h1 h2 r53_ok [i] false js_one js_one' (by simp [Tryd.f53]) ?_
  obtain ⟨ns, hL, hns⟩ := ho.ints
  have hlo := ho.lo
  have hhi := ho.hi
  have hlen := ho.len
  by_cases hb : (L.length : Int) ≤ at'
  · simp (maxSteps:=500000) only [↓vp, vv, ↓reduceIte, simprocAttr, c53, r53, c53_1, hb, decide_true]
    exact ⟨at', 0, ho, by decide, rfl, rfl⟩
  · have hw : IntKind.i64.wrap (at' + 1) = at' + 1 := wrap_i (by omega)
    have hw2 : IntKind.i64.wrap (at' + 1 - 1) = at' := by rw [Int.add_sub_cancel]; exact wrap_i (by omega)
    obtain ⟨k, rfl⟩ : ∃ k : Nat, at' = k := ⟨at'.toNat, by omega⟩
    have hk : k < ns.length := by rw [hL, List.length_map] at hb; omega
    have hg : L.getD k [] = [di ns[k]] := by rw [hL, List.getD_eq_getElem?_getD, List.getElem?_map, List.getElem?_eq_getElem hk]; rfl
    have h0 : (0 : Int) ≤ k := by omega
    have hkL : (k : Int) < L.length := by omega
    simp (maxSteps:=500000) only [↓vp, vv, ↓reduceIte, simprocAttr, c53, r53, c53_1, hb, hw, hw2, decide_true, decide_false, hg, Int.toNat_natCast, h0, hkL]
    exact ⟨k + 1, ns[k], ⟨by omega, by omega, hlen, ns, hL, hns⟩, hns _ (List.getElem_mem hk), rfl, rfl⟩
def sel0 {α : Type} (post : α → Prop) : List D → Option (Prop × (α → Prop))
  | [] => some (True, post)
  | _ => Option.none
def selMod : List D → Option (Prop × D)
  | [.v (.int .i64 x), .v (.int .i64 n)] => some (InI n, di (modI x n))
  | _ => Option.none
def TN : Tbl := tc 53 (rowSrc (sel0 InI) di) (tc 52 (rowPu selMod) T0)
theorem TN_ok : TblOk Tryd.prog TN := by
  refine tc_src f53_ok (fun args pre post h hp => ?_) (tc_pu f52_ok (fun args pre d h hp nn => ?_) (T0_ok _))
  · unfold sel0 at h
    split at h <;> cases h
    exact ⟨⟨0, by omega⟩, Raw_c⟩
  · unfold selMod at h
    split at h <;> cases h
    exact Mod_c _ _ hp nn
def NPost (n x : Int) : Prop := 0 ≤ x ∧ (1 ≤ n → x < n) ∧ (n < 1 → x = 0)
set_option maxHeartbeats 4000000 in
theorem N_c (n : Int) (hn : InI n) : SrcC Tryd.prog 14 [di n] (NPost n) di := by
  intro i L at' nn ho
  obtain ⟨code, h1, h2⟩ := c14_ok
  refine callsA_of TN_ok mixed (N := fun t => (i.1 + 1, t)) Tryd.func14 h1 h2 r14_ok [i] false js_one js_one' (by simp [Tryd.f14]) ?_
  simp (maxSteps:=500000) only [↓vp, vv, ↓reduceIte, simprocAttr, c14, r14, TN, sel0, selMod, ho]
  exact fun ⟨at2, ho2⟩ x hx => ⟨hn, at2, _, ho2, modI_in x n, rfl, rfl⟩
def selI {α : Type} (ok : Int → Prop) (post : Int → α → Prop) : List D → Option (Prop × (α → Prop))
  | [.v (.int .i64 n)] => some (ok n, post n)
  | _ => Option.none
def T1 : Tbl := tc 14 (rowSrc (selI InI NPost) di) T0
theorem T1_ok : TblOk Tryd.prog T1 := by
  refine tc_src f14_ok (fun args pre post h hp => ?_) (T0_ok _)
  unfold selI at h
  split at h <;> cases h
  exact ⟨⟨_, modI_in 0 _⟩, N_c _ hp⟩
def IsMem {α : Type} (l : List α) (x : α) : Prop := x ∈ l
theorem getD_map {α : Type} (g : α → List D) (l : List α) (k : Nat) (h : k < l.length) : (l.map g).getD k [] = g l[k] := by
  rw [List.getD_eq_getElem?_getD, List.getElem?_map, List.getElem?_eq_getElem h]; rfl
set_option maxHeartbeats 4000000 in
theorem Pick_c (ns : List Int) (h0 : ns ≠ []) (hl : ns.length ≤ 2000) : SrcC Tryd.prog 33 [.sl (ns.map fun n => [di n])] (IsMem ns) di := by
  intro i L at' nn ho
  obtain ⟨code, h1, h2⟩ := c33_ok
  refine callsA_of T1_ok mixed (N := fun t => (i.1 + 1, t)) Tryd.func33 h1 h2 r33_ok [i] false js_one js_one' (by simp [Tryd.f33]) ?_
  have hn : InI ns.length := by omega
  have h1 : 1 ≤ ns.length := by cases ns with | nil => exact absurd rfl h0 | cons => simp
  simp (maxSteps:=500000) only [↓vp, vv, ↓reduceIte, simprocAttr, c33, r33, T1, selI, ho, List.length_map]
  refine ⟨hn, fun ⟨at2, ho2⟩ x ⟨hx0, hx1, _⟩ => ?_⟩
  have hx := hx1 (by omega)
  have hk : x.toNat < ns.length := by omega
  rw [getD_map _ ns x.toNat hk]
  simp (maxSteps:=500000) only [↓vp, vv, ↓reduceIte, simprocAttr, hx, hx0]
  exact ⟨at2, _, ho2, List.getElem_mem hk, rfl, rfl⟩
set_option maxHeartbeats 4000000 in
theorem Text_c (ns : List ByteArray) (h0 : ns ≠ []) (hl : ns.length ≤ 2000) : SrcC Tryd.prog 54 [.sl (ns.map fun n => [ds n])] (IsMem ns) ds := by
  intro i L at' nn ho
  obtain ⟨code, h1, h2⟩ := c54_ok
  refine callsA_of T1_ok mixed (N := fun t => (i.1 + 1, t)) Tryd.func54 h1 h2 r54_ok [i] false js_one js_one' (by simp [Tryd.f54]) ?_
  have hn : InI ns.length := by omega
  have h1 : 1 ≤ ns.length := by cases ns with | nil => exact absurd rfl h0 | cons => simp
  simp (maxSteps:=500000) only [↓vp, vv, ↓reduceIte, simprocAttr, c54, r54, T1, selI, ho, List.length_map]
  refine ⟨hn, fun ⟨at2, ho2⟩ x ⟨hx0, hx1, _⟩ => ?_⟩
  have hx := hx1 (by omega)
  have hk : x.toNat < ns.length := by omega
  rw [getD_map _ ns x.toNat hk]
  simp (maxSteps:=500000) only [↓vp, vv, ↓reduceIte, simprocAttr, hx, hx0]
  exact ⟨at2, _, ho2, List.getElem_mem hk, rfl, rfl⟩
def RPost (a b x : Int) : Prop := a ≤ x ∧ (a ≤ b → x ≤ b) ∧ (b < a → x = a)
set_option maxHeartbeats 4000000 in
theorem Range_c (a b : Int) (ha : InI a) (hb : InI b) (hd : b - a < 9223372036854775807) (hd' : -9223372036854775808 ≤ b - a) : SrcC Tryd.prog 32 [di a, di b] (RPost a b) di := by
  intro i L at' nn ho
  obtain ⟨code, h1, h2⟩ := c32_ok
  refine callsA_of T1_ok mixed (N := fun t => (i.1 + 1, t)) Tryd.func32 h1 h2 r32_ok [i] false js_one js_one' (by simp [Tryd.f32]) ?_
  have w1 : IntKind.i64.wrap (b - a) = b - a := wrap_i (by omega)
  have w2 : IntKind.i64.wrap (b - a + 1) = b - a + 1 := wrap_i (by omega)
  have hn : InI (b - a + 1) := by omega
  simp (maxSteps:=500000) only [↓vp, vv, ↓reduceIte, simprocAttr, c32, r32, T1, selI, ho, w1, w2]
  refine ⟨hn, fun ⟨at2, ho2⟩ x ⟨hx0, hx1, hx2⟩ => ?_⟩
  have w3 : IntKind.i64.wrap (a + x) = a + x := wrap_i (by omega)
  try rw [w3]
  exact ⟨at2, _, ho2, ⟨by omega, by omega, by omega⟩, rfl, rfl⟩
def nm1B (f : ByteArray) (n : Int) : ByteArray := f ++ strOf [IntKind.u8.wrap (IntKind.i64.wrap (97 + n.tmod 26))]
set_option maxHeartbeats 4000000 in
theorem name_c (f : ByteArray) (n : Int) (hf : f.size ≤ 1000) (nn : Nm) : CallsA Tryd.prog 51 [ds f, di n] Hp.none nn (Pu (ds (nm1B f n)) Hp.none) := by
  obtain ⟨code, h1, h2⟩ := c51_ok
  refine callsA_of (T0_ok _) mixed (N := fun t => (0, t)) Tryd.func51 h1 h2 r51_ok [] false js_nil js_nil' (by simp [Tryd.f51]) ?_
  simp (maxSteps:=500000) only [↓vp, vv, ↓reduceIte, simprocAttr, c51, r51, bytesD, Pu, nm1B]
  have : (strOf [IntKind.u8.wrap (IntKind.i64.wrap (97 + n.tmod 26))]).size = 1 := by simp [strOf]
  first | exact ⟨by decide, by omega⟩ | omega
theorem js_nn {nn : Nm} : ∀ (j : Nm) (x : En), Hp.none j = some x → j ∈ [nn] := fun j x h => by cases h
theorem js_nn' {nn : Nm} {Hs : Hp} : ∀ j ∈ [nn], (Hs j).isSome = true ∨ j = nn := fun j h => .inr (List.mem_singleton.1 h)
set_option maxHeartbeats 4000000 in
theorem New_c (L : List (List D)) (nn : Nm) : CallsA Tryd.prog 11 [.sl L] Hp.none nn (Pu (.ptr nn 0 0 0) (Hp.none.put nn (sE (L.take 2000) 0))) := by
  obtain ⟨code, h1, h2⟩ := c11_ok
  refine callsA_of (T0_ok _) mixed (N := fun _ => nn) Tryd.func11 h1 h2 r11_ok [nn] true js_nn js_nn' (by simp [Tryd.f11]) ?_
  simp (maxSteps:=500000) only [↓vp, vv, ↓reduceIte, simprocAttr, c11, r11]
  by_cases hb : (2000 : Int) < L.length
  · simp only [if_pos hb]
    (repeat' apply And.intro) <;> first | omega | rfl
  · simp only [if_neg hb]
    have e : ∀ k, L.length ≤ k → List.take k L = List.take 2000 L := fun k hk => by
      rw [List.take_of_length_le hk, List.take_of_length_le (by omega)]
    (repeat' apply And.intro) <;> first | omega | rfl | (rw [e _ (by omega)])
structure Pt where
  at' : Int
  height : Int
  limit : Int
def Pt.row (p : Pt) : List D := [di p.at', di p.height, di p.limit]
structure Seg where
  name : ByteArray
  fr : Int
  to : Int
  cap : Int
  resist : Int
  wave : Int
  points : List Pt
def Seg.row (s : Seg) : List D := [ds s.name, di s.fr, di s.to, di s.cap, di s.resist, di s.wave, .sl (s.points.map Pt.row)]
def Seg.enc (s : Seg) : D := .agg s.row
def selPick : List D → Option (Prop × (Int → Prop))
  | [.sl rows] => match intsOf rows with
    | some ns => some (ns ≠ [] ∧ ns.length ≤ 2000, IsMem ns)
    | Option.none => Option.none
  | _ => Option.none
def selText : List D → Option (Prop × (ByteArray → Prop))
  | [.sl rows] => match strsOf rows with
    | some ns => some (ns ≠ [] ∧ ns.length ≤ 2000, IsMem ns)
    | Option.none => Option.none
  | _ => Option.none
def selRange : List D → Option (Prop × (Int → Prop))
  | [.v (.int .i64 a), .v (.int .i64 b)] => some ((InI a ∧ InI b) ∧ b - a < 9223372036854775807 ∧ -9223372036854775808 ≤ b - a, RPost a b)
  | _ => Option.none
def selName : List D → Option (Prop × D)
  | [.v (.string f), .v (.int .i64 n)] => some (f.size ≤ 1000, ds (nm1B f n))
  | _ => Option.none
def T2 : Tbl := tc 33 (rowSrc selPick di) (tc 54 (rowSrc selText ds) (tc 32 (rowSrc selRange di) (tc 51 (rowPu selName) T1)))
theorem T2_ok : TblOk Tryd.prog T2 := by
  refine tc_src f33_ok (fun args pre post h hp => ?_) (tc_src f54_ok (fun args pre post h hp => ?_) (tc_src f32_ok (fun args pre post h hp => ?_) (tc_pu f51_ok (fun args pre d h hp nn => ?_) T1_ok)))
  · unfold selPick at h
    split at h
    · split at h
      · rename_i ns hns
        cases h
        obtain ⟨h0, hl⟩ := hp
        rw [intsOf_eq hns]
        refine ⟨?_, Pick_c _ h0 hl⟩
        cases ns with
        | nil => exact absurd rfl h0
        | cons n ns => exact ⟨n, List.mem_cons_self ..⟩
      · cases h
    · cases h
  · unfold selText at h
    split at h
    · split at h
      · rename_i ns hns
        cases h
        obtain ⟨h0, hl⟩ := hp
        rw [strsOf_eq hns]
        refine ⟨?_, Text_c _ h0 hl⟩
        cases ns with
        | nil => exact absurd rfl h0
        | cons n ns => exact ⟨n, List.mem_cons_self ..⟩
      · cases h
    · cases h
  · unfold selRange at h
    split at h <;> cases h
    obtain ⟨⟨h1, h2⟩, h3, h4⟩ := hp
    exact ⟨⟨_, Int.le_refl _, fun h => h, fun _ => rfl⟩, Range_c _ _ h1 h2 h3 h4⟩
  · unfold selName at h
    split at h <;> cases h
    exact name_c _ _ hp nn
structure PtsOk (cap lim atv : Int) (pts : List Pt) : Prop where
  asc : pts.Pairwise (fun a b => a.at' < b.at')
  le : ∀ p ∈ pts, p.at' ≤ atv ∧ -500 ≤ p.height ∧ p.height ≤ 5000 ∧ 0 ≤ p.limit ∧ p.limit ≤ 100000000
  hd : pts.head?.map (·.at') = some 0
  lo : 0 ≤ atv
  hi : atv < cap
theorem PtsOk.more {cap lim atv : Int} {pts : List Pt} (h : PtsOk cap lim atv pts) (x : Int) (hx : atv < x) (hc : x < cap) (z l : Int) (hz : -500 ≤ z ∧ z ≤ 5000) (hl : 0 ≤ l ∧ l ≤ 100000000) : PtsOk cap lim x (pts ++ [⟨x, z, l⟩]) := by
  refine ⟨List.pairwise_append.2 ⟨h.asc, List.pairwise_singleton _ _, fun a ha b hb => ?_⟩, fun p hp => ?_, ?_, by have := h.lo; omega, hc⟩
  · rw [List.mem_singleton.1 hb]
    have := (h.le a ha).1
    dsimp only; omega
  · rcases List.mem_append.1 hp with hp | hp
    · have := h.le p hp; omega
    · rw [List.mem_singleton.1 hp]
      dsimp only; omega
  · cases pts with
    | nil => have := h.hd; cases this
    | cons p ps => exact h.hd
structure PtsEnd (cap : Int) (pts : List Pt) : Prop where
  asc : pts.Pairwise (fun a b => a.at' < b.at')
  le : ∀ p ∈ pts, -500 ≤ p.height ∧ p.height ≤ 5000 ∧ 0 ≤ p.limit ∧ p.limit ≤ 100000000
  hd : pts.head?.map (·.at') = some 0
  last : pts.getLast?.map (·.at') = some cap
theorem PtsOk.fin {cap lim atv : Int} {pts : List Pt} (h : PtsOk cap lim atv pts) (z l : Int) (hz : -500 ≤ z ∧ z ≤ 5000) (hl : 0 ≤ l ∧ l ≤ 100000000) : PtsEnd cap (pts ++ [⟨cap, z, l⟩]) := by
  refine ⟨List.pairwise_append.2 ⟨h.asc, List.pairwise_singleton _ _, fun a ha b hb => ?_⟩, fun p hp => ?_, ?_, by simp⟩
  · rw [List.mem_singleton.1 hb]
    have := (h.le a ha).1
    have := h.hi
    dsimp only; omega
  · rcases List.mem_append.1 hp with hp | hp
    · have := h.le p hp; omega
    · rw [List.mem_singleton.1 hp]
      dsimp only; omega
  · cases pts with
    | nil => have := h.hd; cases this
    | cons p ps => exact h.hd
structure Port where
  name : ByteArray
  node : Int
  press : Int
def Port.row (p : Port) : List D := [ds p.name, di p.node, di p.press]
structure Stn where
  name : ByteArray
  node : Int
  head : Int
  fall : Int
  suct : Int
def Stn.row (s : Stn) : List D := [ds s.name, di s.node, di s.head, di s.fall, di s.suct]
structure Net where
  nodes : List ByteArray
  segs : List Seg
  ports : List Port
  sts : List Stn
  vap : Int
  set : Int
def nmRow (s : ByteArray) : List D := [ds s]
def Net.enc (n : Net) : D := .agg [.sl (n.nodes.map nmRow), .sl (n.segs.map Seg.row), .sl (n.ports.map Port.row), .sl (n.sts.map Stn.row), di n.vap, di n.set]
def AllI {α : Type} (P : Nat → α → Prop) (l : List α) : Prop := ∀ j x, l[j]? = some x → P j x
theorem AllI.nil {α : Type} (P : Nat → α → Prop) : AllI P [] := fun j x h => by simp at h
theorem AllI.snoc {α : Type} {P : Nat → α → Prop} {l : List α} (h : AllI P l) {x : α} (hx : P l.length x) : AllI P (l ++ [x]) := fun j y hj => by
  rcases Nat.lt_trichotomy j l.length with h1 | h1 | h1
  · rw [List.getElem?_append_left h1] at hj; exact h j y hj
  · subst h1; simp at hj; subst hj; exact hx
  · rw [List.getElem?_eq_none (by simp; omega)] at hj; cases hj
theorem AllI.imp {α : Type} {P Q : Nat → α → Prop} {l : List α} (h : AllI P l) (hq : ∀ j x, P j x → Q j x) : AllI Q l := fun j x hj => hq j x (h j x hj)
def PortAt (i : Int) (j : Nat) (p : Port) : Prop := p.name = nm1B ⟨#[113]⟩ j ∧ 0 ≤ p.node ∧ p.node < i ∧ 0 ≤ p.press ∧ p.press ≤ 100000000
def StnAt (i : Int) (j : Nat) (p : Stn) : Prop := p.name = nm1B ⟨#[115]⟩ j ∧ 0 ≤ p.node ∧ p.node < i ∧ 0 ≤ p.head ∧ p.head ≤ 100000000 ∧ 0 ≤ p.fall ∧ p.fall ≤ 100000 ∧ 0 ≤ p.suct ∧ p.suct ≤ 100000000
structure PortsOk (last i : Int) (l : List Port) : Prop where
  all : AllI (PortAt i) l
  asc : l.Pairwise (fun a b => a.node < b.node)
  hd : 0 < i → l.head?.map (·.node) = some 0
  last : last < i → l.getLast?.map (·.node) = some last
  len : (l.length : Int) ≤ i
structure StnsOk (i : Int) (l : List Stn) : Prop where
  all : AllI (StnAt i) l
  asc : l.Pairwise (fun a b => a.node < b.node)
  len : (l.length : Int) ≤ i
theorem pw_snoc {α : Type} {R : α → α → Prop} {l : List α} (h : l.Pairwise R) {x : α} (hx : ∀ a ∈ l, R a x) : (l ++ [x]).Pairwise R := List.pairwise_append.2 ⟨h, List.pairwise_singleton _ _, fun a ha b hb => by rw [List.mem_singleton.1 hb]; exact hx a ha⟩
theorem AllI.mem {α : Type} {P : Nat → α → Prop} {l : List α} (h : AllI P l) {x : α} (hx : x ∈ l) : ∃ j, P j x := by
  obtain ⟨j, hj⟩ := List.getElem?_of_mem hx
  exact ⟨j, h j x hj⟩
theorem PortsOk.add {last i : Int} {l : List Port} (h : PortsOk last i l) (h0 : 0 ≤ i) (hl : i ≤ last) (pr : Int) (hp : 0 ≤ pr ∧ pr ≤ 100000000) : PortsOk last (i + 1) (l ++ [⟨nm1B ⟨#[113]⟩ l.length, i, pr⟩]) := by
  refine ⟨(h.all.imp fun j x hx => ?_).snoc ?_, pw_snoc h.asc fun a ha => ?_, fun _ => ?_, fun hi => ?_, ?_⟩
  · obtain ⟨a, b, c, d⟩ := hx; exact ⟨a, b, by omega, d⟩
  · exact ⟨rfl, h0, by dsimp only; omega, hp⟩
  · obtain ⟨j, hj⟩ := h.all.mem ha; exact hj.2.2.1
  · cases l with
    | nil =>
      have : i = 0 := by
        rcases Int.lt_or_le 0 i with h1 | h1
        · have := h.hd h1; cases this
        · omega
      subst this; rfl
    | cons p ps =>
      have : 0 < i := by have := h.len; simp at this; omega
      exact h.hd this
  · simp; omega
  · have := h.len; simp; omega
theorem PortsOk.skip {last i : Int} {l : List Port} (h : PortsOk last i l) (h0 : 0 < i) (hl : i < last) : PortsOk last (i + 1) l :=
  ⟨h.all.imp fun j x hx => by obtain ⟨a, b, c, d⟩ := hx; exact ⟨a, b, by omega, d⟩, h.asc, fun _ => h.hd h0, fun hi => by omega, by have := h.len; omega⟩
theorem StnsOk.add {i : Int} {l : List Stn} (h : StnsOk i l) (h0 : 0 ≤ i) (hd fl su : Int) (h1 : 0 ≤ hd ∧ hd ≤ 100000000) (h2 : 0 ≤ fl ∧ fl ≤ 100000) (h3 : 0 ≤ su ∧ su ≤ 100000000) : StnsOk (i + 1) (l ++ [⟨nm1B ⟨#[115]⟩ l.length, i, hd, fl, su⟩]) := by
  refine ⟨(h.all.imp fun j x hx => ?_).snoc ?_, pw_snoc h.asc fun a ha => ?_, ?_⟩
  · obtain ⟨a, b, c, d⟩ := hx; exact ⟨a, b, by omega, d⟩
  · exact ⟨rfl, h0, by dsimp only; omega, h1.1, h1.2, h2.1, h2.2, h3⟩
  · obtain ⟨j, hj⟩ := h.all.mem ha; exact hj.2.2.1
  · have := h.len; simp; omega
theorem StnsOk.skip {i : Int} {l : List Stn} (h : StnsOk i l) : StnsOk (i + 1) l :=
  ⟨h.all.imp fun j x hx => by obtain ⟨a, b, c, d⟩ := hx; exact ⟨a, b, by omega, d⟩, h.asc, by have := h.len; omega⟩
end Go.Proofs.YtehmmnnmkapfeaaDoor

/- Names of the reference; the names of a network. -/
namespace Go.Proofs.YtehmmnnmkapfeaaDoor
open Go
set_option maxHeartbeats 4000000 in
theorem rname_c (s : ByteArray) (nn : Nm) : CallsA Tryd.prog 101 [ds s] Hp.none nn (Pu (db (nameB s)) Hp.none) := by
  obtain ⟨code, h1, h2⟩ := c101_ok
  refine callsA_of (T0_ok _) mixed (N := fun t => (0, t)) Tryd.func101 h1 h2 r101_ok [] false js_nil js_nil' (by simp [Tryd.f101]) ?_
  by_cases a1 : (s.size : Int) < 1
  · have b1 : s.size < 1 := by omega
    simp (maxSteps:=500000) only [↓vp, vv, ↓reduceIte, simprocAttr, c101, r101, c101_1, c101_2, c101_3, c101_4, c101_5, a1, b1, nameB, Pu, decide_true, decide_false]
  · by_cases a2 : (12 : Int) < s.size
    · have b1 : ¬ s.size < 1 := by omega
      have b2 : 12 < s.size := by omega
      simp (maxSteps:=500000) only [↓vp, vv, ↓reduceIte, simprocAttr, c101, r101, c101_1, c101_2, c101_3, c101_4, c101_5, a1, a2, b1, b2, nameB, Pu, decide_true, decide_false]
    · have b1 : ¬ s.size < 1 := by omega
      have b2 : ¬ 12 < s.size := by omega
      have b3 : (0 : Int) < s.size := by omega
      by_cases a3 : byteI s 0 < 97
      · have p0 : ¬ placeI (byteI s 0) = 1 := by unfold placeI; split <;> (try split) <;> (try split) <;> omega
        simp (maxSteps:=500000) only [↓vp, vv, ↓reduceIte, simprocAttr, c101, r101, c101_1, c101_2, c101_3, c101_4, c101_5, a1, a2, a3, b1, b2, b3, p0, byteI_eq, nameB, Pu, decide_true, decide_false]
      by_cases a4 : 122 < byteI s 0
      · have p0 : ¬ placeI (byteI s 0) = 1 := by unfold placeI; split <;> (try split) <;> (try split) <;> omega
        simp (maxSteps:=500000) only [↓vp, vv, ↓reduceIte, simprocAttr, c101, r101, c101_1, c101_2, c101_3, c101_4, c101_5, a1, a2, a3, a4, b1, b2, b3, p0, byteI_eq, nameB, Pu, decide_true, decide_false]
      have p0 : placeI (byteI s 0) = 1 := by unfold placeI; rw [if_pos (by omega)]
      have e0 : nameB s = (bytesI s).all (fun c => decide (placeI c ≠ 0)) := by unfold nameB; rw [if_neg b1, if_neg b2, if_pos p0]
      rw [e0]
      generalize hb : (bytesI s).all (fun c => decide (placeI c ≠ 0)) = b
      simp (maxSteps:=500000) only [↓vp, vv, ↓reduceIte, simprocAttr, c101, c101_5, a1, a2, a3, a4, b3, byteI_eq, decide_true, decide_false]
      refine rng_loop s.size (fun j => ⟨fr [(0, ds s), (3, di j)], Hp.none⟩) (fun j => ((bytesI s).drop j).all (fun c => decide (placeI c ≠ 0)) = b) (weak0 (by simp (maxSteps:=500000) only [↓vp, vv, ↓reduceIte, simprocAttr, coverS]) (by simp (maxSteps:=500000) only [↓vp, vv, ↓reduceIte, simprocAttr, refsF])) hb (fun j hj he => ?_) (fun he => ?_)
      · have hj' : (j : Int) < s.size := by omega
        have hn := idx_nn j
        have w1 := idx_next (j := j) (by omega)
        obtain ⟨hf, ht⟩ := drop_all (by rw [bytesI_len]; exact hj) he
        rw [bytesI_at] at hf ht
        generalize hc : byteI s j = c at hf ht
        by_cases c1 : c < 97
        · by_cases c2 : c < 48
          · by_cases c3 : c = 45
            · have p0 : ¬ placeI c = 0 := by unfold placeI; split <;> (try split) <;> (try split) <;> omega
              have q : (c != 45) = false := by simp; omega
              simp (maxSteps:=500000) only [↓vp, vv, ↓reduceIte, simprocAttr, c101, r101, c101_1, c101_2, c101_3, c101_4, c101_5, hj', hn, Int.toNat_natCast, byteI_eq, hc, w1, Pu, decide_true, decide_false, c1, c2, q]
              exact rng_next hj (weak0 (by simp (maxSteps:=500000) only [↓vp, vv, ↓reduceIte, simprocAttr, coverS, w1]) (by simp (maxSteps:=500000) only [↓vp, vv, ↓reduceIte, simprocAttr, refsF])) (ht (by simp [p0]))
            · have p0 : placeI c = 0 := by unfold placeI; rw [if_neg (by omega), if_neg (by omega), if_neg (by omega)]
              have e5 : b = false := hf (by simp [p0])
              subst e5
              have q : (c != 45) = true := by simp; omega
              simp (maxSteps:=500000) only [↓vp, vv, ↓reduceIte, simprocAttr, c101, r101, c101_1, c101_2, c101_3, c101_4, c101_5, hj', hn, Int.toNat_natCast, byteI_eq, hc, w1, Pu, decide_true, decide_false, c1, c2, q]
          · by_cases c3 : 57 < c
            · have p0 : placeI c = 0 := by unfold placeI; rw [if_neg (by omega), if_neg (by omega), if_neg (by omega)]
              have e5 : b = false := hf (by simp [p0])
              subst e5
              have q : (c != 45) = true := by simp; omega
              simp (maxSteps:=500000) only [↓vp, vv, ↓reduceIte, simprocAttr, c101, r101, c101_1, c101_2, c101_3, c101_4, c101_5, hj', hn, Int.toNat_natCast, byteI_eq, hc, w1, Pu, decide_true, decide_false, c1, c2, c3, q]
            · have p0 : ¬ placeI c = 0 := by unfold placeI; split <;> (try split) <;> (try split) <;> omega
              simp (maxSteps:=500000) only [↓vp, vv, ↓reduceIte, simprocAttr, c101, r101, c101_1, c101_2, c101_3, c101_4, c101_5, hj', hn, Int.toNat_natCast, byteI_eq, hc, w1, Pu, decide_true, decide_false, c1, c2, c3]
              exact rng_next hj (weak0 (by simp (maxSteps:=500000) only [↓vp, vv, ↓reduceIte, simprocAttr, coverS, w1]) (by simp (maxSteps:=500000) only [↓vp, vv, ↓reduceIte, simprocAttr, refsF])) (ht (by simp [p0]))
        · by_cases c2 : 122 < c
          · have c3 : ¬ c < 48 := by omega
            have c4 : 57 < c := by omega
            have p0 : placeI c = 0 := by unfold placeI; rw [if_neg (by omega), if_neg (by omega), if_neg (by omega)]
            have e5 : b = false := hf (by simp [p0])
            subst e5
            have q : (c != 45) = true := by simp; omega
            simp (maxSteps:=500000) only [↓vp, vv, ↓reduceIte, simprocAttr, c101, r101, c101_1, c101_2, c101_3, c101_4, c101_5, hj', hn, Int.toNat_natCast, byteI_eq, hc, w1, Pu, decide_true, decide_false, c1, c2, c3, c4, q]
          · have p0 : ¬ placeI c = 0 := by unfold placeI; split <;> (try split) <;> (try split) <;> omega
            simp (maxSteps:=500000) only [↓vp, vv, ↓reduceIte, simprocAttr, c101, r101, c101_1, c101_2, c101_3, c101_4, c101_5, hj', hn, Int.toNat_natCast, byteI_eq, hc, w1, Pu, decide_true, decide_false, c1, c2]
            exact rng_next hj (weak0 (by simp (maxSteps:=500000) only [↓vp, vv, ↓reduceIte, simprocAttr, coverS, w1]) (by simp (maxSteps:=500000) only [↓vp, vv, ↓reduceIte, simprocAttr, refsF])) (ht (by simp [p0]))
      · have e5 : b = true := drop_all_end (by rw [bytesI_len]; exact he)
        subst e5
        simp (maxSteps:=500000) only [↓vp, vv, ↓reduceIte, simprocAttr, c101, r101, c101_1, c101_2, c101_3, c101_4, c101_5, Int.lt_irrefl, Pu, decide_true, decide_false]
def decS : List D → Option ByteArray
  | [.v (.string n)] => some n
  | _ => Option.none
theorem decS_eq : ∀ l a, decS l = some a → l = [ds a] := fun l a h => by unfold decS at h; split at h <;> cases h; rfl
def selN1 := selX decS tt fun s => db (nameB s)
theorem tc_nm1 {T : Tbl} (hT : TblOk Tryd.prog T) : TblOk Tryd.prog (tc 113 (rowPu selN1) T) := tc_x f113_ok decS_eq (fun a h nn => lname_c _ nn) hT
theorem tc_rnm1 {T : Tbl} (hT : TblOk Tryd.prog T) : TblOk Tryd.prog (tc 101 (rowPu selN1) T) := tc_x f101_ok decS_eq (fun a h nn => rname_c _ nn) hT
def prdOf : List D → Option Prd
  | [.v (.string n), .v (.int .i64 a), .v (.int .i64 b), .v (.int .i64 c), .v (.int .i64 d)] => some ⟨n, a, b, c, d⟩
  | _ => Option.none
theorem prdOf_x (p : Prd) : prdOf [ds p.nm, di p.de, di p.ex, di p.co, di p.fr] = some p := rfl
theorem prdOf_eq {l : List D} {m : Prd} (h : prdOf l = some m) : l = m.row := by unfold prdOf at h; split at h <;> cases h; rfl
def decP : List D → Option Prd
  | [.agg a] => prdOf a
  | _ => Option.none
theorem decP_eq : ∀ l a, decP l = some a → l = [a.enc] := fun l a h => by
  unfold decP at h
  split at h
  · rw [prdOf_eq h]; rfl
  · cases h
def numsD (p : Prd) : D := .agg [di p.de, di p.ex, di p.co, di p.fr]
theorem numbers_c (p : Prd) (nn : Nm) : CallsA Tryd.prog 127 [p.enc] Hp.none nn (Pu (numsD p) Hp.none) := by
  obtain ⟨code, h1, h2⟩ := c127_ok
  refine callsA_of (T0_ok _) mixed (N := fun t => (0, t)) Tryd.func127 h1 h2 r127_ok [] false js_nil js_nil' (by simp [Tryd.f127]) ?_
  simp (maxSteps:=500000) only [↓vp, vv, ↓reduceIte, simprocAttr, c127, r127, Prd.enc, Prd.row, r127, numsD, Pu]
def selNu := selX decP tt numsD
theorem tc_nu {T : Tbl} (hT : TblOk Tryd.prog T) : TblOk Tryd.prog (tc 127 (rowPu selNu) T) := tc_x f127_ok decP_eq (fun a h nn => numbers_c _ nn) hT
set_option maxHeartbeats 8000000 in
theorem rpvalid_c (p : Prd) (nn : Nm) : CallsA Tryd.prog 64 [p.enc] Hp.none nn (Pu (db (pV p)) Hp.none) := by
  obtain ⟨code, h1, h2⟩ := c64_ok
  refine callsA_of (tc_rnm1 (T0_ok _)) mixed (N := fun t => (0, t)) Tryd.func64 h1 h2 r64_ok [] false js_nil js_nil' (by simp [Tryd.f64]) ?_
  cases c0 : nameB p.nm with
  | false => have hf := pV_f fun h : PrdOk p => (by rw [h.nm] at c0; cases c0); simp (maxSteps:=500000) only [↓vp, vv, ↓reduceIte, simprocAttr, c64, r64, Prd.enc, Prd.row, selN1, selX, decS, tt, c0, hf, Pu]
  | true =>
  cases c1 : decide (400 ≤ p.de) with
  | false => have hf := pV_f fun h : PrdOk p => of_decide_eq_false c1 h.de.1; simp (maxSteps:=500000) only [↓vp, vv, ↓reduceIte, simprocAttr, c64, r64, Prd.enc, Prd.row, selN1, selX, decS, tt, c0, c1, hf, Pu]
  | true =>
  cases c2 : decide (p.de ≤ 1200) with
  | false => have hf := pV_f fun h : PrdOk p => of_decide_eq_false c2 h.de.2; simp (maxSteps:=500000) only [↓vp, vv, ↓reduceIte, simprocAttr, c64, r64, Prd.enc, Prd.row, selN1, selX, decS, tt, c0, c1, c2, hf, Pu]
  | true =>
  cases c3 : decide (0 ≤ p.ex) with
  | false => have hf := pV_f fun h : PrdOk p => of_decide_eq_false c3 h.ex.1; simp (maxSteps:=500000) only [↓vp, vv, ↓reduceIte, simprocAttr, c64, r64, Prd.enc, Prd.row, selN1, selX, decS, tt, c0, c1, c2, c3, hf, Pu]
  | true =>
  cases c4 : decide (p.ex ≤ 2000) with
  | false => have hf := pV_f fun h : PrdOk p => of_decide_eq_false c4 h.ex.2; simp (maxSteps:=500000) only [↓vp, vv, ↓reduceIte, simprocAttr, c64, r64, Prd.enc, Prd.row, selN1, selX, decS, tt, c0, c1, c2, c3, c4, hf, Pu]
  | true =>
  cases c5 : decide (0 ≤ p.co) with
  | false => have hf := pV_f fun h : PrdOk p => of_decide_eq_false c5 h.co.1; simp (maxSteps:=500000) only [↓vp, vv, ↓reduceIte, simprocAttr, c64, r64, Prd.enc, Prd.row, selN1, selX, decS, tt, c0, c1, c2, c3, c4, c5, hf, Pu]
  | true =>
  cases c6 : decide (p.co ≤ 5000) with
  | false => have hf := pV_f fun h : PrdOk p => of_decide_eq_false c6 h.co.2; simp (maxSteps:=500000) only [↓vp, vv, ↓reduceIte, simprocAttr, c64, r64, Prd.enc, Prd.row, selN1, selX, decS, tt, c0, c1, c2, c3, c4, c5, c6, hf, Pu]
  | true =>
  cases c7 : decide (1 ≤ p.fr) with
  | false => have hf := pV_f fun h : PrdOk p => of_decide_eq_false c7 h.fr.1; simp (maxSteps:=500000) only [↓vp, vv, ↓reduceIte, simprocAttr, c64, r64, Prd.enc, Prd.row, selN1, selX, decS, tt, c0, c1, c2, c3, c4, c5, c6, c7, hf, Pu]
  | true =>
  cases c8 : decide (p.fr ≤ 2000) with
  | false => have hf := pV_f fun h : PrdOk p => of_decide_eq_false c8 h.fr.2; simp (maxSteps:=500000) only [↓vp, vv, ↓reduceIte, simprocAttr, c64, r64, Prd.enc, Prd.row, selN1, selX, decS, tt, c0, c1, c2, c3, c4, c5, c6, c7, c8, hf, Pu]
  | true =>
  have ht := pV_t (p := p) ⟨c0, ⟨of_decide_eq_true c1, of_decide_eq_true c2⟩, ⟨of_decide_eq_true c3, of_decide_eq_true c4⟩, ⟨of_decide_eq_true c5, of_decide_eq_true c6⟩, ⟨of_decide_eq_true c7, of_decide_eq_true c8⟩⟩
  simp (maxSteps:=500000) only [↓vp, vv, ↓reduceIte, simprocAttr, c64, r64, Prd.enc, Prd.row, selN1, selX, decS, tt, c0, c1, c2, c3, c4, c5, c6, c7, c8, ht, Pu]
def okN (p : Prd) : Nat → Prop
  | 0 => 400 ≤ p.de ∧ p.de ≤ 1200
  | 1 => 0 ≤ p.ex ∧ p.ex ≤ 2000
  | 2 => 0 ≤ p.co ∧ p.co ≤ 5000
  | _ => 1 ≤ p.fr ∧ p.fr ≤ 2000
theorem okN_next {p : Prd} {j : Nat} (h : ∀ i, i < j → okN p i) (hj : okN p j) : ∀ i, i < j + 1 → okN p i := fun i hi => by
  rcases Nat.lt_or_eq_of_le (Nat.lt_succ_iff.1 hi) with h1 | rfl
  · exact h i h1
  · exact hj
def PvF (p : Prd) (j : Int) : List (Nat × D) := [(1, .ptr (0, 1) 0 0 0), (3, .ptr (0, 3) 0 0 0), (8, .agg [di 400, di 1200, di 0, di 2000, di 0, di 5000, di 1, di 2000]), (9, di j)]
def PvH (p : Prd) : Hp := (Hp.none.put (0, 1) ⟨0, 5, [p.row]⟩).put (0, 3) ⟨0, 4, [[di p.de, di p.ex, di p.co, di p.fr]]⟩
def PvT : Tbl := tc 127 (rowPu selNu) (tc 113 (rowPu selN1) T0)
theorem PvT_ok : TblOk Tryd.prog PvT := tc_nu (tc_nm1 (T0_ok _))
set_option maxHeartbeats 8000000 in
theorem pvalid_c (p : Prd) (nn : Nm) : CallsA Tryd.prog 91 [p.enc] Hp.none nn (Pu (db (pV p)) Hp.none) := by
  obtain ⟨code, h1, h2⟩ := c91_ok
  refine callsA_of PvT_ok mixed (N := fun t => (0, t)) Tryd.func91 h1 h2 r91_ok [] false js_nil js_nil' (by simp [Tryd.f91]) ?_
  simp (maxSteps:=500000) only [↓vp, vv, ↓reduceIte, simprocAttr, c91, PvT, selNu, selX, decP, Prd.enc, Prd.row, prdOf_x, tt, numsD]
  refine rng_loop 4 (fun j => ⟨fr (PvF p (j : Nat)), PvH p⟩) (fun j => ∀ i, i < j → okN p i) (weak_eq [] [(0, 3), (0, 1)] (PvF p 0) (by simp (maxSteps:=500000) only [↓vp, vv, ↓reduceIte, simprocAttr, coverS, PvF, PvH, Prd.row]) (by simp (maxSteps:=500000) only [↓vp, vv, ↓reduceIte, simprocAttr, refsF, PvF, PvH, Prd.row]) (by simp (maxSteps:=500000) only [↓vp, vv, ↓reduceIte, simprocAttr, PvF, PvH, Prd.row]) (by simp) (by simp (maxSteps:=500000) only [↓vp, vv, ↓reduceIte, simprocAttr, PvF, PvH, Prd.row]; try rfl)) (fun i hi => by omega) (fun j hj hP => ?_) (fun hP => ?_)
  · match j, hj, hP with
    | 0, hj, hP =>
      cases ca : decide (p.de < 400) with
      | true =>
        have hf := pV_f fun h : PrdOk p => by have h1 := of_decide_eq_true ca; have h2 := h.de; omega
        simp (maxSteps:=500000) only [↓vp, vv, ↓reduceIte, simprocAttr, c91, c91_3, c91_2, c91_1, r91, PvF, PvH, Prd.row, Pu, ca, hf]
      | false =>
      cases cb : decide (1200 < p.de) with
      | true =>
        have hf := pV_f fun h : PrdOk p => by have h1 := of_decide_eq_true cb; have h2 := h.de; omega
        simp (maxSteps:=500000) only [↓vp, vv, ↓reduceIte, simprocAttr, c91, c91_3, c91_2, c91_1, r91, PvF, PvH, Prd.row, Pu, ca, cb, hf]
      | false =>
        simp (maxSteps:=500000) only [↓vp, vv, ↓reduceIte, simprocAttr, c91, c91_3, c91_2, c91_1, r91, PvF, PvH, Prd.row, Pu, ca, cb]
        have wz : IntKind.i64.wrap 1 = 1 := by decide
        exact rng_next hj (weak_eq [] [(0, 3), (0, 1)] (PvF p 1) (by simp (maxSteps:=500000) only [↓vp, vv, ↓reduceIte, simprocAttr, coverS, PvF, PvH, Prd.row, wz]) (by simp (maxSteps:=500000) only [↓vp, vv, ↓reduceIte, simprocAttr, refsF, PvF, PvH, Prd.row, wz]) (by simp (maxSteps:=500000) only [↓vp, vv, ↓reduceIte, simprocAttr, PvF, PvH, Prd.row, wz]) (by simp) (by simp (maxSteps:=500000) only [↓vp, vv, ↓reduceIte, simprocAttr, PvF, PvH, Prd.row, wz]; try rfl)) (okN_next hP ⟨by have := of_decide_eq_false ca; omega, by have := of_decide_eq_false cb; omega⟩)
    | 1, hj, hP =>
      cases ca : decide (p.ex < 0) with
      | true =>
        have hf := pV_f fun h : PrdOk p => by have h1 := of_decide_eq_true ca; have h2 := h.ex; omega
        simp (maxSteps:=500000) only [↓vp, vv, ↓reduceIte, simprocAttr, c91, c91_3, c91_2, c91_1, r91, PvF, PvH, Prd.row, Pu, ca, hf]
      | false =>
      cases cb : decide (2000 < p.ex) with
      | true =>
        have hf := pV_f fun h : PrdOk p => by have h1 := of_decide_eq_true cb; have h2 := h.ex; omega
        simp (maxSteps:=500000) only [↓vp, vv, ↓reduceIte, simprocAttr, c91, c91_3, c91_2, c91_1, r91, PvF, PvH, Prd.row, Pu, ca, cb, hf]
      | false =>
        simp (maxSteps:=500000) only [↓vp, vv, ↓reduceIte, simprocAttr, c91, c91_3, c91_2, c91_1, r91, PvF, PvH, Prd.row, Pu, ca, cb]
        have wz : IntKind.i64.wrap 2 = 2 := by decide
        exact rng_next hj (weak_eq [] [(0, 3), (0, 1)] (PvF p 2) (by simp (maxSteps:=500000) only [↓vp, vv, ↓reduceIte, simprocAttr, coverS, PvF, PvH, Prd.row, wz]) (by simp (maxSteps:=500000) only [↓vp, vv, ↓reduceIte, simprocAttr, refsF, PvF, PvH, Prd.row, wz]) (by simp (maxSteps:=500000) only [↓vp, vv, ↓reduceIte, simprocAttr, PvF, PvH, Prd.row, wz]) (by simp) (by simp (maxSteps:=500000) only [↓vp, vv, ↓reduceIte, simprocAttr, PvF, PvH, Prd.row, wz]; try rfl)) (okN_next hP ⟨by have := of_decide_eq_false ca; omega, by have := of_decide_eq_false cb; omega⟩)
    | 2, hj, hP =>
      cases ca : decide (p.co < 0) with
      | true =>
        have hf := pV_f fun h : PrdOk p => by have h1 := of_decide_eq_true ca; have h2 := h.co; omega
        simp (maxSteps:=500000) only [↓vp, vv, ↓reduceIte, simprocAttr, c91, c91_3, c91_2, c91_1, r91, PvF, PvH, Prd.row, Pu, ca, hf]
      | false =>
      cases cb : decide (5000 < p.co) with
      | true =>
        have hf := pV_f fun h : PrdOk p => by have h1 := of_decide_eq_true cb; have h2 := h.co; omega
        simp (maxSteps:=500000) only [↓vp, vv, ↓reduceIte, simprocAttr, c91, c91_3, c91_2, c91_1, r91, PvF, PvH, Prd.row, Pu, ca, cb, hf]
      | false =>
        simp (maxSteps:=500000) only [↓vp, vv, ↓reduceIte, simprocAttr, c91, c91_3, c91_2, c91_1, r91, PvF, PvH, Prd.row, Pu, ca, cb]
        have wz : IntKind.i64.wrap 3 = 3 := by decide
        exact rng_next hj (weak_eq [] [(0, 3), (0, 1)] (PvF p 3) (by simp (maxSteps:=500000) only [↓vp, vv, ↓reduceIte, simprocAttr, coverS, PvF, PvH, Prd.row, wz]) (by simp (maxSteps:=500000) only [↓vp, vv, ↓reduceIte, simprocAttr, refsF, PvF, PvH, Prd.row, wz]) (by simp (maxSteps:=500000) only [↓vp, vv, ↓reduceIte, simprocAttr, PvF, PvH, Prd.row, wz]) (by simp) (by simp (maxSteps:=500000) only [↓vp, vv, ↓reduceIte, simprocAttr, PvF, PvH, Prd.row, wz]; try rfl)) (okN_next hP ⟨by have := of_decide_eq_false ca; omega, by have := of_decide_eq_false cb; omega⟩)
    | 3, hj, hP =>
      cases ca : decide (p.fr < 1) with
      | true =>
        have hf := pV_f fun h : PrdOk p => by have h1 := of_decide_eq_true ca; have h2 := h.fr; omega
        simp (maxSteps:=500000) only [↓vp, vv, ↓reduceIte, simprocAttr, c91, c91_3, c91_2, c91_1, r91, PvF, PvH, Prd.row, Pu, ca, hf]
      | false =>
      cases cb : decide (2000 < p.fr) with
      | true =>
        have hf := pV_f fun h : PrdOk p => by have h1 := of_decide_eq_true cb; have h2 := h.fr; omega
        simp (maxSteps:=500000) only [↓vp, vv, ↓reduceIte, simprocAttr, c91, c91_3, c91_2, c91_1, r91, PvF, PvH, Prd.row, Pu, ca, cb, hf]
      | false =>
        simp (maxSteps:=500000) only [↓vp, vv, ↓reduceIte, simprocAttr, c91, c91_3, c91_2, c91_1, r91, PvF, PvH, Prd.row, Pu, ca, cb]
        have wz : IntKind.i64.wrap 4 = 4 := by decide
        exact rng_next hj (weak_eq [] [(0, 3), (0, 1)] (PvF p 4) (by simp (maxSteps:=500000) only [↓vp, vv, ↓reduceIte, simprocAttr, coverS, PvF, PvH, Prd.row, wz]) (by simp (maxSteps:=500000) only [↓vp, vv, ↓reduceIte, simprocAttr, refsF, PvF, PvH, Prd.row, wz]) (by simp (maxSteps:=500000) only [↓vp, vv, ↓reduceIte, simprocAttr, PvF, PvH, Prd.row, wz]) (by simp) (by simp (maxSteps:=500000) only [↓vp, vv, ↓reduceIte, simprocAttr, PvF, PvH, Prd.row, wz]; try rfl)) (okN_next hP ⟨by have := of_decide_eq_false ca; omega, by have := of_decide_eq_false cb; omega⟩)
  · cases cn : nameB p.nm with
    | false =>
      have hf := pV_f fun h : PrdOk p => (by rw [h.nm] at cn; cases cn)
      simp (maxSteps:=500000) only [↓vp, vv, ↓reduceIte, simprocAttr, c91, c91_4, c91_3, c91_2, c91_1, r91, PvF, PvH, Prd.row, PvT, selN1, selX, decS, tt, cn, hf, Pu]
    | true =>
      have ht := pV_t (p := p) ⟨cn, hP 0 (by omega), hP 1 (by omega), hP 2 (by omega), hP 3 (by omega)⟩
      simp (maxSteps:=500000) only [↓vp, vv, ↓reduceIte, simprocAttr, c91, c91_4, c91_3, c91_2, c91_1, r91, PvF, PvH, Prd.row, PvT, selN1, selX, decS, tt, cn, ht, Pu]
def selPV := selX decP tt fun p => db (pV p)
theorem tc_pv {T : Tbl} (hT : TblOk Tryd.prog T) : TblOk Tryd.prog (tc 91 (rowPu selPV) T) := tc_x f91_ok decP_eq (fun a h nn => pvalid_c _ nn) hT
theorem tc_rpv {T : Tbl} (hT : TblOk Tryd.prog T) : TblOk Tryd.prog (tc 64 (rowPu selPV) T) := tc_x f64_ok decP_eq (fun a h nn => rpvalid_c _ nn) hT
end Go.Proofs.YtehmmnnmkapfeaaDoor
