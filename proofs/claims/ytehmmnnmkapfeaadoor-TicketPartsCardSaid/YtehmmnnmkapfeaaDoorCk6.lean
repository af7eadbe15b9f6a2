/- TicketParts: CmF CodeCT CtA CtB CtC CtD CtG. -/
import Derived.Test.YtehmmnnmkapfeaaDoorCk5
import Derived.Test.YtehmmnnmkapfeaaDoorCk3
import Derived.Test.YtehmmnnmkapfeaaDoorProg
set_option linter.unusedSimpArgs false
set_option linter.unusedVariables false
set_option maxRecDepth 100000

/- Factors, standard volumes, sums, of both. -/
namespace Go.Proofs.YtehmmnnmkapfeaaDoor
open Go
def cndOf : List D → Option Cnd
  | [.v (.int .i64 a), .v (.int .i64 b)] => some ⟨a, b⟩
  | _ => Option.none
theorem cndOf_x (m : Cnd) : cndOf [di m.te, di m.pr] = some m := rfl
theorem cndOf_eq {l : List D} {m : Cnd} (h : cndOf l = some m) : l = m.row := by unfold cndOf at h; split at h <;> cases h; rfl
def runOf : List D → Option Run
  | [.v (.int .i64 a), .v (.int .i64 b)] => some ⟨a, b⟩
  | _ => Option.none
theorem runOf_x (m : Run) : runOf [di m.vol, di m.rest] = some m := rfl
theorem runOf_eq {l : List D} {m : Run} (h : runOf l = some m) : l = m.row := by unfold runOf at h; split at h <;> cases h; rfl
def decPC : List D → Option (Prd × Cnd)
  | [.agg a, .agg b] => match prdOf a, cndOf b with
    | some m, some c => some (m, c)
    | _, _ => Option.none
  | _ => Option.none
theorem decPC_eq : ∀ l a, decPC l = some a → l = [a.1.enc, a.2.enc] := fun l a h => by
  unfold decPC at h
  split at h
  · split at h
    · rename_i e e'; cases h; rw [prdOf_eq e, cndOf_eq e']; rfl
    · cases h
  · cases h
def decRII : List D → Option (Run × Int × Int)
  | [.agg a, .v (.int .i64 x), .v (.int .i64 y)] => match runOf a with
    | some m => some (m, x, y)
    | _ => Option.none
  | _ => Option.none
theorem decRII_eq : ∀ l a, decRII l = some a → l = [a.1.enc, di a.2.1, di a.2.2] := fun l a h => by
  unfold decRII at h
  split at h
  · split at h
    · rename_i e; cases h; rw [runOf_eq e]; rfl
    · cases h
  · cases h
def HtOk (p : Prd × Cnd) : Prop := PrdOk p.1 ∧ cdOk p.2.te p.2.pr
theorem heat_c (p : Prd) (c : Cnd) (h : HtOk (p, c)) (nn : Nm) : CallsA Tryd.prog 94 [p.enc, c.enc] Hp.none nn (Pu (di (fHeat p.ex c.te)) Hp.none) := by
  obtain ⟨code, h1, h2⟩ := c94_ok
  refine callsA_of (tc_hf (T0_ok _)) mixed (N := fun t => (0, t)) Tryd.func94 h1 h2 r94_ok [] false js_nil js_nil' (by simp [Tryd.f94]) ?_
  have hc := h.2.1
  obtain ⟨b1, b2, b3⟩ := heat_bd h.1.ex hc
  dsimp only at hc b1 b2 b3
  unfold fHeat at b3
  have w1 : IntKind.i64.wrap (c.te - 150) = c.te - 150 := wrap_i (by omega)
  have w2 : IntKind.i64.wrap (p.ex * (c.te - 150)) = p.ex * (c.te - 150) := wrap_i (by omega)
  have w3 : IntKind.i64.wrap (1000000 - hf (p.ex * (c.te - 150)) 10) = 1000000 - hf (p.ex * (c.te - 150)) 10 := wrap_i (by omega)
  have dv : DvOk (p.ex * (c.te - 150), 10) := ⟨by dsimp only; omega, by dsimp only; omega⟩
  simp (maxSteps:=500000) only [↓vp, vv, ↓reduceIte, simprocAttr, c94, r94, Prd.enc, Prd.row, Cnd.enc, Cnd.row, selHf, selX, decII, w1, w2, w3, dv, fHeat, Pu]
theorem press_c (p : Prd) (c : Cnd) (h : HtOk (p, c)) (nn : Nm) : CallsA Tryd.prog 95 [p.enc, c.enc] Hp.none nn (Pu (di (fPress p.co c.pr)) Hp.none) := by
  obtain ⟨code, h1, h2⟩ := c95_ok
  refine callsA_of (tc_hf (T0_ok _)) mixed (N := fun t => (0, t)) Tryd.func95 h1 h2 r95_ok [] false js_nil js_nil' (by simp [Tryd.f95]) ?_
  have hc := h.2.2
  obtain ⟨b1, b2, b3⟩ := press_bd h.1.co hc
  dsimp only at hc b1 b2 b3
  unfold fPress at b3
  have w2 : IntKind.i64.wrap (p.co * c.pr) = p.co * c.pr := wrap_i (by omega)
  have w3 : IntKind.i64.wrap (1000000 + hf (p.co * c.pr) 1000) = 1000000 + hf (p.co * c.pr) 1000 := wrap_i (by omega)
  have dv : DvOk (p.co * c.pr, 1000) := ⟨by dsimp only; omega, by dsimp only; omega⟩
  simp (maxSteps:=500000) only [↓vp, vv, ↓reduceIte, simprocAttr, c95, r95, Prd.enc, Prd.row, Cnd.enc, Cnd.row, selHf, selX, decII, w2, w3, dv, fPress, Pu]
def selHt := selX decPC HtOk fun q => di (fHeat q.1.ex q.2.te)
def selPs := selX decPC HtOk fun q => di (fPress q.1.co q.2.pr)
theorem tc_ht {T : Tbl} (hT : TblOk Tryd.prog T) : TblOk Tryd.prog (tc 94 (rowPu selHt) T) := tc_x f94_ok decPC_eq (fun a h nn => heat_c _ _ h nn) hT
theorem tc_ps {T : Tbl} (hT : TblOk Tryd.prog T) : TblOk Tryd.prog (tc 95 (rowPu selPs) T) := tc_x f95_ok decPC_eq (fun a h nn => press_c _ _ h nn) hT
theorem right_c (g f : Int) (nn : Nm) : CallsA Tryd.prog 97 [di g, di f] Hp.none nn (Pu (db (vfV g f)) Hp.none) := by
  obtain ⟨code, h1, h2⟩ := c97_ok
  refine callsA_of (T0_ok _) mixed (N := fun t => (0, t)) Tryd.func97 h1 h2 r97_ok [] false js_nil js_nil' (by simp [Tryd.f97]) ?_
  cases c0 : decide (0 ≤ g) with
  | false => have hf := vfV_f fun h : vfOk g f => of_decide_eq_false c0 h.1.1; simp (maxSteps:=500000) only [↓vp, vv, ↓reduceIte, simprocAttr, c97, r97, c0, hf, Pu]
  | true =>
  cases c1 : decide (g ≤ 1099511627776) with
  | false => have hf := vfV_f fun h : vfOk g f => of_decide_eq_false c1 h.1.2; simp (maxSteps:=500000) only [↓vp, vv, ↓reduceIte, simprocAttr, c97, r97, c0, c1, hf, Pu]
  | true =>
  cases c2 : decide (1 ≤ f) with
  | false => have hf := vfV_f fun h : vfOk g f => of_decide_eq_false c2 h.2.1; simp (maxSteps:=500000) only [↓vp, vv, ↓reduceIte, simprocAttr, c97, r97, c0, c1, c2, hf, Pu]
  | true =>
  cases c3 : decide (f ≤ 2000000) with
  | false => have hf := vfV_f fun h : vfOk g f => of_decide_eq_false c3 h.2.2; simp (maxSteps:=500000) only [↓vp, vv, ↓reduceIte, simprocAttr, c97, r97, c0, c1, c2, c3, hf, Pu]
  | true =>
  have ht := vfV_t (g := g) (f := f) ⟨⟨of_decide_eq_true c0, of_decide_eq_true c1⟩, of_decide_eq_true c2, of_decide_eq_true c3⟩
  simp (maxSteps:=500000) only [↓vp, vv, ↓reduceIte, simprocAttr, c97, r97, c0, c1, c2, c3, ht, Pu]
def selRi := selX decII tt fun q => db (vfV q.1 q.2)
theorem tc_ri {T : Tbl} (hT : TblOk Tryd.prog T) : TblOk Tryd.prog (tc 97 (rowPu selRi) T) := tc_x f97_ok decII_eq (fun a h nn => right_c _ _ nn) hT
def re2 (p : Run × Int) : D := .tup [p.1.enc, di p.2]
set_option maxHeartbeats 8000000 in
theorem add_c (r : Run) (g f : Int) (nn : Nm) : CallsA Tryd.prog 62 [r.enc, di g, di f] Hp.none nn (Pu (re2 (addI r g f)) Hp.none) := by
  obtain ⟨code, h1, h2⟩ := c62_ok
  refine callsA_of (tc_ri (T0_ok _)) mixed (N := fun t => (0, t)) Tryd.func62 h1 h2 r62_ok [] false js_nil js_nil' (by simp [Tryd.f62]) ?_
  have ez : ∀ h : rV r = false, addI r g f = (Run.zero, 9) := fun h => by unfold addI; rw [h]; rfl
  cases c0 : decide (r.vol < 0) with
  | true =>
    have e := ez (rV_f fun h => by have h1 := h.vol; have h2 := of_decide_eq_true c0; omega)
    simp (maxSteps:=500000) only [↓vp, vv, ↓reduceIte, simprocAttr, c62, r62, c62_1, c62_2, c62_3, r62, Run.enc, Run.row, selRi, selX, decII, tt, re2, c0, e, Run.zero, Pu]
  | false =>
  cases c1 : decide (1099511627776 < r.vol) with
  | true =>
    have e := ez (rV_f fun h => by have h1 := h.vol; have h2 := of_decide_eq_true c1; omega)
    simp (maxSteps:=500000) only [↓vp, vv, ↓reduceIte, simprocAttr, c62, r62, c62_1, c62_2, c62_3, r62, Run.enc, Run.row, selRi, selX, decII, tt, re2, c0, c1, e, Run.zero, Pu]
  | false =>
  cases c2 : decide (r.rest < 0) with
  | true =>
    have e := ez (rV_f fun h => by have h1 := h.rest; have h2 := of_decide_eq_true c2; omega)
    simp (maxSteps:=500000) only [↓vp, vv, ↓reduceIte, simprocAttr, c62, r62, c62_1, c62_2, c62_3, r62, Run.enc, Run.row, selRi, selX, decII, tt, re2, c0, c1, c2, e, Run.zero, Pu]
  | false =>
  cases c3 : decide (1000000 ≤ r.rest) with
  | true =>
    have e := ez (rV_f fun h => by have h1 := h.rest; have h2 := of_decide_eq_true c3; omega)
    simp (maxSteps:=500000) only [↓vp, vv, ↓reduceIte, simprocAttr, c62, r62, c62_1, c62_2, c62_3, r62, Run.enc, Run.row, selRi, selX, decII, tt, re2, c0, c1, c2, c3, e, Run.zero, Pu]
  | false =>
  have hr := rV_t (r := r) ⟨⟨by have := of_decide_eq_false c0; omega, by have := of_decide_eq_false c1; omega⟩, by have := of_decide_eq_false c2; omega, by have := of_decide_eq_false c3; omega⟩
  have hv := (rV_o hr).vol
  have hs := (rV_o hr).rest
  cases c4 : vfV g f with
  | false =>
    have e : addI r g f = (Run.zero, 1) := by unfold addI; rw [hr, c4]; rfl
    simp (maxSteps:=500000) only [↓vp, vv, ↓reduceIte, simprocAttr, c62, r62, c62_1, c62_2, c62_3, r62, Run.enc, Run.row, selRi, selX, decII, tt, re2, c0, c1, c2, c3, c4, e, Run.zero, Pu]
  | true =>
  have m := vf_mul (vfV_o c4)
  have w1 : IntKind.i64.wrap (g * f) = g * f := wrap_i (by omega)
  have w2 : IntKind.i64.wrap (g * f + r.rest) = g * f + r.rest := wrap_i (by omega)
  have k1 : (g * f + r.rest).tdiv 1000000 = (g * f + r.rest) / 1000000 := Int.tdiv_eq_ediv_of_nonneg (by omega)
  have k2 : (g * f + r.rest).tmod 1000000 = (g * f + r.rest) % 1000000 := Int.tmod_eq_emod_of_nonneg (by omega)
  have w3 : IntKind.i64.wrap ((g * f + r.rest) / 1000000) = (g * f + r.rest) / 1000000 := wrap_i (by omega)
  have w4 : IntKind.i64.wrap (r.vol + (g * f + r.rest) / 1000000) = r.vol + (g * f + r.rest) / 1000000 := wrap_i (by omega)
  have w5 : IntKind.i64.wrap ((g * f + r.rest) % 1000000) = (g * f + r.rest) % 1000000 := wrap_i (by omega)
  cases c5 : decide (1099511627776 < r.vol + (g * f + r.rest) / 1000000) with
  | true =>
    have e : addI r g f = (Run.zero, 4) := by unfold addI; rw [hr, c4, if_pos rfl, if_pos rfl, if_neg (by have := of_decide_eq_true c5; omega)]
    simp (maxSteps:=500000) only [↓vp, vv, ↓reduceIte, simprocAttr, c62, r62, c62_1, c62_2, c62_3, r62, Run.enc, Run.row, selRi, selX, decII, tt, re2, c0, c1, c2, c3, c4, w1, w2, k1, k2, w3, w4, w5, c5, e, Run.zero, Pu]
  | false =>
    have e : addI r g f = (⟨r.vol + (g * f + r.rest) / 1000000, (g * f + r.rest) % 1000000⟩, 0) := by unfold addI; rw [hr, c4, if_pos rfl, if_pos rfl, if_pos (by have := of_decide_eq_false c5; omega)]
    simp (maxSteps:=500000) only [↓vp, vv, ↓reduceIte, simprocAttr, c62, r62, c62_1, c62_2, c62_3, r62, Run.enc, Run.row, selRi, selX, decII, tt, re2, c0, c1, c2, c3, c4, w1, w2, k1, k2, w3, w4, w5, c5, e, Pu]
def selAd := selX decRII tt fun q => re2 (addI q.1 q.2.1 q.2.2)
theorem tc_ad {T : Tbl} (hT : TblOk Tryd.prog T) : TblOk Tryd.prog (tc 62 (rowPu selAd) T) := tc_x f62_ok decRII_eq (fun a h nn => add_c _ _ _ nn) hT
def fcV (p : Prd) (c : Cnd) : Nat → Int
  | 0 => 1
  | 1 => fHeat p.ex c.te
  | _ => fHeat p.ex c.te * fPress p.co c.pr
def FcF (j v : Int) : List (Nat × D) := [(3, .ptr (0, 3) 0 0 0), (6, di v), (34, .own (0, 34) 0 0 2), (35, di 2), (36, di j)]
def FcH (p : Prd) (c : Cnd) : Hp := (Hp.none.put (0, 3) ⟨0, 2, [c.row]⟩).put (0, 34) ⟨0, 1, [[.clo 94 [p.enc] []], [.clo 95 [p.enc] []]]⟩
set_option maxHeartbeats 8000000 in
theorem factor_c (p : Prd) (c : Cnd) (nn : Nm) : CallsA Tryd.prog 57 [p.enc, c.enc] Hp.none nn (Pu (ie (facI p c)) Hp.none) := by
  obtain ⟨code, h1, h2⟩ := c57_ok
  refine callsA_of (tc_pv (tc_ht (tc_ps (tc_hf (T0_ok _))))) mixed (N := fun t => (0, t)) Tryd.func57 h1 h2 r57_ok [] false js_nil js_nil' (by simp [Tryd.f57]) ?_
  cases c0 : pV p with
  | false =>
    have e : facI p c = (0, 9) := by unfold facI; rw [c0]; rfl
    simp (maxSteps:=500000) only [↓vp, vv, ↓reduceIte, simprocAttr, c57, r57, c57_5, c57_4, Prd.enc, Prd.row, Cnd.enc, Cnd.row, selPV, selHf, selX, decP, prdOf_x, decII, tt, ie, c0, e, Pu]
  | true =>
  have ez : ∀ h : cdV c = false, facI p c = (0, 1) := fun h => by unfold facI; rw [c0, h]; rfl
  cases c1 : decide (c.te < -400) with
  | true =>
    have e := ez (cdV_f fun h => by have h1 := h.1; have h2 := of_decide_eq_true c1; omega)
    simp (maxSteps:=500000) only [↓vp, vv, ↓reduceIte, simprocAttr, c57, r57, c57_5, c57_4, Prd.enc, Prd.row, Cnd.enc, Cnd.row, selPV, selHf, selX, decP, prdOf_x, decII, tt, ie, c0, c1, e, Pu]
  | false =>
  cases c2 : decide (1000 < c.te) with
  | true =>
    have e := ez (cdV_f fun h => by have h1 := h.1; have h2 := of_decide_eq_true c2; omega)
    simp (maxSteps:=500000) only [↓vp, vv, ↓reduceIte, simprocAttr, c57, r57, c57_5, c57_4, Prd.enc, Prd.row, Cnd.enc, Cnd.row, selPV, selHf, selX, decP, prdOf_x, decII, tt, ie, c0, c1, c2, e, Pu]
  | false =>
  cases c3 : decide (c.pr < 0) with
  | true =>
    have e := ez (cdV_f fun h => by have h1 := h.2; have h2 := of_decide_eq_true c3; omega)
    simp (maxSteps:=500000) only [↓vp, vv, ↓reduceIte, simprocAttr, c57, r57, c57_5, c57_4, Prd.enc, Prd.row, Cnd.enc, Cnd.row, selPV, selHf, selX, decP, prdOf_x, decII, tt, ie, c0, c1, c2, c3, e, Pu]
  | false =>
  cases c4 : decide (20000 < c.pr) with
  | true =>
    have e := ez (cdV_f fun h => by have h1 := h.2; have h2 := of_decide_eq_true c4; omega)
    simp (maxSteps:=500000) only [↓vp, vv, ↓reduceIte, simprocAttr, c57, r57, c57_5, c57_4, Prd.enc, Prd.row, Cnd.enc, Cnd.row, selPV, selHf, selX, decP, prdOf_x, decII, tt, ie, c0, c1, c2, c3, c4, e, Pu]
  | false =>
  have hc : cdOk c.te c.pr := ⟨⟨by have := of_decide_eq_false c1; omega, by have := of_decide_eq_false c2; omega⟩, by have := of_decide_eq_false c3; omega, by have := of_decide_eq_false c4; omega⟩
  have hp' := pV_o c0
  have e : facI p c = (fac p.ex p.co c.te c.pr, 0) := by unfold facI; rw [c0, cdV_t hc]; rfl
  obtain ⟨a1, a2, a3⟩ := heat_bd hp'.ex hc.1
  obtain ⟨b1, b2, b3⟩ := press_bd hp'.co hc.2
  obtain ⟨f1, f2⟩ := fac_bd hp'.ex hp'.co hc
  simp (maxSteps:=500000) only [↓vp, vv, ↓reduceIte, simprocAttr, c57, r57, c57_5, c57_4, Prd.enc, Prd.row, Cnd.enc, Cnd.row, selPV, selHf, selX, decP, prdOf_x, decII, tt, ie, c0, c1, c2, c3, c4, e]
  have ht : HtOk (p, c) := ⟨hp', hc⟩
  have w0 : IntKind.i64.wrap 1 = 1 := by decide
  have w1 : IntKind.i64.wrap 2 = 2 := by decide
  have w2 : IntKind.i64.wrap (fHeat p.ex c.te) = fHeat p.ex c.te := wrap_i (by omega)
  have w4 : IntKind.i64.wrap (fPress p.co c.pr) = fPress p.co c.pr := wrap_i (by omega)
  have w5 : IntKind.i64.wrap (fHeat p.ex c.te * fPress p.co c.pr) = fHeat p.ex c.te * fPress p.co c.pr := wrap_i (by omega)
  have w6 : IntKind.i64.wrap (1 * fHeat p.ex c.te) = fHeat p.ex c.te := by rw [Int.one_mul, w2]
  have d3 : DvOk (fHeat p.ex c.te * fPress p.co c.pr, 1000000) := ⟨by dsimp only; omega, by dsimp only; omega⟩
  refine rng_loop 2 (fun j => ⟨fr (FcF (j : Nat) (fcV p c j)), FcH p c⟩) (fun _ => True) (weak_eq [] [(0, 34), (0, 3)] (FcF 0 1) (by simp (maxSteps:=500000) only [↓vp, vv, ↓reduceIte, simprocAttr, coverS, FcF, FcH, fcV, Prd.enc, Prd.row, Cnd.row]) (by simp (maxSteps:=500000) only [↓vp, vv, ↓reduceIte, simprocAttr, refsF, FcF, FcH, fcV, Prd.enc, Prd.row, Cnd.row]) (by simp (maxSteps:=500000) only [↓vp, vv, ↓reduceIte, simprocAttr, FcF, FcH, fcV, Prd.enc, Prd.row, Cnd.row]) (by simp) (by simp (maxSteps:=500000) only [↓vp, vv, ↓reduceIte, simprocAttr, FcF, FcH, fcV, Prd.enc, Prd.row, Cnd.row]; try rfl)) trivial (fun j hj _ => ?_) (fun _ => ?_)
  · match j, hj with
    | 0, hj =>
      simp (maxSteps:=500000) only [↓vp, vv, ↓reduceIte, simprocAttr, c57, c57_2, c57_1, FcF, FcH, fcV, Prd.enc, Prd.row, Cnd.enc, Cnd.row, selHt, selPs, selX, decPC, prdOf_x, cndOf_x, ht, w6, w2]
      exact rng_next hj (weak_eq [] [(0, 34), (0, 3)] (FcF 1 (fHeat p.ex c.te)) (by simp (maxSteps:=500000) only [↓vp, vv, ↓reduceIte, simprocAttr, coverS, FcF, FcH, fcV, Prd.enc, Prd.row, Cnd.row, w0]) (by simp (maxSteps:=500000) only [↓vp, vv, ↓reduceIte, simprocAttr, refsF, FcF, FcH, fcV, Prd.enc, Prd.row, Cnd.row, w0]) (by simp (maxSteps:=500000) only [↓vp, vv, ↓reduceIte, simprocAttr, FcF, FcH, fcV, Prd.enc, Prd.row, Cnd.row, w0]) (by simp) (by simp (maxSteps:=500000) only [↓vp, vv, ↓reduceIte, simprocAttr, FcF, FcH, fcV, Prd.enc, Prd.row, Cnd.row, w0]; try rfl)) trivial
    | 1, hj =>
      simp (maxSteps:=500000) only [↓vp, vv, ↓reduceIte, simprocAttr, c57, c57_2, c57_1, FcF, FcH, fcV, Prd.enc, Prd.row, Cnd.enc, Cnd.row, selHt, selPs, selX, decPC, prdOf_x, cndOf_x, ht, w5]
      exact rng_next hj (weak_eq [] [(0, 34), (0, 3)] (FcF 2 (fHeat p.ex c.te * fPress p.co c.pr)) (by simp (maxSteps:=500000) only [↓vp, vv, ↓reduceIte, simprocAttr, coverS, FcF, FcH, fcV, Prd.enc, Prd.row, Cnd.row, w1]) (by simp (maxSteps:=500000) only [↓vp, vv, ↓reduceIte, simprocAttr, refsF, FcF, FcH, fcV, Prd.enc, Prd.row, Cnd.row, w1]) (by simp (maxSteps:=500000) only [↓vp, vv, ↓reduceIte, simprocAttr, FcF, FcH, fcV, Prd.enc, Prd.row, Cnd.row, w1]) (by simp) (by simp (maxSteps:=500000) only [↓vp, vv, ↓reduceIte, simprocAttr, FcF, FcH, fcV, Prd.enc, Prd.row, Cnd.row, w1]; try rfl)) trivial
  · simp (maxSteps:=500000) only [↓vp, vv, ↓reduceIte, simprocAttr, c57, c57_2, c57_3, r57, FcF, FcH, fcV, selHf, selX, decII, d3, fac, Pu]
def selFa := selX decPC tt fun q => ie (facI q.1 q.2)
theorem tc_fa {T : Tbl} (hT : TblOk Tryd.prog T) : TblOk Tryd.prog (tc 57 (rowPu selFa) T) := tc_x f57_ok decPC_eq (fun a h nn => factor_c _ _ nn) hT
theorem f10_ok : fnOk Tryd.prog 10 = true := by kernel_rfl
def c12 : C := (.seq (.ops false [oP 2 (.new [(.v (.int .i64 0)), (.v (.int .i64 0)), (.v (.int .i64 0))])]) (.seq (.ops false [oP 3 (.mv (.t 0)), oP 4 (.bsl 1 5 [(.v (.int .i64 0))] [(0, (cI 1)), (1, (cI 3)), (2, (cI 1000)), (3, (cI 2000)), (4, (cI 1048576))]), oB 5 (.call 33 [(.t 3), (.t 4)]), oP 6 (.mv (.t 0)), oP 7 (.bsl 1 3 [(.v (.int .i64 0))] [(0, (cI 16)), (1, (cI 16)), (2, (cI 32))]),
  oB 8 (.call 33 [(.t 6), (.t 7)]), oP 9 (.mv (.t 0)), oP 10 (.bsl 1 5 [(.v (.int .i64 0))] [(0, (cI 100000)), (1, (cI 100100)), (2, (cI 99871)), (3, (cI 50000)), (4, (cI 200000))]), oB 11 (.call 33 [(.t 9), (.t 10)]), oP 12 (.bld [(.v (.int .i64 0)), (.v (.int .i64 0)), (.v (.int .i64 0))] [(0, (1, (.t 5))), (1, (1, (.t 8))), (2, (1, (.t 11)))]), oS (.st 3 (.t 2) (.t 12))]) .ret))
def r12 : List RV := [(.cell 2 3 true)]
theorem c12_ok : ∃ code, Tryd.f12.body = some code ∧ compC Tryd.prog Tryd.f12.ntmps code = some (C.strip c12) := ⟨_, rfl, by kernel_rfl⟩
theorem r12_ok : compRes Tryd.prog Tryd.f12.results.toList = some r12 := by kernel_rfl
theorem f12_ok : fnOk Tryd.prog 12 = true := by kernel_rfl
def c13 : C := (.seq (.ops false [oP 4 (.new [(.v (.string ({ data := #[] }))), (.v (.int .i64 0)), (.v (.int .i64 0)), (.v (.int .i64 0)), (.v (.int .i64 0))])]) (.seq (.ops false [oP 5 (.mv (.t 1)), oB 6 (.call 51 [(.c (.v (.string ({ data := #[112] })))), (.t 5)]), oP 7 (.mv (.t 0)), oB 8 (.call 32 [(.t 7), (cI 400), (cI 1200)]), oP 9 (.mv (.t 0)), oP 10 (.bsl 1 4 [(.v (.int .i64 0))] [(0, (cI 0)), (1,
  (cI 830)), (2, (cI 2000)), (3, (cI 1))]), oB 11 (.call 33 [(.t 9), (.t 10)]), oP 12 (.mv (.t 0)), oP 13 (.bsl 1 4 [(.v (.int .i64 0))] [(0, (cI 0)), (1, (cI 800)), (2, (cI 5000)), (3, (cI 3))]), oB 14 (.call 33 [(.t 12), (.t 13)]), oP 15 (.mv (.t 0)), oP 16 (.bsl 1 5 [(.v (.int .i64 0))] [(0, (cI 1)), (1, (cI 700)), (2, (cI 1000)), (3, (cI 1300)), (4, (cI 2000))]), oB 17 (.call 33 [(.t 15),
  (.t 16)]), oP 18 (.bld [(.v (.string ({ data := #[] }))), (.v (.int .i64 0)), (.v (.int .i64 0)), (.v (.int .i64 0)), (.v (.int .i64 0))] [(0, (1, (.t 6))), (1, (1, (.t 8))), (2, (1, (.t 11))), (3, (1, (.t 14))), (4, (1, (.t 17)))]), oS (.st 5 (.t 4) (.t 18))]) .ret))
def r13 : List RV := [(.cell 4 5 true)]
theorem c13_ok : ∃ code, Tryd.f13.body = some code ∧ compC Tryd.prog Tryd.f13.ntmps code = some (C.strip c13) := ⟨_, rfl, by kernel_rfl⟩
theorem r13_ok : compRes Tryd.prog Tryd.f13.results.toList = some r13 := by kernel_rfl
theorem f13_ok : fnOk Tryd.prog 13 = true := by kernel_rfl
def c15_1 : C := (.seq (.block 1 (.seq (.ops false [oP 17 (.mv (.t 0)), oP 18 (.bsl 1 4 [(.v (.int .i64 0))] [(0, (cI 0)), (1, (cI 1)), (2, (cI 1000)), (3, (cI 60000))]), oB 19 (.call 33 [(.t 17), (.t 18)]), oP 8 (.mv (.t 19))]) (.seq (.ops false [oP 20 (.fa 1 (.t 5)), oP 21 (.ld 1 false (.t 20)), oP 22 (.mv (.t 8)), oP 23 (.bin .add (.t 21) (.t 22)), oP 24 (.fa 1 (.t 5)), oS (.st 1 (.t 24) (.t 23))])
  (.seq (.ops false [oP 25 (.fa 1 (.t 5)), oP 26 (.ld 1 false (.t 25)), oP 27 (.fa 1 (.t 3)), oP 28 (.ld 1 false (.t 27)), oP 29 (.cvi .u64 (.t 28)), oP 30 (.bin .shl (cI 1) (.t 29)), oP 31 (.bin .rem (.t 26) (.t 30)), oP 32 (.fa 0 (.t 5)), oS (.st 1 (.t 32) (.t 31))]) (.ops false [oP 33 (.mv (.t 6)), oP 34 (.ld 2 true (.t 5)), oP 35 (.bsl 2 1 [(.v (.int .i64 0)), (.v (.int .i64 0))] [(0,
  (.t 34))]), oP 36 (.app 2 16 (.t 33) (.t 35)), oP 6 (.mv (.t 36))]))))) (.ops false [oP 15 (.mv (.t 7)), oP 16 (.bin .sub (.t 15) (cI 1)), oP 7 (.mv (.t 16))]))
def c15_2 : C := (.seq (.seq (.ops false [oP 13 (.mv (.t 7)), oP 14 (.bin .gtr (.t 13) (cI 0))]) (.cond (.t 14) .skip (.exit 0))) c15_1)
def c15_3 : C := (.seq (.ops false [oP 37 (.mv (.t 6)), oP 4 (.mv (.t 37))]) .ret)
def c15 : C := (.seq (.ops false [oP 3 (.box 3 (.t 1)), oP 4 (.mv (.c .mt))]) (.seq (.ops false [oP 5 (.new [(.v (.int .i64 0)), (.v (.int .i64 0))])]) (.seq (.ops false [oP 9 (.ld 2 true (.t 5)), oP 10 (.bsl 2 1 [(.v (.int .i64 0)), (.v (.int .i64 0))] [(0, (.t 9))]), oP 6 (.mv (.t 10))]) (.seq (.seq (.ops false [oP 11 (.mv (.t 0)), oB 12 (.call 14 [(.t 11), (cI 6)]), oP 7 (.mv (.t 12))])
  (.block 0 (.loop c15_2))) c15_3))))
def r15 : List RV := [(.tmp 4)]
theorem c15_ok : ∃ code, Tryd.f15.body = some code ∧ compC Tryd.prog Tryd.f15.ntmps code = some (C.strip c15) := ⟨_, rfl, by kernel_rfl⟩
theorem r15_ok : compRes Tryd.prog Tryd.f15.results.toList = some r15 := by kernel_rfl
theorem f15_ok : fnOk Tryd.prog 15 = true := by kernel_rfl
def c16 : C := (.seq (.ops false [oP 2 (.new [(.v (.int .i64 0)), (.v (.int .i64 0))])]) (.seq (.ops false [oP 3 (.mv (.t 0)), oP 4 (.bsl 1 7 [(.v (.int .i64 0))] [(0, (cI 150)), (1, (cI 250)), (2, (cI (-400))), (3, (cI 1000)), (4, (cI 0)), (5, (cI 149)), (6, (cI (-20)))]), oB 5 (.call 33 [(.t 3), (.t 4)]), oP 6 (.mv (.t 0)), oP 7 (.bsl 1 5 [(.v (.int .i64 0))] [(0, (cI 0)), (1, (cI 5000)), (2, (cI 20000)), (3,
  (cI 1)), (4, (cI 777))]), oB 8 (.call 33 [(.t 6), (.t 7)]), oP 9 (.bld [(.v (.int .i64 0)), (.v (.int .i64 0))] [(0, (1, (.t 5))), (1, (1, (.t 8)))]), oS (.st 2 (.t 2) (.t 9))]) .ret))
def r16 : List RV := [(.cell 2 2 true)]
theorem c16_ok : ∃ code, Tryd.f16.body = some code ∧ compC Tryd.prog Tryd.f16.ntmps code = some (C.strip c16) := ⟨_, rfl, by kernel_rfl⟩
theorem r16_ok : compRes Tryd.prog Tryd.f16.results.toList = some r16 := by kernel_rfl
theorem f16_ok : fnOk Tryd.prog 16 = true := by kernel_rfl
def c21_1 : C := (.seq (.ops true [oP 96 (.mv (.t 16)), oP 97 (.mv (.t 2)), oP 98 (.mv (.t 3)), oP 99 (.mv (.t 17)), oA 100 (.iaS 2 (.t 98) (.t 99)) [3, 2], oA 101 (.ld 2 true (.t 100)) [2, 3, 4], oP 102 (.mv (.t 3)), oP 103 (.mv (.t 17)), oA 104 (.bin .add (.t 103) (cI 1)) [7], oA 105 (.iaS 2 (.t 102) (.t 104)) [7, 8, 6], oA 106 (.ld 2 true (.t 105)) [6, 8, 7, 9], oP 107 (.ld 2 true (.t 18)),
  oP 108 (.fa 0 (.t 22)), oA 109 (.ld 1 false (.t 108)) [12], oP 110 (.fa 0 (.t 15)), oA 111 (.ld 1 false (.t 110)) [14], oA 112 (.bin .sub (.t 109) (.t 111)) [14, 12, 15, 13], oA 113 (.bld [(.v (.int .i64 0)), (.v (.int .i64 0)), (.v (.int .i64 0)), (.v (.int .i64 0)), (.v (.int .i64 0)), (.v (.int .i64 0)), (.v (.int .i64 0)), (.v (.int .i64 0))] [(0, (1, (.t 97))), (1, (2, (.t 101))), (3, (2,
  (.t 106))), (5, (2, (.t 107))), (7, (1, (.t 112)))]) [13, 15, 12, 14, 9, 7, 8, 6, 4, 3, 2, 16, 11, 10, 5, 1], oA 114 (.bsl 8 1 [(.v (.int .i64 0)), (.v (.int .i64 0)), (.v (.int .i64 0)), (.v (.int .i64 0)), (.v (.int .i64 0)), (.v (.int .i64 0)), (.v (.int .i64 0)), (.v (.int .i64 0))] [(0, (.t 113))]) [1, 5, 10, 11, 16, 2, 3, 4, 6, 8, 7, 9, 14, 12, 15, 13, 17], oA 115 (.app 8 64 (.t 96)
  (.t 114)) [17, 13, 15, 12, 14, 9, 7, 8, 6, 4, 3, 2, 16, 11, 10, 5, 1, 18, 0], oA 16 (.mv (.t 115)) [18, 17, 16, 15, 14, 13, 12, 11, 10, 9, 8, 7, 6, 5, 4, 3, 2, 1, 0, 19]]) (.ops false [oP 116 (.ld 2 true (.t 22)), oS (.st 2 (.t 15) (.t 116))]))
def c21_2 : C := (.seq (.ops false [oP 86 (.ld 2 true (.t 15)), oP 87 (.mv (.t 19)), oP 88 (.mv (.t 21)), oB 89 (.call 62 [(.t 86), (.t 87), (.t 88)]), oP 85 (.mv (.t 89)), oP 90 (.ext (.t 85) 0), oP 91 (.ext (.t 85) 1), oP 22 (.new [(.v (.int .i64 0)), (.v (.int .i64 0))]), oS (.st 2 (.t 22) (.t 90)), oP 20 (.mv (.t 91))]) (.seq (.seq (.ops false [oP 92 (.mv (.t 20)), oP 93 (.bin .neq (.t 92) (cI 0))])
  (.cond (.t 93) (.seq (.ops false [oP 94 (.bld [(.v (.int .i64 0)), (.v (.int .i64 0))] []), oP 95 (.mv (.t 20)), oP 10 (.mv (.c .mt)), oS (.st 2 (.t 11) (.t 94)), oP 12 (.mv (.t 95))]) .ret) .skip)) c21_1))
def c21_3 : C := (.seq (.ops false [oP 76 (.ld 5 true (.t 6)), oP 77 (.ld 2 true (.t 18)), oB 78 (.call 57 [(.t 76), (.t 77)]), oP 75 (.mv (.t 78)), oP 79 (.ext (.t 75) 0), oP 80 (.ext (.t 75) 1), oP 21 (.mv (.t 79)), oP 20 (.mv (.t 80))]) (.seq (.seq (.ops false [oP 81 (.mv (.t 20)), oP 82 (.bin .neq (.t 81) (cI 0))]) (.cond (.t 82) (.seq (.ops false [oP 83 (.bld [(.v (.int .i64 0)), (.v (.int .i64 0))] []),
  oP 84 (.mv (.t 20)), oP 10 (.mv (.c .mt)), oS (.st 2 (.t 11) (.t 83)), oP 12 (.mv (.t 84))]) .ret) .skip)) c21_2))
def c21_4 : C := (.ops false [oP 117 (.bin .add (.t 52) (cI 1)), oP 52 (.mv (.t 117))])
def c21_5 : C := (.seq (.block 1 (.seq (.ops false [oP 54 (.mv (.t 52)), oP 55 (.iaS 2 (.t 50) (.t 52)), oP 56 (.ld 2 true (.t 55)), oP 18 (.new [(.v (.int .i64 0)), (.v (.int .i64 0))]), oP 17 (.mv (.t 54)), oS (.st 2 (.t 18) (.t 56))]) (.seq (.ops true [oP 58 (.ld 3 true (.t 5)), oP 59 (.mv (.t 3)), oP 60 (.mv (.t 17)), oA 61 (.iaS 2 (.t 59) (.t 60)) [2, 1], oA 62 (.ld 2 true (.t 61)) [1, 2, 3],
  oP 63 (.mv (.t 3)), oP 64 (.mv (.t 17)), oA 65 (.bin .add (.t 64) (cI 1)) [6], oA 66 (.iaS 2 (.t 63) (.t 65)) [6, 7, 5], oA 67 (.ld 2 true (.t 66)) [5, 7, 6, 8], oE 68 (.call 56 [(.t 58), (.t 62), (.t 67)]) [8, 6, 7, 5, 3, 2, 1, 9, 4, 0], oA 57 (.mv (.t 68)) [0, 4, 9, 1, 2, 3, 5, 7, 6, 8, 10], oA 69 (.ext (.t 57) 0) [10, 8, 6, 7, 5, 3, 2, 1, 9, 4, 0, 11], oA 70 (.ext (.t 57) 1) [10, 8, 6, 7, 5, 3,
  2, 1, 9, 4, 0, 11], oA 19 (.mv (.t 69)) [11, 9, 8, 7, 6, 5, 4, 3, 2, 1, 0, 10, 12], oA 20 (.mv (.t 70)) [12, 11, 10, 9, 8, 7, 6, 5, 4, 3, 2, 1, 0, 14, 13]]) (.seq (.seq (.ops false [oP 71 (.mv (.t 20)), oP 72 (.bin .neq (.t 71) (cI 0))]) (.cond (.t 72) (.seq (.ops false [oP 73 (.bld [(.v (.int .i64 0)), (.v (.int .i64 0))] []), oP 74 (.mv (.t 20)), oP 10 (.mv (.c .mt)), oS (.st 2 (.t 11) (.t 73)),
  oP 12 (.mv (.t 74))]) .ret) .skip)) c21_3)))) c21_4)
def c21_6 : C := (.seq (.ops false [oP 53 (.bin .lss (.t 52) (.t 51))]) (.seq (.cond (.t 53) .skip (.exit 0)) c21_5))
def c21_7 : C := (.seq (.ops true [oP 118 (.mv (.t 16)), oP 119 (.ld 2 true (.t 15)), oA 10 (.mv (.t 118)) [0], oT (.st 2 (.t 11) (.t 119)) [0, 2, 1], oA 12 (.mv (cI 0)) [2, 1, 0, 3]]) .ret)
def c21_8 : C := (.seq (.ops false [oP 15 (.new [(.v (.int .i64 0)), (.v (.int .i64 0))])]) (.seq (.ops false [oP 16 (.mv (.c .mt))]) (.seq (.seq (.ops false [oP 50 (.mv (.t 4)), oP 51 (.len (.t 50)), oP 52 (.mv (cI 0))]) (.block 0 (.loop c21_6))) c21_7)))
def c21_9 : C := (.seq (.seq (.ops false [oP 42 (.ld 3 true (.t 5)), oP 43 (.ld 5 true (.t 6)), oP 44 (.mv (.t 2)), oB 45 (.call 55 [(.t 42), (.t 43), (.t 44)]), oP 14 (.mv (.t 45))]) (.seq (.ops false [oP 46 (.mv (.t 14)), oP 47 (.bin .neq (.t 46) (cI 0))]) (.cond (.t 47) (.seq (.ops false [oP 48 (.bld [(.v (.int .i64 0)), (.v (.int .i64 0))] []), oP 49 (.mv (.t 14)), oP 10 (.mv (.c .mt)), oS (.st 2 (.t 11)
  (.t 48)), oP 12 (.mv (.t 49))]) .ret) .skip))) c21_8)
def c21 : C := (.seq (.ops false [oP 5 (.box 3 (.t 0)), oP 6 (.box 5 (.t 1)), oP 10 (.mv (.c .mt)), oP 11 (.new [(.v (.int .i64 0)), (.v (.int .i64 0))]), oP 12 (.mv (cI 0))]) (.seq (.seq (.ops false [oP 23 (.ld 3 true (.t 5)), oP 24 (.ld 5 true (.t 6)), oB 25 (.call 55 [(.t 23), (.t 24), (cI 0)]), oP 13 (.mv (.t 25))]) (.seq (.ops false [oP 26 (.mv (.t 13)), oP 27 (.bin .neq (.t 26) (cI 0)),
  oP 28 (.mv (.t 27)), oG 29 28 false (.mv (.t 3)), oG 30 28 false (.len (.t 29)), oG 31 28 false (.mv (.t 4)), oG 32 28 false (.len (.t 31)), oG 33 28 false (.bin .add (.t 32) (cI 1)), oG 34 28 false (.bin .neq (.t 30) (.t 33)), oP 35 (.pick (.t 28) (cB true) (.t 34)), oP 36 (.mv (.t 35)), oG 37 36 false (.mv (.t 4)), oG 38 36 false (.len (.t 37)), oG 39 36 false (.bin .gtr (.t 38) (cI 1000)),
  oP 40 (.pick (.t 36) (cB true) (.t 39))]) (.cond (.t 40) (.seq (.ops false [oP 41 (.bld [(.v (.int .i64 0)), (.v (.int .i64 0))] []), oP 10 (.mv (.c .mt)), oS (.st 2 (.t 11) (.t 41)), oP 12 (.mv (cI 9))]) .ret) .skip))) c21_9))
def r21 : List RV := [(.tmp 10), (.cell 11 2 true), (.tmp 12)]
theorem c21_ok : ∃ code, Tryd.f21.body = some code ∧ compC Tryd.prog Tryd.f21.ntmps code = some (C.strip c21) := ⟨_, rfl, by kernel_rfl⟩
theorem r21_ok : compRes Tryd.prog Tryd.f21.results.toList = some r21 := by kernel_rfl
theorem f21_ok : fnOk Tryd.prog 21 = true := by kernel_rfl
def c23_1 : C := (.ops false [oP 15 (.mv (.t 5)), oP 16 (.bin .add (.t 15) (cI 1)), oP 5 (.mv (.t 16))])
def c23_2 : C := (.seq (.block 1 (.seq (.ops true [oP 17 (.mv (.t 0)), oP 18 (.mv (.t 5)), oA 19 (.iaS 8 (.t 17) (.t 18)) [1, 0], oA 20 (.ld 8 true (.t 19)) [0, 1, 2], oP 21 (.mv (.t 1)), oP 22 (.mv (.t 5)), oA 23 (.iaS 8 (.t 21) (.t 22)) [5, 4], oA 24 (.ld 8 true (.t 23)) [4, 5, 6], oA 25 (.eqa true [0, 0, 0, 0, 0, 0, 0, 0] (.t 20) (.t 24)) [6, 5, 4, 2, 1, 0, 7, 3]]) (.cond (.t 25)
  (.seq (.ops false [oP 4 (.mv (cB false))]) .ret) .skip))) c23_1)
def c23_3 : C := (.seq (.seq (.ops false [oP 11 (.mv (.t 5)), oP 12 (.mv (.t 0)), oP 13 (.len (.t 12)), oP 14 (.bin .lss (.t 11) (.t 13))]) (.cond (.t 14) .skip (.exit 0))) c23_2)
def c23_4 : C := (.seq (.ops false [oP 4 (.mv (cB true))]) .ret)
def c23_5 : C := (.seq (.seq (.ops false [oP 5 (.mv (cI 0))]) (.block 0 (.loop c23_3))) c23_4)
def c23 : C := (.seq (.ops false [oP 4 (.mv (cB false))]) (.seq (.seq (.ops false [oP 6 (.mv (.t 0)), oP 7 (.len (.t 6)), oP 8 (.mv (.t 1)), oP 9 (.len (.t 8)), oP 10 (.bin .neq (.t 7) (.t 9))]) (.cond (.t 10) (.seq (.ops false [oP 4 (.mv (cB false))]) .ret) .skip)) c23_5))
def r23 : List RV := [(.tmp 4)]
theorem c23_ok : ∃ code, Tryd.f23.body = some code ∧ compC Tryd.prog Tryd.f23.ntmps code = some (C.strip c23) := ⟨_, rfl, by kernel_rfl⟩
theorem r23_ok : compRes Tryd.prog Tryd.f23.results.toList = some r23 := by kernel_rfl
theorem f23_ok : fnOk Tryd.prog 23 = true := by kernel_rfl
def c55_1 : C := (.seq (.ops false [oP 6 (.mv (cI 0))]) .ret)
def c55 : C := (.seq (.ops false [oP 3 (.box 3 (.t 0)), oP 4 (.box 5 (.t 1)), oP 6 (.mv (cI 0))]) (.seq (.block 0 (.seq (.ops false [oP 8 (.ld 3 true (.t 3)), oB 9 (.call 90 [(.t 8)]), oP 10 (.not (.t 9)), oP 11 (.mv (.t 10)), oG 12 11 false (.ld 5 true (.t 4)), oD 13 11 false (.call 91 [(.t 12)]) [], oG 14 11 false (.not (.t 13)), oP 15 (.pick (.t 11) (cB true) (.t 14)), oP 7 (.mv (.t 15))]) (.cond (.t 7)
  (.seq (.ops false [oP 6 (.mv (cI 9))]) .ret) (.seq (.ops false [oP 17 (.mv (.t 2)), oP 18 (.bin .lss (.t 17) (cI 0)), oP 19 (.mv (.t 18)), oG 20 19 false (.mv (.t 2)), oG 21 19 false (.bin .geq (.t 20) (cI 1000)), oP 22 (.pick (.t 19) (cB true) (.t 21)), oP 16 (.mv (.t 22))]) (.cond (.t 16) (.seq (.ops false [oP 6 (.mv (cI 8))]) .ret) .skip))))) c55_1))
def r55 : List RV := [(.tmp 6)]
theorem c55_ok : ∃ code, Tryd.f55.body = some code ∧ compC Tryd.prog Tryd.f55.ntmps code = some (C.strip c55) := ⟨_, rfl, by kernel_rfl⟩
theorem r55_ok : compRes Tryd.prog Tryd.f55.results.toList = some r55 := by kernel_rfl
theorem f55_ok : fnOk Tryd.prog 55 = true := by kernel_rfl
def tcOf : List D → Option Tic
  | [.v (.int .i64 a), .v (.int .i64 b), .v (.int .i64 c), .v (.int .i64 d), .v (.int .i64 e), .v (.int .i64 f), .v (.int .i64 g), .v (.int .i64 h)] => some ⟨a, b, c, d, e, f, g, h⟩
  | _ => Option.none
theorem tcOf_eq {l : List D} {m : Tic} (h : tcOf l = some m) : l = m.row := by unfold tcOf at h; split at h <;> cases h; rfl
def decMPI : List D → Option (Mtr × Prd × Int)
  | [.agg a, .agg b, .v (.int .i64 n)] => match mtrOf a, prdOf b with
    | some m, some p => some (m, p, n)
    | _, _ => Option.none
  | _ => Option.none
theorem decMPI_eq : ∀ l a, decMPI l = some a → l = [a.1.enc, a.2.1.enc, di a.2.2] := fun l a h => by
  unfold decMPI at h
  split at h
  · split at h
    · rename_i e e'; cases h; rw [mtrOf_eq e, prdOf_eq e']; rfl
    · cases h
  · cases h
set_option maxHeartbeats 8000000 in
theorem tcheck_c (m : Mtr) (p : Prd) (b : Int) (nn : Nm) : CallsA Tryd.prog 55 [m.enc, p.enc, di b] Hp.none nn (Pu (di (begI m p b)) Hp.none) := by
  obtain ⟨code, h1, h2⟩ := c55_ok
  refine callsA_of (tc_mv (tc_pv (T0_ok _))) mixed (N := fun t => (0, t)) Tryd.func55 h1 h2 r55_ok [] false js_nil js_nil' (by simp [Tryd.f55]) ?_
  cases c1 : mV m with
  | false =>
    have e : begI m p b = 9 := by unfold begI; rw [c1]; rfl
    simp (maxSteps:=500000) only [↓vp, vv, ↓reduceIte, simprocAttr, c55, r55, c55_1, Mtr.enc, Mtr.row, Prd.enc, Prd.row, selMV, selPV, selX, decM, decP, mtrOf_x, prdOf_x, tt, c1, e, Pu]
  | true =>
  cases c2 : pV p with
  | false =>
    have e : begI m p b = 9 := by unfold begI; rw [c1, c2]; rfl
    simp (maxSteps:=500000) only [↓vp, vv, ↓reduceIte, simprocAttr, c55, r55, c55_1, Mtr.enc, Mtr.row, Prd.enc, Prd.row, selMV, selPV, selX, decM, decP, mtrOf_x, prdOf_x, tt, c1, c2, e, Pu]
  | true =>
  have e0 : begI m p b = if 0 ≤ b ∧ b < 1000 then 0 else 8 := by unfold begI; rw [c1, c2]; rfl
  cases c3 : decide (b < 0) with
  | true =>
    have e : begI m p b = 8 := by rw [e0, if_neg (by have := of_decide_eq_true c3; omega)]
    simp (maxSteps:=500000) only [↓vp, vv, ↓reduceIte, simprocAttr, c55, r55, c55_1, Mtr.enc, Mtr.row, Prd.enc, Prd.row, selMV, selPV, selX, decM, decP, mtrOf_x, prdOf_x, tt, c1, c2, c3, e, Pu]
  | false =>
  cases c4 : decide (1000 ≤ b) with
  | true =>
    have e : begI m p b = 8 := by rw [e0, if_neg (by have := of_decide_eq_true c4; omega)]
    simp (maxSteps:=500000) only [↓vp, vv, ↓reduceIte, simprocAttr, c55, r55, c55_1, Mtr.enc, Mtr.row, Prd.enc, Prd.row, selMV, selPV, selX, decM, decP, mtrOf_x, prdOf_x, tt, c1, c2, c3, c4, e, Pu]
  | false =>
    have e : begI m p b = 0 := by rw [e0, if_pos ⟨by have := of_decide_eq_false c3; omega, by have := of_decide_eq_false c4; omega⟩]
    simp (maxSteps:=500000) only [↓vp, vv, ↓reduceIte, simprocAttr, c55, r55, c55_1, Mtr.enc, Mtr.row, Prd.enc, Prd.row, selMV, selPV, selX, decM, decP, mtrOf_x, prdOf_x, tt, c1, c2, c3, c4, e, Pu]
def selBg := selX decMPI tt fun q => di (begI q.1 q.2.1 q.2.2)
theorem tc_bg {T : Tbl} (hT : TblOk Tryd.prog T) : TblOk Tryd.prog (tc 55 (rowPu selBg) T) := tc_x f55_ok decMPI_eq (fun a h nn => tcheck_c _ _ _ nn) hT
theorem neq_b {a b : Int} (h : (a != b) = true) : a ≠ b := by simpa using h
theorem eq_b {a b : Int} (h : (a != b) = false) : a = b := by simpa using h
def ticE (x t : Tic) : Bool := x.ba == t.ba && (x.fl == t.fl && (x.fp == t.fp && (x.tl == t.tl && (x.tp == t.tp && (x.te == t.te && (x.pr == t.pr && (x.vol == t.vol && true)))))))
theorem ticE_eq (x t : Tic) : ticE x t = decide (x = t) := by
  rw [Bool.eq_iff_iff]
  unfold ticE
  simp only [Bool.and_eq_true, beq_iff_eq, decide_eq_true_eq, and_true]
  exact Tic.ext_iff2 x t
theorem eqL_tic (x t : Tic) : eqL [0, 0, 0, 0, 0, 0, 0, 0] [di x.ba, di x.fl, di x.fp, di x.tl, di x.tp, di x.te, di x.pr, di x.vol] [di t.ba, di t.fl, di t.fp, di t.tl, di t.tp, di t.te, di t.pr, di t.vol] = some (ticE x t) := rfl
def RngIP {α : Type} (n : Nat) (st : Nat → α → St) (P : Nat → α → Prop) (m : Nat) (s : St) : Prop := ∃ (j : Nat) (u : α), j + m = n ∧ P j u ∧ s = st j u
theorem rng_loopP {T : Tbl} {N : Nat → Nm} {J : List Nm} {c : C} {Q : Ex → St → Prop} {s : St} {α : Type} (n : Nat) (st : Nat → α → St) (P : Nat → α → Prop) {u0 : α} (h0 : Weak J s (st 0 u0)) (hP : P 0 u0)
    (hs : ∀ j, j < n → ∀ u, P j u → vc T N J c (loopQ J (RngIP n st P) (n - j) Q) (st j u)) (he : ∀ u, P n u → vc T N J c (loopQ J (RngIP n st P) 0 Q) (st n u)) : vc T N J (.loop c) Q s := by
  rw [vc_loop]
  refine ⟨RngIP n st P, ⟨n, _, h0, 0, u0, by omega, hP, rfl⟩, ?_⟩
  rintro m s' ⟨j, u, hj, hPj, rfl⟩
  by_cases h : j < n
  · obtain rfl : m = n - j := by omega
    exact hs j h u hPj
  · obtain rfl : j = n := by omega
    obtain rfl : m = 0 := by omega
    exact he u hPj
theorem rng_nextP {J : List Nm} {n : Nat} {α : Type} {st : Nat → α → St} {P : Nat → α → Prop} {j : Nat} {s : St} (hj : j < n) (u : α) (w : Weak J s (st (j + 1) u)) (hp : P (j + 1) u) : ∃ k' s', k' < n - j ∧ Weak J s s' ∧ RngIP n st P k' s' :=
  ⟨n - (j + 1), _, by omega, w, j + 1, u, by omega, hp, rfl⟩
def cnA (cs : List Cnt) (j : Nat) : Cnt := cs.getD j ⟨0, 0⟩
def cdA (l : List Cnd) (j : Nat) : Cnd := l.getD j ⟨0, 0⟩
theorem cn_get {cs : List Cnt} {j : Nat} (h : j < cs.length) : (cs.map Cnt.row).getD j [] = [di (cnA cs j).last, di (cnA cs j).pul] := by
  unfold cnA
  rw [List.getD_eq_getElem?_getD, List.getElem?_map, List.getD_eq_getElem?_getD, List.getElem?_eq_getElem h]
  rfl
theorem cd_get {l : List Cnd} {j : Nat} (h : j < l.length) : (l.map Cnd.row).getD j [] = [di (cdA l j).te, di (cdA l j).pr] := by
  unfold cdA
  rw [List.getD_eq_getElem?_getD, List.getElem?_map, List.getD_eq_getElem?_getD, List.getElem?_eq_getElem h]
  rfl
theorem cd_drop {l : List Cnd} {j : Nat} (h : j < l.length) : l.drop j = cdA l j :: l.drop (j + 1) := by
  rw [List.drop_eq_getElem_cons h]
  congr 1
  unfold cdA
  rw [List.getD_eq_getElem?_getD, List.getElem?_eq_getElem h]
  rfl
def ChP (m : Mtr) (p : Prd) (b : Int) (cs : List Cnt) (l : List Cnd) (X : List Tic × Run × Int) (j : Nat) (u : Run × List Tic × Nat) : Prop := RunOk u.1 ∧ u.2.1.length = j ∧ chGo m p b cs (l.drop j) j u.1 u.2.1 = X
theorem chP_bad {m : Mtr} {p : Prd} {b : Int} {cs : List Cnt} {l : List Cnd} {X : List Tic × Run × Int} {j : Nat} {u : Run × List Tic × Nat} (h : ChP m p b cs l X j u) (hj : j < l.length) {e : Int} (he : e ≠ 0) (hs : stepI m p b u.1 (cnA cs j) (cnA cs (j + 1)) (cdA l j) = (Tic.zero, Run.zero, e)) : X = ([], Run.zero, e) := by
  have h3 := h.2.2
  rw [cd_drop hj, chGo] at h3
  unfold cnA at hs
  rw [hs, if_neg he] at h3
  exact h3.symm
theorem chP_next {m : Mtr} {p : Prd} {b : Int} {cs : List Cnt} {l : List Cnd} {X : List Tic × Run × Int} {j : Nat} {r : Run} {out : List Tic} {g : Nat} (h : ChP m p b cs l X j (r, out, g)) (hj : j < l.length) {t : Tic} {x : Run} (hx : RunOk x) (hs : stepI m p b r (cnA cs j) (cnA cs (j + 1)) (cdA l j) = (t, x, 0)) (g' : Nat) : ChP m p b cs l X (j + 1) (x, out ++ [t], g') := by
  have h3 := h.2.2
  have h2 := h.2.1
  rw [cd_drop hj, chGo] at h3
  unfold cnA at hs
  dsimp only at h3 h2
  rw [hs, if_pos rfl] at h3
  exact ⟨hx, by simp; omega, h3⟩
theorem tic_plain (l : List Tic) : ∀ r : List D, r ∈ l.map Tic.row → ∀ d : D, d ∈ r → d.plain = true := fun r hr d hd => by
  obtain ⟨t, _, rfl⟩ := List.mem_map.1 hr
  unfold Tic.row at hd
  simp only [List.mem_cons, List.not_mem_nil, or_false] at hd
  rcases hd with rfl | rfl | rfl | rfl | rfl | rfl | rfl | rfl <;> rfl
theorem step_b {m : Mtr} {p : Prd} {b : Int} {r : Run} {x y : Cnt} {c : Cnd} (h : (betI m x y).2 ≠ 0) : stepI m p b r x y c = (Tic.zero, Run.zero, (betI m x y).2) := by unfold stepI; rw [if_neg h]
theorem step_f {m : Mtr} {p : Prd} {b : Int} {r : Run} {x y : Cnt} {c : Cnd} (h : (betI m x y).2 = 0) (h2 : (facI p c).2 ≠ 0) : stepI m p b r x y c = (Tic.zero, Run.zero, (facI p c).2) := by unfold stepI; rw [if_pos h, if_neg h2]
theorem step_a {m : Mtr} {p : Prd} {b : Int} {r : Run} {x y : Cnt} {c : Cnd} (h : (betI m x y).2 = 0) (h2 : (facI p c).2 = 0) (h3 : (addI r (betI m x y).1 (facI p c).1).2 ≠ 0) : stepI m p b r x y c = (Tic.zero, Run.zero, (addI r (betI m x y).1 (facI p c).1).2) := by unfold stepI; rw [if_pos h, if_pos h2, if_neg h3]
theorem step_o {m : Mtr} {p : Prd} {b : Int} {r : Run} {x y : Cnt} {c : Cnd} (h : (betI m x y).2 = 0) (h2 : (facI p c).2 = 0) (h3 : (addI r (betI m x y).1 (facI p c).1).2 = 0) : stepI m p b r x y c = (ticOf b x y c ((addI r (betI m x y).1 (facI p c).1).1.vol - r.vol), (addI r (betI m x y).1 (facI p c).1).1, 0) := by unfold stepI; rw [if_pos h, if_pos h2, if_pos h3]
theorem add_o {r : Run} {g f : Int} (h : (addI r g f).2 = 0) : RunOk (addI r g f).1 ∧ r.vol ≤ (addI r g f).1.vol := add_ok (r := r) (g := g) (f := f) (x := (addI r g f).1) (by rw [← h])
def CsT : Tbl := tc 55 (rowPu selBg) (tc 56 (rowPu selBet) (tc 57 (rowPu selFa) (tc 62 (rowPu selAd) T0)))
theorem CsT_ok : TblOk Tryd.prog CsT := tc_bg (tc_bet (tc_fa (tc_ad (T0_ok _))))
structure ChA where
  m : Mtr
  p : Prd
  b : Int
  cs : List Cnt
  l : List Cnd
def cntsOf : List (List D) → Option (List Cnt)
  | [] => some []
  | r :: l => match cntOf r, cntsOf l with
    | some c, some cs => some (c :: cs)
    | _, _ => Option.none
theorem cntsOf_map (l : List Cnt) : cntsOf (l.map Cnt.row) = some l := by
  induction l with
  | nil => rfl
  | cons c l ih => rw [List.map_cons, cntsOf, ih]; rfl
theorem cntsOf_eq : ∀ {l : List (List D)} {cs : List Cnt}, cntsOf l = some cs → l = cs.map Cnt.row
  | [], cs, h => by cases h; rfl
  | r :: l, cs, h => by
    rw [cntsOf] at h
    split at h
    · rename_i e e'; cases h; rw [List.map_cons, cntOf_eq e, cntsOf_eq e']
    · cases h
def cndsOf : List (List D) → Option (List Cnd)
  | [] => some []
  | r :: l => match cndOf r, cndsOf l with
    | some c, some cs => some (c :: cs)
    | _, _ => Option.none
theorem cndsOf_map (l : List Cnd) : cndsOf (l.map Cnd.row) = some l := by
  induction l with
  | nil => rfl
  | cons c l ih => rw [List.map_cons, cndsOf, ih]; rfl
theorem cndsOf_eq : ∀ {l : List (List D)} {cs : List Cnd}, cndsOf l = some cs → l = cs.map Cnd.row
  | [], cs, h => by cases h; rfl
  | r :: l, cs, h => by
    rw [cndsOf] at h
    split at h
    · rename_i e e'; cases h; rw [List.map_cons, cndOf_eq e, cndsOf_eq e']
    · cases h
def ticsOf : List (List D) → Option (List Tic)
  | [] => some []
  | r :: l => match tcOf r, ticsOf l with
    | some c, some cs => some (c :: cs)
    | _, _ => Option.none
theorem ticsOf_map (l : List Tic) : ticsOf (l.map Tic.row) = some l := by
  induction l with
  | nil => rfl
  | cons c l ih => rw [List.map_cons, ticsOf, ih]; rfl
theorem ticsOf_eq : ∀ {l : List (List D)} {cs : List Tic}, ticsOf l = some cs → l = cs.map Tic.row
  | [], cs, h => by cases h; rfl
  | r :: l, cs, h => by
    rw [ticsOf] at h
    split at h
    · rename_i e e'; cases h; rw [List.map_cons, tcOf_eq e, ticsOf_eq e']
    · cases h
def decCh : List D → Option ChA
  | [.agg a, .agg b, .v (.int .i64 n), .sl x, .sl y] => match mtrOf a, prdOf b, cntsOf x, cndsOf y with
    | some m, some p, some x, some y => some ⟨m, p, n, x, y⟩
    | _, _, _, _ => Option.none
  | _ => Option.none
theorem decCh_eq : ∀ l a, decCh l = some a → l = [a.m.enc, a.p.enc, di a.b, .sl (a.cs.map Cnt.row), .sl (a.l.map Cnd.row)] := fun l a h => by
  unfold decCh at h
  split at h
  · split at h
    · rename_i e1 e2 e3 e4; cases h; rw [mtrOf_eq e1, prdOf_eq e2, cntsOf_eq e3, cndsOf_eq e4]; rfl
    · cases h
  · cases h
def ChOk (a : ChA) : Prop := a.l.length ≤ 1000000 ∧ a.cs.length ≤ 1000000
def tA (l : List Tic) (j : Nat) : Tic := l.getD j Tic.zero
theorem t_get {l : List Tic} {j : Nat} (h : j < l.length) : (l.map Tic.row).getD j [] = [di (tA l j).ba, di (tA l j).fl, di (tA l j).fp, di (tA l j).tl, di (tA l j).tp, di (tA l j).te, di (tA l j).pr, di (tA l j).vol] := by
  unfold tA
  rw [List.getD_eq_getElem?_getD, List.getElem?_map, List.getD_eq_getElem?_getD, List.getElem?_eq_getElem h]
  rfl
theorem tA_get {l : List Tic} {j : Nat} (h : j < l.length) : l[j] = tA l j := by
  unfold tA
  rw [List.getD_eq_getElem?_getD, List.getElem?_eq_getElem h]
  rfl
def SmF (a b : List Tic) (j : Int) : List (Nat × D) := [(0, .sl (a.map Tic.row)), (1, .sl (b.map Tic.row)), (5, di j)]
set_option maxHeartbeats 16000000 in
theorem same_c (a b : List Tic) (hl : a.length ≤ 1000000) (nn : Nm) : CallsA Tryd.prog 23 [.sl (a.map Tic.row), .sl (b.map Tic.row)] Hp.none nn (Pu (db (decide (a = b))) Hp.none) := by
  obtain ⟨code, h1, h2⟩ := c23_ok
  refine callsA_of (T0_ok _) mixed (N := fun t => (0, t)) Tryd.func23 h1 h2 r23_ok [] false js_nil js_nil' (by simp [Tryd.f23]) ?_
  cases c0 : ((a.length : Int) != (b.length : Int)) with
  | true =>
    have e : decide (a = b) = false := decide_eq_false fun h => neq_b c0 (by rw [h])
    simp (maxSteps:=500000) only [↓vp, vv, ↓reduceIte, simprocAttr, c23, c23_5, r23, c0, e, Pu]
  | false =>
  have hab : a.length = b.length := by have := eq_b c0; omega
  simp (maxSteps:=500000) only [↓vp, vv, ↓reduceIte, simprocAttr, c23, c23_5, r23, c0]
  refine rng_loop a.length (fun j => ⟨fr (SmF a b (j : Nat)), Hp.none⟩) (fun j => ∀ i, i < j → tA a i = tA b i) (weak0 (by simp (maxSteps:=500000) only [↓vp, vv, ↓reduceIte, simprocAttr, coverS, SmF]) (by simp (maxSteps:=500000) only [↓vp, vv, ↓reduceIte, simprocAttr, refsF, SmF])) (fun i hi => by omega) (fun j hj hP => ?_) (fun hP => ?_)
  · have hj' : (j : Int) < a.length := by omega
    have hb : j < b.length := by omega
    have hb' : (j : Int) < b.length := by omega
    have w1 := idx_next (j := j) (by omega)
    have g1 := t_get hj
    have g2 := t_get hb
    cases c1 : ticE (tA a j) (tA b j) with
    | false =>
      have e : decide (a = b) = false := decide_eq_false fun h => by
        rw [ticE_eq] at c1
        exact of_decide_eq_false c1 (by rw [h])
      simp (maxSteps:=500000) only [↓vp, vv, ↓reduceIte, simprocAttr, c23_3, c23_2, c23_1, r23, SmF, hj', hj, hb, hb', g1, g2, Int.toNat_natCast, idx_nn, eqL_tic, c1, e, Pu]
    | true =>
      have e : tA a j = tA b j := by
        rw [ticE_eq] at c1
        exact of_decide_eq_true c1
      simp (maxSteps:=500000) only [↓vp, vv, ↓reduceIte, simprocAttr, c23_3, c23_2, c23_1, r23, SmF, hj', hj, hb, hb', g1, g2, Int.toNat_natCast, idx_nn, eqL_tic, c1]
      refine rng_next hj ?_ (fun i hi => ?_)
      · exact (weak_eq [] [] (SmF a b ((j + 1 : Nat) : Int)) (by simp (maxSteps:=500000) only [↓vp, vv, ↓reduceIte, simprocAttr, coverS, SmF, w1]) (by simp (maxSteps:=500000) only [↓vp, vv, ↓reduceIte, simprocAttr, refsF, SmF, w1]) (by simp (maxSteps:=500000) only [↓vp, vv, ↓reduceIte, simprocAttr, SmF, w1]) (by simp) (by simp (maxSteps:=500000) only [↓vp, vv, ↓reduceIte, simprocAttr, SmF, w1]; try rfl))
      · rcases Nat.lt_or_eq_of_le (Nat.lt_succ_iff.1 hi) with h1 | rfl
        · exact hP i h1
        · exact e
  · have e : decide (a = b) = true := decide_eq_true (List.ext_getElem hab fun i h1 h2 => by rw [tA_get h1, tA_get h2]; exact hP i h1)
    simp (maxSteps:=500000) only [↓vp, vv, ↓reduceIte, simprocAttr, c23_3, c23_4, r23, Int.lt_irrefl, SmF, e, Pu]
def decTT : List D → Option (List Tic × List Tic)
  | [.sl x, .sl y] => match ticsOf x, ticsOf y with
    | some a, some b => some (a, b)
    | _, _ => Option.none
  | _ => Option.none
theorem decTT_eq : ∀ l a, decTT l = some a → l = [.sl (a.1.map Tic.row), .sl (a.2.map Tic.row)] := fun l a h => by
  unfold decTT at h
  split at h
  · split at h
    · rename_i e e'; cases h; rw [ticsOf_eq e, ticsOf_eq e']
    · cases h
  · cases h
def SmOk (a : List Tic × List Tic) : Prop := a.1.length ≤ 1000000
def selSm := selX decTT SmOk fun a => db (decide (a.1 = a.2))
theorem tc_sm {T : Tbl} (hT : TblOk Tryd.prog T) : TblOk Tryd.prog (tc 23 (rowPu selSm) T) := tc_x f23_ok decTT_eq (fun a h nn => same_c _ _ h nn) hT
set_option maxHeartbeats 8000000 in
theorem Meter_s : SrcC Tryd.prog 12 [] MtrOk Mtr.enc := by
  intro i L at' nn ho
  obtain ⟨code, h1, h2⟩ := c12_ok
  refine callsA_of T2_ok mixed (N := fun t => (i.1 + 1, t)) Tryd.func12 h1 h2 r12_ok [i] false js_one js_one' (by simp [Tryd.f12]) ?_
  simp (maxSteps:=500000) only [↓vp, vv, ↓reduceIte, simprocAttr, c12, r12, T2, T1, selI, selPick, selRange, selName, ho, Mtr.enc, Mtr.row]
  intro a1 x hx a2 y hy a3 z hz
  simp only [IsMem, List.mem_cons, List.not_mem_nil, or_false] at hx hy hz
  refine ⟨a3.1, ⟨x, y, z⟩, a3.2, ⟨?_, ?_, ?_⟩, rfl, rfl⟩ <;> dsimp only <;> omega
def CndIn (c : Cnd) : Prop := cdOk c.te c.pr
set_option maxHeartbeats 8000000 in
theorem Condition_s : SrcC Tryd.prog 16 [] CndIn Cnd.enc := by
  intro i L at' nn ho
  obtain ⟨code, h1, h2⟩ := c16_ok
  refine callsA_of T2_ok mixed (N := fun t => (i.1 + 1, t)) Tryd.func16 h1 h2 r16_ok [i] false js_one js_one' (by simp [Tryd.f16]) ?_
  simp (maxSteps:=500000) only [↓vp, vv, ↓reduceIte, simprocAttr, c16, r16, T2, T1, selI, selPick, selRange, selName, ho, Cnd.enc, Cnd.row]
  intro a1 x hx a2 y hy
  simp only [IsMem, List.mem_cons, List.not_mem_nil, or_false] at hx hy
  refine ⟨a2.1, ⟨x, y⟩, a2.2, ?_, rfl, rfl⟩
  unfold CndIn cdOk
  dsimp only
  omega
structure PrdIn (n : Int) (p : Prd) : Prop where
  nm : p.nm = nm1B ⟨#[112]⟩ n
  de : 400 ≤ p.de ∧ p.de ≤ 1200
  ex : 0 ≤ p.ex ∧ p.ex ≤ 2000
  co : 0 ≤ p.co ∧ p.co ≤ 5000
  fr : 1 ≤ p.fr ∧ p.fr ≤ 2000
set_option maxHeartbeats 8000000 in
theorem Product_s (n : Int) (hn : 0 ≤ n ∧ n < 26) : SrcC Tryd.prog 13 [di n] (PrdIn n) Prd.enc := by
  intro i L at' nn ho
  obtain ⟨code, h1, h2⟩ := c13_ok
  refine callsA_of T2_ok mixed (N := fun t => (i.1 + 1, t)) Tryd.func13 h1 h2 r13_ok [i] false js_one js_one' (by simp [Tryd.f13]) ?_
  simp (maxSteps:=500000) only [↓vp, vv, ↓reduceIte, simprocAttr, c13, r13, T2, T1, selI, selPick, selRange, selName, ho, hn, Prd.enc, Prd.row]
  refine ⟨by decide, ?_⟩
  intro a0 w hw a1 x hx a2 y hy a3 z hz
  simp only [IsMem, RPost, List.mem_cons, List.not_mem_nil, or_false] at hw hx hy hz
  refine ⟨a3.1, ⟨nm1B ⟨#[112]⟩ n, w, x, y, z⟩, a3.2, ⟨rfl, ?_, ?_, ?_, ?_⟩, rfl, rfl⟩ <;> dsimp only <;> omega
theorem prd_ok {p : Prd} (h : PrdIn 0 p) : PrdOk p := ⟨by rw [h.nm]; decide, h.de, h.ex, h.co, h.fr⟩
def SrcO {α : Type} (i nn : Nm) (L : List (List D)) (sz : Nat) (row : α → List D) (post : List α → Prop) : D → Hp → Prop := fun v H' => ∃ at' g l, SrcOk L at' ∧ post l ∧ v = .own nn g 0 l.length ∧ H' = (Hp.none.put nn ⟨g, sz, l.map row⟩).put i (sE L at')
theorem SrcO_all {α : Type} (i nn : Nm) (L : List (List D)) (sz : Nat) (row : α → List D) (post : List α → Prop) (K : D → Hp → Prop) : (∀ v H', SrcO i nn L sz row post v H' → K v H') = ∀ (at' : SA L) (g : Nat) (l : List α), post l → K (.own nn g 0 l.length) ((Hp.none.put nn ⟨g, sz, l.map row⟩).put i (sE L at'.1)) :=
  propext ⟨fun h at' g l h2 => h _ _ ⟨at'.1, g, l, at'.2, h2, rfl, rfl⟩, fun h v H' ⟨at', g, l, h1, h2, e1, e2⟩ => by rw [e1, e2]; exact h ⟨at', h1⟩ g l h2⟩
theorem js_two (i nn : Nm) (e : En) : ∀ (j : Nm) (x : En), (Hp.none.put i e) j = some x → j ∈ [i, nn] := fun j x h => by
  by_cases hj : j = i
  · rw [hj]; exact List.mem_cons_self ..
  · rw [Hp.put_other _ hj] at h; cases h
theorem js_two' (i nn : Nm) (e : En) : ∀ j ∈ [i, nn], ((Hp.none.put i e) j).isSome = true ∨ j = nn := fun j h => by
  rcases List.mem_cons.1 h with h | h
  · rw [h, Hp.put_same]; exact .inl rfl
  · exact .inr (List.mem_singleton.1 h)
structure CtsOk (m : Mtr) (l : List Cnt) : Prop where
  len : 1 ≤ l.length ∧ l.length ≤ 6
  zero : cnA l 0 = ⟨0, 0⟩
  ok : ∀ j, j < l.length → (cnA l j).last = (cnA l j).pul % spI m.bits ∧ (0 ≤ (cnA l j).pul ∧ (cnA l j).pul ≤ 60000 * (j : Int))
  asc : ∀ j, j + 1 < l.length → (cnA l j).pul ≤ (cnA l (j + 1)).pul
theorem cn_left {l : List Cnt} {c : Cnt} {j : Nat} (h : j < l.length) : cnA (l ++ [c]) j = cnA l j := by
  unfold cnA
  rw [List.getD_eq_getElem?_getD, List.getD_eq_getElem?_getD, List.getElem?_append_left h]
theorem cn_right (l : List Cnt) (c : Cnt) : cnA (l ++ [c]) l.length = c := by
  unfold cnA
  rw [List.getD_eq_getElem?_getD, List.getElem?_append_right (Nat.le_refl _), Nat.sub_self]
  rfl
theorem spI_bd (m : Mtr) : 65536 ≤ spI m.bits ∧ spI m.bits ≤ 4294967296 := by unfold spI; split <;> omega
theorem cts_next {m : Mtr} {l : List Cnt} (h : CtsOk m l) (hl : l.length < 6) {c : Cnt} (h0 : c.last = c.pul % spI m.bits) (h3 : (cnA l (l.length - 1)).pul ≤ c.pul) (h4 : c.pul ≤ (cnA l (l.length - 1)).pul + 60000) : CtsOk m (l ++ [c]) := by
  have h1 := h.len
  have h2 := (h.ok (l.length - 1) (by omega)).2
  refine ⟨by simp; omega, by rw [cn_left (by omega)]; exact h.zero, fun j hj => ?_, fun j hj => ?_⟩
  · simp only [List.length_append, List.length_cons, List.length_nil] at hj
    by_cases hjl : j < l.length
    · rw [cn_left hjl]; exact h.ok j hjl
    · obtain rfl : j = l.length := by omega
      rw [cn_right]
      exact ⟨h0, by omega, by omega⟩
  · simp only [List.length_append, List.length_cons, List.length_nil] at hj
    by_cases hjl : j + 1 < l.length
    · rw [cn_left hjl, cn_left (by omega)]; exact h.asc j hjl
    · have he : l.length = j + 1 := by omega
      have hr := cn_right l c
      rw [he] at hr
      rw [hr, cn_left (by omega)]
      rw [he, Nat.add_sub_cancel] at h3
      exact h3
def CcF (i nn : Nm) (g n : Nat) (k : Int) : List (Nat × D) := [(0, .ptr i 0 0 0), (3, .ptr (i.1 + 1, 3) 0 0 0), (5, .ptr (i.1 + 1, 5) 0 0 0), (6, .own nn g 0 n), (7, di k)]
def CcH (i nn : Nm) (L : List (List D)) (at' : Int) (m : Mtr) (c : Cnt) (g : Nat) (l : List Cnt) : Hp := (((Hp.none.put nn ⟨g, 2, l.map Cnt.row⟩).put (i.1 + 1, 5) ⟨0, 2, [c.row]⟩).put (i.1 + 1, 3) ⟨0, 3, [m.row]⟩).put i (sE L at')
def CcI (i nn : Nm) (L : List (List D)) (m : Mtr) (k : Nat) (s : St) : Prop := ∃ at' g l, SrcOk L at' ∧ CtsOk m l ∧ l.length + k ≤ 6 ∧ s = ⟨fr (CcF i nn g l.length k), CcH i nn L at' m (cnA l (l.length - 1)) g l⟩
set_option maxHeartbeats 8000000 in
theorem counts_o (m : Mtr) (hm : MtrOk m) : ∀ i L at' nn, SrcOk L at' → nn.1 ≤ i.1 → nn ≠ i → CallsA Tryd.prog 15 [.ptr i 0 0 0, m.enc] (Hp.none.put i (sE L at')) nn (SrcO i nn L 2 Cnt.row (CtsOk m)) := by
  intro i L at' nn ho hn1 hn2
  have hn3 : ¬ i = nn := fun e => hn2 e.symm
  have hn4 : ∀ t : Nat, ¬ nn = (i.1 + 1, t) := fun t e => by rw [e] at hn1; dsimp only at hn1; omega
  have hn5 : ∀ t : Nat, ¬ (i.1 + 1, t) = nn := fun t e => hn4 t e.symm
  have hn6 : ¬ nn = i := hn2
  obtain ⟨code, h1, h2⟩ := c15_ok
  refine callsA_of T2_ok mixed (N := fun t => if t = 10 then nn else (i.1 + 1, t)) Tryd.func15 h1 h2 r15_ok [i, nn] true (js_two i nn _) (js_two' i nn _) (by simp [Tryd.f15]) ?_
  simp (maxSteps:=500000) only [↓vp, vv, ↓reduceIte, simprocAttr, hn3, hn4, hn5, hn6, c15, T2, T1, selI, selPick, ho, Mtr.enc]
  refine ⟨rfl, fun a1 n hn => ?_⟩
  unfold NPost at hn
  have hz : CtsOk m [⟨0, 0⟩] := ⟨by simp, rfl, fun j hj => by
    obtain rfl : j = 0 := by simp at hj; exact hj
    exact ⟨by show (0 : Int) = 0 % spI m.bits; rw [Int.zero_emod], by decide, by decide⟩, fun j hj => by simp at hj⟩
  rw [vc_loop]
  refine ⟨CcI i nn L m, ⟨n.toNat, _, (weak_eq [] [i, (i.1 + 1, 3), (i.1 + 1, 5), nn] (CcF i nn 0 1 n) (by simp (maxSteps:=500000) only [↓vp, vv, ↓reduceIte, simprocAttr, coverS, CcF, Mtr.row, Cnt.row, hn3, hn4, hn5, hn6]) (by simp (maxSteps:=500000) only [↓vp, vv, ↓reduceIte, simprocAttr, refsF, CcF, Mtr.row, Cnt.row, hn3, hn4, hn5, hn6]) (by simp (maxSteps:=500000) only [↓vp, vv, ↓reduceIte, simprocAttr, CcF, Mtr.row, Cnt.row, hn3, hn4, hn5, hn6]) (by simp) (by simp (maxSteps:=500000) only [↓vp, vv, ↓reduceIte, simprocAttr, CcF, Mtr.row, Cnt.row, hn3, hn4, hn5, hn6]; try rfl)), a1.1, 0, [⟨0, 0⟩], a1.2, hz, by simp; omega, by rw [show ((n.toNat : Nat) : Int) = n by omega]; rfl⟩, ?_⟩
  rintro k s ⟨at1, g, l, o1, hl, hlk, rfl⟩
  have hlen := hl.len
  by_cases hk : (0 : Int) < k
  · have y1 : (l.length + 1) * 16 ≤ 140737488355328 := by omega
    have y2 : l.length + 1 ≤ 4611686018427387904 := by omega
    have w1 : IntKind.i64.wrap ((k : Int) - 1) = ((k - 1 : Nat) : Int) := by rw [wrap_i (by omega)]; omega
    have sb := spI_bd m
    have b1 : IntKind.i64.wrap (1 * 2 ^ min (IntKind.u64.wrap m.bits).toNat IntKind.i64.bits) = spI m.bits := by
      rcases hm.bits with e | e <;> rw [e] <;> decide
    have b0 : 0 ≤ IntKind.u64.wrap m.bits := by rcases hm.bits with e | e <;> rw [e] <;> decide
    have hc := (hl.ok (l.length - 1) (by omega)).2
    have nx := fun c => cts_next hl (c := c) (by omega)
    generalize hcc : cnA l (l.length - 1) = c at hc nx
    have nz : spI m.bits ≠ 0 := by omega
    simp (maxSteps:=500000) only [↓vp, vv, ↓reduceIte, simprocAttr, hn3, hn4, hn5, hn6, c15_2, c15_1, T2, T1, selI, selPick, o1, CcF, CcH, hcc, hk, y1, y2, Mtr.row, Cnt.row]
    intro a2 x hx
    simp only [IsMem, List.mem_cons, List.not_mem_nil, or_false] at hx
    have w2 : IntKind.i64.wrap (c.pul + x) = c.pul + x := wrap_i (by omega)
    have e1 : (c.pul + x).tmod (spI m.bits) = (c.pul + x) % spI m.bits := Int.tmod_eq_emod_of_nonneg (by omega)
    have hq := cn_right l (⟨(c.pul + x) % spI m.bits, c.pul + x⟩ : Cnt)
    refine ⟨b0, by rw [b1]; exact nz, ?_⟩
    refine ⟨k - 1, ⟨fr (CcF i nn (g + 1) (l.length + 1) ((k - 1 : Nat) : Int)), CcH i nn L a2.1 m ⟨(c.pul + x) % spI m.bits, c.pul + x⟩ (g + 1) (l ++ [⟨(c.pul + x) % spI m.bits, c.pul + x⟩])⟩, by omega, ?_, a2.1, g + 1, l ++ [⟨(c.pul + x) % spI m.bits, c.pul + x⟩], a2.2, nx _ rfl (by dsimp only; omega) (by dsimp only; omega), by simp; omega, ?_⟩
    · exact (weak_eq [] [i, (i.1 + 1, 3), (i.1 + 1, 5), nn] (CcF i nn (g + 1) (l.length + 1) ((k - 1 : Nat) : Int)) (by simp (maxSteps:=500000) only [↓vp, vv, ↓reduceIte, simprocAttr, coverS, CcF, CcH, Mtr.row, Cnt.row, hn3, hn4, hn5, hn6, w1, w2, e1, b1, List.map_append, List.map_cons, List.map_nil]) (by simp (maxSteps:=500000) only [↓vp, vv, ↓reduceIte, simprocAttr, refsF, CcF, CcH, Mtr.row, Cnt.row, hn3, hn4, hn5, hn6, w1, w2, e1, b1, List.map_append, List.map_cons, List.map_nil]) (by simp (maxSteps:=500000) only [↓vp, vv, ↓reduceIte, simprocAttr, CcF, CcH, Mtr.row, Cnt.row, hn3, hn4, hn5, hn6, w1, w2, e1, b1, List.map_append, List.map_cons, List.map_nil]) (by simp) (by simp (maxSteps:=500000) only [↓vp, vv, ↓reduceIte, simprocAttr, CcF, CcH, Mtr.row, Cnt.row, hn3, hn4, hn5, hn6, w1, w2, e1, b1, List.map_append, List.map_cons, List.map_nil]; try rfl))
    · simp [CcF, CcH, Mtr.row, Cnt.row, sE, hq]
  · have tk : (l.map Cnt.row).take l.length = l.map Cnt.row := List.take_of_length_le (by simp)
    simp (maxSteps:=500000) only [↓vp, vv, ↓reduceIte, simprocAttr, hn3, hn4, hn5, hn6, c15_2, c15_3, r15, T2, T1, o1, CcF, CcH, hk, tk]
    exact ⟨fun j hj => rfl, at1, g, l, o1, hl, rfl, rfl⟩
end Go.Proofs.YtehmmnnmkapfeaaDoor
