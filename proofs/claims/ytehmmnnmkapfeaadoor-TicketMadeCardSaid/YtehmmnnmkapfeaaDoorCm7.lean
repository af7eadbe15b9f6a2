/- TicketMade: CmF CodeCT. -/
import Derived.Test.YtehmmnnmkapfeaaDoorCm6
import Derived.Test.YtehmmnnmkapfeaaDoorCm3
import Derived.Test.YtehmmnnmkapfeaaDoorProg
set_option linter.unusedSimpArgs false
set_option linter.unusedVariables false
set_option maxRecDepth 100000

/- Factors, standard volumes, sums, of both. -/
namespace Go.Proofs.YtehmmnnmkapfeaaDoor
open Go
def cndOf : List D → Option Cnd
  | [.v (.int .i64 a), .v (.int .i64 b)] => some ⟨a, b⟩
  | _ => Option.none
theorem cndOf_x (m : Cnd) : cndOf [di m.te, di m.pr] = some m := rfl
theorem cndOf_eq {l : List D} {m : Cnd} (h : cndOf l = some m) : l = m.row := by unfold cndOf at h; split at h <;> cases h; rfl
def runOf : List D → Option Run
  | [.v (.int .i64 a), .v (.int .i64 b)] => some ⟨a, b⟩
  | _ => Option.none
theorem runOf_x (m : Run) : runOf [di m.vol, di m.rest] = some m := rfl
theorem runOf_eq {l : List D} {m : Run} (h : runOf l = some m) : l = m.row := by unfold runOf at h; split at h <;> cases h; rfl
def decPC : List D → Option (Prd × Cnd)
  | [.agg a, .agg b] => match prdOf a, cndOf b with
    | some m, some c => some (m, c)
    | _, _ => Option.none
  | _ => Option.none
theorem decPC_eq : ∀ l a, decPC l = some a → l = [a.1.enc, a.2.enc] := fun l a h => by
  unfold decPC at h
  split at h
  · split at h
    · rename_i e e'; cases h; rw [prdOf_eq e, cndOf_eq e']; rfl
    · cases h
  · cases h
def decRII : List D → Option (Run × Int × Int)
  | [.agg a, .v (.int .i64 x), .v (.int .i64 y)] => match runOf a with
    | some m => some (m, x, y)
    | _ => Option.none
  | _ => Option.none
theorem decRII_eq : ∀ l a, decRII l = some a → l = [a.1.enc, di a.2.1, di a.2.2] := fun l a h => by
  unfold decRII at h
  split at h
  · split at h
    · rename_i e; cases h; rw [runOf_eq e]; rfl
    · cases h
  · cases h
def HtOk (p : Prd × Cnd) : Prop := PrdOk p.1 ∧ cdOk p.2.te p.2.pr
theorem heat_c (p : Prd) (c : Cnd) (h : HtOk (p, c)) (nn : Nm) : CallsA Tryd.prog 94 [p.enc, c.enc] Hp.none nn (Pu (di (fHeat p.ex c.te)) Hp.none) := by
  obtain ⟨code, h1, h2⟩ := c94_ok
  refine callsA_of (tc_hf (T0_ok _)) mixed (N := fun t => (0, t)) Tryd.func94 h1 h2 r94_ok [] false js_nil js_nil' (by simp [Tryd.f94]) ?_
  have hc := h.2.1
  obtain ⟨b1, b2, b3⟩ := heat_bd h.1.ex hc
  dsimp only at hc b1 b2 b3
  unfold fHeat at b3
  have w1 : IntKind.i64.wrap (c.te - 150) = c.te - 150 := wrap_i (by omega)
  have w2 : IntKind.i64.wrap (p.ex * (c.te - 150)) = p.ex * (c.te - 150) := wrap_i (by omega)
  have w3 : IntKind.i64.wrap (1000000 - hf (p.ex * (c.te - 150)) 10) = 1000000 - hf (p.ex * (c.te - 150)) 10 := wrap_i (by omega)
  have dv : DvOk (p.ex * (c.te - 150), 10) := ⟨by dsimp only; omega, by dsimp only; omega⟩
  simp (maxSteps:=500000) only [↓vp, vv, ↓reduceIte, simprocAttr, c94, r94, Prd.enc, Prd.row, Cnd.enc, Cnd.row, selHf, selX, decII, w1, w2, w3, dv, fHeat, Pu]
theorem press_c (p : Prd) (c : Cnd) (h : HtOk (p, c)) (nn : Nm) : CallsA Tryd.prog 95 [p.enc, c.enc] Hp.none nn (Pu (di (fPress p.co c.pr)) Hp.none) := by
  obtain ⟨code, h1, h2⟩ := c95_ok
  refine callsA_of (tc_hf (T0_ok _)) mixed (N := fun t => (0, t)) Tryd.func95 h1 h2 r95_ok [] false js_nil js_nil' (by simp [Tryd.f95]) ?_
  have hc := h.2.2
  obtain ⟨b1, b2, b3⟩ := press_bd h.1.co hc
  dsimp only at hc b1 b2 b3
  unfold fPress at b3
  have w2 : IntKind.i64.wrap (p.co * c.pr) = p.co * c.pr := wrap_i (by omega)
  have w3 : IntKind.i64.wrap (1000000 + hf (p.co * c.pr) 1000) = 1000000 + hf (p.co * c.pr) 1000 := wrap_i (by omega)
  have dv : DvOk (p.co * c.pr, 1000) := ⟨by dsimp only; omega, by dsimp only; omega⟩
  simp (maxSteps:=500000) only [↓vp, vv, ↓reduceIte, simprocAttr, c95, r95, Prd.enc, Prd.row, Cnd.enc, Cnd.row, selHf, selX, decII, w2, w3, dv, fPress, Pu]
def selHt := selX decPC HtOk fun q => di (fHeat q.1.ex q.2.te)
def selPs := selX decPC HtOk fun q => di (fPress q.1.co q.2.pr)
theorem tc_ht {T : Tbl} (hT : TblOk Tryd.prog T) : TblOk Tryd.prog (tc 94 (rowPu selHt) T) := tc_x f94_ok decPC_eq (fun a h nn => heat_c _ _ h nn) hT
theorem tc_ps {T : Tbl} (hT : TblOk Tryd.prog T) : TblOk Tryd.prog (tc 95 (rowPu selPs) T) := tc_x f95_ok decPC_eq (fun a h nn => press_c _ _ h nn) hT
theorem right_c (g f : Int) (nn : Nm) : CallsA Tryd.prog 97 [di g, di f] Hp.none nn (Pu (db (vfV g f)) Hp.none) := by
  obtain ⟨code, h1, h2⟩ := c97_ok
  refine callsA_of (T0_ok _) mixed (N := fun t => (0, t)) Tryd.func97 h1 h2 r97_ok [] false js_nil js_nil' (by simp [Tryd.f97]) ?_
  cases c0 : decide (0 ≤ g) with
  | false => have hf := vfV_f fun h : vfOk g f => of_decide_eq_false c0 h.1.1; simp (maxSteps:=500000) only [↓vp, vv, ↓reduceIte, simprocAttr, c97, r97, c0, hf, Pu]
  | true =>
  cases c1 : decide (g ≤ 1099511627776) with
  | false => have hf := vfV_f fun h : vfOk g f => of_decide_eq_false c1 h.1.2; simp (maxSteps:=500000) only [↓vp, vv, ↓reduceIte, simprocAttr, c97, r97, c0, c1, hf, Pu]
  | true =>
  cases c2 : decide (1 ≤ f) with
  | false => have hf := vfV_f fun h : vfOk g f => of_decide_eq_false c2 h.2.1; simp (maxSteps:=500000) only [↓vp, vv, ↓reduceIte, simprocAttr, c97, r97, c0, c1, c2, hf, Pu]
  | true =>
  cases c3 : decide (f ≤ 2000000) with
  | false => have hf := vfV_f fun h : vfOk g f => of_decide_eq_false c3 h.2.2; simp (maxSteps:=500000) only [↓vp, vv, ↓reduceIte, simprocAttr, c97, r97, c0, c1, c2, c3, hf, Pu]
  | true =>
  have ht := vfV_t (g := g) (f := f) ⟨⟨of_decide_eq_true c0, of_decide_eq_true c1⟩, of_decide_eq_true c2, of_decide_eq_true c3⟩
  simp (maxSteps:=500000) only [↓vp, vv, ↓reduceIte, simprocAttr, c97, r97, c0, c1, c2, c3, ht, Pu]
theorem proper_c (g f : Int) (nn : Nm) : CallsA Tryd.prog 100 [di g, di f] Hp.none nn (Pu (db (vfV g f)) Hp.none) := by
  obtain ⟨code, h1, h2⟩ := c100_ok
  refine callsA_of (T0_ok _) mixed (N := fun t => (0, t)) Tryd.func100 h1 h2 r100_ok [] false js_nil js_nil' (by simp [Tryd.f100]) ?_
  cases c0 : decide (0 ≤ g) with
  | false => have hf := vfV_f fun h : vfOk g f => of_decide_eq_false c0 h.1.1; simp (maxSteps:=500000) only [↓vp, vv, ↓reduceIte, simprocAttr, c100, r100, c0, hf, Pu]
  | true =>
  cases c1 : decide (g ≤ 1099511627776) with
  | false => have hf := vfV_f fun h : vfOk g f => of_decide_eq_false c1 h.1.2; simp (maxSteps:=500000) only [↓vp, vv, ↓reduceIte, simprocAttr, c100, r100, c0, c1, hf, Pu]
  | true =>
  cases c2 : decide (1 ≤ f) with
  | false => have hf := vfV_f fun h : vfOk g f => of_decide_eq_false c2 h.2.1; simp (maxSteps:=500000) only [↓vp, vv, ↓reduceIte, simprocAttr, c100, r100, c0, c1, c2, hf, Pu]
  | true =>
  cases c3 : decide (f ≤ 2000000) with
  | false => have hf := vfV_f fun h : vfOk g f => of_decide_eq_false c3 h.2.2; simp (maxSteps:=500000) only [↓vp, vv, ↓reduceIte, simprocAttr, c100, r100, c0, c1, c2, c3, hf, Pu]
  | true =>
  have ht := vfV_t (g := g) (f := f) ⟨⟨of_decide_eq_true c0, of_decide_eq_true c1⟩, of_decide_eq_true c2, of_decide_eq_true c3⟩
  simp (maxSteps:=500000) only [↓vp, vv, ↓reduceIte, simprocAttr, c100, r100, c0, c1, c2, c3, ht, Pu]
def selRi := selX decII tt fun q => db (vfV q.1 q.2)
theorem tc_ri {T : Tbl} (hT : TblOk Tryd.prog T) : TblOk Tryd.prog (tc 97 (rowPu selRi) T) := tc_x f97_ok decII_eq (fun a h nn => right_c _ _ nn) hT
theorem tc_rri {T : Tbl} (hT : TblOk Tryd.prog T) : TblOk Tryd.prog (tc 100 (rowPu selRi) T) := tc_x f100_ok decII_eq (fun a h nn => proper_c _ _ nn) hT
set_option maxHeartbeats 8000000 in
theorem std_c (g f : Int) (nn : Nm) : CallsA Tryd.prog 58 [di g, di f] Hp.none nn (Pu (ie (stdI g f)) Hp.none) := by
  obtain ⟨code, h1, h2⟩ := c58_ok
  refine callsA_of (tc_ri (tc_hf (T0_ok _))) mixed (N := fun t => (0, t)) Tryd.func58 h1 h2 r58_ok [] false js_nil js_nil' (by simp [Tryd.f58]) ?_
  cases c1 : vfV g f with
  | false =>
    have e : stdI g f = (0, 1) := by unfold stdI; rw [c1]; rfl
    simp (maxSteps:=500000) only [↓vp, vv, ↓reduceIte, simprocAttr, c58, r58, c58_1, selRi, selHf, selX, decII, tt, ie, c1, e, Pu]
  | true =>
    have e : stdI g f = (stdV g f, 0) := by unfold stdI; rw [c1]; rfl
    have m := vf_mul (vfV_o c1)
    have w : IntKind.i64.wrap (g * f) = g * f := wrap_i (by omega)
    have dv : DvOk (g * f, 1000000) := ⟨by dsimp only; omega, by dsimp only; omega⟩
    simp (maxSteps:=500000) only [↓vp, vv, ↓reduceIte, simprocAttr, c58, r58, c58_1, selRi, selHf, selX, decII, tt, ie, c1, w, dv, e, stdV, Pu]
set_option maxHeartbeats 8000000 in
theorem rstd_c (g f : Int) (nn : Nm) : CallsA Tryd.prog 61 [di g, di f] Hp.none nn (Pu (ie (stdI g f)) Hp.none) := by
  obtain ⟨code, h1, h2⟩ := c61_ok
  refine callsA_of (tc_rri (tc_rhf (T0_ok _))) mixed (N := fun t => (0, t)) Tryd.func61 h1 h2 r61_ok [] false js_nil js_nil' (by simp [Tryd.f61]) ?_
  cases c1 : vfV g f with
  | false =>
    have e : stdI g f = (0, 1) := by unfold stdI; rw [c1]; rfl
    simp (maxSteps:=500000) only [↓vp, vv, ↓reduceIte, simprocAttr, c61, r61, c61_1, selRi, selHf, selX, decII, tt, ie, c1, e, Pu]
  | true =>
    have e : stdI g f = (stdV g f, 0) := by unfold stdI; rw [c1]; rfl
    have m := vf_mul (vfV_o c1)
    have w : IntKind.i64.wrap (g * f) = g * f := wrap_i (by omega)
    have dv : DvOk (g * f, 1000000) := ⟨by dsimp only; omega, by dsimp only; omega⟩
    simp (maxSteps:=500000) only [↓vp, vv, ↓reduceIte, simprocAttr, c61, r61, c61_1, selRi, selHf, selX, decII, tt, ie, c1, w, dv, e, stdV, Pu]
def selSd := selX decII tt fun q => ie (stdI q.1 q.2)
theorem tc_sd {T : Tbl} (hT : TblOk Tryd.prog T) : TblOk Tryd.prog (tc 58 (rowPu selSd) T) := tc_x f58_ok decII_eq (fun a h nn => std_c _ _ nn) hT
theorem tc_rsd {T : Tbl} (hT : TblOk Tryd.prog T) : TblOk Tryd.prog (tc 61 (rowPu selSd) T) := tc_x f61_ok decII_eq (fun a h nn => rstd_c _ _ nn) hT
def re2 (p : Run × Int) : D := .tup [p.1.enc, di p.2]
set_option maxHeartbeats 8000000 in
theorem add_c (r : Run) (g f : Int) (nn : Nm) : CallsA Tryd.prog 62 [r.enc, di g, di f] Hp.none nn (Pu (re2 (addI r g f)) Hp.none) := by
  obtain ⟨code, h1, h2⟩ := c62_ok
  refine callsA_of (tc_ri (T0_ok _)) mixed (N := fun t => (0, t)) Tryd.func62 h1 h2 r62_ok [] false js_nil js_nil' (by simp [Tryd.f62]) ?_
  have ez : ∀ h : rV r = false, addI r g f = (Run.zero, 9) := fun h => by unfold addI; rw [h]; rfl
  cases c0 : decide (r.vol < 0) with
  | true =>
    have e := ez (rV_f fun h => by have h1 := h.vol; have h2 := of_decide_eq_true c0; omega)
    simp (maxSteps:=500000) only [↓vp, vv, ↓reduceIte, simprocAttr, c62, r62, c62_1, c62_2, c62_3, r62, Run.enc, Run.row, selRi, selX, decII, tt, re2, c0, e, Run.zero, Pu]
  | false =>
  cases c1 : decide (1099511627776 < r.vol) with
  | true =>
    have e := ez (rV_f fun h => by have h1 := h.vol; have h2 := of_decide_eq_true c1; omega)
    simp (maxSteps:=500000) only [↓vp, vv, ↓reduceIte, simprocAttr, c62, r62, c62_1, c62_2, c62_3, r62, Run.enc, Run.row, selRi, selX, decII, tt, re2, c0, c1, e, Run.zero, Pu]
  | false =>
  cases c2 : decide (r.rest < 0) with
  | true =>
    have e := ez (rV_f fun h => by have h1 := h.rest; have h2 := of_decide_eq_true c2; omega)
    simp (maxSteps:=500000) only [↓vp, vv, ↓reduceIte, simprocAttr, c62, r62, c62_1, c62_2, c62_3, r62, Run.enc, Run.row, selRi, selX, decII, tt, re2, c0, c1, c2, e, Run.zero, Pu]
  | false =>
  cases c3 : decide (1000000 ≤ r.rest) with
  | true =>
    have e := ez (rV_f fun h => by have h1 := h.rest; have h2 := of_decide_eq_true c3; omega)
    simp (maxSteps:=500000) only [↓vp, vv, ↓reduceIte, simprocAttr, c62, r62, c62_1, c62_2, c62_3, r62, Run.enc, Run.row, selRi, selX, decII, tt, re2, c0, c1, c2, c3, e, Run.zero, Pu]
  | false =>
  have hr := rV_t (r := r) ⟨⟨by have := of_decide_eq_false c0; omega, by have := of_decide_eq_false c1; omega⟩, by have := of_decide_eq_false c2; omega, by have := of_decide_eq_false c3; omega⟩
  have hv := (rV_o hr).vol
  have hs := (rV_o hr).rest
  cases c4 : vfV g f with
  | false =>
    have e : addI r g f = (Run.zero, 1) := by unfold addI; rw [hr, c4]; rfl
    simp (maxSteps:=500000) only [↓vp, vv, ↓reduceIte, simprocAttr, c62, r62, c62_1, c62_2, c62_3, r62, Run.enc, Run.row, selRi, selX, decII, tt, re2, c0, c1, c2, c3, c4, e, Run.zero, Pu]
  | true =>
  have m := vf_mul (vfV_o c4)
  have w1 : IntKind.i64.wrap (g * f) = g * f := wrap_i (by omega)
  have w2 : IntKind.i64.wrap (g * f + r.rest) = g * f + r.rest := wrap_i (by omega)
  have k1 : (g * f + r.rest).tdiv 1000000 = (g * f + r.rest) / 1000000 := Int.tdiv_eq_ediv_of_nonneg (by omega)
  have k2 : (g * f + r.rest).tmod 1000000 = (g * f + r.rest) % 1000000 := Int.tmod_eq_emod_of_nonneg (by omega)
  have w3 : IntKind.i64.wrap ((g * f + r.rest) / 1000000) = (g * f + r.rest) / 1000000 := wrap_i (by omega)
  have w4 : IntKind.i64.wrap (r.vol + (g * f + r.rest) / 1000000) = r.vol + (g * f + r.rest) / 1000000 := wrap_i (by omega)
  have w5 : IntKind.i64.wrap ((g * f + r.rest) % 1000000) = (g * f + r.rest) % 1000000 := wrap_i (by omega)
  cases c5 : decide (1099511627776 < r.vol + (g * f + r.rest) / 1000000) with
  | true =>
    have e : addI r g f = (Run.zero, 4) := by unfold addI; rw [hr, c4, if_pos rfl, if_pos rfl, if_neg (by have := of_decide_eq_true c5; omega)]
    simp (maxSteps:=500000) only [↓vp, vv, ↓reduceIte, simprocAttr, c62, r62, c62_1, c62_2, c62_3, r62, Run.enc, Run.row, selRi, selX, decII, tt, re2, c0, c1, c2, c3, c4, w1, w2, k1, k2, w3, w4, w5, c5, e, Run.zero, Pu]
  | false =>
    have e : addI r g f = (⟨r.vol + (g * f + r.rest) / 1000000, (g * f + r.rest) % 1000000⟩, 0) := by unfold addI; rw [hr, c4, if_pos rfl, if_pos rfl, if_pos (by have := of_decide_eq_false c5; omega)]
    simp (maxSteps:=500000) only [↓vp, vv, ↓reduceIte, simprocAttr, c62, r62, c62_1, c62_2, c62_3, r62, Run.enc, Run.row, selRi, selX, decII, tt, re2, c0, c1, c2, c3, c4, w1, w2, k1, k2, w3, w4, w5, c5, e, Pu]
set_option maxHeartbeats 8000000 in
theorem radd_c (r : Run) (g f : Int) (nn : Nm) : CallsA Tryd.prog 65 [r.enc, di g, di f] Hp.none nn (Pu (re2 (addI r g f)) Hp.none) := by
  obtain ⟨code, h1, h2⟩ := c65_ok
  refine callsA_of (tc_rri (T0_ok _)) mixed (N := fun t => (0, t)) Tryd.func65 h1 h2 r65_ok [] false js_nil js_nil' (by simp [Tryd.f65]) ?_
  have ez : ∀ h : rV r = false, addI r g f = (Run.zero, 9) := fun h => by unfold addI; rw [h]; rfl
  cases c0 : decide (r.vol < 0) with
  | true =>
    have e := ez (rV_f fun h => by have h1 := h.vol; have h2 := of_decide_eq_true c0; omega)
    simp (maxSteps:=500000) only [↓vp, vv, ↓reduceIte, simprocAttr, c65, r65, c65_1, c65_2, c65_3, r65, Run.enc, Run.row, selRi, selX, decII, tt, re2, c0, e, Run.zero, Pu]
  | false =>
  cases c1 : decide (1099511627776 < r.vol) with
  | true =>
    have e := ez (rV_f fun h => by have h1 := h.vol; have h2 := of_decide_eq_true c1; omega)
    simp (maxSteps:=500000) only [↓vp, vv, ↓reduceIte, simprocAttr, c65, r65, c65_1, c65_2, c65_3, r65, Run.enc, Run.row, selRi, selX, decII, tt, re2, c0, c1, e, Run.zero, Pu]
  | false =>
  cases c2 : decide (r.rest < 0) with
  | true =>
    have e := ez (rV_f fun h => by have h1 := h.rest; have h2 := of_decide_eq_true c2; omega)
    simp (maxSteps:=500000) only [↓vp, vv, ↓reduceIte, simprocAttr, c65, r65, c65_1, c65_2, c65_3, r65, Run.enc, Run.row, selRi, selX, decII, tt, re2, c0, c1, c2, e, Run.zero, Pu]
  | false =>
  cases c3 : decide (999999 < r.rest) with
  | true =>
    have e := ez (rV_f fun h => by have h1 := h.rest; have h2 := of_decide_eq_true c3; omega)
    simp (maxSteps:=500000) only [↓vp, vv, ↓reduceIte, simprocAttr, c65, r65, c65_1, c65_2, c65_3, r65, Run.enc, Run.row, selRi, selX, decII, tt, re2, c0, c1, c2, c3, e, Run.zero, Pu]
  | false =>
  have hr := rV_t (r := r) ⟨⟨by have := of_decide_eq_false c0; omega, by have := of_decide_eq_false c1; omega⟩, by have := of_decide_eq_false c2; omega, by have := of_decide_eq_false c3; omega⟩
  have hv := (rV_o hr).vol
  have hs := (rV_o hr).rest
  cases c4 : vfV g f with
  | false =>
    have e : addI r g f = (Run.zero, 1) := by unfold addI; rw [hr, c4]; rfl
    simp (maxSteps:=500000) only [↓vp, vv, ↓reduceIte, simprocAttr, c65, r65, c65_1, c65_2, c65_3, r65, Run.enc, Run.row, selRi, selX, decII, tt, re2, c0, c1, c2, c3, c4, e, Run.zero, Pu]
  | true =>
  have m := vf_mul (vfV_o c4)
  have w1 : IntKind.i64.wrap (g * f) = g * f := wrap_i (by omega)
  have w2 : IntKind.i64.wrap (g * f + r.rest) = g * f + r.rest := wrap_i (by omega)
  have k1 : (g * f + r.rest).tdiv 1000000 = (g * f + r.rest) / 1000000 := Int.tdiv_eq_ediv_of_nonneg (by omega)
  have k2 : (g * f + r.rest).tmod 1000000 = (g * f + r.rest) % 1000000 := Int.tmod_eq_emod_of_nonneg (by omega)
  have w3 : IntKind.i64.wrap ((g * f + r.rest) / 1000000) = (g * f + r.rest) / 1000000 := wrap_i (by omega)
  have w4 : IntKind.i64.wrap (r.vol + (g * f + r.rest) / 1000000) = r.vol + (g * f + r.rest) / 1000000 := wrap_i (by omega)
  have w5 : IntKind.i64.wrap ((g * f + r.rest) % 1000000) = (g * f + r.rest) % 1000000 := wrap_i (by omega)
  cases c5 : decide (1099511627776 < r.vol + (g * f + r.rest) / 1000000) with
  | true =>
    have e : addI r g f = (Run.zero, 4) := by unfold addI; rw [hr, c4, if_pos rfl, if_pos rfl, if_neg (by have := of_decide_eq_true c5; omega)]
    simp (maxSteps:=500000) only [↓vp, vv, ↓reduceIte, simprocAttr, c65, r65, c65_1, c65_2, c65_3, r65, Run.enc, Run.row, selRi, selX, decII, tt, re2, c0, c1, c2, c3, c4, w1, w2, k1, k2, w3, w4, w5, c5, e, Run.zero, Pu]
  | false =>
    have e : addI r g f = (⟨r.vol + (g * f + r.rest) / 1000000, (g * f + r.rest) % 1000000⟩, 0) := by unfold addI; rw [hr, c4, if_pos rfl, if_pos rfl, if_pos (by have := of_decide_eq_false c5; omega)]
    simp (maxSteps:=500000) only [↓vp, vv, ↓reduceIte, simprocAttr, c65, r65, c65_1, c65_2, c65_3, r65, Run.enc, Run.row, selRi, selX, decII, tt, re2, c0, c1, c2, c3, c4, w1, w2, k1, k2, w3, w4, w5, c5, e, Pu]
def selAd := selX decRII tt fun q => re2 (addI q.1 q.2.1 q.2.2)
theorem tc_ad {T : Tbl} (hT : TblOk Tryd.prog T) : TblOk Tryd.prog (tc 62 (rowPu selAd) T) := tc_x f62_ok decRII_eq (fun a h nn => add_c _ _ _ nn) hT
theorem tc_rad {T : Tbl} (hT : TblOk Tryd.prog T) : TblOk Tryd.prog (tc 65 (rowPu selAd) T) := tc_x f65_ok decRII_eq (fun a h nn => radd_c _ _ _ nn) hT
set_option maxHeartbeats 8000000 in
theorem rfactor_c (p : Prd) (c : Cnd) (nn : Nm) : CallsA Tryd.prog 35 [p.enc, c.enc] Hp.none nn (Pu (ie (facI p c)) Hp.none) := by
  obtain ⟨code, h1, h2⟩ := c35_ok
  refine callsA_of (tc_rpv (tc_rhf (T0_ok _))) mixed (N := fun t => (0, t)) Tryd.func35 h1 h2 r35_ok [] false js_nil js_nil' (by simp [Tryd.f35]) ?_
  cases c0 : pV p with
  | false =>
    have e : facI p c = (0, 9) := by unfold facI; rw [c0]; rfl
    simp (maxSteps:=500000) only [↓vp, vv, ↓reduceIte, simprocAttr, c35, r35, c35_1, c35_2, r35, Prd.enc, Prd.row, Cnd.enc, Cnd.row, selPV, selHf, selX, decP, prdOf_x, decII, tt, ie, c0, e, Pu]
  | true =>
  have ez : ∀ h : cdV c = false, facI p c = (0, 1) := fun h => by unfold facI; rw [c0, h]; rfl
  cases c1 : decide (c.te < -400) with
  | true =>
    have e := ez (cdV_f fun h => by have h1 := h.1; have h2 := of_decide_eq_true c1; omega)
    simp (maxSteps:=500000) only [↓vp, vv, ↓reduceIte, simprocAttr, c35, r35, c35_1, c35_2, r35, Prd.enc, Prd.row, Cnd.enc, Cnd.row, selPV, selHf, selX, decP, prdOf_x, decII, tt, ie, c0, c1, e, Pu]
  | false =>
  cases c2 : decide (1000 < c.te) with
  | true =>
    have e := ez (cdV_f fun h => by have h1 := h.1; have h2 := of_decide_eq_true c2; omega)
    simp (maxSteps:=500000) only [↓vp, vv, ↓reduceIte, simprocAttr, c35, r35, c35_1, c35_2, r35, Prd.enc, Prd.row, Cnd.enc, Cnd.row, selPV, selHf, selX, decP, prdOf_x, decII, tt, ie, c0, c1, c2, e, Pu]
  | false =>
  cases c3 : decide (c.pr < 0) with
  | true =>
    have e := ez (cdV_f fun h => by have h1 := h.2; have h2 := of_decide_eq_true c3; omega)
    simp (maxSteps:=500000) only [↓vp, vv, ↓reduceIte, simprocAttr, c35, r35, c35_1, c35_2, r35, Prd.enc, Prd.row, Cnd.enc, Cnd.row, selPV, selHf, selX, decP, prdOf_x, decII, tt, ie, c0, c1, c2, c3, e, Pu]
  | false =>
  cases c4 : decide (20000 < c.pr) with
  | true =>
    have e := ez (cdV_f fun h => by have h1 := h.2; have h2 := of_decide_eq_true c4; omega)
    simp (maxSteps:=500000) only [↓vp, vv, ↓reduceIte, simprocAttr, c35, r35, c35_1, c35_2, r35, Prd.enc, Prd.row, Cnd.enc, Cnd.row, selPV, selHf, selX, decP, prdOf_x, decII, tt, ie, c0, c1, c2, c3, c4, e, Pu]
  | false =>
  have hc : cdOk c.te c.pr := ⟨⟨by have := of_decide_eq_false c1; omega, by have := of_decide_eq_false c2; omega⟩, by have := of_decide_eq_false c3; omega, by have := of_decide_eq_false c4; omega⟩
  have hp' := pV_o c0
  have e : facI p c = (fac p.ex p.co c.te c.pr, 0) := by unfold facI; rw [c0, cdV_t hc]; rfl
  obtain ⟨a1, a2, a3⟩ := heat_bd hp'.ex hc.1
  obtain ⟨b1, b2, b3⟩ := press_bd hp'.co hc.2
  obtain ⟨f1, f2⟩ := fac_bd hp'.ex hp'.co hc
  have hh : 1000000 - hf (p.ex * (c.te - 150)) 10 = fHeat p.ex c.te := rfl
  have hq : 1000000 + hf (p.co * c.pr) 1000 = fPress p.co c.pr := rfl
  have w0 : IntKind.i64.wrap (c.te - 150) = c.te - 150 := wrap_i (by have := hc.1; omega)
  have w1 : IntKind.i64.wrap (p.ex * (c.te - 150)) = p.ex * (c.te - 150) := wrap_i (by omega)
  have w2 : IntKind.i64.wrap (fHeat p.ex c.te) = fHeat p.ex c.te := wrap_i (by omega)
  have w3 : IntKind.i64.wrap (p.co * c.pr) = p.co * c.pr := wrap_i (by omega)
  have w4 : IntKind.i64.wrap (fPress p.co c.pr) = fPress p.co c.pr := wrap_i (by omega)
  have w5 : IntKind.i64.wrap (fHeat p.ex c.te * fPress p.co c.pr) = fHeat p.ex c.te * fPress p.co c.pr := wrap_i (by omega)
  have d1 : DvOk (p.ex * (c.te - 150), 10) := ⟨by dsimp only; omega, by dsimp only; omega⟩
  have d2 : DvOk (p.co * c.pr, 1000) := ⟨by dsimp only; omega, by dsimp only; omega⟩
  have d3 : DvOk (fHeat p.ex c.te * fPress p.co c.pr, 1000000) := ⟨by dsimp only; omega, by dsimp only; omega⟩
  simp (maxSteps:=500000) only [↓vp, vv, ↓reduceIte, simprocAttr, c35, r35, c35_1, c35_2, r35, Prd.enc, Prd.row, Cnd.enc, Cnd.row, selPV, selHf, selX, decP, prdOf_x, decII, tt, ie, c0, c1, c2, c3, c4, hh, hq, w0, w1, w2, w3, w4, w5, d1, d2, d3, e, fac, Pu]
def fcV (p : Prd) (c : Cnd) : Nat → Int
  | 0 => 1
  | 1 => fHeat p.ex c.te
  | _ => fHeat p.ex c.te * fPress p.co c.pr
def FcF (j v : Int) : List (Nat × D) := [(3, .ptr (0, 3) 0 0 0), (6, di v), (34, .own (0, 34) 0 0 2), (35, di 2), (36, di j)]
def FcH (p : Prd) (c : Cnd) : Hp := (Hp.none.put (0, 3) ⟨0, 2, [c.row]⟩).put (0, 34) ⟨0, 1, [[.clo 94 [p.enc] []], [.clo 95 [p.enc] []]]⟩
set_option maxHeartbeats 8000000 in
theorem factor_c (p : Prd) (c : Cnd) (nn : Nm) : CallsA Tryd.prog 57 [p.enc, c.enc] Hp.none nn (Pu (ie (facI p c)) Hp.none) := by
  obtain ⟨code, h1, h2⟩ := c57_ok
  refine callsA_of (tc_pv (tc_ht (tc_ps (tc_hf (T0_ok _))))) mixed (N := fun t => (0, t)) Tryd.func57 h1 h2 r57_ok [] false js_nil js_nil' (by simp [Tryd.f57]) ?_
  cases c0 : pV p with
  | false =>
    have e : facI p c = (0, 9) := by unfold facI; rw [c0]; rfl
    simp (maxSteps:=500000) only [↓vp, vv, ↓reduceIte, simprocAttr, c57, r57, c57_5, c57_4, Prd.enc, Prd.row, Cnd.enc, Cnd.row, selPV, selHf, selX, decP, prdOf_x, decII, tt, ie, c0, e, Pu]
  | true =>
  have ez : ∀ h : cdV c = false, facI p c = (0, 1) := fun h => by unfold facI; rw [c0, h]; rfl
  cases c1 : decide (c.te < -400) with
  | true =>
    have e := ez (cdV_f fun h => by have h1 := h.1; have h2 := of_decide_eq_true c1; omega)
    simp (maxSteps:=500000) only [↓vp, vv, ↓reduceIte, simprocAttr, c57, r57, c57_5, c57_4, Prd.enc, Prd.row, Cnd.enc, Cnd.row, selPV, selHf, selX, decP, prdOf_x, decII, tt, ie, c0, c1, e, Pu]
  | false =>
  cases c2 : decide (1000 < c.te) with
  | true =>
    have e := ez (cdV_f fun h => by have h1 := h.1; have h2 := of_decide_eq_true c2; omega)
    simp (maxSteps:=500000) only [↓vp, vv, ↓reduceIte, simprocAttr, c57, r57, c57_5, c57_4, Prd.enc, Prd.row, Cnd.enc, Cnd.row, selPV, selHf, selX, decP, prdOf_x, decII, tt, ie, c0, c1, c2, e, Pu]
  | false =>
  cases c3 : decide (c.pr < 0) with
  | true =>
    have e := ez (cdV_f fun h => by have h1 := h.2; have h2 := of_decide_eq_true c3; omega)
    simp (maxSteps:=500000) only [↓vp, vv, ↓reduceIte, simprocAttr, c57, r57, c57_5, c57_4, Prd.enc, Prd.row, Cnd.enc, Cnd.row, selPV, selHf, selX, decP, prdOf_x, decII, tt, ie, c0, c1, c2, c3, e, Pu]
  | false =>
  cases c4 : decide (20000 < c.pr) with
  | true =>
    have e := ez (cdV_f fun h => by have h1 := h.2; have h2 := of_decide_eq_true c4; omega)
    simp (maxSteps:=500000) only [↓vp, vv, ↓reduceIte, simprocAttr, c57, r57, c57_5, c57_4, Prd.enc, Prd.row, Cnd.enc, Cnd.row, selPV, selHf, selX, decP, prdOf_x, decII, tt, ie, c0, c1, c2, c3, c4, e, Pu]
  | false =>
  have hc : cdOk c.te c.pr := ⟨⟨by have := of_decide_eq_false c1; omega, by have := of_decide_eq_false c2; omega⟩, by have := of_decide_eq_false c3; omega, by have := of_decide_eq_false c4; omega⟩
  have hp' := pV_o c0
  have e : facI p c = (fac p.ex p.co c.te c.pr, 0) := by unfold facI; rw [c0, cdV_t hc]; rfl
  obtain ⟨a1, a2, a3⟩ := heat_bd hp'.ex hc.1
  obtain ⟨b1, b2, b3⟩ := press_bd hp'.co hc.2
  obtain ⟨f1, f2⟩ := fac_bd hp'.ex hp'.co hc
  simp (maxSteps:=500000) only [↓vp, vv, ↓reduceIte, simprocAttr, c57, r57, c57_5, c57_4, Prd.enc, Prd.row, Cnd.enc, Cnd.row, selPV, selHf, selX, decP, prdOf_x, decII, tt, ie, c0, c1, c2, c3, c4, e]
  have ht : HtOk (p, c) := ⟨hp', hc⟩
  have w0 : IntKind.i64.wrap 1 = 1 := by decide
  have w1 : IntKind.i64.wrap 2 = 2 := by decide
  have w2 : IntKind.i64.wrap (fHeat p.ex c.te) = fHeat p.ex c.te := wrap_i (by omega)
  have w4 : IntKind.i64.wrap (fPress p.co c.pr) = fPress p.co c.pr := wrap_i (by omega)
  have w5 : IntKind.i64.wrap (fHeat p.ex c.te * fPress p.co c.pr) = fHeat p.ex c.te * fPress p.co c.pr := wrap_i (by omega)
  have w6 : IntKind.i64.wrap (1 * fHeat p.ex c.te) = fHeat p.ex c.te := by rw [Int.one_mul, w2]
  have d3 : DvOk (fHeat p.ex c.te * fPress p.co c.pr, 1000000) := ⟨by dsimp only; omega, by dsimp only; omega⟩
  refine rng_loop 2 (fun j => ⟨fr (FcF (j : Nat) (fcV p c j)), FcH p c⟩) (fun _ => True) (weak_eq [] [(0, 34), (0, 3)] (FcF 0 1) (by simp (maxSteps:=500000) only [↓vp, vv, ↓reduceIte, simprocAttr, coverS, FcF, FcH, fcV, Prd.enc, Prd.row, Cnd.row]) (by simp (maxSteps:=500000) only [↓vp, vv, ↓reduceIte, simprocAttr, refsF, FcF, FcH, fcV, Prd.enc, Prd.row, Cnd.row]) (by simp (maxSteps:=500000) only [↓vp, vv, ↓reduceIte, simprocAttr, FcF, FcH, fcV, Prd.enc, Prd.row, Cnd.row]) (by simp) (by simp (maxSteps:=500000) only [↓vp, vv, ↓reduceIte, simprocAttr, FcF, FcH, fcV, Prd.enc, Prd.row, Cnd.row]; try rfl)) trivial (fun j hj _ => ?_) (fun _ => ?_)
  · match j, hj with
    | 0, hj =>
      simp (maxSteps:=500000) only [↓vp, vv, ↓reduceIte, simprocAttr, c57, c57_2, c57_1, FcF, FcH, fcV, Prd.enc, Prd.row, Cnd.enc, Cnd.row, selHt, selPs, selX, decPC, prdOf_x, cndOf_x, ht, w6, w2]
      exact rng_next hj (weak_eq [] [(0, 34), (0, 3)] (FcF 1 (fHeat p.ex c.te)) (by simp (maxSteps:=500000) only [↓vp, vv, ↓reduceIte, simprocAttr, coverS, FcF, FcH, fcV, Prd.enc, Prd.row, Cnd.row, w0]) (by simp (maxSteps:=500000) only [↓vp, vv, ↓reduceIte, simprocAttr, refsF, FcF, FcH, fcV, Prd.enc, Prd.row, Cnd.row, w0]) (by simp (maxSteps:=500000) only [↓vp, vv, ↓reduceIte, simprocAttr, FcF, FcH, fcV, Prd.enc, Prd.row, Cnd.row, w0]) (by simp) (by simp (maxSteps:=500000) only [↓vp, vv, ↓reduceIte, simprocAttr, FcF, FcH, fcV, Prd.enc, Prd.row, Cnd.row, w0]; try rfl)) trivial
    | 1, hj =>
      simp (maxSteps:=500000) only [↓vp, vv, ↓reduceIte, simprocAttr, c57, c57_2, c57_1, FcF, FcH, fcV, Prd.enc, Prd.row, Cnd.enc, Cnd.row, selHt, selPs, selX, decPC, prdOf_x, cndOf_x, ht, w5]
      exact rng_next hj (weak_eq [] [(0, 34), (0, 3)] (FcF 2 (fHeat p.ex c.te * fPress p.co c.pr)) (by simp (maxSteps:=500000) only [↓vp, vv, ↓reduceIte, simprocAttr, coverS, FcF, FcH, fcV, Prd.enc, Prd.row, Cnd.row, w1]) (by simp (maxSteps:=500000) only [↓vp, vv, ↓reduceIte, simprocAttr, refsF, FcF, FcH, fcV, Prd.enc, Prd.row, Cnd.row, w1]) (by simp (maxSteps:=500000) only [↓vp, vv, ↓reduceIte, simprocAttr, FcF, FcH, fcV, Prd.enc, Prd.row, Cnd.row, w1]) (by simp) (by simp (maxSteps:=500000) only [↓vp, vv, ↓reduceIte, simprocAttr, FcF, FcH, fcV, Prd.enc, Prd.row, Cnd.row, w1]; try rfl)) trivial
  · simp (maxSteps:=500000) only [↓vp, vv, ↓reduceIte, simprocAttr, c57, c57_2, c57_3, r57, FcF, FcH, fcV, selHf, selX, decII, d3, fac, Pu]
def selFa := selX decPC tt fun q => ie (facI q.1 q.2)
theorem tc_fa {T : Tbl} (hT : TblOk Tryd.prog T) : TblOk Tryd.prog (tc 57 (rowPu selFa) T) := tc_x f57_ok decPC_eq (fun a h nn => factor_c _ _ nn) hT
theorem tc_rfa {T : Tbl} (hT : TblOk Tryd.prog T) : TblOk Tryd.prog (tc 35 (rowPu selFa) T) := tc_x f35_ok decPC_eq (fun a h nn => rfactor_c _ _ nn) hT
theorem f10_ok : fnOk Tryd.prog 10 = true := by kernel_rfl
def c12 : C := (.seq (.ops false [oP 2 (.new [(.v (.int .i64 0)), (.v (.int .i64 0)), (.v (.int .i64 0))])]) (.seq (.ops false [oP 3 (.mv (.t 0)), oP 4 (.bsl 1 5 [(.v (.int .i64 0))] [(0, (cI 1)), (1, (cI 3)), (2, (cI 1000)), (3, (cI 2000)), (4, (cI 1048576))]), oB 5 (.call 33 [(.t 3), (.t 4)]), oP 6 (.mv (.t 0)), oP 7 (.bsl 1 3 [(.v (.int .i64 0))] [(0, (cI 16)), (1, (cI 16)), (2, (cI 32))]),
  oB 8 (.call 33 [(.t 6), (.t 7)]), oP 9 (.mv (.t 0)), oP 10 (.bsl 1 5 [(.v (.int .i64 0))] [(0, (cI 100000)), (1, (cI 100100)), (2, (cI 99871)), (3, (cI 50000)), (4, (cI 200000))]), oB 11 (.call 33 [(.t 9), (.t 10)]), oP 12 (.bld [(.v (.int .i64 0)), (.v (.int .i64 0)), (.v (.int .i64 0))] [(0, (1, (.t 5))), (1, (1, (.t 8))), (2, (1, (.t 11)))]), oS (.st 3 (.t 2) (.t 12))]) .ret))
def r12 : List RV := [(.cell 2 3 true)]
theorem c12_ok : ∃ code, Tryd.f12.body = some code ∧ compC Tryd.prog Tryd.f12.ntmps code = some (C.strip c12) := ⟨_, rfl, by kernel_rfl⟩
theorem r12_ok : compRes Tryd.prog Tryd.f12.results.toList = some r12 := by kernel_rfl
theorem f12_ok : fnOk Tryd.prog 12 = true := by kernel_rfl
def c13 : C := (.seq (.ops false [oP 4 (.new [(.v (.string ({ data := #[] }))), (.v (.int .i64 0)), (.v (.int .i64 0)), (.v (.int .i64 0)), (.v (.int .i64 0))])]) (.seq (.ops false [oP 5 (.mv (.t 1)), oB 6 (.call 51 [(.c (.v (.string ({ data := #[112] })))), (.t 5)]), oP 7 (.mv (.t 0)), oB 8 (.call 32 [(.t 7), (cI 400), (cI 1200)]), oP 9 (.mv (.t 0)), oP 10 (.bsl 1 4 [(.v (.int .i64 0))] [(0, (cI 0)), (1,
  (cI 830)), (2, (cI 2000)), (3, (cI 1))]), oB 11 (.call 33 [(.t 9), (.t 10)]), oP 12 (.mv (.t 0)), oP 13 (.bsl 1 4 [(.v (.int .i64 0))] [(0, (cI 0)), (1, (cI 800)), (2, (cI 5000)), (3, (cI 3))]), oB 14 (.call 33 [(.t 12), (.t 13)]), oP 15 (.mv (.t 0)), oP 16 (.bsl 1 5 [(.v (.int .i64 0))] [(0, (cI 1)), (1, (cI 700)), (2, (cI 1000)), (3, (cI 1300)), (4, (cI 2000))]), oB 17 (.call 33 [(.t 15),
  (.t 16)]), oP 18 (.bld [(.v (.string ({ data := #[] }))), (.v (.int .i64 0)), (.v (.int .i64 0)), (.v (.int .i64 0)), (.v (.int .i64 0))] [(0, (1, (.t 6))), (1, (1, (.t 8))), (2, (1, (.t 11))), (3, (1, (.t 14))), (4, (1, (.t 17)))]), oS (.st 5 (.t 4) (.t 18))]) .ret))
def r13 : List RV := [(.cell 4 5 true)]
theorem c13_ok : ∃ code, Tryd.f13.body = some code ∧ compC Tryd.prog Tryd.f13.ntmps code = some (C.strip c13) := ⟨_, rfl, by kernel_rfl⟩
theorem r13_ok : compRes Tryd.prog Tryd.f13.results.toList = some r13 := by kernel_rfl
theorem f13_ok : fnOk Tryd.prog 13 = true := by kernel_rfl
def c15_1 : C := (.seq (.block 1 (.seq (.ops false [oP 17 (.mv (.t 0)), oP 18 (.bsl 1 4 [(.v (.int .i64 0))] [(0, (cI 0)), (1, (cI 1)), (2, (cI 1000)), (3, (cI 60000))]), oB 19 (.call 33 [(.t 17), (.t 18)]), oP 8 (.mv (.t 19))]) (.seq (.ops false [oP 20 (.fa 1 (.t 5)), oP 21 (.ld 1 false (.t 20)), oP 22 (.mv (.t 8)), oP 23 (.bin .add (.t 21) (.t 22)), oP 24 (.fa 1 (.t 5)), oS (.st 1 (.t 24) (.t 23))])
  (.seq (.ops false [oP 25 (.fa 1 (.t 5)), oP 26 (.ld 1 false (.t 25)), oP 27 (.fa 1 (.t 3)), oP 28 (.ld 1 false (.t 27)), oP 29 (.cvi .u64 (.t 28)), oP 30 (.bin .shl (cI 1) (.t 29)), oP 31 (.bin .rem (.t 26) (.t 30)), oP 32 (.fa 0 (.t 5)), oS (.st 1 (.t 32) (.t 31))]) (.ops false [oP 33 (.mv (.t 6)), oP 34 (.ld 2 true (.t 5)), oP 35 (.bsl 2 1 [(.v (.int .i64 0)), (.v (.int .i64 0))] [(0,
  (.t 34))]), oP 36 (.app 2 16 (.t 33) (.t 35)), oP 6 (.mv (.t 36))]))))) (.ops false [oP 15 (.mv (.t 7)), oP 16 (.bin .sub (.t 15) (cI 1)), oP 7 (.mv (.t 16))]))
def c15_2 : C := (.seq (.seq (.ops false [oP 13 (.mv (.t 7)), oP 14 (.bin .gtr (.t 13) (cI 0))]) (.cond (.t 14) .skip (.exit 0))) c15_1)
def c15_3 : C := (.seq (.ops false [oP 37 (.mv (.t 6)), oP 4 (.mv (.t 37))]) .ret)
def c15 : C := (.seq (.ops false [oP 3 (.box 3 (.t 1)), oP 4 (.mv (.c .mt))]) (.seq (.ops false [oP 5 (.new [(.v (.int .i64 0)), (.v (.int .i64 0))])]) (.seq (.ops false [oP 9 (.ld 2 true (.t 5)), oP 10 (.bsl 2 1 [(.v (.int .i64 0)), (.v (.int .i64 0))] [(0, (.t 9))]), oP 6 (.mv (.t 10))]) (.seq (.seq (.ops false [oP 11 (.mv (.t 0)), oB 12 (.call 14 [(.t 11), (cI 6)]), oP 7 (.mv (.t 12))])
  (.block 0 (.loop c15_2))) c15_3))))
def r15 : List RV := [(.tmp 4)]
theorem c15_ok : ∃ code, Tryd.f15.body = some code ∧ compC Tryd.prog Tryd.f15.ntmps code = some (C.strip c15) := ⟨_, rfl, by kernel_rfl⟩
theorem r15_ok : compRes Tryd.prog Tryd.f15.results.toList = some r15 := by kernel_rfl
theorem f15_ok : fnOk Tryd.prog 15 = true := by kernel_rfl
def c16 : C := (.seq (.ops false [oP 2 (.new [(.v (.int .i64 0)), (.v (.int .i64 0))])]) (.seq (.ops false [oP 3 (.mv (.t 0)), oP 4 (.bsl 1 7 [(.v (.int .i64 0))] [(0, (cI 150)), (1, (cI 250)), (2, (cI (-400))), (3, (cI 1000)), (4, (cI 0)), (5, (cI 149)), (6, (cI (-20)))]), oB 5 (.call 33 [(.t 3), (.t 4)]), oP 6 (.mv (.t 0)), oP 7 (.bsl 1 5 [(.v (.int .i64 0))] [(0, (cI 0)), (1, (cI 5000)), (2, (cI 20000)), (3,
  (cI 1)), (4, (cI 777))]), oB 8 (.call 33 [(.t 6), (.t 7)]), oP 9 (.bld [(.v (.int .i64 0)), (.v (.int .i64 0))] [(0, (1, (.t 5))), (1, (1, (.t 8)))]), oS (.st 2 (.t 2) (.t 9))]) .ret))
def r16 : List RV := [(.cell 2 2 true)]
theorem c16_ok : ∃ code, Tryd.f16.body = some code ∧ compC Tryd.prog Tryd.f16.ntmps code = some (C.strip c16) := ⟨_, rfl, by kernel_rfl⟩
theorem r16_ok : compRes Tryd.prog Tryd.f16.results.toList = some r16 := by kernel_rfl
theorem f16_ok : fnOk Tryd.prog 16 = true := by kernel_rfl
def c18_1 : C := (.seq (.ops false [oP 35 (.ld 5 true (.t 3)), oS (.st 5 (.t 4) (.t 35))]) .ret)
def c18 : C := (.seq (.ops false [oP 3 (.box 5 (.t 1)), oP 4 (.new [(.v (.string ({ data := #[] }))), (.v (.int .i64 0)), (.v (.int .i64 0)), (.v (.int .i64 0)), (.v (.int .i64 0))])]) (.seq (.seq (.ops false [oP 5 (.mv (.t 0)), oB 6 (.call 14 [(.t 5), (cI 5)])]) (.block 0 (.seq (.ops false [oP 12 (.bin .eql (.t 6) (cI 0)), oP 11 (.mv (.t 12))]) (.cond (.t 11) (.ops false [oP 13 (.mv (.t 0)),
  oP 14 (.bsl 1 7 [(.v (.string ({ data := #[] })))] [(0, (.c (.v (.string ({ data := #[] }))))), (1, (.c (.v (.string ({ data := #[97] }))))), (2, (.c (.v (.string ({ data := #[65] }))))), (3, (.c (.v (.string ({ data := #[55, 117, 112] }))))), (4, (.c (.v (.string ({ data := #[97, 98, 99, 100, 101, 102, 103, 104, 105, 106, 107, 108] }))))), (5, (.c (.v (.string ({ data := #[97, 98, 99, 100, 101,
  102, 103, 104, 105, 106, 107, 108, 109] }))))), (6, (.c (.v (.string ({ data := #[112, 32, 97] })))))]), oB 15 (.call 54 [(.t 13), (.t 14)]), oP 16 (.fa 0 (.t 3)), oS (.st 1 (.t 16) (.t 15))]) (.seq (.ops false [oP 18 (.bin .eql (.t 6) (cI 1)), oP 17 (.mv (.t 18))]) (.cond (.t 17) (.ops false [oP 19 (.mv (.t 0)), oP 20 (.bsl 1 5 [(.v (.int .i64 0))] [(0, (cI 399)), (1, (cI 400)), (2, (cI 1200)),
  (3, (cI 1201)), (4, (cI (-9223372036854775808)))]), oB 21 (.call 33 [(.t 19), (.t 20)]), oP 22 (.fa 1 (.t 3)), oS (.st 1 (.t 22) (.t 21))]) (.seq (.ops false [oP 24 (.bin .eql (.t 6) (cI 2)), oP 23 (.mv (.t 24))]) (.cond (.t 23) (.ops false [oP 25 (.mv (.t 0)), oP 26 (.bsl 1 5 [(.v (.int .i64 0))] [(0, (cI (-1))), (1, (cI 0)), (2, (cI 2000)), (3, (cI 2001)), (4, (cI 4611686018427387904))]),
  oB 27 (.call 33 [(.t 25), (.t 26)]), oP 28 (.fa 2 (.t 3)), oS (.st 1 (.t 28) (.t 27))]) (.seq (.ops false [oP 30 (.bin .eql (.t 6) (cI 3)), oP 29 (.mv (.t 30))]) (.cond (.t 29) (.ops false [oP 31 (.mv (.t 0)), oP 32 (.bsl 1 4 [(.v (.int .i64 0))] [(0, (cI (-1))), (1, (cI 0)), (2, (cI 5000)), (3, (cI 5001))]), oB 33 (.call 33 [(.t 31), (.t 32)]), oP 34 (.fa 3 (.t 3)), oS (.st 1 (.t 34) (.t 33))])
  (.ops false [oP 7 (.mv (.t 0)), oP 8 (.bsl 1 5 [(.v (.int .i64 0))] [(0, (cI 0)), (1, (cI 1)), (2, (cI 2000)), (3, (cI 2001)), (4, (cI (-5)))]), oB 9 (.call 33 [(.t 7), (.t 8)]), oP 10 (.fa 4 (.t 3)), oS (.st 1 (.t 10) (.t 9))]))))))))))) c18_1))
def r18 : List RV := [(.cell 4 5 true)]
theorem c18_ok : ∃ code, Tryd.f18.body = some code ∧ compC Tryd.prog Tryd.f18.ntmps code = some (C.strip c18) := ⟨_, rfl, by kernel_rfl⟩
theorem r18_ok : compRes Tryd.prog Tryd.f18.results.toList = some r18 := by kernel_rfl
theorem f18_ok : fnOk Tryd.prog 18 = true := by kernel_rfl
def c19_1 : C := (.seq (.ops false [oP 58 (.mv (.t 2)), oP 59 (.ld 2 true (.t 9)), oP 60 (.ld 2 true (.t 10)), oP 61 (.ld 2 true (.t 11)), oP 62 (.mv (.t 18)), oP 63 (.bld [(.v (.int .i64 0)), (.v (.int .i64 0)), (.v (.int .i64 0)), (.v (.int .i64 0)), (.v (.int .i64 0)), (.v (.int .i64 0)), (.v (.int .i64 0)), (.v (.int .i64 0))] [(0, (1, (.t 58))), (1, (2, (.t 59))), (3, (2, (.t 60))), (5, (2, (.t 61))), (7, (1,
  (.t 62)))]), oS (.st 8 (.t 12) (.t 63)), oP 13 (.mv (cI 0))]) .ret)
def c19_2 : C := (.seq (.ops false [oP 49 (.mv (.t 15)), oP 50 (.mv (.t 17)), oB 51 (.call 58 [(.t 49), (.t 50)]), oP 48 (.mv (.t 51)), oP 52 (.ext (.t 48) 0), oP 53 (.ext (.t 48) 1), oP 18 (.mv (.t 52)), oP 16 (.mv (.t 53))]) (.seq (.seq (.ops false [oP 54 (.mv (.t 16)), oP 55 (.bin .neq (.t 54) (cI 0))]) (.cond (.t 55) (.seq (.ops false [oP 56 (.bld [(.v (.int .i64 0)), (.v (.int .i64 0)), (.v (.int .i64 0)),
  (.v (.int .i64 0)), (.v (.int .i64 0)), (.v (.int .i64 0)), (.v (.int .i64 0)), (.v (.int .i64 0))] []), oP 57 (.mv (.t 16)), oS (.st 8 (.t 12) (.t 56)), oP 13 (.mv (.t 57))]) .ret) .skip)) c19_1))
def c19_3 : C := (.seq (.ops false [oP 39 (.ld 5 true (.t 7)), oP 40 (.ld 2 true (.t 11)), oB 41 (.call 57 [(.t 39), (.t 40)]), oP 38 (.mv (.t 41)), oP 42 (.ext (.t 38) 0), oP 43 (.ext (.t 38) 1), oP 17 (.mv (.t 42)), oP 16 (.mv (.t 43))]) (.seq (.seq (.ops false [oP 44 (.mv (.t 16)), oP 45 (.bin .neq (.t 44) (cI 0))]) (.cond (.t 45) (.seq (.ops false [oP 46 (.bld [(.v (.int .i64 0)), (.v (.int .i64 0)),
  (.v (.int .i64 0)), (.v (.int .i64 0)), (.v (.int .i64 0)), (.v (.int .i64 0)), (.v (.int .i64 0)), (.v (.int .i64 0))] []), oP 47 (.mv (.t 16)), oS (.st 8 (.t 12) (.t 46)), oP 13 (.mv (.t 47))]) .ret) .skip)) c19_2))
def c19_4 : C := (.seq (.ops false [oP 28 (.ld 3 true (.t 6)), oP 29 (.ld 2 true (.t 9)), oP 30 (.ld 2 true (.t 10)), oB 31 (.call 56 [(.t 28), (.t 29), (.t 30)]), oP 27 (.mv (.t 31)), oP 32 (.ext (.t 27) 0), oP 33 (.ext (.t 27) 1), oP 15 (.mv (.t 32)), oP 16 (.mv (.t 33))]) (.seq (.seq (.ops false [oP 34 (.mv (.t 16)), oP 35 (.bin .neq (.t 34) (cI 0))]) (.cond (.t 35)
  (.seq (.ops false [oP 36 (.bld [(.v (.int .i64 0)), (.v (.int .i64 0)), (.v (.int .i64 0)), (.v (.int .i64 0)), (.v (.int .i64 0)), (.v (.int .i64 0)), (.v (.int .i64 0)), (.v (.int .i64 0))] []), oP 37 (.mv (.t 16)), oS (.st 8 (.t 12) (.t 36)), oP 13 (.mv (.t 37))]) .ret) .skip)) c19_3))
def c19 : C := (.seq (.ops false [oP 6 (.box 3 (.t 0)), oP 7 (.box 5 (.t 1)), oP 9 (.box 2 (.t 3)), oP 10 (.box 2 (.t 4)), oP 11 (.box 2 (.t 5)), oP 12 (.new [(.v (.int .i64 0)), (.v (.int .i64 0)), (.v (.int .i64 0)), (.v (.int .i64 0)), (.v (.int .i64 0)), (.v (.int .i64 0)), (.v (.int .i64 0)), (.v (.int .i64 0))]), oP 13 (.mv (cI 0))]) (.seq (.seq (.ops false [oP 19 (.ld 3 true (.t 6)),
  oP 20 (.ld 5 true (.t 7)), oP 21 (.mv (.t 2)), oB 22 (.call 55 [(.t 19), (.t 20), (.t 21)]), oP 14 (.mv (.t 22))]) (.seq (.ops false [oP 23 (.mv (.t 14)), oP 24 (.bin .neq (.t 23) (cI 0))]) (.cond (.t 24) (.seq (.ops false [oP 25 (.bld [(.v (.int .i64 0)), (.v (.int .i64 0)), (.v (.int .i64 0)), (.v (.int .i64 0)), (.v (.int .i64 0)), (.v (.int .i64 0)), (.v (.int .i64 0)), (.v (.int .i64 0))]
  []), oP 26 (.mv (.t 14)), oS (.st 8 (.t 12) (.t 25)), oP 13 (.mv (.t 26))]) .ret) .skip))) c19_4))
def r19 : List RV := [(.cell 12 8 true), (.tmp 13)]
theorem c19_ok : ∃ code, Tryd.f19.body = some code ∧ compC Tryd.prog Tryd.f19.ntmps code = some (C.strip c19) := ⟨_, rfl, by kernel_rfl⟩
theorem r19_ok : compRes Tryd.prog Tryd.f19.results.toList = some r19 := by kernel_rfl
theorem f19_ok : fnOk Tryd.prog 19 = true := by kernel_rfl
def c20_1 : C := (.seq (.ops false [oP 58 (.mv (.t 2)), oP 59 (.ld 2 true (.t 9)), oP 60 (.ld 2 true (.t 10)), oP 61 (.ld 2 true (.t 11)), oP 62 (.mv (.t 18)), oP 63 (.bld [(.v (.int .i64 0)), (.v (.int .i64 0)), (.v (.int .i64 0)), (.v (.int .i64 0)), (.v (.int .i64 0)), (.v (.int .i64 0)), (.v (.int .i64 0)), (.v (.int .i64 0))] [(0, (1, (.t 58))), (1, (2, (.t 59))), (3, (2, (.t 60))), (5, (2, (.t 61))), (7, (1,
  (.t 62)))]), oS (.st 8 (.t 12) (.t 63)), oP 13 (.mv (cI 0))]) .ret)
def c20_2 : C := (.seq (.ops false [oP 49 (.mv (.t 15)), oP 50 (.mv (.t 17)), oB 51 (.call 61 [(.t 49), (.t 50)]), oP 48 (.mv (.t 51)), oP 52 (.ext (.t 48) 0), oP 53 (.ext (.t 48) 1), oP 18 (.mv (.t 52)), oP 16 (.mv (.t 53))]) (.seq (.seq (.ops false [oP 54 (.mv (.t 16)), oP 55 (.bin .neq (.t 54) (cI 0))]) (.cond (.t 55) (.seq (.ops false [oP 56 (.bld [(.v (.int .i64 0)), (.v (.int .i64 0)), (.v (.int .i64 0)),
  (.v (.int .i64 0)), (.v (.int .i64 0)), (.v (.int .i64 0)), (.v (.int .i64 0)), (.v (.int .i64 0))] []), oP 57 (.mv (.t 16)), oS (.st 8 (.t 12) (.t 56)), oP 13 (.mv (.t 57))]) .ret) .skip)) c20_1))
def c20_3 : C := (.seq (.ops false [oP 39 (.ld 5 true (.t 7)), oP 40 (.ld 2 true (.t 11)), oB 41 (.call 35 [(.t 39), (.t 40)]), oP 38 (.mv (.t 41)), oP 42 (.ext (.t 38) 0), oP 43 (.ext (.t 38) 1), oP 17 (.mv (.t 42)), oP 16 (.mv (.t 43))]) (.seq (.seq (.ops false [oP 44 (.mv (.t 16)), oP 45 (.bin .neq (.t 44) (cI 0))]) (.cond (.t 45) (.seq (.ops false [oP 46 (.bld [(.v (.int .i64 0)), (.v (.int .i64 0)),
  (.v (.int .i64 0)), (.v (.int .i64 0)), (.v (.int .i64 0)), (.v (.int .i64 0)), (.v (.int .i64 0)), (.v (.int .i64 0))] []), oP 47 (.mv (.t 16)), oS (.st 8 (.t 12) (.t 46)), oP 13 (.mv (.t 47))]) .ret) .skip)) c20_2))
def c20_4 : C := (.seq (.ops false [oP 28 (.ld 3 true (.t 6)), oP 29 (.ld 2 true (.t 9)), oP 30 (.ld 2 true (.t 10)), oB 31 (.call 60 [(.t 28), (.t 29), (.t 30)]), oP 27 (.mv (.t 31)), oP 32 (.ext (.t 27) 0), oP 33 (.ext (.t 27) 1), oP 15 (.mv (.t 32)), oP 16 (.mv (.t 33))]) (.seq (.seq (.ops false [oP 34 (.mv (.t 16)), oP 35 (.bin .neq (.t 34) (cI 0))]) (.cond (.t 35)
  (.seq (.ops false [oP 36 (.bld [(.v (.int .i64 0)), (.v (.int .i64 0)), (.v (.int .i64 0)), (.v (.int .i64 0)), (.v (.int .i64 0)), (.v (.int .i64 0)), (.v (.int .i64 0)), (.v (.int .i64 0))] []), oP 37 (.mv (.t 16)), oS (.st 8 (.t 12) (.t 36)), oP 13 (.mv (.t 37))]) .ret) .skip)) c20_3))
def c20 : C := (.seq (.ops false [oP 6 (.box 3 (.t 0)), oP 7 (.box 5 (.t 1)), oP 9 (.box 2 (.t 3)), oP 10 (.box 2 (.t 4)), oP 11 (.box 2 (.t 5)), oP 12 (.new [(.v (.int .i64 0)), (.v (.int .i64 0)), (.v (.int .i64 0)), (.v (.int .i64 0)), (.v (.int .i64 0)), (.v (.int .i64 0)), (.v (.int .i64 0)), (.v (.int .i64 0))]), oP 13 (.mv (cI 0))]) (.seq (.seq (.ops false [oP 19 (.ld 3 true (.t 6)),
  oP 20 (.ld 5 true (.t 7)), oP 21 (.mv (.t 2)), oB 22 (.call 59 [(.t 19), (.t 20), (.t 21)]), oP 14 (.mv (.t 22))]) (.seq (.ops false [oP 23 (.mv (.t 14)), oP 24 (.bin .neq (.t 23) (cI 0))]) (.cond (.t 24) (.seq (.ops false [oP 25 (.bld [(.v (.int .i64 0)), (.v (.int .i64 0)), (.v (.int .i64 0)), (.v (.int .i64 0)), (.v (.int .i64 0)), (.v (.int .i64 0)), (.v (.int .i64 0)), (.v (.int .i64 0))]
  []), oP 26 (.mv (.t 14)), oS (.st 8 (.t 12) (.t 25)), oP 13 (.mv (.t 26))]) .ret) .skip))) c20_4))
def r20 : List RV := [(.cell 12 8 true), (.tmp 13)]
theorem c20_ok : ∃ code, Tryd.f20.body = some code ∧ compC Tryd.prog Tryd.f20.ntmps code = some (C.strip c20) := ⟨_, rfl, by kernel_rfl⟩
theorem r20_ok : compRes Tryd.prog Tryd.f20.results.toList = some r20 := by kernel_rfl
theorem f20_ok : fnOk Tryd.prog 20 = true := by kernel_rfl
def c21_1 : C := (.seq (.ops true [oP 96 (.mv (.t 16)), oP 97 (.mv (.t 2)), oP 98 (.mv (.t 3)), oP 99 (.mv (.t 17)), oA 100 (.iaS 2 (.t 98) (.t 99)) [3, 2], oA 101 (.ld 2 true (.t 100)) [2, 3, 4], oP 102 (.mv (.t 3)), oP 103 (.mv (.t 17)), oA 104 (.bin .add (.t 103) (cI 1)) [7], oA 105 (.iaS 2 (.t 102) (.t 104)) [7, 8, 6], oA 106 (.ld 2 true (.t 105)) [6, 8, 7, 9], oP 107 (.ld 2 true (.t 18)),
  oP 108 (.fa 0 (.t 22)), oA 109 (.ld 1 false (.t 108)) [12], oP 110 (.fa 0 (.t 15)), oA 111 (.ld 1 false (.t 110)) [14], oA 112 (.bin .sub (.t 109) (.t 111)) [14, 12, 15, 13], oA 113 (.bld [(.v (.int .i64 0)), (.v (.int .i64 0)), (.v (.int .i64 0)), (.v (.int .i64 0)), (.v (.int .i64 0)), (.v (.int .i64 0)), (.v (.int .i64 0)), (.v (.int .i64 0))] [(0, (1, (.t 97))), (1, (2, (.t 101))), (3, (2,
  (.t 106))), (5, (2, (.t 107))), (7, (1, (.t 112)))]) [13, 15, 12, 14, 9, 7, 8, 6, 4, 3, 2, 16, 11, 10, 5, 1], oA 114 (.bsl 8 1 [(.v (.int .i64 0)), (.v (.int .i64 0)), (.v (.int .i64 0)), (.v (.int .i64 0)), (.v (.int .i64 0)), (.v (.int .i64 0)), (.v (.int .i64 0)), (.v (.int .i64 0))] [(0, (.t 113))]) [1, 5, 10, 11, 16, 2, 3, 4, 6, 8, 7, 9, 14, 12, 15, 13, 17], oA 115 (.app 8 64 (.t 96)
  (.t 114)) [17, 13, 15, 12, 14, 9, 7, 8, 6, 4, 3, 2, 16, 11, 10, 5, 1, 18, 0], oA 16 (.mv (.t 115)) [18, 17, 16, 15, 14, 13, 12, 11, 10, 9, 8, 7, 6, 5, 4, 3, 2, 1, 0, 19]]) (.ops false [oP 116 (.ld 2 true (.t 22)), oS (.st 2 (.t 15) (.t 116))]))
def c21_2 : C := (.seq (.ops false [oP 86 (.ld 2 true (.t 15)), oP 87 (.mv (.t 19)), oP 88 (.mv (.t 21)), oB 89 (.call 62 [(.t 86), (.t 87), (.t 88)]), oP 85 (.mv (.t 89)), oP 90 (.ext (.t 85) 0), oP 91 (.ext (.t 85) 1), oP 22 (.new [(.v (.int .i64 0)), (.v (.int .i64 0))]), oS (.st 2 (.t 22) (.t 90)), oP 20 (.mv (.t 91))]) (.seq (.seq (.ops false [oP 92 (.mv (.t 20)), oP 93 (.bin .neq (.t 92) (cI 0))])
  (.cond (.t 93) (.seq (.ops false [oP 94 (.bld [(.v (.int .i64 0)), (.v (.int .i64 0))] []), oP 95 (.mv (.t 20)), oP 10 (.mv (.c .mt)), oS (.st 2 (.t 11) (.t 94)), oP 12 (.mv (.t 95))]) .ret) .skip)) c21_1))
def c21_3 : C := (.seq (.ops false [oP 76 (.ld 5 true (.t 6)), oP 77 (.ld 2 true (.t 18)), oB 78 (.call 57 [(.t 76), (.t 77)]), oP 75 (.mv (.t 78)), oP 79 (.ext (.t 75) 0), oP 80 (.ext (.t 75) 1), oP 21 (.mv (.t 79)), oP 20 (.mv (.t 80))]) (.seq (.seq (.ops false [oP 81 (.mv (.t 20)), oP 82 (.bin .neq (.t 81) (cI 0))]) (.cond (.t 82) (.seq (.ops false [oP 83 (.bld [(.v (.int .i64 0)), (.v (.int .i64 0))] []),
  oP 84 (.mv (.t 20)), oP 10 (.mv (.c .mt)), oS (.st 2 (.t 11) (.t 83)), oP 12 (.mv (.t 84))]) .ret) .skip)) c21_2))
def c21_4 : C := (.ops false [oP 117 (.bin .add (.t 52) (cI 1)), oP 52 (.mv (.t 117))])
def c21_5 : C := (.seq (.block 1 (.seq (.ops false [oP 54 (.mv (.t 52)), oP 55 (.iaS 2 (.t 50) (.t 52)), oP 56 (.ld 2 true (.t 55)), oP 18 (.new [(.v (.int .i64 0)), (.v (.int .i64 0))]), oP 17 (.mv (.t 54)), oS (.st 2 (.t 18) (.t 56))]) (.seq (.ops true [oP 58 (.ld 3 true (.t 5)), oP 59 (.mv (.t 3)), oP 60 (.mv (.t 17)), oA 61 (.iaS 2 (.t 59) (.t 60)) [2, 1], oA 62 (.ld 2 true (.t 61)) [1, 2, 3],
  oP 63 (.mv (.t 3)), oP 64 (.mv (.t 17)), oA 65 (.bin .add (.t 64) (cI 1)) [6], oA 66 (.iaS 2 (.t 63) (.t 65)) [6, 7, 5], oA 67 (.ld 2 true (.t 66)) [5, 7, 6, 8], oE 68 (.call 56 [(.t 58), (.t 62), (.t 67)]) [8, 6, 7, 5, 3, 2, 1, 9, 4, 0], oA 57 (.mv (.t 68)) [0, 4, 9, 1, 2, 3, 5, 7, 6, 8, 10], oA 69 (.ext (.t 57) 0) [10, 8, 6, 7, 5, 3, 2, 1, 9, 4, 0, 11], oA 70 (.ext (.t 57) 1) [10, 8, 6, 7, 5, 3,
  2, 1, 9, 4, 0, 11], oA 19 (.mv (.t 69)) [11, 9, 8, 7, 6, 5, 4, 3, 2, 1, 0, 10, 12], oA 20 (.mv (.t 70)) [12, 11, 10, 9, 8, 7, 6, 5, 4, 3, 2, 1, 0, 14, 13]]) (.seq (.seq (.ops false [oP 71 (.mv (.t 20)), oP 72 (.bin .neq (.t 71) (cI 0))]) (.cond (.t 72) (.seq (.ops false [oP 73 (.bld [(.v (.int .i64 0)), (.v (.int .i64 0))] []), oP 74 (.mv (.t 20)), oP 10 (.mv (.c .mt)), oS (.st 2 (.t 11) (.t 73)),
  oP 12 (.mv (.t 74))]) .ret) .skip)) c21_3)))) c21_4)
def c21_6 : C := (.seq (.ops false [oP 53 (.bin .lss (.t 52) (.t 51))]) (.seq (.cond (.t 53) .skip (.exit 0)) c21_5))
def c21_7 : C := (.seq (.ops true [oP 118 (.mv (.t 16)), oP 119 (.ld 2 true (.t 15)), oA 10 (.mv (.t 118)) [0], oT (.st 2 (.t 11) (.t 119)) [0, 2, 1], oA 12 (.mv (cI 0)) [2, 1, 0, 3]]) .ret)
def c21_8 : C := (.seq (.ops false [oP 15 (.new [(.v (.int .i64 0)), (.v (.int .i64 0))])]) (.seq (.ops false [oP 16 (.mv (.c .mt))]) (.seq (.seq (.ops false [oP 50 (.mv (.t 4)), oP 51 (.len (.t 50)), oP 52 (.mv (cI 0))]) (.block 0 (.loop c21_6))) c21_7)))
def c21_9 : C := (.seq (.seq (.ops false [oP 42 (.ld 3 true (.t 5)), oP 43 (.ld 5 true (.t 6)), oP 44 (.mv (.t 2)), oB 45 (.call 55 [(.t 42), (.t 43), (.t 44)]), oP 14 (.mv (.t 45))]) (.seq (.ops false [oP 46 (.mv (.t 14)), oP 47 (.bin .neq (.t 46) (cI 0))]) (.cond (.t 47) (.seq (.ops false [oP 48 (.bld [(.v (.int .i64 0)), (.v (.int .i64 0))] []), oP 49 (.mv (.t 14)), oP 10 (.mv (.c .mt)), oS (.st 2 (.t 11)
  (.t 48)), oP 12 (.mv (.t 49))]) .ret) .skip))) c21_8)
def c21 : C := (.seq (.ops false [oP 5 (.box 3 (.t 0)), oP 6 (.box 5 (.t 1)), oP 10 (.mv (.c .mt)), oP 11 (.new [(.v (.int .i64 0)), (.v (.int .i64 0))]), oP 12 (.mv (cI 0))]) (.seq (.seq (.ops false [oP 23 (.ld 3 true (.t 5)), oP 24 (.ld 5 true (.t 6)), oB 25 (.call 55 [(.t 23), (.t 24), (cI 0)]), oP 13 (.mv (.t 25))]) (.seq (.ops false [oP 26 (.mv (.t 13)), oP 27 (.bin .neq (.t 26) (cI 0)),
  oP 28 (.mv (.t 27)), oG 29 28 false (.mv (.t 3)), oG 30 28 false (.len (.t 29)), oG 31 28 false (.mv (.t 4)), oG 32 28 false (.len (.t 31)), oG 33 28 false (.bin .add (.t 32) (cI 1)), oG 34 28 false (.bin .neq (.t 30) (.t 33)), oP 35 (.pick (.t 28) (cB true) (.t 34)), oP 36 (.mv (.t 35)), oG 37 36 false (.mv (.t 4)), oG 38 36 false (.len (.t 37)), oG 39 36 false (.bin .gtr (.t 38) (cI 1000)),
  oP 40 (.pick (.t 36) (cB true) (.t 39))]) (.cond (.t 40) (.seq (.ops false [oP 41 (.bld [(.v (.int .i64 0)), (.v (.int .i64 0))] []), oP 10 (.mv (.c .mt)), oS (.st 2 (.t 11) (.t 41)), oP 12 (.mv (cI 9))]) .ret) .skip))) c21_9))
def r21 : List RV := [(.tmp 10), (.cell 11 2 true), (.tmp 12)]
theorem c21_ok : ∃ code, Tryd.f21.body = some code ∧ compC Tryd.prog Tryd.f21.ntmps code = some (C.strip c21) := ⟨_, rfl, by kernel_rfl⟩
theorem r21_ok : compRes Tryd.prog Tryd.f21.results.toList = some r21 := by kernel_rfl
theorem f21_ok : fnOk Tryd.prog 21 = true := by kernel_rfl
def c22_1 : C := (.seq (.ops true [oP 99 (.mv (.t 14)), oP 100 (.mv (.t 2)), oP 101 (.mv (.t 3)), oP 102 (.mv (.t 16)), oA 103 (.iaS 2 (.t 101) (.t 102)) [3, 2], oA 104 (.ld 2 true (.t 103)) [2, 3, 4], oP 105 (.mv (.t 3)), oP 106 (.mv (.t 16)), oA 107 (.bin .add (.t 106) (cI 1)) [7], oA 108 (.iaS 2 (.t 105) (.t 107)) [7, 8, 6], oA 109 (.ld 2 true (.t 108)) [6, 8, 7, 9], oP 110 (.mv (.t 4)), oP 111 (.mv (.t 16)),
  oA 112 (.iaS 2 (.t 110) (.t 111)) [12, 11], oA 113 (.ld 2 true (.t 112)) [11, 12, 13], oP 114 (.fa 0 (.t 20)), oA 115 (.ld 1 false (.t 114)) [15], oP 116 (.fa 0 (.t 15)), oA 117 (.ld 1 false (.t 116)) [17], oA 118 (.bin .sub (.t 115) (.t 117)) [17, 15, 18, 16], oA 119 (.bld [(.v (.int .i64 0)), (.v (.int .i64 0)), (.v (.int .i64 0)), (.v (.int .i64 0)), (.v (.int .i64 0)), (.v (.int .i64 0)),
  (.v (.int .i64 0)), (.v (.int .i64 0))] [(0, (1, (.t 100))), (1, (2, (.t 104))), (3, (2, (.t 109))), (5, (2, (.t 113))), (7, (1, (.t 118)))]) [16, 18, 15, 17, 13, 12, 11, 9, 7, 8, 6, 4, 3, 2, 19, 14, 10, 5, 1], oA 120 (.bsl 8 1 [(.v (.int .i64 0)), (.v (.int .i64 0)), (.v (.int .i64 0)), (.v (.int .i64 0)), (.v (.int .i64 0)), (.v (.int .i64 0)), (.v (.int .i64 0)), (.v (.int .i64 0))] [(0,
  (.t 119))]) [1, 5, 10, 14, 19, 2, 3, 4, 6, 8, 7, 9, 11, 12, 13, 17, 15, 18, 16, 20], oA 121 (.app 8 64 (.t 99) (.t 120)) [20, 16, 18, 15, 17, 13, 12, 11, 9, 7, 8, 6, 4, 3, 2, 19, 14, 10, 5, 1, 21, 0], oA 14 (.mv (.t 121)) [21, 20, 19, 18, 17, 16, 15, 14, 13, 12, 11, 10, 9, 8, 7, 6, 5, 4, 3, 2, 1, 0, 22]]) (.ops false [oP 122 (.ld 2 true (.t 20)), oS (.st 2 (.t 15) (.t 122))]))
def c22_2 : C := (.seq (.ops false [oP 89 (.ld 2 true (.t 15)), oP 90 (.mv (.t 17)), oP 91 (.mv (.t 19)), oB 92 (.call 65 [(.t 89), (.t 90), (.t 91)]), oP 88 (.mv (.t 92)), oP 93 (.ext (.t 88) 0), oP 94 (.ext (.t 88) 1), oP 20 (.new [(.v (.int .i64 0)), (.v (.int .i64 0))]), oS (.st 2 (.t 20) (.t 93)), oP 18 (.mv (.t 94))]) (.seq (.seq (.ops false [oP 95 (.mv (.t 18)), oP 96 (.bin .neq (.t 95) (cI 0))])
  (.cond (.t 96) (.seq (.ops false [oP 97 (.bld [(.v (.int .i64 0)), (.v (.int .i64 0))] []), oP 98 (.mv (.t 18)), oP 10 (.mv (.c .mt)), oS (.st 2 (.t 11) (.t 97)), oP 12 (.mv (.t 98))]) .ret) .skip)) c22_1))
def c22_3 : C := (.seq (.ops true [oP 76 (.ld 5 true (.t 6)), oP 77 (.mv (.t 4)), oP 78 (.mv (.t 16)), oA 79 (.iaS 2 (.t 77) (.t 78)) [2, 1], oA 80 (.ld 2 true (.t 79)) [1, 2, 3], oE 81 (.call 35 [(.t 76), (.t 80)]) [3, 2, 1, 4, 0], oA 75 (.mv (.t 81)) [0, 4, 1, 2, 3, 5], oA 82 (.ext (.t 75) 0) [5, 3, 2, 1, 4, 0, 6], oA 83 (.ext (.t 75) 1) [5, 3, 2, 1, 4, 0, 6], oA 19 (.mv (.t 82)) [6, 4, 3, 2, 1, 0, 5, 7],
  oA 18 (.mv (.t 83)) [7, 6, 5, 4, 3, 2, 1, 0, 9, 8]]) (.seq (.seq (.ops false [oP 84 (.mv (.t 18)), oP 85 (.bin .neq (.t 84) (cI 0))]) (.cond (.t 85) (.seq (.ops false [oP 86 (.bld [(.v (.int .i64 0)), (.v (.int .i64 0))] []), oP 87 (.mv (.t 18)), oP 10 (.mv (.c .mt)), oS (.st 2 (.t 11) (.t 86)), oP 12 (.mv (.t 87))]) .ret) .skip)) c22_2))
def c22_4 : C := (.ops false [oP 55 (.mv (.t 16)), oP 56 (.bin .add (.t 55) (cI 1)), oP 16 (.mv (.t 56))])
def c22_5 : C := (.seq (.block 1 (.seq (.ops true [oP 58 (.ld 3 true (.t 5)), oP 59 (.mv (.t 3)), oP 60 (.mv (.t 16)), oA 61 (.iaS 2 (.t 59) (.t 60)) [2, 1], oA 62 (.ld 2 true (.t 61)) [1, 2, 3], oP 63 (.mv (.t 3)), oP 64 (.mv (.t 16)), oA 65 (.bin .add (.t 64) (cI 1)) [6], oA 66 (.iaS 2 (.t 63) (.t 65)) [6, 7, 5], oA 67 (.ld 2 true (.t 66)) [5, 7, 6, 8], oE 68 (.call 60 [(.t 58), (.t 62), (.t 67)]) [8, 6, 7, 5,
  3, 2, 1, 9, 4, 0], oA 57 (.mv (.t 68)) [0, 4, 9, 1, 2, 3, 5, 7, 6, 8, 10], oA 69 (.ext (.t 57) 0) [10, 8, 6, 7, 5, 3, 2, 1, 9, 4, 0, 11], oA 70 (.ext (.t 57) 1) [10, 8, 6, 7, 5, 3, 2, 1, 9, 4, 0, 11], oA 17 (.mv (.t 69)) [11, 9, 8, 7, 6, 5, 4, 3, 2, 1, 0, 10, 12], oA 18 (.mv (.t 70)) [12, 11, 10, 9, 8, 7, 6, 5, 4, 3, 2, 1, 0, 14, 13]]) (.seq (.seq (.ops false [oP 71 (.mv (.t 18)),
  oP 72 (.bin .neq (.t 71) (cI 0))]) (.cond (.t 72) (.seq (.ops false [oP 73 (.bld [(.v (.int .i64 0)), (.v (.int .i64 0))] []), oP 74 (.mv (.t 18)), oP 10 (.mv (.c .mt)), oS (.st 2 (.t 11) (.t 73)), oP 12 (.mv (.t 74))]) .ret) .skip)) c22_3))) c22_4)
def c22_6 : C := (.seq (.seq (.ops false [oP 51 (.mv (.t 16)), oP 52 (.mv (.t 4)), oP 53 (.len (.t 52)), oP 54 (.bin .lss (.t 51) (.t 53))]) (.cond (.t 54) .skip (.exit 0))) c22_5)
def c22_7 : C := (.seq (.ops true [oP 123 (.mv (.t 14)), oP 124 (.ld 2 true (.t 15)), oA 10 (.mv (.t 123)) [0], oT (.st 2 (.t 11) (.t 124)) [0, 2, 1], oA 12 (.mv (cI 0)) [2, 1, 0, 3]]) .ret)
def c22_8 : C := (.seq (.ops false [oP 14 (.mv (.c .mt))]) (.seq (.ops false [oP 15 (.new [(.v (.int .i64 0)), (.v (.int .i64 0))])]) (.seq (.seq (.ops false [oP 16 (.mv (cI 0))]) (.block 0 (.loop c22_6))) c22_7)))
def c22_9 : C := (.seq (.seq (.ops false [oP 43 (.ld 3 true (.t 5)), oP 44 (.ld 5 true (.t 6)), oP 45 (.mv (.t 2)), oB 46 (.call 59 [(.t 43), (.t 44), (.t 45)]), oP 13 (.mv (.t 46))]) (.seq (.ops false [oP 47 (.mv (.t 13)), oP 48 (.bin .neq (.t 47) (cI 0))]) (.cond (.t 48) (.seq (.ops false [oP 49 (.bld [(.v (.int .i64 0)), (.v (.int .i64 0))] []), oP 50 (.mv (.t 13)), oP 10 (.mv (.c .mt)), oS (.st 2 (.t 11)
  (.t 49)), oP 12 (.mv (.t 50))]) .ret) .skip))) c22_8)
def c22 : C := (.seq (.ops false [oP 5 (.box 3 (.t 0)), oP 6 (.box 5 (.t 1)), oP 10 (.mv (.c .mt)), oP 11 (.new [(.v (.int .i64 0)), (.v (.int .i64 0))]), oP 12 (.mv (cI 0))]) (.seq (.seq (.ops false [oP 21 (.ld 3 true (.t 5)), oB 22 (.call 63 [(.t 21)]), oP 23 (.not (.t 22)), oP 24 (.mv (.t 23)), oG 25 24 false (.ld 5 true (.t 6)), oD 26 24 false (.call 64 [(.t 25)]) [], oG 27 24 false (.not (.t 26)),
  oP 28 (.pick (.t 24) (cB true) (.t 27)), oP 29 (.mv (.t 28)), oG 30 29 false (.mv (.t 3)), oG 31 29 false (.len (.t 30)), oG 32 29 false (.mv (.t 4)), oG 33 29 false (.len (.t 32)), oG 34 29 false (.bin .add (.t 33) (cI 1)), oG 35 29 false (.bin .neq (.t 31) (.t 34)), oP 36 (.pick (.t 29) (cB true) (.t 35)), oP 37 (.mv (.t 36)), oG 38 37 false (.mv (.t 4)), oG 39 37 false (.len (.t 38)),
  oG 40 37 false (.bin .gtr (.t 39) (cI 1000)), oP 41 (.pick (.t 37) (cB true) (.t 40))]) (.cond (.t 41) (.seq (.ops false [oP 42 (.bld [(.v (.int .i64 0)), (.v (.int .i64 0))] []), oP 10 (.mv (.c .mt)), oS (.st 2 (.t 11) (.t 42)), oP 12 (.mv (cI 9))]) .ret) .skip)) c22_9))
def r22 : List RV := [(.tmp 10), (.cell 11 2 true), (.tmp 12)]
theorem c22_ok : ∃ code, Tryd.f22.body = some code ∧ compC Tryd.prog Tryd.f22.ntmps code = some (C.strip c22) := ⟨_, rfl, by kernel_rfl⟩
theorem r22_ok : compRes Tryd.prog Tryd.f22.results.toList = some r22 := by kernel_rfl
theorem f22_ok : fnOk Tryd.prog 22 = true := by kernel_rfl
def c23_1 : C := (.ops false [oP 15 (.mv (.t 5)), oP 16 (.bin .add (.t 15) (cI 1)), oP 5 (.mv (.t 16))])
def c23_2 : C := (.seq (.block 1 (.seq (.ops true [oP 17 (.mv (.t 0)), oP 18 (.mv (.t 5)), oA 19 (.iaS 8 (.t 17) (.t 18)) [1, 0], oA 20 (.ld 8 true (.t 19)) [0, 1, 2], oP 21 (.mv (.t 1)), oP 22 (.mv (.t 5)), oA 23 (.iaS 8 (.t 21) (.t 22)) [5, 4], oA 24 (.ld 8 true (.t 23)) [4, 5, 6], oA 25 (.eqa true [0, 0, 0, 0, 0, 0, 0, 0] (.t 20) (.t 24)) [6, 5, 4, 2, 1, 0, 7, 3]]) (.cond (.t 25)
  (.seq (.ops false [oP 4 (.mv (cB false))]) .ret) .skip))) c23_1)
def c23_3 : C := (.seq (.seq (.ops false [oP 11 (.mv (.t 5)), oP 12 (.mv (.t 0)), oP 13 (.len (.t 12)), oP 14 (.bin .lss (.t 11) (.t 13))]) (.cond (.t 14) .skip (.exit 0))) c23_2)
def c23_4 : C := (.seq (.ops false [oP 4 (.mv (cB true))]) .ret)
def c23_5 : C := (.seq (.seq (.ops false [oP 5 (.mv (cI 0))]) (.block 0 (.loop c23_3))) c23_4)
def c23 : C := (.seq (.ops false [oP 4 (.mv (cB false))]) (.seq (.seq (.ops false [oP 6 (.mv (.t 0)), oP 7 (.len (.t 6)), oP 8 (.mv (.t 1)), oP 9 (.len (.t 8)), oP 10 (.bin .neq (.t 7) (.t 9))]) (.cond (.t 10) (.seq (.ops false [oP 4 (.mv (cB false))]) .ret) .skip)) c23_5))
def r23 : List RV := [(.tmp 4)]
theorem c23_ok : ∃ code, Tryd.f23.body = some code ∧ compC Tryd.prog Tryd.f23.ntmps code = some (C.strip c23) := ⟨_, rfl, by kernel_rfl⟩
theorem r23_ok : compRes Tryd.prog Tryd.f23.results.toList = some r23 := by kernel_rfl
theorem f23_ok : fnOk Tryd.prog 23 = true := by kernel_rfl
def c24_1 : C := (.seq (.ops false [oP 6 (.mv (cI 0))]) .ret)
def c24 : C := (.seq (.ops false [oP 3 (.box 3 (.t 0)), oP 4 (.box 5 (.t 1)), oP 5 (.box 8 (.t 2)), oP 6 (.mv (cI 0))]) (.seq (.ops false [oP 10 (.ld 3 true (.t 3)), oP 11 (.ld 5 true (.t 4)), oP 12 (.fa 0 (.t 5)), oP 13 (.ld 1 false (.t 12)), oP 14 (.fa 1 (.t 5)), oP 15 (.ld 2 true (.t 14)), oP 16 (.fa 3 (.t 5)), oP 17 (.ld 2 true (.t 16)), oP 18 (.fa 5 (.t 5)), oP 19 (.ld 2 true (.t 18)),
  oB 20 (.call 19 [(.t 10), (.t 11), (.t 13), (.t 15), (.t 17), (.t 19)]), oP 9 (.mv (.t 20)), oP 21 (.ext (.t 9) 0), oP 22 (.ext (.t 9) 1), oP 7 (.new [(.v (.int .i64 0)), (.v (.int .i64 0)), (.v (.int .i64 0)), (.v (.int .i64 0)), (.v (.int .i64 0)), (.v (.int .i64 0)), (.v (.int .i64 0)), (.v (.int .i64 0))]), oS (.st 8 (.t 7) (.t 21)), oP 8 (.mv (.t 22))])
  (.seq (.block 0 (.seq (.ops false [oP 24 (.mv (.t 8)), oP 25 (.bin .neq (.t 24) (cI 0)), oP 23 (.mv (.t 25))]) (.cond (.t 23) (.seq (.ops false [oP 26 (.mv (.t 8)), oP 6 (.mv (.t 26))]) .ret) (.seq (.ops false [oP 28 (.ld 8 true (.t 7)), oP 29 (.ld 8 true (.t 5)), oP 30 (.eqa true [0, 0, 0, 0, 0, 0, 0, 0] (.t 28) (.t 29)), oP 27 (.mv (.t 30))]) (.cond (.t 27)
  (.seq (.ops false [oP 6 (.mv (cI 26))]) .ret) .skip))))) c24_1)))
def r24 : List RV := [(.tmp 6)]
theorem c24_ok : ∃ code, Tryd.f24.body = some code ∧ compC Tryd.prog Tryd.f24.ntmps code = some (C.strip c24) := ⟨_, rfl, by kernel_rfl⟩
theorem r24_ok : compRes Tryd.prog Tryd.f24.results.toList = some r24 := by kernel_rfl
theorem f24_ok : fnOk Tryd.prog 24 = true := by kernel_rfl
def c25_1 : C := (.seq (.ops false [oP 6 (.mv (cI 0))]) .ret)
def c25_2 : C := (.seq (.seq (.ops false [oP 26 (.ld 8 true (.t 7)), oP 27 (.ld 8 true (.t 5)), oP 28 (.eqa true [0, 0, 0, 0, 0, 0, 0, 0] (.t 26) (.t 27))]) (.cond (.t 28) (.seq (.ops false [oP 6 (.mv (cI 26))]) .ret) .skip)) c25_1)
def c25 : C := (.seq (.ops false [oP 3 (.box 3 (.t 0)), oP 4 (.box 5 (.t 1)), oP 5 (.box 8 (.t 2)), oP 6 (.mv (cI 0))]) (.seq (.ops false [oP 10 (.ld 3 true (.t 3)), oP 11 (.ld 5 true (.t 4)), oP 12 (.fa 0 (.t 5)), oP 13 (.ld 1 false (.t 12)), oP 14 (.fa 1 (.t 5)), oP 15 (.ld 2 true (.t 14)), oP 16 (.fa 3 (.t 5)), oP 17 (.ld 2 true (.t 16)), oP 18 (.fa 5 (.t 5)), oP 19 (.ld 2 true (.t 18)),
  oB 20 (.call 20 [(.t 10), (.t 11), (.t 13), (.t 15), (.t 17), (.t 19)]), oP 9 (.mv (.t 20)), oP 21 (.ext (.t 9) 0), oP 22 (.ext (.t 9) 1), oP 7 (.new [(.v (.int .i64 0)), (.v (.int .i64 0)), (.v (.int .i64 0)), (.v (.int .i64 0)), (.v (.int .i64 0)), (.v (.int .i64 0)), (.v (.int .i64 0)), (.v (.int .i64 0))]), oS (.st 8 (.t 7) (.t 21)), oP 8 (.mv (.t 22))])
  (.seq (.seq (.ops false [oP 23 (.mv (.t 8)), oP 24 (.bin .neq (.t 23) (cI 0))]) (.cond (.t 24) (.seq (.ops false [oP 25 (.mv (.t 8)), oP 6 (.mv (.t 25))]) .ret) .skip)) c25_2)))
def r25 : List RV := [(.tmp 6)]
theorem c25_ok : ∃ code, Tryd.f25.body = some code ∧ compC Tryd.prog Tryd.f25.ntmps code = some (C.strip c25) := ⟨_, rfl, by kernel_rfl⟩
theorem r25_ok : compRes Tryd.prog Tryd.f25.results.toList = some r25 := by kernel_rfl
theorem f25_ok : fnOk Tryd.prog 25 = true := by kernel_rfl
def c26_1 : C := (.ops false [oP 32 (.bin .add (.t 10) (cI 1)), oP 10 (.mv (.t 32))])
def c26_2 : C := (.seq (.block 1 (.seq (.ops false [oP 12 (.iaS 8 (.t 8) (.t 10)), oP 13 (.ld 8 true (.t 12)), oP 7 (.new [(.v (.int .i64 0)), (.v (.int .i64 0)), (.v (.int .i64 0)), (.v (.int .i64 0)), (.v (.int .i64 0)), (.v (.int .i64 0)), (.v (.int .i64 0)), (.v (.int .i64 0))]), oS (.st 8 (.t 7) (.t 13))]) (.seq (.ops false [oP 14 (.fa 0 (.t 7)), oP 15 (.ld 1 false (.t 14)), oP 16 (.mv (.t 1)),
  oP 17 (.bin .eql (.t 15) (.t 16)), oP 18 (.mv (.t 17)), oG 19 18 true (.fa 7 (.t 7)), oG 20 18 true (.ld 1 false (.t 19)), oG 21 18 true (.bin .geq (.t 20) (cI 0)), oP 22 (.pick (.t 18) (.t 21) (cB false)), oP 23 (.mv (.t 22)), oG 24 23 true (.fa 7 (.t 7)), oG 25 23 true (.ld 1 false (.t 24)), oG 26 23 true (.bin .leq (.t 25) (cI 1099511627776)), oP 27 (.pick (.t 23) (.t 26) (cB false))])
  (.cond (.t 27) (.ops false [oP 28 (.mv (.t 5)), oP 29 (.fa 7 (.t 7)), oP 30 (.ld 1 false (.t 29)), oP 31 (.bin .add (.t 28) (.t 30)), oP 5 (.mv (.t 31))]) .skip)))) c26_1)
def c26_3 : C := (.seq (.ops false [oP 11 (.bin .lss (.t 10) (.t 9))]) (.seq (.cond (.t 11) .skip (.exit 0)) c26_2))
def c26_4 : C := (.seq (.ops false [oP 33 (.mv (.t 5)), oP 4 (.mv (.t 33))]) .ret)
def c26 : C := (.seq (.ops false [oP 4 (.mv (cI 0))]) (.seq (.ops false [oP 5 (.mv (cI 0))]) (.seq (.seq (.ops false [oP 8 (.mv (.t 0)), oP 9 (.len (.t 8)), oP 10 (.mv (cI 0))]) (.block 0 (.loop c26_3))) c26_4)))
def r26 : List RV := [(.tmp 4)]
theorem c26_ok : ∃ code, Tryd.f26.body = some code ∧ compC Tryd.prog Tryd.f26.ntmps code = some (C.strip c26) := ⟨_, rfl, by kernel_rfl⟩
theorem r26_ok : compRes Tryd.prog Tryd.f26.results.toList = some r26 := by kernel_rfl
theorem f26_ok : fnOk Tryd.prog 26 = true := by kernel_rfl
def c27_1 : C := (.ops false [oP 11 (.mv (.t 6)), oP 12 (.bin .add (.t 11) (cI 1)), oP 6 (.mv (.t 12))])
def c27_2 : C := (.seq (.block 1 (.seq (.ops false [oP 13 (.mv (.t 0)), oP 14 (.mv (.t 6)), oP 15 (.iaS 8 (.t 13) (.t 14)), oP 16 (.fa 0 (.t 15)), oP 17 (.ld 1 false (.t 16)), oP 18 (.mv (.t 1)), oP 19 (.bin .eql (.t 17) (.t 18)), oP 20 (.mv (.t 19)), oG 21 20 true (.mv (.t 0)), oG 22 20 true (.mv (.t 6)), oG 23 20 true (.iaS 8 (.t 21) (.t 22)), oG 24 20 true (.fa 7 (.t 23)), oG 25 20 true (.ld 1 false (.t 24)),
  oG 26 20 true (.bin .geq (.t 25) (cI 0)), oP 27 (.pick (.t 20) (.t 26) (cB false)), oP 28 (.mv (.t 27)), oG 29 28 true (.mv (.t 0)), oG 30 28 true (.mv (.t 6)), oG 31 28 true (.iaS 8 (.t 29) (.t 30)), oG 32 28 true (.fa 7 (.t 31)), oG 33 28 true (.ld 1 false (.t 32)), oG 34 28 true (.bin .leq (.t 33) (cI 1099511627776)), oP 35 (.pick (.t 28) (.t 34) (cB false))]) (.cond (.t 35)
  (.ops false [oP 36 (.mv (.t 5)), oP 37 (.mv (.t 0)), oP 38 (.mv (.t 6)), oP 39 (.iaS 8 (.t 37) (.t 38)), oP 40 (.fa 7 (.t 39)), oP 41 (.ld 1 false (.t 40)), oP 42 (.bin .add (.t 36) (.t 41)), oP 5 (.mv (.t 42))]) .skip))) c27_1)
def c27_3 : C := (.seq (.seq (.ops false [oP 7 (.mv (.t 6)), oP 8 (.mv (.t 0)), oP 9 (.len (.t 8)), oP 10 (.bin .lss (.t 7) (.t 9))]) (.cond (.t 10) .skip (.exit 0))) c27_2)
def c27_4 : C := (.seq (.ops false [oP 43 (.mv (.t 5)), oP 4 (.mv (.t 43))]) .ret)
def c27 : C := (.seq (.ops false [oP 4 (.mv (cI 0))]) (.seq (.ops false [oP 5 (.mv (cI 0))]) (.seq (.seq (.ops false [oP 6 (.mv (cI 0))]) (.block 0 (.loop c27_3))) c27_4)))
def r27 : List RV := [(.tmp 4)]
theorem c27_ok : ∃ code, Tryd.f27.body = some code ∧ compC Tryd.prog Tryd.f27.ntmps code = some (C.strip c27) := ⟨_, rfl, by kernel_rfl⟩
theorem r27_ok : compRes Tryd.prog Tryd.f27.results.toList = some r27 := by kernel_rfl
theorem f27_ok : fnOk Tryd.prog 27 = true := by kernel_rfl
def c55_1 : C := (.seq (.ops false [oP 6 (.mv (cI 0))]) .ret)
def c55 : C := (.seq (.ops false [oP 3 (.box 3 (.t 0)), oP 4 (.box 5 (.t 1)), oP 6 (.mv (cI 0))]) (.seq (.block 0 (.seq (.ops false [oP 8 (.ld 3 true (.t 3)), oB 9 (.call 90 [(.t 8)]), oP 10 (.not (.t 9)), oP 11 (.mv (.t 10)), oG 12 11 false (.ld 5 true (.t 4)), oD 13 11 false (.call 91 [(.t 12)]) [], oG 14 11 false (.not (.t 13)), oP 15 (.pick (.t 11) (cB true) (.t 14)), oP 7 (.mv (.t 15))]) (.cond (.t 7)
  (.seq (.ops false [oP 6 (.mv (cI 9))]) .ret) (.seq (.ops false [oP 17 (.mv (.t 2)), oP 18 (.bin .lss (.t 17) (cI 0)), oP 19 (.mv (.t 18)), oG 20 19 false (.mv (.t 2)), oG 21 19 false (.bin .geq (.t 20) (cI 1000)), oP 22 (.pick (.t 19) (cB true) (.t 21)), oP 16 (.mv (.t 22))]) (.cond (.t 16) (.seq (.ops false [oP 6 (.mv (cI 8))]) .ret) .skip))))) c55_1))
def r55 : List RV := [(.tmp 6)]
theorem c55_ok : ∃ code, Tryd.f55.body = some code ∧ compC Tryd.prog Tryd.f55.ntmps code = some (C.strip c55) := ⟨_, rfl, by kernel_rfl⟩
theorem r55_ok : compRes Tryd.prog Tryd.f55.results.toList = some r55 := by kernel_rfl
theorem f55_ok : fnOk Tryd.prog 55 = true := by kernel_rfl
def c59_1 : C := (.seq (.ops false [oP 6 (.mv (cI 0))]) .ret)
def c59_2 : C := (.seq (.seq (.ops false [oP 15 (.mv (.t 2)), oP 16 (.bin .lss (.t 15) (cI 0)), oP 17 (.mv (.t 16)), oG 18 17 false (.mv (.t 2)), oG 19 17 false (.bin .geq (.t 18) (cI 1000)), oP 20 (.pick (.t 17) (cB true) (.t 19))]) (.cond (.t 20) (.seq (.ops false [oP 6 (.mv (cI 8))]) .ret) .skip)) c59_1)
def c59 : C := (.seq (.ops false [oP 3 (.box 3 (.t 0)), oP 4 (.box 5 (.t 1)), oP 6 (.mv (cI 0))]) (.seq (.seq (.ops false [oP 7 (.ld 3 true (.t 3)), oB 8 (.call 63 [(.t 7)]), oP 9 (.not (.t 8)), oP 10 (.mv (.t 9)), oG 11 10 false (.ld 5 true (.t 4)), oD 12 10 false (.call 64 [(.t 11)]) [], oG 13 10 false (.not (.t 12)), oP 14 (.pick (.t 10) (cB true) (.t 13))]) (.cond (.t 14)
  (.seq (.ops false [oP 6 (.mv (cI 9))]) .ret) .skip)) c59_2))
def r59 : List RV := [(.tmp 6)]
theorem c59_ok : ∃ code, Tryd.f59.body = some code ∧ compC Tryd.prog Tryd.f59.ntmps code = some (C.strip c59) := ⟨_, rfl, by kernel_rfl⟩
theorem r59_ok : compRes Tryd.prog Tryd.f59.results.toList = some r59 := by kernel_rfl
theorem f59_ok : fnOk Tryd.prog 59 = true := by kernel_rfl
end Go.Proofs.YtehmmnnmkapfeaaDoor
