/- PackMoves: CodeCM CmB CmC CmP CmF CodeCT CtA CtB. -/
import Derived.Test.YtehmmnnmkapfeaaDoorKv3
import Derived.Test.YtehmmnnmkapfeaaDoorProg
import Derived.Test.YtehmmnnmkapfeaaDoorKv9
import Derived.Test.YtehmmnnmkapfeaaDoorKv8
import Derived.Test.YtehmmnnmkapfeaaDoorKv5
set_option linter.unusedSimpArgs false
set_option linter.unusedVariables false
set_option maxRecDepth 100000

/- Compiled code of some functions (printed by a program), each checked by the kernel. -/
namespace Go.Proofs.YtehmmnnmkapfeaaDoor
open Go
def c57_1 : C := (.seq (.block 1 (.seq (.ops false [oP 38 (.iaS 1 (.t 34) (.t 36)), oP 39 (.ld 1 false (.t 38)), oM 8 39]) (.ops false [oM 40 6, oM 41 8, oP 42 (.ld 2 true (.t 3)), oP 43 (.callv (.t 41) [(.t 42)]), oP 44 (.bin .mul (.t 40) (.t 43)), oM 6 44]))) (.ops false [oP 45 (.bin .add (.t 36) (cI 1)), oM 36 45]))
def c57_2 : C := (.seq (.ops false [oP 37 (.bin .lss (.t 36) (.t 35))]) (.seq (.cond (.t 37) .skip (.exit 0)) c57_1))
def c57_3 : C := (.seq (.ops false [oM 46 6, oB 47 (.call 96 [(.t 46), (cI 1000000)]), oM 4 47, oP 5 (.mv (cI 0))]) .ret)
def c57_4 : C := (.seq (.ops false [oP 6 (.mv (cI 1))]) (.seq (.seq (.ops false [oP 30 (.ld 5 true (.t 2)), oP 31 (.mkf 94 [(.t 30)] []), oP 32 (.ld 5 true (.t 2)), oP 33 (.mkf 95 [(.t 32)] []), oP 34 (.bsl 1 2 [(.v .nilFunc)] [(0, (.t 31)), (1, (.t 33))]), oP 35 (.len (.t 34)), oP 36 (.mv (cI 0))]) (.block 0 (.loop c57_2))) c57_3))
def c57_5 : C := (.seq (.seq (.ops false [oP 12 (.fa 0 (.t 3)), oP 13 (.ld 1 false (.t 12)), oP 14 (.bin .lss (.t 13) (cI (-400))), oM 15 14, oG 16 15 false (.fa 0 (.t 3)), oG 17 15 false (.ld 1 false (.t 16)), oG 18 15 false (.bin .gtr (.t 17) (cI 1000)), oP 19 (.pick (.t 15) (cB true) (.t 18)), oM 20 19, oG 21 20 false (.fa 1 (.t 3)), oG 22 20 false (.ld 1 false (.t 21)),
 oG 23 20 false (.bin .lss (.t 22) (cI 0)), oP 24 (.pick (.t 20) (cB true) (.t 23)), oM 25 24, oG 26 25 false (.fa 1 (.t 3)), oG 27 25 false (.ld 1 false (.t 26)), oG 28 25 false (.bin .gtr (.t 27) (cI 20000)), oP 29 (.pick (.t 25) (cB true) (.t 28))]) (.cond (.t 29) (.seq (.ops false [oP 4 (.mv (cI 0)), oP 5 (.mv (cI 1))]) .ret) .skip)) c57_4)
def c57 : C := (.seq (.ops false [oP 2 (.box 5 (.t 0)), oP 3 (.box 2 (.t 1)), oP 4 (.mv (cI 0)), oP 5 (.mv (cI 0))]) (.seq (.seq (.ops false [oP 9 (.ld 5 true (.t 2)), oB 10 (.call 91 [(.t 9)]), oP 11 (.not (.t 10))]) (.cond (.t 11) (.seq (.ops false [oP 4 (.mv (cI 0)), oP 5 (.mv (cI 9))]) .ret) .skip)) c57_5))
def r57 : List RV := [(.tmp 4), (.tmp 5)]
theorem c57_ok : ∃ code, Tryd.f57.body = some code ∧ compC Tryd.prog Tryd.f57.ntmps code = some (C.strip c57) := ⟨_, rfl, by kernel_rfl⟩
theorem r57_ok : compRes Tryd.prog Tryd.f57.results.toList = some r57 := by kernel_rfl
theorem f57_ok : fnOk Tryd.prog 57 = true := by kernel_rfl
def c58_1 : C := (.seq (.ops false [oM 10 0, oM 11 1, oP 12 (.bin .mul (.t 10) (.t 11)), oB 13 (.call 96 [(.t 12), (cI 1000000)]), oM 4 13, oP 5 (.mv (cI 0))]) .ret)
def c58 : C := (.seq (.ops false [oP 4 (.mv (cI 0)), oP 5 (.mv (cI 0))]) (.seq (.seq (.ops false [oM 6 0, oM 7 1, oB 8 (.call 97 [(.t 6), (.t 7)]), oP 9 (.not (.t 8))]) (.cond (.t 9) (.seq (.ops false [oP 4 (.mv (cI 0)), oP 5 (.mv (cI 1))]) .ret) .skip)) c58_1))
def r58 : List RV := [(.tmp 4), (.tmp 5)]
theorem c58_ok : ∃ code, Tryd.f58.body = some code ∧ compC Tryd.prog Tryd.f58.ntmps code = some (C.strip c58) := ⟨_, rfl, by kernel_rfl⟩
theorem r58_ok : compRes Tryd.prog Tryd.f58.results.toList = some r58 := by kernel_rfl
theorem f58_ok : fnOk Tryd.prog 58 = true := by kernel_rfl
def c91_1 : C := (.ops false [oP 27 (.bin .add (.t 9) (cI 1)), oM 9 27])
def c91_2 : C := (.seq (.block 1 (.seq (.ops false [oM 11 9, oP 12 (.ixA 4 2 true (.t 8) (.t 9)), oP 5 (.new [(.v (.int .i64 0)), (.v (.int .i64 0))]), oM 4 11, oS (.st 2 (.t 5) (.t 12))]) (.seq (.ops true [oM 13 4, oA 14 (.iaA 4 1 (.t 3) (.t 13)) [0], oA 15 (.ld 1 false (.t 14)) [0, 1], oP 16 (.fa 0 (.t 5)), oA 17 (.ld 1 false (.t 16)) [3], oA 18 (.bin .lss (.t 15) (.t 17)) [3, 1,
 0, 4, 2], oA 19 (.mv (.t 18)) [2, 4, 0, 1, 3, 5], oH 20 19 false (.mv (.t 4)) [5, 3, 1, 0, 4, 2, 6], oH 21 19 false (.iaA 4 1 (.t 3) (.t 20)) [2, 4, 0, 1, 3, 5, 6, 7], oH 22 19 false (.ld 1 false (.t 21)) [7, 5, 3, 1, 0, 4, 2, 6, 8], oH 23 19 false (.fa 1 (.t 5)) [5, 3, 1, 0, 4, 2, 6], oH 24 19 false (.ld 1 false (.t 23)) [2, 4, 0, 1, 3, 5, 6, 10], oH 25 19 false (.bin .gtr (.t 22) (.t 24)) [10,
 8, 2, 4, 0, 1, 3, 5, 7, 6, 11, 9], oA 26 (.pick (.t 19) (cB true) (.t 25)) [9, 11, 7, 8, 10, 5, 3, 1, 0, 4, 2, 12, 6]]) (.cond (.t 26) (.seq (.ops false [oP 2 (.mv (cB false))]) .ret) .skip)))) c91_1)
def c91_3 : C := (.seq (.ops false [oP 10 (.bin .lss (.t 9) (cI 4))]) (.seq (.cond (.t 10) .skip (.exit 0)) c91_2))
def c91_4 : C := (.seq (.ops false [oP 28 (.fa 0 (.t 1)), oP 29 (.ld 1 false (.t 28)), oB 30 (.call 113 [(.t 29)]), oM 2 30]) .ret)
def c91 : C := (.seq (.ops false [oP 1 (.box 5 (.t 0)), oP 2 (.mv (cB false))]) (.seq (.ops false [oP 6 (.ld 5 true (.t 1)), oB 7 (.call 127 [(.t 6)]), oP 3 (.new [(.v (.int .i64 0)), (.v (.int .i64 0)), (.v (.int .i64 0)), (.v (.int .i64 0))]), oS (.st 4 (.t 3) (.t 7))]) (.seq (.seq (.ops false [oP 8 (.ld 8 true (.c (.ip [(.v (.int .i64 400)), (.v (.int .i64 1200)), (.v (.int .i64 0)), (.v (.int .i64 2000)),
 (.v (.int .i64 0)), (.v (.int .i64 5000)), (.v (.int .i64 1)), (.v (.int .i64 2000))]))), oP 9 (.mv (cI 0))]) (.block 0 (.loop c91_3))) c91_4)))
def r91 : List RV := [(.tmp 2)]
theorem c91_ok : ∃ code, Tryd.f91.body = some code ∧ compC Tryd.prog Tryd.f91.ntmps code = some (C.strip c91) := ⟨_, rfl, by kernel_rfl⟩
theorem r91_ok : compRes Tryd.prog Tryd.f91.results.toList = some r91 := by kernel_rfl
theorem f91_ok : fnOk Tryd.prog 91 = true := by kernel_rfl
def c94 : C := (.seq (.ops false [oP 2 (.box 5 (.t 0)), oP 3 (.box 2 (.t 1)), oP 4 (.mv (cI 0))]) (.seq (.ops false [oP 5 (.fa 2 (.t 2)), oP 6 (.ld 1 false (.t 5)), oP 7 (.fa 0 (.t 3)), oP 8 (.ld 1 false (.t 7)), oP 9 (.bin .sub (.t 8) (cI 150)), oP 10 (.bin .mul (.t 6) (.t 9)), oB 11 (.call 96 [(.t 10), (cI 10)]), oP 12 (.bin .sub (cI 1000000) (.t 11)), oM 4 12]) .ret))
def r94 : List RV := [(.tmp 4)]
theorem c94_ok : ∃ code, Tryd.f94.body = some code ∧ compC Tryd.prog Tryd.f94.ntmps code = some (C.strip c94) := ⟨_, rfl, by kernel_rfl⟩
theorem r94_ok : compRes Tryd.prog Tryd.f94.results.toList = some r94 := by kernel_rfl
theorem f94_ok : fnOk Tryd.prog 94 = true := by kernel_rfl
def c95 : C := (.seq (.ops false [oP 2 (.box 5 (.t 0)), oP 3 (.box 2 (.t 1)), oP 4 (.mv (cI 0))]) (.seq (.ops false [oP 5 (.fa 3 (.t 2)), oP 6 (.ld 1 false (.t 5)), oP 7 (.fa 1 (.t 3)), oP 8 (.ld 1 false (.t 7)), oP 9 (.bin .mul (.t 6) (.t 8)), oB 10 (.call 96 [(.t 9), (cI 1000)]), oP 11 (.bin .add (cI 1000000) (.t 10)), oM 4 11]) .ret))
def r95 : List RV := [(.tmp 4)]
theorem c95_ok : ∃ code, Tryd.f95.body = some code ∧ compC Tryd.prog Tryd.f95.ntmps code = some (C.strip c95) := ⟨_, rfl, by kernel_rfl⟩
theorem r95_ok : compRes Tryd.prog Tryd.f95.results.toList = some r95 := by kernel_rfl
theorem f95_ok : fnOk Tryd.prog 95 = true := by kernel_rfl
def c96_1 : C := (.seq (.ops false [oM 24 5, oM 4 24]) .ret)
def c96 : C := (.seq (.ops false [oP 4 (.mv (cI 0))]) (.seq (.ops false [oM 9 0, oM 10 1, oB 11 (.call 130 [(.t 9), (.t 10)]), oM 8 11, oP 12 (.ext (.t 8) 0), oP 13 (.ext (.t 8) 1), oP 14 (.ext (.t 8) 2), oM 5 12, oM 6 13, oM 7 14]) (.seq (.seq (.ops false [oM 15 7, oM 16 15, oG 17 16 true (.mv (.t 6)),
 oG 18 16 true (.bin .mul (cI 2) (.t 17)), oG 19 16 true (.mv (.t 1)), oG 20 16 true (.bin .geq (.t 18) (.t 19)), oP 21 (.pick (.t 16) (.t 20) (cB false))]) (.cond (.t 21) (.ops false [oM 22 5, oP 23 (.bin .add (.t 22) (cI 1)), oM 5 23]) .skip)) c96_1)))
def r96 : List RV := [(.tmp 4)]
theorem c96_ok : ∃ code, Tryd.f96.body = some code ∧ compC Tryd.prog Tryd.f96.ntmps code = some (C.strip c96) := ⟨_, rfl, by kernel_rfl⟩
theorem r96_ok : compRes Tryd.prog Tryd.f96.results.toList = some r96 := by kernel_rfl
theorem f96_ok : fnOk Tryd.prog 96 = true := by kernel_rfl
def c97 : C := (.seq (.ops false [oP 4 (.mv (cB false))]) (.seq (.ops false [oM 5 0, oP 6 (.bin .geq (.t 5) (cI 0)), oM 7 6, oG 8 7 true (.mv (.t 0)), oG 9 7 true (.bin .leq (.t 8) (cI 1099511627776)), oP 10 (.pick (.t 7) (.t 9) (cB false)), oM 11 10, oG 12 11 true (.mv (.t 1)), oG 13 11 true (.bin .geq (.t 12) (cI 1)), oP 14 (.pick (.t 11) (.t 13) (cB false)),
 oM 15 14, oG 16 15 true (.mv (.t 1)), oG 17 15 true (.bin .leq (.t 16) (cI 2000000)), oP 18 (.pick (.t 15) (.t 17) (cB false)), oM 4 18]) .ret))
def r97 : List RV := [(.tmp 4)]
theorem c97_ok : ∃ code, Tryd.f97.body = some code ∧ compC Tryd.prog Tryd.f97.ntmps code = some (C.strip c97) := ⟨_, rfl, by kernel_rfl⟩
theorem r97_ok : compRes Tryd.prog Tryd.f97.results.toList = some r97 := by kernel_rfl
theorem f97_ok : fnOk Tryd.prog 97 = true := by kernel_rfl
def c127 : C := (.seq (.ops false [oP 1 (.box 5 (.t 0)), oP 2 (.new [(.v (.int .i64 0)), (.v (.int .i64 0)), (.v (.int .i64 0)), (.v (.int .i64 0))])]) (.seq (.ops false [oP 3 (.fa 1 (.t 1)), oP 4 (.ld 1 false (.t 3)), oP 5 (.fa 2 (.t 1)), oP 6 (.ld 1 false (.t 5)), oP 7 (.fa 3 (.t 1)), oP 8 (.ld 1 false (.t 7)), oP 9 (.fa 4 (.t 1)), oP 10 (.ld 1 false (.t 9)), oP 11 (.bld [(.v (.int .i64 0)), (.v (.int .i64 0)),
 (.v (.int .i64 0)), (.v (.int .i64 0))] [(0, (1, (.t 4))), (1, (1, (.t 6))), (2, (1, (.t 8))), (3, (1, (.t 10)))]), oS (.st 4 (.t 2) (.t 11))]) .ret))
def r127 : List RV := [(.cell 2 4 true)]
theorem c127_ok : ∃ code, Tryd.f127.body = some code ∧ compC Tryd.prog Tryd.f127.ntmps code = some (C.strip c127) := ⟨_, rfl, by kernel_rfl⟩
theorem r127_ok : compRes Tryd.prog Tryd.f127.results.toList = some r127 := by kernel_rfl
theorem f127_ok : fnOk Tryd.prog 127 = true := by kernel_rfl
def c130_1 : C := (.seq (.ops false [oM 36 7, oM 37 8, oM 4 36, oM 5 37, oP 6 (.mv (cB true))]) .ret)
def c130_2 : C := (.seq (.ops true [oM 23 0, oM 24 1, oA 25 (.bin .quo (.t 23) (.t 24)) [1, 0], oM 26 0, oM 27 1, oA 28 (.bin .rem (.t 26) (.t 27)) [4, 3], oA 7 (.mv (.t 25)) [1, 0, 2], oA 8 (.mv (.t 28)) [4, 3, 2, 1, 0, 6, 5]]) (.seq (.seq (.ops false [oM 29 8, oP 30 (.bin .lss (.t 29) (cI 0))]) (.cond (.t 30) (.ops false [oM 31 7,
 oP 32 (.bin .sub (.t 31) (cI 1)), oM 33 8, oM 34 1, oP 35 (.bin .add (.t 33) (.t 34)), oM 7 32, oM 8 35]) .skip)) c130_1))
def c130 : C := (.seq (.ops false [oP 4 (.mv (cI 0)), oP 5 (.mv (cI 0)), oP 6 (.mv (cB false))]) (.seq (.seq (.ops false [oM 9 1, oP 10 (.bin .lss (.t 9) (cI 1)), oM 11 10, oG 12 11 false (.mv (.t 1)), oG 13 11 false (.bin .gtr (.t 12) (cI 1099511627776)), oP 14 (.pick (.t 11) (cB true) (.t 13)), oM 15 14, oG 16 15 false (.mv (.t 0)), oG 17 15 false (.bin .lss (.t 16)
 (cI (-2305843009213693952))), oP 18 (.pick (.t 15) (cB true) (.t 17)), oM 19 18, oG 20 19 false (.mv (.t 0)), oG 21 19 false (.bin .gtr (.t 20) (cI 2305843009213693952)), oP 22 (.pick (.t 19) (cB true) (.t 21))]) (.cond (.t 22) (.seq (.ops false [oP 4 (.mv (cI 0)), oP 5 (.mv (cI 0)), oP 6 (.mv (cB false))]) .ret) .skip)) c130_2))
def r130 : List RV := [(.tmp 4), (.tmp 5), (.tmp 6)]
theorem c130_ok : ∃ code, Tryd.f130.body = some code ∧ compC Tryd.prog Tryd.f130.ntmps code = some (C.strip c130) := ⟨_, rfl, by kernel_rfl⟩
theorem r130_ok : compRes Tryd.prog Tryd.f130.results.toList = some r130 := by kernel_rfl
theorem f130_ok : fnOk Tryd.prog 130 = true := by kernel_rfl
def selX {α : Type} (dec : List D → Option α) (pre : α → Prop) (val : α → D) (args : List D) : Option (Prop × D) := match dec args with
 | some a => some (pre a, val a)
 | Option.none => Option.none
theorem tc_x {P : Program} {f : FuncId} {α : Type} {dec : List D → Option α} {pre : α → Prop} {val : α → D} {enc : α → List D} {T : Tbl} (hf : fnOk P f = true) (hd : ∀ l a, dec l = some a → l = enc a)
  (hc : ∀ a, pre a → ∀ nn, CallsA P f (enc a) Hp.none nn (Pu (val a) Hp.none)) (hT : TblOk P T) : TblOk P (tc f (rowPu (selX dec pre val)) T) :=
 tc_pu hf (fun args p d h hp nn => by
  unfold selX at h
  split at h
  ·rename_i a e
   cases h
   rw [hd _ _ e]
   exact hc a hp nn
  ·cases h) hT
def tt {α : Type} : α → Prop := fun _ => True
def ie (p : Int × Int) : D := .tup [di p.1, di p.2]
def decII : List D → Option (Int × Int)
 | [.v (.int .i64 a), .v (.int .i64 b)] => some (a, b)
 | _ => Option.none
theorem decII_eq : ∀ l a, decII l = some a → l = [di a.1, di a.2] := fun l a h => by unfold decII at h; split at h <;> cases h; rfl
def DvOk (p : Int × Int) : Prop := (-2305843009213693952 ≤ p.1 ∧ p.1 ≤ 2305843009213693952) ∧ (1 ≤ p.2 ∧ p.2 ≤ 1099511627776)
set_option maxHeartbeats 8000000 in
theorem divide_c (a b : Int) (h : DvOk (a, b)) (nn : Nm) : CallsA Tryd.prog 130 [di a, di b] Hp.none nn (Pu (.tup [di (a / b), di (a % b), db true]) Hp.none) := by
 obtain ⟨ha, hb⟩ := h
 dsimp only at ha hb
 obtain ⟨code, h1, h2⟩ := c130_ok
 refine callsA_of (T0_ok _) mixed (N := fun t => (0, t)) Tryd.func130 h1 h2 r130_ok [] false js_nil js_nil' (by simp [Tryd.f130]) ?_
 have d1 : decide (b < 1) = false := decide_eq_false (by omega)
 have d2 : decide ((1099511627776 : Int) < b) = false := decide_eq_false (by omega)
 have d3 : decide (a < (-2305843009213693952 : Int)) = false := decide_eq_false (by omega)
 have d4 : decide ((2305843009213693952 : Int) < a) = false := decide_eq_false (by omega)
 have tb := ctdiv_bd a b ha.1 ha.2
 have w1 : IntKind.i64.wrap (a.tdiv b) = a.tdiv b := wrap_i (by omega)
 have w2 : IntKind.i64.wrap (a.tdiv b - 1) = a.tdiv b - 1 := wrap_i (by omega)
 have p1 := Int.emod_nonneg a (show b ≠ 0 by omega)
 have p2 := Int.emod_lt_of_pos a (show 0 < b by omega)
 have nb : b ≠ 0 := by omega
 cases d5 : decide (a.tmod b < 0) with
 | false =>
  obtain ⟨e1, e2⟩ := ctdiv_pos a b hb.1 (by have := of_decide_eq_false d5; omega)
  simp (maxSteps:=500000) only [↓vp, vv, ↓reduceIte, simprocAttr, c130, r130, c130_1, c130_2, d1, d2, d3, d4, d5, w1, nb, Pu]
  rw [e1, e2]
 | true =>
  obtain ⟨e1, e2⟩ := ctdiv_neg a b hb.1 (of_decide_eq_true d5)
  have w3 : IntKind.i64.wrap (a.tmod b + b) = a.tmod b + b := wrap_i (by omega)
  simp (maxSteps:=500000) only [↓vp, vv, ↓reduceIte, simprocAttr, c130, r130, c130_1, c130_2, d1, d2, d3, d4, d5, w1, w2, w3, nb, Pu]
  rw [e1, e2]
def selDv := selX decII DvOk fun p => .tup [di (p.1 / p.2), di (p.1 % p.2), db true]
theorem tc_dv {T : Tbl} (hT : TblOk Tryd.prog T) : TblOk Tryd.prog (tc 130 (rowPu selDv) T) := tc_x f130_ok decII_eq (fun a h nn => divide_c _ _ h nn) hT
theorem dv_bd {a b : Int} (h : DvOk (a, b)) : -2305843009213693953 ≤ a / b ∧ a / b ≤ 2305843009213693952 := by
 obtain ⟨ha, hb⟩ := h
 dsimp only at ha hb
 have tb := ctdiv_bd a b ha.1 ha.2
 by_cases hc : a.tmod b < 0
 ·have := (ctdiv_neg a b hb.1 hc).1; omega
 ·have := (ctdiv_pos a b hb.1 (by omega)).1; omega
set_option maxHeartbeats 8000000 in
theorem half_c (a b : Int) (h : DvOk (a, b)) (nn : Nm) : CallsA Tryd.prog 96 [di a, di b] Hp.none nn (Pu (di (hf a b)) Hp.none) := by
 obtain ⟨code, h1, h2⟩ := c96_ok
 refine callsA_of (tc_dv (T0_ok _)) mixed (N := fun t => (0, t)) Tryd.func96 h1 h2 r96_ok [] false js_nil js_nil' (by simp [Tryd.f96]) ?_
 have hb := h.2
 dsimp only at hb
 have p1 := Int.emod_nonneg a (show b ≠ 0 by omega)
 have p2 := Int.emod_lt_of_pos a (show 0 < b by omega)
 have q1 := dv_bd h
 have w1 : IntKind.i64.wrap (a / b + 1) = a / b + 1 := wrap_i (by omega)
 have w2 : IntKind.i64.wrap (2 * (a % b)) = 2 * (a % b) := wrap_i (by omega)
 cases d5 : decide (b ≤ 2 * (a % b)) with
 | false =>
  have e : hf a b = a / b := if_neg (of_decide_eq_false d5)
  simp (maxSteps:=500000) only [↓vp, vv, ↓reduceIte, simprocAttr, c96, r96, c96_1, selDv, selX, decII, h, Pu, d5, w1, w2, e]
 | true =>
  have e : hf a b = a / b + 1 := if_pos (of_decide_eq_true d5)
  simp (maxSteps:=500000) only [↓vp, vv, ↓reduceIte, simprocAttr, c96, r96, c96_1, selDv, selX, decII, h, Pu, d5, w1, w2, e]
def selHf := selX decII DvOk fun p => di (hf p.1 p.2)
theorem tc_hf {T : Tbl} (hT : TblOk Tryd.prog T) : TblOk Tryd.prog (tc 96 (rowPu selHf) T) := tc_x f96_ok decII_eq (fun a h nn => half_c _ _ h nn) hT
end Go.Proofs.YtehmmnnmkapfeaaDoor

/- Products: valid ones, of both. -/
namespace Go.Proofs.YtehmmnnmkapfeaaDoor
open Go
def decS : List D → Option ByteArray
 | [.v (.string n)] => some n
 | _ => Option.none
theorem decS_eq : ∀ l a, decS l = some a → l = [ds a] := fun l a h => by unfold decS at h; split at h <;> cases h; rfl
def selN1 := selX decS tt fun s => db (nameB s)
theorem tc_nm1 {T : Tbl} (hT : TblOk Tryd.prog T) : TblOk Tryd.prog (tc 113 (rowPu selN1) T) := tc_x f113_ok decS_eq (fun a h nn => lname_c _ nn) hT
def prdOf : List D → Option Prd
 | [.v (.string n), .v (.int .i64 a), .v (.int .i64 b), .v (.int .i64 c), .v (.int .i64 d)] => some ⟨n, a, b, c, d⟩
 | _ => Option.none
theorem prdOf_x (p : Prd) : prdOf [ds p.nm, di p.de, di p.ex, di p.co, di p.fr] = some p := rfl
theorem prdOf_eq {l : List D} {m : Prd} (h : prdOf l = some m) : l = m.row := by unfold prdOf at h; split at h <;> cases h; rfl
def decP : List D → Option Prd
 | [.agg a] => prdOf a
 | _ => Option.none
theorem decP_eq : ∀ l a, decP l = some a → l = [a.enc] := fun l a h => by
 unfold decP at h
 split at h
 ·rw [prdOf_eq h]; rfl
 ·cases h
def numsD (p : Prd) : D := .agg [di p.de, di p.ex, di p.co, di p.fr]
theorem numbers_c (p : Prd) (nn : Nm) : CallsA Tryd.prog 127 [p.enc] Hp.none nn (Pu (numsD p) Hp.none) := by
 obtain ⟨code, h1, h2⟩ := c127_ok
 refine callsA_of (T0_ok _) mixed (N := fun t => (0, t)) Tryd.func127 h1 h2 r127_ok [] false js_nil js_nil' (by simp [Tryd.f127]) ?_
 simp (maxSteps:=500000) only [↓vp, vv, ↓reduceIte, simprocAttr, c127, r127, Prd.enc, Prd.row, r127, numsD, Pu]
def selNu := selX decP tt numsD
theorem tc_nu {T : Tbl} (hT : TblOk Tryd.prog T) : TblOk Tryd.prog (tc 127 (rowPu selNu) T) := tc_x f127_ok decP_eq (fun a h nn => numbers_c _ nn) hT
def okN (p : Prd) : Nat → Prop
 | 0 => 400 ≤ p.de ∧ p.de ≤ 1200
 | 1 => 0 ≤ p.ex ∧ p.ex ≤ 2000
 | 2 => 0 ≤ p.co ∧ p.co ≤ 5000
 | _ => 1 ≤ p.fr ∧ p.fr ≤ 2000
theorem okN_next {p : Prd} {j : Nat} (h : ∀ i, i < j → okN p i) (hj : okN p j) : ∀ i, i < j + 1 → okN p i := fun i hi => by
 rcases Nat.lt_or_eq_of_le (Nat.lt_succ_iff.1 hi) with h1 | rfl
 ·exact h i h1
 ·exact hj
def PvF (p : Prd) (j : Int) : List (Nat × D) := [(1, .ptr (0, 1) 0 0 0), (3, .ptr (0, 3) 0 0 0), (8, .agg [di 400, di 1200, di 0, di 2000, di 0, di 5000, di 1, di 2000]), (9, di j)]
def PvH (p : Prd) : Hp := (Hp.none.put (0, 1) ⟨0, 5, [p.row]⟩).put (0, 3) ⟨0, 4, [[di p.de, di p.ex, di p.co, di p.fr]]⟩
def PvT : Tbl := tc 127 (rowPu selNu) (tc 113 (rowPu selN1) T0)
theorem PvT_ok : TblOk Tryd.prog PvT := tc_nu (tc_nm1 (T0_ok _))
set_option maxHeartbeats 8000000 in
theorem pvalid_c (p : Prd) (nn : Nm) : CallsA Tryd.prog 91 [p.enc] Hp.none nn (Pu (db (pV p)) Hp.none) := by
 obtain ⟨code, h1, h2⟩ := c91_ok
 refine callsA_of PvT_ok mixed (N := fun t => (0, t)) Tryd.func91 h1 h2 r91_ok [] false js_nil js_nil' (by simp [Tryd.f91]) ?_
 simp (maxSteps:=500000) only [↓vp, vv, ↓reduceIte, simprocAttr, c91, PvT, selNu, selX, decP, Prd.enc, Prd.row, prdOf_x, tt, numsD]
 refine rng_loop 4 (fun j => ⟨fr (PvF p (j : Nat)), PvH p⟩) (fun j => ∀ i, i < j → okN p i) (weak_eqA [] [(0, 3), (0, 1)] (PvF p 0) (by refine ⟨?_, ?_, ?_, by simp, ?_⟩ <;> (simp only [↓vp, vv, ↓reduceIte, simprocAttr, coverS, refsF, PvF, PvH, Prd.row] <;> try rfl))) (fun i hi => by omega) (fun j hj hP => ?_) (fun hP => ?_)
 ·match j, hj, hP with
  | 0, hj, hP =>
   cases ca : decide (p.de < 400) with
   | true =>
    have hf := pV_f fun h : PrdOk p => by have h1 := of_decide_eq_true ca; have h2 := h.de; omega
    simp (maxSteps:=500000) only [↓vp, vv, ↓reduceIte, simprocAttr, c91, c91_3, c91_2, c91_1, r91, PvF, PvH, Prd.row, Pu, ca, hf]
   | false =>
   cases cb : decide (1200 < p.de) with
   | true =>
    have hf := pV_f fun h : PrdOk p => by have h1 := of_decide_eq_true cb; have h2 := h.de; omega
    simp (maxSteps:=500000) only [↓vp, vv, ↓reduceIte, simprocAttr, c91, c91_3, c91_2, c91_1, r91, PvF, PvH, Prd.row, Pu, ca, cb, hf]
   | false =>
    simp (maxSteps:=500000) only [↓vp, vv, ↓reduceIte, simprocAttr, c91, c91_3, c91_2, c91_1, r91, PvF, PvH, Prd.row, Pu, ca, cb]
    have wz : IntKind.i64.wrap 1 = 1 := by decide
    exact rng_next hj (weak_eqA [] [(0, 3), (0, 1)] (PvF p 1) (by refine ⟨?_, ?_, ?_, by simp, ?_⟩ <;> (simp only [↓vp, vv, ↓reduceIte, simprocAttr, coverS, refsF, PvF, PvH, Prd.row, wz] <;> try rfl))) (okN_next hP ⟨by have := of_decide_eq_false ca; omega, by have := of_decide_eq_false cb; omega⟩)
  | 1, hj, hP =>
   cases ca : decide (p.ex < 0) with
   | true =>
    have hf := pV_f fun h : PrdOk p => by have h1 := of_decide_eq_true ca; have h2 := h.ex; omega
    simp (maxSteps:=500000) only [↓vp, vv, ↓reduceIte, simprocAttr, c91, c91_3, c91_2, c91_1, r91, PvF, PvH, Prd.row, Pu, ca, hf]
   | false =>
   cases cb : decide (2000 < p.ex) with
   | true =>
    have hf := pV_f fun h : PrdOk p => by have h1 := of_decide_eq_true cb; have h2 := h.ex; omega
    simp (maxSteps:=500000) only [↓vp, vv, ↓reduceIte, simprocAttr, c91, c91_3, c91_2, c91_1, r91, PvF, PvH, Prd.row, Pu, ca, cb, hf]
   | false =>
    simp (maxSteps:=500000) only [↓vp, vv, ↓reduceIte, simprocAttr, c91, c91_3, c91_2, c91_1, r91, PvF, PvH, Prd.row, Pu, ca, cb]
    have wz : IntKind.i64.wrap 2 = 2 := by decide
    exact rng_next hj (weak_eqA [] [(0, 3), (0, 1)] (PvF p 2) (by refine ⟨?_, ?_, ?_, by simp, ?_⟩ <;> (simp only [↓vp, vv, ↓reduceIte, simprocAttr, coverS, refsF, PvF, PvH, Prd.row, wz] <;> try rfl))) (okN_next hP ⟨by have := of_decide_eq_false ca; omega, by have := of_decide_eq_false cb; omega⟩)
  | 2, hj, hP =>
   cases ca : decide (p.co < 0) with
   | true =>
    have hf := pV_f fun h : PrdOk p => by have h1 := of_decide_eq_true ca; have h2 := h.co; omega
    simp (maxSteps:=500000) only [↓vp, vv, ↓reduceIte, simprocAttr, c91, c91_3, c91_2, c91_1, r91, PvF, PvH, Prd.row, Pu, ca, hf]
   | false =>
   cases cb : decide (5000 < p.co) with
   | true =>
    have hf := pV_f fun h : PrdOk p => by have h1 := of_decide_eq_true cb; have h2 := h.co; omega
    simp (maxSteps:=500000) only [↓vp, vv, ↓reduceIte, simprocAttr, c91, c91_3, c91_2, c91_1, r91, PvF, PvH, Prd.row, Pu, ca, cb, hf]
   | false =>
    simp (maxSteps:=500000) only [↓vp, vv, ↓reduceIte, simprocAttr, c91, c91_3, c91_2, c91_1, r91, PvF, PvH, Prd.row, Pu, ca, cb]
    have wz : IntKind.i64.wrap 3 = 3 := by decide
    exact rng_next hj (weak_eqA [] [(0, 3), (0, 1)] (PvF p 3) (by refine ⟨?_, ?_, ?_, by simp, ?_⟩ <;> (simp only [↓vp, vv, ↓reduceIte, simprocAttr, coverS, refsF, PvF, PvH, Prd.row, wz] <;> try rfl))) (okN_next hP ⟨by have := of_decide_eq_false ca; omega, by have := of_decide_eq_false cb; omega⟩)
  | 3, hj, hP =>
   cases ca : decide (p.fr < 1) with
   | true =>
    have hf := pV_f fun h : PrdOk p => by have h1 := of_decide_eq_true ca; have h2 := h.fr; omega
    simp (maxSteps:=500000) only [↓vp, vv, ↓reduceIte, simprocAttr, c91, c91_3, c91_2, c91_1, r91, PvF, PvH, Prd.row, Pu, ca, hf]
   | false =>
   cases cb : decide (2000 < p.fr) with
   | true =>
    have hf := pV_f fun h : PrdOk p => by have h1 := of_decide_eq_true cb; have h2 := h.fr; omega
    simp (maxSteps:=500000) only [↓vp, vv, ↓reduceIte, simprocAttr, c91, c91_3, c91_2, c91_1, r91, PvF, PvH, Prd.row, Pu, ca, cb, hf]
   | false =>
    simp (maxSteps:=500000) only [↓vp, vv, ↓reduceIte, simprocAttr, c91, c91_3, c91_2, c91_1, r91, PvF, PvH, Prd.row, Pu, ca, cb]
    have wz : IntKind.i64.wrap 4 = 4 := by decide
    exact rng_next hj (weak_eqA [] [(0, 3), (0, 1)] (PvF p 4) (by refine ⟨?_, ?_, ?_, by simp, ?_⟩ <;> (simp only [↓vp, vv, ↓reduceIte, simprocAttr, coverS, refsF, PvF, PvH, Prd.row, wz] <;> try rfl))) (okN_next hP ⟨by have := of_decide_eq_false ca; omega, by have := of_decide_eq_false cb; omega⟩)
 ·cases cn : nameB p.nm with
  | false =>
   have hf := pV_f fun h : PrdOk p => (by rw [h.nm] at cn; cases cn)
   simp (maxSteps:=500000) only [↓vp, vv, ↓reduceIte, simprocAttr, c91, c91_4, c91_3, c91_2, c91_1, r91, PvF, PvH, Prd.row, PvT, selN1, selX, decS, tt, cn, hf, Pu]
  | true =>
   have ht := pV_t (p := p) ⟨cn, hP 0 (by omega), hP 1 (by omega), hP 2 (by omega), hP 3 (by omega)⟩
   simp (maxSteps:=500000) only [↓vp, vv, ↓reduceIte, simprocAttr, c91, c91_4, c91_3, c91_2, c91_1, r91, PvF, PvH, Prd.row, PvT, selN1, selX, decS, tt, cn, ht, Pu]
def selPV := selX decP tt fun p => db (pV p)
theorem tc_pv {T : Tbl} (hT : TblOk Tryd.prog T) : TblOk Tryd.prog (tc 91 (rowPu selPV) T) := tc_x f91_ok decP_eq (fun a h nn => pvalid_c _ nn) hT
def cndOf : List D → Option Cnd
 | [.v (.int .i64 a), .v (.int .i64 b)] => some ⟨a, b⟩
 | _ => Option.none
theorem cndOf_x (m : Cnd) : cndOf [di m.te, di m.pr] = some m := rfl
theorem cndOf_eq {l : List D} {m : Cnd} (h : cndOf l = some m) : l = m.row := by unfold cndOf at h; split at h <;> cases h; rfl
def decPC : List D → Option (Prd × Cnd)
 | [.agg a, .agg b] => match prdOf a, cndOf b with
  | some m, some c => some (m, c)
  | _, _ => Option.none
 | _ => Option.none
theorem decPC_eq : ∀ l a, decPC l = some a → l = [a.1.enc, a.2.enc] := fun l a h => by
 unfold decPC at h
 split at h
 ·split at h
  ·rename_i e e'; cases h; rw [prdOf_eq e, cndOf_eq e']; rfl
  ·cases h
 ·cases h
def HtOk (p : Prd × Cnd) : Prop := PrdOk p.1 ∧ cdOk p.2.te p.2.pr
theorem heat_c (p : Prd) (c : Cnd) (h : HtOk (p, c)) (nn : Nm) : CallsA Tryd.prog 94 [p.enc, c.enc] Hp.none nn (Pu (di (fHeat p.ex c.te)) Hp.none) := by
 obtain ⟨code, h1, h2⟩ := c94_ok
 refine callsA_of (tc_hf (T0_ok _)) mixed (N := fun t => (0, t)) Tryd.func94 h1 h2 r94_ok [] false js_nil js_nil' (by simp [Tryd.f94]) ?_
 have hc := h.2.1
 obtain ⟨b1, b2, b3⟩ := heat_bd h.1.ex hc
 dsimp only at hc b1 b2 b3
 unfold fHeat at b3
 have w1 : IntKind.i64.wrap (c.te - 150) = c.te - 150 := wrap_i (by omega)
 have w2 : IntKind.i64.wrap (p.ex * (c.te - 150)) = p.ex * (c.te - 150) := wrap_i (by omega)
 have w3 : IntKind.i64.wrap (1000000 - hf (p.ex * (c.te - 150)) 10) = 1000000 - hf (p.ex * (c.te - 150)) 10 := wrap_i (by omega)
 have dv : DvOk (p.ex * (c.te - 150), 10) := ⟨by dsimp only; omega, by dsimp only; omega⟩
 simp (maxSteps:=500000) only [↓vp, vv, ↓reduceIte, simprocAttr, c94, r94, Prd.enc, Prd.row, Cnd.enc, Cnd.row, selHf, selX, decII, w1, w2, w3, dv, fHeat, Pu]
theorem press_c (p : Prd) (c : Cnd) (h : HtOk (p, c)) (nn : Nm) : CallsA Tryd.prog 95 [p.enc, c.enc] Hp.none nn (Pu (di (fPress p.co c.pr)) Hp.none) := by
 obtain ⟨code, h1, h2⟩ := c95_ok
 refine callsA_of (tc_hf (T0_ok _)) mixed (N := fun t => (0, t)) Tryd.func95 h1 h2 r95_ok [] false js_nil js_nil' (by simp [Tryd.f95]) ?_
 have hc := h.2.2
 obtain ⟨b1, b2, b3⟩ := press_bd h.1.co hc
 dsimp only at hc b1 b2 b3
 unfold fPress at b3
 have w2 : IntKind.i64.wrap (p.co * c.pr) = p.co * c.pr := wrap_i (by omega)
 have w3 : IntKind.i64.wrap (1000000 + hf (p.co * c.pr) 1000) = 1000000 + hf (p.co * c.pr) 1000 := wrap_i (by omega)
 have dv : DvOk (p.co * c.pr, 1000) := ⟨by dsimp only; omega, by dsimp only; omega⟩
 simp (maxSteps:=500000) only [↓vp, vv, ↓reduceIte, simprocAttr, c95, r95, Prd.enc, Prd.row, Cnd.enc, Cnd.row, selHf, selX, decII, w2, w3, dv, fPress, Pu]
def selHt := selX decPC HtOk fun q => di (fHeat q.1.ex q.2.te)
def selPs := selX decPC HtOk fun q => di (fPress q.1.co q.2.pr)
theorem tc_ht {T : Tbl} (hT : TblOk Tryd.prog T) : TblOk Tryd.prog (tc 94 (rowPu selHt) T) := tc_x f94_ok decPC_eq (fun a h nn => heat_c _ _ h nn) hT
theorem tc_ps {T : Tbl} (hT : TblOk Tryd.prog T) : TblOk Tryd.prog (tc 95 (rowPu selPs) T) := tc_x f95_ok decPC_eq (fun a h nn => press_c _ _ h nn) hT
theorem right_c (g f : Int) (nn : Nm) : CallsA Tryd.prog 97 [di g, di f] Hp.none nn (Pu (db (vfV g f)) Hp.none) := by
 obtain ⟨code, h1, h2⟩ := c97_ok
 refine callsA_of (T0_ok _) mixed (N := fun t => (0, t)) Tryd.func97 h1 h2 r97_ok [] false js_nil js_nil' (by simp [Tryd.f97]) ?_
 cases c0 : decide (0 ≤ g) with
 | false => have hf := vfV_f fun h : vfOk g f => of_decide_eq_false c0 h.1.1; simp (maxSteps:=500000) only [↓vp, vv, ↓reduceIte, simprocAttr, c97, r97, c0, hf, Pu]
 | true =>
 cases c1 : decide (g ≤ 1099511627776) with
 | false => have hf := vfV_f fun h : vfOk g f => of_decide_eq_false c1 h.1.2; simp (maxSteps:=500000) only [↓vp, vv, ↓reduceIte, simprocAttr, c97, r97, c0, c1, hf, Pu]
 | true =>
 cases c2 : decide (1 ≤ f) with
 | false => have hf := vfV_f fun h : vfOk g f => of_decide_eq_false c2 h.2.1; simp (maxSteps:=500000) only [↓vp, vv, ↓reduceIte, simprocAttr, c97, r97, c0, c1, c2, hf, Pu]
 | true =>
 cases c3 : decide (f ≤ 2000000) with
 | false => have hf := vfV_f fun h : vfOk g f => of_decide_eq_false c3 h.2.2; simp (maxSteps:=500000) only [↓vp, vv, ↓reduceIte, simprocAttr, c97, r97, c0, c1, c2, c3, hf, Pu]
 | true =>
 have ht := vfV_t (g := g) (f := f) ⟨⟨of_decide_eq_true c0, of_decide_eq_true c1⟩, of_decide_eq_true c2, of_decide_eq_true c3⟩
 simp (maxSteps:=500000) only [↓vp, vv, ↓reduceIte, simprocAttr, c97, r97, c0, c1, c2, c3, ht, Pu]
def selRi := selX decII tt fun q => db (vfV q.1 q.2)
theorem tc_ri {T : Tbl} (hT : TblOk Tryd.prog T) : TblOk Tryd.prog (tc 97 (rowPu selRi) T) := tc_x f97_ok decII_eq (fun a h nn => right_c _ _ nn) hT
set_option maxHeartbeats 8000000 in
theorem std_c (g f : Int) (nn : Nm) : CallsA Tryd.prog 58 [di g, di f] Hp.none nn (Pu (ie (stdI g f)) Hp.none) := by
 obtain ⟨code, h1, h2⟩ := c58_ok
 refine callsA_of (tc_ri (tc_hf (T0_ok _))) mixed (N := fun t => (0, t)) Tryd.func58 h1 h2 r58_ok [] false js_nil js_nil' (by simp [Tryd.f58]) ?_
 cases c1 : vfV g f with
 | false =>
  have e : stdI g f = (0, 1) := by unfold stdI; rw [c1]; rfl
  simp (maxSteps:=500000) only [↓vp, vv, ↓reduceIte, simprocAttr, c58, r58, c58_1, selRi, selHf, selX, decII, tt, ie, c1, e, Pu]
 | true =>
  have e : stdI g f = (stdV g f, 0) := by unfold stdI; rw [c1]; rfl
  have m := vf_mul (vfV_o c1)
  have w : IntKind.i64.wrap (g * f) = g * f := wrap_i (by omega)
  have dv : DvOk (g * f, 1000000) := ⟨by dsimp only; omega, by dsimp only; omega⟩
  simp (maxSteps:=500000) only [↓vp, vv, ↓reduceIte, simprocAttr, c58, r58, c58_1, selRi, selHf, selX, decII, tt, ie, c1, w, dv, e, stdV, Pu]
def selSd := selX decII tt fun q => ie (stdI q.1 q.2)
theorem tc_sd {T : Tbl} (hT : TblOk Tryd.prog T) : TblOk Tryd.prog (tc 58 (rowPu selSd) T) := tc_x f58_ok decII_eq (fun a h nn => std_c _ _ nn) hT
def fcV (p : Prd) (c : Cnd) : Nat → Int
 | 0 => 1
 | 1 => fHeat p.ex c.te
 | _ => fHeat p.ex c.te * fPress p.co c.pr
def FcF (j v : Int) : List (Nat × D) := [(3, .ptr (0, 3) 0 0 0), (6, di v), (34, .own (0, 34) 0 0 2), (35, di 2), (36, di j)]
def FcH (p : Prd) (c : Cnd) : Hp := (Hp.none.put (0, 3) ⟨0, 2, [c.row]⟩).put (0, 34) ⟨0, 1, [[.clo 94 [p.enc] []], [.clo 95 [p.enc] []]]⟩
set_option maxHeartbeats 8000000 in
theorem factor_c (p : Prd) (c : Cnd) (nn : Nm) : CallsA Tryd.prog 57 [p.enc, c.enc] Hp.none nn (Pu (ie (facI p c)) Hp.none) := by
 obtain ⟨code, h1, h2⟩ := c57_ok
 refine callsA_of (tc_pv (tc_ht (tc_ps (tc_hf (T0_ok _))))) mixed (N := fun t => (0, t)) Tryd.func57 h1 h2 r57_ok [] false js_nil js_nil' (by simp [Tryd.f57]) ?_
 cases c0 : pV p with
 | false =>
  have e : facI p c = (0, 9) := by unfold facI; rw [c0]; rfl
  simp (maxSteps:=500000) only [↓vp, vv, ↓reduceIte, simprocAttr, c57, r57, c57_5, c57_4, Prd.enc, Prd.row, Cnd.enc, Cnd.row, selPV, selHf, selX, decP, prdOf_x, decII, tt, ie, c0, e, Pu]
 | true =>
 have ez : ∀ h : cdV c = false, facI p c = (0, 1) := fun h => by unfold facI; rw [c0, h]; rfl
 cases c1 : decide (c.te < -400) with
 | true =>
  have e := ez (cdV_f fun h => by have h1 := h.1; have h2 := of_decide_eq_true c1; omega)
  simp (maxSteps:=500000) only [↓vp, vv, ↓reduceIte, simprocAttr, c57, r57, c57_5, c57_4, Prd.enc, Prd.row, Cnd.enc, Cnd.row, selPV, selHf, selX, decP, prdOf_x, decII, tt, ie, c0, c1, e, Pu]
 | false =>
 cases c2 : decide (1000 < c.te) with
 | true =>
  have e := ez (cdV_f fun h => by have h1 := h.1; have h2 := of_decide_eq_true c2; omega)
  simp (maxSteps:=500000) only [↓vp, vv, ↓reduceIte, simprocAttr, c57, r57, c57_5, c57_4, Prd.enc, Prd.row, Cnd.enc, Cnd.row, selPV, selHf, selX, decP, prdOf_x, decII, tt, ie, c0, c1, c2, e, Pu]
 | false =>
 cases c3 : decide (c.pr < 0) with
 | true =>
  have e := ez (cdV_f fun h => by have h1 := h.2; have h2 := of_decide_eq_true c3; omega)
  simp (maxSteps:=500000) only [↓vp, vv, ↓reduceIte, simprocAttr, c57, r57, c57_5, c57_4, Prd.enc, Prd.row, Cnd.enc, Cnd.row, selPV, selHf, selX, decP, prdOf_x, decII, tt, ie, c0, c1, c2, c3, e, Pu]
 | false =>
 cases c4 : decide (20000 < c.pr) with
 | true =>
  have e := ez (cdV_f fun h => by have h1 := h.2; have h2 := of_decide_eq_true c4; omega)
  simp (maxSteps:=500000) only [↓vp, vv, ↓reduceIte, simprocAttr, c57, r57, c57_5, c57_4, Prd.enc, Prd.row, Cnd.enc, Cnd.row, selPV, selHf, selX, decP, prdOf_x, decII, tt, ie, c0, c1, c2, c3, c4, e, Pu]
 | false =>
 have hc : cdOk c.te c.pr := ⟨⟨by have := of_decide_eq_false c1; omega, by have := of_decide_eq_false c2; omega⟩, by have := of_decide_eq_false c3; omega, by have := of_decide_eq_false c4; omega⟩
 have hp' := pV_o c0
 have e : facI p c = (fac p.ex p.co c.te c.pr, 0) := by unfold facI; rw [c0, cdV_t hc]; rfl
 obtain ⟨a1, a2, a3⟩ := heat_bd hp'.ex hc.1
 obtain ⟨b1, b2, b3⟩ := press_bd hp'.co hc.2
 obtain ⟨f1, f2⟩ := fac_bd hp'.ex hp'.co hc
 simp (maxSteps:=500000) only [↓vp, vv, ↓reduceIte, simprocAttr, c57, r57, c57_5, c57_4, Prd.enc, Prd.row, Cnd.enc, Cnd.row, selPV, selHf, selX, decP, prdOf_x, decII, tt, ie, c0, c1, c2, c3, c4, e]
 have ht : HtOk (p, c) := ⟨hp', hc⟩
 have w0 : IntKind.i64.wrap 1 = 1 := by decide
 have w1 : IntKind.i64.wrap 2 = 2 := by decide
 have w2 : IntKind.i64.wrap (fHeat p.ex c.te) = fHeat p.ex c.te := wrap_i (by omega)
 have w4 : IntKind.i64.wrap (fPress p.co c.pr) = fPress p.co c.pr := wrap_i (by omega)
 have w5 : IntKind.i64.wrap (fHeat p.ex c.te * fPress p.co c.pr) = fHeat p.ex c.te * fPress p.co c.pr := wrap_i (by omega)
 have w6 : IntKind.i64.wrap (1 * fHeat p.ex c.te) = fHeat p.ex c.te := by rw [Int.one_mul, w2]
 have d3 : DvOk (fHeat p.ex c.te * fPress p.co c.pr, 1000000) := ⟨by dsimp only; omega, by dsimp only; omega⟩
 refine rng_loop 2 (fun j => ⟨fr (FcF (j : Nat) (fcV p c j)), FcH p c⟩) (fun _ => True) (weak_eqA [] [(0, 34), (0, 3)] (FcF 0 1) (by refine ⟨?_, ?_, ?_, by simp, ?_⟩ <;> (simp only [↓vp, vv, ↓reduceIte, simprocAttr, coverS, refsF, FcF, FcH, fcV, Prd.enc, Prd.row, Cnd.row] <;> try rfl))) trivial (fun j hj _ => ?_) (fun _ => ?_)
 ·match j, hj with
  | 0, hj =>
   simp (maxSteps:=500000) only [↓vp, vv, ↓reduceIte, simprocAttr, c57, c57_2, c57_1, FcF, FcH, fcV, Prd.enc, Prd.row, Cnd.enc, Cnd.row, selHt, selPs, selX, decPC, prdOf_x, cndOf_x, ht, w6, w2]
   exact rng_next hj (weak_eqA [] [(0, 34), (0, 3)] (FcF 1 (fHeat p.ex c.te)) (by refine ⟨?_, ?_, ?_, by simp, ?_⟩ <;> (simp only [↓vp, vv, ↓reduceIte, simprocAttr, coverS, refsF, FcF, FcH, fcV, Prd.enc, Prd.row, Cnd.row, w0] <;> try rfl))) trivial
  | 1, hj =>
   simp (maxSteps:=500000) only [↓vp, vv, ↓reduceIte, simprocAttr, c57, c57_2, c57_1, FcF, FcH, fcV, Prd.enc, Prd.row, Cnd.enc, Cnd.row, selHt, selPs, selX, decPC, prdOf_x, cndOf_x, ht, w5]
   exact rng_next hj (weak_eqA [] [(0, 34), (0, 3)] (FcF 2 (fHeat p.ex c.te * fPress p.co c.pr)) (by refine ⟨?_, ?_, ?_, by simp, ?_⟩ <;> (simp only [↓vp, vv, ↓reduceIte, simprocAttr, coverS, refsF, FcF, FcH, fcV, Prd.enc, Prd.row, Cnd.row, w1] <;> try rfl))) trivial
 ·simp (maxSteps:=500000) only [↓vp, vv, ↓reduceIte, simprocAttr, c57, c57_2, c57_3, r57, FcF, FcH, fcV, selHf, selX, decII, d3, fac, Pu]
def selFa := selX decPC tt fun q => ie (facI q.1 q.2)
theorem tc_fa {T : Tbl} (hT : TblOk Tryd.prog T) : TblOk Tryd.prog (tc 57 (rowPu selFa) T) := tc_x f57_ok decPC_eq (fun a h nn => factor_c _ _ nn) hT
def c13 : C := (.seq (.ops false [oP 4 (.new [(.v (.string ({ data := #[] }))), (.v (.int .i64 0)), (.v (.int .i64 0)), (.v (.int .i64 0)), (.v (.int .i64 0))])]) (.seq (.ops false [oM 5 1, oB 6 (.call 51 [(.c (.v (.string ({ data := #[112] })))), (.t 5)]), oM 7 0, oB 8 (.call 32 [(.t 7), (cI 400), (cI 1200)]), oM 9 0, oP 10 (.bsl 1 4 [(.v (.int .i64 0))] [(0, (cI 0)), (1,
 (cI 830)), (2, (cI 2000)), (3, (cI 1))]), oB 11 (.call 33 [(.t 9), (.t 10)]), oM 12 0, oP 13 (.bsl 1 4 [(.v (.int .i64 0))] [(0, (cI 0)), (1, (cI 800)), (2, (cI 5000)), (3, (cI 3))]), oB 14 (.call 33 [(.t 12), (.t 13)]), oM 15 0, oP 16 (.bsl 1 5 [(.v (.int .i64 0))] [(0, (cI 1)), (1, (cI 700)), (2, (cI 1000)), (3, (cI 1300)), (4, (cI 2000))]), oB 17 (.call 33 [(.t 15),
 (.t 16)]), oP 18 (.bld [(.v (.string ({ data := #[] }))), (.v (.int .i64 0)), (.v (.int .i64 0)), (.v (.int .i64 0)), (.v (.int .i64 0))] [(0, (1, (.t 6))), (1, (1, (.t 8))), (2, (1, (.t 11))), (3, (1, (.t 14))), (4, (1, (.t 17)))]), oS (.st 5 (.t 4) (.t 18))]) .ret))
def r13 : List RV := [(.cell 4 5 true)]
theorem c13_ok : ∃ code, Tryd.f13.body = some code ∧ compC Tryd.prog Tryd.f13.ntmps code = some (C.strip c13) := ⟨_, rfl, by kernel_rfl⟩
theorem r13_ok : compRes Tryd.prog Tryd.f13.results.toList = some r13 := by kernel_rfl
theorem f13_ok : fnOk Tryd.prog 13 = true := by kernel_rfl
theorem neq_b {a b : Int} (h : (a != b) = true) : a ≠ b := by simpa using h
theorem eq_b {a b : Int} (h : (a != b) = false) : a = b := by simpa using h
def RngIP {α : Type} (n : Nat) (st : Nat → α → St) (P : Nat → α → Prop) (m : Nat) (s : St) : Prop := ∃ (j : Nat) (u : α), j + m = n ∧ P j u ∧ s = st j u
theorem rng_loopP {T : Tbl} {N : Nat → Nm} {J : List Nm} {c : C} {Q : Ex → St → Prop} {s : St} {α : Type} (n : Nat) (st : Nat → α → St) (P : Nat → α → Prop) {u0 : α} (h0 : Weak J s (st 0 u0)) (hP : P 0 u0)
  (hs : ∀ j, j < n → ∀ u, P j u → vc T N J c (loopQ J (RngIP n st P) (n - j) Q) (st j u)) (he : ∀ u, P n u → vc T N J c (loopQ J (RngIP n st P) 0 Q) (st n u)) : vc T N J (.loop c) Q s := by
 rw [vc_loop]
 refine ⟨RngIP n st P, ⟨n, _, h0, 0, u0, by omega, hP, rfl⟩, ?_⟩
 rintro m s' ⟨j, u, hj, hPj, rfl⟩
 by_cases h : j < n
 ·obtain rfl : m = n - j := by omega
  exact hs j h u hPj
 ·obtain rfl : j = n := by omega
  obtain rfl : m = 0 := by omega
  exact he u hPj
theorem rng_nextP {J : List Nm} {n : Nat} {α : Type} {st : Nat → α → St} {P : Nat → α → Prop} {j : Nat} {s : St} (hj : j < n) (u : α) (w : Weak J s (st (j + 1) u)) (hp : P (j + 1) u) : ∃ k' s', k' < n - j ∧ Weak J s s' ∧ RngIP n st P k' s' :=
 ⟨n - (j + 1), _, by omega, w, j + 1, u, by omega, hp, rfl⟩
def cdA (l : List Cnd) (j : Nat) : Cnd := l.getD j ⟨0, 0⟩
theorem cd_get {l : List Cnd} {j : Nat} (h : j < l.length) : (l.map Cnd.row).getD j [] = [di (cdA l j).te, di (cdA l j).pr] := by
 unfold cdA
 rw [List.getD_eq_getElem?_getD, List.getElem?_map, List.getD_eq_getElem?_getD, List.getElem?_eq_getElem h]
 rfl
def cndsOf : List (List D) → Option (List Cnd)
 | [] => some []
 | r :: l => match cndOf r, cndsOf l with
  | some c, some cs => some (c :: cs)
  | _, _ => Option.none
theorem cndsOf_map (l : List Cnd) : cndsOf (l.map Cnd.row) = some l := by
 induction l with
 | nil => rfl
 | cons c l ih => rw [List.map_cons, cndsOf, ih]; rfl
theorem cndsOf_eq : ∀ {l : List (List D)} {cs : List Cnd}, cndsOf l = some cs → l = cs.map Cnd.row
 | [], cs, h => by cases h; rfl
 | r :: l, cs, h => by
  rw [cndsOf] at h
  split at h
  ·rename_i e e'; cases h; rw [List.map_cons, cndOf_eq e, cndsOf_eq e']
  ·cases h
end Go.Proofs.YtehmmnnmkapfeaaDoor
