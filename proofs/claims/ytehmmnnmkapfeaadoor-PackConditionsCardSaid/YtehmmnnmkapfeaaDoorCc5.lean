/- PackConditions: CodeN Nm CodeB Gen1 Gen2 Gen3 Gen4 Gen5 Nk1 Nk2 Nk3 Nk4 Nk5 Nk6 Nk7 CmL. -/
import Derived.Test.YtehmmnnmkapfeaaDoorCc3
import Derived.Test.YtehmmnnmkapfeaaDoorProg
import Derived.Test.YtehmmnnmkapfeaaDoorCc4
set_option linter.unusedSimpArgs false
set_option linter.unusedVariables false
set_option maxRecDepth 100000

/- Compiled code of some functions (printed by a program), each checked by the kernel. -/
namespace Go.Proofs.YtehmmnnmkapfeaaDoor
open Go
def c101_1 : C := (.ops false [oP 26 (.mv (.t 3)), oP 27 (.bin .add (.t 26) (cI 1)), oP 3 (.mv (.t 27))])
def c101_2 : C := (.seq (.block 1 (.seq (.ops false [oP 28 (.mv (.t 0)), oP 29 (.mv (.t 3)), oP 30 (.ixS (.t 28) (.t 29)), oP 31 (.bin .lss (.t 30) (.c (.v (.int .u8 97)))), oP 32 (.mv (.t 31)), oG 33 32 false (.mv (.t 0)), oG 34 32 false (.mv (.t 3)), oG 35 32 false (.ixS (.t 33) (.t 34)), oG 36 32 false (.bin .gtr (.t 35) (.c (.v (.int .u8 122)))), oP 37 (.pick (.t 32) (cB true) (.t 36)), oP 38 (.mv (.t 37)),
  oG 39 38 true (.mv (.t 0)), oG 40 38 true (.mv (.t 3)), oG 41 38 true (.ixS (.t 39) (.t 40)), oG 42 38 true (.bin .lss (.t 41) (.c (.v (.int .u8 48)))), oG 43 38 true (.mv (.t 42)), oG 44 43 false (.mv (.t 0)), oG 45 43 false (.mv (.t 3)), oG 46 43 false (.ixS (.t 44) (.t 45)), oG 47 43 false (.bin .gtr (.t 46) (.c (.v (.int .u8 57)))), oG 48 38 true (.pick (.t 43) (cB true) (.t 47)),
  oP 49 (.pick (.t 38) (.t 48) (cB false)), oP 50 (.mv (.t 49)), oG 51 50 true (.mv (.t 0)), oG 52 50 true (.mv (.t 3)), oG 53 50 true (.ixS (.t 51) (.t 52)), oG 54 50 true (.bin .neq (.t 53) (.c (.v (.int .u8 45)))), oP 55 (.pick (.t 50) (.t 54) (cB false))]) (.cond (.t 55) (.seq (.ops false [oP 2 (.mv (cB false))]) .ret) .skip))) c101_1)
def c101_3 : C := (.seq (.seq (.ops false [oP 22 (.mv (.t 3)), oP 23 (.mv (.t 0)), oP 24 (.lenS (.t 23)), oP 25 (.bin .lss (.t 22) (.t 24))]) (.cond (.t 25) .skip (.exit 0))) c101_2)
def c101_4 : C := (.seq (.ops false [oP 2 (.mv (cB true))]) .ret)
def c101_5 : C := (.seq (.seq (.ops false [oP 3 (.mv (cI 0))]) (.block 0 (.loop c101_3))) c101_4)
def c101 : C := (.seq (.ops false [oP 2 (.mv (cB false))]) (.seq (.seq (.ops false [oP 4 (.mv (.t 0)), oP 5 (.lenS (.t 4)), oP 6 (.bin .lss (.t 5) (cI 1)), oP 7 (.mv (.t 6)), oG 8 7 false (.mv (.t 0)), oG 9 7 false (.lenS (.t 8)), oG 10 7 false (.bin .gtr (.t 9) (cI 12)), oP 11 (.pick (.t 7) (cB true) (.t 10)), oP 12 (.mv (.t 11)), oG 13 12 false (.mv (.t 0)), oG 14 12 false (.ixS (.t 13) (cI 0)),
  oG 15 12 false (.bin .lss (.t 14) (.c (.v (.int .u8 97)))), oP 16 (.pick (.t 12) (cB true) (.t 15)), oP 17 (.mv (.t 16)), oG 18 17 false (.mv (.t 0)), oG 19 17 false (.ixS (.t 18) (cI 0)), oG 20 17 false (.bin .gtr (.t 19) (.c (.v (.int .u8 122)))), oP 21 (.pick (.t 17) (cB true) (.t 20))]) (.cond (.t 21) (.seq (.ops false [oP 2 (.mv (cB false))]) .ret) .skip)) c101_5))
def r101 : List RV := [(.tmp 2)]
theorem c101_ok : ∃ code, Tryd.f101.body = some code ∧ compC Tryd.prog Tryd.f101.ntmps code = some (C.strip c101) := ⟨_, rfl, by kernel_rfl⟩
theorem r101_ok : compRes Tryd.prog Tryd.f101.results.toList = some r101 := by kernel_rfl
theorem f101_ok : fnOk Tryd.prog 101 = true := by kernel_rfl
def c113_1 : C := (.ops false [oP 28 (.bin .add (.t 20) (cI 1)), oP 20 (.mv (.t 28))])
def c113_2 : C := (.seq (.block 1 (.seq (.ops false [oP 22 (.mv (.t 20)), oP 3 (.mv (.t 22))]) (.seq (.ops false [oP 23 (.mv (.t 0)), oP 24 (.mv (.t 3)), oP 25 (.ixS (.t 23) (.t 24)), oB 26 (.call 137 [(.t 25)]), oP 27 (.bin .eql (.t 26) (cI 0))]) (.cond (.t 27) (.seq (.ops false [oP 2 (.mv (cB false))]) .ret) .skip)))) c113_1)
def c113_3 : C := (.seq (.ops false [oP 21 (.bin .lss (.t 20) (.t 19))]) (.seq (.cond (.t 21) .skip (.exit 0)) c113_2))
def c113_4 : C := (.seq (.ops false [oP 2 (.mv (cB true))]) .ret)
def c113_5 : C := (.seq (.seq (.ops false [oP 18 (.mv (.t 0)), oP 19 (.lenS (.t 18)), oP 20 (.mv (cI 0))]) (.block 0 (.loop c113_3))) c113_4)
def c113 : C := (.seq (.ops false [oP 2 (.mv (cB false))]) (.seq (.seq (.ops false [oP 4 (.mv (.t 0)), oP 5 (.lenS (.t 4)), oP 6 (.bin .lss (.t 5) (cI 1)), oP 7 (.mv (.t 6)), oG 8 7 false (.mv (.t 0)), oG 9 7 false (.lenS (.t 8)), oG 10 7 false (.bin .gtr (.t 9) (cI 12)), oP 11 (.pick (.t 7) (cB true) (.t 10)), oP 12 (.mv (.t 11)), oG 13 12 false (.mv (.t 0)), oG 14 12 false (.ixS (.t 13) (cI 0)),
  oD 15 12 false (.call 137 [(.t 14)]) [], oG 16 12 false (.bin .neq (.t 15) (cI 1)), oP 17 (.pick (.t 12) (cB true) (.t 16))]) (.cond (.t 17) (.seq (.ops false [oP 2 (.mv (cB false))]) .ret) .skip)) c113_5))
def r113 : List RV := [(.tmp 2)]
theorem c113_ok : ∃ code, Tryd.f113.body = some code ∧ compC Tryd.prog Tryd.f113.ntmps code = some (C.strip c113) := ⟨_, rfl, by kernel_rfl⟩
theorem r113_ok : compRes Tryd.prog Tryd.f113.results.toList = some r113 := by kernel_rfl
theorem f113_ok : fnOk Tryd.prog 113 = true := by kernel_rfl
def c137_1 : C := (.seq (.ops false [oP 18 (.mv (.t 0)), oP 19 (.bin .eql (.t 18) (.c (.v (.int .u8 45)))), oP 17 (.mv (.t 19))]) (.cond (.t 17) (.exit 3) .skip))
def c137_2 : C := (.seq (.seq (.ops false [oP 11 (.mv (.t 0)), oP 12 (.bin .geq (.t 11) (.c (.v (.int .u8 48)))), oP 13 (.mv (.t 12)), oG 14 13 true (.mv (.t 0)), oG 15 13 true (.bin .leq (.t 14) (.c (.v (.int .u8 57)))), oP 16 (.pick (.t 13) (.t 15) (cB false)), oP 10 (.mv (.t 16))]) (.cond (.t 10) (.exit 2) .skip)) c137_1)
def c137_3 : C := (.exit 0)
def c137_4 : C := (.seq (.seq (.ops false [oP 2 (.mv (cI 1))]) .ret) (.exit 0))
def c137_5 : C := (.seq (.seq (.ops false [oP 2 (.mv (cI 2))]) .ret) (.exit 0))
def c137_6 : C := (.seq (.ops false [oP 2 (.mv (cI 0))]) .ret)
def c137 : C := (.seq (.ops false [oP 2 (.mv (cI 0))]) (.seq (.block 0 (.seq (.block 3 (.block 2 (.seq (.block 1 (.seq (.seq (.seq (.ops false [oP 4 (.mv (.t 0)), oP 5 (.bin .geq (.t 4) (.c (.v (.int .u8 97)))), oP 6 (.mv (.t 5)), oG 7 6 true (.mv (.t 0)), oG 8 6 true (.bin .leq (.t 7) (.c (.v (.int .u8 122)))), oP 9 (.pick (.t 6) (.t 8) (cB false)), oP 3 (.mv (.t 9))]) (.cond (.t 3) (.exit 1) .skip)) c137_2)
  c137_3)) c137_4))) c137_5)) c137_6))
def r137 : List RV := [(.tmp 2)]
theorem c137_ok : ∃ code, Tryd.f137.body = some code ∧ compC Tryd.prog Tryd.f137.ntmps code = some (C.strip c137) := ⟨_, rfl, by kernel_rfl⟩
theorem r137_ok : compRes Tryd.prog Tryd.f137.results.toList = some r137 := by kernel_rfl
theorem f137_ok : fnOk Tryd.prog 137 = true := by kernel_rfl
def placeI (c : Int) : Int := if 97 ≤ c ∧ c ≤ 122 then 1 else if 48 ≤ c ∧ c ≤ 57 then 2 else if c = 45 then 2 else 0
def byteI (s : ByteArray) (k : Nat) : Int := (s.data.getD k 0).toNat
def bytesI (s : ByteArray) : List Int := (List.range s.size).map (byteI s)
def nameB (s : ByteArray) : Bool := if s.size < 1 then false else if 12 < s.size then false else if placeI (byteI s 0) = 1 then (bytesI s).all (fun c => decide (placeI c ≠ 0)) else false
theorem bytesI_len (s : ByteArray) : (bytesI s).length = s.size := by simp [bytesI]
theorem bytesI_at (s : ByteArray) {j : Nat} (h : j < (bytesI s).length) : (bytesI s)[j] = byteI s j := by simp [bytesI]
set_option maxHeartbeats 4000000 in
theorem place_c (c : Int) (nn : Nm) : CallsA Tryd.prog 137 [.v (.int .u8 c)] Hp.none nn (Pu (di (placeI c)) Hp.none) := by
  obtain ⟨code, h1, h2⟩ := c137_ok
  refine callsA_of (T0_ok _) mixed (N := fun t => (0, t)) Tryd.func137 h1 h2 r137_ok [] false js_nil js_nil' (by simp [Tryd.f137]) ?_
  by_cases a1 : 97 ≤ c
  · by_cases a2 : c ≤ 122
    · simp (maxSteps:=500000) only [↓vp, vv, ↓reduceIte, simprocAttr, c137, r137, c137_1, c137_2, c137_3, c137_4, c137_5, c137_6, a1, a2, placeI, Pu, decide_true, decide_false]
    · have a3 : ¬ c ≤ 57 := by omega
      have a4 : 48 ≤ c := by omega
      have a5 : (c == 45) = false := beq_false_of_ne (by omega)
      have a6 : ¬ c = 45 := by omega
      simp (maxSteps:=500000) only [↓vp, vv, ↓reduceIte, simprocAttr, c137, r137, c137_1, c137_2, c137_3, c137_4, c137_5, c137_6, a1, a2, a3, a4, a5, a6, placeI, Pu, decide_true, decide_false]
  · by_cases a2 : 48 ≤ c
    · by_cases a3 : c ≤ 57
      · simp (maxSteps:=500000) only [↓vp, vv, ↓reduceIte, simprocAttr, c137, r137, c137_1, c137_2, c137_3, c137_4, c137_5, c137_6, a1, a2, a3, placeI, Pu, decide_true, decide_false]
      · have a5 : (c == 45) = false := beq_false_of_ne (by omega)
        have a6 : ¬ c = 45 := by omega
        simp (maxSteps:=500000) only [↓vp, vv, ↓reduceIte, simprocAttr, c137, r137, c137_1, c137_2, c137_3, c137_4, c137_5, c137_6, a1, a2, a3, a5, a6, placeI, Pu, decide_true, decide_false]
    · by_cases a5 : c = 45
      · have a6 : (c == 45) = true := beq_iff_eq.2 a5
        simp (maxSteps:=500000) only [↓vp, vv, ↓reduceIte, simprocAttr, c137, r137, c137_1, c137_2, c137_3, c137_4, c137_5, c137_6, a1, a2, a5, a6, placeI, Pu, decide_true, decide_false]
      · have a6 : (c == 45) = false := beq_false_of_ne a5
        simp (maxSteps:=500000) only [↓vp, vv, ↓reduceIte, simprocAttr, c137, r137, c137_1, c137_2, c137_3, c137_4, c137_5, c137_6, a1, a2, a5, a6, placeI, Pu, decide_true, decide_false]
def selPlace : List D → Option (Prop × D)
  | [.v (.int .u8 c)] => some (True, di (placeI c))
  | _ => Option.none
def TP : Tbl := tc 137 (rowPu selPlace) T0
theorem TP_ok : TblOk Tryd.prog TP := by
  refine tc_pu f137_ok (fun args pre d h hp nn => ?_) (T0_ok _)
  unfold selPlace at h
  split at h <;> cases h
  exact place_c _ nn
theorem byteI_eq (s : ByteArray) (k : Nat) : ((s.data.getD k 0).toNat : Int) = byteI s k := rfl
set_option maxHeartbeats 4000000 in
theorem lname_c (s : ByteArray) (nn : Nm) : CallsA Tryd.prog 113 [ds s] Hp.none nn (Pu (db (nameB s)) Hp.none) := by
  obtain ⟨code, h1, h2⟩ := c113_ok
  refine callsA_of TP_ok mixed (N := fun t => (0, t)) Tryd.func113 h1 h2 r113_ok [] false js_nil js_nil' (by simp [Tryd.f113]) ?_
  by_cases a1 : (s.size : Int) < 1
  · have b1 : s.size < 1 := by omega
    simp (maxSteps:=500000) only [↓vp, vv, ↓reduceIte, simprocAttr, c113, r113, c113_1, c113_2, c113_3, c113_4, c113_5, a1, b1, nameB, Pu, decide_true, decide_false]
  · by_cases a2 : (12 : Int) < s.size
    · have b1 : ¬ s.size < 1 := by omega
      have b2 : 12 < s.size := by omega
      simp (maxSteps:=500000) only [↓vp, vv, ↓reduceIte, simprocAttr, c113, r113, c113_1, c113_2, c113_3, c113_4, c113_5, a1, a2, b1, b2, nameB, Pu, decide_true, decide_false]
    · have b1 : ¬ s.size < 1 := by omega
      have b2 : ¬ 12 < s.size := by omega
      have b3 : (0 : Int) < s.size := by omega
      by_cases a3 : placeI (byteI s 0) = 1
      · have e0 : nameB s = (bytesI s).all (fun c => decide (placeI c ≠ 0)) := by unfold nameB; rw [if_neg b1, if_neg b2, if_pos a3]
        rw [e0]
        generalize hb : (bytesI s).all (fun c => decide (placeI c ≠ 0)) = b
        simp (maxSteps:=500000) only [↓vp, vv, ↓reduceIte, simprocAttr, c113, c113_5, TP, selPlace, a1, a2, a3, b3, byteI_eq, bne_self_eq_false, decide_true, decide_false]
        refine rng_loop s.size (fun j => ⟨fr [(0, ds s), (19, di s.size), (20, di j)], Hp.none⟩) (fun j => ((bytesI s).drop j).all (fun c => decide (placeI c ≠ 0)) = b) (weak0 (by simp (maxSteps:=500000) only [↓vp, vv, ↓reduceIte, simprocAttr, coverS]) (by simp (maxSteps:=500000) only [↓vp, vv, ↓reduceIte, simprocAttr, refsF])) hb (fun j hj he => ?_) (fun he => ?_)
        · have hj' : (j : Int) < s.size := by omega
          have hn := idx_nn j
          have w1 := idx_next (j := j) (by omega)
          obtain ⟨hf, ht⟩ := drop_all (by rw [bytesI_len]; exact hj) he
          rw [bytesI_at] at hf ht
          by_cases a4 : placeI (byteI s j) = 0
          · have e5 : b = false := hf (by simp [a4])
            subst e5
            simp (maxSteps:=500000) only [↓vp, vv, ↓reduceIte, simprocAttr, c113, r113, c113_1, c113_2, c113_3, c113_4, c113_5, TP, selPlace, hj', hn, Int.toNat_natCast, byteI_eq, a4, w1, Pu, decide_true, decide_false]
          · have a5 : (placeI (byteI s j) == 0) = false := beq_false_of_ne a4
            simp (maxSteps:=500000) only [↓vp, vv, ↓reduceIte, simprocAttr, c113, r113, c113_1, c113_2, c113_3, c113_4, c113_5, TP, selPlace, hj', hn, Int.toNat_natCast, byteI_eq, a5, w1, decide_true, decide_false]
            exact rng_next hj (weak0 (by simp (maxSteps:=500000) only [↓vp, vv, ↓reduceIte, simprocAttr, coverS, w1]) (by simp (maxSteps:=500000) only [↓vp, vv, ↓reduceIte, simprocAttr, refsF])) (ht (by simp [a4]))
        · have e5 : b = true := drop_all_end (by rw [bytesI_len]; exact he)
          subst e5
          simp (maxSteps:=500000) only [↓vp, vv, ↓reduceIte, simprocAttr, c113, r113, c113_1, c113_2, c113_3, c113_4, c113_5, TP, selPlace, Int.lt_irrefl, Pu, decide_true, decide_false]
      · have a5 : (placeI (byteI s 0) != 1) = true := by simp [a3]
        simp (maxSteps:=500000) only [↓vp, vv, ↓reduceIte, simprocAttr, c113, r113, c113_1, c113_2, c113_3, c113_4, c113_5, TP, selPlace, a1, a2, a3, a5, b1, b2, b3, byteI_eq, nameB, Pu, decide_true, decide_false]
def c11 : C := (.seq (.ops false [oP 2 (.mv (.c (.v (.pointer Option.none))))]) (.seq (.ops false [oP 3 (.mv (.t 0)), oP 4 (.mv (.t 0)), oP 5 (.len (.t 4)), oP 6 (.mnx false (.t 5) (cI 2000)), oP 7 (.slc 1 (.t 3) Option.none (.some (.t 6))), oP 8 (.bld [.mt, (.v (.int .i64 0))] [(0, (1, (.t 7)))]), oP 9 (.box 2 (.t 8)), oP 2 (.mv (.t 9))]) .ret))
def r11 : List RV := [(.tmp 2)]
theorem c11_ok : ∃ code, Tryd.f11.body = some code ∧ compC Tryd.prog Tryd.f11.ntmps code = some (C.strip c11) := ⟨_, rfl, by kernel_rfl⟩
theorem r11_ok : compRes Tryd.prog Tryd.f11.results.toList = some r11 := by kernel_rfl
theorem f11_ok : fnOk Tryd.prog 11 = true := by kernel_rfl
def c14 : C := (.seq (.ops false [oP 4 (.mv (cI 0))]) (.seq (.ops false [oP 5 (.mv (.t 0)), oB 6 (.call 53 [(.t 5)]), oP 7 (.mv (.t 1)), oB 8 (.call 52 [(.t 6), (.t 7)]), oP 4 (.mv (.t 8))]) .ret))
def r14 : List RV := [(.tmp 4)]
theorem c14_ok : ∃ code, Tryd.f14.body = some code ∧ compC Tryd.prog Tryd.f14.ntmps code = some (C.strip c14) := ⟨_, rfl, by kernel_rfl⟩
theorem r14_ok : compRes Tryd.prog Tryd.f14.results.toList = some r14 := by kernel_rfl
theorem f14_ok : fnOk Tryd.prog 14 = true := by kernel_rfl
def c32 : C := (.seq (.ops false [oP 6 (.mv (cI 0))]) (.seq (.ops false [oP 7 (.mv (.t 1)), oP 8 (.mv (.t 0)), oP 9 (.mv (.t 2)), oP 10 (.mv (.t 1)), oP 11 (.bin .sub (.t 9) (.t 10)), oP 12 (.bin .add (.t 11) (cI 1)), oB 13 (.call 14 [(.t 8), (.t 12)]), oP 14 (.bin .add (.t 7) (.t 13)), oP 6 (.mv (.t 14))]) .ret))
def r32 : List RV := [(.tmp 6)]
theorem c32_ok : ∃ code, Tryd.f32.body = some code ∧ compC Tryd.prog Tryd.f32.ntmps code = some (C.strip c32) := ⟨_, rfl, by kernel_rfl⟩
theorem r32_ok : compRes Tryd.prog Tryd.f32.results.toList = some r32 := by kernel_rfl
theorem f32_ok : fnOk Tryd.prog 32 = true := by kernel_rfl
def c33 : C := (.seq (.ops false [oP 4 (.mv (cI 0))]) (.seq (.ops false [oP 5 (.mv (.t 1)), oP 6 (.mv (.t 0)), oP 7 (.mv (.t 1)), oP 8 (.len (.t 7)), oB 9 (.call 14 [(.t 6), (.t 8)]), oP 10 (.iaS 1 (.t 5) (.t 9)), oP 11 (.ld 1 false (.t 10)), oP 4 (.mv (.t 11))]) .ret))
def r33 : List RV := [(.tmp 4)]
theorem c33_ok : ∃ code, Tryd.f33.body = some code ∧ compC Tryd.prog Tryd.f33.ntmps code = some (C.strip c33) := ⟨_, rfl, by kernel_rfl⟩
theorem r33_ok : compRes Tryd.prog Tryd.f33.results.toList = some r33 := by kernel_rfl
theorem f33_ok : fnOk Tryd.prog 33 = true := by kernel_rfl
def c51 : C := (.seq (.ops false [oP 4 (.mv (.c (.v (.string ({ data := #[] })))))]) (.seq (.ops false [oP 5 (.mv (.t 0)), oP 6 (.mv (.t 1)), oP 7 (.bin .rem (.t 6) (cI 26)), oP 8 (.bin .add (cI 97) (.t 7)), oP 9 (.cvi .u8 (.t 8)), oP 10 (.bsl 1 1 [(.v (.int .u8 0))] [(0, (.t 9))]), oP 11 (.bts (.t 10)), oP 12 (.bin .add (.t 5) (.t 11)), oP 4 (.mv (.t 12))]) .ret))
def r51 : List RV := [(.tmp 4)]
theorem c51_ok : ∃ code, Tryd.f51.body = some code ∧ compC Tryd.prog Tryd.f51.ntmps code = some (C.strip c51) := ⟨_, rfl, by kernel_rfl⟩
theorem r51_ok : compRes Tryd.prog Tryd.f51.results.toList = some r51 := by kernel_rfl
theorem f51_ok : fnOk Tryd.prog 51 = true := by kernel_rfl
def c52_1 : C := (.seq (.ops false [oP 15 (.mv (.t 0)), oP 4 (.mv (.t 15))]) .ret)
def c52_2 : C := (.seq (.ops false [oP 7 (.mv (.t 0)), oP 8 (.mv (.t 1)), oP 9 (.bin .rem (.t 7) (.t 8)), oP 0 (.mv (.t 9))]) (.seq (.seq (.ops false [oP 10 (.mv (.t 0)), oP 11 (.bin .lss (.t 10) (cI 0))]) (.cond (.t 11) (.ops false [oP 12 (.mv (.t 0)), oP 13 (.mv (.t 1)), oP 14 (.bin .add (.t 12) (.t 13)), oP 0 (.mv (.t 14))]) .skip)) c52_1))
def c52 : C := (.seq (.ops false [oP 4 (.mv (cI 0))]) (.seq (.seq (.ops false [oP 5 (.mv (.t 1)), oP 6 (.bin .lss (.t 5) (cI 1))]) (.cond (.t 6) (.seq (.ops false [oP 4 (.mv (cI 0))]) .ret) .skip)) c52_2))
def r52 : List RV := [(.tmp 4)]
theorem c52_ok : ∃ code, Tryd.f52.body = some code ∧ compC Tryd.prog Tryd.f52.ntmps code = some (C.strip c52) := ⟨_, rfl, by kernel_rfl⟩
theorem r52_ok : compRes Tryd.prog Tryd.f52.results.toList = some r52 := by kernel_rfl
theorem f52_ok : fnOk Tryd.prog 52 = true := by kernel_rfl
def c53_1 : C := (.seq (.ops false [oP 13 (.mv (.t 0)), oP 14 (.nck (.t 13)), oP 15 (.fa 1 (.t 14)), oP 16 (.ld 1 false (.t 15)), oP 17 (.bin .add (.t 16) (cI 1)), oP 18 (.nck (.t 13)), oP 19 (.fa 1 (.t 18)), oS (.st 1 (.t 19) (.t 17))]) (.seq (.ops true [oP 20 (.mv (.t 0)), oA 21 (.nck (.t 20)) [0], oA 22 (.fa 0 (.t 21)) [0, 1], oA 23 (.ld 1 false (.t 22)) [1, 0, 2], oP 24 (.mv (.t 0)), oA 25 (.nck (.t 24)) [4],
  oA 26 (.fa 1 (.t 25)) [4, 5], oA 27 (.ld 1 false (.t 26)) [5, 4, 6], oA 28 (.bin .sub (.t 27) (cI 1)) [6, 4, 5, 7], oA 29 (.iaS 1 (.t 23) (.t 28)) [7, 5, 4, 6, 2, 0, 1, 8, 3], oA 30 (.ld 1 false (.t 29)) [3, 8, 1, 0, 2, 6, 4, 5, 7, 9], oA 2 (.mv (.t 30)) [9, 8, 7, 6, 5, 4, 3, 2, 1, 0, 10]]) .ret))
def c53 : C := (.seq (.ops false [oP 2 (.mv (cI 0))]) (.seq (.seq (.ops true [oP 3 (.mv (.t 0)), oA 4 (.nck (.t 3)) [0], oA 5 (.fa 1 (.t 4)) [0, 1], oA 6 (.ld 1 false (.t 5)) [1, 0, 2], oP 7 (.mv (.t 0)), oA 8 (.nck (.t 7)) [4], oA 9 (.fa 0 (.t 8)) [4, 5], oA 10 (.ld 1 false (.t 9)) [5, 4, 6], oA 11 (.len (.t 10)) [6, 4, 5, 7], oA 12 (.bin .geq (.t 6) (.t 11)) [7, 5, 4, 6, 2, 0, 1, 8, 3]]) (.cond (.t 12)
  (.seq (.ops false [oP 2 (.mv (cI 0))]) .ret) .skip)) c53_1))
def r53 : List RV := [(.tmp 2)]
theorem c53_ok : ∃ code, Tryd.f53.body = some code ∧ compC Tryd.prog Tryd.f53.ntmps code = some (C.strip c53) := ⟨_, rfl, by kernel_rfl⟩
theorem r53_ok : compRes Tryd.prog Tryd.f53.results.toList = some r53 := by kernel_rfl
theorem f53_ok : fnOk Tryd.prog 53 = true := by kernel_rfl
def c54 : C := (.seq (.ops false [oP 4 (.mv (.c (.v (.string ({ data := #[] })))))]) (.seq (.ops false [oP 5 (.mv (.t 1)), oP 6 (.mv (.t 0)), oP 7 (.mv (.t 1)), oP 8 (.len (.t 7)), oB 9 (.call 14 [(.t 6), (.t 8)]), oP 10 (.iaS 1 (.t 5) (.t 9)), oP 11 (.ld 1 false (.t 10)), oP 4 (.mv (.t 11))]) .ret))
def r54 : List RV := [(.tmp 4)]
theorem c54_ok : ∃ code, Tryd.f54.body = some code ∧ compC Tryd.prog Tryd.f54.ntmps code = some (C.strip c54) := ⟨_, rfl, by kernel_rfl⟩
theorem r54_ok : compRes Tryd.prog Tryd.f54.results.toList = some r54 := by kernel_rfl
theorem f54_ok : fnOk Tryd.prog 54 = true := by kernel_rfl
def modI (x n : Int) : Int := if n < 1 then 0 else if x.tmod n < 0 then x.tmod n + n else x.tmod n
theorem modI_in (x n : Int) : 0 ≤ modI x n ∧ (1 ≤ n → modI x n < n) ∧ (n < 1 → modI x n = 0) := by
  unfold modI
  split
  · exact ⟨by omega, fun h => by omega, fun _ => rfl⟩
  · have h1 := Int.lt_tmod_of_pos x (b := n) (by omega)
    have h2 := Int.tmod_lt_of_pos x (b := n) (by omega)
    split <;> exact ⟨by omega, fun _ => by omega, fun h => by omega⟩
set_option maxHeartbeats 2000000 in
theorem Mod_c (x n : Int) (hn : InI n) (nn : Nm) : CallsA Tryd.prog 52 [di x, di n] Hp.none nn (Pu (di (modI x n)) Hp.none) := by
  obtain ⟨code, h1, h2⟩ := c52_ok
  refine callsA_of (T0_ok _) mixed (N := fun t => (0, t)) Tryd.func52 h1 h2 r52_ok [] false js_nil js_nil' (by simp [Tryd.f52]) ?_
  have hi := modI_in x n
  by_cases hb : n < 1
  · simp (maxSteps:=500000) only [↓vp, vv, ↓reduceIte, simprocAttr, c52, r52, c52_1, c52_2, hb, Pu, modI, decide_true]
  · have h0 : n ≠ 0 := by omega
    have h2 := Int.lt_tmod_of_pos x (b := n) (by omega)
    have h3 := Int.tmod_lt_of_pos x (b := n) (by omega)
    by_cases hr : x.tmod n < 0
    · have hw : IntKind.i64.wrap (x.tmod n + n) = x.tmod n + n := wrap_i (by omega)
      simp (maxSteps:=500000) only [↓vp, vv, ↓reduceIte, simprocAttr, c52, r52, c52_1, c52_2, hb, hr, hw, Pu, modI, decide_true, decide_false, ne_eq, h0, not_false_eq_true]
    · simp (maxSteps:=500000) only [↓vp, vv, ↓reduceIte, simprocAttr, c52, r52, c52_1, c52_2, hb, hr, Pu, modI, decide_true, decide_false, ne_eq, h0, not_false_eq_true]
set_option maxHeartbeats 4000000 in
theorem Raw_c : SrcC Tryd.prog 53 [] InI di := by
  intro i L at' nn ho
  obtain ⟨code, h1, h2⟩ := c53_ok
  refine callsA_of (T0_ok _) mixed (N := fun t => (i.1 + 1, t)) Tryd.func53 h1 h2 r53_ok [i] false js_one js_one' (by simp [Tryd.f53]) ?_
  obtain ⟨ns, hL, hns⟩ := ho.ints
  have hlo := ho.lo
  have hhi := ho.hi
  have hlen := ho.len
  by_cases hb : (L.length : Int) ≤ at'
  · simp (maxSteps:=500000) only [↓vp, vv, ↓reduceIte, simprocAttr, c53, r53, c53_1, hb, decide_true]
    exact ⟨at', 0, ho, by decide, rfl, rfl⟩
  · have hw : IntKind.i64.wrap (at' + 1) = at' + 1 := wrap_i (by omega)
    have hw2 : IntKind.i64.wrap (at' + 1 - 1) = at' := by rw [Int.add_sub_cancel]; exact wrap_i (by omega)
    obtain ⟨k, rfl⟩ : ∃ k : Nat, at' = k := ⟨at'.toNat, by omega⟩
    have hk : k < ns.length := by rw [hL, List.length_map] at hb; omega
    have hg : L.getD k [] = [di ns[k]] := by rw [hL, List.getD_eq_getElem?_getD, List.getElem?_map, List.getElem?_eq_getElem hk]; rfl
    have h0 : (0 : Int) ≤ k := by omega
    have hkL : (k : Int) < L.length := by omega
    simp (maxSteps:=500000) only [↓vp, vv, ↓reduceIte, simprocAttr, c53, r53, c53_1, hb, hw, hw2, decide_true, decide_false, hg, Int.toNat_natCast, h0, hkL]
    exact ⟨k + 1, ns[k], ⟨by omega, by omega, hlen, ns, hL, hns⟩, hns _ (List.getElem_mem hk), rfl, rfl⟩
def sel0 {α : Type} (post : α → Prop) : List D → Option (Prop × (α → Prop))
  | [] => some (True, post)
  | _ => Option.none
def selMod : List D → Option (Prop × D)
  | [.v (.int .i64 x), .v (.int .i64 n)] => some (InI n, di (modI x n))
  | _ => Option.none
def TN : Tbl := tc 53 (rowSrc (sel0 InI) di) (tc 52 (rowPu selMod) T0)
theorem TN_ok : TblOk Tryd.prog TN := by
  refine tc_src f53_ok (fun args pre post h hp => ?_) (tc_pu f52_ok (fun args pre d h hp nn => ?_) (T0_ok _))
  · unfold sel0 at h
    split at h <;> cases h
    exact ⟨⟨0, by omega⟩, Raw_c⟩
  · unfold selMod at h
    split at h <;> cases h
    exact Mod_c _ _ hp nn
def NPost (n x : Int) : Prop := 0 ≤ x ∧ (1 ≤ n → x < n) ∧ (n < 1 → x = 0)
set_option maxHeartbeats 4000000 in
theorem N_c (n : Int) (hn : InI n) : SrcC Tryd.prog 14 [di n] (NPost n) di := by
  intro i L at' nn ho
  obtain ⟨code, h1, h2⟩ := c14_ok
  refine callsA_of TN_ok mixed (N := fun t => (i.1 + 1, t)) Tryd.func14 h1 h2 r14_ok [i] false js_one js_one' (by simp [Tryd.f14]) ?_
  simp (maxSteps:=500000) only [↓vp, vv, ↓reduceIte, simprocAttr, c14, r14, TN, sel0, selMod, ho]
  exact fun ⟨at2, ho2⟩ x hx => ⟨hn, at2, _, ho2, modI_in x n, rfl, rfl⟩
def selI {α : Type} (ok : Int → Prop) (post : Int → α → Prop) : List D → Option (Prop × (α → Prop))
  | [.v (.int .i64 n)] => some (ok n, post n)
  | _ => Option.none
def T1 : Tbl := tc 14 (rowSrc (selI InI NPost) di) T0
theorem T1_ok : TblOk Tryd.prog T1 := by
  refine tc_src f14_ok (fun args pre post h hp => ?_) (T0_ok _)
  unfold selI at h
  split at h <;> cases h
  exact ⟨⟨_, modI_in 0 _⟩, N_c _ hp⟩
def IsMem {α : Type} (l : List α) (x : α) : Prop := x ∈ l
theorem getD_map {α : Type} (g : α → List D) (l : List α) (k : Nat) (h : k < l.length) : (l.map g).getD k [] = g l[k] := by
  rw [List.getD_eq_getElem?_getD, List.getElem?_map, List.getElem?_eq_getElem h]; rfl
set_option maxHeartbeats 4000000 in
theorem Pick_c (ns : List Int) (h0 : ns ≠ []) (hl : ns.length ≤ 2000) : SrcC Tryd.prog 33 [.sl (ns.map fun n => [di n])] (IsMem ns) di := by
  intro i L at' nn ho
  obtain ⟨code, h1, h2⟩ := c33_ok
  refine callsA_of T1_ok mixed (N := fun t => (i.1 + 1, t)) Tryd.func33 h1 h2 r33_ok [i] false js_one js_one' (by simp [Tryd.f33]) ?_
  have hn : InI ns.length := by omega
  have h1 : 1 ≤ ns.length := by cases ns with | nil => exact absurd rfl h0 | cons => simp
  simp (maxSteps:=500000) only [↓vp, vv, ↓reduceIte, simprocAttr, c33, r33, T1, selI, ho, List.length_map]
  refine ⟨hn, fun ⟨at2, ho2⟩ x ⟨hx0, hx1, _⟩ => ?_⟩
  have hx := hx1 (by omega)
  have hk : x.toNat < ns.length := by omega
  rw [getD_map _ ns x.toNat hk]
  simp (maxSteps:=500000) only [↓vp, vv, ↓reduceIte, simprocAttr, hx, hx0]
  exact ⟨at2, _, ho2, List.getElem_mem hk, rfl, rfl⟩
set_option maxHeartbeats 4000000 in
theorem Text_c (ns : List ByteArray) (h0 : ns ≠ []) (hl : ns.length ≤ 2000) : SrcC Tryd.prog 54 [.sl (ns.map fun n => [ds n])] (IsMem ns) ds := by
  intro i L at' nn ho
  obtain ⟨code, h1, h2⟩ := c54_ok
  refine callsA_of T1_ok mixed (N := fun t => (i.1 + 1, t)) Tryd.func54 h1 h2 r54_ok [i] false js_one js_one' (by simp [Tryd.f54]) ?_
  have hn : InI ns.length := by omega
  have h1 : 1 ≤ ns.length := by cases ns with | nil => exact absurd rfl h0 | cons => simp
  simp (maxSteps:=500000) only [↓vp, vv, ↓reduceIte, simprocAttr, c54, r54, T1, selI, ho, List.length_map]
  refine ⟨hn, fun ⟨at2, ho2⟩ x ⟨hx0, hx1, _⟩ => ?_⟩
  have hx := hx1 (by omega)
  have hk : x.toNat < ns.length := by omega
  rw [getD_map _ ns x.toNat hk]
  simp (maxSteps:=500000) only [↓vp, vv, ↓reduceIte, simprocAttr, hx, hx0]
  exact ⟨at2, _, ho2, List.getElem_mem hk, rfl, rfl⟩
def RPost (a b x : Int) : Prop := a ≤ x ∧ (a ≤ b → x ≤ b) ∧ (b < a → x = a)
set_option maxHeartbeats 4000000 in
theorem Range_c (a b : Int) (ha : InI a) (hb : InI b) (hd : b - a < 9223372036854775807) (hd' : -9223372036854775808 ≤ b - a) : SrcC Tryd.prog 32 [di a, di b] (RPost a b) di := by
  intro i L at' nn ho
  obtain ⟨code, h1, h2⟩ := c32_ok
  refine callsA_of T1_ok mixed (N := fun t => (i.1 + 1, t)) Tryd.func32 h1 h2 r32_ok [i] false js_one js_one' (by simp [Tryd.f32]) ?_
  have w1 : IntKind.i64.wrap (b - a) = b - a := wrap_i (by omega)
  have w2 : IntKind.i64.wrap (b - a + 1) = b - a + 1 := wrap_i (by omega)
  have hn : InI (b - a + 1) := by omega
  simp (maxSteps:=500000) only [↓vp, vv, ↓reduceIte, simprocAttr, c32, r32, T1, selI, ho, w1, w2]
  refine ⟨hn, fun ⟨at2, ho2⟩ x ⟨hx0, hx1, hx2⟩ => ?_⟩
  have w3 : IntKind.i64.wrap (a + x) = a + x := wrap_i (by omega)
  try rw [w3]
  exact ⟨at2, _, ho2, ⟨by omega, by omega, by omega⟩, rfl, rfl⟩
def nm1B (f : ByteArray) (n : Int) : ByteArray := f ++ strOf [IntKind.u8.wrap (IntKind.i64.wrap (97 + n.tmod 26))]
set_option maxHeartbeats 4000000 in
theorem name_c (f : ByteArray) (n : Int) (hf : f.size ≤ 1000) (nn : Nm) : CallsA Tryd.prog 51 [ds f, di n] Hp.none nn (Pu (ds (nm1B f n)) Hp.none) := by
  obtain ⟨code, h1, h2⟩ := c51_ok
  refine callsA_of (T0_ok _) mixed (N := fun t => (0, t)) Tryd.func51 h1 h2 r51_ok [] false js_nil js_nil' (by simp [Tryd.f51]) ?_
  simp (maxSteps:=500000) only [↓vp, vv, ↓reduceIte, simprocAttr, c51, r51, bytesD, Pu, nm1B]
  have : (strOf [IntKind.u8.wrap (IntKind.i64.wrap (97 + n.tmod 26))]).size = 1 := by simp [strOf]
  first | exact ⟨by decide, by omega⟩ | omega
theorem js_nn {nn : Nm} : ∀ (j : Nm) (x : En), Hp.none j = some x → j ∈ [nn] := fun j x h => by cases h
theorem js_nn' {nn : Nm} {Hs : Hp} : ∀ j ∈ [nn], (Hs j).isSome = true ∨ j = nn := fun j h => .inr (List.mem_singleton.1 h)
set_option maxHeartbeats 4000000 in
theorem New_c (L : List (List D)) (nn : Nm) : CallsA Tryd.prog 11 [.sl L] Hp.none nn (Pu (.ptr nn 0 0 0) (Hp.none.put nn (sE (L.take 2000) 0))) := by
  obtain ⟨code, h1, h2⟩ := c11_ok
  refine callsA_of (T0_ok _) mixed (N := fun _ => nn) Tryd.func11 h1 h2 r11_ok [nn] true js_nn js_nn' (by simp [Tryd.f11]) ?_
  simp (maxSteps:=500000) only [↓vp, vv, ↓reduceIte, simprocAttr, c11, r11]
  by_cases hb : (2000 : Int) < L.length
  · simp only [if_pos hb]
    (repeat' apply And.intro) <;> first | omega | rfl
  · simp only [if_neg hb]
    have e : ∀ k, L.length ≤ k → List.take k L = List.take 2000 L := fun k hk => by
      rw [List.take_of_length_le hk, List.take_of_length_le (by omega)]
    (repeat' apply And.intro) <;> first | omega | rfl | (rw [e _ (by omega)])
structure Pt where
  at' : Int
  height : Int
  limit : Int
def Pt.row (p : Pt) : List D := [di p.at', di p.height, di p.limit]
structure Seg where
  name : ByteArray
  fr : Int
  to : Int
  cap : Int
  resist : Int
  wave : Int
  points : List Pt
def Seg.row (s : Seg) : List D := [ds s.name, di s.fr, di s.to, di s.cap, di s.resist, di s.wave, .sl (s.points.map Pt.row)]
def Seg.enc (s : Seg) : D := .agg s.row
def selPick : List D → Option (Prop × (Int → Prop))
  | [.sl rows] => match intsOf rows with
    | some ns => some (ns ≠ [] ∧ ns.length ≤ 2000, IsMem ns)
    | Option.none => Option.none
  | _ => Option.none
def selText : List D → Option (Prop × (ByteArray → Prop))
  | [.sl rows] => match strsOf rows with
    | some ns => some (ns ≠ [] ∧ ns.length ≤ 2000, IsMem ns)
    | Option.none => Option.none
  | _ => Option.none
def selRange : List D → Option (Prop × (Int → Prop))
  | [.v (.int .i64 a), .v (.int .i64 b)] => some ((InI a ∧ InI b) ∧ b - a < 9223372036854775807 ∧ -9223372036854775808 ≤ b - a, RPost a b)
  | _ => Option.none
def selName : List D → Option (Prop × D)
  | [.v (.string f), .v (.int .i64 n)] => some (f.size ≤ 1000, ds (nm1B f n))
  | _ => Option.none
def T2 : Tbl := tc 33 (rowSrc selPick di) (tc 54 (rowSrc selText ds) (tc 32 (rowSrc selRange di) (tc 51 (rowPu selName) T1)))
theorem T2_ok : TblOk Tryd.prog T2 := by
  refine tc_src f33_ok (fun args pre post h hp => ?_) (tc_src f54_ok (fun args pre post h hp => ?_) (tc_src f32_ok (fun args pre post h hp => ?_) (tc_pu f51_ok (fun args pre d h hp nn => ?_) T1_ok)))
  · unfold selPick at h
    split at h
    · split at h
      · rename_i ns hns
        cases h
        obtain ⟨h0, hl⟩ := hp
        rw [intsOf_eq hns]
        refine ⟨?_, Pick_c _ h0 hl⟩
        cases ns with
        | nil => exact absurd rfl h0
        | cons n ns => exact ⟨n, List.mem_cons_self ..⟩
      · cases h
    · cases h
  · unfold selText at h
    split at h
    · split at h
      · rename_i ns hns
        cases h
        obtain ⟨h0, hl⟩ := hp
        rw [strsOf_eq hns]
        refine ⟨?_, Text_c _ h0 hl⟩
        cases ns with
        | nil => exact absurd rfl h0
        | cons n ns => exact ⟨n, List.mem_cons_self ..⟩
      · cases h
    · cases h
  · unfold selRange at h
    split at h <;> cases h
    obtain ⟨⟨h1, h2⟩, h3, h4⟩ := hp
    exact ⟨⟨_, Int.le_refl _, fun h => h, fun _ => rfl⟩, Range_c _ _ h1 h2 h3 h4⟩
  · unfold selName at h
    split at h <;> cases h
    exact name_c _ _ hp nn
structure PtsOk (cap lim atv : Int) (pts : List Pt) : Prop where
  asc : pts.Pairwise (fun a b => a.at' < b.at')
  le : ∀ p ∈ pts, p.at' ≤ atv ∧ -500 ≤ p.height ∧ p.height ≤ 5000 ∧ 0 ≤ p.limit ∧ p.limit ≤ 100000000
  hd : pts.head?.map (·.at') = some 0
  lo : 0 ≤ atv
  hi : atv < cap
theorem PtsOk.more {cap lim atv : Int} {pts : List Pt} (h : PtsOk cap lim atv pts) (x : Int) (hx : atv < x) (hc : x < cap) (z l : Int) (hz : -500 ≤ z ∧ z ≤ 5000) (hl : 0 ≤ l ∧ l ≤ 100000000) : PtsOk cap lim x (pts ++ [⟨x, z, l⟩]) := by
  refine ⟨List.pairwise_append.2 ⟨h.asc, List.pairwise_singleton _ _, fun a ha b hb => ?_⟩, fun p hp => ?_, ?_, by have := h.lo; omega, hc⟩
  · rw [List.mem_singleton.1 hb]
    have := (h.le a ha).1
    dsimp only; omega
  · rcases List.mem_append.1 hp with hp | hp
    · have := h.le p hp; omega
    · rw [List.mem_singleton.1 hp]
      dsimp only; omega
  · cases pts with
    | nil => have := h.hd; cases this
    | cons p ps => exact h.hd
structure PtsEnd (cap : Int) (pts : List Pt) : Prop where
  asc : pts.Pairwise (fun a b => a.at' < b.at')
  le : ∀ p ∈ pts, -500 ≤ p.height ∧ p.height ≤ 5000 ∧ 0 ≤ p.limit ∧ p.limit ≤ 100000000
  hd : pts.head?.map (·.at') = some 0
  last : pts.getLast?.map (·.at') = some cap
theorem PtsOk.fin {cap lim atv : Int} {pts : List Pt} (h : PtsOk cap lim atv pts) (z l : Int) (hz : -500 ≤ z ∧ z ≤ 5000) (hl : 0 ≤ l ∧ l ≤ 100000000) : PtsEnd cap (pts ++ [⟨cap, z, l⟩]) := by
  refine ⟨List.pairwise_append.2 ⟨h.asc, List.pairwise_singleton _ _, fun a ha b hb => ?_⟩, fun p hp => ?_, ?_, by simp⟩
  · rw [List.mem_singleton.1 hb]
    have := (h.le a ha).1
    have := h.hi
    dsimp only; omega
  · rcases List.mem_append.1 hp with hp | hp
    · have := h.le p hp; omega
    · rw [List.mem_singleton.1 hp]
      dsimp only; omega
  · cases pts with
    | nil => have := h.hd; cases this
    | cons p ps => exact h.hd
structure Port where
  name : ByteArray
  node : Int
  press : Int
def Port.row (p : Port) : List D := [ds p.name, di p.node, di p.press]
structure Stn where
  name : ByteArray
  node : Int
  head : Int
  fall : Int
  suct : Int
def Stn.row (s : Stn) : List D := [ds s.name, di s.node, di s.head, di s.fall, di s.suct]
structure Net where
  nodes : List ByteArray
  segs : List Seg
  ports : List Port
  sts : List Stn
  vap : Int
  set : Int
def nmRow (s : ByteArray) : List D := [ds s]
def Net.enc (n : Net) : D := .agg [.sl (n.nodes.map nmRow), .sl (n.segs.map Seg.row), .sl (n.ports.map Port.row), .sl (n.sts.map Stn.row), di n.vap, di n.set]
def AllI {α : Type} (P : Nat → α → Prop) (l : List α) : Prop := ∀ j x, l[j]? = some x → P j x
theorem AllI.nil {α : Type} (P : Nat → α → Prop) : AllI P [] := fun j x h => by simp at h
theorem AllI.snoc {α : Type} {P : Nat → α → Prop} {l : List α} (h : AllI P l) {x : α} (hx : P l.length x) : AllI P (l ++ [x]) := fun j y hj => by
  rcases Nat.lt_trichotomy j l.length with h1 | h1 | h1
  · rw [List.getElem?_append_left h1] at hj; exact h j y hj
  · subst h1; simp at hj; subst hj; exact hx
  · rw [List.getElem?_eq_none (by simp; omega)] at hj; cases hj
theorem AllI.imp {α : Type} {P Q : Nat → α → Prop} {l : List α} (h : AllI P l) (hq : ∀ j x, P j x → Q j x) : AllI Q l := fun j x hj => hq j x (h j x hj)
def PortAt (i : Int) (j : Nat) (p : Port) : Prop := p.name = nm1B ⟨#[113]⟩ j ∧ 0 ≤ p.node ∧ p.node < i ∧ 0 ≤ p.press ∧ p.press ≤ 100000000
def StnAt (i : Int) (j : Nat) (p : Stn) : Prop := p.name = nm1B ⟨#[115]⟩ j ∧ 0 ≤ p.node ∧ p.node < i ∧ 0 ≤ p.head ∧ p.head ≤ 100000000 ∧ 0 ≤ p.fall ∧ p.fall ≤ 100000 ∧ 0 ≤ p.suct ∧ p.suct ≤ 100000000
structure PortsOk (last i : Int) (l : List Port) : Prop where
  all : AllI (PortAt i) l
  asc : l.Pairwise (fun a b => a.node < b.node)
  hd : 0 < i → l.head?.map (·.node) = some 0
  last : last < i → l.getLast?.map (·.node) = some last
  len : (l.length : Int) ≤ i
structure StnsOk (i : Int) (l : List Stn) : Prop where
  all : AllI (StnAt i) l
  asc : l.Pairwise (fun a b => a.node < b.node)
  len : (l.length : Int) ≤ i
theorem pw_snoc {α : Type} {R : α → α → Prop} {l : List α} (h : l.Pairwise R) {x : α} (hx : ∀ a ∈ l, R a x) : (l ++ [x]).Pairwise R := List.pairwise_append.2 ⟨h, List.pairwise_singleton _ _, fun a ha b hb => by rw [List.mem_singleton.1 hb]; exact hx a ha⟩
theorem AllI.mem {α : Type} {P : Nat → α → Prop} {l : List α} (h : AllI P l) {x : α} (hx : x ∈ l) : ∃ j, P j x := by
  obtain ⟨j, hj⟩ := List.getElem?_of_mem hx
  exact ⟨j, h j x hj⟩
theorem PortsOk.add {last i : Int} {l : List Port} (h : PortsOk last i l) (h0 : 0 ≤ i) (hl : i ≤ last) (pr : Int) (hp : 0 ≤ pr ∧ pr ≤ 100000000) : PortsOk last (i + 1) (l ++ [⟨nm1B ⟨#[113]⟩ l.length, i, pr⟩]) := by
  refine ⟨(h.all.imp fun j x hx => ?_).snoc ?_, pw_snoc h.asc fun a ha => ?_, fun _ => ?_, fun hi => ?_, ?_⟩
  · obtain ⟨a, b, c, d⟩ := hx; exact ⟨a, b, by omega, d⟩
  · exact ⟨rfl, h0, by dsimp only; omega, hp⟩
  · obtain ⟨j, hj⟩ := h.all.mem ha; exact hj.2.2.1
  · cases l with
    | nil =>
      have : i = 0 := by
        rcases Int.lt_or_le 0 i with h1 | h1
        · have := h.hd h1; cases this
        · omega
      subst this; rfl
    | cons p ps =>
      have : 0 < i := by have := h.len; simp at this; omega
      exact h.hd this
  · simp; omega
  · have := h.len; simp; omega
theorem PortsOk.skip {last i : Int} {l : List Port} (h : PortsOk last i l) (h0 : 0 < i) (hl : i < last) : PortsOk last (i + 1) l :=
  ⟨h.all.imp fun j x hx => by obtain ⟨a, b, c, d⟩ := hx; exact ⟨a, b, by omega, d⟩, h.asc, fun _ => h.hd h0, fun hi => by omega, by have := h.len; omega⟩
theorem StnsOk.add {i : Int} {l : List Stn} (h : StnsOk i l) (h0 : 0 ≤ i) (hd fl su : Int) (h1 : 0 ≤ hd ∧ hd ≤ 100000000) (h2 : 0 ≤ fl ∧ fl ≤ 100000) (h3 : 0 ≤ su ∧ su ≤ 100000000) : StnsOk (i + 1) (l ++ [⟨nm1B ⟨#[115]⟩ l.length, i, hd, fl, su⟩]) := by
  refine ⟨(h.all.imp fun j x hx => ?_).snoc ?_, pw_snoc h.asc fun a ha => ?_, ?_⟩
  · obtain ⟨a, b, c, d⟩ := hx; exact ⟨a, b, by omega, d⟩
  · exact ⟨rfl, h0, by dsimp only; omega, h1.1, h1.2, h2.1, h2.2, h3⟩
  · obtain ⟨j, hj⟩ := h.all.mem ha; exact hj.2.2.1
  · have := h.len; simp; omega
theorem StnsOk.skip {i : Int} {l : List Stn} (h : StnsOk i l) : StnsOk (i + 1) l :=
  ⟨h.all.imp fun j x hx => by obtain ⟨a, b, c, d⟩ := hx; exact ⟨a, b, by omega, d⟩, h.asc, by have := h.len; omega⟩
end Go.Proofs.YtehmmnnmkapfeaaDoor

/- Names of the reference; the names of a network. -/
namespace Go.Proofs.YtehmmnnmkapfeaaDoor
open Go
set_option maxHeartbeats 4000000 in
theorem rname_c (s : ByteArray) (nn : Nm) : CallsA Tryd.prog 101 [ds s] Hp.none nn (Pu (db (nameB s)) Hp.none) := by
  obtain ⟨code, h1, h2⟩ := c101_ok
  refine callsA_of (T0_ok _) mixed (N := fun t => (0, t)) Tryd.func101 h1 h2 r101_ok [] false js_nil js_nil' (by simp [Tryd.f101]) ?_
  by_cases a1 : (s.size : Int) < 1
  · have b1 : s.size < 1 := by omega
    simp (maxSteps:=500000) only [↓vp, vv, ↓reduceIte, simprocAttr, c101, r101, c101_1, c101_2, c101_3, c101_4, c101_5, a1, b1, nameB, Pu, decide_true, decide_false]
  · by_cases a2 : (12 : Int) < s.size
    · have b1 : ¬ s.size < 1 := by omega
      have b2 : 12 < s.size := by omega
      simp (maxSteps:=500000) only [↓vp, vv, ↓reduceIte, simprocAttr, c101, r101, c101_1, c101_2, c101_3, c101_4, c101_5, a1, a2, b1, b2, nameB, Pu, decide_true, decide_false]
    · have b1 : ¬ s.size < 1 := by omega
      have b2 : ¬ 12 < s.size := by omega
      have b3 : (0 : Int) < s.size := by omega
      by_cases a3 : byteI s 0 < 97
      · have p0 : ¬ placeI (byteI s 0) = 1 := by unfold placeI; split <;> (try split) <;> (try split) <;> omega
        simp (maxSteps:=500000) only [↓vp, vv, ↓reduceIte, simprocAttr, c101, r101, c101_1, c101_2, c101_3, c101_4, c101_5, a1, a2, a3, b1, b2, b3, p0, byteI_eq, nameB, Pu, decide_true, decide_false]
      by_cases a4 : 122 < byteI s 0
      · have p0 : ¬ placeI (byteI s 0) = 1 := by unfold placeI; split <;> (try split) <;> (try split) <;> omega
        simp (maxSteps:=500000) only [↓vp, vv, ↓reduceIte, simprocAttr, c101, r101, c101_1, c101_2, c101_3, c101_4, c101_5, a1, a2, a3, a4, b1, b2, b3, p0, byteI_eq, nameB, Pu, decide_true, decide_false]
      have p0 : placeI (byteI s 0) = 1 := by unfold placeI; rw [if_pos (by omega)]
      have e0 : nameB s = (bytesI s).all (fun c => decide (placeI c ≠ 0)) := by unfold nameB; rw [if_neg b1, if_neg b2, if_pos p0]
      rw [e0]
      generalize hb : (bytesI s).all (fun c => decide (placeI c ≠ 0)) = b
      simp (maxSteps:=500000) only [↓vp, vv, ↓reduceIte, simprocAttr, c101, c101_5, a1, a2, a3, a4, b3, byteI_eq, decide_true, decide_false]
      refine rng_loop s.size (fun j => ⟨fr [(0, ds s), (3, di j)], Hp.none⟩) (fun j => ((bytesI s).drop j).all (fun c => decide (placeI c ≠ 0)) = b) (weak0 (by simp (maxSteps:=500000) only [↓vp, vv, ↓reduceIte, simprocAttr, coverS]) (by simp (maxSteps:=500000) only [↓vp, vv, ↓reduceIte, simprocAttr, refsF])) hb (fun j hj he => ?_) (fun he => ?_)
      · have hj' : (j : Int) < s.size := by omega
        have hn := idx_nn j
        have w1 := idx_next (j := j) (by omega)
        obtain ⟨hf, ht⟩ := drop_all (by rw [bytesI_len]; exact hj) he
        rw [bytesI_at] at hf ht
        generalize hc : byteI s j = c at hf ht
        by_cases c1 : c < 97
        · by_cases c2 : c < 48
          · by_cases c3 : c = 45
            · have p0 : ¬ placeI c = 0 := by unfold placeI; split <;> (try split) <;> (try split) <;> omega
              have q : (c != 45) = false := by simp; omega
              simp (maxSteps:=500000) only [↓vp, vv, ↓reduceIte, simprocAttr, c101, r101, c101_1, c101_2, c101_3, c101_4, c101_5, hj', hn, Int.toNat_natCast, byteI_eq, hc, w1, Pu, decide_true, decide_false, c1, c2, q]
              exact rng_next hj (weak0 (by simp (maxSteps:=500000) only [↓vp, vv, ↓reduceIte, simprocAttr, coverS, w1]) (by simp (maxSteps:=500000) only [↓vp, vv, ↓reduceIte, simprocAttr, refsF])) (ht (by simp [p0]))
            · have p0 : placeI c = 0 := by unfold placeI; rw [if_neg (by omega), if_neg (by omega), if_neg (by omega)]
              have e5 : b = false := hf (by simp [p0])
              subst e5
              have q : (c != 45) = true := by simp; omega
              simp (maxSteps:=500000) only [↓vp, vv, ↓reduceIte, simprocAttr, c101, r101, c101_1, c101_2, c101_3, c101_4, c101_5, hj', hn, Int.toNat_natCast, byteI_eq, hc, w1, Pu, decide_true, decide_false, c1, c2, q]
          · by_cases c3 : 57 < c
            · have p0 : placeI c = 0 := by unfold placeI; rw [if_neg (by omega), if_neg (by omega), if_neg (by omega)]
              have e5 : b = false := hf (by simp [p0])
              subst e5
              have q : (c != 45) = true := by simp; omega
              simp (maxSteps:=500000) only [↓vp, vv, ↓reduceIte, simprocAttr, c101, r101, c101_1, c101_2, c101_3, c101_4, c101_5, hj', hn, Int.toNat_natCast, byteI_eq, hc, w1, Pu, decide_true, decide_false, c1, c2, c3, q]
            · have p0 : ¬ placeI c = 0 := by unfold placeI; split <;> (try split) <;> (try split) <;> omega
              simp (maxSteps:=500000) only [↓vp, vv, ↓reduceIte, simprocAttr, c101, r101, c101_1, c101_2, c101_3, c101_4, c101_5, hj', hn, Int.toNat_natCast, byteI_eq, hc, w1, Pu, decide_true, decide_false, c1, c2, c3]
              exact rng_next hj (weak0 (by simp (maxSteps:=500000) only [↓vp, vv, ↓reduceIte, simprocAttr, coverS, w1]) (by simp (maxSteps:=500000) only [↓vp, vv, ↓reduceIte, simprocAttr, refsF])) (ht (by simp [p0]))
        · by_cases c2 : 122 < c
          · have c3 : ¬ c < 48 := by omega
            have c4 : 57 < c := by omega
            have p0 : placeI c = 0 := by unfold placeI; rw [if_neg (by omega), if_neg (by omega), if_neg (by omega)]
            have e5 : b = false := hf (by simp [p0])
            subst e5
            have q : (c != 45) = true := by simp; omega
            simp (maxSteps:=500000) only [↓vp, vv, ↓reduceIte, simprocAttr, c101, r101, c101_1, c101_2, c101_3, c101_4, c101_5, hj', hn, Int.toNat_natCast, byteI_eq, hc, w1, Pu, decide_true, decide_false, c1, c2, c3, c4, q]
          · have p0 : ¬ placeI c = 0 := by unfold placeI; split <;> (try split) <;> (try split) <;> omega
            simp (maxSteps:=500000) only [↓vp, vv, ↓reduceIte, simprocAttr, c101, r101, c101_1, c101_2, c101_3, c101_4, c101_5, hj', hn, Int.toNat_natCast, byteI_eq, hc, w1, Pu, decide_true, decide_false, c1, c2]
            exact rng_next hj (weak0 (by simp (maxSteps:=500000) only [↓vp, vv, ↓reduceIte, simprocAttr, coverS, w1]) (by simp (maxSteps:=500000) only [↓vp, vv, ↓reduceIte, simprocAttr, refsF])) (ht (by simp [p0]))
      · have e5 : b = true := drop_all_end (by rw [bytesI_len]; exact he)
        subst e5
        simp (maxSteps:=500000) only [↓vp, vv, ↓reduceIte, simprocAttr, c101, r101, c101_1, c101_2, c101_3, c101_4, c101_5, Int.lt_irrefl, Pu, decide_true, decide_false]
theorem Seg.done (s : Seg) : doneL s.row = true := rfl
theorem Port.done (s : Port) : doneL s.row = true := rfl
theorem Stn.done (s : Stn) : doneL s.row = true := rfl
def qRow {α : Type} (f : List D → Option α) (q : α → Bool) (d : D) : Bool :=
  match d with
  | .agg r => match f r with
    | some x => q x
    | Option.none => false
  | d => match f [d] with
    | some x => q x
    | Option.none => false
def eqS (x y : ByteArray) : Bool := x.toList == y.toList
theorem eqS_self (x : ByteArray) : eqS x x = true := by simp [eqS]
def idxA {α : Type} (q : α → Bool) : Int → List α → Int
  | _, [] => -1
  | k, r :: l => if q r = true then k else idxA q (k + 1) l
theorem idxA_lt {α : Type} (q : α → Bool) : ∀ (l : List α) (k : Int) (i : Nat) (h : i < l.length), 0 ≤ k → q l[i] = true → (idxA q k l < k + i ↔ (l.take i).any q = true)
  | r :: l, k, 0, h, hk, hq => by
    simp at hq
    simp [idxA, hq]
  | r :: l, k, i + 1, h, hk, hq => by
    rw [idxA, List.take_succ_cons, List.any_cons]
    cases hr : q r with
    | true => simp; omega
    | false =>
      have := idxA_lt q l (k + 1) i (by simpa using h) (by omega) (by simpa using hq)
      rw [show k + 1 + (i : Int) = k + (i + 1 : Nat) by omega] at this
      simpa using this
theorem drop_any {α : Type} {p : α → Bool} {l : List α} {j : Nat} {b : Bool} (hj : j < l.length) (he : (l.drop j).any p = b) : (p l[j] = true → b = true) ∧ (p l[j] = false → (l.drop (j + 1)).any p = b) := by
  rw [List.drop_eq_getElem_cons hj, List.any_cons] at he
  exact ⟨fun h => by rw [h] at he; simpa using he.symm, fun h => by rw [h] at he; simpa using he⟩
theorem drop_any_end {α : Type} {p : α → Bool} {l : List α} {n : Nat} {b : Bool} (hn : n = l.length) (he : (l.drop n).any p = b) : b = false := by
  subst hn
  rw [List.drop_of_length_le (Nat.le_refl _)] at he
  exact he.symm
def dupAt {α : Type} (q : α → α → Bool) (l : List α) (i : Nat) : Bool := match l[i]? with
  | some x => (l.take i).any (q x)
  | Option.none => false
def dupB {α : Type} (q : α → α → Bool) (l : List α) : Bool := (List.range l.length).any (dupAt q l)
theorem idxOf_map {α : Type} (g : α → List D) (q : List D → Bool) (q' : α → Bool) (h : ∀ x, q (g x) = q' x) : ∀ (l : List α) (k : Int), idxOf q k (l.map g) = idxA q' k l
  | [], _ => rfl
  | x :: l, k => by rw [List.map_cons, idxOf, idxA, h x, idxOf_map g q q' h l]
theorem dup_at {α : Type} {q : α → α → Bool} {l : List α} {i : Nat} (h : i < l.length) : dupAt q l i = (l.take i).any (q l[i]) := by
  unfold dupAt
  rw [List.getElem?_eq_getElem h]
theorem range_at {n j : Nat} (h : j < (List.range n).length) : (List.range n)[j] = j := by simp
def iRow (k : Int) : List D := [di k]
end Go.Proofs.YtehmmnnmkapfeaaDoor

/- Networks: network.Check. -/
namespace Go.Proofs.YtehmmnnmkapfeaaDoor
open Go
theorem tc_cf {P : Program} {ag : Bool} {sz : Nat} {f : FuncId} {q : FuncId → List (List D) → D → Bool} {T : Tbl} (hf : fnOk P f = true) (h : ∀ (q : D → Bool) (g : FuncId) (l rows : List (List D)), QOk P ag sz q g l rows → ∀ nn, CallsA P f [.sl rows, .clo g [] (ips l)] Hp.none nn (Pu (outC (fun r => q (elV ag r)) rows) Hp.none)) (hT : TblOk P T) : TblOk P (tc f (rowPu (selQ P ag sz q outC)) T) :=
  tc_pu hf (fun args pre d hs hp nn => by
    unfold selQ at hs
    split at hs
    · split at hs
      · rename_i hi
        cases hs
        rw [ipsOf_eq hi]
        exact h _ _ _ _ hp nn
      · cases hs
    · cases hs) hT
theorem ctdiv_pos (a b : Int) (hb : 1 ≤ b) (h : 0 ≤ a.tmod b) : a.tdiv b = a / b ∧ a.tmod b = a % b := by
  have e := Int.tmod_add_mul_tdiv a b
  have l := Int.tmod_lt_of_pos a (show 0 < b by omega)
  have := (Int.ediv_emod_unique (a := a) (b := b) (r := a.tmod b) (q := a.tdiv b) (by omega)).2 ⟨e, h, l⟩
  exact ⟨this.1.symm, this.2.symm⟩
theorem ctdiv_neg (a b : Int) (hb : 1 ≤ b) (h : a.tmod b < 0) : a.tdiv b - 1 = a / b ∧ a.tmod b + b = a % b := by
  have e := Int.tmod_add_mul_tdiv a b
  have l := Int.lt_tmod_of_pos a (show 0 < b by omega)
  have := (Int.ediv_emod_unique (a := a) (b := b) (r := a.tmod b + b) (q := a.tdiv b - 1) (by omega)).2 ⟨by rw [Int.mul_sub]; omega, by omega, by omega⟩
  exact ⟨this.1.symm, this.2.symm⟩
theorem ctdiv_bd (a b : Int) (ha : -2305843009213693952 ≤ a) (ha' : a ≤ 2305843009213693952) :
    -2305843009213693952 ≤ a.tdiv b ∧ a.tdiv b ≤ 2305843009213693952 := by
  have h : (a.tdiv b).natAbs = a.natAbs / b.natAbs := Int.natAbs_tdiv a b
  have h2 : a.natAbs / b.natAbs ≤ a.natAbs := Nat.div_le_self _ _
  generalize a.natAbs / b.natAbs = q at h h2
  generalize a.tdiv b = x at *
  omega
def hf (a b : Int) : Int := if b ≤ 2 * (a % b) then a / b + 1 else a / b
theorem mul_rng {e d E D1 D2 : Int} (e0 : 0 ≤ e) (e1 : e ≤ E) (d1 : D1 ≤ d) (d2 : d ≤ D2) (h1 : D1 ≤ 0) (h2 : 0 ≤ D2) : E * D1 ≤ e * d ∧ e * d ≤ E * D2 :=
  ⟨Int.le_trans (Int.mul_le_mul_of_nonpos_right e1 h1) (Int.mul_le_mul_of_nonneg_left d1 e0), Int.le_trans (Int.mul_le_mul_of_nonneg_left d2 e0) (Int.mul_le_mul_of_nonneg_right e1 h2)⟩
theorem hf_rng {a b : Int} (hb : 0 < b) {L U : Int} (h1 : b * L ≤ a) (h2 : a ≤ b * U) : L ≤ hf a b ∧ hf a b ≤ U := by
  have e := Int.mul_ediv_add_emod a b
  have m0 := Int.emod_nonneg a (show b ≠ 0 by omega)
  have m1 := Int.emod_lt_of_pos a hb
  have l1 : L ≤ a / b := (Int.le_ediv_iff_mul_le hb).2 (by rw [Int.mul_comm]; exact h1)
  have l2 : a / b ≤ U := Int.ediv_le_of_le_mul hb (by rw [Int.mul_comm]; exact h2)
  unfold hf
  split
  · refine ⟨by omega, ?_⟩
    rcases Int.lt_or_eq_of_le l2 with h | h
    · omega
    · rw [h] at e; omega
  · exact ⟨l1, l2⟩
def fHeat (ex t : Int) : Int := 1000000 - hf (ex * (t - 150)) 10
def fPress (co p : Int) : Int := 1000000 + hf (co * p) 1000
def fac (ex co t p : Int) : Int := hf (fHeat ex t * fPress co p) 1000000
def cdOk (t p : Int) : Prop := (-400 ≤ t ∧ t ≤ 1000) ∧ (0 ≤ p ∧ p ≤ 20000)
instance (t p : Int) : Decidable (cdOk t p) := by unfold cdOk; infer_instance
theorem heat_bd {ex t : Int} (h : 0 ≤ ex ∧ ex ≤ 2000) (ht : -400 ≤ t ∧ t ≤ 1000) : (-1100000 ≤ ex * (t - 150) ∧ ex * (t - 150) ≤ 1700000) ∧ (-110000 ≤ hf (ex * (t - 150)) 10 ∧ hf (ex * (t - 150)) 10 ≤ 170000) ∧ (830000 ≤ fHeat ex t ∧ fHeat ex t ≤ 1110000) := by
  have h1 := mul_rng (E := 2000) (D1 := -550) (D2 := 850) h.1 h.2 (show -550 ≤ t - 150 by omega) (by omega) (by omega) (by omega)
  have h2 := hf_rng (a := ex * (t - 150)) (b := 10) (by omega) (L := -110000) (U := 170000) (by omega) (by omega)
  refine ⟨by omega, h2, ?_⟩
  unfold fHeat
  omega
theorem press_bd {co p : Int} (h : 0 ≤ co ∧ co ≤ 5000) (hp : 0 ≤ p ∧ p ≤ 20000) : (0 ≤ co * p ∧ co * p ≤ 100000000) ∧ (0 ≤ hf (co * p) 1000 ∧ hf (co * p) 1000 ≤ 100000) ∧ (1000000 ≤ fPress co p ∧ fPress co p ≤ 1100000) := by
  have h1 := mul_rng (E := 5000) (D1 := 0) (D2 := 20000) h.1 h.2 hp.1 hp.2 (by omega) (by omega)
  have h2 := hf_rng (a := co * p) (b := 1000) (by omega) (L := 0) (U := 100000) (by omega) (by omega)
  refine ⟨by omega, h2, ?_⟩
  unfold fPress
  omega
theorem fac_bd {ex co t p : Int} (he : 0 ≤ ex ∧ ex ≤ 2000) (hc : 0 ≤ co ∧ co ≤ 5000) (h : cdOk t p) : (0 ≤ fHeat ex t * fPress co p ∧ fHeat ex t * fPress co p ≤ 1221000000000) ∧ (830000 ≤ fac ex co t p ∧ fac ex co t p ≤ 1221000) := by
  have a := (heat_bd he h.1).2.2
  have b := (press_bd hc h.2).2.2
  have h1 := mul_rng (E := 1110000) (D1 := 0) (D2 := 1100000) (show 0 ≤ fHeat ex t by omega) a.2 (show 0 ≤ fPress co p by omega) b.2 (by omega) (by omega)
  have h2 : 830000 * 1000000 ≤ fHeat ex t * fPress co p := Int.le_trans (Int.mul_le_mul_of_nonneg_right a.1 (by omega)) (Int.mul_le_mul_of_nonneg_left b.1 (by omega))
  have h3 := hf_rng (a := fHeat ex t * fPress co p) (b := 1000000) (by omega) (L := 830000) (U := 1221000) (by omega) (by omega)
  exact ⟨by omega, h3⟩
def vfOk (g f : Int) : Prop := (0 ≤ g ∧ g ≤ 1099511627776) ∧ (1 ≤ f ∧ f ≤ 2000000)
instance (g f : Int) : Decidable (vfOk g f) := by unfold vfOk; infer_instance
theorem vf_mul {g f : Int} (h : vfOk g f) : 0 ≤ g * f ∧ g * f ≤ 2199023255552000000 := by
  have := mul_rng (E := 1099511627776) (D1 := 0) (D2 := 2000000) h.1.1 h.1.2 (show 0 ≤ f by have := h.2; omega) h.2.2 (by omega) (by omega)
  omega
def stdV (g f : Int) : Int := hf (g * f) 1000000
theorem hf_mono {a a' b : Int} (hb : 0 < b) (h : a ≤ a') : hf a b ≤ hf a' b := by
  have e := Int.mul_ediv_add_emod a b
  have e' := Int.mul_ediv_add_emod a' b
  have m1 := Int.emod_lt_of_pos a hb
  have m0 := Int.emod_nonneg a (show b ≠ 0 by omega)
  have n1 := Int.emod_lt_of_pos a' hb
  have n0 := Int.emod_nonneg a' (show b ≠ 0 by omega)
  have q := Int.ediv_le_ediv hb h
  unfold hf
  rcases Int.lt_or_eq_of_le q with hq | hq
  · split <;> split <;> omega
  · rw [hq] at e ⊢
    split <;> split <;> omega
theorem fac_anti {ex co t t' p : Int} (he : 0 ≤ ex ∧ ex ≤ 2000) (hc : 0 ≤ co ∧ co ≤ 5000) (h : cdOk t p) (h' : cdOk t' p) (ht : t ≤ t') : fac ex co t' p ≤ fac ex co t p := by
  have m1 : ex * (t - 150) ≤ ex * (t' - 150) := Int.mul_le_mul_of_nonneg_left (by omega) he.1
  have m2 := hf_mono (b := 10) (by omega) m1
  have pb := (press_bd hc h.2).2.2
  have m3 : fHeat ex t' ≤ fHeat ex t := by unfold fHeat; omega
  exact hf_mono (by omega) (Int.mul_le_mul_of_nonneg_right m3 (by omega))
theorem fac_mono {ex co t p p' : Int} (he : 0 ≤ ex ∧ ex ≤ 2000) (hc : 0 ≤ co ∧ co ≤ 5000) (h : cdOk t p) (h' : cdOk t p') (hp : p ≤ p') : fac ex co t p ≤ fac ex co t p' := by
  have m1 : co * p ≤ co * p' := Int.mul_le_mul_of_nonneg_left hp hc.1
  have m2 := hf_mono (b := 1000) (by omega) m1
  have hb := (heat_bd he h.1).2.2
  have m3 : fPress co p ≤ fPress co p' := by unfold fPress; omega
  exact hf_mono (by omega) (Int.mul_le_mul_of_nonneg_left m3 (by omega))
theorem fac_one (ex co : Int) : fac ex co 150 0 = 1000000 := by
  have h : fHeat ex 150 = 1000000 := by unfold fHeat hf; simp
  have h' : fPress co 0 = 1000000 := by unfold fPress hf; simp
  unfold fac
  rw [h, h']
  decide
theorem std_mono {g g' f f' : Int} (h : vfOk g f) (h' : vfOk g' f') (hg : g ≤ g') (hf' : f ≤ f') : stdV g f ≤ stdV g' f' :=
  hf_mono (by omega) (Int.le_trans (Int.mul_le_mul_of_nonneg_right hg (by have := h.2; omega)) (Int.mul_le_mul_of_nonneg_left hf' (by have := h'.1; omega)))
theorem std_bd {g f : Int} (h : vfOk g f) : 0 ≤ stdV g f ∧ stdV g f ≤ 2199023255552 := by
  have m := vf_mul h
  exact hf_rng (by omega) (by omega) (by omega)
structure Mtr where
  pl : Int
  bits : Int
  fac : Int
def Mtr.row (m : Mtr) : List D := [di m.pl, di m.bits, di m.fac]
def Mtr.enc (m : Mtr) : D := .agg m.row
structure Cnt where
  last : Int
  pul : Int
theorem Cnt.ext_iff2 (a b : Cnt) : (a.last = b.last ∧ a.pul = b.pul) ↔ a = b := ⟨fun h => by cases a; cases b; simp only at h; obtain ⟨h0, h1⟩ := h; simp only [h0, h1], fun h => by cases h; exact ⟨rfl, rfl⟩⟩
instance : DecidableEq Cnt := fun a b => decidable_of_iff _ (Cnt.ext_iff2 a b)
def Cnt.row (c : Cnt) : List D := [di c.last, di c.pul]
def Cnt.enc (c : Cnt) : D := .agg c.row
structure Cnd where
  te : Int
  pr : Int
theorem Cnd.ext_iff2 (a b : Cnd) : (a.te = b.te ∧ a.pr = b.pr) ↔ a = b := ⟨fun h => by cases a; cases b; simp only at h; obtain ⟨h0, h1⟩ := h; simp only [h0, h1], fun h => by cases h; exact ⟨rfl, rfl⟩⟩
instance : DecidableEq Cnd := fun a b => decidable_of_iff _ (Cnd.ext_iff2 a b)
def Cnd.row (c : Cnd) : List D := [di c.te, di c.pr]
def Cnd.enc (c : Cnd) : D := .agg c.row
structure Prd where
  nm : ByteArray
  de : Int
  ex : Int
  co : Int
  fr : Int
def Prd.row (p : Prd) : List D := [ds p.nm, di p.de, di p.ex, di p.co, di p.fr]
def Prd.enc (p : Prd) : D := .agg p.row
structure Run where
  vol : Int
  rest : Int
theorem Run.ext_iff2 (a b : Run) : (a.vol = b.vol ∧ a.rest = b.rest) ↔ a = b := ⟨fun h => by cases a; cases b; simp only at h; obtain ⟨h0, h1⟩ := h; simp only [h0, h1], fun h => by cases h; exact ⟨rfl, rfl⟩⟩
instance : DecidableEq Run := fun a b => decidable_of_iff _ (Run.ext_iff2 a b)
def Run.row (c : Run) : List D := [di c.vol, di c.rest]
def Run.enc (c : Run) : D := .agg c.row
structure Tic where
  ba : Int
  fl : Int
  fp : Int
  tl : Int
  tp : Int
  te : Int
  pr : Int
  vol : Int
theorem Tic.ext_iff2 (a b : Tic) : (a.ba = b.ba ∧ a.fl = b.fl ∧ a.fp = b.fp ∧ a.tl = b.tl ∧ a.tp = b.tp ∧ a.te = b.te ∧ a.pr = b.pr ∧ a.vol = b.vol) ↔ a = b := ⟨fun h => by cases a; cases b; simp only at h; obtain ⟨h0, h1, h2, h3, h4, h5, h6, h7⟩ := h; simp only [h0, h1, h2, h3, h4, h5, h6, h7], fun h => by cases h; exact ⟨rfl, rfl, rfl, rfl, rfl, rfl, rfl, rfl⟩⟩
instance : DecidableEq Tic := fun a b => decidable_of_iff _ (Tic.ext_iff2 a b)
def Tic.row (t : Tic) : List D := [di t.ba, di t.fl, di t.fp, di t.tl, di t.tp, di t.te, di t.pr, di t.vol]
def Tic.enc (t : Tic) : D := .agg t.row
def Tic.zero : Tic := ⟨0, 0, 0, 0, 0, 0, 0, 0⟩
structure MtrOk (m : Mtr) : Prop where
  pl : 1 ≤ m.pl ∧ m.pl ≤ 1048576
  bits : m.bits = 16 ∨ m.bits = 32
  fac : 50000 ≤ m.fac ∧ m.fac ≤ 200000
instance (m : Mtr) : Decidable (MtrOk m) := decidable_of_iff ((1 ≤ m.pl ∧ m.pl ≤ 1048576) ∧ (m.bits = 16 ∨ m.bits = 32) ∧ (50000 ≤ m.fac ∧ m.fac ≤ 200000)) ⟨fun h => ⟨h.1, h.2.1, h.2.2⟩, fun h => ⟨h.pl, h.bits, h.fac⟩⟩
def spanI (m : Mtr) : Int := if m.bits = 16 then 65536 else 4294967296
structure CntOk (m : Mtr) (c : Cnt) : Prop where
  last : 0 ≤ c.last ∧ c.last < spanI m
  pul : 0 ≤ c.pul ∧ c.pul ≤ 1099511627776
instance (m : Mtr) (c : Cnt) : Decidable (CntOk m c) := decidable_of_iff ((0 ≤ c.last ∧ c.last < spanI m) ∧ (0 ≤ c.pul ∧ c.pul ≤ 1099511627776)) ⟨fun h => ⟨h.1, h.2⟩, fun h => ⟨h.last, h.pul⟩⟩
structure PrdOk (p : Prd) : Prop where
  nm : nameB p.nm = true
  de : 400 ≤ p.de ∧ p.de ≤ 1200
  ex : 0 ≤ p.ex ∧ p.ex ≤ 2000
  co : 0 ≤ p.co ∧ p.co ≤ 5000
  fr : 1 ≤ p.fr ∧ p.fr ≤ 2000
instance (p : Prd) : Decidable (PrdOk p) := decidable_of_iff (nameB p.nm = true ∧ (400 ≤ p.de ∧ p.de ≤ 1200) ∧ (0 ≤ p.ex ∧ p.ex ≤ 2000) ∧ (0 ≤ p.co ∧ p.co ≤ 5000) ∧ (1 ≤ p.fr ∧ p.fr ≤ 2000)) ⟨fun h => ⟨h.1, h.2.1, h.2.2.1, h.2.2.2.1, h.2.2.2.2⟩, fun h => ⟨h.nm, h.de, h.ex, h.co, h.fr⟩⟩
def pV (p : Prd) : Bool := decide (PrdOk p)
theorem pV_f {p : Prd} (h : PrdOk p → False) : pV p = false := decide_eq_false h
theorem pV_t {p : Prd} (h : PrdOk p) : pV p = true := decide_eq_true h
theorem pV_o {p : Prd} (h : pV p = true) : PrdOk p := of_decide_eq_true h
def cdV (c : Cnd) : Bool := decide (cdOk c.te c.pr)
theorem cdV_f {c : Cnd} (h : cdOk c.te c.pr → False) : cdV c = false := decide_eq_false h
theorem cdV_t {c : Cnd} (h : cdOk c.te c.pr) : cdV c = true := decide_eq_true h
def facI (p : Prd) (c : Cnd) : Int × Int := if pV p then (if cdV c then (fac p.ex p.co c.te c.pr, 0) else (0, 1)) else (0, 9)
def vfV (g f : Int) : Bool := decide (vfOk g f)
theorem vfV_f {g f : Int} (h : vfOk g f → False) : vfV g f = false := decide_eq_false h
theorem vfV_t {g f : Int} (h : vfOk g f) : vfV g f = true := decide_eq_true h
theorem vfV_o {g f : Int} (h : vfV g f = true) : vfOk g f := of_decide_eq_true h
def stdI (g f : Int) : Int × Int := if vfV g f then (stdV g f, 0) else (0, 1)
structure RunOk (r : Run) : Prop where
  vol : 0 ≤ r.vol ∧ r.vol ≤ 1099511627776
  rest : 0 ≤ r.rest ∧ r.rest ≤ 999999
instance (r : Run) : Decidable (RunOk r) := decidable_of_iff ((0 ≤ r.vol ∧ r.vol ≤ 1099511627776) ∧ (0 ≤ r.rest ∧ r.rest ≤ 999999)) ⟨fun h => ⟨h.1, h.2⟩, fun h => ⟨h.vol, h.rest⟩⟩
def Run.zero : Run := ⟨0, 0⟩
def Tic.fr (t : Tic) : Cnt := ⟨t.fl, t.fp⟩
def Tic.to (t : Tic) : Cnt := ⟨t.tl, t.tp⟩
end Go.Proofs.YtehmmnnmkapfeaaDoor
