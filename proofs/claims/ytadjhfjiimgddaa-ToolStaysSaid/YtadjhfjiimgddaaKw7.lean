/- ToolStays: Nm CodeB Gen1 Gen2 Gen3 Gen4 Gen5. -/
import Derived.Test.YtadjhfjiimgddaaKw5
import Derived.Test.YtadjhfjiimgddaaKw6
import Derived.Test.YtadjhfjiimgddaaKw3
import Derived.Test.YtadjhfjiimgddaaProg
import Derived.Test.YtadjhfjiimgddaaKw4
set_option linter.unusedSimpArgs false
set_option linter.unusedVariables false
set_option maxRecDepth 100000

/- Names: lines.Name and ref03.Name. -/
namespace Go.Proofs.Ytadjhfjiimgddaa
open Go
def placeI (c : Int) : Int := if 97 ≤ c ∧ c ≤ 122 then 1 else if 48 ≤ c ∧ c ≤ 57 then 2 else if c = 45 then 2 else 0
def byteI (s : ByteArray) (k : Nat) : Int := (s.data.getD k 0).toNat
def bytesI (s : ByteArray) : List Int := (List.range s.size).map (byteI s)
def nameB (s : ByteArray) : Bool := if s.size < 1 then false else if 12 < s.size then false else if placeI (byteI s 0) = 1 then (bytesI s).all (fun c => decide (placeI c ≠ 0)) else false
theorem bytesI_len (s : ByteArray) : (bytesI s).length = s.size := by simp [bytesI]
theorem bytesI_at (s : ByteArray) {j : Nat} (h : j < (bytesI s).length) : (bytesI s)[j] = byteI s j := by simp [bytesI]
set_option maxHeartbeats 4000000 in
theorem place_c (c : Int) (nn : Nm) : CallsA Try.prog 120 [.v (.int .u8 c)] Hp.none nn (Pu (di (placeI c)) Hp.none) := by
 obtain ⟨code, h1, h2⟩ := c120_ok
 refine callsA_of (T0_ok _) mixed (N := fun t => (0, t)) Try.func120 h1 h2 r120_ok [] false js_nil js_nil' (by simp [Try.f120]) ?_
 by_cases a1 : 97 ≤ c
 ·by_cases a2 : c ≤ 122
  ·simp (maxSteps:=500000) only [↓vp, vv, ↓reduceIte, simprocAttr, c120, r120, c120_1, c120_2, c120_3, c120_4, c120_5, c120_6, a1, a2, placeI, Pu, decide_true, decide_false]
  ·have a3 : ¬ c ≤ 57 := by omega
   have a4 : 48 ≤ c := by omega
   have a5 : (c == 45) = false := beq_false_of_ne (by omega)
   have a6 : ¬ c = 45 := by omega
   simp (maxSteps:=500000) only [↓vp, vv, ↓reduceIte, simprocAttr, c120, r120, c120_1, c120_2, c120_3, c120_4, c120_5, c120_6, a1, a2, a3, a4, a5, a6, placeI, Pu, decide_true, decide_false]
 ·by_cases a2 : 48 ≤ c
  ·by_cases a3 : c ≤ 57
   ·simp (maxSteps:=500000) only [↓vp, vv, ↓reduceIte, simprocAttr, c120, r120, c120_1, c120_2, c120_3, c120_4, c120_5, c120_6, a1, a2, a3, placeI, Pu, decide_true, decide_false]
   ·have a5 : (c == 45) = false := beq_false_of_ne (by omega)
    have a6 : ¬ c = 45 := by omega
    simp (maxSteps:=500000) only [↓vp, vv, ↓reduceIte, simprocAttr, c120, r120, c120_1, c120_2, c120_3, c120_4, c120_5, c120_6, a1, a2, a3, a5, a6, placeI, Pu, decide_true, decide_false]
  ·by_cases a5 : c = 45
   ·have a6 : (c == 45) = true := beq_iff_eq.2 a5
    simp (maxSteps:=500000) only [↓vp, vv, ↓reduceIte, simprocAttr, c120, r120, c120_1, c120_2, c120_3, c120_4, c120_5, c120_6, a1, a2, a5, a6, placeI, Pu, decide_true, decide_false]
   ·have a6 : (c == 45) = false := beq_false_of_ne a5
    simp (maxSteps:=500000) only [↓vp, vv, ↓reduceIte, simprocAttr, c120, r120, c120_1, c120_2, c120_3, c120_4, c120_5, c120_6, a1, a2, a5, a6, placeI, Pu, decide_true, decide_false]
def selPlace : List D → Option (Prop × D)
 | [.v (.int .u8 c)] => some (True, di (placeI c))
 | _ => Option.none
def TP : Tbl := tc 120 (rowPu selPlace) T0
theorem TP_ok : TblOk Try.prog TP := by
 refine tc_pu f120_ok (fun args pre d h hp nn => ?_) (T0_ok _)
 unfold selPlace at h
 split at h <;> cases h
 exact place_c _ nn
theorem byteI_eq (s : ByteArray) (k : Nat) : ((s.data.getD k 0).toNat : Int) = byteI s k := rfl
set_option maxHeartbeats 4000000 in
theorem lname_c (s : ByteArray) (nn : Nm) : CallsA Try.prog 67 [ds s] Hp.none nn (Pu (db (nameB s)) Hp.none) := by
 obtain ⟨code, h1, h2⟩ := c67_ok
 refine callsA_of TP_ok mixed (N := fun t => (0, t)) Try.func67 h1 h2 r67_ok [] false js_nil js_nil' (by simp [Try.f67]) ?_
 by_cases a1 : (s.size : Int) < 1
 ·have b1 : s.size < 1 := by omega
  simp (maxSteps:=500000) only [↓vp, vv, ↓reduceIte, simprocAttr, c67, r67, c67_1, c67_2, c67_3, c67_4, c67_5, a1, b1, nameB, Pu, decide_true, decide_false]
 ·by_cases a2 : (12 : Int) < s.size
  ·have b1 : ¬ s.size < 1 := by omega
   have b2 : 12 < s.size := by omega
   simp (maxSteps:=500000) only [↓vp, vv, ↓reduceIte, simprocAttr, c67, r67, c67_1, c67_2, c67_3, c67_4, c67_5, a1, a2, b1, b2, nameB, Pu, decide_true, decide_false]
  ·have b1 : ¬ s.size < 1 := by omega
   have b2 : ¬ 12 < s.size := by omega
   have b3 : (0 : Int) < s.size := by omega
   by_cases a3 : placeI (byteI s 0) = 1
   ·have e0 : nameB s = (bytesI s).all (fun c => decide (placeI c ≠ 0)) := by unfold nameB; rw [if_neg b1, if_neg b2, if_pos a3]
    rw [e0]
    generalize hb : (bytesI s).all (fun c => decide (placeI c ≠ 0)) = b
    simp (maxSteps:=500000) only [↓vp, vv, ↓reduceIte, simprocAttr, c67, c67_5, TP, selPlace, a1, a2, a3, b3, byteI_eq, bne_self_eq_false, decide_true, decide_false]
    refine rng_loop s.size (fun j => ⟨fr [(0, ds s), (19, di s.size), (20, di j)], Hp.none⟩) (fun j => ((bytesI s).drop j).all (fun c => decide (placeI c ≠ 0)) = b) (weak0 (by simp only [↓vp, vv, ↓reduceIte, simprocAttr, coverS]) (by simp only [↓vp, vv, ↓reduceIte, simprocAttr, refsF])) hb (fun j hj he => ?_) (fun he => ?_)
    ·have hj' : (j : Int) < s.size := by omega
     have hn := idx_nn j
     have w1 := idx_next (j := j) (by omega)
     obtain ⟨hf, ht⟩ := drop_all (by rw [bytesI_len]; exact hj) he
     rw [bytesI_at] at hf ht
     by_cases a4 : placeI (byteI s j) = 0
     ·have e5 : b = false := hf (by simp [a4])
      subst e5
      simp (maxSteps:=500000) only [↓vp, vv, ↓reduceIte, simprocAttr, c67, r67, c67_1, c67_2, c67_3, c67_4, c67_5, TP, selPlace, hj', hn, Int.toNat_natCast, byteI_eq, a4, w1, Pu, decide_true, decide_false]
     ·have a5 : (placeI (byteI s j) == 0) = false := beq_false_of_ne a4
      simp (maxSteps:=500000) only [↓vp, vv, ↓reduceIte, simprocAttr, c67, r67, c67_1, c67_2, c67_3, c67_4, c67_5, TP, selPlace, hj', hn, Int.toNat_natCast, byteI_eq, a5, w1, decide_true, decide_false]
      exact rng_next hj (weak0 (by simp only [↓vp, vv, ↓reduceIte, simprocAttr, coverS, w1]) (by simp only [↓vp, vv, ↓reduceIte, simprocAttr, refsF])) (ht (by simp [a4]))
    ·have e5 : b = true := drop_all_end (by rw [bytesI_len]; exact he)
     subst e5
     simp (maxSteps:=500000) only [↓vp, vv, ↓reduceIte, simprocAttr, c67, r67, c67_1, c67_2, c67_3, c67_4, c67_5, TP, selPlace, Int.lt_irrefl, Pu, decide_true, decide_false]
   ·have a5 : (placeI (byteI s 0) != 1) = true := by simp [a3]
    simp (maxSteps:=500000) only [↓vp, vv, ↓reduceIte, simprocAttr, c67, r67, c67_1, c67_2, c67_3, c67_4, c67_5, TP, selPlace, a1, a2, a3, a5, b1, b2, b3, byteI_eq, nameB, Pu, decide_true, decide_false]
def c8 : C := (.seq (.ops false [oP 2 (.mv (.c (.v (.pointer Option.none))))]) (.seq (.ops false [oM 3 0, oM 4 0, oP 5 (.len (.t 4)), oP 6 (.mnx false (.t 5) (cI 2000)), oP 7 (.slc 1 (.t 3) Option.none (.some (.t 6))), oP 8 (.bld [.mt, (.v (.int .i64 0))] [(0, (1, (.t 7)))]), oP 9 (.box 2 (.t 8)), oM 2 9]) .ret))
def r8 : List RV := [(.tmp 2)]
theorem c8_ok : ∃ code, Try.f8.body = some code ∧ compC Try.prog Try.f8.ntmps code = some (C.strip c8) := ⟨_, rfl, by kernel_rfl⟩
theorem r8_ok : compRes Try.prog Try.f8.results.toList = some r8 := by kernel_rfl
theorem f8_ok : fnOk Try.prog 8 = true := by kernel_rfl
def c13 : C := (.seq (.ops false [oP 4 (.mv (cI 0))]) (.seq (.ops false [oM 5 0, oB 6 (.call 70 [(.t 5)]), oM 7 1, oB 8 (.call 69 [(.t 6), (.t 7)]), oM 4 8]) .ret))
def r13 : List RV := [(.tmp 4)]
theorem c13_ok : ∃ code, Try.f13.body = some code ∧ compC Try.prog Try.f13.ntmps code = some (C.strip c13) := ⟨_, rfl, by kernel_rfl⟩
theorem r13_ok : compRes Try.prog Try.f13.results.toList = some r13 := by kernel_rfl
theorem f13_ok : fnOk Try.prog 13 = true := by kernel_rfl
def c25 : C := (.seq (.ops false [oP 6 (.mv (cI 0))]) (.seq (.ops false [oM 7 1, oM 8 0, oM 9 2, oM 10 1, oP 11 (.bin .sub (.t 9) (.t 10)), oP 12 (.bin .add (.t 11) (cI 1)), oB 13 (.call 13 [(.t 8), (.t 12)]), oP 14 (.bin .add (.t 7) (.t 13)), oM 6 14]) .ret))
def r25 : List RV := [(.tmp 6)]
theorem c25_ok : ∃ code, Try.f25.body = some code ∧ compC Try.prog Try.f25.ntmps code = some (C.strip c25) := ⟨_, rfl, by kernel_rfl⟩
theorem r25_ok : compRes Try.prog Try.f25.results.toList = some r25 := by kernel_rfl
theorem f25_ok : fnOk Try.prog 25 = true := by kernel_rfl
def c65 : C := (.seq (.ops false [oP 4 (.mv (.c (.v (.string ({ data := #[] })))))]) (.seq (.ops false [oM 5 0, oM 6 1, oP 7 (.bin .rem (.t 6) (cI 26)), oP 8 (.bin .add (cI 97) (.t 7)), oP 9 (.cvi .u8 (.t 8)), oP 10 (.bsl 1 1 [(.v (.int .u8 0))] [(0, (.t 9))]), oP 11 (.bts (.t 10)), oP 12 (.bin .add (.t 5) (.t 11)), oM 4 12]) .ret))
def r65 : List RV := [(.tmp 4)]
theorem c65_ok : ∃ code, Try.f65.body = some code ∧ compC Try.prog Try.f65.ntmps code = some (C.strip c65) := ⟨_, rfl, by kernel_rfl⟩
theorem r65_ok : compRes Try.prog Try.f65.results.toList = some r65 := by kernel_rfl
theorem f65_ok : fnOk Try.prog 65 = true := by kernel_rfl
def c66 : C := (.seq (.ops false [oP 4 (.mv (cI 0))]) (.seq (.ops false [oM 5 1, oM 6 0, oM 7 1, oP 8 (.len (.t 7)), oB 9 (.call 13 [(.t 6), (.t 8)]), oP 10 (.iaS 1 (.t 5) (.t 9)), oP 11 (.ld 1 false (.t 10)), oM 4 11]) .ret))
def r66 : List RV := [(.tmp 4)]
theorem c66_ok : ∃ code, Try.f66.body = some code ∧ compC Try.prog Try.f66.ntmps code = some (C.strip c66) := ⟨_, rfl, by kernel_rfl⟩
theorem r66_ok : compRes Try.prog Try.f66.results.toList = some r66 := by kernel_rfl
theorem f66_ok : fnOk Try.prog 66 = true := by kernel_rfl
def c69_1 : C := (.seq (.ops false [oM 15 0, oM 4 15]) .ret)
def c69_2 : C := (.seq (.ops false [oM 7 0, oM 8 1, oP 9 (.bin .rem (.t 7) (.t 8)), oM 0 9]) (.seq (.seq (.ops false [oM 10 0, oP 11 (.bin .lss (.t 10) (cI 0))]) (.cond (.t 11) (.ops false [oM 12 0, oM 13 1, oP 14 (.bin .add (.t 12) (.t 13)), oM 0 14]) .skip)) c69_1))
def c69 : C := (.seq (.ops false [oP 4 (.mv (cI 0))]) (.seq (.seq (.ops false [oM 5 1, oP 6 (.bin .lss (.t 5) (cI 1))]) (.cond (.t 6) (.seq (.ops false [oP 4 (.mv (cI 0))]) .ret) .skip)) c69_2))
def r69 : List RV := [(.tmp 4)]
theorem c69_ok : ∃ code, Try.f69.body = some code ∧ compC Try.prog Try.f69.ntmps code = some (C.strip c69) := ⟨_, rfl, by kernel_rfl⟩
theorem r69_ok : compRes Try.prog Try.f69.results.toList = some r69 := by kernel_rfl
theorem f69_ok : fnOk Try.prog 69 = true := by kernel_rfl
def c70_1 : C := (.seq (.ops false [oM 13 0, oP 14 (.nck (.t 13)), oP 15 (.fa 1 (.t 14)), oP 16 (.ld 1 false (.t 15)), oP 17 (.bin .add (.t 16) (cI 1)), oP 18 (.nck (.t 13)), oP 19 (.fa 1 (.t 18)), oS (.st 1 (.t 19) (.t 17))]) (.seq (.ops true [oM 20 0, oA 21 (.nck (.t 20)) [0], oA 22 (.fa 0 (.t 21)) [0, 1], oA 23 (.ld 1 false (.t 22)) [1, 0, 2], oM 24 0, oA 25 (.nck (.t 24)) [4],
 oA 26 (.fa 1 (.t 25)) [4, 5], oA 27 (.ld 1 false (.t 26)) [5, 4, 6], oA 28 (.bin .sub (.t 27) (cI 1)) [6, 4, 5, 7], oA 29 (.iaS 1 (.t 23) (.t 28)) [7, 5, 4, 6, 2, 0, 1, 8, 3], oA 30 (.ld 1 false (.t 29)) [3, 8, 1, 0, 2, 6, 4, 5, 7, 9], oA 2 (.mv (.t 30)) [9, 8, 7, 6, 5, 4, 3, 2, 1, 0, 10]]) .ret))
def c70 : C := (.seq (.ops false [oP 2 (.mv (cI 0))]) (.seq (.seq (.ops true [oM 3 0, oA 4 (.nck (.t 3)) [0], oA 5 (.fa 1 (.t 4)) [0, 1], oA 6 (.ld 1 false (.t 5)) [1, 0, 2], oM 7 0, oA 8 (.nck (.t 7)) [4], oA 9 (.fa 0 (.t 8)) [4, 5], oA 10 (.ld 1 false (.t 9)) [5, 4, 6], oA 11 (.len (.t 10)) [6, 4, 5, 7], oA 12 (.bin .geq (.t 6) (.t 11)) [7, 5, 4, 6, 2, 0, 1, 8, 3]]) (.cond (.t 12)
 (.seq (.ops false [oP 2 (.mv (cI 0))]) .ret) .skip)) c70_1))
def r70 : List RV := [(.tmp 2)]
theorem c70_ok : ∃ code, Try.f70.body = some code ∧ compC Try.prog Try.f70.ntmps code = some (C.strip c70) := ⟨_, rfl, by kernel_rfl⟩
theorem r70_ok : compRes Try.prog Try.f70.results.toList = some r70 := by kernel_rfl
theorem f70_ok : fnOk Try.prog 70 = true := by kernel_rfl
def c94 : C := (.seq (.ops false [oP 4 (.mv (.c (.v (.string ({ data := #[] })))))]) (.seq (.ops false [oM 5 1, oM 6 0, oM 7 1, oP 8 (.len (.t 7)), oB 9 (.call 13 [(.t 6), (.t 8)]), oP 10 (.iaS 1 (.t 5) (.t 9)), oP 11 (.ld 1 false (.t 10)), oM 4 11]) .ret))
def r94 : List RV := [(.tmp 4)]
theorem c94_ok : ∃ code, Try.f94.body = some code ∧ compC Try.prog Try.f94.ntmps code = some (C.strip c94) := ⟨_, rfl, by kernel_rfl⟩
theorem r94_ok : compRes Try.prog Try.f94.results.toList = some r94 := by kernel_rfl
theorem f94_ok : fnOk Try.prog 94 = true := by kernel_rfl
def modI (x n : Int) : Int := if n < 1 then 0 else if x.tmod n < 0 then x.tmod n + n else x.tmod n
theorem modI_in (x n : Int) : 0 ≤ modI x n ∧ (1 ≤ n → modI x n < n) ∧ (n < 1 → modI x n = 0) := by
 unfold modI
 split
 ·exact ⟨by omega, fun h => by omega, fun _ => rfl⟩
 ·have h1 := Int.lt_tmod_of_pos x (b := n) (by omega)
  have h2 := Int.tmod_lt_of_pos x (b := n) (by omega)
  split <;> exact ⟨by omega, fun _ => by omega, fun h => by omega⟩
set_option maxHeartbeats 2000000 in
theorem Mod_c (x n : Int) (hn : InI n) (nn : Nm) : CallsA Try.prog 69 [di x, di n] Hp.none nn (Pu (di (modI x n)) Hp.none) := by
 obtain ⟨code, h1, h2⟩ := c69_ok
 refine callsA_of (T0_ok _) mixed (N := fun t => (0, t)) Try.func69 h1 h2 r69_ok [] false js_nil js_nil' (by simp [Try.f69]) ?_
 have hi := modI_in x n
 by_cases hb : n < 1
 ·simp (maxSteps:=500000) only [↓vp, vv, ↓reduceIte, simprocAttr, c69, r69, c69_1, c69_2, hb, Pu, modI, decide_true]
 ·have h0 : n ≠ 0 := by omega
  have h2 := Int.lt_tmod_of_pos x (b := n) (by omega)
  have h3 := Int.tmod_lt_of_pos x (b := n) (by omega)
  by_cases hr : x.tmod n < 0
  ·have hw : IntKind.i64.wrap (x.tmod n + n) = x.tmod n + n := wrap_i (by omega)
   simp (maxSteps:=500000) only [↓vp, vv, ↓reduceIte, simprocAttr, c69, r69, c69_1, c69_2, hb, hr, hw, Pu, modI, decide_true, decide_false, ne_eq, h0, not_false_eq_true]
  ·simp (maxSteps:=500000) only [↓vp, vv, ↓reduceIte, simprocAttr, c69, r69, c69_1, c69_2, hb, hr, Pu, modI, decide_true, decide_false, ne_eq, h0, not_false_eq_true]
set_option maxHeartbeats 4000000 in
theorem Raw_c : SrcC Try.prog 70 [] InI di := by
 intro i L at' nn ho
 obtain ⟨code, h1, h2⟩ := c70_ok
 refine callsA_of (T0_ok _) mixed (N := fun t => (i.1 + 1, t)) Try.func70 h1 h2 r70_ok [i] false js_one js_one' (by simp [Try.f70]) ?_
 obtain ⟨ns, hL, hns⟩ := ho.ints
 have hlo := ho.lo
 have hhi := ho.hi
 have hlen := ho.len
 by_cases hb : (L.length : Int) ≤ at'
 ·simp (maxSteps:=500000) only [↓vp, vv, ↓reduceIte, simprocAttr, c70, r70, c70_1, hb, decide_true]
  exact ⟨at', 0, ho, by decide, rfl, rfl⟩
 ·have hw : IntKind.i64.wrap (at' + 1) = at' + 1 := wrap_i (by omega)
  have hw2 : IntKind.i64.wrap (at' + 1 - 1) = at' := by rw [Int.add_sub_cancel]; exact wrap_i (by omega)
  obtain ⟨k, rfl⟩ : ∃ k : Nat, at' = k := ⟨at'.toNat, by omega⟩
  have hk : k < ns.length := by rw [hL, List.length_map] at hb; omega
  have hg : L.getD k [] = [di ns[k]] := by rw [hL, List.getD_eq_getElem?_getD, List.getElem?_map, List.getElem?_eq_getElem hk]; rfl
  have h0 : (0 : Int) ≤ k := by omega
  have hkL : (k : Int) < L.length := by omega
  simp (maxSteps:=500000) only [↓vp, vv, ↓reduceIte, simprocAttr, c70, r70, c70_1, hb, hw, hw2, decide_true, decide_false, hg, Int.toNat_natCast, h0, hkL]
  exact ⟨k + 1, ns[k], ⟨by omega, by omega, hlen, ns, hL, hns⟩, hns _ (List.getElem_mem hk), rfl, rfl⟩
def sel0 {α : Type} (post : α → Prop) : List D → Option (Prop × (α → Prop))
 | [] => some (True, post)
 | _ => Option.none
def selMod : List D → Option (Prop × D)
 | [.v (.int .i64 x), .v (.int .i64 n)] => some (InI n, di (modI x n))
 | _ => Option.none
def TN : Tbl := tc 70 (rowSrc (sel0 InI) di) (tc 69 (rowPu selMod) T0)
theorem TN_ok : TblOk Try.prog TN := by
 refine tc_src f70_ok (fun args pre post h hp => ?_) (tc_pu f69_ok (fun args pre d h hp nn => ?_) (T0_ok _))
 ·unfold sel0 at h
  split at h <;> cases h
  exact ⟨⟨0, by omega⟩, Raw_c⟩
 ·unfold selMod at h
  split at h <;> cases h
  exact Mod_c _ _ hp nn
def NPost (n x : Int) : Prop := 0 ≤ x ∧ (1 ≤ n → x < n) ∧ (n < 1 → x = 0)
set_option maxHeartbeats 4000000 in
theorem N_c (n : Int) (hn : InI n) : SrcC Try.prog 13 [di n] (NPost n) di := by
 intro i L at' nn ho
 obtain ⟨code, h1, h2⟩ := c13_ok
 refine callsA_of TN_ok mixed (N := fun t => (i.1 + 1, t)) Try.func13 h1 h2 r13_ok [i] false js_one js_one' (by simp [Try.f13]) ?_
 simp (maxSteps:=500000) only [↓vp, vv, ↓reduceIte, simprocAttr, c13, r13, TN, sel0, selMod, ho]
 exact fun ⟨at2, ho2⟩ x hx => ⟨hn, at2, _, ho2, modI_in x n, rfl, rfl⟩
def selI {α : Type} (ok : Int → Prop) (post : Int → α → Prop) : List D → Option (Prop × (α → Prop))
 | [.v (.int .i64 n)] => some (ok n, post n)
 | _ => Option.none
def T1 : Tbl := tc 13 (rowSrc (selI InI NPost) di) T0
theorem T1_ok : TblOk Try.prog T1 := by
 refine tc_src f13_ok (fun args pre post h hp => ?_) (T0_ok _)
 unfold selI at h
 split at h <;> cases h
 exact ⟨⟨_, modI_in 0 _⟩, N_c _ hp⟩
def IsMem {α : Type} (l : List α) (x : α) : Prop := x ∈ l
theorem getD_map {α : Type} (g : α → List D) (l : List α) (k : Nat) (h : k < l.length) : (l.map g).getD k [] = g l[k] := by
 rw [List.getD_eq_getElem?_getD, List.getElem?_map, List.getElem?_eq_getElem h]; rfl
set_option maxHeartbeats 4000000 in
theorem Pick_c (ns : List Int) (h0 : ns ≠ []) (hl : ns.length ≤ 2000) : SrcC Try.prog 66 [.sl (ns.map fun n => [di n])] (IsMem ns) di := by
 intro i L at' nn ho
 obtain ⟨code, h1, h2⟩ := c66_ok
 refine callsA_of T1_ok mixed (N := fun t => (i.1 + 1, t)) Try.func66 h1 h2 r66_ok [i] false js_one js_one' (by simp [Try.f66]) ?_
 have hn : InI ns.length := by omega
 have h1 : 1 ≤ ns.length := by cases ns with | nil => exact absurd rfl h0 | cons => simp
 simp (maxSteps:=500000) only [↓vp, vv, ↓reduceIte, simprocAttr, c66, r66, T1, selI, ho, List.length_map]
 refine ⟨hn, fun ⟨at2, ho2⟩ x ⟨hx0, hx1, _⟩ => ?_⟩
 have hx := hx1 (by omega)
 have hk : x.toNat < ns.length := by omega
 rw [getD_map _ ns x.toNat hk]
 simp (maxSteps:=500000) only [↓vp, vv, ↓reduceIte, simprocAttr, hx, hx0]
 exact ⟨at2, _, ho2, List.getElem_mem hk, rfl, rfl⟩
set_option maxHeartbeats 4000000 in
theorem Text_c (ns : List ByteArray) (h0 : ns ≠ []) (hl : ns.length ≤ 2000) : SrcC Try.prog 94 [.sl (ns.map fun n => [ds n])] (IsMem ns) ds := by
 intro i L at' nn ho
 obtain ⟨code, h1, h2⟩ := c94_ok
 refine callsA_of T1_ok mixed (N := fun t => (i.1 + 1, t)) Try.func94 h1 h2 r94_ok [i] false js_one js_one' (by simp [Try.f94]) ?_
 have hn : InI ns.length := by omega
 have h1 : 1 ≤ ns.length := by cases ns with | nil => exact absurd rfl h0 | cons => simp
 simp (maxSteps:=500000) only [↓vp, vv, ↓reduceIte, simprocAttr, c94, r94, T1, selI, ho, List.length_map]
 refine ⟨hn, fun ⟨at2, ho2⟩ x ⟨hx0, hx1, _⟩ => ?_⟩
 have hx := hx1 (by omega)
 have hk : x.toNat < ns.length := by omega
 rw [getD_map _ ns x.toNat hk]
 simp (maxSteps:=500000) only [↓vp, vv, ↓reduceIte, simprocAttr, hx, hx0]
 exact ⟨at2, _, ho2, List.getElem_mem hk, rfl, rfl⟩
def RPost (a b x : Int) : Prop := a ≤ x ∧ (a ≤ b → x ≤ b) ∧ (b < a → x = a)
set_option maxHeartbeats 4000000 in
theorem Range_c (a b : Int) (ha : InI a) (hb : InI b) (hd : b - a < 9223372036854775807) (hd' : -9223372036854775808 ≤ b - a) : SrcC Try.prog 25 [di a, di b] (RPost a b) di := by
 intro i L at' nn ho
 obtain ⟨code, h1, h2⟩ := c25_ok
 refine callsA_of T1_ok mixed (N := fun t => (i.1 + 1, t)) Try.func25 h1 h2 r25_ok [i] false js_one js_one' (by simp [Try.f25]) ?_
 have w1 : IntKind.i64.wrap (b - a) = b - a := wrap_i (by omega)
 have w2 : IntKind.i64.wrap (b - a + 1) = b - a + 1 := wrap_i (by omega)
 have hn : InI (b - a + 1) := by omega
 simp (maxSteps:=500000) only [↓vp, vv, ↓reduceIte, simprocAttr, c25, r25, T1, selI, ho, w1, w2]
 refine ⟨hn, fun ⟨at2, ho2⟩ x ⟨hx0, hx1, hx2⟩ => ?_⟩
 have w3 : IntKind.i64.wrap (a + x) = a + x := wrap_i (by omega)
 try rw [w3]
 exact ⟨at2, _, ho2, ⟨by omega, by omega, by omega⟩, rfl, rfl⟩
def nm1B (f : ByteArray) (n : Int) : ByteArray := f ++ strOf [IntKind.u8.wrap (IntKind.i64.wrap (97 + n.tmod 26))]
set_option maxHeartbeats 4000000 in
theorem name_c (f : ByteArray) (n : Int) (hf : f.size ≤ 1000) (nn : Nm) : CallsA Try.prog 65 [ds f, di n] Hp.none nn (Pu (ds (nm1B f n)) Hp.none) := by
 obtain ⟨code, h1, h2⟩ := c65_ok
 refine callsA_of (T0_ok _) mixed (N := fun t => (0, t)) Try.func65 h1 h2 r65_ok [] false js_nil js_nil' (by simp [Try.f65]) ?_
 simp (maxSteps:=500000) only [↓vp, vv, ↓reduceIte, simprocAttr, c65, r65, bytesD, Pu, nm1B]
 have : (strOf [IntKind.u8.wrap (IntKind.i64.wrap (97 + n.tmod 26))]).size = 1 := by simp [strOf]
 first | exact ⟨by decide, by omega⟩ | omega
theorem js_nn {nn : Nm} : ∀ (j : Nm) (x : En), Hp.none j = some x → j ∈ [nn] := fun j x h => by cases h
theorem js_nn' {nn : Nm} {Hs : Hp} : ∀ j ∈ [nn], (Hs j).isSome = true ∨ j = nn := fun j h => .inr (List.mem_singleton.1 h)
set_option maxHeartbeats 4000000 in
theorem New_c (L : List (List D)) (nn : Nm) : CallsA Try.prog 8 [.sl L] Hp.none nn (Pu (.ptr nn 0 0 0) (Hp.none.put nn (sE (L.take 2000) 0))) := by
 obtain ⟨code, h1, h2⟩ := c8_ok
 refine callsA_of (T0_ok _) mixed (N := fun _ => nn) Try.func8 h1 h2 r8_ok [nn] true js_nn js_nn' (by simp [Try.f8]) ?_
 simp (maxSteps:=500000) only [↓vp, vv, ↓reduceIte, simprocAttr, c8, r8]
 by_cases hb : (2000 : Int) < L.length
 ·simp only [if_pos hb]
  (repeat' apply And.intro) <;> first | omega | rfl
 ·simp only [if_neg hb]
  have e : ∀ k, L.length ≤ k → List.take k L = List.take 2000 L := fun k hk => by
   rw [List.take_of_length_le hk, List.take_of_length_le (by omega)]
  (repeat' apply And.intro) <;> first | omega | rfl | (rw [e _ (by omega)])
structure Pt where
 at' : Int
 height : Int
 limit : Int
def Pt.row (p : Pt) : List D := [di p.at', di p.height, di p.limit]
structure Seg where
 name : ByteArray
 fr : Int
 to : Int
 cap : Int
 resist : Int
 wave : Int
 points : List Pt
def Seg.row (s : Seg) : List D := [ds s.name, di s.fr, di s.to, di s.cap, di s.resist, di s.wave, .sl (s.points.map Pt.row)]
def Seg.enc (s : Seg) : D := .agg s.row
def selPick : List D → Option (Prop × (Int → Prop))
 | [.sl rows] => match intsOf rows with
  | some ns => some (ns ≠ [] ∧ ns.length ≤ 2000, IsMem ns)
  | Option.none => Option.none
 | _ => Option.none
def selText : List D → Option (Prop × (ByteArray → Prop))
 | [.sl rows] => match strsOf rows with
  | some ns => some (ns ≠ [] ∧ ns.length ≤ 2000, IsMem ns)
  | Option.none => Option.none
 | _ => Option.none
def selRange : List D → Option (Prop × (Int → Prop))
 | [.v (.int .i64 a), .v (.int .i64 b)] => some ((InI a ∧ InI b) ∧ b - a < 9223372036854775807 ∧ -9223372036854775808 ≤ b - a, RPost a b)
 | _ => Option.none
def selName : List D → Option (Prop × D)
 | [.v (.string f), .v (.int .i64 n)] => some (f.size ≤ 1000, ds (nm1B f n))
 | _ => Option.none
def T2 : Tbl := tc 66 (rowSrc selPick di) (tc 94 (rowSrc selText ds) (tc 25 (rowSrc selRange di) (tc 65 (rowPu selName) T1)))
theorem T2_ok : TblOk Try.prog T2 := by
 refine tc_src f66_ok (fun args pre post h hp => ?_) (tc_src f94_ok (fun args pre post h hp => ?_) (tc_src f25_ok (fun args pre post h hp => ?_) (tc_pu f65_ok (fun args pre d h hp nn => ?_) T1_ok)))
 ·unfold selPick at h
  split at h
  ·split at h
   ·rename_i ns hns
    cases h
    obtain ⟨h0, hl⟩ := hp
    rw [intsOf_eq hns]
    refine ⟨?_, Pick_c _ h0 hl⟩
    cases ns with
    | nil => exact absurd rfl h0
    | cons n ns => exact ⟨n, List.mem_cons_self ..⟩
   ·cases h
  ·cases h
 ·unfold selText at h
  split at h
  ·split at h
   ·rename_i ns hns
    cases h
    obtain ⟨h0, hl⟩ := hp
    rw [strsOf_eq hns]
    refine ⟨?_, Text_c _ h0 hl⟩
    cases ns with
    | nil => exact absurd rfl h0
    | cons n ns => exact ⟨n, List.mem_cons_self ..⟩
   ·cases h
  ·cases h
 ·unfold selRange at h
  split at h <;> cases h
  obtain ⟨⟨h1, h2⟩, h3, h4⟩ := hp
  exact ⟨⟨_, Int.le_refl _, fun h => h, fun _ => rfl⟩, Range_c _ _ h1 h2 h3 h4⟩
 ·unfold selName at h
  split at h <;> cases h
  exact name_c _ _ hp nn
structure PtsOk (cap lim atv : Int) (pts : List Pt) : Prop where
 asc : pts.Pairwise (fun a b => a.at' < b.at')
 le : ∀ p ∈ pts, p.at' ≤ atv ∧ -500 ≤ p.height ∧ p.height ≤ 5000 ∧ 0 ≤ p.limit ∧ p.limit ≤ 100000000
 hd : pts.head?.map (·.at') = some 0
 lo : 0 ≤ atv
 hi : atv < cap
theorem PtsOk.more {cap lim atv : Int} {pts : List Pt} (h : PtsOk cap lim atv pts) (x : Int) (hx : atv < x) (hc : x < cap) (z l : Int) (hz : -500 ≤ z ∧ z ≤ 5000) (hl : 0 ≤ l ∧ l ≤ 100000000) : PtsOk cap lim x (pts ++ [⟨x, z, l⟩]) := by
 refine ⟨List.pairwise_append.2 ⟨h.asc, List.pairwise_singleton _ _, fun a ha b hb => ?_⟩, fun p hp => ?_, ?_, by have := h.lo; omega, hc⟩
 ·rw [List.mem_singleton.1 hb]
  have := (h.le a ha).1
  dsimp only; omega
 ·rcases List.mem_append.1 hp with hp | hp
  ·have := h.le p hp; omega
  ·rw [List.mem_singleton.1 hp]
   dsimp only; omega
 ·cases pts with
  | nil => have := h.hd; cases this
  | cons p ps => exact h.hd
structure PtsEnd (cap : Int) (pts : List Pt) : Prop where
 asc : pts.Pairwise (fun a b => a.at' < b.at')
 le : ∀ p ∈ pts, -500 ≤ p.height ∧ p.height ≤ 5000 ∧ 0 ≤ p.limit ∧ p.limit ≤ 100000000
 hd : pts.head?.map (·.at') = some 0
 last : pts.getLast?.map (·.at') = some cap
theorem PtsOk.fin {cap lim atv : Int} {pts : List Pt} (h : PtsOk cap lim atv pts) (z l : Int) (hz : -500 ≤ z ∧ z ≤ 5000) (hl : 0 ≤ l ∧ l ≤ 100000000) : PtsEnd cap (pts ++ [⟨cap, z, l⟩]) := by
 refine ⟨List.pairwise_append.2 ⟨h.asc, List.pairwise_singleton _ _, fun a ha b hb => ?_⟩, fun p hp => ?_, ?_, by simp⟩
 ·rw [List.mem_singleton.1 hb]
  have := (h.le a ha).1
  have := h.hi
  dsimp only; omega
 ·rcases List.mem_append.1 hp with hp | hp
  ·have := h.le p hp; omega
  ·rw [List.mem_singleton.1 hp]
   dsimp only; omega
 ·cases pts with
  | nil => have := h.hd; cases this
  | cons p ps => exact h.hd
structure Port where
 name : ByteArray
 node : Int
 press : Int
def Port.row (p : Port) : List D := [ds p.name, di p.node, di p.press]
structure Stn where
 name : ByteArray
 node : Int
 head : Int
 fall : Int
 suct : Int
def Stn.row (s : Stn) : List D := [ds s.name, di s.node, di s.head, di s.fall, di s.suct]
structure Net where
 nodes : List ByteArray
 segs : List Seg
 ports : List Port
 sts : List Stn
 vap : Int
 set : Int
def nmRow (s : ByteArray) : List D := [ds s]
def Net.enc (n : Net) : D := .agg [.sl (n.nodes.map nmRow), .sl (n.segs.map Seg.row), .sl (n.ports.map Port.row), .sl (n.sts.map Stn.row), di n.vap, di n.set]
def AllI {α : Type} (P : Nat → α → Prop) (l : List α) : Prop := ∀ j x, l[j]? = some x → P j x
theorem AllI.nil {α : Type} (P : Nat → α → Prop) : AllI P [] := fun j x h => by simp at h
theorem AllI.snoc {α : Type} {P : Nat → α → Prop} {l : List α} (h : AllI P l) {x : α} (hx : P l.length x) : AllI P (l ++ [x]) := fun j y hj => by
 rcases Nat.lt_trichotomy j l.length with h1 | h1 | h1
 ·rw [List.getElem?_append_left h1] at hj; exact h j y hj
 ·subst h1; simp at hj; subst hj; exact hx
 ·rw [List.getElem?_eq_none (by simp; omega)] at hj; cases hj
theorem AllI.imp {α : Type} {P Q : Nat → α → Prop} {l : List α} (h : AllI P l) (hq : ∀ j x, P j x → Q j x) : AllI Q l := fun j x hj => hq j x (h j x hj)
def PortAt (i : Int) (j : Nat) (p : Port) : Prop := p.name = nm1B ⟨#[113]⟩ j ∧ 0 ≤ p.node ∧ p.node < i ∧ 0 ≤ p.press ∧ p.press ≤ 100000000
def StnAt (i : Int) (j : Nat) (p : Stn) : Prop := p.name = nm1B ⟨#[115]⟩ j ∧ 0 ≤ p.node ∧ p.node < i ∧ 0 ≤ p.head ∧ p.head ≤ 100000000 ∧ 0 ≤ p.fall ∧ p.fall ≤ 100000 ∧ 0 ≤ p.suct ∧ p.suct ≤ 100000000
structure PortsOk (last i : Int) (l : List Port) : Prop where
 all : AllI (PortAt i) l
 asc : l.Pairwise (fun a b => a.node < b.node)
 hd : 0 < i → l.head?.map (·.node) = some 0
 last : last < i → l.getLast?.map (·.node) = some last
 len : (l.length : Int) ≤ i
structure StnsOk (i : Int) (l : List Stn) : Prop where
 all : AllI (StnAt i) l
 asc : l.Pairwise (fun a b => a.node < b.node)
 len : (l.length : Int) ≤ i
theorem pw_snoc {α : Type} {R : α → α → Prop} {l : List α} (h : l.Pairwise R) {x : α} (hx : ∀ a ∈ l, R a x) : (l ++ [x]).Pairwise R := List.pairwise_append.2 ⟨h, List.pairwise_singleton _ _, fun a ha b hb => by rw [List.mem_singleton.1 hb]; exact hx a ha⟩
theorem AllI.mem {α : Type} {P : Nat → α → Prop} {l : List α} (h : AllI P l) {x : α} (hx : x ∈ l) : ∃ j, P j x := by
 obtain ⟨j, hj⟩ := List.getElem?_of_mem hx
 exact ⟨j, h j x hj⟩
theorem PortsOk.add {last i : Int} {l : List Port} (h : PortsOk last i l) (h0 : 0 ≤ i) (hl : i ≤ last) (pr : Int) (hp : 0 ≤ pr ∧ pr ≤ 100000000) : PortsOk last (i + 1) (l ++ [⟨nm1B ⟨#[113]⟩ l.length, i, pr⟩]) := by
 refine ⟨(h.all.imp fun j x hx => ?_).snoc ?_, pw_snoc h.asc fun a ha => ?_, fun _ => ?_, fun hi => ?_, ?_⟩
 ·obtain ⟨a, b, c, d⟩ := hx; exact ⟨a, b, by omega, d⟩
 ·exact ⟨rfl, h0, by dsimp only; omega, hp⟩
 ·obtain ⟨j, hj⟩ := h.all.mem ha; exact hj.2.2.1
 ·cases l with
  | nil =>
   have : i = 0 := by
    rcases Int.lt_or_le 0 i with h1 | h1
    ·have := h.hd h1; cases this
    ·omega
   subst this; rfl
  | cons p ps =>
   have : 0 < i := by have := h.len; simp at this; omega
   exact h.hd this
 ·simp; omega
 ·have := h.len; simp; omega
theorem PortsOk.skip {last i : Int} {l : List Port} (h : PortsOk last i l) (h0 : 0 < i) (hl : i < last) : PortsOk last (i + 1) l :=
 ⟨h.all.imp fun j x hx => by obtain ⟨a, b, c, d⟩ := hx; exact ⟨a, b, by omega, d⟩, h.asc, fun _ => h.hd h0, fun hi => by omega, by have := h.len; omega⟩
theorem StnsOk.add {i : Int} {l : List Stn} (h : StnsOk i l) (h0 : 0 ≤ i) (hd fl su : Int) (h1 : 0 ≤ hd ∧ hd ≤ 100000000) (h2 : 0 ≤ fl ∧ fl ≤ 100000) (h3 : 0 ≤ su ∧ su ≤ 100000000) : StnsOk (i + 1) (l ++ [⟨nm1B ⟨#[115]⟩ l.length, i, hd, fl, su⟩]) := by
 refine ⟨(h.all.imp fun j x hx => ?_).snoc ?_, pw_snoc h.asc fun a ha => ?_, ?_⟩
 ·obtain ⟨a, b, c, d⟩ := hx; exact ⟨a, b, by omega, d⟩
 ·exact ⟨rfl, h0, by dsimp only; omega, h1.1, h1.2, h2.1, h2.2, h3⟩
 ·obtain ⟨j, hj⟩ := h.all.mem ha; exact hj.2.2.1
 ·have := h.len; simp; omega
theorem StnsOk.skip {i : Int} {l : List Stn} (h : StnsOk i l) : StnsOk (i + 1) l :=
 ⟨h.all.imp fun j x hx => by obtain ⟨a, b, c, d⟩ := hx; exact ⟨a, b, by omega, d⟩, h.asc, by have := h.len; omega⟩
end Go.Proofs.Ytadjhfjiimgddaa
