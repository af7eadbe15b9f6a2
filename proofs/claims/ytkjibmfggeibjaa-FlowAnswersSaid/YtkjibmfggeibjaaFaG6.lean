/- FlowAnswers: Nm CodeB Gen1 Gen2 Gen3. -/
import Derived.Test.YtkjibmfggeibjaaFaG5
import Derived.Test.YtkjibmfggeibjaaFaG3
import Derived.Test.YtkjibmfggeibjaaProg
import Derived.Test.YtkjibmfggeibjaaFaG4

/- Names: lines.Name and ref03.Name. -/
namespace Go.Proofs.Ytkjibmfggeibjaa
open Go
set_option linter.unusedVariables false
set_option linter.unusedSimpArgs false
set_option maxRecDepth 100000

def placeI (c : Int) : Int := if 97 ≤ c ∧ c ≤ 122 then 1 else if 48 ≤ c ∧ c ≤ 57 then 2 else if c = 45 then 2 else 0
def byteI (s : ByteArray) (k : Nat) : Int := (s.data.getD k 0).toNat
def bytesI (s : ByteArray) : List Int := (List.range s.size).map (byteI s)
def nameB (s : ByteArray) : Bool := if s.size < 1 then false else if 12 < s.size then false else if placeI (byteI s 0) = 1 then (bytesI s).all (fun c => decide (placeI c ≠ 0)) else false
theorem bytesI_len (s : ByteArray) : (bytesI s).length = s.size := by simp [bytesI]
theorem bytesI_at (s : ByteArray) {j : Nat} (h : j < (bytesI s).length) : (bytesI s)[j] = byteI s j := by simp [bytesI]
set_option maxHeartbeats 4000000 in
theorem place_c (c : Int) (nn : Nm) : CallsA Try.prog 181 [.v (.int .u8 c)] Hp.none nn (Pu (di (placeI c)) Hp.none) := by
  obtain ⟨code, h1, h2⟩ := c181_ok
  refine callsA_of (T0_ok _) mixed (N := fun t => (0, t)) Try.func181 h1 h2 r181_ok [] false js_nil js_nil' (by simp [Try.f181]) ?_
  by_cases a1 : 97 ≤ c
  · by_cases a2 : c ≤ 122
    · simp (config := { maxSteps := 500000 }) only [↓vp, vv, implies_true, forall_const, undef, InI, ↓reduceIte, simprocAttr, c181, r181, c181_1, c181_2, c181_3, c181_4, c181_5, c181_6, a1, a2, placeI, Pu, decide_true, decide_false]
    · have a3 : ¬ c ≤ 57 := by omega
      have a4 : 48 ≤ c := by omega
      have a5 : (c == 45) = false := beq_false_of_ne (by omega)
      have a6 : ¬ c = 45 := by omega
      simp (config := { maxSteps := 500000 }) only [↓vp, vv, implies_true, forall_const, undef, InI, ↓reduceIte, simprocAttr, c181, r181, c181_1, c181_2, c181_3, c181_4, c181_5, c181_6, a1, a2, a3, a4, a5, a6, placeI, Pu, decide_true, decide_false]
  · by_cases a2 : 48 ≤ c
    · by_cases a3 : c ≤ 57
      · simp (config := { maxSteps := 500000 }) only [↓vp, vv, implies_true, forall_const, undef, InI, ↓reduceIte, simprocAttr, c181, r181, c181_1, c181_2, c181_3, c181_4, c181_5, c181_6, a1, a2, a3, placeI, Pu, decide_true, decide_false]
      · have a5 : (c == 45) = false := beq_false_of_ne (by omega)
        have a6 : ¬ c = 45 := by omega
        simp (config := { maxSteps := 500000 }) only [↓vp, vv, implies_true, forall_const, undef, InI, ↓reduceIte, simprocAttr, c181, r181, c181_1, c181_2, c181_3, c181_4, c181_5, c181_6, a1, a2, a3, a5, a6, placeI, Pu, decide_true, decide_false]
    · by_cases a5 : c = 45
      · have a6 : (c == 45) = true := beq_iff_eq.2 a5
        simp (config := { maxSteps := 500000 }) only [↓vp, vv, implies_true, forall_const, undef, InI, ↓reduceIte, simprocAttr, c181, r181, c181_1, c181_2, c181_3, c181_4, c181_5, c181_6, a1, a2, a5, a6, placeI, Pu, decide_true, decide_false]
      · have a6 : (c == 45) = false := beq_false_of_ne a5
        simp (config := { maxSteps := 500000 }) only [↓vp, vv, implies_true, forall_const, undef, InI, ↓reduceIte, simprocAttr, c181, r181, c181_1, c181_2, c181_3, c181_4, c181_5, c181_6, a1, a2, a5, a6, placeI, Pu, decide_true, decide_false]
def selPlace : List D → Option (Prop × D)
  | [.v (.int .u8 c)] => some (True, di (placeI c))
  | _ => Option.none
def TP : Tbl := tc 181 (rowPu selPlace) T0
theorem TP_ok : TblOk Try.prog TP := by
  refine tc_pu f181_ok (fun args pre d h hp nn => ?_) (T0_ok _)
  unfold selPlace at h
  split at h <;> cases h
  exact place_c _ nn
theorem byteI_eq (s : ByteArray) (k : Nat) : ((s.data.getD k 0).toNat : Int) = byteI s k := rfl
set_option maxHeartbeats 4000000 in
theorem lname_c (s : ByteArray) (nn : Nm) : CallsA Try.prog 145 [ds s] Hp.none nn (Pu (db (nameB s)) Hp.none) := by
  obtain ⟨code, h1, h2⟩ := c145_ok
  refine callsA_of TP_ok mixed (N := fun t => (0, t)) Try.func145 h1 h2 r145_ok [] false js_nil js_nil' (by simp [Try.f145]) ?_
  by_cases a1 : (s.size : Int) < 1
  · have b1 : s.size < 1 := by omega
    simp (config := { maxSteps := 500000 }) only [↓vp, vv, implies_true, forall_const, undef, InI, ↓reduceIte, simprocAttr, c145, r145, c145_1, c145_2, c145_3, c145_4, c145_5, a1, b1, nameB, Pu, decide_true, decide_false]
  · by_cases a2 : (12 : Int) < s.size
    · have b1 : ¬ s.size < 1 := by omega
      have b2 : 12 < s.size := by omega
      simp (config := { maxSteps := 500000 }) only [↓vp, vv, implies_true, forall_const, undef, InI, ↓reduceIte, simprocAttr, c145, r145, c145_1, c145_2, c145_3, c145_4, c145_5, a1, a2, b1, b2, nameB, Pu, decide_true, decide_false]
    · have b1 : ¬ s.size < 1 := by omega
      have b2 : ¬ 12 < s.size := by omega
      have b3 : (0 : Int) < s.size := by omega
      by_cases a3 : placeI (byteI s 0) = 1
      · have e0 : nameB s = (bytesI s).all (fun c => decide (placeI c ≠ 0)) := by unfold nameB; rw [if_neg b1, if_neg b2, if_pos a3]
        rw [e0]
        generalize hb : (bytesI s).all (fun c => decide (placeI c ≠ 0)) = b
        simp (config := { maxSteps := 500000 }) only [↓vp, vv, implies_true, forall_const, undef, InI, ↓reduceIte, simprocAttr, c145, c145_5, TP, selPlace, a1, a2, a3, b3, byteI_eq, bne_self_eq_false, decide_true, decide_false]
        refine rng_loop s.size (fun j => ⟨fr [(0, ds s), (19, di s.size), (20, di j)], Hp.none⟩) (fun j => ((bytesI s).drop j).all (fun c => decide (placeI c ≠ 0)) = b) (weak0 (by simp (config := { maxSteps := 500000 }) only [↓vp, vv, implies_true, forall_const, undef, InI, ↓reduceIte, simprocAttr, coverS]) (by simp (config := { maxSteps := 500000 }) only [↓vp, vv, implies_true, forall_const, undef, InI, ↓reduceIte, simprocAttr, refsF])) hb (fun j hj he => ?_) (fun he => ?_)
        · have hj' : (j : Int) < s.size := by omega
          have hn := idx_nn j
          have w1 := idx_next (j := j) (by omega)
          obtain ⟨hf, ht⟩ := drop_all (by rw [bytesI_len]; exact hj) he
          rw [bytesI_at] at hf ht
          by_cases a4 : placeI (byteI s j) = 0
          · have e5 : b = false := hf (by simp [a4])
            subst e5
            simp (config := { maxSteps := 500000 }) only [↓vp, vv, implies_true, forall_const, undef, InI, ↓reduceIte, simprocAttr, c145, r145, c145_1, c145_2, c145_3, c145_4, c145_5, TP, selPlace, hj', hn, Int.toNat_natCast, byteI_eq, a4, w1, Pu, decide_true, decide_false]
          · have a5 : (placeI (byteI s j) == 0) = false := beq_false_of_ne a4
            simp (config := { maxSteps := 500000 }) only [↓vp, vv, implies_true, forall_const, undef, InI, ↓reduceIte, simprocAttr, c145, r145, c145_1, c145_2, c145_3, c145_4, c145_5, TP, selPlace, hj', hn, Int.toNat_natCast, byteI_eq, a5, w1, decide_true, decide_false]
            exact rng_next hj (weak0 (by simp (config := { maxSteps := 500000 }) only [↓vp, vv, implies_true, forall_const, undef, InI, ↓reduceIte, simprocAttr, coverS, w1]) (by simp (config := { maxSteps := 500000 }) only [↓vp, vv, implies_true, forall_const, undef, InI, ↓reduceIte, simprocAttr, refsF])) (ht (by simp [a4]))
        · have e5 : b = true := drop_all_end (by rw [bytesI_len]; exact he)
          subst e5
          simp (config := { maxSteps := 500000 }) only [↓vp, vv, implies_true, forall_const, undef, InI, ↓reduceIte, simprocAttr, c145, r145, c145_1, c145_2, c145_3, c145_4, c145_5, TP, selPlace, Int.lt_irrefl, Pu, decide_true, decide_false]
      · have a5 : (placeI (byteI s 0) != 1) = true := by simp [a3]
        simp (config := { maxSteps := 500000 }) only [↓vp, vv, implies_true, forall_const, undef, InI, ↓reduceIte, simprocAttr, c145, r145, c145_1, c145_2, c145_3, c145_4, c145_5, TP, selPlace, a1, a2, a3, a5, b1, b2, b3, byteI_eq, nameB, Pu, decide_true, decide_false]
end Go.Proofs.Ytkjibmfggeibjaa
/- Compiled code of some functions (printed by a program), each checked by the kernel. -/
namespace Go.Proofs.Ytkjibmfggeibjaa
open Go
set_option maxRecDepth 100000
def c18 : C := (.seq (.ops false [oP 2 (.mv (.c (.v (.pointer Option.none))))]) (.seq (.ops false [oP 3 (.mv (.t 0)), oP 4 (.mv (.t 0)), oP 5 (.len (.t 4)), oP 6 (.mnx false (.t 5) (cI 2000)), oP 7 (.slc 1 (.t 3) Option.none (.some (.t 6))), oP 8 (.bld [.mt, (.v (.int .i64 0))] [(0, (1, (.t 7)))]), oP 9 (.box 2 (.t 8)), oP 2 (.mv (.t 9))]) .ret))
def r18 : List RV := [(.tmp 2)]
theorem c18_ok : ∃ code, Try.f18.body = some code ∧ compC Try.prog Try.f18.ntmps code = some (C.strip c18) := ⟨_, rfl, by kernel_rfl⟩
theorem r18_ok : compRes Try.prog Try.f18.results.toList = some r18 := by kernel_rfl
theorem f18_ok : fnOk Try.prog 18 = true := by kernel_rfl
def c19_1 : C := (.seq (.block 1 (.ops true [oP 23 (.fa 0 (.t 3)), oA 24 (.ld 1 false (.t 23)) [0], oP 25 (.fa 0 (.t 3)), oA 26 (.ld 1 false (.t 25)) [2], oA 27 (.len (.t 26)) [2, 3], ⟨(.some 28), Option.none, (.call 80 [(.c (.v (.string ({ data := #[110] })))), (.t 27)]), 28, [3, 2, 4], true⟩, oA 29 (.bsl 1 1 [(.v (.string ({ data := #[] })))] [(0, (.t 28))]) [4, 2, 3, 5], oA 30 (.app 1 16 (.t 24) (.t 29)) [3, 2,
  4, 0, 5, 6, 1], oA 31 (.fa 0 (.t 3)) [7, 6, 5, 4, 3, 2, 1, 0], ⟨Option.none, Option.none, (.st 1 (.t 31) (.t 30)), 0, [6, 5, 4, 3, 2, 1, 0, 7, 8], false⟩])) (.ops false [oP 21 (.mv (.t 4)), oP 22 (.bin .sub (.t 21) (cI 1)), oP 4 (.mv (.t 22))]))
def c19_2 : C := (.seq (.seq (.ops false [oP 19 (.mv (.t 4)), oP 20 (.bin .gtr (.t 19) (cI 0))]) (.cond (.t 20) .skip (.exit 0))) c19_1)
def c19_3 : C := (.seq (.block 3 (.ops true [oP 41 (.fa 1 (.t 3)), oA 42 (.ld 1 false (.t 41)) [0], oP 43 (.mv (.t 0)), oP 44 (.fa 1 (.t 3)), oA 45 (.ld 1 false (.t 44)) [3], oA 46 (.len (.t 45)) [3, 4], oP 47 (.mv (.t 6)), oP 48 (.mv (.t 6)), oA 49 (.bin .add (.t 48) (cI 1)) [7], oA 50 (.call 81 [(.t 43), (.t 46), (.t 47), (.t 49)]) [7, 4, 3, 8, 6, 5, 2], oA 51 (.bsl 7 1 [(.v (.string ({ data := #[] }))),
  (.v (.int .i64 0)), (.v (.int .i64 0)), (.v (.int .i64 0)), (.v (.int .i64 0)), (.v (.int .i64 0)), .mt] [(0, (.t 50))]) [2, 5, 6, 8, 3, 4, 7, 9], oA 52 (.app 7 80 (.t 42) (.t 51)) [7, 4, 3, 8, 6, 5, 2, 0, 9, 10, 1], oA 53 (.fa 1 (.t 3)) [11, 10, 9, 8, 7, 6, 5, 4, 3, 2, 1, 0], ⟨Option.none, Option.none, (.st 1 (.t 53) (.t 52)), 0, [10, 9, 8, 7, 6, 5, 4, 3, 2, 1, 0, 11, 12], false⟩]))
  (.ops false [oP 39 (.mv (.t 6)), oP 40 (.bin .add (.t 39) (cI 1)), oP 6 (.mv (.t 40))]))
def c19_4 : C := (.seq (.seq (.ops false [oP 36 (.mv (.t 6)), oP 37 (.mv (.t 5)), oP 38 (.bin .lss (.t 36) (.t 37))]) (.cond (.t 38) .skip (.exit 2))) c19_3)
def c19_5 : C := (.seq (.block 5 (.seq (.ops false [oP 60 (.mv (.t 0)), oP 61 (.mv (.t 5)), oB 62 (.call 24 [(.t 60), (.t 61)]), oP 8 (.mv (.t 62))]) (.ops true [oP 63 (.fa 1 (.t 3)), oA 64 (.ld 1 false (.t 63)) [0], oP 65 (.mv (.t 0)), oP 66 (.fa 1 (.t 3)), oA 67 (.ld 1 false (.t 66)) [3], oA 68 (.len (.t 67)) [3, 4], oP 69 (.mv (.t 8)), oP 70 (.mv (.t 0)), oP 71 (.mv (.t 8)), oA 72 (.bin .add (.t 71) (cI 1))
  [8], oP 73 (.mv (.t 5)), ⟨(.some 74), Option.none, (.call 27 [(.t 70), (.t 72), (.t 73)]), 74, [8, 10, 9, 7], true⟩, oA 75 (.call 81 [(.t 65), (.t 68), (.t 69), (.t 74)]) [7, 9, 10, 8, 4, 3, 11, 6, 5, 2], oA 76 (.bsl 7 1 [(.v (.string ({ data := #[] }))), (.v (.int .i64 0)), (.v (.int .i64 0)), (.v (.int .i64 0)), (.v (.int .i64 0)), (.v (.int .i64 0)), .mt] [(0, (.t 75))]) [2, 5, 6, 11, 3, 4, 8,
  10, 9, 7, 12], oA 77 (.app 7 80 (.t 64) (.t 76)) [7, 9, 10, 8, 4, 3, 11, 6, 5, 2, 0, 12, 13, 1], oA 78 (.fa 1 (.t 3)) [14, 13, 12, 11, 10, 9, 8, 7, 6, 5, 4, 3, 2, 1, 0], ⟨Option.none, Option.none, (.st 1 (.t 78) (.t 77)), 0, [13, 12, 11, 10, 9, 8, 7, 6, 5, 4, 3, 2, 1, 0, 14, 15], false⟩]))) (.ops false [oP 58 (.mv (.t 7)), oP 59 (.bin .sub (.t 58) (cI 1)), oP 7 (.mv (.t 59))]))
def c19_6 : C := (.seq (.seq (.ops false [oP 56 (.mv (.t 7)), oP 57 (.bin .gtr (.t 56) (cI 0))]) (.cond (.t 57) .skip (.exit 4))) c19_5)
def c19_7 : C := (.seq (.ops false [oP 110 (.mv (.t 9)), oP 111 (.mv (.t 5)), oP 112 (.bin .lss (.t 110) (.t 111)), oP 113 (.mv (.t 112)), oG 114 113 true (.mv (.t 0)), ⟨(.some 115), (.some (113, true)), (.call 24 [(.t 114), (cI 3)]), 115, [], true⟩, oG 116 113 true (.bin .eql (.t 115) (cI 0)), oP 117 (.pick (.t 113) (.t 116) (cB false))]) (.cond (.t 117) (.ops true [oP 118 (.fa 3 (.t 3)),
  oA 119 (.ld 1 false (.t 118)) [0], oP 120 (.fa 3 (.t 3)), oA 121 (.ld 1 false (.t 120)) [2], oA 122 (.len (.t 121)) [2, 3], ⟨(.some 123), Option.none, (.call 80 [(.c (.v (.string ({ data := #[115] })))), (.t 122)]), 123, [3, 2, 4], true⟩, oP 124 (.mv (.t 9)), oP 125 (.mv (.t 0)), oP 126 (.bsl 1 3 [(.v (.int .i64 0))] [(0, (cI 500000)), (1, (cI 2000000)), (2, (cI 0))]), ⟨(.some 127), Option.none,
  (.call 79 [(.t 125), (.t 126)]), 127, [4, 2, 3, 5, 8, 7], true⟩, oP 128 (.mv (.t 0)), oP 129 (.bsl 1 3 [(.v (.int .i64 0))] [(0, (cI 0)), (1, (cI 200)), (2, (cI 100000))]), ⟨(.some 130), Option.none, (.call 79 [(.t 128), (.t 129)]), 130, [7, 8, 5, 3, 2, 4, 9, 11, 10], true⟩, oP 131 (.mv (.t 0)), oP 132 (.bsl 1 3 [(.v (.int .i64 0))] [(0, (cI 0)), (1, (cI 100000)), (2, (cI 400000))]), ⟨(.some 133),
  Option.none, (.call 79 [(.t 131), (.t 132)]), 133, [10, 11, 9, 4, 2, 3, 5, 8, 7, 12, 14, 13], true⟩, oA 134 (.bld [(.v (.string ({ data := #[] }))), (.v (.int .i64 0)), (.v (.int .i64 0)), (.v (.int .i64 0)), (.v (.int .i64 0))] [(0, (1, (.t 123))), (1, (1, (.t 124))), (2, (1, (.t 127))), (3, (1, (.t 130))), (4, (1, (.t 133)))]) [13, 14, 10, 11, 7, 8, 4, 2, 3, 15, 12, 9, 6, 5],
  oA 135 (.bsl 5 1 [(.v (.string ({ data := #[] }))), (.v (.int .i64 0)), (.v (.int .i64 0)), (.v (.int .i64 0)), (.v (.int .i64 0))] [(0, (.t 134))]) [5, 6, 9, 12, 15, 3, 2, 4, 8, 7, 11, 10, 14, 13, 16], oA 136 (.app 5 48 (.t 119) (.t 135)) [16, 13, 14, 10, 11, 7, 8, 4, 2, 3, 12, 9, 6, 5, 0, 15, 17, 1], oA 137 (.fa 3 (.t 3)) [18, 17, 16, 15, 14, 13, 12, 11, 10, 9, 8, 7, 6, 5, 4, 3, 2, 1, 0],
  ⟨Option.none, Option.none, (.st 1 (.t 137) (.t 136)), 0, [17, 16, 15, 14, 13, 12, 11, 10, 9, 8, 7, 6, 5, 4, 3, 2, 1, 0, 18, 19], false⟩]) .skip))
def c19_8 : C := (.ops false [oP 82 (.mv (.t 9)), oP 83 (.bin .add (.t 82) (cI 1)), oP 9 (.mv (.t 83))])
def c19_9 : C := (.seq (.block 7 (.seq (.seq (.ops false [oP 84 (.mv (.t 9)), oP 85 (.bin .eql (.t 84) (cI 0)), oP 86 (.mv (.t 85)), oG 87 86 false (.mv (.t 9)), oG 88 86 false (.mv (.t 5)), oG 89 86 false (.bin .eql (.t 87) (.t 88)), oP 90 (.pick (.t 86) (cB true) (.t 89)), oP 91 (.mv (.t 90)), oG 92 91 false (.mv (.t 0)), ⟨(.some 93), (.some (91, false)), (.call 24 [(.t 92), (cI 2)]), 93, [], true⟩,
  oG 94 91 false (.bin .eql (.t 93) (cI 0)), oP 95 (.pick (.t 91) (cB true) (.t 94))]) (.cond (.t 95) (.ops true [oP 96 (.fa 2 (.t 3)), oA 97 (.ld 1 false (.t 96)) [0], oP 98 (.fa 2 (.t 3)), oA 99 (.ld 1 false (.t 98)) [2], oA 100 (.len (.t 99)) [2, 3], ⟨(.some 101), Option.none, (.call 80 [(.c (.v (.string ({ data := #[113] })))), (.t 100)]), 101, [3, 2, 4], true⟩, oP 102 (.mv (.t 9)),
  oP 103 (.mv (.t 0)), oP 104 (.bsl 1 4 [(.v (.int .i64 0))] [(0, (cI 300000)), (1, (cI 1000000)), (2, (cI 0)), (3, (cI 5000000))]), ⟨(.some 105), Option.none, (.call 79 [(.t 103), (.t 104)]), 105, [4, 2, 3, 5, 8, 7], true⟩, oA 106 (.bld [(.v (.string ({ data := #[] }))), (.v (.int .i64 0)), (.v (.int .i64 0))] [(0, (1, (.t 101))), (1, (1, (.t 102))), (2, (1, (.t 105)))]) [7, 8, 4, 2, 3, 9, 6, 5],
  oA 107 (.bsl 3 1 [(.v (.string ({ data := #[] }))), (.v (.int .i64 0)), (.v (.int .i64 0))] [(0, (.t 106))]) [5, 6, 9, 3, 2, 4, 8, 7, 10], oA 108 (.app 3 32 (.t 97) (.t 107)) [10, 7, 8, 4, 2, 3, 6, 5, 0, 9, 11, 1], oA 109 (.fa 2 (.t 3)) [12, 11, 10, 9, 8, 7, 6, 5, 4, 3, 2, 1, 0], ⟨Option.none, Option.none, (.st 1 (.t 109) (.t 108)), 0, [11, 10, 9, 8, 7, 6, 5, 4, 3, 2, 1, 0, 12, 13], false⟩])
  .skip)) c19_7)) c19_8)
def c19_10 : C := (.seq (.seq (.ops false [oP 79 (.mv (.t 9)), oP 80 (.mv (.t 5)), oP 81 (.bin .leq (.t 79) (.t 80))]) (.cond (.t 81) .skip (.exit 6))) c19_9)
def c19_11 : C := (.seq (.ops false [oP 138 (.ld 6 true (.t 3)), oS (.st 6 (.t 2) (.t 138))]) .ret)
def c19_12 : C := (.seq (.seq (.ops false [oP 9 (.mv (cI 0))]) (.block 6 (.loop c19_10))) c19_11)
def c19_13 : C := (.seq (.seq (.ops false [oP 54 (.mv (.t 0)), oB 55 (.call 24 [(.t 54), (cI 4)]), oP 7 (.mv (.t 55))]) (.block 4 (.loop c19_6))) (.weak c19_12))
def c19_14 : C := (.seq (.ops false [oP 32 (.fa 0 (.t 3)), oP 33 (.ld 1 false (.t 32)), oP 34 (.len (.t 33)), oP 35 (.bin .sub (.t 34) (cI 1)), oP 5 (.mv (.t 35))]) (.seq (.seq (.ops false [oP 6 (.mv (cI 0))]) (.block 2 (.loop c19_4))) (.weak c19_13)))
def c19 : C := (.seq (.ops false [oP 2 (.new [.mt, .mt, .mt, .mt, (.v (.int .i64 0)), (.v (.int .i64 0))])]) (.seq (.ops false [oP 10 (.mv (.t 0)), oP 11 (.bsl 1 3 [(.v (.int .i64 0))] [(0, (cI (-100000))), (1, (cI 0)), (2, (cI 50000))]), oB 12 (.call 79 [(.t 10), (.t 11)]), oP 13 (.mv (.t 0)), oP 14 (.bsl 1 4 [(.v (.int .i64 0))] [(0, (cI 0)), (1, (cI 1)), (2, (cI 5)), (3, (cI 100))]), oB 15 (.call 79 [(.t 13),
  (.t 14)]), oP 16 (.bld [.mt, .mt, .mt, .mt, (.v (.int .i64 0)), (.v (.int .i64 0))] [(4, (1, (.t 12))), (5, (1, (.t 15)))]), oP 3 (.new [.mt, .mt, .mt, .mt, (.v (.int .i64 0)), (.v (.int .i64 0))]), oS (.st 6 (.t 3) (.t 16))]) (.seq (.seq (.ops false [oP 17 (.mv (.t 0)), oB 18 (.call 27 [(.t 17), (cI 2), (cI 6)]), oP 4 (.mv (.t 18))]) (.block 0 (.loop c19_2))) (.weak c19_14))))
def r19 : List RV := [(.cell 2 6 true)]
theorem c19_ok : ∃ code, Try.f19.body = some code ∧ compC Try.prog Try.f19.ntmps code = some (C.strip c19) := ⟨_, rfl, by kernel_rfl⟩
theorem r19_ok : compRes Try.prog Try.f19.results.toList = some r19 := by kernel_rfl
theorem f19_ok : fnOk Try.prog 19 = true := by kernel_rfl
def c24 : C := (.seq (.ops false [oP 4 (.mv (cI 0))]) (.seq (.ops false [oP 5 (.mv (.t 0)), oB 6 (.call 87 [(.t 5)]), oP 7 (.mv (.t 1)), oB 8 (.call 86 [(.t 6), (.t 7)]), oP 4 (.mv (.t 8))]) .ret))
def r24 : List RV := [(.tmp 4)]
theorem c24_ok : ∃ code, Try.f24.body = some code ∧ compC Try.prog Try.f24.ntmps code = some (C.strip c24) := ⟨_, rfl, by kernel_rfl⟩
theorem r24_ok : compRes Try.prog Try.f24.results.toList = some r24 := by kernel_rfl
theorem f24_ok : fnOk Try.prog 24 = true := by kernel_rfl
def c27 : C := (.seq (.ops false [oP 6 (.mv (cI 0))]) (.seq (.ops false [oP 7 (.mv (.t 1)), oP 8 (.mv (.t 0)), oP 9 (.mv (.t 2)), oP 10 (.mv (.t 1)), oP 11 (.bin .sub (.t 9) (.t 10)), oP 12 (.bin .add (.t 11) (cI 1)), oB 13 (.call 24 [(.t 8), (.t 12)]), oP 14 (.bin .add (.t 7) (.t 13)), oP 6 (.mv (.t 14))]) .ret))
def r27 : List RV := [(.tmp 6)]
theorem c27_ok : ∃ code, Try.f27.body = some code ∧ compC Try.prog Try.f27.ntmps code = some (C.strip c27) := ⟨_, rfl, by kernel_rfl⟩
theorem r27_ok : compRes Try.prog Try.f27.results.toList = some r27 := by kernel_rfl
theorem f27_ok : fnOk Try.prog 27 = true := by kernel_rfl
def c79 : C := (.seq (.ops false [oP 4 (.mv (cI 0))]) (.seq (.ops false [oP 5 (.mv (.t 1)), oP 6 (.mv (.t 0)), oP 7 (.mv (.t 1)), oP 8 (.len (.t 7)), oB 9 (.call 24 [(.t 6), (.t 8)]), oP 10 (.iaS 1 (.t 5) (.t 9)), oP 11 (.ld 1 false (.t 10)), oP 4 (.mv (.t 11))]) .ret))
def r79 : List RV := [(.tmp 4)]
theorem c79_ok : ∃ code, Try.f79.body = some code ∧ compC Try.prog Try.f79.ntmps code = some (C.strip c79) := ⟨_, rfl, by kernel_rfl⟩
theorem r79_ok : compRes Try.prog Try.f79.results.toList = some r79 := by kernel_rfl
theorem f79_ok : fnOk Try.prog 79 = true := by kernel_rfl
def c80 : C := (.seq (.ops false [oP 4 (.mv (.c (.v (.string ({ data := #[] })))))]) (.seq (.ops false [oP 5 (.mv (.t 0)), oP 6 (.mv (.t 1)), oP 7 (.bin .rem (.t 6) (cI 26)), oP 8 (.bin .add (cI 97) (.t 7)), oP 9 (.cvi .u8 (.t 8)), oP 10 (.bsl 1 1 [(.v (.int .u8 0))] [(0, (.t 9))]), oP 11 (.bts (.t 10)), oP 12 (.bin .add (.t 5) (.t 11)), oP 4 (.mv (.t 12))]) .ret))
def r80 : List RV := [(.tmp 4)]
theorem c80_ok : ∃ code, Try.f80.body = some code ∧ compC Try.prog Try.f80.ntmps code = some (C.strip c80) := ⟨_, rfl, by kernel_rfl⟩
theorem r80_ok : compRes Try.prog Try.f80.results.toList = some r80 := by kernel_rfl
theorem f80_ok : fnOk Try.prog 80 = true := by kernel_rfl
def c81_1 : C := (.ops true [oP 60 (.fa 6 (.t 9)), oA 61 (.ld 1 false (.t 60)) [0], oP 62 (.mv (.t 11)), oP 63 (.mv (.t 0)), ⟨(.some 64), Option.none, (.call 27 [(.t 63), (cI (-5)), (cI 60)]), 64, [3], true⟩, oP 65 (.mv (.t 0)), oP 66 (.bsl 1 3 [(.v (.int .i64 0))] [(0, (cI 1)), (1, (cI 1)), (2, (cI 10))]), ⟨(.some 67), Option.none, (.call 79 [(.t 65), (.t 66)]), 67, [3, 4, 6, 5], true⟩, oA 68 (.bin .mul (.t 64)
  (.t 67)) [5, 6, 3, 7, 4], oP 69 (.mv (.t 10)), oP 70 (.mv (.t 0)), ⟨(.some 71), Option.none, (.call 24 [(.t 70), (cI 3)]), 71, [5, 6, 4, 3, 7, 10], true⟩, oA 72 (.bin .mul (.t 71) (cI 1000)) [10, 7, 3, 4, 6, 5, 11], oA 73 (.bin .sub (.t 69) (.t 72)) [11, 5, 6, 4, 3, 7, 10, 12, 9], oA 74 (.bld [(.v (.int .i64 0)), (.v (.int .i64 0)), (.v (.int .i64 0))] [(0, (1, (.t 62))), (1, (1, (.t 68))), (2,
  (1, (.t 73)))]) [9, 12, 10, 11, 4, 7, 3, 6, 5, 13, 8, 2], oA 75 (.bsl 3 1 [(.v (.int .i64 0)), (.v (.int .i64 0)), (.v (.int .i64 0))] [(0, (.t 74))]) [2, 8, 13, 5, 6, 3, 7, 4, 11, 10, 12, 9, 14], oA 76 (.app 3 24 (.t 61) (.t 75)) [14, 9, 12, 10, 4, 7, 3, 6, 5, 13, 8, 2, 0, 11, 15, 1], oA 77 (.fa 6 (.t 9)) [16, 15, 14, 13, 12, 11, 10, 9, 8, 7, 6, 5, 4, 3, 2, 1, 0], ⟨Option.none, Option.none,
  (.st 1 (.t 77) (.t 76)), 0, [15, 14, 13, 12, 11, 10, 9, 8, 7, 6, 5, 4, 3, 2, 1, 0, 16, 17], false⟩])
def c81_2 : C := (.block 1 (.seq (.ops false [oP 52 (.mv (.t 11)), oP 53 (.mv (.t 0)), oB 54 (.call 27 [(.t 53), (cI 1), (cI 40)]), oP 55 (.bin .add (.t 52) (.t 54)), oP 11 (.mv (.t 55))]) (.seq (.seq (.ops false [oP 56 (.mv (.t 11)), oP 57 (.fa 3 (.t 9)), oP 58 (.ld 1 false (.t 57)), oP 59 (.bin .geq (.t 56) (.t 58))]) (.cond (.t 59) (.exit 0) .skip)) c81_1)))
def c81_3 : C := (.seq (.seq (.ops false [oP 43 (.fa 6 (.t 9)), oP 44 (.ld 1 false (.t 43)), oP 45 (.len (.t 44)), oP 46 (.bin .lss (.t 45) (cI 7)), oP 47 (.mv (.t 46)), oG 48 47 true (.mv (.t 0)), ⟨(.some 49), (.some (47, true)), (.call 24 [(.t 48), (cI 3)]), 49, [], true⟩, oG 50 47 true (.bin .gtr (.t 49) (cI 0)), oP 51 (.pick (.t 47) (.t 50) (cB false))]) (.cond (.t 51) .skip (.exit 0))) c81_2)
def c81_4 : C := (.seq (.ops true [oP 78 (.fa 6 (.t 9)), oA 79 (.ld 1 false (.t 78)) [0], oP 80 (.fa 3 (.t 9)), oA 81 (.ld 1 false (.t 80)) [2], oP 82 (.mv (.t 0)), ⟨(.some 83), Option.none, (.call 27 [(.t 82), (cI (-5)), (cI 30)]), 83, [4], true⟩, oP 84 (.mv (.t 10)), oA 85 (.bld [(.v (.int .i64 0)), (.v (.int .i64 0)), (.v (.int .i64 0))] [(0, (1, (.t 81))), (1, (1, (.t 83))), (2, (1, (.t 84)))]) [4, 2, 6, 5,
  3], oA 86 (.bsl 3 1 [(.v (.int .i64 0)), (.v (.int .i64 0)), (.v (.int .i64 0))] [(0, (.t 85))]) [3, 5, 6, 2, 4, 7], oA 87 (.app 3 24 (.t 79) (.t 86)) [7, 4, 2, 6, 3, 0, 5, 8, 1], oA 88 (.fa 6 (.t 9)) [9, 8, 7, 6, 5, 4, 3, 2, 1, 0], ⟨Option.none, Option.none, (.st 1 (.t 88) (.t 87)), 0, [8, 7, 6, 5, 4, 3, 2, 1, 0, 9, 10], false⟩]) (.seq (.ops false [oP 89 (.ld 7 true (.t 9)), oS (.st 7 (.t 8)
  (.t 89))]) .ret))
def c81_5 : C := (.seq (.ops false [oP 17 (.mv (.t 1)), oB 18 (.call 80 [(.c (.v (.string ({ data := #[103] })))), (.t 17)]), oP 19 (.mv (.t 2)), oP 20 (.mv (.t 3)), oP 21 (.mv (.t 0)), oP 22 (.bsl 1 7 [(.v (.int .i64 0))] [(0, (cI 1)), (1, (cI 2)), (2, (cI 7)), (3, (cI 20)), (4, (cI 60)), (5, (cI 200)), (6, (cI 1000))]), oB 23 (.call 79 [(.t 21), (.t 22)]), oP 24 (.mv (.t 0)), oP 25 (.bsl 1 4 [(.v (.int .i64 0))]
  [(0, (cI 0)), (1, (cI 1)), (2, (cI 5)), (3, (cI 1000))]), oB 26 (.call 79 [(.t 24), (.t 25)]), oP 27 (.mv (.t 0)), oP 28 (.bsl 1 4 [(.v (.int .i64 0))] [(0, (cI 0)), (1, (cI 50)), (2, (cI 1000)), (3, (cI 100000))]), oB 29 (.call 79 [(.t 27), (.t 28)]), oP 30 (.bld [(.v (.string ({ data := #[] }))), (.v (.int .i64 0)), (.v (.int .i64 0)), (.v (.int .i64 0)), (.v (.int .i64 0)), (.v (.int .i64 0)),
  .mt] [(0, (1, (.t 18))), (1, (1, (.t 19))), (2, (1, (.t 20))), (3, (1, (.t 23))), (4, (1, (.t 26))), (5, (1, (.t 29)))]), oP 9 (.new [(.v (.string ({ data := #[] }))), (.v (.int .i64 0)), (.v (.int .i64 0)), (.v (.int .i64 0)), (.v (.int .i64 0)), (.v (.int .i64 0)), .mt]), oS (.st 7 (.t 9) (.t 30))]) (.seq (.ops false [oP 31 (.mv (.t 0)), oP 32 (.bsl 1 3 [(.v (.int .i64 0))] [(0, (cI 1000000)),
  (1, (cI 6000000)), (2, (cI 100000000))]), oB 33 (.call 79 [(.t 31), (.t 32)]), oP 10 (.mv (.t 33))]) (.seq (.ops true [oP 34 (.fa 6 (.t 9)), oA 35 (.ld 1 false (.t 34)) [0], oP 36 (.mv (.t 0)), ⟨(.some 37), Option.none, (.call 27 [(.t 36), (cI (-5)), (cI 30)]), 37, [2], true⟩, oP 38 (.mv (.t 10)), oA 39 (.bld [(.v (.int .i64 0)), (.v (.int .i64 0)), (.v (.int .i64 0))] [(1, (1, (.t 37))), (2, (1,
  (.t 38)))]) [2, 4, 3], oA 40 (.bsl 3 1 [(.v (.int .i64 0)), (.v (.int .i64 0)), (.v (.int .i64 0))] [(0, (.t 39))]) [3, 4, 2, 5], oA 41 (.app 3 24 (.t 35) (.t 40)) [5, 2, 4, 0, 3, 6, 1], oA 42 (.fa 6 (.t 9)) [7, 6, 5, 4, 3, 2, 1, 0], ⟨Option.none, Option.none, (.st 1 (.t 42) (.t 41)), 0, [6, 5, 4, 3, 2, 1, 0, 7, 8], false⟩]) (.seq (.seq (.ops false [oP 11 (.mv (cI 0))]) (.block 0 (.loop c81_3)))
  c81_4))))
def c81 : C := (.seq (.ops false [oP 8 (.new [(.v (.string ({ data := #[] }))), (.v (.int .i64 0)), (.v (.int .i64 0)), (.v (.int .i64 0)), (.v (.int .i64 0)), (.v (.int .i64 0)), .mt])]) (.seq (.seq (.ops false [oP 12 (.mv (.t 0)), oB 13 (.call 24 [(.t 12), (cI 4)]), oP 14 (.bin .eql (.t 13) (cI 0))]) (.cond (.t 14) (.ops false [oP 15 (.mv (.t 3)), oP 16 (.mv (.t 2)), oP 2 (.mv (.t 15)), oP 3 (.mv (.t 16))])
  .skip)) (.weak c81_5)))
def r81 : List RV := [(.cell 8 7 true)]
theorem c81_ok : ∃ code, Try.f81.body = some code ∧ compC Try.prog Try.f81.ntmps code = some (C.strip c81) := ⟨_, rfl, by kernel_rfl⟩
theorem r81_ok : compRes Try.prog Try.f81.results.toList = some r81 := by kernel_rfl
theorem f81_ok : fnOk Try.prog 81 = true := by kernel_rfl
def c86_1 : C := (.seq (.ops false [oP 15 (.mv (.t 0)), oP 4 (.mv (.t 15))]) .ret)
def c86_2 : C := (.seq (.ops false [oP 7 (.mv (.t 0)), oP 8 (.mv (.t 1)), oP 9 (.bin .rem (.t 7) (.t 8)), oP 0 (.mv (.t 9))]) (.seq (.seq (.ops false [oP 10 (.mv (.t 0)), oP 11 (.bin .lss (.t 10) (cI 0))]) (.cond (.t 11) (.ops false [oP 12 (.mv (.t 0)), oP 13 (.mv (.t 1)), oP 14 (.bin .add (.t 12) (.t 13)), oP 0 (.mv (.t 14))]) .skip)) c86_1))
def c86 : C := (.seq (.ops false [oP 4 (.mv (cI 0))]) (.seq (.seq (.ops false [oP 5 (.mv (.t 1)), oP 6 (.bin .lss (.t 5) (cI 1))]) (.cond (.t 6) (.seq (.ops false [oP 4 (.mv (cI 0))]) .ret) .skip)) c86_2))
def r86 : List RV := [(.tmp 4)]
theorem c86_ok : ∃ code, Try.f86.body = some code ∧ compC Try.prog Try.f86.ntmps code = some (C.strip c86) := ⟨_, rfl, by kernel_rfl⟩
theorem r86_ok : compRes Try.prog Try.f86.results.toList = some r86 := by kernel_rfl
theorem f86_ok : fnOk Try.prog 86 = true := by kernel_rfl
def c87_1 : C := (.seq (.ops false [oP 13 (.mv (.t 0)), oP 14 (.nck (.t 13)), oP 15 (.fa 1 (.t 14)), oP 16 (.ld 1 false (.t 15)), oP 17 (.bin .add (.t 16) (cI 1)), oP 18 (.nck (.t 13)), oP 19 (.fa 1 (.t 18)), oS (.st 1 (.t 19) (.t 17))]) (.seq (.ops true [oP 20 (.mv (.t 0)), oA 21 (.nck (.t 20)) [0], oA 22 (.fa 0 (.t 21)) [0, 1], oA 23 (.ld 1 false (.t 22)) [1, 0, 2], oP 24 (.mv (.t 0)), oA 25 (.nck (.t 24)) [4],
  oA 26 (.fa 1 (.t 25)) [4, 5], oA 27 (.ld 1 false (.t 26)) [5, 4, 6], oA 28 (.bin .sub (.t 27) (cI 1)) [6, 4, 5, 7], oA 29 (.iaS 1 (.t 23) (.t 28)) [7, 5, 4, 6, 2, 0, 1, 8, 3], oA 30 (.ld 1 false (.t 29)) [3, 8, 1, 0, 2, 6, 4, 5, 7, 9], oA 2 (.mv (.t 30)) [9, 8, 7, 6, 5, 4, 3, 2, 1, 0, 10]]) .ret))
def c87 : C := (.seq (.ops false [oP 2 (.mv (cI 0))]) (.seq (.seq (.ops true [oP 3 (.mv (.t 0)), oA 4 (.nck (.t 3)) [0], oA 5 (.fa 1 (.t 4)) [0, 1], oA 6 (.ld 1 false (.t 5)) [1, 0, 2], oP 7 (.mv (.t 0)), oA 8 (.nck (.t 7)) [4], oA 9 (.fa 0 (.t 8)) [4, 5], oA 10 (.ld 1 false (.t 9)) [5, 4, 6], oA 11 (.len (.t 10)) [6, 4, 5, 7], oA 12 (.bin .geq (.t 6) (.t 11)) [7, 5, 4, 6, 2, 0, 1, 8, 3]]) (.cond (.t 12)
  (.seq (.ops false [oP 2 (.mv (cI 0))]) .ret) .skip)) c87_1))
def r87 : List RV := [(.tmp 2)]
theorem c87_ok : ∃ code, Try.f87.body = some code ∧ compC Try.prog Try.f87.ntmps code = some (C.strip c87) := ⟨_, rfl, by kernel_rfl⟩
theorem r87_ok : compRes Try.prog Try.f87.results.toList = some r87 := by kernel_rfl
theorem f87_ok : fnOk Try.prog 87 = true := by kernel_rfl
def c98 : C := (.seq (.ops false [oP 4 (.mv (.c (.v (.string ({ data := #[] })))))]) (.seq (.ops false [oP 5 (.mv (.t 1)), oP 6 (.mv (.t 0)), oP 7 (.mv (.t 1)), oP 8 (.len (.t 7)), oB 9 (.call 24 [(.t 6), (.t 8)]), oP 10 (.iaS 1 (.t 5) (.t 9)), oP 11 (.ld 1 false (.t 10)), oP 4 (.mv (.t 11))]) .ret))
def r98 : List RV := [(.tmp 4)]
theorem c98_ok : ∃ code, Try.f98.body = some code ∧ compC Try.prog Try.f98.ntmps code = some (C.strip c98) := ⟨_, rfl, by kernel_rfl⟩
theorem r98_ok : compRes Try.prog Try.f98.results.toList = some r98 := by kernel_rfl
theorem f98_ok : fnOk Try.prog 98 = true := by kernel_rfl
end Go.Proofs.Ytkjibmfggeibjaa

/- The source of numbers: small functions. -/
namespace Go.Proofs.Ytkjibmfggeibjaa
open Go
set_option linter.unusedVariables false
set_option maxRecDepth 100000
set_option linter.unusedSimpArgs false

def modI (x n : Int) : Int := if n < 1 then 0 else if x.tmod n < 0 then x.tmod n + n else x.tmod n
theorem modI_in (x n : Int) : 0 ≤ modI x n ∧ (1 ≤ n → modI x n < n) ∧ (n < 1 → modI x n = 0) := by
  unfold modI
  split
  · exact ⟨by omega, fun h => by omega, fun _ => rfl⟩
  · have h1 := Int.lt_tmod_of_pos x (b := n) (by omega)
    have h2 := Int.tmod_lt_of_pos x (b := n) (by omega)
    split <;> exact ⟨by omega, fun _ => by omega, fun h => by omega⟩
set_option maxHeartbeats 2000000 in
theorem Mod_c (x n : Int) (hn : InI n) (nn : Nm) : CallsA Try.prog 86 [di x, di n] Hp.none nn (Pu (di (modI x n)) Hp.none) := by
  obtain ⟨code, h1, h2⟩ := c86_ok
  refine callsA_of (T0_ok _) mixed (N := fun t => (0, t)) Try.func86 h1 h2 r86_ok [] false js_nil js_nil' (by simp [Try.f86]) ?_
  have hi := modI_in x n
  by_cases hb : n < 1
  · simp (config := { maxSteps := 500000 }) only [↓vp, vv, implies_true, forall_const, undef, InI, ↓reduceIte, simprocAttr, c86, r86, c86_1, c86_2, hb, Pu, modI, decide_true]
  · have h0 : n ≠ 0 := by omega
    have h2 := Int.lt_tmod_of_pos x (b := n) (by omega)
    have h3 := Int.tmod_lt_of_pos x (b := n) (by omega)
    by_cases hr : x.tmod n < 0
    · have hw : IntKind.i64.wrap (x.tmod n + n) = x.tmod n + n := wrap_i (by omega)
      simp (config := { maxSteps := 500000 }) only [↓vp, vv, implies_true, forall_const, undef, InI, ↓reduceIte, simprocAttr, c86, r86, c86_1, c86_2, hb, hr, hw, Pu, modI, decide_true, decide_false, ne_eq, h0, not_false_eq_true]
    · simp (config := { maxSteps := 500000 }) only [↓vp, vv, implies_true, forall_const, undef, InI, ↓reduceIte, simprocAttr, c86, r86, c86_1, c86_2, hb, hr, Pu, modI, decide_true, decide_false, ne_eq, h0, not_false_eq_true]
set_option maxHeartbeats 4000000 in
theorem Raw_c : SrcC Try.prog 87 [] InI di := by
  intro i L at' nn ho
  obtain ⟨code, h1, h2⟩ := c87_ok
  refine callsA_of (T0_ok _) mixed (N := fun t => (i.1 + 1, t)) Try.func87 h1 h2 r87_ok [i] false js_one js_one' (by simp [Try.f87]) ?_
  obtain ⟨ns, hL, hns⟩ := ho.ints
  have hlo := ho.lo
  have hhi := ho.hi
  have hlen := ho.len
  by_cases hb : (L.length : Int) ≤ at'
  · simp (config := { maxSteps := 500000 }) only [↓vp, vv, implies_true, forall_const, undef, InI, ↓reduceIte, simprocAttr, c87, r87, c87_1, hb, decide_true]
    exact ⟨at', 0, ho, by decide, rfl, rfl⟩
  · have hw : IntKind.i64.wrap (at' + 1) = at' + 1 := wrap_i (by omega)
    have hw2 : IntKind.i64.wrap (at' + 1 - 1) = at' := by rw [Int.add_sub_cancel]; exact wrap_i (by omega)
    obtain ⟨k, rfl⟩ : ∃ k : Nat, at' = k := ⟨at'.toNat, by omega⟩
    have hk : k < ns.length := by rw [hL, List.length_map] at hb; omega
    have hg : L.getD k [] = [di ns[k]] := by rw [hL, List.getD_eq_getElem?_getD, List.getElem?_map, List.getElem?_eq_getElem hk]; rfl
    have h0 : (0 : Int) ≤ k := by omega
    have hkL : (k : Int) < L.length := by omega
    simp (config := { maxSteps := 500000 }) only [↓vp, vv, implies_true, forall_const, undef, InI, ↓reduceIte, simprocAttr, c87, r87, c87_1, hb, hw, hw2, decide_true, decide_false, hg, Int.toNat_natCast, h0, hkL]
    exact ⟨k + 1, ns[k], ⟨by omega, by omega, hlen, ns, hL, hns⟩, hns _ (List.getElem_mem hk), rfl, rfl⟩
def sel0 {α : Type} (post : α → Prop) : List D → Option (Prop × (α → Prop))
  | [] => some (True, post)
  | _ => Option.none
def selMod : List D → Option (Prop × D)
  | [.v (.int .i64 x), .v (.int .i64 n)] => some (InI n, di (modI x n))
  | _ => Option.none
def TN : Tbl := tc 87 (rowSrc (sel0 InI) di) (tc 86 (rowPu selMod) T0)
theorem TN_ok : TblOk Try.prog TN := by
  refine tc_src f87_ok (fun args pre post h hp => ?_) (tc_pu f86_ok (fun args pre d h hp nn => ?_) (T0_ok _))
  · unfold sel0 at h
    split at h <;> cases h
    exact ⟨⟨0, by omega⟩, Raw_c⟩
  · unfold selMod at h
    split at h <;> cases h
    exact Mod_c _ _ hp nn
def NPost (n x : Int) : Prop := 0 ≤ x ∧ (1 ≤ n → x < n) ∧ (n < 1 → x = 0)
set_option maxHeartbeats 4000000 in
theorem N_c (n : Int) (hn : InI n) : SrcC Try.prog 24 [di n] (NPost n) di := by
  intro i L at' nn ho
  obtain ⟨code, h1, h2⟩ := c24_ok
  refine callsA_of TN_ok mixed (N := fun t => (i.1 + 1, t)) Try.func24 h1 h2 r24_ok [i] false js_one js_one' (by simp [Try.f24]) ?_
  simp (config := { maxSteps := 500000 }) only [↓vp, vv, implies_true, forall_const, undef, InI, ↓reduceIte, simprocAttr, c24, r24, TN, sel0, selMod, ho]
  exact fun ⟨at2, ho2⟩ x hx => ⟨hn, at2, _, ho2, modI_in x n, rfl, rfl⟩
end Go.Proofs.Ytkjibmfggeibjaa

/- The source of numbers: Pick, Text, Range, name, New. -/
namespace Go.Proofs.Ytkjibmfggeibjaa
open Go
set_option linter.unusedVariables false
set_option linter.unusedSimpArgs false
set_option maxRecDepth 100000

def selI {α : Type} (ok : Int → Prop) (post : Int → α → Prop) : List D → Option (Prop × (α → Prop))
  | [.v (.int .i64 n)] => some (ok n, post n)
  | _ => Option.none
def T1 : Tbl := tc 24 (rowSrc (selI InI NPost) di) T0
theorem T1_ok : TblOk Try.prog T1 := by
  refine tc_src f24_ok (fun args pre post h hp => ?_) (T0_ok _)
  unfold selI at h
  split at h <;> cases h
  exact ⟨⟨_, modI_in 0 _⟩, N_c _ hp⟩
def IsMem {α : Type} (l : List α) (x : α) : Prop := x ∈ l
theorem getD_map {α : Type} (g : α → List D) (l : List α) (k : Nat) (h : k < l.length) : (l.map g).getD k [] = g l[k] := by
  rw [List.getD_eq_getElem?_getD, List.getElem?_map, List.getElem?_eq_getElem h]; rfl
set_option maxHeartbeats 4000000 in
theorem Pick_c (ns : List Int) (h0 : ns ≠ []) (hl : ns.length ≤ 2000) : SrcC Try.prog 79 [.sl (ns.map fun n => [di n])] (IsMem ns) di := by
  intro i L at' nn ho
  obtain ⟨code, h1, h2⟩ := c79_ok
  refine callsA_of T1_ok mixed (N := fun t => (i.1 + 1, t)) Try.func79 h1 h2 r79_ok [i] false js_one js_one' (by simp [Try.f79]) ?_
  have hn : InI ns.length := by omega
  have h1 : 1 ≤ ns.length := by cases ns with | nil => exact absurd rfl h0 | cons => simp
  simp (config := { maxSteps := 500000 }) only [↓vp, vv, implies_true, forall_const, undef, InI, ↓reduceIte, simprocAttr, c79, r79, T1, selI, ho, List.length_map]
  refine ⟨hn, fun ⟨at2, ho2⟩ x ⟨hx0, hx1, _⟩ => ?_⟩
  have hx := hx1 (by omega)
  have hk : x.toNat < ns.length := by omega
  rw [getD_map _ ns x.toNat hk]
  simp (config := { maxSteps := 500000 }) only [↓vp, vv, implies_true, forall_const, undef, InI, ↓reduceIte, simprocAttr, hx, hx0]
  exact ⟨at2, _, ho2, List.getElem_mem hk, rfl, rfl⟩
set_option maxHeartbeats 4000000 in
theorem Text_c (ns : List ByteArray) (h0 : ns ≠ []) (hl : ns.length ≤ 2000) : SrcC Try.prog 98 [.sl (ns.map fun n => [ds n])] (IsMem ns) ds := by
  intro i L at' nn ho
  obtain ⟨code, h1, h2⟩ := c98_ok
  refine callsA_of T1_ok mixed (N := fun t => (i.1 + 1, t)) Try.func98 h1 h2 r98_ok [i] false js_one js_one' (by simp [Try.f98]) ?_
  have hn : InI ns.length := by omega
  have h1 : 1 ≤ ns.length := by cases ns with | nil => exact absurd rfl h0 | cons => simp
  simp (config := { maxSteps := 500000 }) only [↓vp, vv, implies_true, forall_const, undef, InI, ↓reduceIte, simprocAttr, c98, r98, T1, selI, ho, List.length_map]
  refine ⟨hn, fun ⟨at2, ho2⟩ x ⟨hx0, hx1, _⟩ => ?_⟩
  have hx := hx1 (by omega)
  have hk : x.toNat < ns.length := by omega
  rw [getD_map _ ns x.toNat hk]
  simp (config := { maxSteps := 500000 }) only [↓vp, vv, implies_true, forall_const, undef, InI, ↓reduceIte, simprocAttr, hx, hx0]
  exact ⟨at2, _, ho2, List.getElem_mem hk, rfl, rfl⟩
def RPost (a b x : Int) : Prop := a ≤ x ∧ (a ≤ b → x ≤ b) ∧ (b < a → x = a)
set_option maxHeartbeats 4000000 in
theorem Range_c (a b : Int) (ha : InI a) (hb : InI b) (hd : b - a < 9223372036854775807) (hd' : -9223372036854775808 ≤ b - a) : SrcC Try.prog 27 [di a, di b] (RPost a b) di := by
  intro i L at' nn ho
  obtain ⟨code, h1, h2⟩ := c27_ok
  refine callsA_of T1_ok mixed (N := fun t => (i.1 + 1, t)) Try.func27 h1 h2 r27_ok [i] false js_one js_one' (by simp [Try.f27]) ?_
  have w1 : IntKind.i64.wrap (b - a) = b - a := wrap_i (by omega)
  have w2 : IntKind.i64.wrap (b - a + 1) = b - a + 1 := wrap_i (by omega)
  have hn : InI (b - a + 1) := by omega
  simp (config := { maxSteps := 500000 }) only [↓vp, vv, implies_true, forall_const, undef, InI, ↓reduceIte, simprocAttr, c27, r27, T1, selI, ho, w1, w2]
  refine ⟨hn, fun ⟨at2, ho2⟩ x ⟨hx0, hx1, hx2⟩ => ?_⟩
  have w3 : IntKind.i64.wrap (a + x) = a + x := wrap_i (by omega)
  try rw [w3]
  exact ⟨at2, _, ho2, ⟨by omega, by omega, by omega⟩, rfl, rfl⟩
/-- Names of made things. -/
def nm1B (f : ByteArray) (n : Int) : ByteArray := f ++ strOf [IntKind.u8.wrap (IntKind.i64.wrap (97 + n.tmod 26))]
set_option maxHeartbeats 4000000 in
theorem name_c (f : ByteArray) (n : Int) (hf : f.size ≤ 1000) (nn : Nm) : CallsA Try.prog 80 [ds f, di n] Hp.none nn (Pu (ds (nm1B f n)) Hp.none) := by
  obtain ⟨code, h1, h2⟩ := c80_ok
  refine callsA_of (T0_ok _) mixed (N := fun t => (0, t)) Try.func80 h1 h2 r80_ok [] false js_nil js_nil' (by simp [Try.f80]) ?_
  simp (config := { maxSteps := 500000 }) only [↓vp, vv, implies_true, forall_const, undef, InI, ↓reduceIte, simprocAttr, c80, r80, bytesD, Pu, nm1B]
  have : (strOf [IntKind.u8.wrap (IntKind.i64.wrap (97 + n.tmod 26))]).size = 1 := by simp [strOf]
  first | exact ⟨by decide, by omega⟩ | omega
theorem js_nn {nn : Nm} : ∀ (j : Nm) (x : En), Hp.none j = some x → j ∈ [nn] := fun j x h => by cases h
theorem js_nn' {nn : Nm} {Hs : Hp} : ∀ j ∈ [nn], (Hs j).isSome = true ∨ j = nn := fun j h => .inr (List.mem_singleton.1 h)
set_option maxHeartbeats 4000000 in
theorem New_c (L : List (List D)) (nn : Nm) : CallsA Try.prog 18 [.sl L] Hp.none nn (Pu (.ptr nn 0 0 0) (Hp.none.put nn (sE (L.take 2000) 0))) := by
  obtain ⟨code, h1, h2⟩ := c18_ok
  refine callsA_of (T0_ok _) mixed (N := fun _ => nn) Try.func18 h1 h2 r18_ok [nn] true js_nn js_nn' (by simp [Try.f18]) ?_
  simp (config := { maxSteps := 500000 }) only [↓vp, vv, implies_true, forall_const, undef, InI, ↓reduceIte, simprocAttr, c18, r18]
  by_cases hb : (2000 : Int) < L.length
  · simp only [if_pos hb]
    (repeat' apply And.intro) <;> first | omega | rfl
  · simp only [if_neg hb]
    have e : ∀ k, L.length ≤ k → List.take k L = List.take 2000 L := fun k hk => by
      rw [List.take_of_length_le hk, List.take_of_length_le (by omega)]
    (repeat' apply And.intro) <;> first | omega | rfl | (rw [e _ (by omega)])
end Go.Proofs.Ytkjibmfggeibjaa

/- Segments out of a source. -/
namespace Go.Proofs.Ytkjibmfggeibjaa
open Go
set_option linter.unusedVariables false
set_option linter.unusedSimpArgs false
set_option maxRecDepth 100000

structure Pt where
  at' : Int
  height : Int
  limit : Int
def Pt.row (p : Pt) : List D := [di p.at', di p.height, di p.limit]
structure Seg where
  name : ByteArray
  fr : Int
  to : Int
  cap : Int
  resist : Int
  wave : Int
  points : List Pt
def Seg.row (s : Seg) : List D := [ds s.name, di s.fr, di s.to, di s.cap, di s.resist, di s.wave, .sl (s.points.map Pt.row)]
def Seg.enc (s : Seg) : D := .agg s.row
def selPick : List D → Option (Prop × (Int → Prop))
  | [.sl rows] => match intsOf rows with
    | some ns => some (ns ≠ [] ∧ ns.length ≤ 2000, IsMem ns)
    | Option.none => Option.none
  | _ => Option.none
def selText : List D → Option (Prop × (ByteArray → Prop))
  | [.sl rows] => match strsOf rows with
    | some ns => some (ns ≠ [] ∧ ns.length ≤ 2000, IsMem ns)
    | Option.none => Option.none
  | _ => Option.none
def selRange : List D → Option (Prop × (Int → Prop))
  | [.v (.int .i64 a), .v (.int .i64 b)] => some ((InI a ∧ InI b) ∧ b - a < 9223372036854775807 ∧ -9223372036854775808 ≤ b - a, RPost a b)
  | _ => Option.none
def selName : List D → Option (Prop × D)
  | [.v (.string f), .v (.int .i64 n)] => some (f.size ≤ 1000, ds (nm1B f n))
  | _ => Option.none
def T2 : Tbl := tc 79 (rowSrc selPick di) (tc 98 (rowSrc selText ds) (tc 27 (rowSrc selRange di) (tc 80 (rowPu selName) T1)))
theorem T2_ok : TblOk Try.prog T2 := by
  refine tc_src f79_ok (fun args pre post h hp => ?_) (tc_src f98_ok (fun args pre post h hp => ?_) (tc_src f27_ok (fun args pre post h hp => ?_) (tc_pu f80_ok (fun args pre d h hp nn => ?_) T1_ok)))
  · unfold selPick at h
    split at h
    · split at h
      · rename_i ns hns
        cases h
        obtain ⟨h0, hl⟩ := hp
        rw [intsOf_eq hns]
        refine ⟨?_, Pick_c _ h0 hl⟩
        cases ns with
        | nil => exact absurd rfl h0
        | cons n ns => exact ⟨n, List.mem_cons_self ..⟩
      · cases h
    · cases h
  · unfold selText at h
    split at h
    · split at h
      · rename_i ns hns
        cases h
        obtain ⟨h0, hl⟩ := hp
        rw [strsOf_eq hns]
        refine ⟨?_, Text_c _ h0 hl⟩
        cases ns with
        | nil => exact absurd rfl h0
        | cons n ns => exact ⟨n, List.mem_cons_self ..⟩
      · cases h
    · cases h
  · unfold selRange at h
    split at h <;> cases h
    obtain ⟨⟨h1, h2⟩, h3, h4⟩ := hp
    exact ⟨⟨_, Int.le_refl _, fun h => h, fun _ => rfl⟩, Range_c _ _ h1 h2 h3 h4⟩
  · unfold selName at h
    split at h <;> cases h
    exact name_c _ _ hp nn
theorem sz1 (b : UInt8) : ByteArray.size { data := #[b] } = 1 := rfl
def SegHp (i : Nm) (L : List (List D)) (at' : Int) (nm : ByteArray) (a b cap res wav : Int) (g : Nat) (pts : List Pt) : Hp :=
  (((Hp.none.put (i.1 + 1, 41) ⟨g, 3, pts.map Pt.row⟩).put (i.1 + 1, 9) ⟨0, 7, [[ds nm, di a, di b, di cap, di res, di wav, .own (i.1 + 1, 41) g 0 pts.length]]⟩).put (i.1 + 1, 8) ⟨0, 7, [[ds ⟨#[]⟩, di 0, di 0, di 0, di 0, di 0, .mt]]⟩).put i (sE L at')
def SegFr (i : Nm) (lim atv : Int) : List (Nat × D) := [(0, .ptr i 0 0 0), (8, .ptr (i.1 + 1, 8) 0 0 0), (9, .ptr (i.1 + 1, 9) 0 0 0), (10, di lim), (11, di atv)]
structure PtsOk (cap lim atv : Int) (pts : List Pt) : Prop where
  asc : pts.Pairwise (fun a b => a.at' < b.at')
  le : ∀ p ∈ pts, p.at' ≤ atv ∧ -500 ≤ p.height ∧ p.height ≤ 5000 ∧ 0 ≤ p.limit ∧ p.limit ≤ 100000000
  hd : pts.head?.map (·.at') = some 0
  lo : 0 ≤ atv
  hi : atv < cap
theorem PtsOk.more {cap lim atv : Int} {pts : List Pt} (h : PtsOk cap lim atv pts) (x : Int) (hx : atv < x) (hc : x < cap) (z l : Int) (hz : -500 ≤ z ∧ z ≤ 5000) (hl : 0 ≤ l ∧ l ≤ 100000000) : PtsOk cap lim x (pts ++ [⟨x, z, l⟩]) := by
  refine ⟨List.pairwise_append.2 ⟨h.asc, List.pairwise_singleton _ _, fun a ha b hb => ?_⟩, fun p hp => ?_, ?_, by have := h.lo; omega, hc⟩
  · rw [List.mem_singleton.1 hb]
    have := (h.le a ha).1
    dsimp only; omega
  · rcases List.mem_append.1 hp with hp | hp
    · have := h.le p hp; omega
    · rw [List.mem_singleton.1 hp]
      dsimp only; omega
  · cases pts with
    | nil => have := h.hd; cases this
    | cons p ps => exact h.hd
/-- The points of a segment of this capacity. -/
structure PtsEnd (cap : Int) (pts : List Pt) : Prop where
  asc : pts.Pairwise (fun a b => a.at' < b.at')
  le : ∀ p ∈ pts, -500 ≤ p.height ∧ p.height ≤ 5000 ∧ 0 ≤ p.limit ∧ p.limit ≤ 100000000
  hd : pts.head?.map (·.at') = some 0
  last : pts.getLast?.map (·.at') = some cap
theorem PtsOk.fin {cap lim atv : Int} {pts : List Pt} (h : PtsOk cap lim atv pts) (z l : Int) (hz : -500 ≤ z ∧ z ≤ 5000) (hl : 0 ≤ l ∧ l ≤ 100000000) : PtsEnd cap (pts ++ [⟨cap, z, l⟩]) := by
  refine ⟨List.pairwise_append.2 ⟨h.asc, List.pairwise_singleton _ _, fun a ha b hb => ?_⟩, fun p hp => ?_, ?_, by simp⟩
  · rw [List.mem_singleton.1 hb]
    have := (h.le a ha).1
    have := h.hi
    dsimp only; omega
  · rcases List.mem_append.1 hp with hp | hp
    · have := h.le p hp; omega
    · rw [List.mem_singleton.1 hp]
      dsimp only; omega
  · cases pts with
    | nil => have := h.hd; cases this
    | cons p ps => exact h.hd
structure SegOk (k fr to : Int) (s : Seg) : Prop where
  name : s.name = nm1B ⟨#[103]⟩ k
  ends : s.fr = fr ∧ s.to = to ∨ s.fr = to ∧ s.to = fr
  cap : 1 ≤ s.cap ∧ s.cap ≤ 1000
  res : 0 ≤ s.resist ∧ s.resist ≤ 1000
  wav : 0 ≤ s.wave ∧ s.wave ≤ 100000
  len : 2 ≤ s.points.length ∧ s.points.length ≤ 8
  pts : PtsEnd s.cap s.points
def SegI (i : Nm) (L : List (List D)) (nm : ByteArray) (a b cap res wav lim : Int) : Nat → St → Prop := fun k s => ∃ at' atv g pts, SrcOk L at' ∧ PtsOk cap lim atv pts ∧ k + pts.length = 7 ∧ 1 ≤ pts.length ∧ s = ⟨fr (SegFr i lim atv), SegHp i L at' nm a b cap res wav g pts⟩
theorem seg_fin (i : Nm) (L : List (List D)) (at' : Int) (ho : SrcOk L at') (k a b f t : Int) (he : f = a ∧ t = b ∨ f = b ∧ t = a) (cap res wav lim atv : Int) (hcap : 1 ≤ cap ∧ cap ≤ 1000) (hres : 0 ≤ res ∧ res ≤ 1000) (hwav : 0 ≤ wav ∧ wav ≤ 100000) (hlim : 0 ≤ lim ∧ lim ≤ 100000000)
    (pts : List Pt) (hp : PtsOk cap lim atv pts) (h1 : 1 ≤ pts.length ∧ pts.length ≤ 7) (z : Int) (hz : RPost (-5) 30 z) : SrcR i L (SegOk k a b) Seg.enc (D.agg [ds (nm1B ⟨#[103]⟩ k), di f, di t, di cap, di res, di wav, D.sl (List.map Pt.row pts ++ [[D.v (.int .i64 cap), D.v (.int .i64 z), D.v (.int .i64 lim)]])]) (Hp.none.put i ⟨0, 2, [[.sl L, di at']]⟩) := by
  unfold RPost at hz
  refine ⟨at', ⟨nm1B ⟨#[103]⟩ k, f, t, cap, res, wav, pts ++ [⟨cap, z, lim⟩]⟩, ho, ⟨rfl, he, hcap, hres, hwav, ?_, hp.fin z lim ?_ hlim⟩, ?_, rfl⟩
  · simp; omega
  · omega
  · simp [Seg.enc, Seg.row, Pt.row]
set_option maxHeartbeats 4000000 in
theorem Seg_a (i : Nm) (L : List (List D)) (at' : Int) (ho : SrcOk L at') (k a b f t : Int) (he : f = a ∧ t = b ∨ f = b ∧ t = a) (F : Fr) (h0 : F 0 = .ptr i 0 0 0) (h1 : F 1 = di k) (h2 : F 2 = di f) (h3 : F 3 = di t) (h8 : F 8 = .ptr (i.1 + 1, 8) 0 0 0) :
    vc T2 (fun t => (i.1 + 1, t)) [i] c81_5 (finQ r81 [i] false (SrcR i L (SegOk k a b) Seg.enc)) ⟨F, (Hp.none.put i (sE L at')).put (i.1 + 1, 8) ⟨0, 7, [[ds ⟨#[]⟩, di 0, di 0, di 0, di 0, di 0, .mt]]⟩⟩ := by
  simp (config := { maxSteps := 500000 }) only [↓vp, vv, implies_true, forall_const, undef, InI, ↓reduceIte, simprocAttr, c81_5, T2, T1, selI, selPick, selRange, selName, ho, h0, h1, h2, h3, h8, sz1]
  rintro ⟨at1, o1⟩ cap hcap ⟨at2, o2⟩ res hres ⟨at3, o3⟩ wav hwav ⟨at4, o4⟩ lim hlim ⟨at5, o5⟩ z hz
  simp [IsMem] at hcap hres hwav hlim
  have hcap' : 1 ≤ cap ∧ cap ≤ 1000 := by omega
  have hlim' : 0 ≤ lim ∧ lim ≤ 100000000 := by omega
  have hres' : 0 ≤ res ∧ res ≤ 1000 := by omega
  have hwav' : 0 ≤ wav ∧ wav ≤ 100000 := by omega
  unfold RPost at hz
  rw [vc_loop]
  refine ⟨SegI i L (nm1B ⟨#[103]⟩ k) f t cap res wav lim, ⟨6, _, (weak_eq [] [i, (i.1 + 1, 8), (i.1 + 1, 9), (i.1 + 1, 41)] (SegFr i lim 0) (by simp (config := { maxSteps := 500000 }) only [↓vp, vv, implies_true, forall_const, undef, InI, ↓reduceIte, simprocAttr, coverS, SegFr, h0, h8]) (by simp (config := { maxSteps := 500000 }) only [↓vp, vv, implies_true, forall_const, undef, InI, ↓reduceIte, simprocAttr, refsF, SegFr, h0, h8]) (by simp (config := { maxSteps := 500000 }) only [↓vp, vv, implies_true, forall_const, undef, InI, ↓reduceIte, simprocAttr, SegFr, h0, h8]) (by simp) (by simp (config := { maxSteps := 500000 }) only [↓vp, vv, implies_true, forall_const, undef, InI, ↓reduceIte, simprocAttr, SegFr, h0, h8]; try rfl)), ⟨at5, 0, 0, [⟨0, z, lim⟩], o5, ⟨List.pairwise_singleton _ _, by simp; omega, rfl, by omega, by omega⟩, rfl, by simp, rfl⟩⟩, ?_⟩
  rintro m s ⟨at6, atv, g, pts, o6, hp, hk, hk1, rfl⟩
  have hpl := hp.lo
  have hph := hp.hi
  by_cases hlt : (pts.length : Int) < 7
  · simp (config := { maxSteps := 500000 }) only [↓vp, vv, implies_true, forall_const, undef, InI, ↓reduceIte, simprocAttr, c81, r81, c81_1, c81_2, c81_3, c81_4, c81_5, T2, T1, selI, selPick, selRange, selName, o6, SegHp, SegFr, hlt, Pt.row]
    rintro ⟨at7, o7⟩ x hx
    split
    · rintro ⟨at8, o8⟩ y hy
      unfold RPost at hy
      have w1 : IntKind.i64.wrap (atv + y) = atv + y := wrap_i (by omega)
      rw [w1]
      split
      · rintro ⟨at9, o9⟩ z' hz'
        exact ⟨⟨by omega, by omega⟩, seg_fin i L at9 o9 k a b f t he cap res wav lim atv hcap' hres' hwav' hlim' pts hp (by omega) z' hz'⟩
      · rintro ⟨at9, o9⟩ u hu ⟨at10, o10⟩ v hv ⟨at11, o11⟩ q hq
        unfold RPost at hu
        simp [IsMem] at hv
        unfold NPost at hq
        have w2 : IntKind.i64.wrap (u * v) = u * v := wrap_i (by rcases hv with rfl | rfl | rfl <;> omega)
        have w3 : IntKind.i64.wrap (q * 1000) = q * 1000 := wrap_i (by omega)
        have w4 : IntKind.i64.wrap (lim - q * 1000) = lim - q * 1000 := wrap_i (by omega)
        simp only [w2, w3, w4]
        refine ⟨⟨by omega, by omega⟩, m - 1, _, by omega, (weak_eq [] [i, (i.1 + 1, 8), (i.1 + 1, 9), (i.1 + 1, 41)] (SegFr i lim (atv + y)) (by simp (config := { maxSteps := 500000 }) only [↓vp, vv, implies_true, forall_const, undef, InI, ↓reduceIte, simprocAttr, coverS, SegFr, Pt.row]) (by simp (config := { maxSteps := 500000 }) only [↓vp, vv, implies_true, forall_const, undef, InI, ↓reduceIte, simprocAttr, refsF, SegFr, Pt.row]) (by simp (config := { maxSteps := 500000 }) only [↓vp, vv, implies_true, forall_const, undef, InI, ↓reduceIte, simprocAttr, SegFr, Pt.row]) (by simp) (by simp (config := { maxSteps := 500000 }) only [↓vp, vv, implies_true, forall_const, undef, InI, ↓reduceIte, simprocAttr, SegFr, Pt.row]; try rfl)), at11, atv + y, g + 1, pts ++ [⟨atv + y, u * v, lim - q * 1000⟩], o11, hp.more (atv + y) (by omega) (by omega) _ _ (by rcases hv with rfl | rfl | rfl <;> omega) (by omega), by simp; omega, by simp, ?_⟩
        simp [SegHp, Pt.row, sE]
    · rintro ⟨at9, o9⟩ z' hz'
      exact ⟨⟨by omega, by omega⟩, seg_fin i L at9 o9 k a b f t he cap res wav lim atv hcap' hres' hwav' hlim' pts hp (by omega) z' hz'⟩
  · simp (config := { maxSteps := 500000 }) only [↓vp, vv, implies_true, forall_const, undef, InI, ↓reduceIte, simprocAttr, c81, r81, c81_1, c81_2, c81_3, c81_4, c81_5, T2, T1, selI, selPick, selRange, selName, o6, SegHp, SegFr, hlt, Pt.row]
    rintro ⟨at9, o9⟩ z' hz'
    exact ⟨⟨by omega, by omega⟩, seg_fin i L at9 o9 k a b f t he cap res wav lim atv hcap' hres' hwav' hlim' pts hp (by omega) z' hz'⟩
theorem Seg_b (i : Nm) (L : List (List D)) (at' : Int) (ho : SrcOk L at') (k a b f t : Int) (he : f = a ∧ t = b ∨ f = b ∧ t = a) :
    vc T2 (fun t => (i.1 + 1, t)) [i] c81_5 (finQ r81 [i] false (SrcR i L (SegOk k a b) Seg.enc)) ⟨fr [(0, .ptr i 0 0 0), (1, di k), (2, di f), (3, di t), (8, .ptr (i.1 + 1, 8) 0 0 0)], (Hp.none.put (i.1 + 1, 8) ⟨0, 7, [[ds ⟨#[]⟩, di 0, di 0, di 0, di 0, di 0, .mt]]⟩).put i (sE L at')⟩ := by
  rw [show (Hp.none.put (i.1 + 1, 8) ⟨0, 7, [[ds ⟨#[]⟩, di 0, di 0, di 0, di 0, di 0, .mt]]⟩).put i (sE L at') = (Hp.none.put i (sE L at')).put (i.1 + 1, 8) ⟨0, 7, [[ds ⟨#[]⟩, di 0, di 0, di 0, di 0, di 0, .mt]]⟩ from by
    funext j
    simp only [hput_at]
    split
    · rename_i h; subst h; simp only [nm1, if_false]
    · rfl]
  exact Seg_a i L at' ho k a b f t he _ rfl rfl rfl rfl rfl
set_option maxHeartbeats 4000000 in
theorem Segment_c (k a b : Int) (hk : InI k) : SrcC Try.prog 81 [di k, di a, di b] (SegOk k a b) Seg.enc := by
  intro i L at' nn ho
  obtain ⟨code, h1, h2⟩ := c81_ok
  refine callsA_of T2_ok mixed (N := fun t => (i.1 + 1, t)) Try.func81 h1 h2 r81_ok [i] false js_one js_one' (by simp [Try.f81]) ?_
  simp (config := { maxSteps := 500000 }) only [↓vp, vv, implies_true, forall_const, undef, InI, ↓reduceIte, simprocAttr, c81, T2, T1, selI, selPick, selRange, selName, ho]
  rintro ⟨at1, o1⟩ x hx
  split
  · refine vc_wk (weak_eq [] [i, (i.1 + 1, 8)] [(0, .ptr i 0 0 0), (1, di k), (2, di b), (3, di a), (8, .ptr (i.1 + 1, 8) 0 0 0)] (by simp (config := { maxSteps := 500000 }) only [↓vp, vv, implies_true, forall_const, undef, InI, ↓reduceIte, simprocAttr, coverS, Pt.row]) (by simp (config := { maxSteps := 500000 }) only [↓vp, vv, implies_true, forall_const, undef, InI, ↓reduceIte, simprocAttr, refsF, Pt.row]) (by simp (config := { maxSteps := 500000 }) only [↓vp, vv, implies_true, forall_const, undef, InI, ↓reduceIte, simprocAttr, Pt.row]) (by simp) (by simp (config := { maxSteps := 500000 }) only [↓vp, vv, implies_true, forall_const, undef, InI, ↓reduceIte, simprocAttr, Pt.row]; try rfl)) ?_
    exact Seg_b i L at1 o1 k a b b a (.inr ⟨rfl, rfl⟩)
  · refine vc_wk (weak_eq [] [i, (i.1 + 1, 8)] [(0, .ptr i 0 0 0), (1, di k), (2, di a), (3, di b), (8, .ptr (i.1 + 1, 8) 0 0 0)] (by simp (config := { maxSteps := 500000 }) only [↓vp, vv, implies_true, forall_const, undef, InI, ↓reduceIte, simprocAttr, coverS, Pt.row]) (by simp (config := { maxSteps := 500000 }) only [↓vp, vv, implies_true, forall_const, undef, InI, ↓reduceIte, simprocAttr, refsF, Pt.row]) (by simp (config := { maxSteps := 500000 }) only [↓vp, vv, implies_true, forall_const, undef, InI, ↓reduceIte, simprocAttr, Pt.row]) (by simp) (by simp (config := { maxSteps := 500000 }) only [↓vp, vv, implies_true, forall_const, undef, InI, ↓reduceIte, simprocAttr, Pt.row]; try rfl)) ?_
    exact Seg_b i L at1 o1 k a b a b (.inl ⟨rfl, rfl⟩)
end Go.Proofs.Ytkjibmfggeibjaa
