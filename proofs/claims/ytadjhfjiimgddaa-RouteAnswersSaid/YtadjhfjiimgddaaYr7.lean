/- RouteAnswers: CodeB Gen1 Gen2 Gen3 Gen4. -/
import Derived.Test.YtadjhfjiimgddaaYr3
import Derived.Test.YtadjhfjiimgddaaProg
import Derived.Test.YtadjhfjiimgddaaYr4
set_option linter.unusedSimpArgs false
set_option linter.unusedVariables false
set_option maxRecDepth 100000
/- Compiled code of some functions (printed by a program), each checked by the kernel. -/
namespace Go.Proofs.Ytadjhfjiimgddaa
open Go
def c8 : C := (.seq (.ops false [oP 2 (.mv (.c (.v (.pointer Option.none))))]) (.seq (.ops false [oM 3 0, oM 4 0, oP 5 (.len (.t 4)), oP 6 (.mnx false (.t 5) (cI 2000)), oP 7 (.slc 1 (.t 3) Option.none (.some (.t 6))), oP 8 (.bld [.mt, (.v (.int .i64 0))] [(0, (1, (.t 7)))]), oP 9 (.box 2 (.t 8)), oM 2 9]) .ret))
def r8 : List RV := [(.tmp 2)]
theorem c8_ok : ∃ code, Try.f8.body = some code ∧ compC Try.prog Try.f8.ntmps code = some (C.strip c8) := ⟨_, rfl, by kernel_rfl⟩
theorem r8_ok : compRes Try.prog Try.f8.results.toList = some r8 := by kernel_rfl
theorem f8_ok : fnOk Try.prog 8 = true := by kernel_rfl
def c13 : C := (.seq (.ops false [oP 4 (.mv (cI 0))]) (.seq (.ops false [oM 5 0, oB 6 (.call 70 [(.t 5)]), oM 7 1, oB 8 (.call 69 [(.t 6), (.t 7)]), oM 4 8]) .ret))
def r13 : List RV := [(.tmp 4)]
theorem c13_ok : ∃ code, Try.f13.body = some code ∧ compC Try.prog Try.f13.ntmps code = some (C.strip c13) := ⟨_, rfl, by kernel_rfl⟩
theorem r13_ok : compRes Try.prog Try.f13.results.toList = some r13 := by kernel_rfl
theorem f13_ok : fnOk Try.prog 13 = true := by kernel_rfl
def c25 : C := (.seq (.ops false [oP 6 (.mv (cI 0))]) (.seq (.ops false [oM 7 1, oM 8 0, oM 9 2, oM 10 1, oP 11 (.bin .sub (.t 9) (.t 10)), oP 12 (.bin .add (.t 11) (cI 1)), oB 13 (.call 13 [(.t 8), (.t 12)]), oP 14 (.bin .add (.t 7) (.t 13)), oM 6 14]) .ret))
def r25 : List RV := [(.tmp 6)]
theorem c25_ok : ∃ code, Try.f25.body = some code ∧ compC Try.prog Try.f25.ntmps code = some (C.strip c25) := ⟨_, rfl, by kernel_rfl⟩
theorem r25_ok : compRes Try.prog Try.f25.results.toList = some r25 := by kernel_rfl
theorem f25_ok : fnOk Try.prog 25 = true := by kernel_rfl
def c32_1 : C := (.seq (.block 1 (.ops true [oP 23 (.fa 0 (.t 3)), oA 24 (.ld 1 false (.t 23)) [0], oP 25 (.fa 0 (.t 3)), oA 26 (.ld 1 false (.t 25)) [2], oA 27 (.len (.t 26)) [2, 3], oE 28 (.call 65 [(.c (.v (.string ({ data := #[110] })))), (.t 27)]) [3, 2, 4], oA 29 (.bsl 1 1 [(.v (.string ({ data := #[] })))] [(0, (.t 28))]) [4, 2, 3, 5], oA 30 (.app 1 16 (.t 24) (.t 29)) [3, 2, 4, 0, 5, 6, 1],
 oA 31 (.fa 0 (.t 3)) [7, 6, 5, 4, 3, 2, 1, 0], oT (.st 1 (.t 31) (.t 30)) [6, 5, 4, 3, 2, 1, 0, 7, 8]])) (.ops false [oM 21 4, oP 22 (.bin .sub (.t 21) (cI 1)), oM 4 22]))
def c32_2 : C := (.seq (.seq (.ops false [oM 19 4, oP 20 (.bin .gtr (.t 19) (cI 0))]) (.cond (.t 20) .skip (.exit 0))) c32_1)
def c32_3 : C := (.seq (.block 3 (.ops true [oP 41 (.fa 1 (.t 3)), oA 42 (.ld 1 false (.t 41)) [0], oM 43 0, oP 44 (.fa 1 (.t 3)), oA 45 (.ld 1 false (.t 44)) [3], oA 46 (.len (.t 45)) [3, 4], oM 47 6, oM 48 6, oA 49 (.bin .add (.t 48) (cI 1)) [7], oA 50 (.call 89 [(.t 43), (.t 46), (.t 47), (.t 49)]) [7, 4, 3, 8, 6, 5, 2], oA 51 (.bsl 7 1 [(.v (.string ({ data := #[] }))),
 (.v (.int .i64 0)), (.v (.int .i64 0)), (.v (.int .i64 0)), (.v (.int .i64 0)), (.v (.int .i64 0)), .mt] [(0, (.t 50))]) [2, 5, 6, 8, 3, 4, 7, 9], oA 52 (.app 7 80 (.t 42) (.t 51)) [7, 4, 3, 8, 6, 5, 2, 0, 9, 10, 1], oA 53 (.fa 1 (.t 3)) [11, 10, 9, 8, 7, 6, 5, 4, 3, 2, 1, 0], oT (.st 1 (.t 53) (.t 52)) [10, 9, 8, 7, 6, 5, 4, 3, 2, 1, 0, 11, 12]])) (.ops false [oM 39 6,
 oP 40 (.bin .add (.t 39) (cI 1)), oM 6 40]))
def c32_4 : C := (.seq (.seq (.ops false [oM 36 6, oM 37 5, oP 38 (.bin .lss (.t 36) (.t 37))]) (.cond (.t 38) .skip (.exit 2))) c32_3)
def c32_5 : C := (.seq (.block 5 (.seq (.ops false [oM 60 0, oM 61 5, oB 62 (.call 13 [(.t 60), (.t 61)]), oM 8 62]) (.ops true [oP 63 (.fa 1 (.t 3)), oA 64 (.ld 1 false (.t 63)) [0], oM 65 0, oP 66 (.fa 1 (.t 3)), oA 67 (.ld 1 false (.t 66)) [3], oA 68 (.len (.t 67)) [3, 4], oM 69 8, oM 70 0, oM 71 8, oA 72 (.bin .add (.t 71) (cI 1))
 [8], oM 73 5, oE 74 (.call 25 [(.t 70), (.t 72), (.t 73)]) [8, 10, 9, 7], oA 75 (.call 89 [(.t 65), (.t 68), (.t 69), (.t 74)]) [7, 9, 10, 8, 4, 3, 11, 6, 5, 2], oA 76 (.bsl 7 1 [(.v (.string ({ data := #[] }))), (.v (.int .i64 0)), (.v (.int .i64 0)), (.v (.int .i64 0)), (.v (.int .i64 0)), (.v (.int .i64 0)), .mt] [(0, (.t 75))]) [2, 5, 6, 11, 3, 4, 8, 10, 9, 7, 12],
 oA 77 (.app 7 80 (.t 64) (.t 76)) [7, 9, 10, 8, 4, 3, 11, 6, 5, 2, 0, 12, 13, 1], oA 78 (.fa 1 (.t 3)) [14, 13, 12, 11, 10, 9, 8, 7, 6, 5, 4, 3, 2, 1, 0], oT (.st 1 (.t 78) (.t 77)) [13, 12, 11, 10, 9, 8, 7, 6, 5, 4, 3, 2, 1, 0, 14, 15]]))) (.ops false [oM 58 7, oP 59 (.bin .sub (.t 58) (cI 1)), oM 7 59]))
def c32_6 : C := (.seq (.seq (.ops false [oM 56 7, oP 57 (.bin .gtr (.t 56) (cI 0))]) (.cond (.t 57) .skip (.exit 4))) c32_5)
def c32_7 : C := (.seq (.ops false [oM 110 9, oM 111 5, oP 112 (.bin .lss (.t 110) (.t 111)), oM 113 112, oG 114 113 true (.mv (.t 0)), oD 115 113 true (.call 13 [(.t 114), (cI 3)]) [], oG 116 113 true (.bin .eql (.t 115) (cI 0)), oP 117 (.pick (.t 113) (.t 116) (cB false))]) (.cond (.t 117) (.ops true [oP 118 (.fa 3 (.t 3)), oA 119 (.ld 1 false (.t 118)) [0],
 oP 120 (.fa 3 (.t 3)), oA 121 (.ld 1 false (.t 120)) [2], oA 122 (.len (.t 121)) [2, 3], oE 123 (.call 65 [(.c (.v (.string ({ data := #[115] })))), (.t 122)]) [3, 2, 4], oM 124 9, oM 125 0, oP 126 (.bsl 1 3 [(.v (.int .i64 0))] [(0, (cI 500000)), (1, (cI 2000000)), (2, (cI 0))]), oE 127 (.call 66 [(.t 125), (.t 126)]) [4, 2, 3, 5, 8, 7], oM 128 0,
 oP 129 (.bsl 1 3 [(.v (.int .i64 0))] [(0, (cI 0)), (1, (cI 200)), (2, (cI 100000))]), oE 130 (.call 66 [(.t 128), (.t 129)]) [7, 8, 5, 3, 2, 4, 9, 11, 10], oM 131 0, oP 132 (.bsl 1 3 [(.v (.int .i64 0))] [(0, (cI 0)), (1, (cI 100000)), (2, (cI 400000))]), oE 133 (.call 66 [(.t 131), (.t 132)]) [10, 11, 9, 4, 2, 3, 5, 8, 7, 12, 14, 13], oA 134 (.bld [(.v (.string ({ data := #[] }))),
 (.v (.int .i64 0)), (.v (.int .i64 0)), (.v (.int .i64 0)), (.v (.int .i64 0))] [(0, (1, (.t 123))), (1, (1, (.t 124))), (2, (1, (.t 127))), (3, (1, (.t 130))), (4, (1, (.t 133)))]) [13, 14, 10, 11, 7, 8, 4, 2, 3, 15, 12, 9, 6, 5], oA 135 (.bsl 5 1 [(.v (.string ({ data := #[] }))), (.v (.int .i64 0)), (.v (.int .i64 0)), (.v (.int .i64 0)), (.v (.int .i64 0))] [(0, (.t 134))]) [5, 6, 9, 12, 15,
 3, 2, 4, 8, 7, 11, 10, 14, 13, 16], oA 136 (.app 5 48 (.t 119) (.t 135)) [16, 13, 14, 10, 11, 7, 8, 4, 2, 3, 12, 9, 6, 5, 0, 15, 17, 1], oA 137 (.fa 3 (.t 3)) [18, 17, 16, 15, 14, 13, 12, 11, 10, 9, 8, 7, 6, 5, 4, 3, 2, 1, 0], oT (.st 1 (.t 137) (.t 136)) [17, 16, 15, 14, 13, 12, 11, 10, 9, 8, 7, 6, 5, 4, 3, 2, 1, 0, 18, 19]]) .skip))
def c32_8 : C := (.ops false [oM 82 9, oP 83 (.bin .add (.t 82) (cI 1)), oM 9 83])
def c32_9 : C := (.seq (.block 7 (.seq (.seq (.ops false [oM 84 9, oP 85 (.bin .eql (.t 84) (cI 0)), oM 86 85, oG 87 86 false (.mv (.t 9)), oG 88 86 false (.mv (.t 5)), oG 89 86 false (.bin .eql (.t 87) (.t 88)), oP 90 (.pick (.t 86) (cB true) (.t 89)), oM 91 90, oG 92 91 false (.mv (.t 0)), oD 93 91 false (.call 13 [(.t 92), (cI 2)]) [], oG 94 91 false (.bin .eql (.t 93) (cI 0)),
 oP 95 (.pick (.t 91) (cB true) (.t 94))]) (.cond (.t 95) (.ops true [oP 96 (.fa 2 (.t 3)), oA 97 (.ld 1 false (.t 96)) [0], oP 98 (.fa 2 (.t 3)), oA 99 (.ld 1 false (.t 98)) [2], oA 100 (.len (.t 99)) [2, 3], oE 101 (.call 65 [(.c (.v (.string ({ data := #[113] })))), (.t 100)]) [3, 2, 4], oM 102 9, oM 103 0, oP 104 (.bsl 1 4 [(.v (.int .i64 0))] [(0, (cI 300000)), (1,
 (cI 1000000)), (2, (cI 0)), (3, (cI 5000000))]), oE 105 (.call 66 [(.t 103), (.t 104)]) [4, 2, 3, 5, 8, 7], oA 106 (.bld [(.v (.string ({ data := #[] }))), (.v (.int .i64 0)), (.v (.int .i64 0))] [(0, (1, (.t 101))), (1, (1, (.t 102))), (2, (1, (.t 105)))]) [7, 8, 4, 2, 3, 9, 6, 5], oA 107 (.bsl 3 1 [(.v (.string ({ data := #[] }))), (.v (.int .i64 0)), (.v (.int .i64 0))] [(0, (.t 106))]) [5, 6,
 9, 3, 2, 4, 8, 7, 10], oA 108 (.app 3 32 (.t 97) (.t 107)) [10, 7, 8, 4, 2, 3, 6, 5, 0, 9, 11, 1], oA 109 (.fa 2 (.t 3)) [12, 11, 10, 9, 8, 7, 6, 5, 4, 3, 2, 1, 0], oT (.st 1 (.t 109) (.t 108)) [11, 10, 9, 8, 7, 6, 5, 4, 3, 2, 1, 0, 12, 13]]) .skip)) c32_7)) c32_8)
def c32_10 : C := (.seq (.seq (.ops false [oM 79 9, oM 80 5, oP 81 (.bin .leq (.t 79) (.t 80))]) (.cond (.t 81) .skip (.exit 6))) c32_9)
def c32_11 : C := (.seq (.ops false [oP 138 (.ld 6 true (.t 3)), oS (.st 6 (.t 2) (.t 138))]) .ret)
def c32_12 : C := (.seq (.seq (.ops false [oP 9 (.mv (cI 0))]) (.block 6 (.loop c32_10))) c32_11)
def c32_13 : C := (.seq (.seq (.ops false [oM 54 0, oB 55 (.call 13 [(.t 54), (cI 4)]), oM 7 55]) (.block 4 (.loop c32_6))) (.weak c32_12))
def c32_14 : C := (.seq (.ops false [oP 32 (.fa 0 (.t 3)), oP 33 (.ld 1 false (.t 32)), oP 34 (.len (.t 33)), oP 35 (.bin .sub (.t 34) (cI 1)), oM 5 35]) (.seq (.seq (.ops false [oP 6 (.mv (cI 0))]) (.block 2 (.loop c32_4))) (.weak c32_13)))
def c32 : C := (.seq (.ops false [oP 2 (.new [.mt, .mt, .mt, .mt, (.v (.int .i64 0)), (.v (.int .i64 0))])]) (.seq (.ops false [oM 10 0, oP 11 (.bsl 1 3 [(.v (.int .i64 0))] [(0, (cI (-100000))), (1, (cI 0)), (2, (cI 50000))]), oB 12 (.call 66 [(.t 10), (.t 11)]), oM 13 0, oP 14 (.bsl 1 4 [(.v (.int .i64 0))] [(0, (cI 0)), (1, (cI 1)), (2, (cI 5)), (3, (cI 100))]), oB 15 (.call 66 [(.t 13),
 (.t 14)]), oP 16 (.bld [.mt, .mt, .mt, .mt, (.v (.int .i64 0)), (.v (.int .i64 0))] [(4, (1, (.t 12))), (5, (1, (.t 15)))]), oP 3 (.new [.mt, .mt, .mt, .mt, (.v (.int .i64 0)), (.v (.int .i64 0))]), oS (.st 6 (.t 3) (.t 16))]) (.seq (.seq (.ops false [oM 17 0, oB 18 (.call 25 [(.t 17), (cI 2), (cI 6)]), oM 4 18]) (.block 0 (.loop c32_2))) (.weak c32_14))))
def r32 : List RV := [(.cell 2 6 true)]
theorem c32_ok : ∃ code, Try.f32.body = some code ∧ compC Try.prog Try.f32.ntmps code = some (C.strip c32) := ⟨_, rfl, by kernel_rfl⟩
theorem r32_ok : compRes Try.prog Try.f32.results.toList = some r32 := by kernel_rfl
theorem f32_ok : fnOk Try.prog 32 = true := by kernel_rfl
def c65 : C := (.seq (.ops false [oP 4 (.mv (.c (.v (.string ({ data := #[] })))))]) (.seq (.ops false [oM 5 0, oM 6 1, oP 7 (.bin .rem (.t 6) (cI 26)), oP 8 (.bin .add (cI 97) (.t 7)), oP 9 (.cvi .u8 (.t 8)), oP 10 (.bsl 1 1 [(.v (.int .u8 0))] [(0, (.t 9))]), oP 11 (.bts (.t 10)), oP 12 (.bin .add (.t 5) (.t 11)), oM 4 12]) .ret))
def r65 : List RV := [(.tmp 4)]
theorem c65_ok : ∃ code, Try.f65.body = some code ∧ compC Try.prog Try.f65.ntmps code = some (C.strip c65) := ⟨_, rfl, by kernel_rfl⟩
theorem r65_ok : compRes Try.prog Try.f65.results.toList = some r65 := by kernel_rfl
theorem f65_ok : fnOk Try.prog 65 = true := by kernel_rfl
def c66 : C := (.seq (.ops false [oP 4 (.mv (cI 0))]) (.seq (.ops false [oM 5 1, oM 6 0, oM 7 1, oP 8 (.len (.t 7)), oB 9 (.call 13 [(.t 6), (.t 8)]), oP 10 (.iaS 1 (.t 5) (.t 9)), oP 11 (.ld 1 false (.t 10)), oM 4 11]) .ret))
def r66 : List RV := [(.tmp 4)]
theorem c66_ok : ∃ code, Try.f66.body = some code ∧ compC Try.prog Try.f66.ntmps code = some (C.strip c66) := ⟨_, rfl, by kernel_rfl⟩
theorem r66_ok : compRes Try.prog Try.f66.results.toList = some r66 := by kernel_rfl
theorem f66_ok : fnOk Try.prog 66 = true := by kernel_rfl
def c69_1 : C := (.seq (.ops false [oM 15 0, oM 4 15]) .ret)
def c69_2 : C := (.seq (.ops false [oM 7 0, oM 8 1, oP 9 (.bin .rem (.t 7) (.t 8)), oM 0 9]) (.seq (.seq (.ops false [oM 10 0, oP 11 (.bin .lss (.t 10) (cI 0))]) (.cond (.t 11) (.ops false [oM 12 0, oM 13 1, oP 14 (.bin .add (.t 12) (.t 13)), oM 0 14]) .skip)) c69_1))
def c69 : C := (.seq (.ops false [oP 4 (.mv (cI 0))]) (.seq (.seq (.ops false [oM 5 1, oP 6 (.bin .lss (.t 5) (cI 1))]) (.cond (.t 6) (.seq (.ops false [oP 4 (.mv (cI 0))]) .ret) .skip)) c69_2))
def r69 : List RV := [(.tmp 4)]
theorem c69_ok : ∃ code, Try.f69.body = some code ∧ compC Try.prog Try.f69.ntmps code = some (C.strip c69) := ⟨_, rfl, by kernel_rfl⟩
theorem r69_ok : compRes Try.prog Try.f69.results.toList = some r69 := by kernel_rfl
theorem f69_ok : fnOk Try.prog 69 = true := by kernel_rfl
def c70_1 : C := (.seq (.ops false [oM 13 0, oP 14 (.nck (.t 13)), oP 15 (.fa 1 (.t 14)), oP 16 (.ld 1 false (.t 15)), oP 17 (.bin .add (.t 16) (cI 1)), oP 18 (.nck (.t 13)), oP 19 (.fa 1 (.t 18)), oS (.st 1 (.t 19) (.t 17))]) (.seq (.ops true [oM 20 0, oA 21 (.nck (.t 20)) [0], oA 22 (.fa 0 (.t 21)) [0, 1], oA 23 (.ld 1 false (.t 22)) [1, 0, 2], oM 24 0, oA 25 (.nck (.t 24)) [4],
 oA 26 (.fa 1 (.t 25)) [4, 5], oA 27 (.ld 1 false (.t 26)) [5, 4, 6], oA 28 (.bin .sub (.t 27) (cI 1)) [6, 4, 5, 7], oA 29 (.iaS 1 (.t 23) (.t 28)) [7, 5, 4, 6, 2, 0, 1, 8, 3], oA 30 (.ld 1 false (.t 29)) [3, 8, 1, 0, 2, 6, 4, 5, 7, 9], oA 2 (.mv (.t 30)) [9, 8, 7, 6, 5, 4, 3, 2, 1, 0, 10]]) .ret))
def c70 : C := (.seq (.ops false [oP 2 (.mv (cI 0))]) (.seq (.seq (.ops true [oM 3 0, oA 4 (.nck (.t 3)) [0], oA 5 (.fa 1 (.t 4)) [0, 1], oA 6 (.ld 1 false (.t 5)) [1, 0, 2], oM 7 0, oA 8 (.nck (.t 7)) [4], oA 9 (.fa 0 (.t 8)) [4, 5], oA 10 (.ld 1 false (.t 9)) [5, 4, 6], oA 11 (.len (.t 10)) [6, 4, 5, 7], oA 12 (.bin .geq (.t 6) (.t 11)) [7, 5, 4, 6, 2, 0, 1, 8, 3]]) (.cond (.t 12)
 (.seq (.ops false [oP 2 (.mv (cI 0))]) .ret) .skip)) c70_1))
def r70 : List RV := [(.tmp 2)]
theorem c70_ok : ∃ code, Try.f70.body = some code ∧ compC Try.prog Try.f70.ntmps code = some (C.strip c70) := ⟨_, rfl, by kernel_rfl⟩
theorem r70_ok : compRes Try.prog Try.f70.results.toList = some r70 := by kernel_rfl
theorem f70_ok : fnOk Try.prog 70 = true := by kernel_rfl
def c89_1 : C := (.ops true [oP 60 (.fa 6 (.t 9)), oA 61 (.ld 1 false (.t 60)) [0], oM 62 11, oM 63 0, oE 64 (.call 25 [(.t 63), (cI (-5)), (cI 60)]) [3], oM 65 0, oP 66 (.bsl 1 3 [(.v (.int .i64 0))] [(0, (cI 1)), (1, (cI 1)), (2, (cI 10))]), oE 67 (.call 66 [(.t 65), (.t 66)]) [3, 4, 6, 5], oA 68 (.bin .mul (.t 64) (.t 67)) [5, 6, 3, 7, 4], oM 69 10,
 oM 70 0, oE 71 (.call 13 [(.t 70), (cI 3)]) [5, 6, 4, 3, 7, 10], oA 72 (.bin .mul (.t 71) (cI 1000)) [10, 7, 3, 4, 6, 5, 11], oA 73 (.bin .sub (.t 69) (.t 72)) [11, 5, 6, 4, 3, 7, 10, 12, 9], oA 74 (.bld [(.v (.int .i64 0)), (.v (.int .i64 0)), (.v (.int .i64 0))] [(0, (1, (.t 62))), (1, (1, (.t 68))), (2, (1, (.t 73)))]) [9, 12, 10, 11, 4, 7, 3, 6, 5, 13, 8, 2],
 oA 75 (.bsl 3 1 [(.v (.int .i64 0)), (.v (.int .i64 0)), (.v (.int .i64 0))] [(0, (.t 74))]) [2, 8, 13, 5, 6, 3, 7, 4, 11, 10, 12, 9, 14], oA 76 (.app 3 24 (.t 61) (.t 75)) [14, 9, 12, 10, 4, 7, 3, 6, 5, 13, 8, 2, 0, 11, 15, 1], oA 77 (.fa 6 (.t 9)) [16, 15, 14, 13, 12, 11, 10, 9, 8, 7, 6, 5, 4, 3, 2, 1, 0], oT (.st 1 (.t 77) (.t 76)) [15, 14, 13, 12, 11, 10, 9, 8, 7, 6, 5, 4, 3, 2, 1, 0, 16,
 17]])
def c89_2 : C := (.block 1 (.seq (.ops false [oM 52 11, oM 53 0, oB 54 (.call 25 [(.t 53), (cI 1), (cI 40)]), oP 55 (.bin .add (.t 52) (.t 54)), oM 11 55]) (.seq (.seq (.ops false [oM 56 11, oP 57 (.fa 3 (.t 9)), oP 58 (.ld 1 false (.t 57)), oP 59 (.bin .geq (.t 56) (.t 58))]) (.cond (.t 59) (.exit 0) .skip)) c89_1)))
def c89_3 : C := (.seq (.seq (.ops false [oP 43 (.fa 6 (.t 9)), oP 44 (.ld 1 false (.t 43)), oP 45 (.len (.t 44)), oP 46 (.bin .lss (.t 45) (cI 7)), oM 47 46, oG 48 47 true (.mv (.t 0)), oD 49 47 true (.call 13 [(.t 48), (cI 3)]) [], oG 50 47 true (.bin .gtr (.t 49) (cI 0)), oP 51 (.pick (.t 47) (.t 50) (cB false))]) (.cond (.t 51) .skip (.exit 0))) c89_2)
def c89_4 : C := (.seq (.ops true [oP 78 (.fa 6 (.t 9)), oA 79 (.ld 1 false (.t 78)) [0], oP 80 (.fa 3 (.t 9)), oA 81 (.ld 1 false (.t 80)) [2], oM 82 0, oE 83 (.call 25 [(.t 82), (cI (-5)), (cI 30)]) [4], oM 84 10, oA 85 (.bld [(.v (.int .i64 0)), (.v (.int .i64 0)), (.v (.int .i64 0))] [(0, (1, (.t 81))), (1, (1, (.t 83))), (2, (1, (.t 84)))]) [4, 2, 6, 5, 3],
 oA 86 (.bsl 3 1 [(.v (.int .i64 0)), (.v (.int .i64 0)), (.v (.int .i64 0))] [(0, (.t 85))]) [3, 5, 6, 2, 4, 7], oA 87 (.app 3 24 (.t 79) (.t 86)) [7, 4, 2, 6, 3, 0, 5, 8, 1], oA 88 (.fa 6 (.t 9)) [9, 8, 7, 6, 5, 4, 3, 2, 1, 0], oT (.st 1 (.t 88) (.t 87)) [8, 7, 6, 5, 4, 3, 2, 1, 0, 9, 10]]) (.seq (.ops false [oP 89 (.ld 7 true (.t 9)), oS (.st 7 (.t 8) (.t 89))]) .ret))
def c89_5 : C := (.seq (.ops false [oM 17 1, oB 18 (.call 65 [(.c (.v (.string ({ data := #[103] })))), (.t 17)]), oM 19 2, oM 20 3, oM 21 0, oP 22 (.bsl 1 7 [(.v (.int .i64 0))] [(0, (cI 1)), (1, (cI 2)), (2, (cI 7)), (3, (cI 20)), (4, (cI 60)), (5, (cI 200)), (6, (cI 1000))]), oB 23 (.call 66 [(.t 21), (.t 22)]), oM 24 0, oP 25 (.bsl 1 4 [(.v (.int .i64 0))]
 [(0, (cI 0)), (1, (cI 1)), (2, (cI 5)), (3, (cI 1000))]), oB 26 (.call 66 [(.t 24), (.t 25)]), oM 27 0, oP 28 (.bsl 1 4 [(.v (.int .i64 0))] [(0, (cI 0)), (1, (cI 50)), (2, (cI 1000)), (3, (cI 100000))]), oB 29 (.call 66 [(.t 27), (.t 28)]), oP 30 (.bld [(.v (.string ({ data := #[] }))), (.v (.int .i64 0)), (.v (.int .i64 0)), (.v (.int .i64 0)), (.v (.int .i64 0)), (.v (.int .i64 0)),
 .mt] [(0, (1, (.t 18))), (1, (1, (.t 19))), (2, (1, (.t 20))), (3, (1, (.t 23))), (4, (1, (.t 26))), (5, (1, (.t 29)))]), oP 9 (.new [(.v (.string ({ data := #[] }))), (.v (.int .i64 0)), (.v (.int .i64 0)), (.v (.int .i64 0)), (.v (.int .i64 0)), (.v (.int .i64 0)), .mt]), oS (.st 7 (.t 9) (.t 30))]) (.seq (.ops false [oM 31 0, oP 32 (.bsl 1 3 [(.v (.int .i64 0))] [(0, (cI 1000000)),
 (1, (cI 6000000)), (2, (cI 100000000))]), oB 33 (.call 66 [(.t 31), (.t 32)]), oM 10 33]) (.seq (.ops true [oP 34 (.fa 6 (.t 9)), oA 35 (.ld 1 false (.t 34)) [0], oM 36 0, oE 37 (.call 25 [(.t 36), (cI (-5)), (cI 30)]) [2], oM 38 10, oA 39 (.bld [(.v (.int .i64 0)), (.v (.int .i64 0)), (.v (.int .i64 0))] [(1, (1, (.t 37))), (2, (1, (.t 38)))]) [2, 4, 3],
 oA 40 (.bsl 3 1 [(.v (.int .i64 0)), (.v (.int .i64 0)), (.v (.int .i64 0))] [(0, (.t 39))]) [3, 4, 2, 5], oA 41 (.app 3 24 (.t 35) (.t 40)) [5, 2, 4, 0, 3, 6, 1], oA 42 (.fa 6 (.t 9)) [7, 6, 5, 4, 3, 2, 1, 0], oT (.st 1 (.t 42) (.t 41)) [6, 5, 4, 3, 2, 1, 0, 7, 8]]) (.seq (.seq (.ops false [oP 11 (.mv (cI 0))]) (.block 0 (.loop c89_3))) c89_4))))
def c89 : C := (.seq (.ops false [oP 8 (.new [(.v (.string ({ data := #[] }))), (.v (.int .i64 0)), (.v (.int .i64 0)), (.v (.int .i64 0)), (.v (.int .i64 0)), (.v (.int .i64 0)), .mt])]) (.seq (.seq (.ops false [oM 12 0, oB 13 (.call 13 [(.t 12), (cI 4)]), oP 14 (.bin .eql (.t 13) (cI 0))]) (.cond (.t 14) (.ops false [oM 15 3, oM 16 2, oM 2 15, oM 3 16])
 .skip)) (.weak c89_5)))
def r89 : List RV := [(.cell 8 7 true)]
theorem c89_ok : ∃ code, Try.f89.body = some code ∧ compC Try.prog Try.f89.ntmps code = some (C.strip c89) := ⟨_, rfl, by kernel_rfl⟩
theorem r89_ok : compRes Try.prog Try.f89.results.toList = some r89 := by kernel_rfl
theorem f89_ok : fnOk Try.prog 89 = true := by kernel_rfl
def c94 : C := (.seq (.ops false [oP 4 (.mv (.c (.v (.string ({ data := #[] })))))]) (.seq (.ops false [oM 5 1, oM 6 0, oM 7 1, oP 8 (.len (.t 7)), oB 9 (.call 13 [(.t 6), (.t 8)]), oP 10 (.iaS 1 (.t 5) (.t 9)), oP 11 (.ld 1 false (.t 10)), oM 4 11]) .ret))
def r94 : List RV := [(.tmp 4)]
theorem c94_ok : ∃ code, Try.f94.body = some code ∧ compC Try.prog Try.f94.ntmps code = some (C.strip c94) := ⟨_, rfl, by kernel_rfl⟩
theorem r94_ok : compRes Try.prog Try.f94.results.toList = some r94 := by kernel_rfl
theorem f94_ok : fnOk Try.prog 94 = true := by kernel_rfl
def modI (x n : Int) : Int := if n < 1 then 0 else if x.tmod n < 0 then x.tmod n + n else x.tmod n
theorem modI_in (x n : Int) : 0 ≤ modI x n ∧ (1 ≤ n → modI x n < n) ∧ (n < 1 → modI x n = 0) := by
 unfold modI
 split
 ·exact ⟨by omega, fun h => by omega, fun _ => rfl⟩
 ·have h1 := Int.lt_tmod_of_pos x (b := n) (by omega)
  have h2 := Int.tmod_lt_of_pos x (b := n) (by omega)
  split <;> exact ⟨by omega, fun _ => by omega, fun h => by omega⟩
set_option maxHeartbeats 2000000 in
theorem Mod_c (x n : Int) (hn : InI n) (nn : Nm) : CallsA Try.prog 69 [di x, di n] Hp.none nn (Pu (di (modI x n)) Hp.none) := by
 obtain ⟨code, h1, h2⟩ := c69_ok
 refine callsA_of (T0_ok _) mixed (N := fun t => (0, t)) Try.func69 h1 h2 r69_ok [] false js_nil js_nil' (by simp [Try.f69]) ?_
 have hi := modI_in x n
 by_cases hb : n < 1
 ·simp (maxSteps:=500000) only [↓vp, vv, ↓reduceIte, simprocAttr, c69, r69, c69_1, c69_2, hb, Pu, modI, decide_true]
 ·have h0 : n ≠ 0 := by omega
  have h2 := Int.lt_tmod_of_pos x (b := n) (by omega)
  have h3 := Int.tmod_lt_of_pos x (b := n) (by omega)
  by_cases hr : x.tmod n < 0
  ·have hw : IntKind.i64.wrap (x.tmod n + n) = x.tmod n + n := wrap_i (by omega)
   simp (maxSteps:=500000) only [↓vp, vv, ↓reduceIte, simprocAttr, c69, r69, c69_1, c69_2, hb, hr, hw, Pu, modI, decide_true, decide_false, ne_eq, h0, not_false_eq_true]
  ·simp (maxSteps:=500000) only [↓vp, vv, ↓reduceIte, simprocAttr, c69, r69, c69_1, c69_2, hb, hr, Pu, modI, decide_true, decide_false, ne_eq, h0, not_false_eq_true]
set_option maxHeartbeats 4000000 in
theorem Raw_c : SrcC Try.prog 70 [] InI di := by
 intro i L at' nn ho
 obtain ⟨code, h1, h2⟩ := c70_ok
 refine callsA_of (T0_ok _) mixed (N := fun t => (i.1 + 1, t)) Try.func70 h1 h2 r70_ok [i] false js_one js_one' (by simp [Try.f70]) ?_
 obtain ⟨ns, hL, hns⟩ := ho.ints
 have hlo := ho.lo
 have hhi := ho.hi
 have hlen := ho.len
 by_cases hb : (L.length : Int) ≤ at'
 ·simp (maxSteps:=500000) only [↓vp, vv, ↓reduceIte, simprocAttr, c70, r70, c70_1, hb, decide_true]
  exact ⟨at', 0, ho, by decide, rfl, rfl⟩
 ·have hw : IntKind.i64.wrap (at' + 1) = at' + 1 := wrap_i (by omega)
  have hw2 : IntKind.i64.wrap (at' + 1 - 1) = at' := by rw [Int.add_sub_cancel]; exact wrap_i (by omega)
  obtain ⟨k, rfl⟩ : ∃ k : Nat, at' = k := ⟨at'.toNat, by omega⟩
  have hk : k < ns.length := by rw [hL, List.length_map] at hb; omega
  have hg : L.getD k [] = [di ns[k]] := by rw [hL, List.getD_eq_getElem?_getD, List.getElem?_map, List.getElem?_eq_getElem hk]; rfl
  have h0 : (0 : Int) ≤ k := by omega
  have hkL : (k : Int) < L.length := by omega
  simp (maxSteps:=500000) only [↓vp, vv, ↓reduceIte, simprocAttr, c70, r70, c70_1, hb, hw, hw2, decide_true, decide_false, hg, Int.toNat_natCast, h0, hkL]
  exact ⟨k + 1, ns[k], ⟨by omega, by omega, hlen, ns, hL, hns⟩, hns _ (List.getElem_mem hk), rfl, rfl⟩
def sel0 {α : Type} (post : α → Prop) : List D → Option (Prop × (α → Prop))
 | [] => some (True, post)
 | _ => Option.none
def selMod : List D → Option (Prop × D)
 | [.v (.int .i64 x), .v (.int .i64 n)] => some (InI n, di (modI x n))
 | _ => Option.none
def TN : Tbl := tc 70 (rowSrc (sel0 InI) di) (tc 69 (rowPu selMod) T0)
theorem TN_ok : TblOk Try.prog TN := by
 refine tc_src f70_ok (fun args pre post h hp => ?_) (tc_pu f69_ok (fun args pre d h hp nn => ?_) (T0_ok _))
 ·unfold sel0 at h
  split at h <;> cases h
  exact ⟨⟨0, by omega⟩, Raw_c⟩
 ·unfold selMod at h
  split at h <;> cases h
  exact Mod_c _ _ hp nn
def NPost (n x : Int) : Prop := 0 ≤ x ∧ (1 ≤ n → x < n) ∧ (n < 1 → x = 0)
set_option maxHeartbeats 4000000 in
theorem N_c (n : Int) (hn : InI n) : SrcC Try.prog 13 [di n] (NPost n) di := by
 intro i L at' nn ho
 obtain ⟨code, h1, h2⟩ := c13_ok
 refine callsA_of TN_ok mixed (N := fun t => (i.1 + 1, t)) Try.func13 h1 h2 r13_ok [i] false js_one js_one' (by simp [Try.f13]) ?_
 simp (maxSteps:=500000) only [↓vp, vv, ↓reduceIte, simprocAttr, c13, r13, TN, sel0, selMod, ho]
 exact fun ⟨at2, ho2⟩ x hx => ⟨hn, at2, _, ho2, modI_in x n, rfl, rfl⟩
def selI {α : Type} (ok : Int → Prop) (post : Int → α → Prop) : List D → Option (Prop × (α → Prop))
 | [.v (.int .i64 n)] => some (ok n, post n)
 | _ => Option.none
def T1 : Tbl := tc 13 (rowSrc (selI InI NPost) di) T0
theorem T1_ok : TblOk Try.prog T1 := by
 refine tc_src f13_ok (fun args pre post h hp => ?_) (T0_ok _)
 unfold selI at h
 split at h <;> cases h
 exact ⟨⟨_, modI_in 0 _⟩, N_c _ hp⟩
def IsMem {α : Type} (l : List α) (x : α) : Prop := x ∈ l
theorem getD_map {α : Type} (g : α → List D) (l : List α) (k : Nat) (h : k < l.length) : (l.map g).getD k [] = g l[k] := by
 rw [List.getD_eq_getElem?_getD, List.getElem?_map, List.getElem?_eq_getElem h]; rfl
set_option maxHeartbeats 4000000 in
theorem Pick_c (ns : List Int) (h0 : ns ≠ []) (hl : ns.length ≤ 2000) : SrcC Try.prog 66 [.sl (ns.map fun n => [di n])] (IsMem ns) di := by
 intro i L at' nn ho
 obtain ⟨code, h1, h2⟩ := c66_ok
 refine callsA_of T1_ok mixed (N := fun t => (i.1 + 1, t)) Try.func66 h1 h2 r66_ok [i] false js_one js_one' (by simp [Try.f66]) ?_
 have hn : InI ns.length := by omega
 have h1 : 1 ≤ ns.length := by cases ns with | nil => exact absurd rfl h0 | cons => simp
 simp (maxSteps:=500000) only [↓vp, vv, ↓reduceIte, simprocAttr, c66, r66, T1, selI, ho, List.length_map]
 refine ⟨hn, fun ⟨at2, ho2⟩ x ⟨hx0, hx1, _⟩ => ?_⟩
 have hx := hx1 (by omega)
 have hk : x.toNat < ns.length := by omega
 rw [getD_map _ ns x.toNat hk]
 simp (maxSteps:=500000) only [↓vp, vv, ↓reduceIte, simprocAttr, hx, hx0]
 exact ⟨at2, _, ho2, List.getElem_mem hk, rfl, rfl⟩
set_option maxHeartbeats 4000000 in
theorem Text_c (ns : List ByteArray) (h0 : ns ≠ []) (hl : ns.length ≤ 2000) : SrcC Try.prog 94 [.sl (ns.map fun n => [ds n])] (IsMem ns) ds := by
 intro i L at' nn ho
 obtain ⟨code, h1, h2⟩ := c94_ok
 refine callsA_of T1_ok mixed (N := fun t => (i.1 + 1, t)) Try.func94 h1 h2 r94_ok [i] false js_one js_one' (by simp [Try.f94]) ?_
 have hn : InI ns.length := by omega
 have h1 : 1 ≤ ns.length := by cases ns with | nil => exact absurd rfl h0 | cons => simp
 simp (maxSteps:=500000) only [↓vp, vv, ↓reduceIte, simprocAttr, c94, r94, T1, selI, ho, List.length_map]
 refine ⟨hn, fun ⟨at2, ho2⟩ x ⟨hx0, hx1, _⟩ => ?_⟩
 have hx := hx1 (by omega)
 have hk : x.toNat < ns.length := by omega
 rw [getD_map _ ns x.toNat hk]
 simp (maxSteps:=500000) only [↓vp, vv, ↓reduceIte, simprocAttr, hx, hx0]
 exact ⟨at2, _, ho2, List.getElem_mem hk, rfl, rfl⟩
def RPost (a b x : Int) : Prop := a ≤ x ∧ (a ≤ b → x ≤ b) ∧ (b < a → x = a)
set_option maxHeartbeats 4000000 in
theorem Range_c (a b : Int) (ha : InI a) (hb : InI b) (hd : b - a < 9223372036854775807) (hd' : -9223372036854775808 ≤ b - a) : SrcC Try.prog 25 [di a, di b] (RPost a b) di := by
 intro i L at' nn ho
 obtain ⟨code, h1, h2⟩ := c25_ok
 refine callsA_of T1_ok mixed (N := fun t => (i.1 + 1, t)) Try.func25 h1 h2 r25_ok [i] false js_one js_one' (by simp [Try.f25]) ?_
 have w1 : IntKind.i64.wrap (b - a) = b - a := wrap_i (by omega)
 have w2 : IntKind.i64.wrap (b - a + 1) = b - a + 1 := wrap_i (by omega)
 have hn : InI (b - a + 1) := by omega
 simp (maxSteps:=500000) only [↓vp, vv, ↓reduceIte, simprocAttr, c25, r25, T1, selI, ho, w1, w2]
 refine ⟨hn, fun ⟨at2, ho2⟩ x ⟨hx0, hx1, hx2⟩ => ?_⟩
 have w3 : IntKind.i64.wrap (a + x) = a + x := wrap_i (by omega)
 try rw [w3]
 exact ⟨at2, _, ho2, ⟨by omega, by omega, by omega⟩, rfl, rfl⟩
def nm1B (f : ByteArray) (n : Int) : ByteArray := f ++ strOf [IntKind.u8.wrap (IntKind.i64.wrap (97 + n.tmod 26))]
set_option maxHeartbeats 4000000 in
theorem name_c (f : ByteArray) (n : Int) (hf : f.size ≤ 1000) (nn : Nm) : CallsA Try.prog 65 [ds f, di n] Hp.none nn (Pu (ds (nm1B f n)) Hp.none) := by
 obtain ⟨code, h1, h2⟩ := c65_ok
 refine callsA_of (T0_ok _) mixed (N := fun t => (0, t)) Try.func65 h1 h2 r65_ok [] false js_nil js_nil' (by simp [Try.f65]) ?_
 simp (maxSteps:=500000) only [↓vp, vv, ↓reduceIte, simprocAttr, c65, r65, bytesD, Pu, nm1B]
 have : (strOf [IntKind.u8.wrap (IntKind.i64.wrap (97 + n.tmod 26))]).size = 1 := by simp [strOf]
 first | exact ⟨by decide, by omega⟩ | omega
theorem js_nn {nn : Nm} : ∀ (j : Nm) (x : En), Hp.none j = some x → j ∈ [nn] := fun j x h => by cases h
theorem js_nn' {nn : Nm} {Hs : Hp} : ∀ j ∈ [nn], (Hs j).isSome = true ∨ j = nn := fun j h => .inr (List.mem_singleton.1 h)
set_option maxHeartbeats 4000000 in
theorem New_c (L : List (List D)) (nn : Nm) : CallsA Try.prog 8 [.sl L] Hp.none nn (Pu (.ptr nn 0 0 0) (Hp.none.put nn (sE (L.take 2000) 0))) := by
 obtain ⟨code, h1, h2⟩ := c8_ok
 refine callsA_of (T0_ok _) mixed (N := fun _ => nn) Try.func8 h1 h2 r8_ok [nn] true js_nn js_nn' (by simp [Try.f8]) ?_
 simp (maxSteps:=500000) only [↓vp, vv, ↓reduceIte, simprocAttr, c8, r8]
 by_cases hb : (2000 : Int) < L.length
 ·simp only [if_pos hb]
  (repeat' apply And.intro) <;> first | omega | rfl
 ·simp only [if_neg hb]
  have e : ∀ k, L.length ≤ k → List.take k L = List.take 2000 L := fun k hk => by
   rw [List.take_of_length_le hk, List.take_of_length_le (by omega)]
  (repeat' apply And.intro) <;> first | omega | rfl | (rw [e _ (by omega)])
structure Pt where
 at' : Int
 height : Int
 limit : Int
def Pt.row (p : Pt) : List D := [di p.at', di p.height, di p.limit]
structure Seg where
 name : ByteArray
 fr : Int
 to : Int
 cap : Int
 resist : Int
 wave : Int
 points : List Pt
def Seg.row (s : Seg) : List D := [ds s.name, di s.fr, di s.to, di s.cap, di s.resist, di s.wave, .sl (s.points.map Pt.row)]
def Seg.enc (s : Seg) : D := .agg s.row
def selPick : List D → Option (Prop × (Int → Prop))
 | [.sl rows] => match intsOf rows with
  | some ns => some (ns ≠ [] ∧ ns.length ≤ 2000, IsMem ns)
  | Option.none => Option.none
 | _ => Option.none
def selText : List D → Option (Prop × (ByteArray → Prop))
 | [.sl rows] => match strsOf rows with
  | some ns => some (ns ≠ [] ∧ ns.length ≤ 2000, IsMem ns)
  | Option.none => Option.none
 | _ => Option.none
def selRange : List D → Option (Prop × (Int → Prop))
 | [.v (.int .i64 a), .v (.int .i64 b)] => some ((InI a ∧ InI b) ∧ b - a < 9223372036854775807 ∧ -9223372036854775808 ≤ b - a, RPost a b)
 | _ => Option.none
def selName : List D → Option (Prop × D)
 | [.v (.string f), .v (.int .i64 n)] => some (f.size ≤ 1000, ds (nm1B f n))
 | _ => Option.none
def T2 : Tbl := tc 66 (rowSrc selPick di) (tc 94 (rowSrc selText ds) (tc 25 (rowSrc selRange di) (tc 65 (rowPu selName) T1)))
theorem T2_ok : TblOk Try.prog T2 := by
 refine tc_src f66_ok (fun args pre post h hp => ?_) (tc_src f94_ok (fun args pre post h hp => ?_) (tc_src f25_ok (fun args pre post h hp => ?_) (tc_pu f65_ok (fun args pre d h hp nn => ?_) T1_ok)))
 ·unfold selPick at h
  split at h
  ·split at h
   ·rename_i ns hns
    cases h
    obtain ⟨h0, hl⟩ := hp
    rw [intsOf_eq hns]
    refine ⟨?_, Pick_c _ h0 hl⟩
    cases ns with
    | nil => exact absurd rfl h0
    | cons n ns => exact ⟨n, List.mem_cons_self ..⟩
   ·cases h
  ·cases h
 ·unfold selText at h
  split at h
  ·split at h
   ·rename_i ns hns
    cases h
    obtain ⟨h0, hl⟩ := hp
    rw [strsOf_eq hns]
    refine ⟨?_, Text_c _ h0 hl⟩
    cases ns with
    | nil => exact absurd rfl h0
    | cons n ns => exact ⟨n, List.mem_cons_self ..⟩
   ·cases h
  ·cases h
 ·unfold selRange at h
  split at h <;> cases h
  obtain ⟨⟨h1, h2⟩, h3, h4⟩ := hp
  exact ⟨⟨_, Int.le_refl _, fun h => h, fun _ => rfl⟩, Range_c _ _ h1 h2 h3 h4⟩
 ·unfold selName at h
  split at h <;> cases h
  exact name_c _ _ hp nn
theorem sz1 (b : UInt8) : ByteArray.size { data := #[b] } = 1 := rfl
def SegHp (i : Nm) (L : List (List D)) (at' : Int) (nm : ByteArray) (a b cap res wav : Int) (g : Nat) (pts : List Pt) : Hp :=
 (((Hp.none.put (i.1 + 1, 41) ⟨g, 3, pts.map Pt.row⟩).put (i.1 + 1, 9) ⟨0, 7, [[ds nm, di a, di b, di cap, di res, di wav, .own (i.1 + 1, 41) g 0 pts.length]]⟩).put (i.1 + 1, 8) ⟨0, 7, [[ds ⟨#[]⟩, di 0, di 0, di 0, di 0, di 0, .mt]]⟩).put i (sE L at')
def SegFr (i : Nm) (lim atv : Int) : List (Nat × D) := [(0, .ptr i 0 0 0), (8, .ptr (i.1 + 1, 8) 0 0 0), (9, .ptr (i.1 + 1, 9) 0 0 0), (10, di lim), (11, di atv)]
structure PtsOk (cap lim atv : Int) (pts : List Pt) : Prop where
 asc : pts.Pairwise (fun a b => a.at' < b.at')
 le : ∀ p ∈ pts, p.at' ≤ atv ∧ -500 ≤ p.height ∧ p.height ≤ 5000 ∧ 0 ≤ p.limit ∧ p.limit ≤ 100000000
 hd : pts.head?.map (·.at') = some 0
 lo : 0 ≤ atv
 hi : atv < cap
theorem PtsOk.more {cap lim atv : Int} {pts : List Pt} (h : PtsOk cap lim atv pts) (x : Int) (hx : atv < x) (hc : x < cap) (z l : Int) (hz : -500 ≤ z ∧ z ≤ 5000) (hl : 0 ≤ l ∧ l ≤ 100000000) : PtsOk cap lim x (pts ++ [⟨x, z, l⟩]) := by
 refine ⟨List.pairwise_append.2 ⟨h.asc, List.pairwise_singleton _ _, fun a ha b hb => ?_⟩, fun p hp => ?_, ?_, by have := h.lo; omega, hc⟩
 ·rw [List.mem_singleton.1 hb]
  have := (h.le a ha).1
  dsimp only; omega
 ·rcases List.mem_append.1 hp with hp | hp
  ·have := h.le p hp; omega
  ·rw [List.mem_singleton.1 hp]
   dsimp only; omega
 ·cases pts with
  | nil => have := h.hd; cases this
  | cons p ps => exact h.hd
structure PtsEnd (cap : Int) (pts : List Pt) : Prop where
 asc : pts.Pairwise (fun a b => a.at' < b.at')
 le : ∀ p ∈ pts, -500 ≤ p.height ∧ p.height ≤ 5000 ∧ 0 ≤ p.limit ∧ p.limit ≤ 100000000
 hd : pts.head?.map (·.at') = some 0
 last : pts.getLast?.map (·.at') = some cap
theorem PtsOk.fin {cap lim atv : Int} {pts : List Pt} (h : PtsOk cap lim atv pts) (z l : Int) (hz : -500 ≤ z ∧ z ≤ 5000) (hl : 0 ≤ l ∧ l ≤ 100000000) : PtsEnd cap (pts ++ [⟨cap, z, l⟩]) := by
 refine ⟨List.pairwise_append.2 ⟨h.asc, List.pairwise_singleton _ _, fun a ha b hb => ?_⟩, fun p hp => ?_, ?_, by simp⟩
 ·rw [List.mem_singleton.1 hb]
  have := (h.le a ha).1
  have := h.hi
  dsimp only; omega
 ·rcases List.mem_append.1 hp with hp | hp
  ·have := h.le p hp; omega
  ·rw [List.mem_singleton.1 hp]
   dsimp only; omega
 ·cases pts with
  | nil => have := h.hd; cases this
  | cons p ps => exact h.hd
structure SegOk (k fr to : Int) (s : Seg) : Prop where
 name : s.name = nm1B ⟨#[103]⟩ k
 ends : s.fr = fr ∧ s.to = to ∨ s.fr = to ∧ s.to = fr
 cap : 1 ≤ s.cap ∧ s.cap ≤ 1000
 res : 0 ≤ s.resist ∧ s.resist ≤ 1000
 wav : 0 ≤ s.wave ∧ s.wave ≤ 100000
 len : 2 ≤ s.points.length ∧ s.points.length ≤ 8
 pts : PtsEnd s.cap s.points
def SegI (i : Nm) (L : List (List D)) (nm : ByteArray) (a b cap res wav lim : Int) : Nat → St → Prop := fun k s => ∃ at' atv g pts, SrcOk L at' ∧ PtsOk cap lim atv pts ∧ k + pts.length = 7 ∧ 1 ≤ pts.length ∧ s = ⟨fr (SegFr i lim atv), SegHp i L at' nm a b cap res wav g pts⟩
theorem seg_fin (i : Nm) (L : List (List D)) (at' : Int) (ho : SrcOk L at') (k a b f t : Int) (he : f = a ∧ t = b ∨ f = b ∧ t = a) (cap res wav lim atv : Int) (hcap : 1 ≤ cap ∧ cap ≤ 1000) (hres : 0 ≤ res ∧ res ≤ 1000) (hwav : 0 ≤ wav ∧ wav ≤ 100000) (hlim : 0 ≤ lim ∧ lim ≤ 100000000)
  (pts : List Pt) (hp : PtsOk cap lim atv pts) (h1 : 1 ≤ pts.length ∧ pts.length ≤ 7) (z : Int) (hz : RPost (-5) 30 z) : SrcR i L (SegOk k a b) Seg.enc (D.agg [ds (nm1B ⟨#[103]⟩ k), di f, di t, di cap, di res, di wav, D.sl (List.map Pt.row pts ++ [[D.v (.int .i64 cap), D.v (.int .i64 z), D.v (.int .i64 lim)]])]) (Hp.none.put i ⟨0, 2, [[.sl L, di at']]⟩) := by
 unfold RPost at hz
 refine ⟨at', ⟨nm1B ⟨#[103]⟩ k, f, t, cap, res, wav, pts ++ [⟨cap, z, lim⟩]⟩, ho, ⟨rfl, he, hcap, hres, hwav, ?_, hp.fin z lim ?_ hlim⟩, ?_, rfl⟩
 ·simp; omega
 ·omega
 ·simp [Seg.enc, Seg.row, Pt.row]
set_option maxHeartbeats 4000000 in
theorem Seg_a (i : Nm) (L : List (List D)) (at' : Int) (ho : SrcOk L at') (k a b f t : Int) (he : f = a ∧ t = b ∨ f = b ∧ t = a) (F : Fr) (h0 : F 0 = .ptr i 0 0 0) (h1 : F 1 = di k) (h2 : F 2 = di f) (h3 : F 3 = di t) (h8 : F 8 = .ptr (i.1 + 1, 8) 0 0 0) :
  vc T2 (fun t => (i.1 + 1, t)) [i] c89_5 (finQ r89 [i] false (SrcR i L (SegOk k a b) Seg.enc)) ⟨F, (Hp.none.put i (sE L at')).put (i.1 + 1, 8) ⟨0, 7, [[ds ⟨#[]⟩, di 0, di 0, di 0, di 0, di 0, .mt]]⟩⟩ := by
 simp (maxSteps:=500000) only [↓vp, vv, ↓reduceIte, simprocAttr, c89_5, T2, T1, selI, selPick, selRange, selName, ho, h0, h1, h2, h3, h8, sz1]
 rintro ⟨at1, o1⟩ cap hcap ⟨at2, o2⟩ res hres ⟨at3, o3⟩ wav hwav ⟨at4, o4⟩ lim hlim ⟨at5, o5⟩ z hz
 simp [IsMem] at hcap hres hwav hlim
 have hcap' : 1 ≤ cap ∧ cap ≤ 1000 := by omega
 have hlim' : 0 ≤ lim ∧ lim ≤ 100000000 := by omega
 have hres' : 0 ≤ res ∧ res ≤ 1000 := by omega
 have hwav' : 0 ≤ wav ∧ wav ≤ 100000 := by omega
 unfold RPost at hz
 rw [vc_loop]
 refine ⟨SegI i L (nm1B ⟨#[103]⟩ k) f t cap res wav lim, ⟨6, _, (weak_eqA [] [i, (i.1 + 1, 8), (i.1 + 1, 9), (i.1 + 1, 41)] (SegFr i lim 0) (by refine ⟨?_, ?_, ?_, by simp, ?_⟩ <;> (simp only [↓vp, vv, ↓reduceIte, simprocAttr, coverS, refsF, SegFr, h0, h8] <;> try rfl))), ⟨at5, 0, 0, [⟨0, z, lim⟩], o5, ⟨List.pairwise_singleton _ _, by simp; omega, rfl, by omega, by omega⟩, rfl, by simp, rfl⟩⟩, ?_⟩
 rintro m s ⟨at6, atv, g, pts, o6, hp, hk, hk1, rfl⟩
 have hpl := hp.lo
 have hph := hp.hi
 by_cases hlt : (pts.length : Int) < 7
 ·simp (maxSteps:=500000) only [↓vp, vv, ↓reduceIte, simprocAttr, c89, r89, c89_1, c89_2, c89_3, c89_4, c89_5, T2, T1, selI, selPick, selRange, selName, o6, SegHp, SegFr, hlt, Pt.row]
  rintro ⟨at7, o7⟩ x hx
  split
  ·rintro ⟨at8, o8⟩ y hy
   unfold RPost at hy
   have w1 : IntKind.i64.wrap (atv + y) = atv + y := wrap_i (by omega)
   rw [w1]
   split
   ·rintro ⟨at9, o9⟩ z' hz'
    exact ⟨⟨by omega, by omega⟩, seg_fin i L at9 o9 k a b f t he cap res wav lim atv hcap' hres' hwav' hlim' pts hp (by omega) z' hz'⟩
   ·rintro ⟨at9, o9⟩ u hu ⟨at10, o10⟩ v hv ⟨at11, o11⟩ q hq
    unfold RPost at hu
    simp [IsMem] at hv
    unfold NPost at hq
    have w2 : IntKind.i64.wrap (u * v) = u * v := wrap_i (by rcases hv with rfl | rfl | rfl <;> omega)
    have w3 : IntKind.i64.wrap (q * 1000) = q * 1000 := wrap_i (by omega)
    have w4 : IntKind.i64.wrap (lim - q * 1000) = lim - q * 1000 := wrap_i (by omega)
    simp only [w2, w3, w4]
    refine ⟨⟨by omega, by omega⟩, m - 1, _, by omega, (weak_eqA [] [i, (i.1 + 1, 8), (i.1 + 1, 9), (i.1 + 1, 41)] (SegFr i lim (atv + y)) (by refine ⟨?_, ?_, ?_, by simp, ?_⟩ <;> (simp only [↓vp, vv, ↓reduceIte, simprocAttr, coverS, refsF, SegFr, Pt.row] <;> try rfl))), at11, atv + y, g + 1, pts ++ [⟨atv + y, u * v, lim - q * 1000⟩], o11, hp.more (atv + y) (by omega) (by omega) _ _ (by rcases hv with rfl | rfl | rfl <;> omega) (by omega), by simp; omega, by simp, ?_⟩
    simp [SegHp, Pt.row, sE]
  ·rintro ⟨at9, o9⟩ z' hz'
   exact ⟨⟨by omega, by omega⟩, seg_fin i L at9 o9 k a b f t he cap res wav lim atv hcap' hres' hwav' hlim' pts hp (by omega) z' hz'⟩
 ·simp (maxSteps:=500000) only [↓vp, vv, ↓reduceIte, simprocAttr, c89, r89, c89_1, c89_2, c89_3, c89_4, c89_5, T2, T1, selI, selPick, selRange, selName, o6, SegHp, SegFr, hlt, Pt.row]
  rintro ⟨at9, o9⟩ z' hz'
  exact ⟨⟨by omega, by omega⟩, seg_fin i L at9 o9 k a b f t he cap res wav lim atv hcap' hres' hwav' hlim' pts hp (by omega) z' hz'⟩
theorem Seg_b (i : Nm) (L : List (List D)) (at' : Int) (ho : SrcOk L at') (k a b f t : Int) (he : f = a ∧ t = b ∨ f = b ∧ t = a) :
  vc T2 (fun t => (i.1 + 1, t)) [i] c89_5 (finQ r89 [i] false (SrcR i L (SegOk k a b) Seg.enc)) ⟨fr [(0, .ptr i 0 0 0), (1, di k), (2, di f), (3, di t), (8, .ptr (i.1 + 1, 8) 0 0 0)], (Hp.none.put (i.1 + 1, 8) ⟨0, 7, [[ds ⟨#[]⟩, di 0, di 0, di 0, di 0, di 0, .mt]]⟩).put i (sE L at')⟩ := by
 rw [show (Hp.none.put (i.1 + 1, 8) ⟨0, 7, [[ds ⟨#[]⟩, di 0, di 0, di 0, di 0, di 0, .mt]]⟩).put i (sE L at') = (Hp.none.put i (sE L at')).put (i.1 + 1, 8) ⟨0, 7, [[ds ⟨#[]⟩, di 0, di 0, di 0, di 0, di 0, .mt]]⟩ from by
  funext j
  simp only [hput_at]
  split
  ·rename_i h; subst h; simp only [nm1, if_false]
  ·rfl]
 exact Seg_a i L at' ho k a b f t he _ rfl rfl rfl rfl rfl
set_option maxHeartbeats 4000000 in
theorem Segment_c (k a b : Int) (hk : InI k) : SrcC Try.prog 89 [di k, di a, di b] (SegOk k a b) Seg.enc := by
 intro i L at' nn ho
 obtain ⟨code, h1, h2⟩ := c89_ok
 refine callsA_of T2_ok mixed (N := fun t => (i.1 + 1, t)) Try.func89 h1 h2 r89_ok [i] false js_one js_one' (by simp [Try.f89]) ?_
 simp (maxSteps:=500000) only [↓vp, vv, ↓reduceIte, simprocAttr, c89, T2, T1, selI, selPick, selRange, selName, ho]
 rintro ⟨at1, o1⟩ x hx
 split
 ·refine vc_wk (weak_eqA [] [i, (i.1 + 1, 8)] [(0, .ptr i 0 0 0), (1, di k), (2, di b), (3, di a), (8, .ptr (i.1 + 1, 8) 0 0 0)] (by refine ⟨?_, ?_, ?_, by simp, ?_⟩ <;> (simp only [↓vp, vv, ↓reduceIte, simprocAttr, coverS, refsF, Pt.row] <;> try rfl))) ?_
  exact Seg_b i L at1 o1 k a b b a (.inr ⟨rfl, rfl⟩)
 ·refine vc_wk (weak_eqA [] [i, (i.1 + 1, 8)] [(0, .ptr i 0 0 0), (1, di k), (2, di a), (3, di b), (8, .ptr (i.1 + 1, 8) 0 0 0)] (by refine ⟨?_, ?_, ?_, by simp, ?_⟩ <;> (simp only [↓vp, vv, ↓reduceIte, simprocAttr, coverS, refsF, Pt.row] <;> try rfl))) ?_
  exact Seg_b i L at1 o1 k a b a b (.inl ⟨rfl, rfl⟩)
structure Port where
 name : ByteArray
 node : Int
 press : Int
def Port.row (p : Port) : List D := [ds p.name, di p.node, di p.press]
structure Stn where
 name : ByteArray
 node : Int
 head : Int
 fall : Int
 suct : Int
def Stn.row (s : Stn) : List D := [ds s.name, di s.node, di s.head, di s.fall, di s.suct]
structure Net where
 nodes : List ByteArray
 segs : List Seg
 ports : List Port
 sts : List Stn
 vap : Int
 set : Int
def nmRow (s : ByteArray) : List D := [ds s]
def Net.enc (n : Net) : D := .agg [.sl (n.nodes.map nmRow), .sl (n.segs.map Seg.row), .sl (n.ports.map Port.row), .sl (n.sts.map Stn.row), di n.vap, di n.set]
def AllI {α : Type} (P : Nat → α → Prop) (l : List α) : Prop := ∀ j x, l[j]? = some x → P j x
theorem AllI.nil {α : Type} (P : Nat → α → Prop) : AllI P [] := fun j x h => by simp at h
theorem AllI.snoc {α : Type} {P : Nat → α → Prop} {l : List α} (h : AllI P l) {x : α} (hx : P l.length x) : AllI P (l ++ [x]) := fun j y hj => by
 rcases Nat.lt_trichotomy j l.length with h1 | h1 | h1
 ·rw [List.getElem?_append_left h1] at hj; exact h j y hj
 ·subst h1; simp at hj; subst hj; exact hx
 ·rw [List.getElem?_eq_none (by simp; omega)] at hj; cases hj
theorem AllI.imp {α : Type} {P Q : Nat → α → Prop} {l : List α} (h : AllI P l) (hq : ∀ j x, P j x → Q j x) : AllI Q l := fun j x hj => hq j x (h j x hj)
def NodeOk (j : Nat) (s : ByteArray) : Prop := s = nm1B ⟨#[110]⟩ j
def SegAt (last : Int) (j : Nat) (s : Seg) : Prop := ∃ a b, 0 ≤ a ∧ a < b ∧ b ≤ last ∧ SegOk j a b s ∧ ((j : Int) < last → a = j ∧ b = j + 1)
def PortAt (i : Int) (j : Nat) (p : Port) : Prop := p.name = nm1B ⟨#[113]⟩ j ∧ 0 ≤ p.node ∧ p.node < i ∧ 0 ≤ p.press ∧ p.press ≤ 100000000
def StnAt (i : Int) (j : Nat) (p : Stn) : Prop := p.name = nm1B ⟨#[115]⟩ j ∧ 0 ≤ p.node ∧ p.node < i ∧ 0 ≤ p.head ∧ p.head ≤ 100000000 ∧ 0 ≤ p.fall ∧ p.fall ≤ 100000 ∧ 0 ≤ p.suct ∧ p.suct ≤ 100000000
structure PortsOk (last i : Int) (l : List Port) : Prop where
 all : AllI (PortAt i) l
 asc : l.Pairwise (fun a b => a.node < b.node)
 hd : 0 < i → l.head?.map (·.node) = some 0
 last : last < i → l.getLast?.map (·.node) = some last
 len : (l.length : Int) ≤ i
structure StnsOk (i : Int) (l : List Stn) : Prop where
 all : AllI (StnAt i) l
 asc : l.Pairwise (fun a b => a.node < b.node)
 len : (l.length : Int) ≤ i
structure NetOk (n : Net) : Prop where
 nodes : AllI NodeOk n.nodes
 nlen : 2 ≤ n.nodes.length ∧ n.nodes.length ≤ 6
 segs : AllI (SegAt (n.nodes.length - 1)) n.segs
 slen : n.nodes.length - 1 ≤ n.segs.length ∧ n.segs.length ≤ n.nodes.length + 2
 ports : PortsOk (n.nodes.length - 1) n.nodes.length n.ports
 sts : StnsOk (n.nodes.length - 1) n.sts
 vap : -100000 ≤ n.vap ∧ n.vap ≤ 50000
 set : 0 ≤ n.set ∧ n.set ≤ 100
theorem pw_snoc {α : Type} {R : α → α → Prop} {l : List α} (h : l.Pairwise R) {x : α} (hx : ∀ a ∈ l, R a x) : (l ++ [x]).Pairwise R := List.pairwise_append.2 ⟨h, List.pairwise_singleton _ _, fun a ha b hb => by rw [List.mem_singleton.1 hb]; exact hx a ha⟩
theorem AllI.mem {α : Type} {P : Nat → α → Prop} {l : List α} (h : AllI P l) {x : α} (hx : x ∈ l) : ∃ j, P j x := by
 obtain ⟨j, hj⟩ := List.getElem?_of_mem hx
 exact ⟨j, h j x hj⟩
theorem PortsOk.add {last i : Int} {l : List Port} (h : PortsOk last i l) (h0 : 0 ≤ i) (hl : i ≤ last) (pr : Int) (hp : 0 ≤ pr ∧ pr ≤ 100000000) : PortsOk last (i + 1) (l ++ [⟨nm1B ⟨#[113]⟩ l.length, i, pr⟩]) := by
 refine ⟨(h.all.imp fun j x hx => ?_).snoc ?_, pw_snoc h.asc fun a ha => ?_, fun _ => ?_, fun hi => ?_, ?_⟩
 ·obtain ⟨a, b, c, d⟩ := hx; exact ⟨a, b, by omega, d⟩
 ·exact ⟨rfl, h0, by dsimp only; omega, hp⟩
 ·obtain ⟨j, hj⟩ := h.all.mem ha; exact hj.2.2.1
 ·cases l with
  | nil =>
   have : i = 0 := by
    rcases Int.lt_or_le 0 i with h1 | h1
    ·have := h.hd h1; cases this
    ·omega
   subst this; rfl
  | cons p ps =>
   have : 0 < i := by have := h.len; simp at this; omega
   exact h.hd this
 ·simp; omega
 ·have := h.len; simp; omega
theorem PortsOk.skip {last i : Int} {l : List Port} (h : PortsOk last i l) (h0 : 0 < i) (hl : i < last) : PortsOk last (i + 1) l :=
 ⟨h.all.imp fun j x hx => by obtain ⟨a, b, c, d⟩ := hx; exact ⟨a, b, by omega, d⟩, h.asc, fun _ => h.hd h0, fun hi => by omega, by have := h.len; omega⟩
theorem StnsOk.add {i : Int} {l : List Stn} (h : StnsOk i l) (h0 : 0 ≤ i) (hd fl su : Int) (h1 : 0 ≤ hd ∧ hd ≤ 100000000) (h2 : 0 ≤ fl ∧ fl ≤ 100000) (h3 : 0 ≤ su ∧ su ≤ 100000000) : StnsOk (i + 1) (l ++ [⟨nm1B ⟨#[115]⟩ l.length, i, hd, fl, su⟩]) := by
 refine ⟨(h.all.imp fun j x hx => ?_).snoc ?_, pw_snoc h.asc fun a ha => ?_, ?_⟩
 ·obtain ⟨a, b, c, d⟩ := hx; exact ⟨a, b, by omega, d⟩
 ·exact ⟨rfl, h0, by dsimp only; omega, h1.1, h1.2, h2.1, h2.2, h3⟩
 ·obtain ⟨j, hj⟩ := h.all.mem ha; exact hj.2.2.1
 ·have := h.len; simp; omega
theorem StnsOk.skip {i : Int} {l : List Stn} (h : StnsOk i l) : StnsOk (i + 1) l :=
 ⟨h.all.imp fun j x hx => by obtain ⟨a, b, c, d⟩ := hx; exact ⟨a, b, by omega, d⟩, h.asc, by have := h.len; omega⟩
def selSeg : List D → Option (Prop × (Seg → Prop))
 | [.v (.int .i64 k), .v (.int .i64 a), .v (.int .i64 b)] => some (InI k, SegOk k a b)
 | _ => Option.none
def T3 : Tbl := tc 89 (rowSrc selSeg Seg.enc) T2
theorem segOk_ex (k a b : Int) : SegOk k a b ⟨nm1B ⟨#[103]⟩ k, a, b, 1, 0, 0, [⟨0, 0, 0⟩, ⟨1, 0, 0⟩]⟩ :=
 ⟨rfl, (.inl ⟨rfl, rfl⟩), by simp, by simp, by simp, by simp, ⟨by simp, by simp, rfl, rfl⟩⟩
theorem T3_ok : TblOk Try.prog T3 := by
 refine tc_src f89_ok (fun args pre post h hp => ?_) T2_ok
 unfold selSeg at h
 split at h <;> cases h
 exact ⟨⟨_, segOk_ex _ _ _⟩, Segment_c _ _ _ hp⟩
def NetHp (i : Nm) (L : List (List D)) (at' : Int) (g1 : Nat) (nodes : List ByteArray) (g2 : Nat) (segs : List Seg) (g3 : Nat) (ports : List Port) (g4 : Nat) (sts : List Stn) (vap set : Int) : Hp :=
 ((((((Hp.none.put (i.1 + 1, 1004) ⟨g4, 5, sts.map Stn.row⟩).put (i.1 + 1, 1003) ⟨g3, 3, ports.map Port.row⟩).put (i.1 + 1, 1002) ⟨g2, 7, segs.map Seg.row⟩).put (i.1 + 1, 1001) ⟨g1, 1, nodes.map nmRow⟩).put (i.1 + 1, 3) ⟨0, 6, [[.own (i.1 + 1, 1001) g1 0 nodes.length, .own (i.1 + 1, 1002) g2 0 segs.length, .own (i.1 + 1, 1003) g3 0 ports.length, .own (i.1 + 1, 1004) g4 0 sts.length, di vap, di set]]⟩).put (i.1 + 1, 2) ⟨0, 6, [[.mt, .mt, .mt, .mt, di 0, di 0]]⟩).put i (sE L at')
def NetFr (i : Nm) (l : List (Nat × D)) : List (Nat × D) := (0, .ptr i 0 0 0) :: (2, .ptr (i.1 + 1, 2) 0 0 0) :: (3, .ptr (i.1 + 1, 3) 0 0 0) :: l
def NetI4 (i : Nm) (L : List (List D)) (nodes : List ByteArray) (segs : List Seg) (vap set : Int) : Nat → St → Prop := fun k s => ∃ at' g1 g2 g3 g4 ports sts j, SrcOk L at' ∧ PortsOk (nodes.length - 1) j ports ∧ StnsOk (min j (nodes.length - 1)) sts ∧ 0 ≤ j ∧ j + k = nodes.length ∧ s = ⟨fr (NetFr i [(5, di (nodes.length - 1)), (9, di j)]), NetHp i L at' g1 nodes g2 segs g3 ports g4 sts vap set⟩
set_option maxHeartbeats 8000000 in
theorem Net_4 (i : Nm) (L : List (List D)) (at' : Int) (ho : SrcOk L at') (g1 : Nat) (nodes : List ByteArray) (g2 : Nat) (segs : List Seg) (vap set : Int) (hn : AllI NodeOk nodes) (hn2 : 2 ≤ nodes.length ∧ nodes.length ≤ 6) (hs : AllI (SegAt (nodes.length - 1)) segs) (hs2 : nodes.length - 1 ≤ segs.length ∧ segs.length ≤ nodes.length + 2) (hv : -100000 ≤ vap ∧ vap ≤ 50000) (hset : 0 ≤ set ∧ set ≤ 100) :
  vc T3 (fun t => (i.1 + 1, t)) [i] c32_12 (finQ r32 [i] false (SrcR i L NetOk Net.enc)) ⟨fr (NetFr i [(5, di (nodes.length - 1))]), NetHp i L at' g1 nodes g2 segs 0 [] 0 [] vap set⟩ := by
 simp (maxSteps:=500000) only [↓vp, vv, ↓reduceIte, simprocAttr, c32_12]
 rw [vc_loop]
 refine ⟨NetI4 i L nodes segs vap set, ⟨nodes.length, _, (weak_eqA [] [i, (i.1 + 1, 2), (i.1 + 1, 3), (i.1 + 1, 1001), (i.1 + 1, 1002), (i.1 + 1, 1003), (i.1 + 1, 1004)] (NetFr i [(5, di (nodes.length - 1)), (9, di 0)]) (by refine ⟨?_, ?_, ?_, by simp, ?_⟩ <;> (simp only [↓vp, vv, ↓reduceIte, simprocAttr, coverS, refsF, NetFr, NetHp, Seg.row, nmRow] <;> try rfl))), ⟨at', g1, g2, 0, 0, [], [], 0, ho, ⟨AllI.nil _, List.Pairwise.nil, fun h => by omega, fun h => by omega, by simp⟩, ⟨AllI.nil _, List.Pairwise.nil, by simp; omega⟩, by omega, by omega, rfl⟩⟩, ?_⟩
 rintro m s ⟨at1, g1, g2, g3, g4, ports, sts, j, o1, hp, ht, hj0, hjm, rfl⟩
 have hpl := hp.len
 have htl := ht.len
 by_cases h1 : j ≤ (nodes.length : Int) - 1
 ·have wj : IntKind.i64.wrap (j + 1) = j + 1 := wrap_i (by omega)
  have hsz : ports.length ≤ 4611686018427387903 := by omega
  have hPadd : ∀ pr, 0 ≤ pr ∧ pr ≤ 100000000 → PortsOk (nodes.length - 1) (j + 1) (ports ++ [⟨nm1B ⟨#[113]⟩ ports.length, j, pr⟩]) := fun pr h => hp.add hj0 h1 pr h
  have hSskip : StnsOk (min (j + 1) (nodes.length - 1)) sts := by
   by_cases h : j < (nodes.length : Int) - 1
   ·have := ht.skip
    rw [show min j ((nodes.length : Int) - 1) + 1 = min (j + 1) (nodes.length - 1) by omega] at this
    exact this
   ·rw [show min (j + 1) ((nodes.length : Int) - 1) = min j (nodes.length - 1) by omega]
    exact ht
  have hSadd : j < (nodes.length : Int) - 1 → ∀ hd fl su, (0 ≤ hd ∧ hd ≤ 100000000) → (0 ≤ fl ∧ fl ≤ 100000) → (0 ≤ su ∧ su ≤ 100000000) → StnsOk (min (j + 1) (nodes.length - 1)) (sts ++ [⟨nm1B ⟨#[115]⟩ sts.length, j, hd, fl, su⟩]) := fun h hd fl su h1 h2 h3 => by
   have e : min j ((nodes.length : Int) - 1) = j := by omega
   rw [e] at ht
   rw [show min (j + 1) ((nodes.length : Int) - 1) = j + 1 by omega]
   exact ht.add hj0 hd fl su h1 h2 h3
  by_cases h0 : j = 0
  ·have e0 : (j == 0) = true := beq_iff_eq.2 h0
   have h2 : j < (nodes.length : Int) - 1 := by omega
   simp (maxSteps:=500000) only [↓vp, vv, ↓reduceIte, simprocAttr, c32, r32, c32_1, c32_10, c32_11, c32_12, c32_13, c32_14, c32_2, c32_3, c32_4, c32_5, c32_6, c32_7, c32_8, c32_9, T3, T2, T1, selI, selPick, selRange, selName, selSeg, o1, NetHp, NetFr, h1, Seg.row, nmRow, Port.row, Stn.row, sz1, e0, h2]
   intro a1 pr hpr
   simp [IsMem] at hpr
   refine ⟨⟨by omega, by omega⟩, ?_⟩
   intro a2 x hx
   split
   ·intro a3 hd hhd a4 fl hfl a5 su hsu
    simp [IsMem] at hhd hfl hsu
    refine ⟨⟨by omega, by omega⟩, m - 1, _, by omega, (weak_eqA [] [i, (i.1 + 1, 2), (i.1 + 1, 3), (i.1 + 1, 1001), (i.1 + 1, 1002), (i.1 + 1, 1003), (i.1 + 1, 1004)] (NetFr i [(5, di (nodes.length - 1)), (9, di (j + 1))]) (by refine ⟨?_, ?_, ?_, by simp, ?_⟩ <;> (simp only [↓vp, vv, ↓reduceIte, simprocAttr, coverS, refsF, NetFr, NetHp, Seg.row, nmRow, Port.row, Stn.row, wj] <;> try rfl))), ⟨a5.1, g1, g2, (g3 + 1), (g4 + 1), (ports ++ [⟨_, j, pr⟩]), (sts ++ [⟨_, j, hd, fl, su⟩]), j + 1, a5.2, (hPadd pr (by omega)), (hSadd (by omega) hd fl su (by omega) (by omega) (by omega)), by omega, by omega, ?_⟩⟩
    simp [NetHp, NetFr, Port.row, Stn.row, sE]
   ·refine ⟨m - 1, _, by omega, (weak_eqA [] [i, (i.1 + 1, 2), (i.1 + 1, 3), (i.1 + 1, 1001), (i.1 + 1, 1002), (i.1 + 1, 1003), (i.1 + 1, 1004)] (NetFr i [(5, di (nodes.length - 1)), (9, di (j + 1))]) (by refine ⟨?_, ?_, ?_, by simp, ?_⟩ <;> (simp only [↓vp, vv, ↓reduceIte, simprocAttr, coverS, refsF, NetFr, NetHp, Seg.row, nmRow, Port.row, Stn.row, wj] <;> try rfl))), ⟨a2.1, g1, g2, (g3 + 1), g4, (ports ++ [⟨_, j, pr⟩]), sts, j + 1, a2.2, (hPadd pr (by omega)), hSskip, by omega, by omega, ?_⟩⟩
    simp [NetHp, NetFr, Port.row, Stn.row, sE]
  ·have e0 : (j == 0) = false := beq_false_of_ne (by omega)
   by_cases h2 : j = (nodes.length : Int) - 1
   ·have e1 : (j == (nodes.length : Int) - 1) = true := beq_iff_eq.2 h2
    have h3 : ¬ j < (nodes.length : Int) - 1 := by omega
    simp (maxSteps:=500000) only [↓vp, vv, ↓reduceIte, simprocAttr, c32, r32, c32_1, c32_10, c32_11, c32_12, c32_13, c32_14, c32_2, c32_3, c32_4, c32_5, c32_6, c32_7, c32_8, c32_9, T3, T2, T1, selI, selPick, selRange, selName, selSeg, o1, NetHp, NetFr, h1, Seg.row, nmRow, Port.row, Stn.row, sz1, e0, e1, h3]
    intro a1 pr hpr
    simp [IsMem] at hpr
    refine ⟨⟨by omega, by omega⟩, m - 1, _, by omega, (weak_eqA [] [i, (i.1 + 1, 2), (i.1 + 1, 3), (i.1 + 1, 1001), (i.1 + 1, 1002), (i.1 + 1, 1003), (i.1 + 1, 1004)] (NetFr i [(5, di (nodes.length - 1)), (9, di (j + 1))]) (by refine ⟨?_, ?_, ?_, by simp, ?_⟩ <;> (simp only [↓vp, vv, ↓reduceIte, simprocAttr, coverS, refsF, NetFr, NetHp, Seg.row, nmRow, Port.row, Stn.row, wj] <;> try rfl))), ⟨a1.1, g1, g2, (g3 + 1), g4, (ports ++ [⟨_, j, pr⟩]), sts, j + 1, a1.2, (hPadd pr (by omega)), hSskip, by omega, by omega, ?_⟩⟩
    simp [NetHp, NetFr, Port.row, Stn.row, sE]
   ·have e1 : (j == (nodes.length : Int) - 1) = false := beq_false_of_ne h2
    have h3 : j < (nodes.length : Int) - 1 := by omega
    have hPskip : PortsOk (nodes.length - 1) (j + 1) ports := hp.skip (by omega) h3
    simp (maxSteps:=500000) only [↓vp, vv, ↓reduceIte, simprocAttr, c32, r32, c32_1, c32_10, c32_11, c32_12, c32_13, c32_14, c32_2, c32_3, c32_4, c32_5, c32_6, c32_7, c32_8, c32_9, T3, T2, T1, selI, selPick, selRange, selName, selSeg, o1, NetHp, NetFr, h1, Seg.row, nmRow, Port.row, Stn.row, sz1, e0, e1, h3]
    intro a0 y hy
    split
    ·intro a1 pr hpr
     simp [IsMem] at hpr
     refine ⟨⟨by omega, by omega⟩, ?_⟩
     intro a2 x hx
     split
     ·intro a3 hd hhd a4 fl hfl a5 su hsu
      simp [IsMem] at hhd hfl hsu
      refine ⟨⟨by omega, by omega⟩, m - 1, _, by omega, (weak_eqA [] [i, (i.1 + 1, 2), (i.1 + 1, 3), (i.1 + 1, 1001), (i.1 + 1, 1002), (i.1 + 1, 1003), (i.1 + 1, 1004)] (NetFr i [(5, di (nodes.length - 1)), (9, di (j + 1))]) (by refine ⟨?_, ?_, ?_, by simp, ?_⟩ <;> (simp only [↓vp, vv, ↓reduceIte, simprocAttr, coverS, refsF, NetFr, NetHp, Seg.row, nmRow, Port.row, Stn.row, wj] <;> try rfl))), ⟨a5.1, g1, g2, (g3 + 1), (g4 + 1), (ports ++ [⟨_, j, pr⟩]), (sts ++ [⟨_, j, hd, fl, su⟩]), j + 1, a5.2, (hPadd pr (by omega)), (hSadd (by omega) hd fl su (by omega) (by omega) (by omega)), by omega, by omega, ?_⟩⟩
      simp [NetHp, NetFr, Port.row, Stn.row, sE]
     ·refine ⟨m - 1, _, by omega, (weak_eqA [] [i, (i.1 + 1, 2), (i.1 + 1, 3), (i.1 + 1, 1001), (i.1 + 1, 1002), (i.1 + 1, 1003), (i.1 + 1, 1004)] (NetFr i [(5, di (nodes.length - 1)), (9, di (j + 1))]) (by refine ⟨?_, ?_, ?_, by simp, ?_⟩ <;> (simp only [↓vp, vv, ↓reduceIte, simprocAttr, coverS, refsF, NetFr, NetHp, Seg.row, nmRow, Port.row, Stn.row, wj] <;> try rfl))), ⟨a2.1, g1, g2, (g3 + 1), g4, (ports ++ [⟨_, j, pr⟩]), sts, j + 1, a2.2, (hPadd pr (by omega)), hSskip, by omega, by omega, ?_⟩⟩
      simp [NetHp, NetFr, Port.row, Stn.row, sE]
    ·intro a2 x hx
     split
     ·intro a3 hd hhd a4 fl hfl a5 su hsu
      simp [IsMem] at hhd hfl hsu
      refine ⟨⟨by omega, by omega⟩, m - 1, _, by omega, (weak_eqA [] [i, (i.1 + 1, 2), (i.1 + 1, 3), (i.1 + 1, 1001), (i.1 + 1, 1002), (i.1 + 1, 1003), (i.1 + 1, 1004)] (NetFr i [(5, di (nodes.length - 1)), (9, di (j + 1))]) (by refine ⟨?_, ?_, ?_, by simp, ?_⟩ <;> (simp only [↓vp, vv, ↓reduceIte, simprocAttr, coverS, refsF, NetFr, NetHp, Seg.row, nmRow, Port.row, Stn.row, wj] <;> try rfl))), ⟨a5.1, g1, g2, g3, (g4 + 1), ports, (sts ++ [⟨_, j, hd, fl, su⟩]), j + 1, a5.2, hPskip, (hSadd (by omega) hd fl su (by omega) (by omega) (by omega)), by omega, by omega, ?_⟩⟩
      simp [NetHp, NetFr, Port.row, Stn.row, sE]
     ·refine ⟨m - 1, _, by omega, (weak_eqA [] [i, (i.1 + 1, 2), (i.1 + 1, 3), (i.1 + 1, 1001), (i.1 + 1, 1002), (i.1 + 1, 1003), (i.1 + 1, 1004)] (NetFr i [(5, di (nodes.length - 1)), (9, di (j + 1))]) (by refine ⟨?_, ?_, ?_, by simp, ?_⟩ <;> (simp only [↓vp, vv, ↓reduceIte, simprocAttr, coverS, refsF, NetFr, NetHp, Seg.row, nmRow, Port.row, Stn.row, wj] <;> try rfl))), ⟨a2.1, g1, g2, g3, g4, ports, sts, j + 1, a2.2, hPskip, hSskip, by omega, by omega, ?_⟩⟩
      simp [NetHp, NetFr, Port.row, Stn.row, sE]
 ·simp (maxSteps:=500000) only [↓vp, vv, ↓reduceIte, simprocAttr, c32, r32, c32_1, c32_10, c32_11, c32_12, c32_13, c32_14, c32_2, c32_3, c32_4, c32_5, c32_6, c32_7, c32_8, c32_9, T3, T2, T1, selI, selPick, selRange, selName, selSeg, o1, NetHp, NetFr, h1, Seg.row, nmRow, Port.row, Stn.row, sz1]
  refine ⟨at1, ⟨nodes, segs, ports, sts, vap, set⟩, o1, ⟨hn, hn2, hs, hs2, ?_, ?_, hv, hset⟩, rfl, rfl⟩
  ·have e : j = (nodes.length : Int) := by omega
   subst e
   exact hp
  ·have e : min j ((nodes.length : Int) - 1) = nodes.length - 1 := by omega
   rw [e] at ht
   exact ht
end Go.Proofs.Ytadjhfjiimgddaa
