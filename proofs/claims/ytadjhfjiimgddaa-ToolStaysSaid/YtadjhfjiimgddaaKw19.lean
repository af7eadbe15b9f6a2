/- ToolStays: CodeTO GFo. -/
import Derived.Test.YtadjhfjiimgddaaKw3
import Derived.Test.YtadjhfjiimgddaaProg
import Derived.Test.YtadjhfjiimgddaaKw5
set_option linter.unusedSimpArgs false
set_option linter.unusedVariables false
set_option maxRecDepth 100000

/- Compiled code of some functions (printed by a program), each checked by the kernel. -/
namespace Go.Proofs.Ytadjhfjiimgddaa
open Go
def c23_1 : C := (.seq (.ops false [oP 21 (.ld 6 true (.t 1)), oP 22 (.ld 3 true (.t 4)), oP 23 (.ld 3 true (.t 2)), oP 24 (.bsl 3 1 [.mt, (.v (.int .i64 0)), (.v (.int .i64 0))] [(0, (.t 23))]), oP 25 (.call 41 [(.t 21), (.t 22), (.t 24), (cI 3)]), oM 20 25, oP 26 (.ext (.t 20) 0), oP 27 (.ext (.t 20) 1), oM 5 26, oM 6 27]) (.seq (.ops false [oP 29 (.ld 6 true (.t 1)),
 oP 30 (.ld 3 true (.t 4)), oP 31 (.ld 3 true (.t 2)), oP 32 (.bsl 3 1 [.mt, (.v (.int .i64 0)), (.v (.int .i64 0))] [(0, (.t 31))]), oP 33 (.call 41 [(.t 29), (.t 30), (.t 32), (cI 4)]), oM 28 33, oP 34 (.ext (.t 28) 0), oP 35 (.ext (.t 28) 1), oM 7 34, oM 8 35]) (.seq (.ops true [oM 36 3, oA 37 (.bin .eql (.t 36) (cI 0)) [0], oA 38 (.mv (.t 37)) [0, 1],
 oH 39 38 true (.mv (.t 6)) [1, 0, 2], oH 40 38 true (.bin .eql (.t 39) (cI 0)) [0, 1, 2, 3], oA 41 (.pick (.t 38) (.t 40) (cB false)) [3, 1, 0, 4, 2], oA 42 (.mv (.t 41)) [4, 0, 1, 3, 2, 5], oH 43 42 true (.mv (.t 8)) [5, 2, 3, 1, 0, 4, 6], oH 44 42 true (.bin .eql (.t 43) (cI 0)) [4, 0, 1, 3, 2, 5, 6, 7], oA 45 (.pick (.t 42) (.t 44) (cB false)) [7, 5, 2, 3, 1, 0, 4, 8, 6], oA 46 (.mv (.t 45))
 [8, 4, 0, 1, 3, 2, 5, 7, 6, 9], oH 47 46 true (.mv (.t 5)) [9, 6, 7, 5, 2, 3, 1, 0, 4, 8, 10], oH 48 46 true (.len (.t 47)) [8, 4, 0, 1, 3, 2, 5, 7, 6, 9, 10, 11], oH 49 46 true (.bin .eql (.t 48) (cI 1)) [11, 9, 6, 7, 5, 2, 3, 1, 0, 4, 8, 10, 12], oA 50 (.pick (.t 46) (.t 49) (cB false)) [12, 11, 9, 6, 7, 5, 2, 3, 1, 0, 4, 8, 13, 10], oA 51 (.mv (.t 50)) [13, 8, 4, 0, 1, 3, 2, 5, 7, 6, 9, 11, 12,
 10, 14], oH 52 51 true (.mv (.t 7)) [14, 10, 12, 11, 9, 6, 7, 5, 2, 3, 1, 0, 4, 8, 13, 15], oH 53 51 true (.len (.t 52)) [13, 8, 4, 0, 1, 3, 2, 5, 7, 6, 9, 11, 12, 10, 14, 15, 16], oH 54 51 true (.bin .eql (.t 53) (cI 1)) [16, 14, 10, 12, 11, 9, 6, 7, 5, 2, 3, 1, 0, 4, 8, 13, 15, 17], oA 55 (.pick (.t 51) (.t 54) (cB false)) [17, 16, 14, 10, 12, 11, 9, 6, 7, 5, 2, 3, 1, 0, 4, 8, 13, 18, 15],
 oA 56 (.mv (.t 55)) [18, 13, 8, 4, 0, 1, 3, 2, 5, 7, 6, 9, 11, 12, 10, 14, 16, 17, 15, 19], oH 57 56 true (.mv (.t 5)) [19, 15, 17, 16, 14, 10, 12, 11, 9, 6, 7, 5, 2, 3, 1, 0, 4, 8, 13, 18, 20], oH 58 56 true (.iaS 3 (.t 57) (cI 0)) [18, 13, 8, 4, 0, 1, 3, 2, 5, 7, 6, 9, 11, 12, 10, 14, 16, 17, 15, 19, 20, 21], oH 59 56 true (.fa 2 (.t 58)) [21, 19, 15, 17, 16, 14, 10, 12, 11, 9, 6, 7, 5, 2, 3, 1,
 0, 4, 8, 13, 18, 20, 22], oH 60 56 true (.ld 1 false (.t 59)) [22, 18, 13, 8, 4, 0, 1, 3, 2, 5, 7, 6, 9, 11, 12, 10, 14, 16, 17, 15, 19, 21, 20, 23], oH 61 56 true (.bin .eql (.t 60) (cI 90)) [23, 21, 19, 15, 17, 16, 14, 10, 12, 11, 9, 6, 7, 5, 2, 3, 1, 0, 4, 8, 13, 18, 22, 20, 24], oA 62 (.pick (.t 56) (.t 61) (cB false)) [24, 22, 21, 23, 19, 15, 17, 16, 14, 10, 12, 11, 9, 6, 7, 5, 2, 3, 1, 0, 4,
 8, 13, 18, 25, 20], oA 63 (.mv (.t 62)) [25, 18, 13, 8, 4, 0, 1, 3, 2, 5, 7, 6, 9, 11, 12, 10, 14, 16, 17, 15, 19, 23, 21, 22, 24, 20, 26], oH 64 63 true (.mv (.t 5)) [26, 20, 24, 22, 21, 23, 19, 15, 17, 16, 14, 10, 12, 11, 9, 6, 7, 5, 2, 3, 1, 0, 4, 8, 13, 18, 25, 27], oH 65 63 true (.iaS 3 (.t 64) (cI 0)) [25, 18, 13, 8, 4, 0, 1, 3, 2, 5, 7, 6, 9, 11, 12, 10, 14, 16, 17, 15, 19, 23, 21, 22, 24,
 20, 26, 27, 28], oH 66 63 true (.ld 3 true (.t 65)) [28, 26, 20, 24, 22, 21, 23, 19, 15, 17, 16, 14, 10, 12, 11, 9, 6, 7, 5, 2, 3, 1, 0, 4, 8, 13, 18, 25, 27, 29], oD 67 63 true (.call 30 [(.t 66)]) [29, 25, 18, 13, 8, 4, 0, 1, 3, 2, 5, 7, 6, 9, 11, 12, 10, 14, 16, 17, 15, 19, 23, 21, 22, 24, 20, 26, 28, 27, 30], oH 68 63 true (.not (.t 67)) [30, 28, 26, 20, 24, 22, 21, 23, 19, 15, 17, 16, 14, 10,
 12, 11, 9, 6, 7, 5, 2, 3, 1, 0, 4, 8, 13, 18, 25, 29, 27, 31], oA 69 (.pick (.t 63) (.t 68) (cB false)) [31, 29, 28, 30, 26, 20, 24, 22, 21, 23, 19, 15, 17, 16, 14, 10, 12, 11, 9, 6, 7, 5, 2, 3, 1, 0, 4, 8, 13, 18, 25, 32, 27], oA 70 (.mv (.t 69)) [27, 32, 25, 18, 13, 8, 4, 0, 1, 3, 2, 5, 7, 6, 9, 11, 12, 10, 14, 16, 17, 15, 19, 23, 21, 22, 24, 20, 26, 30, 28, 29, 31, 33],
 oH 71 70 true (.mv (.t 7)) [33, 31, 29, 28, 30, 26, 20, 24, 22, 21, 23, 19, 15, 17, 16, 14, 10, 12, 11, 9, 6, 7, 5, 2, 3, 1, 0, 4, 8, 13, 18, 25, 32, 27, 34], oH 72 70 true (.iaS 3 (.t 71) (cI 0)) [27, 32, 25, 18, 13, 8, 4, 0, 1, 3, 2, 5, 7, 6, 9, 11, 12, 10, 14, 16, 17, 15, 19, 23, 21, 22, 24, 20, 26, 30, 28, 29, 31, 33, 34, 35], oH 73 70 true (.ld 3 true (.t 72)) [35, 33, 31, 29, 28, 30, 26, 20,
 24, 22, 21, 23, 19, 15, 17, 16, 14, 10, 12, 11, 9, 6, 7, 5, 2, 3, 1, 0, 4, 8, 13, 18, 25, 32, 27, 34, 36], oD 74 70 true (.call 30 [(.t 73)]) [36, 27, 32, 25, 18, 13, 8, 4, 0, 1, 3, 2, 5, 7, 6, 9, 11, 12, 10, 14, 16, 17, 15, 19, 23, 21, 22, 24, 20, 26, 30, 28, 29, 31, 33, 35, 34, 37], oA 75 (.pick (.t 70) (.t 74) (cB false)) [37, 35, 36, 33, 31, 29, 28, 30, 26, 20, 24, 22, 21, 23, 19, 15, 17, 16,
 14, 10, 12, 11, 9, 6, 7, 5, 2, 3, 1, 0, 4, 8, 13, 18, 25, 32, 27, 38, 34], oA 76 (.mv (.t 75)) [34, 27, 32, 25, 18, 13, 8, 4, 0, 1, 3, 2, 5, 7, 6, 9, 11, 12, 10, 14, 16, 17, 15, 19, 23, 21, 22, 24, 20, 26, 30, 28, 29, 31, 33, 36, 35, 37, 38, 39], oH 77 76 true (.ld 6 true (.t 1)) [39, 38, 37, 35, 36, 33, 31, 29, 28, 30, 26, 20, 24, 22, 21, 23, 19, 15, 17, 16, 14, 10, 12, 11, 9, 6, 7, 5, 2, 3, 1,
 0, 4, 8, 13, 18, 25, 32, 27, 34, 40], oH 78 76 true (.mv (.t 7)) [39, 38, 37, 35, 36, 33, 31, 29, 28, 30, 26, 20, 24, 22, 21, 23, 19, 15, 17, 16, 14, 10, 12, 11, 9, 6, 7, 5, 2, 3, 1, 0, 4, 8, 13, 18, 25, 32, 27, 34, 40], oH 79 76 true (.iaS 3 (.t 78) (cI 0)) [34, 27, 32, 25, 18, 13, 8, 4, 0, 1, 3, 2, 5, 7, 6, 9, 11, 12, 10, 14, 16, 17, 15, 19, 23, 21, 22, 24, 20, 26, 30, 28, 29, 31, 33, 36, 35,
 37, 38, 39, 40, 42], oH 80 76 true (.ld 3 true (.t 79)) [42, 39, 38, 37, 35, 36, 33, 31, 29, 28, 30, 26, 20, 24, 22, 21, 23, 19, 15, 17, 16, 14, 10, 12, 11, 9, 6, 7, 5, 2, 3, 1, 0, 4, 8, 13, 18, 25, 32, 27, 34, 40, 43], oD 81 76 true (.call 46 [(.t 77), (.t 80)]) [43, 42, 34, 27, 32, 25, 18, 13, 8, 4, 0, 1, 3, 2, 5, 7, 6, 9, 11, 12, 10, 14, 16, 17, 15, 19, 23, 21, 22, 24, 20, 26, 30, 28, 29, 31,
 33, 36, 35, 37, 38, 39, 40, 44, 41], oA 82 (.pick (.t 76) (.t 81) (cB false)) [41, 44, 42, 43, 39, 38, 37, 35, 36, 33, 31, 29, 28, 30, 26, 20, 24, 22, 21, 23, 19, 15, 17, 16, 14, 10, 12, 11, 9, 6, 7, 5, 2, 3, 1, 0, 4, 8, 13, 18, 25, 32, 27, 34, 45, 40], oA 0 (.mv (.t 82)) [44, 43, 42, 41, 40, 39, 38, 37, 36, 35, 34, 33, 32, 31, 30, 29, 28, 27, 26, 25, 24, 23, 22, 21, 20, 19, 18, 17, 16, 15, 14,
 13, 12, 11, 10, 9, 8, 7, 6, 5, 4, 3, 2, 1, 0, 45, 46]]) .ret)))
def c23 : C := (.seq (.ops false [oP 0 (.mv (cB false))]) (.seq (.ops false [oP 9 (.call 24 [(cI 100)]), oP 1 (.new [.mt, .mt, .mt, .mt, (.v (.int .i64 0)), (.v (.int .i64 0))]), oS (.st 6 (.t 1) (.t 9))]) (.seq (.ops false [oP 11 (.ld 6 true (.t 1)), oP 12 (.bld [(.v (.int .i64 0)), (.v (.bool false))] []), oP 13 (.bsl 2 1 [(.v (.int .i64 0)), (.v (.bool false))] [(0, (.t 12))]), oP 14 (.call 38 [(.t 11),
 (.t 13)]), oM 10 14, oP 15 (.ext (.t 10) 0), oP 16 (.ext (.t 10) 1), oP 2 (.new [.mt, (.v (.int .i64 0)), (.v (.int .i64 0))]), oS (.st 3 (.t 2) (.t 15)), oM 3 16]) (.seq (.ops false [oP 17 (.bsl 1 1 [(.v (.int .i64 0))] [(0, (cI 30))]), oP 18 (.bsl 1 2 [(.v (.int .i64 0))] [(0, (cI 30)), (1, (cI (-30)))]), oP 19 (.bld [.mt, .mt, .mt] [(0, (1, (.t 17))), (1, (1, (.t 18)))]),
 oP 4 (.new [.mt, .mt, .mt]), oS (.st 3 (.t 4) (.t 19))]) (.weak c23_1)))))
def r23 : List RV := [(.tmp 0)]
theorem c23_ok : ∃ code, Try.f23.body = some code ∧ compC Try.prog Try.f23.ntmps code = some (C.strip c23) := ⟨_, rfl, by kernel_rfl⟩
theorem r23_ok : compRes Try.prog Try.f23.results.toList = some r23 := by kernel_rfl
theorem f23_ok : fnOk Try.prog 23 = true := by kernel_rfl
def c24 : C := (.seq (.ops false [oP 2 (.new [.mt, .mt, .mt, .mt, (.v (.int .i64 0)), (.v (.int .i64 0))])]) (.seq (.ops false [oP 3 (.bsl 1 2 [(.v (.string ({ data := #[] })))] [(0, (.c (.v (.string ({ data := #[97] }))))), (1, (.c (.v (.string ({ data := #[98] })))))]), oM 4 0, oP 5 (.bld [(.v (.int .i64 0)), (.v (.int .i64 0)), (.v (.int .i64 0))] [(2, (1, (cI 1000000)))]), oM 6 0,
 oP 7 (.bld [(.v (.int .i64 0)), (.v (.int .i64 0)), (.v (.int .i64 0))] [(0, (1, (.t 6))), (2, (1, (cI 1000000)))]), oP 8 (.bsl 3 2 [(.v (.int .i64 0)), (.v (.int .i64 0)), (.v (.int .i64 0))] [(0, (.t 5)), (1, (.t 7))]), oP 9 (.bld [(.v (.string ({ data := #[] }))), (.v (.int .i64 0)), (.v (.int .i64 0)), (.v (.int .i64 0)), (.v (.int .i64 0)), (.v (.int .i64 0)), .mt] [(0, (1,
 (.c (.v (.string ({ data := #[103] })))))), (1, (1, (cI 0))), (2, (1, (cI 1))), (3, (1, (.t 4))), (6, (1, (.t 8)))]), oP 10 (.bsl 7 1 [(.v (.string ({ data := #[] }))), (.v (.int .i64 0)), (.v (.int .i64 0)), (.v (.int .i64 0)), (.v (.int .i64 0)), (.v (.int .i64 0)), .mt] [(0, (.t 9))]), oP 11 (.bld [(.v (.string ({ data := #[] }))), (.v (.int .i64 0)), (.v (.int .i64 0))] [(0, (1,
 (.c (.v (.string ({ data := #[112] })))))), (1, (1, (cI 0))), (2, (1, (cI 300000)))]), oP 12 (.bld [(.v (.string ({ data := #[] }))), (.v (.int .i64 0)), (.v (.int .i64 0))] [(0, (1, (.c (.v (.string ({ data := #[113] })))))), (1, (1, (cI 1)))]), oP 13 (.bsl 3 2 [(.v (.string ({ data := #[] }))), (.v (.int .i64 0)), (.v (.int .i64 0))] [(0, (.t 11)), (1, (.t 12))]), oP 14 (.bld [.mt, .mt, .mt,
 .mt, (.v (.int .i64 0)), (.v (.int .i64 0))] [(0, (1, (.t 3))), (1, (1, (.t 10))), (2, (1, (.t 13)))]), oS (.st 6 (.t 2) (.t 14))]) (.weak .ret)))
def r24 : List RV := [(.cell 2 6 true)]
theorem c24_ok : ∃ code, Try.f24.body = some code ∧ compC Try.prog Try.f24.ntmps code = some (C.strip c24) := ⟨_, rfl, by kernel_rfl⟩
theorem r24_ok : compRes Try.prog Try.f24.results.toList = some r24 := by kernel_rfl
theorem f24_ok : fnOk Try.prog 24 = true := by kernel_rfl
def c30 : C := (.seq (.ops false [oP 1 (.box 3 (.t 0)), oP 2 (.mv (cB false))]) (.seq (.ops false [oP 3 (.fa 0 (.t 1)), oP 4 (.ld 1 false (.t 3)), oP 5 (.len (.t 4)), oP 6 (.bin .gtr (.t 5) (cI 0)), oM 7 6, oG 8 7 true (.fa 1 (.t 1)), oG 9 7 true (.ld 1 false (.t 8)), oG 10 7 true (.fa 0 (.t 1)), oG 11 7 true (.ld 1 false (.t 10)), oG 12 7 true (.len (.t 11)), oG 13 7 true (.bin .eql (.t 9) (.t 12)),
 oP 14 (.pick (.t 7) (.t 13) (cB false)), oM 2 14]) .ret))
def r30 : List RV := [(.tmp 2)]
theorem c30_ok : ∃ code, Try.f30.body = some code ∧ compC Try.prog Try.f30.ntmps code = some (C.strip c30) := ⟨_, rfl, by kernel_rfl⟩
theorem r30_ok : compRes Try.prog Try.f30.results.toList = some r30 := by kernel_rfl
theorem f30_ok : fnOk Try.prog 30 = true := by kernel_rfl
def c38_1 : C := (.seq (.ops false [oP 21 (.ld 3 true (.t 7)), oP 22 (.call 79 [(.t 21)]), oS (.st 3 (.t 4) (.t 22)), oP 5 (.mv (cI 0))]) .ret)
def c38_2 : C := (.seq (.ops false [oM 14 1, oP 15 (.bld [.mt, (.v (.int .i64 0)), (.v (.int .i64 0))] [(0, (1, (.t 14)))]), oP 7 (.new [.mt, (.v (.int .i64 0)), (.v (.int .i64 0))]), oS (.st 3 (.t 7) (.t 15))]) (.seq (.seq (.ops false [oP 16 (.ld 6 true (.t 2)), oP 17 (.ld 3 true (.t 7)), oB 18 (.call 96 [(.t 16), (.t 17)]), oP 19 (.not (.t 18))]) (.cond (.t 19) (.seq (.ops false [oP 20 (.bld [.mt,
 (.v (.int .i64 0)), (.v (.int .i64 0))] []), oS (.st 3 (.t 4) (.t 20)), oP 5 (.mv (cI 24))]) .ret) .skip)) c38_1))
def c38 : C := (.seq (.ops false [oP 2 (.box 6 (.t 0)), oP 4 (.new [.mt, (.v (.int .i64 0)), (.v (.int .i64 0))]), oP 5 (.mv (cI 0))]) (.seq (.seq (.ops false [oP 8 (.ld 6 true (.t 2)), oB 9 (.call 95 [(.t 8)]), oM 6 9]) (.seq (.ops false [oM 10 6, oP 11 (.bin .neq (.t 10) (cI 0))]) (.cond (.t 11) (.seq (.ops false [oP 12 (.bld [.mt, (.v (.int .i64 0)), (.v (.int .i64 0))] []),
 oM 13 6, oS (.st 3 (.t 4) (.t 12)), oM 5 13]) .ret) .skip))) c38_2))
def r38 : List RV := [(.cell 4 3 true), (.tmp 5)]
theorem c38_ok : ∃ code, Try.f38.body = some code ∧ compC Try.prog Try.f38.ntmps code = some (C.strip c38) := ⟨_, rfl, by kernel_rfl⟩
theorem r38_ok : compRes Try.prog Try.f38.results.toList = some r38 := by kernel_rfl
theorem f38_ok : fnOk Try.prog 38 = true := by kernel_rfl
def c41_1 : C := (.seq (.block 1 (.seq (.ops false [oP 19 (.iaS 3 (.t 15) (.t 17)), oP 20 (.ld 3 true (.t 19)), oP 12 (.new [.mt, (.v (.int .i64 0)), (.v (.int .i64 0))]), oS (.st 3 (.t 12) (.t 20))]) (.ops false [oM 21 10, oP 22 (.ld 3 true (.t 12)), oP 23 (.call 79 [(.t 22)]), oP 24 (.bsl 3 1 [.mt, (.v (.int .i64 0)), (.v (.int .i64 0))] [(0, (.t 23))]), oP 25 (.app 3 40 (.t 21) (.t 24)),
 oM 10 25]))) (.ops false [oP 26 (.bin .add (.t 17) (cI 1)), oM 17 26]))
def c41_2 : C := (.seq (.ops false [oP 18 (.bin .lss (.t 17) (.t 16))]) (.seq (.cond (.t 18) .skip (.exit 0)) c41_1))
def c41_3 : C := (.seq (.block 6 (.ops true [oM 56 10, oM 57 14, oP 58 (.ld 6 true (.t 4)), oP 59 (.ld 3 true (.t 5)), oM 60 10, oM 61 14, oA 62 (.iaS 3 (.t 60) (.t 61)) [5, 4], oA 63 (.ld 3 true (.t 62)) [4, 5, 6], oA 64 (.call 80 [(.t 58), (.t 59), (.t 63)]) [6, 5, 4, 7, 3, 2], oA 65 (.iaS 3 (.t 56) (.t 57)) [8, 7, 6, 5, 4, 3, 2, 1, 0], oT (.st 3 (.t 65) (.t 64)) [7,
 6, 5, 4, 3, 2, 1, 0, 8, 9]])) (.ops false [oP 66 (.bin .add (.t 54) (cI 1)), oM 54 66]))
def c41_4 : C := (.seq (.ops false [oP 55 (.bin .lss (.t 54) (.t 53))]) (.seq (.cond (.t 55) .skip (.exit 5)) c41_3))
def c41_5 : C := (.ops false [oP 67 (.bin .add (.t 50) (cI 1)), oM 50 67])
def c41_6 : C := (.seq (.block 4 (.seq (.ops false [oM 52 50, oM 14 52]) (.seq (.ops false [oM 53 3, oP 54 (.mv (cI 0))]) (.block 5 (.loop c41_4))))) c41_5)
def c41_7 : C := (.seq (.ops false [oP 51 (.bin .lss (.t 50) (.t 49))]) (.seq (.cond (.t 51) .skip (.exit 3)) c41_6))
def c41_8 : C := (.seq (.ops false [oM 68 10, oM 8 68, oP 9 (.mv (cI 0))]) .ret)
def c41_9 : C := (.seq (.seq (.ops false [oM 48 10, oP 49 (.len (.t 48)), oP 50 (.mv (cI 0))]) (.block 3 (.loop c41_7))) c41_8)
def c41_10 : C := (.seq (.block 2 (.seq (.ops false [oM 36 2, oP 37 (.len (.t 36)), oP 38 (.bin .gtr (.t 37) (cI 16)), oM 35 38]) (.cond (.t 35) (.seq (.ops false [oM 39 10, oM 8 39, oP 9 (.mv (cI 4))]) .ret) (.seq (.ops false [oM 41 3, oP 42 (.bin .lss (.t 41) (cI 0)), oM 43 42, oG 44 43 false (.mv (.t 3)), oG 45 43 false (.bin .gtr (.t 44)
 (cI 400)), oP 46 (.pick (.t 43) (cB true) (.t 45)), oM 40 46]) (.cond (.t 40) (.seq (.ops false [oM 47 10, oM 8 47, oP 9 (.mv (cI 1))]) .ret) .skip))))) (.weak c41_9))
def c41_11 : C := (.seq (.seq (.ops false [oP 27 (.ld 6 true (.t 4)), oP 28 (.ld 3 true (.t 5)), oM 29 2, oB 30 (.call 78 [(.t 27), (.t 28), (.t 29)]), oM 13 30]) (.seq (.ops false [oM 31 13, oP 32 (.bin .neq (.t 31) (cI 0))]) (.cond (.t 32) (.seq (.ops false [oM 33 10, oM 34 13, oM 8 33, oM 9 34]) .ret) .skip))) c41_10)
def c41 : C := (.seq (.ops false [oP 4 (.box 6 (.t 0)), oP 5 (.box 3 (.t 1)), oP 8 (.mv (.c .mt)), oP 9 (.mv (cI 0))]) (.seq (.ops false [oP 10 (.mv (.c .mt))]) (.seq (.seq (.ops false [oM 15 2, oP 16 (.len (.t 15)), oP 17 (.mv (cI 0))]) (.block 0 (.loop c41_2))) (.weak c41_11))))
def r41 : List RV := [(.tmp 8), (.tmp 9)]
theorem c41_ok : ∃ code, Try.f41.body = some code ∧ compC Try.prog Try.f41.ntmps code = some (C.strip c41) := ⟨_, rfl, by kernel_rfl⟩
theorem r41_ok : compRes Try.prog Try.f41.results.toList = some r41 := by kernel_rfl
theorem f41_ok : fnOk Try.prog 41 = true := by kernel_rfl
def c46 : C := (.seq (.ops false [oP 2 (.box 6 (.t 0)), oP 3 (.box 3 (.t 1)), oP 4 (.mv (cB false))]) (.seq (.ops false [oP 5 (.ld 6 true (.t 2)), oB 6 (.call 95 [(.t 5)]), oP 7 (.bin .eql (.t 6) (cI 0)), oM 8 7, oG 9 8 true (.ld 6 true (.t 2)), oG 10 8 true (.ld 3 true (.t 3)), oD 11 8 true (.call 96 [(.t 9), (.t 10)]) [], oP 12 (.pick (.t 8) (.t 11) (cB false)), oM 4 12]) .ret))
def r46 : List RV := [(.tmp 4)]
theorem c46_ok : ∃ code, Try.f46.body = some code ∧ compC Try.prog Try.f46.ntmps code = some (C.strip c46) := ⟨_, rfl, by kernel_rfl⟩
theorem r46_ok : compRes Try.prog Try.f46.results.toList = some r46 := by kernel_rfl
theorem f46_ok : fnOk Try.prog 46 = true := by kernel_rfl
def c78_1 : C := (.seq (.ops false [oP 6 (.mv (cI 0))]) .ret)
def c78_2 : C := (.seq (.seq (.ops false [oM 20 2, oP 21 (.mkf 126 [] [(.t 3)]), oB 22 (.call 125 [(.t 20), (.t 21)])]) (.cond (.t 22) (.seq (.ops false [oP 6 (.mv (cI 24))]) .ret) .skip)) c78_1)
def c78_3 : C := (.seq (.seq (.ops false [oP 14 (.ld 6 true (.t 3)), oP 15 (.ld 3 true (.t 4)), oB 16 (.call 124 [(.t 14), (.t 15)]), oM 8 16]) (.seq (.ops false [oM 17 8, oP 18 (.bin .neq (.t 17) (cI 0))]) (.cond (.t 18) (.seq (.ops false [oM 19 8, oM 6 19]) .ret) .skip))) (.weak c78_2))
def c78 : C := (.seq (.ops false [oP 3 (.box 6 (.t 0)), oP 4 (.box 3 (.t 1)), oP 6 (.mv (cI 0))]) (.seq (.seq (.ops false [oP 9 (.ld 6 true (.t 3)), oB 10 (.call 95 [(.t 9)]), oM 7 10]) (.seq (.ops false [oM 11 7, oP 12 (.bin .neq (.t 11) (cI 0))]) (.cond (.t 12) (.seq (.ops false [oM 13 7, oM 6 13]) .ret) .skip))) c78_3))
def r78 : List RV := [(.tmp 6)]
theorem c78_ok : ∃ code, Try.f78.body = some code ∧ compC Try.prog Try.f78.ntmps code = some (C.strip c78) := ⟨_, rfl, by kernel_rfl⟩
theorem r78_ok : compRes Try.prog Try.f78.results.toList = some r78 := by kernel_rfl
theorem f78_ok : fnOk Try.prog 78 = true := by kernel_rfl
def c79 : C := (.seq (.ops false [oP 1 (.box 3 (.t 0)), oP 2 (.new [.mt, (.v (.int .i64 0)), (.v (.int .i64 0))])]) (.seq (.ops false [oP 4 (.fa 0 (.t 1)), oP 5 (.ld 1 false (.t 4)), oP 6 (.len (.t 5)), oP 7 (.mks 2 16 [(.v (.int .i64 0)), (.v (.bool false))] (.t 6)), oM 3 7]) (.seq (.ops false [oM 8 3, oP 9 (.fa 0 (.t 1)), oP 10 (.ld 1 false (.t 9)), oP 11 (.cpy 2 (.t 8) (.t 10))])
 (.seq (.ops false [oM 12 3, oP 13 (.fa 0 (.t 1)), oS (.st 1 (.t 13) (.t 12))]) (.seq (.ops false [oP 14 (.ld 3 true (.t 1)), oS (.st 3 (.t 2) (.t 14))]) .ret)))))
def r79 : List RV := [(.cell 2 3 true)]
theorem c79_ok : ∃ code, Try.f79.body = some code ∧ compC Try.prog Try.f79.ntmps code = some (C.strip c79) := ⟨_, rfl, by kernel_rfl⟩
theorem r79_ok : compRes Try.prog Try.f79.results.toList = some r79 := by kernel_rfl
theorem f79_ok : fnOk Try.prog 79 = true := by kernel_rfl
def c80_1 : C := (.seq (.ops false [oP 51 (.ld 3 true (.t 5)), oS (.st 3 (.t 6) (.t 51))]) .ret)
def c80_2 : C := (.seq (.seq (.ops false [oP 30 (.fa 2 (.t 5)), oP 31 (.ld 1 false (.t 30)), oM 32 8, oP 33 (.bin .add (.t 31) (.t 32)), oP 34 (.mnx true (cI 0) (.t 33)), oP 35 (.fa 2 (.t 5)), oS (.st 1 (.t 35) (.t 34))]) (.seq (.ops true [oP 36 (.fa 2 (.t 5)), oA 37 (.ld 1 false (.t 36)) [0], oP 38 (.fa 1 (.t 3)), oA 39 (.ld 1 false (.t 38)) [2], oP 40 (.fa 0 (.t 7)), oA 41 (.ld 1 false (.t 40)) [4],
 oA 42 (.iaS 7 (.t 39) (.t 41)) [4, 2, 5, 3], oA 43 (.fa 3 (.t 42)) [3, 5, 2, 4, 6], oA 44 (.ld 1 false (.t 43)) [6, 4, 2, 5, 3, 7], oA 45 (.bin .gtr (.t 37) (.t 44)) [7, 3, 5, 2, 4, 6, 0, 8, 1]]) (.cond (.t 45) (.ops false [oP 46 (.fa 1 (.t 5)), oP 47 (.ld 1 false (.t 46)), oP 48 (.bin .add (.t 47) (cI 1)), oP 49 (.fa 1 (.t 5)), oS (.st 1 (.t 49) (.t 48)), oP 50 (.fa 2 (.t 5)), oS (.st 1 (.t 50)
 (cI 0))]) .skip))) c80_1)
def c80_3 : C := (.seq (.ops false [oP 14 (.fa 0 (.t 5)), oP 15 (.ld 1 false (.t 14)), oP 16 (.fa 1 (.t 5)), oP 17 (.ld 1 false (.t 16)), oP 18 (.iaS 2 (.t 15) (.t 17)), oP 19 (.ld 2 true (.t 18)), oP 7 (.new [(.v (.int .i64 0)), (.v (.bool false))]), oS (.st 2 (.t 7) (.t 19))]) (.seq (.ops false [oP 20 (.fa 0 (.t 4)), oP 21 (.ld 1 false (.t 20)), oP 22 (.fa 0 (.t 7)), oP 23 (.ld 1 false (.t 22)),
 oP 24 (.iaS 1 (.t 21) (.t 23)), oP 25 (.ld 1 false (.t 24)), oM 8 25]) (.seq (.seq (.ops false [oP 26 (.fa 1 (.t 7)), oP 27 (.ld 1 false (.t 26))]) (.cond (.t 27) (.ops false [oM 28 8, oP 29 (.neg (.t 28)), oM 8 29]) .skip)) c80_2)))
def c80 : C := (.seq (.ops false [oP 3 (.box 6 (.t 0)), oP 4 (.box 3 (.t 1)), oP 5 (.box 3 (.t 2)), oP 6 (.new [.mt, (.v (.int .i64 0)), (.v (.int .i64 0))])]) (.seq (.ops false [oP 9 (.ld 3 true (.t 5)), oP 10 (.call 79 [(.t 9)]), oS (.st 3 (.t 5) (.t 10))]) (.seq (.seq (.ops false [oP 11 (.ld 3 true (.t 5)), oB 12 (.call 30 [(.t 11)])]) (.cond (.t 12) (.seq (.ops false [oP 13 (.ld 3 true (.t 5)),
 oS (.st 3 (.t 6) (.t 13))]) .ret) .skip)) c80_3)))
def r80 : List RV := [(.cell 6 3 true)]
theorem c80_ok : ∃ code, Try.f80.body = some code ∧ compC Try.prog Try.f80.ntmps code = some (C.strip c80) := ⟨_, rfl, by kernel_rfl⟩
theorem r80_ok : compRes Try.prog Try.f80.results.toList = some r80 := by kernel_rfl
theorem f80_ok : fnOk Try.prog 80 = true := by kernel_rfl
def c96_1 : C := (.ops false [oM 63 9, oM 5 63])
def c96_2 : C := (.seq (.seq (.ops false [oM 56 5, oP 57 (.bin .geq (.t 56) (cI 0)), oM 58 57, oG 59 58 true (.mv (.t 5)), oG 60 58 true (.mv (.t 8)), oG 61 58 true (.bin .neq (.t 59) (.t 60)), oP 62 (.pick (.t 58) (.t 61) (cB false))]) (.cond (.t 62) (.seq (.ops false [oP 4 (.mv (cB false))]) .ret) .skip)) c96_1)
def c96_3 : C := (.seq (.ops true [oP 38 (.fa 1 (.t 2)), oA 39 (.ld 1 false (.t 38)) [0], oP 40 (.fa 0 (.t 7)), oA 41 (.ld 1 false (.t 40)) [2], oA 42 (.iaS 7 (.t 39) (.t 41)) [2, 0, 3, 1], oA 43 (.fa 1 (.t 42)) [1, 3, 0, 2, 4], oA 44 (.ld 1 false (.t 43)) [4, 2, 0, 3, 1, 5], oP 45 (.fa 1 (.t 2)), oA 46 (.ld 1 false (.t 45)) [7], oP 47 (.fa 0 (.t 7)), oA 48 (.ld 1 false (.t 47)) [9], oA 49 (.iaS 7 (.t 46) (.t 48))
 [9, 7, 10, 8], oA 50 (.fa 2 (.t 49)) [8, 10, 7, 9, 11], oA 51 (.ld 1 false (.t 50)) [11, 9, 7, 10, 8, 12], oA 8 (.mv (.t 44)) [5, 4, 3, 2, 1, 0, 6], oA 9 (.mv (.t 51)) [12, 11, 10, 9, 8, 7, 6, 5, 4, 3, 2, 1, 0, 14, 13]]) (.seq (.seq (.ops false [oP 52 (.fa 1 (.t 7)), oP 53 (.ld 1 false (.t 52))]) (.cond (.t 53) (.ops false [oM 54 9, oM 55 8, oM 8 54,
 oM 9 55]) .skip)) c96_2))
def c96_4 : C := (.ops false [oP 64 (.bin .add (.t 23) (cI 1)), oM 23 64])
def c96_5 : C := (.seq (.block 1 (.seq (.ops false [oP 25 (.iaS 2 (.t 21) (.t 23)), oP 26 (.ld 2 true (.t 25)), oP 7 (.new [(.v (.int .i64 0)), (.v (.bool false))]), oS (.st 2 (.t 7) (.t 26))]) (.seq (.seq (.ops false [oP 27 (.fa 0 (.t 7)), oP 28 (.ld 1 false (.t 27)), oP 29 (.bin .lss (.t 28) (cI 0)), oM 30 29, oG 31 30 false (.fa 0 (.t 7)), oG 32 30 false (.ld 1 false (.t 31)),
 oG 33 30 false (.fa 1 (.t 2)), oG 34 30 false (.ld 1 false (.t 33)), oG 35 30 false (.len (.t 34)), oG 36 30 false (.bin .geq (.t 32) (.t 35)), oP 37 (.pick (.t 30) (cB true) (.t 36))]) (.cond (.t 37) (.seq (.ops false [oP 4 (.mv (cB false))]) .ret) .skip)) c96_3))) c96_4)
def c96_6 : C := (.seq (.ops false [oP 24 (.bin .lss (.t 23) (.t 22))]) (.seq (.cond (.t 24) .skip (.exit 0)) c96_5))
def c96_7 : C := (.seq (.ops true [oP 74 (.fa 1 (.t 3)), oA 75 (.ld 1 false (.t 74)) [0], oA 76 (.bin .geq (.t 75) (cI 0)) [0, 1], oA 77 (.mv (.t 76)) [1, 0, 2], oH 78 77 true (.fa 1 (.t 3)) [2, 0, 1, 3], oH 79 77 true (.ld 1 false (.t 78)) [1, 0, 2, 3, 4], oH 80 77 true (.fa 0 (.t 3)) [2, 0, 1, 3], oH 81 77 true (.ld 1 false (.t 80)) [1, 0, 2, 3, 6], oH 82 77 true (.len (.t 81)) [6, 2, 0, 1, 3, 7],
 oH 83 77 true (.bin .lss (.t 79) (.t 82)) [7, 6, 4, 2, 0, 1, 3, 8, 5], oA 84 (.pick (.t 77) (.t 83) (cB false)) [5, 8, 4, 6, 7, 2, 0, 1, 9, 3], oA 85 (.mv (.t 84)) [9, 1, 0, 2, 7, 6, 4, 8, 5, 3, 10], oH 86 85 true (.fa 2 (.t 3)) [10, 3, 5, 8, 4, 6, 7, 2, 0, 1, 9, 11], oH 87 85 true (.ld 1 false (.t 86)) [9, 1, 0, 2, 7, 6, 4, 8, 5, 3, 10, 11, 12], oH 88 85 true (.bin .geq (.t 87) (cI 0)) [12, 10,
 3, 5, 8, 4, 6, 7, 2, 0, 1, 9, 11, 13], oA 89 (.pick (.t 85) (.t 88) (cB false)) [13, 12, 10, 3, 5, 8, 4, 6, 7, 2, 0, 1, 9, 14, 11], oA 90 (.mv (.t 89)) [14, 9, 1, 0, 2, 7, 6, 4, 8, 5, 3, 10, 12, 13, 11, 15], oH 91 90 true (.fa 2 (.t 3)) [15, 11, 13, 12, 10, 3, 5, 8, 4, 6, 7, 2, 0, 1, 9, 14, 16], oH 92 90 true (.ld 1 false (.t 91)) [14, 9, 1, 0, 2, 7, 6, 4, 8, 5, 3, 10, 12, 13, 11, 15, 16, 17],
 oH 93 90 true (.fa 1 (.t 2)) [15, 11, 13, 12, 10, 3, 5, 8, 4, 6, 7, 2, 0, 1, 9, 14, 16], oH 94 90 true (.ld 1 false (.t 93)) [14, 9, 1, 0, 2, 7, 6, 4, 8, 5, 3, 10, 12, 13, 11, 15, 16, 19], oH 95 90 true (.fa 0 (.t 3)) [15, 11, 13, 12, 10, 3, 5, 8, 4, 6, 7, 2, 0, 1, 9, 14, 16], oH 96 90 true (.ld 1 false (.t 95)) [14, 9, 1, 0, 2, 7, 6, 4, 8, 5, 3, 10, 12, 13, 11, 15, 16, 21],
 oH 97 90 true (.fa 1 (.t 3)) [15, 11, 13, 12, 10, 3, 5, 8, 4, 6, 7, 2, 0, 1, 9, 14, 16], oH 98 90 true (.ld 1 false (.t 97)) [14, 9, 1, 0, 2, 7, 6, 4, 8, 5, 3, 10, 12, 13, 11, 15, 16, 23], oH 99 90 true (.iaS 2 (.t 96) (.t 98)) [23, 21, 15, 11, 13, 12, 10, 3, 5, 8, 4, 6, 7, 2, 0, 1, 9, 14, 16, 24, 22], oH 100 90 true (.fa 0 (.t 99)) [22, 24, 14, 9, 1, 0, 2, 7, 6, 4, 8, 5, 3, 10, 12, 13, 11, 15,
 21, 23, 16, 25], oH 101 90 true (.ld 1 false (.t 100)) [25, 23, 21, 15, 11, 13, 12, 10, 3, 5, 8, 4, 6, 7, 2, 0, 1, 9, 14, 24, 22, 16, 26], oH 102 90 true (.iaS 7 (.t 94) (.t 101)) [26, 22, 24, 21, 23, 25, 19, 15, 11, 13, 12, 10, 3, 5, 8, 4, 6, 7, 2, 0, 1, 9, 14, 16, 27, 20], oH 103 90 true (.fa 3 (.t 102)) [20, 27, 14, 9, 1, 0, 2, 7, 6, 4, 8, 5, 3, 10, 12, 13, 11, 15, 19, 25, 23, 21, 24, 22, 26,
 16, 28], oH 104 90 true (.ld 1 false (.t 103)) [28, 26, 22, 24, 21, 23, 25, 19, 15, 11, 13, 12, 10, 3, 5, 8, 4, 6, 7, 2, 0, 1, 9, 14, 27, 20, 16, 29], oH 105 90 true (.bin .leq (.t 92) (.t 104)) [29, 20, 27, 19, 25, 23, 21, 24, 22, 26, 28, 17, 15, 11, 13, 12, 10, 3, 5, 8, 4, 6, 7, 2, 0, 1, 9, 14, 16, 30, 18], oA 106 (.pick (.t 90) (.t 105) (cB false)) [18, 30, 17, 28, 26, 22, 24, 21, 23, 25, 19,
 27, 20, 29, 15, 11, 13, 12, 10, 3, 5, 8, 4, 6, 7, 2, 0, 1, 9, 14, 31, 16], oA 4 (.mv (.t 106)) [31, 30, 29, 28, 27, 26, 25, 24, 23, 22, 21, 20, 19, 18, 17, 15, 14, 13, 12, 11, 10, 9, 8, 7, 6, 5, 4, 3, 2, 1, 0, 16, 32]]) .ret)
def c96_8 : C := (.seq (.seq (.ops false [oP 65 (.fa 1 (.t 3)), oP 66 (.ld 1 false (.t 65)), oP 67 (.fa 0 (.t 3)), oP 68 (.ld 1 false (.t 67)), oP 69 (.len (.t 68)), oP 70 (.bin .eql (.t 66) (.t 69))]) (.cond (.t 70) (.seq (.ops false [oP 71 (.fa 2 (.t 3)), oP 72 (.ld 1 false (.t 71)), oP 73 (.bin .eql (.t 72) (cI 0)), oM 4 73]) .ret) .skip)) c96_7)
def c96_9 : C := (.seq (.ops false [oP 5 (.mv (cI (-1)))]) (.seq (.seq (.ops false [oP 20 (.fa 0 (.t 3)), oP 21 (.ld 1 false (.t 20)), oP 22 (.len (.t 21)), oP 23 (.mv (cI 0))]) (.block 0 (.loop c96_6))) (.weak c96_8)))
def c96 : C := (.seq (.ops false [oP 2 (.box 6 (.t 0)), oP 3 (.box 3 (.t 1)), oP 4 (.mv (cB false))]) (.seq (.seq (.ops false [oP 10 (.fa 0 (.t 3)), oP 11 (.ld 1 false (.t 10)), oP 12 (.len (.t 11)), oP 13 (.bin .lss (.t 12) (cI 1)), oM 14 13, oG 15 14 false (.fa 0 (.t 3)), oG 16 14 false (.ld 1 false (.t 15)), oG 17 14 false (.len (.t 16)), oG 18 14 false (.bin .gtr (.t 17) (cI 32)),
 oP 19 (.pick (.t 14) (cB true) (.t 18))]) (.cond (.t 19) (.seq (.ops false [oP 4 (.mv (cB false))]) .ret) .skip)) c96_9))
def r96 : List RV := [(.tmp 4)]
theorem c96_ok : ∃ code, Try.f96.body = some code ∧ compC Try.prog Try.f96.ntmps code = some (C.strip c96) := ⟨_, rfl, by kernel_rfl⟩
theorem r96_ok : compRes Try.prog Try.f96.results.toList = some r96 := by kernel_rfl
theorem f96_ok : fnOk Try.prog 96 = true := by kernel_rfl
def c125 : C := (.seq (.ops false [oP 4 (.mv (cB false))]) (.seq (.ops false [oM 5 0, oM 6 1, oB 7 (.call 155 [(.t 5), (.t 6)]), oP 8 (.bin .geq (.t 7) (cI 0)), oM 4 8]) .ret))
def r125 : List RV := [(.tmp 4)]
theorem c125_ok : ∃ code, Try.f125.body = some code ∧ compC Try.prog Try.f125.ntmps code = some (C.strip c125) := ⟨_, rfl, by kernel_rfl⟩
theorem r125_ok : compRes Try.prog Try.f125.results.toList = some r125 := by kernel_rfl
theorem f125_ok : fnOk Try.prog 125 = true := by kernel_rfl
def c126 : C := (.seq (.ops false [oP 2 (.box 3 (.t 0)), oP 3 (.mv (cB false))]) (.seq (.ops false [oP 4 (.ld 6 true (.t 1)), oP 5 (.ld 3 true (.t 2)), oB 6 (.call 96 [(.t 4), (.t 5)]), oP 7 (.not (.t 6)), oM 3 7]) .ret))
def r126 : List RV := [(.tmp 3)]
theorem c126_ok : ∃ code, Try.f126.body = some code ∧ compC Try.prog Try.f126.ntmps code = some (C.strip c126) := ⟨_, rfl, by kernel_rfl⟩
theorem r126_ok : compRes Try.prog Try.f126.results.toList = some r126 := by kernel_rfl
theorem f126_ok : fnOk Try.prog 126 = true := by kernel_rfl
def c155_1 : C := (.ops false [oP 18 (.bin .add (.t 8) (cI 1)), oM 8 18])
def c155_2 : C := (.seq (.block 1 (.seq (.ops false [oM 10 8, oM 5 10]) (.seq (.ops false [oM 11 1, oM 12 0, oM 13 5, oP 14 (.iaS 3 (.t 12) (.t 13)), oP 15 (.ld 3 true (.t 14)), oP 16 (.callv (.t 11) [(.t 15)])]) (.cond (.t 16) (.seq (.ops false [oM 17 5, oM 4 17]) .ret) .skip)))) c155_1)
def c155_3 : C := (.seq (.ops false [oP 9 (.bin .lss (.t 8) (.t 7))]) (.seq (.cond (.t 9) .skip (.exit 0)) c155_2))
def c155_4 : C := (.seq (.ops false [oP 4 (.mv (cI (-1)))]) .ret)
def c155 : C := (.seq (.ops false [oP 4 (.mv (cI 0))]) (.seq (.seq (.ops false [oM 6 0, oP 7 (.len (.t 6)), oP 8 (.mv (cI 0))]) (.block 0 (.loop c155_3))) c155_4))
def r155 : List RV := [(.tmp 4)]
theorem c155_ok : ∃ code, Try.f155.body = some code ∧ compC Try.prog Try.f155.ntmps code = some (C.strip c155) := ⟨_, rfl, by kernel_rfl⟩
theorem r155_ok : compRes Try.prog Try.f155.results.toList = some r155 := by kernel_rfl
theorem f155_ok : fnOk Try.prog 155 = true := by kernel_rfl
set_option maxHeartbeats 4000000 in
theorem idxF_O (q : D → Bool) (g : FuncId) (l rows : List (List D)) (h : QOk Try.prog true 3 q g l rows) (nn : Nm) : CallsA Try.prog 155 [.sl rows, .clo g [] (ips l)] Hp.none nn (Pu (outI (fun r => q (elV true r)) rows) Hp.none) := by
 obtain ⟨hg, hl, hq⟩ := h
 obtain ⟨code, h1, h2⟩ := c155_ok
 refine callsA_of (tc_q (q := q) hg (T0_ok _)) mixed (N := fun t => (0, t)) Try.func155 h1 h2 r155_ok [] false js_nil js_nil' (by simp [Try.f155]) ?_
 unfold outI
 simp (maxSteps:=500000) only [↓vp, vv, ↓reduceIte, simprocAttr, c155]
 rw [vc_loop]
 refine ⟨fun m s => ∃ j : Nat, j + m = rows.length ∧ idxOf (fun r => q (elV true r)) 0 rows = idxOf (fun r => q (elV true r)) j (rows.drop j) ∧ s = ⟨fr [(0, .sl rows), (1, .clo g [] (ips l)), (7, di rows.length), (8, di j)], Hp.none⟩, ⟨rows.length, _, (weak_eq [] [] [(0, .sl rows), (1, .clo g [] (ips l)), (7, di rows.length), (8, di 0)] (by simp only [↓vp, vv, ↓reduceIte, simprocAttr, coverS]) (by simp only [↓vp, vv, ↓reduceIte, simprocAttr, refsF, ips_refs]) (by simp only [↓vp, vv, ↓reduceIte, simprocAttr, ]) (by simp) (by simp only [↓vp, vv, ↓reduceIte, simprocAttr, ]; try rfl)), ⟨0, by omega, rfl, rfl⟩⟩, ?_⟩
 rintro m s ⟨j, hj, he, rfl⟩
 by_cases hlt : j < rows.length
 ·have hlt' : (j : Int) < rows.length := by omega
  have h0 : (0 : Int) ≤ j := by omega
  obtain ⟨r, hr⟩ : ∃ r, rows[j]? = some r := ⟨_, get_lt hlt⟩
  have hg' : rows.getD j [] = r := by rw [List.getD_eq_getElem?_getD, hr]; rfl
  obtain ⟨hr1, hr2, hr0, hr3⟩ := hq r (List.mem_of_getElem? hr)
  rw [idxOf_drop _ _ _ _ hr] at he
  have w1 : IntKind.i64.wrap ((j : Int) + 1) = ((j + 1 : Nat) : Int) := by rw [wrap_i (by omega)]; rfl
  have ht : r.take 3 = r := List.take_of_length_le (by omega)
  have d1 := fun H => (doneR H [] hr2).1
  have d2 := fun H => (doneR H [] hr2).2.1
  have d3 := fun H => (doneR H [] hr2).2.2.1
  have d4 := (doneR Hp.none [] hr2).2.2.2.1
  have d5 := fun js => (doneR Hp.none js hr2).2.2.2.2
  have hc : ∀ nn, CallsA Try.prog g ((.agg r) :: ips l) Hp.none nn (Pu (db (q (.agg r))) Hp.none) := hr3
  have he2 : idxOf (fun r => q (elV true r)) 0 rows = if q (.agg r) = true then (j : Int) else idxOf (fun r => q (elV true r)) (j + 1 : Nat) (rows.drop (j + 1)) := he
  cases hb : q (.agg r) with
  | true =>
   rw [hb, if_pos rfl] at he2
   have hcT : ∀ nn, CallsA Try.prog g ((.agg r) :: ips l) Hp.none nn (Pu (db true) Hp.none) = True := fun nn => eq_true (by have := hc nn; rwa [hb] at this)
   simp (maxSteps:=500000) only [↓vp, vv, ↓reduceIte, simprocAttr, c155, r155, c155_1, c155_2, c155_3, c155_4, hlt', h0, Int.toNat_natCast, hg', hr1, ht, d1, d2, d3, d4, d5, ips_nms, ips_lend, ips_lendNm, ips_ok, ips_refs, rowQ, hb, he2, Pu, addNm, cellNms, hcT]
  | false =>
   rw [hb, if_neg (by simp)] at he2
   have hcT : ∀ nn, CallsA Try.prog g ((.agg r) :: ips l) Hp.none nn (Pu (db false) Hp.none) = True := fun nn => eq_true (by have := hc nn; rwa [hb] at this)
   simp (maxSteps:=500000) only [↓vp, vv, ↓reduceIte, simprocAttr, c155, r155, c155_1, c155_2, c155_3, c155_4, hlt', h0, Int.toNat_natCast, hg', hr1, ht, d1, d2, d3, d4, d5, ips_nms, ips_lend, ips_lendNm, ips_ok, ips_refs, rowQ, hb, addNm, cellNms, hcT]
   exact ⟨m - 1, _, by omega, weak_eq [] [] [(0, .sl rows), (1, .clo g [] (ips l)), (7, di rows.length), (8, di ((j + 1 : Nat) : Int))] (by simp only [↓vp, vv, ↓reduceIte, simprocAttr, coverS, w1]) (by simp only [↓vp, vv, ↓reduceIte, simprocAttr, refsF, ips_refs]) (by simp only [↓vp, vv, ↓reduceIte, simprocAttr, ]) (by simp) (by simp only [↓vp, vv, ↓reduceIte, simprocAttr, ]; try rfl), ⟨j + 1, by omega, he2, rfl⟩⟩
 ·have hlt' : ¬ (j : Int) < rows.length := by omega
  rw [List.drop_of_length_le (by omega)] at he
  have he2 : idxOf (fun r => q (elV true r)) 0 rows = -1 := he
  simp (maxSteps:=500000) only [↓vp, vv, ↓reduceIte, simprocAttr, c155, r155, c155_1, c155_2, c155_3, c155_4, hlt', he2, Pu]
set_option maxHeartbeats 4000000 in
theorem hasF_O (q : D → Bool) (g : FuncId) (l rows : List (List D)) (h : QOk Try.prog true 3 q g l rows) (nn : Nm) : CallsA Try.prog 125 [.sl rows, .clo g [] (ips l)] Hp.none nn (Pu (outC (fun r => q (elV true r)) rows) Hp.none) := by
 obtain ⟨code, h1, h2⟩ := c125_ok
 refine callsA_of (T := tc 155 (rowPu (selQ Try.prog true 3 (fun g' l' d => q d) outI)) T0) (tc_pu f155_ok (fun args pre d hs hp nn => ?_) (T0_ok _)) mixed (N := fun t => (0, t)) Try.func125 h1 h2 r125_ok [] false js_nil js_nil' (by simp [Try.f125]) ?_
 ·unfold selQ at hs
  split at hs
  ·split at hs
   ·rename_i hi
    cases hs
    rw [ipsOf_eq hi]
    exact idxF_O _ _ _ _ hp nn
   ·cases hs
  ·cases hs
 ·have ha := idxOf_any (fun r => q (elV true r)) rows 0 (Int.le_refl _)
  have hv : decide (0 ≤ idxOf (fun r => q (elV true r)) 0 rows) = rows.any (fun r => q (elV true r)) := by
   rw [Bool.eq_iff_iff, decide_eq_true_eq]; exact ha
  simp (maxSteps:=500000) only [↓vp, vv, ↓reduceIte, simprocAttr, c125, r125, selQ, ipsOf_ips, h, ips_nms, ips_lend, ips_lendNm, ips_ok, ips_refs, outI, outC, addNm, cellNms, hv, Pu]
end Go.Proofs.Ytadjhfjiimgddaa
