/- ToolMade: CodeTP CodeSE CodeFO FlE CodeRF. -/
import Derived.Test.YtadjhfjiimgddaaTM3
import Derived.Test.YtadjhfjiimgddaaProg
import Derived.Test.YtadjhfjiimgddaaTM11
import Derived.Test.YtadjhfjiimgddaaTM9
set_option linter.unusedSimpArgs false
set_option linter.unusedVariables false
set_option maxRecDepth 100000
/- Compiled code of some functions (printed by a program), each checked by the kernel. -/
namespace Go.Proofs.Ytadjhfjiimgddaa
open Go
def c34_1 : C := (.seq (.ops false [oP 25 (.mv (.t 5)), oP 26 (.mv (.t 0)), oP 27 (.mv (.t 5)), oP 28 (.len (.t 27)), oB 29 (.call 13 [(.t 26), (.t 28)]), oP 30 (.iaS 4 (.t 25) (.t 29)), oP 31 (.ld 4 true (.t 30)), oP 32 (.call 93 [(.t 31)]), oP 33 (.fld 2 1 false (.t 32)), oP 4 (.mv (.t 33))]) .ret)
def c34 : C := (.seq (.ops false [oP 3 (.box 6 (.t 1)), oP 4 (.mv (.c .mt))]) (.seq (.ops true [oP 8 (.ld 6 true (.t 3)), oP 9 (.mv (.t 0)), oP 10 (.ld 6 true (.t 3)), oA 11 (.call 33 [(.t 9), (.t 10)]) [2, 1], oA 12 (.call 92 [(.t 8), (.t 11)]) [1, 2, 3, 0], oA 7 (.mv (.t 12)) [0, 3, 2, 1, 4], oA 13 (.ext (.t 7) 0) [4, 1, 2, 3, 0, 5], oA 14 (.ext (.t 7) 1) [4, 1, 2, 3, 0, 5], oA 5 (.mv (.t 13)) [5, 3, 2, 1, 0,
  4, 6], oA 6 (.mv (.t 14)) [6, 5, 4, 3, 2, 1, 0, 8, 7]]) (.seq (.seq (.ops false [oP 15 (.mv (.t 5)), oP 16 (.len (.t 15)), oP 17 (.bin .eql (.t 16) (cI 0))]) (.cond (.t 17) (.seq (.ops false [oP 18 (.mv (.t 0)), oP 19 (.fa 1 (.t 3)), oP 20 (.ld 1 false (.t 19)), oP 21 (.len (.t 20)), oB 22 (.call 13 [(.t 18), (.t 21)]), oP 23 (.bld [(.v (.int .i64 0)), (.v (.bool false))] [(0, (1, (.t 22)))]),
  oP 24 (.bsl 2 1 [(.v (.int .i64 0)), (.v (.bool false))] [(0, (.t 23))]), oP 4 (.mv (.t 24))]) .ret) .skip)) c34_1)))
def r34 : List RV := [(.tmp 4)]
theorem c34_ok : ∃ code, Try.f34.body = some code ∧ compC Try.prog Try.f34.ntmps code = some (C.strip c34) := ⟨_, rfl, by kernel_rfl⟩
theorem r34_ok : compRes Try.prog Try.f34.results.toList = some r34 := by kernel_rfl
theorem f34_ok : fnOk Try.prog 34 = true := by kernel_rfl
def c45_1 : C := (.ops false [oP 15 (.mv (.t 5)), oP 16 (.bin .add (.t 15) (cI 1)), oP 5 (.mv (.t 16))])
def c45_2 : C := (.seq (.block 1 (.seq (.ops true [oP 17 (.mv (.t 0)), oP 18 (.mv (.t 5)), oA 19 (.iaS 3 (.t 17) (.t 18)) [1, 0], oA 20 (.fa 1 (.t 19)) [0, 1, 2], oA 21 (.ld 1 false (.t 20)) [2, 1, 0, 3], oP 22 (.mv (.t 1)), oP 23 (.mv (.t 5)), oA 24 (.iaS 3 (.t 22) (.t 23)) [6, 5], oA 25 (.fa 1 (.t 24)) [5, 6, 7], oA 26 (.ld 1 false (.t 25)) [7, 6, 5, 8], oA 27 (.bin .neq (.t 21) (.t 26)) [8, 5, 6, 7, 3, 0, 1, 2,
  9, 4], oA 28 (.mv (.t 27)) [4, 9, 2, 1, 0, 3, 7, 6, 5, 8, 10], oH 29 28 false (.mv (.t 0)) [10, 8, 5, 6, 7, 3, 0, 1, 2, 9, 4, 11], oH 30 28 false (.mv (.t 5)) [10, 8, 5, 6, 7, 3, 0, 1, 2, 9, 4, 11], oH 31 28 false (.iaS 3 (.t 29) (.t 30)) [4, 9, 2, 1, 0, 3, 7, 6, 5, 8, 10, 11, 13, 12], oH 32 28 false (.fa 2 (.t 31)) [12, 13, 10, 8, 5, 6, 7, 3, 0, 1, 2, 9, 4, 11, 14],
  oH 33 28 false (.ld 1 false (.t 32)) [14, 4, 9, 2, 1, 0, 3, 7, 6, 5, 8, 10, 13, 12, 11, 15], oH 34 28 false (.mv (.t 1)) [10, 8, 5, 6, 7, 3, 0, 1, 2, 9, 4, 11], oH 35 28 false (.mv (.t 5)) [10, 8, 5, 6, 7, 3, 0, 1, 2, 9, 4, 11], oH 36 28 false (.iaS 3 (.t 34) (.t 35)) [4, 9, 2, 1, 0, 3, 7, 6, 5, 8, 10, 11, 18, 17], oH 37 28 false (.fa 2 (.t 36)) [17, 18, 10, 8, 5, 6, 7, 3, 0, 1, 2, 9, 4, 11, 19],
  oH 38 28 false (.ld 1 false (.t 37)) [19, 4, 9, 2, 1, 0, 3, 7, 6, 5, 8, 10, 18, 17, 11, 20], oH 39 28 false (.bin .neq (.t 33) (.t 38)) [20, 17, 18, 19, 15, 12, 13, 10, 8, 5, 6, 7, 3, 0, 1, 2, 9, 4, 14, 11, 21, 16], oA 40 (.pick (.t 28) (cB true) (.t 39)) [16, 21, 14, 13, 12, 15, 19, 18, 17, 20, 10, 8, 5, 6, 7, 3, 0, 1, 2, 9, 4, 22, 11], oA 41 (.mv (.t 40)) [22, 4, 9, 2, 1, 0, 3, 7, 6, 5, 8, 10,
  20, 17, 18, 19, 15, 12, 13, 14, 21, 16, 11, 23], oH 42 41 false (.mv (.t 0)) [23, 11, 16, 21, 14, 13, 12, 15, 19, 18, 17, 20, 10, 8, 5, 6, 7, 3, 0, 1, 2, 9, 4, 22, 24], oH 43 41 false (.mv (.t 5)) [23, 11, 16, 21, 14, 13, 12, 15, 19, 18, 17, 20, 10, 8, 5, 6, 7, 3, 0, 1, 2, 9, 4, 22, 24], oH 44 41 false (.iaS 3 (.t 42) (.t 43)) [22, 4, 9, 2, 1, 0, 3, 7, 6, 5, 8, 10, 20, 17, 18, 19, 15, 12, 13, 14,
  21, 16, 11, 23, 24, 26, 25], oH 45 41 false (.fa 0 (.t 44)) [25, 26, 23, 11, 16, 21, 14, 13, 12, 15, 19, 18, 17, 20, 10, 8, 5, 6, 7, 3, 0, 1, 2, 9, 4, 22, 24, 27], oH 46 41 false (.ld 1 false (.t 45)) [27, 22, 4, 9, 2, 1, 0, 3, 7, 6, 5, 8, 10, 20, 17, 18, 19, 15, 12, 13, 14, 21, 16, 11, 23, 26, 25, 24, 28], oH 47 41 false (.mv (.t 1)) [23, 11, 16, 21, 14, 13, 12, 15, 19, 18, 17, 20, 10, 8, 5, 6,
  7, 3, 0, 1, 2, 9, 4, 22, 24], oH 48 41 false (.mv (.t 5)) [23, 11, 16, 21, 14, 13, 12, 15, 19, 18, 17, 20, 10, 8, 5, 6, 7, 3, 0, 1, 2, 9, 4, 22, 24], oH 49 41 false (.iaS 3 (.t 47) (.t 48)) [22, 4, 9, 2, 1, 0, 3, 7, 6, 5, 8, 10, 20, 17, 18, 19, 15, 12, 13, 14, 21, 16, 11, 23, 24, 31, 30], oH 50 41 false (.fa 0 (.t 49)) [30, 31, 23, 11, 16, 21, 14, 13, 12, 15, 19, 18, 17, 20, 10, 8, 5, 6, 7, 3, 0,
  1, 2, 9, 4, 22, 24, 32], oH 51 41 false (.ld 1 false (.t 50)) [32, 22, 4, 9, 2, 1, 0, 3, 7, 6, 5, 8, 10, 20, 17, 18, 19, 15, 12, 13, 14, 21, 16, 11, 23, 31, 30, 24, 33], oD 52 41 false (.call 103 [(.t 46), (.t 51)]) [33, 30, 31, 32, 28, 25, 26, 23, 11, 16, 21, 14, 13, 12, 15, 19, 18, 17, 20, 10, 8, 5, 6, 7, 3, 0, 1, 2, 9, 4, 22, 27, 24, 34, 29], oH 53 41 false (.not (.t 52)) [29, 34, 27, 22, 4, 9,
  2, 1, 0, 3, 7, 6, 5, 8, 10, 20, 17, 18, 19, 15, 12, 13, 14, 21, 16, 11, 23, 26, 25, 28, 32, 31, 30, 33, 24, 35], oA 54 (.pick (.t 41) (cB true) (.t 53)) [35, 33, 30, 31, 32, 28, 25, 26, 27, 34, 29, 23, 11, 16, 21, 14, 13, 12, 15, 19, 18, 17, 20, 10, 8, 5, 6, 7, 3, 0, 1, 2, 9, 4, 22, 36, 24]]) (.cond (.t 54) (.seq (.ops false [oP 4 (.mv (cB false))]) .ret) .skip))) c45_1)
def c45_3 : C := (.seq (.seq (.ops false [oP 11 (.mv (.t 5)), oP 12 (.mv (.t 0)), oP 13 (.len (.t 12)), oP 14 (.bin .lss (.t 11) (.t 13))]) (.cond (.t 14) .skip (.exit 0))) c45_2)
def c45_4 : C := (.seq (.ops false [oP 4 (.mv (cB true))]) .ret)
def c45_5 : C := (.seq (.seq (.ops false [oP 5 (.mv (cI 0))]) (.block 0 (.loop c45_3))) c45_4)
def c45 : C := (.seq (.ops false [oP 4 (.mv (cB false))]) (.seq (.seq (.ops false [oP 6 (.mv (.t 0)), oP 7 (.len (.t 6)), oP 8 (.mv (.t 1)), oP 9 (.len (.t 8)), oP 10 (.bin .neq (.t 7) (.t 9))]) (.cond (.t 10) (.seq (.ops false [oP 4 (.mv (cB false))]) .ret) .skip)) c45_5))
def r45 : List RV := [(.tmp 4)]
theorem c45_ok : ∃ code, Try.f45.body = some code ∧ compC Try.prog Try.f45.ntmps code = some (C.strip c45) := ⟨_, rfl, by kernel_rfl⟩
theorem r45_ok : compRes Try.prog Try.f45.results.toList = some r45 := by kernel_rfl
theorem f45_ok : fnOk Try.prog 45 = true := by kernel_rfl
def c92_1 : C := (.ops false [oP 90 (.mv (.t 13)), oP 91 (.bin .add (.t 90) (cI 1)), oP 13 (.mv (.t 91))])
def c92_2 : C := (.seq (.block 5 (.seq (.ops false [oP 92 (.fa 2 (.t 11)), oP 93 (.ld 1 false (.t 92)), oP 94 (.mv (.t 13)), oP 95 (.iaS 2 (.t 93) (.t 94)), oP 96 (.ld 2 true (.t 95)), oP 14 (.new [(.v (.int .i64 0)), (.v (.bool false))]), oS (.st 2 (.t 14) (.t 96))]) (.seq (.ops false [oP 97 (.fa 1 (.t 14)), oP 98 (.ld 1 false (.t 97))]) (.cond (.t 98) (.ops true [oP 99 (.mv (.t 7)), oP 100 (.fa 0 (.t 14)),
  oA 101 (.ld 1 false (.t 100)) [1], oP 102 (.mv (.t 7)), oP 103 (.fa 0 (.t 14)), oA 104 (.ld 1 false (.t 103)) [4], oA 105 (.iaS 1 (.t 102) (.t 104)) [4, 5, 3], oA 106 (.ld 1 false (.t 105)) [3, 5, 4, 6], oP 107 (.fa 3 (.t 11)), oA 108 (.ld 1 false (.t 107)) [8], oA 109 (.bin .add (.t 106) (.t 108)) [8, 6, 4, 5, 3, 9, 7], oA 110 (.iaS 1 (.t 99) (.t 101)) [10, 9, 8, 7, 6, 5, 4, 3, 1, 2, 0],
  oT (.st 1 (.t 110) (.t 109)) [9, 8, 7, 6, 5, 4, 3, 2, 1, 0, 10, 11]]) (.ops true [oP 111 (.mv (.t 7)), oP 112 (.fa 0 (.t 14)), oA 113 (.ld 1 false (.t 112)) [1], oP 114 (.mv (.t 7)), oP 115 (.fa 0 (.t 14)), oA 116 (.ld 1 false (.t 115)) [4], oA 117 (.iaS 1 (.t 114) (.t 116)) [4, 5, 3], oA 118 (.ld 1 false (.t 117)) [3, 5, 4, 6], oP 119 (.fa 3 (.t 11)), oA 120 (.ld 1 false (.t 119)) [8],
  oA 121 (.bin .sub (.t 118) (.t 120)) [8, 6, 4, 5, 3, 9, 7], oA 122 (.iaS 1 (.t 111) (.t 113)) [10, 9, 8, 7, 6, 5, 4, 3, 1, 2, 0], oT (.st 1 (.t 122) (.t 121)) [9, 8, 7, 6, 5, 4, 3, 2, 1, 0, 10, 11]]))))) c92_1)
def c92_3 : C := (.seq (.seq (.ops false [oP 85 (.mv (.t 13)), oP 86 (.fa 2 (.t 11)), oP 87 (.ld 1 false (.t 86)), oP 88 (.len (.t 87)), oP 89 (.bin .lss (.t 85) (.t 88))]) (.cond (.t 89) .skip (.exit 4))) c92_2)
def c92_4 : C := (.ops false [oP 123 (.mv (.t 9)), oP 124 (.ld 4 true (.t 11)), oP 125 (.bsl 4 1 [(.v (.int .i64 0)), (.v (.int .i64 0)), .mt, (.v (.int .i64 0))] [(0, (.t 124))]), oP 126 (.app 4 48 (.t 123) (.t 125)), oP 9 (.mv (.t 126))])
def c92_5 : C := (.seq (.ops true [oP 61 (.mv (.t 8)), oP 62 (.fa 0 (.t 11)), oA 63 (.ld 1 false (.t 62)) [1], oP 64 (.mv (.t 8)), oP 65 (.fa 0 (.t 11)), oA 66 (.ld 1 false (.t 65)) [4], oA 67 (.iaS 1 (.t 64) (.t 66)) [4, 5, 3], oA 68 (.ld 1 false (.t 67)) [3, 5, 4, 6], oP 69 (.fa 3 (.t 11)), oA 70 (.ld 1 false (.t 69)) [8], oA 71 (.bin .sub (.t 68) (.t 70)) [8, 6, 4, 5, 3, 9, 7], oA 72 (.iaS 1 (.t 61) (.t 63))
  [10, 9, 8, 7, 6, 5, 4, 3, 1, 2, 0], oT (.st 1 (.t 72) (.t 71)) [9, 8, 7, 6, 5, 4, 3, 2, 1, 0, 10, 11]]) (.seq (.ops true [oP 73 (.mv (.t 8)), oP 74 (.fa 1 (.t 11)), oA 75 (.ld 1 false (.t 74)) [1], oP 76 (.mv (.t 8)), oP 77 (.fa 1 (.t 11)), oA 78 (.ld 1 false (.t 77)) [4], oA 79 (.iaS 1 (.t 76) (.t 78)) [4, 5, 3], oA 80 (.ld 1 false (.t 79)) [3, 5, 4, 6], oP 81 (.fa 3 (.t 11)),
  oA 82 (.ld 1 false (.t 81)) [8], oA 83 (.bin .add (.t 80) (.t 82)) [8, 6, 4, 5, 3, 9, 7], oA 84 (.iaS 1 (.t 73) (.t 75)) [10, 9, 8, 7, 6, 5, 4, 3, 1, 2, 0], oT (.st 1 (.t 84) (.t 83)) [9, 8, 7, 6, 5, 4, 3, 2, 1, 0, 10, 11]]) (.seq (.seq (.ops false [oP 13 (.mv (cI 0))]) (.block 4 (.loop c92_3))) c92_4)))
def c92_6 : C := (.seq (.seq (.ops false [oP 48 (.mv (.t 12)), oP 49 (.not (.t 48)), oP 50 (.mv (.t 49)), oG 51 50 false (.mv (.t 9)), oG 52 50 false (.len (.t 51)), oG 53 50 false (.bin .eql (.t 52) (cI 64)), oP 54 (.pick (.t 50) (cB true) (.t 53)), oP 55 (.mv (.t 54)), oG 56 55 false (.fa 2 (.t 11)), oG 57 55 false (.ld 1 false (.t 56)), oG 58 55 false (.len (.t 57)), oG 59 55 false (.bin .gtr (.t 58) (cI 32)),
  oP 60 (.pick (.t 55) (cB true) (.t 59))]) (.cond (.t 60) (.seq (.ops false [oP 4 (.mv (.c .mt)), oP 5 (.mv (cI 23))]) .ret) .skip)) c92_5)
def c92_7 : C := (.block 3 (.seq (.opsF [(false, oP 41 (.ld 6 true (.t 2))), (false, oP 42 (.mv (.t 7))), (false, oP 43 (.mv (.t 8))), (false, oP 44 (.mv (.t 10))), (true, oP 45 (.call 131 [(.t 41), (.t 42), (.t 43), (.t 44)])), (false, oP 40 (.mv (.t 45))), (false, oP 46 (.ext (.t 40) 0)), (false, oP 47 (.ext (.t 40) 1)), (false, oP 11 (.new [(.v (.int .i64 0)), (.v (.int .i64 0)), .mt, (.v (.int .i64 0))])),
  (false, oS (.st 4 (.t 11) (.t 46))), (false, oP 12 (.mv (.t 47)))]) (.weak c92_6)))
def c92_8 : C := (.seq (.seq (.ops false [oP 35 (.mv (.t 8)), oP 36 (.mv (.t 10)), oP 37 (.iaS 1 (.t 35) (.t 36)), oP 38 (.ld 1 false (.t 37)), oP 39 (.bin .gtr (.t 38) (cI 0))]) (.cond (.t 39) .skip (.exit 2))) c92_7)
def c92_9 : C := (.ops false [oP 33 (.mv (.t 10)), oP 34 (.bin .add (.t 33) (cI 1)), oP 10 (.mv (.t 34))])
def c92_10 : C := (.seq (.block 1 (.block 2 (.loop c92_8))) c92_9)
def c92_11 : C := (.seq (.seq (.ops false [oP 29 (.mv (.t 10)), oP 30 (.mv (.t 8)), oP 31 (.len (.t 30)), oP 32 (.bin .lss (.t 29) (.t 31))]) (.cond (.t 32) .skip (.exit 0))) c92_10)
def c92_12 : C := (.seq (.ops false [oP 127 (.mv (.t 9)), oP 4 (.mv (.t 127)), oP 5 (.mv (cI 0))]) .ret)
def c92_13 : C := (.seq (.ops false [oP 21 (.bsl 1 0 [(.v (.int .i64 0))] []), oP 22 (.fa 0 (.t 3)), oP 23 (.ld 1 false (.t 22)), oP 24 (.app 1 8 (.t 21) (.t 23)), oP 7 (.mv (.t 24))]) (.seq (.ops false [oP 25 (.bsl 1 0 [(.v (.int .i64 0))] []), oP 26 (.fa 1 (.t 3)), oP 27 (.ld 1 false (.t 26)), oP 28 (.app 1 8 (.t 25) (.t 27)), oP 8 (.mv (.t 28))]) (.seq (.ops false [oP 9 (.mv (.c .mt))])
  (.seq (.seq (.ops false [oP 10 (.mv (cI 0))]) (.block 0 (.loop c92_11))) c92_12))))
def c92 : C := (.seq (.ops false [oP 2 (.box 6 (.t 0)), oP 3 (.box 3 (.t 1)), oP 4 (.mv (.c .mt)), oP 5 (.mv (cI 0))]) (.seq (.seq (.ops false [oP 15 (.ld 6 true (.t 2)), oP 16 (.ld 3 true (.t 3)), oB 17 (.call 100 [(.t 15), (.t 16)]), oP 6 (.mv (.t 17))]) (.seq (.ops false [oP 18 (.mv (.t 6)), oP 19 (.bin .neq (.t 18) (cI 0))]) (.cond (.t 19) (.seq (.ops false [oP 20 (.mv (.t 6)), oP 4 (.mv (.c .mt)),
  oP 5 (.mv (.t 20))]) .ret) .skip))) c92_13))
def r92 : List RV := [(.tmp 4), (.tmp 5)]
theorem c92_ok : ∃ code, Try.f92.body = some code ∧ compC Try.prog Try.f92.ntmps code = some (C.strip c92) := ⟨_, rfl, by kernel_rfl⟩
theorem r92_ok : compRes Try.prog Try.f92.results.toList = some r92 := by kernel_rfl
theorem f92_ok : fnOk Try.prog 92 = true := by kernel_rfl
def c93 : C := (.seq (.ops false [oP 1 (.box 4 (.t 0)), oP 2 (.new [(.v (.int .i64 0)), (.v (.int .i64 0)), .mt, (.v (.int .i64 0))])]) (.seq (.ops false [oP 3 (.bsl 2 0 [(.v (.int .i64 0)), (.v (.bool false))] []), oP 4 (.fa 2 (.t 1)), oP 5 (.ld 1 false (.t 4)), oP 6 (.app 2 16 (.t 3) (.t 5)), oP 7 (.fa 2 (.t 1)), oS (.st 1 (.t 7) (.t 6))]) (.seq (.ops false [oP 8 (.ld 4 true (.t 1)), oS (.st 4 (.t 2) (.t 8))])
  .ret)))
def r93 : List RV := [(.cell 2 4 true)]
theorem c93_ok : ∃ code, Try.f93.body = some code ∧ compC Try.prog Try.f93.ntmps code = some (C.strip c93) := ⟨_, rfl, by kernel_rfl⟩
theorem r93_ok : compRes Try.prog Try.f93.results.toList = some r93 := by kernel_rfl
theorem f93_ok : fnOk Try.prog 93 = true := by kernel_rfl
def c99 : C := (.seq (.ops false [oP 1 (.box 3 (.t 0)), oP 2 (.new [.mt, (.v (.int .i64 0)), (.v (.int .i64 0))])]) (.seq (.ops false [oP 3 (.bsl 2 0 [(.v (.int .i64 0)), (.v (.bool false))] []), oP 4 (.fa 0 (.t 1)), oP 5 (.ld 1 false (.t 4)), oP 6 (.app 2 16 (.t 3) (.t 5)), oP 7 (.fa 0 (.t 1)), oS (.st 1 (.t 7) (.t 6))]) (.seq (.ops false [oP 8 (.ld 3 true (.t 1)), oS (.st 3 (.t 2) (.t 8))]) .ret)))
def r99 : List RV := [(.cell 2 3 true)]
theorem c99_ok : ∃ code, Try.f99.body = some code ∧ compC Try.prog Try.f99.ntmps code = some (C.strip c99) := ⟨_, rfl, by kernel_rfl⟩
theorem r99_ok : compRes Try.prog Try.f99.results.toList = some r99 := by kernel_rfl
theorem f99_ok : fnOk Try.prog 99 = true := by kernel_rfl
def c103_1 : C := (.ops false [oP 15 (.mv (.t 5)), oP 16 (.bin .add (.t 15) (cI 1)), oP 5 (.mv (.t 16))])
def c103_2 : C := (.seq (.block 1 (.seq (.ops true [oP 17 (.mv (.t 0)), oP 18 (.mv (.t 5)), oA 19 (.iaS 2 (.t 17) (.t 18)) [1, 0], oA 20 (.ld 2 true (.t 19)) [0, 1, 2], oP 21 (.mv (.t 1)), oP 22 (.mv (.t 5)), oA 23 (.iaS 2 (.t 21) (.t 22)) [5, 4], oA 24 (.ld 2 true (.t 23)) [4, 5, 6], oA 25 (.eqa true [0, 1] (.t 20) (.t 24)) [6, 5, 4, 2, 1, 0, 7, 3]]) (.cond (.t 25) (.seq (.ops false [oP 4 (.mv (cB false))]) .ret)
  .skip))) c103_1)
def c103_3 : C := (.seq (.seq (.ops false [oP 11 (.mv (.t 5)), oP 12 (.mv (.t 0)), oP 13 (.len (.t 12)), oP 14 (.bin .lss (.t 11) (.t 13))]) (.cond (.t 14) .skip (.exit 0))) c103_2)
def c103_4 : C := (.seq (.ops false [oP 4 (.mv (cB true))]) .ret)
def c103_5 : C := (.seq (.seq (.ops false [oP 5 (.mv (cI 0))]) (.block 0 (.loop c103_3))) c103_4)
def c103 : C := (.seq (.ops false [oP 4 (.mv (cB false))]) (.seq (.seq (.ops false [oP 6 (.mv (.t 0)), oP 7 (.len (.t 6)), oP 8 (.mv (.t 1)), oP 9 (.len (.t 8)), oP 10 (.bin .neq (.t 7) (.t 9))]) (.cond (.t 10) (.seq (.ops false [oP 4 (.mv (cB false))]) .ret) .skip)) c103_5))
def r103 : List RV := [(.tmp 4)]
theorem c103_ok : ∃ code, Try.f103.body = some code ∧ compC Try.prog Try.f103.ntmps code = some (C.strip c103) := ⟨_, rfl, by kernel_rfl⟩
theorem r103_ok : compRes Try.prog Try.f103.results.toList = some r103 := by kernel_rfl
theorem f103_ok : fnOk Try.prog 103 = true := by kernel_rfl
def c131_1 : C := (.ops false [oP 39 (.mv (.t 13)), oP 40 (.bin .add (.t 39) (cI 1)), oP 13 (.mv (.t 40))])
def c131_2 : C := (.seq (.block 3 (.seq (.ops false [oP 41 (.fa 2 (.t 4)), oP 42 (.ld 1 false (.t 41)), oP 43 (.mv (.t 13)), oP 44 (.iaS 3 (.t 42) (.t 43)), oP 45 (.fa 1 (.t 44)), oP 46 (.ld 1 false (.t 45)), oP 47 (.mv (.t 11)), oP 48 (.bin .eql (.t 46) (.t 47)), oP 49 (.mv (.t 48)), oG 50 49 true (.mv (.t 2)), oG 51 49 true (.mv (.t 13)), oG 52 49 true (.iaS 1 (.t 50) (.t 51)),
  oG 53 49 true (.ld 1 false (.t 52)), oG 54 49 true (.bin .lss (.t 53) (cI 0)), oP 55 (.pick (.t 49) (.t 54) (cB false))]) (.cond (.t 55) (.seq (.ops false [oP 56 (.mv (.t 13)), oP 57 (.fa 1 (.t 10)), oS (.st 1 (.t 57) (.t 56))]) (.seq (.ops true [oP 58 (.fa 3 (.t 10)), oA 59 (.ld 1 false (.t 58)) [0], oP 60 (.mv (.t 2)), oP 61 (.mv (.t 13)), oA 62 (.iaS 1 (.t 60) (.t 61)) [3, 2],
  oA 63 (.ld 1 false (.t 62)) [2, 3, 4], oA 64 (.neg (.t 63)) [4, 3, 2, 5], oA 65 (.mnx false (.t 59) (.t 64)) [5, 2, 3, 4, 0, 6, 1], oA 66 (.fa 3 (.t 10)) [7, 6, 5, 4, 3, 2, 1, 0], oT (.st 1 (.t 66) (.t 65)) [6, 5, 4, 3, 2, 1, 0, 7, 8]]) (.seq (.ops false [oP 67 (.ld 4 true (.t 10)), oS (.st 4 (.t 8) (.t 67)), oP 9 (.mv (cB true))]) .ret))) .skip))) c131_1)
def c131_3 : C := (.seq (.seq (.ops false [oP 35 (.mv (.t 13)), oP 36 (.mv (.t 2)), oP 37 (.len (.t 36)), oP 38 (.bin .lss (.t 35) (.t 37))]) (.cond (.t 38) .skip (.exit 2))) c131_2)
def c131_4 : C := (.seq (.ops false [oP 78 (.fa 2 (.t 10)), oP 79 (.ld 1 false (.t 78)), oP 80 (.ld 2 true (.t 14)), oP 81 (.bsl 2 1 [(.v (.int .i64 0)), (.v (.bool false))] [(0, (.t 80))]), oP 82 (.app 2 16 (.t 79) (.t 81)), oP 83 (.fa 2 (.t 10)), oS (.st 1 (.t 83) (.t 82))]) (.seq (.ops true [oP 84 (.fa 3 (.t 10)), oA 85 (.ld 1 false (.t 84)) [0], oP 86 (.mv (.t 1)), oP 87 (.fa 0 (.t 14)),
  oA 88 (.ld 1 false (.t 87)) [3], oA 89 (.iaS 1 (.t 86) (.t 88)) [3, 4, 2], oA 90 (.ld 1 false (.t 89)) [2, 4, 3, 5], oE 91 (.call 157 [(.t 90)]) [5, 3, 4, 2, 6], oA 92 (.mnx false (.t 85) (.t 91)) [6, 2, 4, 3, 5, 0, 7, 1], oA 93 (.fa 3 (.t 10)) [8, 7, 6, 5, 4, 3, 2, 1, 0], oT (.st 1 (.t 93) (.t 92)) [6, 5, 4, 3, 2, 1, 0, 7, 8, 9]]) (.ops false [oP 95 (.ld 6 true (.t 4)),
  oP 96 (.ld 2 true (.t 14)), oB 97 (.call 158 [(.t 95), (.t 96)]), oP 94 (.mv (.t 97)), oP 98 (.ext (.t 94) 0), oP 99 (.ext (.t 94) 1), oP 11 (.mv (.t 99))])))
def c131_5 : C := (.seq (.ops false [oP 69 (.ld 6 true (.t 4)), oP 70 (.mv (.t 1)), oP 71 (.mv (.t 11)), oB 72 (.call 156 [(.t 69), (.t 70), (.t 71)]), oP 68 (.mv (.t 72)), oP 73 (.ext (.t 68) 0), oP 74 (.ext (.t 68) 1), oP 14 (.new [(.v (.int .i64 0)), (.v (.bool false))]), oS (.st 2 (.t 14) (.t 73)), oP 15 (.mv (.t 74))]) (.seq (.seq (.ops false [oP 75 (.mv (.t 15)), oP 76 (.not (.t 75))]) (.cond (.t 76)
  (.seq (.ops false [oP 77 (.ld 4 true (.t 10)), oS (.st 4 (.t 8) (.t 77)), oP 9 (.mv (cB false))]) .ret) .skip)) c131_4))
def c131_6 : C := (.ops false [oP 33 (.mv (.t 12)), oP 34 (.bin .add (.t 33) (cI 1)), oP 12 (.mv (.t 34))])
def c131_7 : C := (.seq (.block 1 (.seq (.seq (.ops false [oP 13 (.mv (cI 0))]) (.block 2 (.loop c131_3))) c131_5)) c131_6)
def c131_8 : C := (.seq (.seq (.ops false [oP 28 (.mv (.t 12)), oP 29 (.fa 0 (.t 4)), oP 30 (.ld 1 false (.t 29)), oP 31 (.len (.t 30)), oP 32 (.bin .leq (.t 28) (.t 31))]) (.cond (.t 32) .skip (.exit 0))) c131_7)
def c131_9 : C := (.seq (.ops false [oP 100 (.ld 4 true (.t 10)), oS (.st 4 (.t 8) (.t 100)), oP 9 (.mv (cB false))]) .ret)
def c131 : C := (.seq (.ops false [oP 4 (.box 6 (.t 0)), oP 8 (.new [(.v (.int .i64 0)), (.v (.int .i64 0)), .mt, (.v (.int .i64 0))]), oP 9 (.mv (cB false))]) (.seq (.ops false [oP 16 (.mv (.t 3)), oP 17 (.mv (.t 2)), oP 18 (.mv (.t 3)), oP 19 (.iaS 1 (.t 17) (.t 18)), oP 20 (.ld 1 false (.t 19)), oP 21 (.bld [(.v (.int .i64 0)), (.v (.int .i64 0)), .mt, (.v (.int .i64 0))] [(0, (1, (.t 16))), (3, (1,
  (.t 20)))]), oP 10 (.new [(.v (.int .i64 0)), (.v (.int .i64 0)), .mt, (.v (.int .i64 0))]), oS (.st 4 (.t 10) (.t 21))]) (.seq (.ops false [oP 22 (.fa 2 (.t 4)), oP 23 (.ld 1 false (.t 22)), oP 24 (.mv (.t 3)), oP 25 (.iaS 3 (.t 23) (.t 24)), oP 26 (.fa 1 (.t 25)), oP 27 (.ld 1 false (.t 26)), oP 11 (.mv (.t 27))]) (.seq (.seq (.ops false [oP 12 (.mv (cI 0))]) (.block 0 (.loop c131_8)))
  c131_9))))
def r131 : List RV := [(.cell 8 4 true), (.tmp 9)]
theorem c131_ok : ∃ code, Try.f131.body = some code ∧ compC Try.prog Try.f131.ntmps code = some (C.strip c131) := ⟨_, rfl, by kernel_rfl⟩
theorem r131_ok : compRes Try.prog Try.f131.results.toList = some r131 := by kernel_rfl
theorem f131_ok : fnOk Try.prog 131 = true := by kernel_rfl
def c156_1 : C := (.ops false [oP 13 (.mv (.t 8)), oP 14 (.bin .add (.t 13) (cI 1)), oP 8 (.mv (.t 14))])
def c156_2 : C := (.seq (.block 1 (.seq (.ops false [oP 15 (.mv (.t 1)), oP 16 (.mv (.t 8)), oP 17 (.iaS 1 (.t 15) (.t 16)), oP 18 (.ld 1 false (.t 17)), oP 19 (.bin .gtr (.t 18) (cI 0)), oP 20 (.mv (.t 19)), oG 21 20 true (.fa 1 (.t 3)), oG 22 20 true (.ld 1 false (.t 21)), oG 23 20 true (.mv (.t 8)), oG 24 20 true (.iaS 7 (.t 22) (.t 23)), oG 25 20 true (.fa 1 (.t 24)), oG 26 20 true (.ld 1 false (.t 25)),
  oG 27 20 true (.mv (.t 2)), oG 28 20 true (.bin .eql (.t 26) (.t 27)), oP 29 (.pick (.t 20) (.t 28) (cB false)), oP 30 (.mv (.t 29)), oG 31 30 false (.mv (.t 1)), oG 32 30 false (.mv (.t 8)), oG 33 30 false (.iaS 1 (.t 31) (.t 32)), oG 34 30 false (.ld 1 false (.t 33)), oG 35 30 false (.bin .lss (.t 34) (cI 0)), oG 36 30 false (.mv (.t 35)), oG 37 36 true (.fa 1 (.t 3)),
  oG 38 36 true (.ld 1 false (.t 37)), oG 39 36 true (.mv (.t 8)), oG 40 36 true (.iaS 7 (.t 38) (.t 39)), oG 41 36 true (.fa 2 (.t 40)), oG 42 36 true (.ld 1 false (.t 41)), oG 43 36 true (.mv (.t 2)), oG 44 36 true (.bin .eql (.t 42) (.t 43)), oG 45 30 false (.pick (.t 36) (.t 44) (cB false)), oP 46 (.pick (.t 30) (cB true) (.t 45))]) (.cond (.t 46) (.seq (.ops false [oP 47 (.mv (.t 8)),
  oP 48 (.mv (.t 1)), oP 49 (.mv (.t 8)), oP 50 (.iaS 1 (.t 48) (.t 49)), oP 51 (.ld 1 false (.t 50)), oP 52 (.bin .lss (.t 51) (cI 0)), oP 53 (.bld [(.v (.int .i64 0)), (.v (.bool false))] [(0, (1, (.t 47))), (1, (1, (.t 52)))]), oS (.st 2 (.t 6) (.t 53)), oP 7 (.mv (cB true))]) .ret) .skip))) c156_1)
def c156_3 : C := (.seq (.seq (.ops false [oP 9 (.mv (.t 8)), oP 10 (.mv (.t 1)), oP 11 (.len (.t 10)), oP 12 (.bin .lss (.t 9) (.t 11))]) (.cond (.t 12) .skip (.exit 0))) c156_2)
def c156_4 : C := (.seq (.ops false [oP 54 (.bld [(.v (.int .i64 0)), (.v (.bool false))] []), oS (.st 2 (.t 6) (.t 54)), oP 7 (.mv (cB false))]) .ret)
def c156 : C := (.seq (.ops false [oP 3 (.box 6 (.t 0)), oP 6 (.new [(.v (.int .i64 0)), (.v (.bool false))]), oP 7 (.mv (cB false))]) (.seq (.seq (.ops false [oP 8 (.mv (cI 0))]) (.block 0 (.loop c156_3))) c156_4))
def r156 : List RV := [(.cell 6 2 true), (.tmp 7)]
theorem c156_ok : ∃ code, Try.f156.body = some code ∧ compC Try.prog Try.f156.ntmps code = some (C.strip c156) := ⟨_, rfl, by kernel_rfl⟩
theorem r156_ok : compRes Try.prog Try.f156.results.toList = some r156 := by kernel_rfl
theorem f156_ok : fnOk Try.prog 156 = true := by kernel_rfl
def c157 : C := (.seq (.ops false [oP 2 (.mv (cI 0))]) (.seq (.ops false [oP 3 (.mv (.t 0)), oP 4 (.mv (.t 0)), oP 5 (.neg (.t 4)), oP 6 (.mnx true (.t 3) (.t 5)), oP 2 (.mv (.t 6))]) .ret))
def r157 : List RV := [(.tmp 2)]
theorem c157_ok : ∃ code, Try.f157.body = some code ∧ compC Try.prog Try.f157.ntmps code = some (C.strip c157) := ⟨_, rfl, by kernel_rfl⟩
theorem r157_ok : compRes Try.prog Try.f157.results.toList = some r157 := by kernel_rfl
theorem f157_ok : fnOk Try.prog 157 = true := by kernel_rfl
def c158_1 : C := (.seq (.ops true [oP 19 (.fa 1 (.t 6)), oA 20 (.ld 1 false (.t 19)) [0], oP 21 (.fa 2 (.t 6)), oA 22 (.ld 1 false (.t 21)) [2], oA 4 (.mv (.t 20)) [0, 1], oA 5 (.mv (.t 22)) [2, 1, 0, 4, 3]]) .ret)
def c158 : C := (.seq (.ops false [oP 2 (.box 6 (.t 0)), oP 3 (.box 2 (.t 1)), oP 4 (.mv (cI 0)), oP 5 (.mv (cI 0))]) (.seq (.ops false [oP 7 (.fa 1 (.t 2)), oP 8 (.ld 1 false (.t 7)), oP 9 (.fa 0 (.t 3)), oP 10 (.ld 1 false (.t 9)), oP 11 (.iaS 7 (.t 8) (.t 10)), oP 12 (.ld 7 true (.t 11)), oP 6 (.new [(.v (.string ({ data := #[] }))), (.v (.int .i64 0)), (.v (.int .i64 0)), (.v (.int .i64 0)),
  (.v (.int .i64 0)), (.v (.int .i64 0)), .mt]), oS (.st 7 (.t 6) (.t 12))]) (.seq (.seq (.ops false [oP 13 (.fa 1 (.t 3)), oP 14 (.ld 1 false (.t 13))]) (.cond (.t 14) (.seq (.ops true [oP 15 (.fa 2 (.t 6)), oA 16 (.ld 1 false (.t 15)) [0], oP 17 (.fa 1 (.t 6)), oA 18 (.ld 1 false (.t 17)) [2], oA 4 (.mv (.t 16)) [0, 1], oA 5 (.mv (.t 18)) [2, 1, 0, 4, 3]]) .ret) .skip)) c158_1)))
def r158 : List RV := [(.tmp 4), (.tmp 5)]
theorem c158_ok : ∃ code, Try.f158.body = some code ∧ compC Try.prog Try.f158.ntmps code = some (C.strip c158) := ⟨_, rfl, by kernel_rfl⟩
theorem r158_ok : compRes Try.prog Try.f158.results.toList = some r158 := by kernel_rfl
theorem f158_ok : fnOk Try.prog 158 = true := by kernel_rfl
def c22 : C := (.seq (.ops false [oP 2 (.mv (cB false))]) (.seq (.ops false [oP 3 (.mv (.t 0)), oP 4 (.len (.t 3)), oP 5 (.bin .leq (.t 4) (cI 400)), oP 2 (.mv (.t 5))]) .ret))
def r22 : List RV := [(.tmp 2)]
theorem c22_ok : ∃ code, Try.f22.body = some code ∧ compC Try.prog Try.f22.ntmps code = some (C.strip c22) := ⟨_, rfl, by kernel_rfl⟩
theorem r22_ok : compRes Try.prog Try.f22.results.toList = some r22 := by kernel_rfl
theorem f22_ok : fnOk Try.prog 22 = true := by kernel_rfl
def c35 : C := (.seq (.ops false [oP 4 (.mv (cI 0))]) (.seq (.ops false [oP 5 (.mv (.t 0)), oP 6 (.mv (.t 1)), oB 7 (.call 69 [(.t 5), (.t 6)]), oP 4 (.mv (.t 7))]) .ret))
def r35 : List RV := [(.tmp 4)]
theorem c35_ok : ∃ code, Try.f35.body = some code ∧ compC Try.prog Try.f35.ntmps code = some (C.strip c35) := ⟨_, rfl, by kernel_rfl⟩
theorem r35_ok : compRes Try.prog Try.f35.results.toList = some r35 := by kernel_rfl
theorem f35_ok : fnOk Try.prog 35 = true := by kernel_rfl
def c83_1 : C := (.seq (.ops true [oP 12 (.fa 1 (.t 2)), oA 13 (.ld 1 false (.t 12)) [0], oP 14 (.fa 2 (.t 2)), oA 15 (.ld 1 false (.t 14)) [2], oA 4 (.mv (.t 13)) [0, 1], oA 5 (.mv (.t 15)) [2, 1, 0, 4, 3]]) .ret)
def c83 : C := (.seq (.ops false [oP 2 (.box 7 (.t 0)), oP 4 (.mv (cI 0)), oP 5 (.mv (cI 0))]) (.seq (.seq (.ops false [oP 6 (.mv (.t 1)), oP 7 (.bin .lss (.t 6) (cI 0))]) (.cond (.t 7) (.seq (.ops true [oP 8 (.fa 2 (.t 2)), oA 9 (.ld 1 false (.t 8)) [0], oP 10 (.fa 1 (.t 2)), oA 11 (.ld 1 false (.t 10)) [2], oA 4 (.mv (.t 9)) [0, 1], oA 5 (.mv (.t 11)) [2, 1, 0, 4, 3]]) .ret) .skip)) c83_1))
def r83 : List RV := [(.tmp 4), (.tmp 5)]
theorem c83_ok : ∃ code, Try.f83.body = some code ∧ compC Try.prog Try.f83.ntmps code = some (C.strip c83) := ⟨_, rfl, by kernel_rfl⟩
theorem r83_ok : compRes Try.prog Try.f83.results.toList = some r83 := by kernel_rfl
theorem f83_ok : fnOk Try.prog 83 = true := by kernel_rfl
def c84 : C := (.seq (.ops false [oP 2 (.mv (cI 0))]) (.seq (.ops false [oP 3 (.mv (.t 0)), oP 4 (.mv (.t 0)), oP 5 (.neg (.t 4)), oP 6 (.mnx true (.t 3) (.t 5)), oP 2 (.mv (.t 6))]) .ret))
def r84 : List RV := [(.tmp 2)]
theorem c84_ok : ∃ code, Try.f84.body = some code ∧ compC Try.prog Try.f84.ntmps code = some (C.strip c84) := ⟨_, rfl, by kernel_rfl⟩
theorem r84_ok : compRes Try.prog Try.f84.results.toList = some r84 := by kernel_rfl
theorem f84_ok : fnOk Try.prog 84 = true := by kernel_rfl
set_option maxHeartbeats 4000000 in
theorem rends_c (s : Seg) (r : Int) (nn : Nm) : CallsA Try.prog 83 [.agg s.row, di r] Hp.none nn (Pu (.tup [di (frOf (s, r)), di (toOf (s, r))]) Hp.none) := by
  obtain ⟨code, h1, h2⟩ := c83_ok
  refine callsA_of (T0_ok _) mixed (N := fun t => (0, t)) Try.func83 h1 h2 r83_ok [] false js_nil js_nil' (by simp [Try.f83]) ?_
  by_cases a1 : r < 0 <;> simp (maxSteps:=500000) only [↓vp, vv, ↓reduceIte, simprocAttr, c83, r83, c83_1, Seg.row, a1, Pu, frOf, toOf]
set_option maxHeartbeats 1000000 in
theorem rabs_c (x : Int) (h : -1000000 ≤ x ∧ x ≤ 1000000) (nn : Nm) : CallsA Try.prog 84 [di x] Hp.none nn (Pu (di (absI x)) Hp.none) := by
  obtain ⟨code, h1, h2⟩ := c84_ok
  refine callsA_of (T0_ok _) mixed (N := fun t => (0, t)) Try.func84 h1 h2 r84_ok [] false js_nil js_nil' (by simp [Try.f84]) ?_
  have w1 : IntKind.i64.wrap (0 - x) = -x := by rw [wrap_i (by omega)]; omega
  have e : (if x < -x then -x else x) = absI x := rfl
  simp (maxSteps:=500000) only [↓vp, vv, ↓reduceIte, simprocAttr, c84, r84, w1, e, Pu]
theorem tc_rends {T : Tbl} (hT : TblOk Try.prog T) : TblOk Try.prog (tc 83 (rowPu selEnds) T) :=
  tc_pu f83_ok (fun args pre d h hp nn => by
    unfold selEnds at h
    split at h
    · split at h
      · rename_i hs
        cases h
        rw [segOf1_eq hs]
        exact rends_c _ _ nn
      · cases h
    · cases h) hT
theorem tc_rabs {T : Tbl} (hT : TblOk Try.prog T) : TblOk Try.prog (tc 84 (rowPu selAbs) T) :=
  tc_pu f84_ok (fun args pre d h hp nn => by
    unfold selAbs at h
    split at h <;> cases h
    exact rabs_c _ hp nn) hT
def c100_1 : C := (.ops false [oP 68 (.bin .add (.t 47) (cI 1)), oP 47 (.mv (.t 68))])
def c100_2 : C := (.seq (.block 1 (.seq (.ops false [oP 49 (.mv (.t 47)), oP 50 (.iaS 1 (.t 45) (.t 47)), oP 51 (.ld 1 false (.t 50)), oP 6 (.mv (.t 49)), oP 7 (.mv (.t 51))]) (.seq (.ops false [oP 52 (.fa 1 (.t 2)), oP 53 (.ld 1 false (.t 52)), oP 54 (.mv (.t 6)), oP 55 (.iaS 7 (.t 53) (.t 54)), oP 56 (.fa 3 (.t 55)), oP 57 (.ld 1 false (.t 56)), oP 58 (.mnx false (cI 1000) (.t 57)), oP 8 (.mv (.t 58))])
  (.seq (.ops false [oP 59 (.mv (.t 7)), oP 60 (.mv (.t 8)), oP 61 (.neg (.t 60)), oP 62 (.bin .lss (.t 59) (.t 61)), oP 63 (.mv (.t 62)), oG 64 63 false (.mv (.t 7)), oG 65 63 false (.mv (.t 8)), oG 66 63 false (.bin .gtr (.t 64) (.t 65)), oP 67 (.pick (.t 63) (cB true) (.t 66))]) (.cond (.t 67) (.seq (.ops false [oP 4 (.mv (cI 1))]) .ret) .skip))))) c100_1)
def c100_3 : C := (.seq (.ops false [oP 48 (.bin .lss (.t 47) (.t 46))]) (.seq (.cond (.t 48) .skip (.exit 0)) c100_2))
def c100_4 : C := (.ops false [oP 82 (.bin .add (.t 72) (cI 1)), oP 72 (.mv (.t 82))])
def c100_5 : C := (.seq (.block 3 (.seq (.ops false [oP 74 (.iaS 1 (.t 70) (.t 72)), oP 75 (.ld 1 false (.t 74)), oP 10 (.mv (.t 75))]) (.seq (.ops false [oP 76 (.mv (.t 10)), oP 77 (.bin .lss (.t 76) (cI (-1000))), oP 78 (.mv (.t 77)), oG 79 78 false (.mv (.t 10)), oG 80 78 false (.bin .gtr (.t 79) (cI 1000)), oP 81 (.pick (.t 78) (cB true) (.t 80))]) (.cond (.t 81) (.seq (.ops false [oP 4 (.mv (cI 1))]) .ret)
  .skip)))) c100_4)
def c100_6 : C := (.seq (.ops false [oP 73 (.bin .lss (.t 72) (.t 71))]) (.seq (.cond (.t 73) .skip (.exit 2)) c100_5))
def c100_7 : C := (.ops false [oP 99 (.bin .add (.t 86) (cI 1)), oP 86 (.mv (.t 99))])
def c100_8 : C := (.seq (.block 5 (.seq (.ops false [oP 88 (.mv (.t 86)), oP 11 (.mv (.t 88))]) (.seq (.ops false [oP 90 (.ld 6 true (.t 2)), oP 91 (.ld 3 true (.t 3)), oP 92 (.mv (.t 11)), oB 93 (.call 144 [(.t 90), (.t 91), (.t 92)]), oP 89 (.mv (.t 93)), oP 94 (.ext (.t 89) 0), oP 95 (.ext (.t 89) 1), oP 12 (.mv (.t 94)), oP 13 (.mv (.t 95))]) (.seq (.ops false [oP 96 (.mv (.t 12)), oP 97 (.mv (.t 13)),
  oP 98 (.bin .neq (.t 96) (.t 97))]) (.cond (.t 98) (.seq (.ops false [oP 4 (.mv (cI 12))]) .ret) .skip))))) c100_7)
def c100_9 : C := (.seq (.ops false [oP 87 (.bin .lss (.t 86) (.t 85))]) (.seq (.cond (.t 87) .skip (.exit 4)) c100_8))
def c100_10 : C := (.seq (.ops false [oP 4 (.mv (cI 0))]) .ret)
def c100_11 : C := (.seq (.seq (.ops true [oP 100 (.ld 6 true (.t 2)), oP 101 (.ld 3 true (.t 3)), oA 102 (.call 128 [(.t 100), (.t 101)]) [1, 0], oA 103 (.len (.t 102)) [0, 1, 2], oP 104 (.fa 0 (.t 2)), oA 105 (.ld 1 false (.t 104)) [4], oA 106 (.len (.t 105)) [4, 5], oA 107 (.bin .neq (.t 103) (.t 106)) [5, 4, 2, 1, 0, 6, 3]]) (.cond (.t 107) (.seq (.ops false [oP 4 (.mv (cI 13))]) .ret) .skip)) c100_10)
def c100_12 : C := (.seq (.seq (.ops false [oP 83 (.fa 0 (.t 2)), oP 84 (.ld 1 false (.t 83)), oP 85 (.len (.t 84)), oP 86 (.mv (cI 0))]) (.block 4 (.loop c100_9))) c100_11)
def c100_13 : C := (.seq (.seq (.ops false [oP 69 (.fa 1 (.t 3)), oP 70 (.ld 1 false (.t 69)), oP 71 (.len (.t 70)), oP 72 (.mv (cI 0))]) (.block 2 (.loop c100_6))) c100_12)
def c100_14 : C := (.seq (.seq (.ops false [oP 44 (.fa 0 (.t 3)), oP 45 (.ld 1 false (.t 44)), oP 46 (.len (.t 45)), oP 47 (.mv (cI 0))]) (.block 0 (.loop c100_3))) c100_13)
def c100_15 : C := (.seq (.seq (.ops false [oP 19 (.fa 0 (.t 3)), oP 20 (.ld 1 false (.t 19)), oP 21 (.len (.t 20)), oP 22 (.fa 1 (.t 2)), oP 23 (.ld 1 false (.t 22)), oP 24 (.len (.t 23)), oP 25 (.bin .neq (.t 21) (.t 24)), oP 26 (.mv (.t 25)), oG 27 26 false (.fa 1 (.t 3)), oG 28 26 false (.ld 1 false (.t 27)), oG 29 26 false (.len (.t 28)), oG 30 26 false (.fa 2 (.t 2)), oG 31 26 false (.ld 1 false (.t 30)),
  oG 32 26 false (.len (.t 31)), oG 33 26 false (.bin .neq (.t 29) (.t 32)), oP 34 (.pick (.t 26) (cB true) (.t 33)), oP 35 (.mv (.t 34)), oG 36 35 false (.fa 2 (.t 3)), oG 37 35 false (.ld 1 false (.t 36)), oG 38 35 false (.len (.t 37)), oG 39 35 false (.fa 3 (.t 2)), oG 40 35 false (.ld 1 false (.t 39)), oG 41 35 false (.len (.t 40)), oG 42 35 false (.bin .neq (.t 38) (.t 41)),
  oP 43 (.pick (.t 35) (cB true) (.t 42))]) (.cond (.t 43) (.seq (.ops false [oP 4 (.mv (cI 9))]) .ret) .skip)) c100_14)
def c100 : C := (.seq (.ops false [oP 2 (.box 6 (.t 0)), oP 3 (.box 3 (.t 1)), oP 4 (.mv (cI 0))]) (.seq (.seq (.ops false [oP 14 (.ld 6 true (.t 2)), oB 15 (.call 97 [(.t 14)]), oP 5 (.mv (.t 15))]) (.seq (.ops false [oP 16 (.mv (.t 5)), oP 17 (.bin .neq (.t 16) (cI 0))]) (.cond (.t 17) (.seq (.ops false [oP 18 (.mv (.t 5)), oP 4 (.mv (.t 18))]) .ret) .skip))) c100_15))
def r100 : List RV := [(.tmp 4)]
theorem c100_ok : ∃ code, Try.f100.body = some code ∧ compC Try.prog Try.f100.ntmps code = some (C.strip c100) := ⟨_, rfl, by kernel_rfl⟩
theorem r100_ok : compRes Try.prog Try.f100.results.toList = some r100 := by kernel_rfl
theorem f100_ok : fnOk Try.prog 100 = true := by kernel_rfl
def c128_1 : C := (.ops false [oP 65 (.bin .add (.t 32) (cI 1)), oP 32 (.mv (.t 65))])
def c128_2 : C := (.seq (.block 5 (.seq (.ops false [oP 34 (.mv (.t 32)), oP 35 (.iaS 7 (.t 30) (.t 32)), oP 36 (.ld 7 true (.t 35)), oP 11 (.new [(.v (.string ({ data := #[] }))), (.v (.int .i64 0)), (.v (.int .i64 0)), (.v (.int .i64 0)), (.v (.int .i64 0)), (.v (.int .i64 0)), .mt]), oP 10 (.mv (.t 34)), oS (.st 7 (.t 11) (.t 36))]) (.seq (.ops false [oP 37 (.fa 0 (.t 3)), oP 38 (.ld 1 false (.t 37)),
  oP 39 (.mv (.t 10)), oP 40 (.iaS 1 (.t 38) (.t 39)), oP 41 (.ld 1 false (.t 40)), oP 42 (.bin .neq (.t 41) (cI 0))]) (.cond (.t 42) (.seq (.ops true [oP 44 (.ld 7 true (.t 11)), oP 45 (.fa 0 (.t 3)), oA 46 (.ld 1 false (.t 45)) [1], oP 47 (.mv (.t 10)), oA 48 (.iaS 1 (.t 46) (.t 47)) [1, 3, 2], oA 49 (.ld 1 false (.t 48)) [2, 3, 1, 4], oE 50 (.call 83 [(.t 44), (.t 49)]) [4, 1, 3, 2, 5, 0],
  oA 43 (.mv (.t 50)) [0, 5, 2, 3, 1, 4, 6], oA 51 (.ext (.t 43) 0) [6, 4, 1, 3, 2, 5, 0, 7], oA 52 (.ext (.t 43) 1) [6, 4, 1, 3, 2, 5, 0, 7], oA 12 (.mv (.t 51)) [7, 5, 4, 3, 2, 1, 0, 6, 8], oA 13 (.mv (.t 52)) [8, 7, 6, 5, 4, 3, 2, 1, 0, 10, 9]]) (.ops false [oP 53 (.mv (.t 9)), oP 54 (.mv (.t 53)), oG 55 54 true (.mv (.t 13)), oG 56 54 true (.mv (.t 8)), oG 57 54 true (.bin .neq (.t 55) (.t 56)),
  oG 58 54 true (.mv (.t 57)), oG 59 58 false (.mv (.t 6)), oG 60 58 false (.mv (.t 12)), oG 61 58 false (.iaS 1 (.t 59) (.t 60)), oG 62 58 false (.ld 1 false (.t 61)), oG 63 54 true (.pick (.t 58) (cB true) (.t 62)), oP 64 (.pick (.t 54) (.t 63) (cB false)), oP 9 (.mv (.t 64))])) .skip)))) c128_1)
def c128_3 : C := (.seq (.ops false [oP 33 (.bin .lss (.t 32) (.t 31))]) (.seq (.cond (.t 33) .skip (.exit 4)) c128_2))
def c128_4 : C := (.seq (.ops false [oP 66 (.mv (.t 9)), oP 67 (.mv (.t 66)), oG 68 67 true (.mv (.t 7)), oG 69 67 true (.bin .lss (.t 68) (cI 0)), oP 70 (.pick (.t 67) (.t 69) (cB false))]) (.cond (.t 70) (.ops false [oP 71 (.mv (.t 8)), oP 7 (.mv (.t 71))]) .skip))
def c128_5 : C := (.ops false [oP 72 (.bin .add (.t 21) (cI 1)), oP 21 (.mv (.t 72))])
def c128_6 : C := (.seq (.block 3 (.seq (.ops false [oP 23 (.mv (.t 21)), oP 8 (.mv (.t 23))]) (.seq (.ops false [oP 24 (.mv (.t 6)), oP 25 (.mv (.t 8)), oP 26 (.iaS 1 (.t 24) (.t 25)), oP 27 (.ld 1 false (.t 26)), oP 28 (.not (.t 27)), oP 9 (.mv (.t 28))]) (.seq (.seq (.ops false [oP 29 (.fa 1 (.t 2)), oP 30 (.ld 1 false (.t 29)), oP 31 (.len (.t 30)), oP 32 (.mv (cI 0))]) (.block 4 (.loop c128_3))) c128_4))))
  c128_5)
def c128_7 : C := (.seq (.ops false [oP 22 (.bin .lss (.t 21) (.t 20))]) (.seq (.cond (.t 22) .skip (.exit 2)) c128_6))
def c128_8 : C := (.seq (.ops false [oP 76 (.mv (.t 5)), oP 77 (.mv (.t 7)), oP 78 (.bsl 1 1 [(.v (.int .i64 0))] [(0, (.t 77))]), oP 79 (.app 1 8 (.t 76) (.t 78)), oP 5 (.mv (.t 79))]) (.ops false [oP 80 (.mv (.t 6)), oP 81 (.mv (.t 7)), oP 82 (.iaS 1 (.t 80) (.t 81)), oS (.st 1 (.t 82) (cB true))]))
def c128_9 : C := (.seq (.seq (.ops false [oP 73 (.mv (.t 7)), oP 74 (.bin .lss (.t 73) (cI 0))]) (.cond (.t 74) (.seq (.ops false [oP 75 (.mv (.t 5)), oP 4 (.mv (.t 75))]) .ret) .skip)) c128_8)
def c128_10 : C := (.block 1 (.seq (.ops false [oP 7 (.mv (cI (-1)))]) (.seq (.seq (.ops false [oP 18 (.fa 0 (.t 2)), oP 19 (.ld 1 false (.t 18)), oP 20 (.len (.t 19)), oP 21 (.mv (cI 0))]) (.block 2 (.loop c128_7))) c128_9)))
def c128 : C := (.seq (.ops false [oP 2 (.box 6 (.t 0)), oP 3 (.box 3 (.t 1)), oP 4 (.mv (.c .mt))]) (.seq (.ops false [oP 5 (.mv (.c .mt))]) (.seq (.ops false [oP 14 (.fa 0 (.t 2)), oP 15 (.ld 1 false (.t 14)), oP 16 (.len (.t 15)), oP 17 (.mks 1 1 [(.v (.bool false))] (.t 16)), oP 6 (.mv (.t 17))]) (.block 0 (.loop c128_10)))))
def r128 : List RV := [(.tmp 4)]
theorem c128_ok : ∃ code, Try.f128.body = some code ∧ compC Try.prog Try.f128.ntmps code = some (C.strip c128) := ⟨_, rfl, by kernel_rfl⟩
theorem r128_ok : compRes Try.prog Try.f128.results.toList = some r128 := by kernel_rfl
theorem f128_ok : fnOk Try.prog 128 = true := by kernel_rfl
def c144_1 : C := (.seq (.ops false [oP 51 (.mv (.t 13)), oP 52 (.mv (.t 2)), oP 53 (.bin .eql (.t 51) (.t 52))]) (.cond (.t 53) (.ops false [oP 54 (.mv (.t 8)), oP 55 (.fa 0 (.t 4)), oP 56 (.ld 1 false (.t 55)), oP 57 (.mv (.t 10)), oP 58 (.iaS 1 (.t 56) (.t 57)), oP 59 (.ld 1 false (.t 58)), oB 60 (.call 84 [(.t 59)]), oP 61 (.bin .add (.t 54) (.t 60)), oP 8 (.mv (.t 61))]) .skip))
def c144_2 : C := (.seq (.ops true [oP 31 (.ld 7 true (.t 11)), oP 32 (.fa 0 (.t 4)), oA 33 (.ld 1 false (.t 32)) [1], oP 34 (.mv (.t 10)), oA 35 (.iaS 1 (.t 33) (.t 34)) [1, 3, 2], oA 36 (.ld 1 false (.t 35)) [2, 3, 1, 4], oE 37 (.call 83 [(.t 31), (.t 36)]) [4, 1, 3, 2, 5, 0], oA 30 (.mv (.t 37)) [0, 5, 2, 3, 1, 4, 6], oA 38 (.ext (.t 30) 0) [6, 4, 1, 3, 2, 5, 0, 7], oA 39 (.ext (.t 30) 1) [6, 4, 1, 3, 2, 5, 0,
  7], oA 12 (.mv (.t 38)) [7, 5, 4, 3, 2, 1, 0, 6, 8], oA 13 (.mv (.t 39)) [8, 7, 6, 5, 4, 3, 2, 1, 0, 10, 9]]) (.seq (.seq (.ops false [oP 40 (.mv (.t 12)), oP 41 (.mv (.t 2)), oP 42 (.bin .eql (.t 40) (.t 41))]) (.cond (.t 42) (.ops false [oP 43 (.mv (.t 9)), oP 44 (.fa 0 (.t 4)), oP 45 (.ld 1 false (.t 44)), oP 46 (.mv (.t 10)), oP 47 (.iaS 1 (.t 45) (.t 46)), oP 48 (.ld 1 false (.t 47)),
  oB 49 (.call 84 [(.t 48)]), oP 50 (.bin .add (.t 43) (.t 49)), oP 9 (.mv (.t 50))]) .skip)) c144_1))
def c144_3 : C := (.ops false [oP 62 (.bin .add (.t 19) (cI 1)), oP 19 (.mv (.t 62))])
def c144_4 : C := (.seq (.block 1 (.seq (.ops false [oP 21 (.mv (.t 19)), oP 22 (.iaS 7 (.t 17) (.t 19)), oP 23 (.ld 7 true (.t 22)), oP 11 (.new [(.v (.string ({ data := #[] }))), (.v (.int .i64 0)), (.v (.int .i64 0)), (.v (.int .i64 0)), (.v (.int .i64 0)), (.v (.int .i64 0)), .mt]), oP 10 (.mv (.t 21)), oS (.st 7 (.t 11) (.t 23))]) (.seq (.seq (.ops false [oP 24 (.fa 0 (.t 4)), oP 25 (.ld 1 false (.t 24)),
  oP 26 (.mv (.t 10)), oP 27 (.iaS 1 (.t 25) (.t 26)), oP 28 (.ld 1 false (.t 27)), oP 29 (.bin .eql (.t 28) (cI 0))]) (.cond (.t 29) (.exit 1) .skip)) c144_2))) c144_3)
def c144_5 : C := (.seq (.ops false [oP 20 (.bin .lss (.t 19) (.t 18))]) (.seq (.cond (.t 20) .skip (.exit 0)) c144_4))
def c144_6 : C := (.ops false [oP 92 (.bin .add (.t 66) (cI 1)), oP 66 (.mv (.t 92))])
def c144_7 : C := (.seq (.block 3 (.seq (.ops false [oP 68 (.mv (.t 66)), oP 69 (.iaS 3 (.t 64) (.t 66)), oP 70 (.ld 3 true (.t 69)), oP 15 (.new [(.v (.string ({ data := #[] }))), (.v (.int .i64 0)), (.v (.int .i64 0))]), oP 14 (.mv (.t 68)), oS (.st 3 (.t 15) (.t 70))]) (.seq (.ops false [oP 71 (.fa 1 (.t 15)), oP 72 (.ld 1 false (.t 71)), oP 73 (.mv (.t 2)), oP 74 (.bin .eql (.t 72) (.t 73))]) (.cond (.t 74)
  (.ops true [oP 75 (.mv (.t 8)), oP 76 (.fa 1 (.t 4)), oA 77 (.ld 1 false (.t 76)) [1], oP 78 (.mv (.t 14)), oA 79 (.iaS 1 (.t 77) (.t 78)) [1, 3, 2], oA 80 (.ld 1 false (.t 79)) [2, 3, 1, 4], oA 81 (.mnx true (cI 0) (.t 80)) [4, 1, 3, 2, 5], oA 82 (.bin .add (.t 75) (.t 81)) [5, 2, 3, 1, 4, 6, 0], oP 83 (.mv (.t 9)), oP 84 (.fa 1 (.t 4)), oA 85 (.ld 1 false (.t 84)) [9], oP 86 (.mv (.t 14)),
  oA 87 (.iaS 1 (.t 85) (.t 86)) [9, 11, 10], oA 88 (.ld 1 false (.t 87)) [10, 11, 9, 12], oA 89 (.neg (.t 88)) [12, 9, 11, 10, 13], oA 90 (.mnx true (cI 0) (.t 89)) [13, 10, 11, 9, 12, 14], oA 91 (.bin .add (.t 83) (.t 90)) [14, 12, 9, 11, 10, 13, 15, 8], oA 8 (.mv (.t 82)) [6, 5, 4, 3, 2, 1, 0, 7], oA 9 (.mv (.t 91)) [15, 14, 13, 12, 11, 10, 9, 8, 7, 6, 5, 4, 3, 2, 1, 0, 17, 16]]) .skip))))
  c144_6)
def c144_8 : C := (.seq (.ops false [oP 67 (.bin .lss (.t 66) (.t 65))]) (.seq (.cond (.t 67) .skip (.exit 2)) c144_7))
def c144_9 : C := (.seq (.ops false [oP 93 (.mv (.t 8)), oP 94 (.mv (.t 9)), oP 6 (.mv (.t 93)), oP 7 (.mv (.t 94))]) .ret)
def c144_10 : C := (.seq (.seq (.ops false [oP 63 (.fa 2 (.t 3)), oP 64 (.ld 1 false (.t 63)), oP 65 (.len (.t 64)), oP 66 (.mv (cI 0))]) (.block 2 (.loop c144_8))) c144_9)
def c144 : C := (.seq (.ops false [oP 3 (.box 6 (.t 0)), oP 4 (.box 3 (.t 1)), oP 6 (.mv (cI 0)), oP 7 (.mv (cI 0))]) (.seq (.ops false [oP 8 (.mv (cI 0)), oP 9 (.mv (cI 0))]) (.seq (.seq (.ops false [oP 16 (.fa 1 (.t 3)), oP 17 (.ld 1 false (.t 16)), oP 18 (.len (.t 17)), oP 19 (.mv (cI 0))]) (.block 0 (.loop c144_5))) c144_10)))
def r144 : List RV := [(.tmp 6), (.tmp 7)]
theorem c144_ok : ∃ code, Try.f144.body = some code ∧ compC Try.prog Try.f144.ntmps code = some (C.strip c144) := ⟨_, rfl, by kernel_rfl⟩
theorem r144_ok : compRes Try.prog Try.f144.results.toList = some r144 := by kernel_rfl
theorem f144_ok : fnOk Try.prog 144 = true := by kernel_rfl
end Go.Proofs.Ytadjhfjiimgddaa
