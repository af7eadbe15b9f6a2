/- RouteAnswers: CodeRT GFh Vw. -/
import Derived.Test.YtadjhfjiimgddaaYr3
import Derived.Test.YtadjhfjiimgddaaProg
import Derived.Test.YtadjhfjiimgddaaYr4
set_option linter.unusedSimpArgs false
set_option linter.unusedVariables false
set_option maxRecDepth 100000
/- Compiled code of some functions (printed by a program), each checked by the kernel. -/
namespace Go.Proofs.Ytadjhfjiimgddaa
open Go
def c50_1 : C := (.seq (.block 1 (.ops false [oM 14 5, oM 15 0, oB 16 (.call 13 [(.t 15), (cI 4)]), oP 17 (.bin .eql (.t 16) (cI 1)), oP 18 (.bsl 1 1 [(.v (.bool false))] [(0, (.t 17))]), oP 19 (.app 1 1 (.t 14) (.t 18)), oM 5 19])) (.ops false [oM 12 6, oP 13 (.bin .add (.t 12) (cI 1)), oM 6 13]))
def c50_2 : C := (.seq (.seq (.ops false [oM 7 6, oP 8 (.fa 1 (.t 3)), oP 9 (.ld 1 false (.t 8)), oP 10 (.len (.t 9)), oP 11 (.bin .lss (.t 7) (.t 10))]) (.cond (.t 11) .skip (.exit 0))) c50_1)
def c50_3 : C := (.seq (.ops false [oM 20 5, oM 4 20]) .ret)
def c50 : C := (.seq (.ops false [oP 3 (.box 6 (.t 1)), oP 4 (.mv (.c .mt))]) (.seq (.ops false [oP 5 (.mv (.c .mt))]) (.seq (.seq (.ops false [oP 6 (.mv (cI 0))]) (.block 0 (.loop c50_2))) c50_3)))
def r50 : List RV := [(.tmp 4)]
theorem c50_ok : ∃ code, Try.f50.body = some code ∧ compC Try.prog Try.f50.ntmps code = some (C.strip c50) := ⟨_, rfl, by kernel_rfl⟩
theorem r50_ok : compRes Try.prog Try.f50.results.toList = some r50 := by kernel_rfl
theorem f50_ok : fnOk Try.prog 50 = true := by kernel_rfl
def c51_1 : C := (.ops false [oP 76 (.bin .add (.t 45) (cI 1)), oM 45 76])
def c51_2 : C := (.seq (.block 3 (.seq (.ops false [oM 47 45, oM 15 47]) (.seq (.ops false [oP 49 (.ld 7 true (.t 10)), oM 50 15, oM 51 14, oB 52 (.call 107 [(.t 49), (.t 50), (.t 51)]), oM 48 52, oP 53 (.ext (.t 48) 0), oP 54 (.ext (.t 48) 1), oP 55 (.ext (.t 48) 2), oM 16 53, oM 17 54, oM 18 55])
 (.seq (.ops true [oM 56 18, oA 57 (.mv (.t 56)) [0], oH 58 57 true (.mv (.t 12)) [0, 1], oH 59 57 true (.mv (.t 16)) [0, 1], oH 60 57 true (.iaS 1 (.t 58) (.t 59)) [0, 1, 3, 2], oH 61 57 true (.ld 1 false (.t 60)) [2, 3, 0, 1, 4], oH 62 57 true (.mv (.t 12)) [0, 1], oH 63 57 true (.mv (.t 14)) [0, 1], oH 64 57 true (.iaS 1 (.t 62) (.t 63)) [0, 1, 7, 6],
 oH 65 57 true (.ld 1 false (.t 64)) [6, 7, 0, 1, 8], oH 66 57 true (.bin .sub (.t 65) (cI 1)) [8, 0, 7, 6, 1, 9], oH 67 57 true (.bin .eql (.t 61) (.t 66)) [9, 6, 7, 8, 4, 0, 3, 2, 1, 10, 5], oA 68 (.pick (.t 57) (.t 67) (cB false)) [5, 10, 2, 3, 4, 8, 7, 6, 9, 0, 11, 1]]) (.cond (.t 68) (.seq (.ops false [oM 69 13, oM 70 15, oM 71 17,
 oP 72 (.bld [(.v (.int .i64 0)), (.v (.bool false))] [(0, (1, (.t 70))), (1, (1, (.t 71)))]), oP 73 (.bsl 2 1 [(.v (.int .i64 0)), (.v (.bool false))] [(0, (.t 72))]), oP 74 (.app 2 16 (.t 69) (.t 73)), oM 13 74]) (.seq (.ops false [oM 75 16, oM 14 75]) (.exit 2))) .skip))))) c51_1)
def c51_3 : C := (.seq (.ops false [oP 46 (.bin .lss (.t 45) (.t 44))]) (.seq (.cond (.t 46) .skip (.exit 2)) c51_2))
def c51_4 : C := (.block 1 (.seq (.ops false [oP 42 (.fa 1 (.t 4)), oP 43 (.ld 1 false (.t 42)), oP 44 (.len (.t 43)), oP 45 (.mv (cI 0))]) (.block 2 (.loop c51_3))))
def c51_5 : C := (.seq (.seq (.ops false [oM 39 14, oM 40 3, oP 41 (.bin .neq (.t 39) (.t 40))]) (.cond (.t 41) .skip (.exit 0))) c51_4)
def c51_6 : C := (.seq (.ops false [oM 77 13, oM 8 77, oP 9 (.mv (cI 0))]) .ret)
def c51_7 : C := (.seq (.ops false [oP 13 (.mv (.c .mt))]) (.seq (.seq (.ops false [oM 38 2, oM 14 38]) (.block 0 (.loop c51_5))) c51_6))
def c51_8 : C := (.seq (.ops false [oP 30 (.ld 7 true (.t 10)), oM 31 3, oP 32 (.call 106 [(.t 30), (.t 31)]), oM 12 32]) (.seq (.seq (.ops false [oM 33 12, oM 34 2, oP 35 (.iaS 1 (.t 33) (.t 34)), oP 36 (.ld 1 false (.t 35)), oP 37 (.bin .lss (.t 36) (cI 0))]) (.cond (.t 37) (.seq (.ops false [oP 8 (.mv (.c .mt)), oP 9 (.mv (cI 11))]) .ret) .skip)) c51_7))
def c51 : C := (.seq (.ops false [oP 4 (.box 6 (.t 0)), oP 8 (.mv (.c .mt)), oP 9 (.mv (cI 0))]) (.seq (.ops false [oP 19 (.ld 6 true (.t 4)), oM 20 1, oP 21 (.bld [.mt, .mt, .mt, .mt, (.v (.int .i64 0)), (.v (.int .i64 0)), .mt] [(0, (6, (.t 19))), (6, (1, (.t 20)))]), oP 10 (.new [.mt, .mt, .mt, .mt, (.v (.int .i64 0)), (.v (.int .i64 0)), .mt]), oS (.st 7 (.t 10) (.t 21))])
 (.seq (.seq (.ops false [oP 22 (.ld 7 true (.t 10)), oM 23 2, oM 24 3, oP 25 (.bsl 1 2 [(.v (.int .i64 0))] [(0, (.t 23)), (1, (.t 24))]), oB 26 (.call 105 [(.t 22), (.t 25)]), oM 11 26]) (.seq (.ops false [oM 27 11, oP 28 (.bin .neq (.t 27) (cI 0))]) (.cond (.t 28) (.seq (.ops false [oM 29 11, oP 8 (.mv (.c .mt)), oM 9 29]) .ret)
 .skip))) c51_8)))
def r51 : List RV := [(.tmp 8), (.tmp 9)]
theorem c51_ok : ∃ code, Try.f51.body = some code ∧ compC Try.prog Try.f51.ntmps code = some (C.strip c51) := ⟨_, rfl, by kernel_rfl⟩
theorem r51_ok : compRes Try.prog Try.f51.results.toList = some r51 := by kernel_rfl
theorem f51_ok : fnOk Try.prog 51 = true := by kernel_rfl
def c53_1 : C := (.seq (.ops false [oP 20 (.ld 7 true (.t 8)), oM 21 2, oP 22 (.call 112 [(.t 20), (.t 21)]), oM 6 22, oP 7 (.mv (cI 0))]) .ret)
def c53 : C := (.seq (.ops false [oP 3 (.box 6 (.t 0)), oP 6 (.mv (.c .mt)), oP 7 (.mv (cI 0))]) (.seq (.ops false [oP 10 (.ld 6 true (.t 3)), oM 11 1, oP 12 (.bld [.mt, .mt, .mt, .mt, (.v (.int .i64 0)), (.v (.int .i64 0)), .mt] [(0, (6, (.t 10))), (6, (1, (.t 11)))]), oP 8 (.new [.mt, .mt, .mt, .mt, (.v (.int .i64 0)), (.v (.int .i64 0)), .mt]), oS (.st 7 (.t 8) (.t 12))])
 (.seq (.seq (.ops false [oP 13 (.ld 7 true (.t 8)), oM 14 2, oP 15 (.bsl 1 1 [(.v (.int .i64 0))] [(0, (.t 14))]), oB 16 (.call 105 [(.t 13), (.t 15)]), oM 9 16]) (.seq (.ops false [oM 17 9, oP 18 (.bin .neq (.t 17) (cI 0))]) (.cond (.t 18) (.seq (.ops false [oM 19 9, oP 6 (.mv (.c .mt)), oM 7 19]) .ret) .skip))) c53_1)))
def r53 : List RV := [(.tmp 6), (.tmp 7)]
theorem c53_ok : ∃ code, Try.f53.body = some code ∧ compC Try.prog Try.f53.ntmps code = some (C.strip c53) := ⟨_, rfl, by kernel_rfl⟩
theorem r53_ok : compRes Try.prog Try.f53.results.toList = some r53 := by kernel_rfl
theorem f53_ok : fnOk Try.prog 53 = true := by kernel_rfl
def c55_1 : C := (.seq (.ops false [oP 33 (.fa 6 (.t 8)), oP 34 (.ld 1 false (.t 33)), oM 35 2, oP 36 (.iaS 1 (.t 34) (.t 35)), oS (.st 1 (.t 36) (cB true))]) (.seq (.ops false [oP 37 (.fa 1 (.t 3)), oP 38 (.ld 1 false (.t 37)), oM 39 2, oP 40 (.iaS 7 (.t 38) (.t 39)), oP 41 (.ld 7 true (.t 40)), oP 10 (.new [(.v (.string ({ data := #[] }))), (.v (.int .i64 0)), (.v (.int .i64 0)),
 (.v (.int .i64 0)), (.v (.int .i64 0)), (.v (.int .i64 0)), .mt]), oS (.st 7 (.t 10) (.t 41))]) (.seq (.ops true [oP 42 (.ld 7 true (.t 8)), oP 43 (.fa 1 (.t 10)), oA 44 (.ld 1 false (.t 43)) [1], oA 45 (.call 106 [(.t 42), (.t 44)]) [1, 2, 0], oP 46 (.fa 2 (.t 10)), oA 47 (.ld 1 false (.t 46)) [4], oA 48 (.iaS 1 (.t 45) (.t 47)) [4, 0, 2, 1, 5, 3], oA 49 (.ld 1 false (.t 48)) [3, 5, 1, 2, 0, 4,
 6], oA 50 (.bin .lss (.t 49) (cI 0)) [6, 4, 0, 2, 1, 5, 3, 7], oA 6 (.mv (.t 50)) [7, 6, 5, 4, 2, 1, 0, 3, 8], oA 7 (.mv (cI 0)) [8, 7, 6, 5, 4, 3, 2, 1, 0, 9]]) .ret)))
def c55_2 : C := (.seq (.seq (.ops false [oM 29 1, oM 30 2, oP 31 (.iaS 1 (.t 29) (.t 30)), oP 32 (.ld 1 false (.t 31))]) (.cond (.t 32) (.seq (.ops false [oP 6 (.mv (cB false)), oP 7 (.mv (cI 0))]) .ret) .skip)) c55_1)
def c55_3 : C := (.seq (.seq (.ops false [oM 20 2, oP 21 (.bin .lss (.t 20) (cI 0)), oM 22 21, oG 23 22 false (.mv (.t 2)), oG 24 22 false (.fa 1 (.t 3)), oG 25 22 false (.ld 1 false (.t 24)), oG 26 22 false (.len (.t 25)), oG 27 22 false (.bin .geq (.t 23) (.t 26)), oP 28 (.pick (.t 22) (cB true) (.t 27))]) (.cond (.t 28) (.seq (.ops false [oP 6 (.mv (cB false)), oP 7 (.mv (cI 8))]) .ret)
 .skip)) c55_2)
def c55 : C := (.seq (.ops false [oP 3 (.box 6 (.t 0)), oP 6 (.mv (cB false)), oP 7 (.mv (cI 0))]) (.seq (.ops true [oP 11 (.ld 6 true (.t 3)), oM 12 1, oA 13 (.call 114 [(.t 12)]) [1], oA 14 (.bld [.mt, .mt, .mt, .mt, (.v (.int .i64 0)), (.v (.int .i64 0)), .mt] [(0, (6, (.t 11))), (6, (1, (.t 13)))]) [1, 2, 0], oP 8 (.new [.mt, .mt, .mt, .mt, (.v (.int .i64 0)), (.v (.int .i64 0)), .mt]),
 oT (.st 7 (.t 8) (.t 14)) [1, 0, 2, 3, 4]]) (.seq (.seq (.ops false [oP 15 (.ld 7 true (.t 8)), oB 16 (.call 105 [(.t 15), (.c .mt)]), oM 9 16]) (.seq (.ops false [oM 17 9, oP 18 (.bin .neq (.t 17) (cI 0))]) (.cond (.t 18) (.seq (.ops false [oM 19 9, oP 6 (.mv (cB false)), oM 7 19]) .ret) .skip))) c55_3)))
def r55 : List RV := [(.tmp 6), (.tmp 7)]
theorem c55_ok : ∃ code, Try.f55.body = some code ∧ compC Try.prog Try.f55.ntmps code = some (C.strip c55) := ⟨_, rfl, by kernel_rfl⟩
theorem r55_ok : compRes Try.prog Try.f55.results.toList = some r55 := by kernel_rfl
theorem f55_ok : fnOk Try.prog 55 = true := by kernel_rfl
def c57_1 : C := (.ops false [oP 25 (.bin .add (.t 13) (cI 1)), oM 13 25])
def c57_2 : C := (.seq (.block 1 (.seq (.ops false [oM 15 13, oM 5 15]) (.seq (.ops true [oM 16 0, oM 17 5, oA 18 (.iaS 2 (.t 16) (.t 17)) [1, 0], oA 19 (.ld 2 true (.t 18)) [0, 1, 2], oM 20 1, oM 21 5, oA 22 (.iaS 2 (.t 20) (.t 21)) [5, 4], oA 23 (.ld 2 true (.t 22)) [4, 5, 6], oA 24 (.eqa true [0, 1] (.t 19) (.t 23)) [6, 5, 4, 2, 1, 0, 7, 3]])
 (.cond (.t 24) (.seq (.ops false [oP 4 (.mv (cB false))]) .ret) .skip)))) c57_1)
def c57_3 : C := (.seq (.ops false [oP 14 (.bin .lss (.t 13) (.t 12))]) (.seq (.cond (.t 14) .skip (.exit 0)) c57_2))
def c57_4 : C := (.seq (.ops false [oP 4 (.mv (cB true))]) .ret)
def c57_5 : C := (.seq (.seq (.ops false [oM 11 0, oP 12 (.len (.t 11)), oP 13 (.mv (cI 0))]) (.block 0 (.loop c57_3))) c57_4)
def c57 : C := (.seq (.ops false [oP 4 (.mv (cB false))]) (.seq (.seq (.ops false [oM 6 0, oP 7 (.len (.t 6)), oM 8 1, oP 9 (.len (.t 8)), oP 10 (.bin .neq (.t 7) (.t 9))]) (.cond (.t 10) (.seq (.ops false [oP 4 (.mv (cB false))]) .ret) .skip)) c57_5))
def r57 : List RV := [(.tmp 4)]
theorem c57_ok : ∃ code, Try.f57.body = some code ∧ compC Try.prog Try.f57.ntmps code = some (C.strip c57) := ⟨_, rfl, by kernel_rfl⟩
theorem r57_ok : compRes Try.prog Try.f57.results.toList = some r57 := by kernel_rfl
theorem f57_ok : fnOk Try.prog 57 = true := by kernel_rfl
def c59_1 : C := (.seq (.ops false [oM 51 8, oM 52 12, oP 53 (.bsl 1 1 [(.v (.int .i64 0))] [(0, (.t 52))]), oP 54 (.app 1 8 (.t 51) (.t 53)), oM 8 54]) (.ops false [oM 55 7, oP 56 (.fa 1 (.t 2)), oP 57 (.ld 1 false (.t 56)), oP 58 (.fa 0 (.t 10)), oP 59 (.ld 1 false (.t 58)), oP 60 (.iaS 7 (.t 57) (.t 59)), oP 61 (.fa 3 (.t 60)), oP 62 (.ld 1 false (.t 61)),
 oP 63 (.bin .add (.t 55) (.t 62)), oM 7 63]))
def c59_2 : C := (.seq (.seq (.ops false [oM 40 8, oM 41 9, oP 42 (.iaS 1 (.t 40) (.t 41)), oP 43 (.ld 1 false (.t 42)), oM 44 11, oP 45 (.bin .neq (.t 43) (.t 44)), oM 46 45, oG 47 46 false (.mv (.t 8)), oG 48 46 false (.mv (.t 12)), oD 49 46 false (.call 118 [(.t 47), (.t 48)]) [], oP 50 (.pick (.t 46) (cB true) (.t 49))]) (.cond (.t 50)
 (.seq (.ops false [oP 4 (.mv (cI 0)), oP 5 (.mv (cI 11))]) .ret) .skip)) c59_1)
def c59_3 : C := (.ops false [oP 64 (.bin .add (.t 23) (cI 1)), oM 23 64])
def c59_4 : C := (.seq (.block 1 (.seq (.ops false [oM 25 23, oP 26 (.iaS 2 (.t 21) (.t 23)), oP 27 (.ld 2 true (.t 26)), oP 10 (.new [(.v (.int .i64 0)), (.v (.bool false))]), oM 9 25, oS (.st 2 (.t 10) (.t 27))]) (.seq (.ops false [oP 29 (.ld 6 true (.t 2)), oP 30 (.ld 2 true (.t 10)), oB 31 (.call 117 [(.t 29), (.t 30)]), oM 28 31, oP 32 (.ext (.t 28) 0), oP 33 (.ext (.t 28) 1),
 oM 11 32, oM 12 33]) (.seq (.seq (.ops false [oM 34 9, oP 35 (.bin .eql (.t 34) (cI 0))]) (.cond (.t 35) (.ops false [oM 36 8, oM 37 11, oP 38 (.bsl 1 1 [(.v (.int .i64 0))] [(0, (.t 37))]), oP 39 (.app 1 8 (.t 36) (.t 38)), oM 8 39]) .skip)) (.weak c59_2))))) c59_3)
def c59_5 : C := (.seq (.ops false [oP 24 (.bin .lss (.t 23) (.t 22))]) (.seq (.cond (.t 24) .skip (.exit 0)) c59_4))
def c59_6 : C := (.seq (.ops false [oM 65 7, oM 4 65, oP 5 (.mv (cI 0))]) .ret)
def c59_7 : C := (.seq (.ops false [oP 7 (.mv (cI 0))]) (.seq (.ops false [oP 8 (.mv (.c .mt))]) (.seq (.seq (.ops false [oM 21 1, oP 22 (.len (.t 21)), oP 23 (.mv (cI 0))]) (.block 0 (.loop c59_5))) c59_6)))
def c59_8 : C := (.seq (.seq (.ops false [oM 18 1, oP 19 (.mkf 116 [] [(.t 2)]), oB 20 (.call 115 [(.t 18), (.t 19)])]) (.cond (.t 20) (.seq (.ops false [oP 4 (.mv (cI 0)), oP 5 (.mv (cI 8))]) .ret) .skip)) c59_7)
def c59 : C := (.seq (.ops false [oP 2 (.box 6 (.t 0)), oP 4 (.mv (cI 0)), oP 5 (.mv (cI 0))]) (.seq (.seq (.ops false [oP 13 (.ld 6 true (.t 2)), oB 14 (.call 95 [(.t 13)]), oM 6 14]) (.seq (.ops false [oM 15 6, oP 16 (.bin .neq (.t 15) (cI 0))]) (.cond (.t 16) (.seq (.ops false [oM 17 6, oP 4 (.mv (cI 0)), oM 5 17]) .ret) .skip))) (.weak c59_8)))
def r59 : List RV := [(.tmp 4), (.tmp 5)]
theorem c59_ok : ∃ code, Try.f59.body = some code ∧ compC Try.prog Try.f59.ntmps code = some (C.strip c59) := ⟨_, rfl, by kernel_rfl⟩
theorem r59_ok : compRes Try.prog Try.f59.results.toList = some r59 := by kernel_rfl
theorem f59_ok : fnOk Try.prog 59 = true := by kernel_rfl
def c61_1 : C := (.ops false [oP 37 (.bin .add (.t 22) (cI 1)), oM 22 37])
def c61_2 : C := (.seq (.block 1 (.seq (.ops false [oM 24 22, oM 9 24]) (.seq (.ops false [oP 25 (.ld 7 true (.t 6)), oM 26 9, oP 27 (.call 112 [(.t 25), (.t 26)]), oM 10 27]) (.seq (.ops false [oM 28 10, oP 29 (.iaS 1 (.t 28) (cI 0)), oP 30 (.ld 1 false (.t 29)), oM 31 9, oP 32 (.bin .eql (.t 30) (.t 31))]) (.cond (.t 32)
 (.ops false [oM 33 8, oM 34 10, oP 35 (.bsl 1 1 [.mt] [(0, (.t 34))]), oP 36 (.app 1 24 (.t 33) (.t 35)), oM 8 36]) .skip))))) c61_1)
def c61_3 : C := (.seq (.ops false [oP 23 (.bin .lss (.t 22) (.t 21))]) (.seq (.cond (.t 23) .skip (.exit 0)) c61_2))
def c61_4 : C := (.seq (.ops false [oM 38 8, oM 4 38, oP 5 (.mv (cI 0))]) .ret)
def c61_5 : C := (.seq (.ops false [oP 8 (.mv (.c .mt))]) (.seq (.seq (.ops false [oP 19 (.fa 0 (.t 2)), oP 20 (.ld 1 false (.t 19)), oP 21 (.len (.t 20)), oP 22 (.mv (cI 0))]) (.block 0 (.loop c61_3))) c61_4))
def c61 : C := (.seq (.ops false [oP 2 (.box 6 (.t 0)), oP 4 (.mv (.c .mt)), oP 5 (.mv (cI 0))]) (.seq (.ops false [oP 11 (.ld 6 true (.t 2)), oM 12 1, oP 13 (.bld [.mt, .mt, .mt, .mt, (.v (.int .i64 0)), (.v (.int .i64 0)), .mt] [(0, (6, (.t 11))), (6, (1, (.t 12)))]), oP 6 (.new [.mt, .mt, .mt, .mt, (.v (.int .i64 0)), (.v (.int .i64 0)), .mt]), oS (.st 7 (.t 6) (.t 13))])
 (.seq (.seq (.ops false [oP 14 (.ld 7 true (.t 6)), oB 15 (.call 105 [(.t 14), (.c .mt)]), oM 7 15]) (.seq (.ops false [oM 16 7, oP 17 (.bin .neq (.t 16) (cI 0))]) (.cond (.t 17) (.seq (.ops false [oM 18 7, oP 4 (.mv (.c .mt)), oM 5 18]) .ret) .skip))) c61_5)))
def r61 : List RV := [(.tmp 4), (.tmp 5)]
theorem c61_ok : ∃ code, Try.f61.body = some code ∧ compC Try.prog Try.f61.ntmps code = some (C.strip c61) := ⟨_, rfl, by kernel_rfl⟩
theorem r61_ok : compRes Try.prog Try.f61.results.toList = some r61 := by kernel_rfl
theorem f61_ok : fnOk Try.prog 61 = true := by kernel_rfl
def c105_1 : C := (.seq (.ops false [oP 4 (.mv (cI 0))]) .ret)
def c105_2 : C := (.seq (.seq (.ops false [oM 20 1, oP 21 (.mkf 146 [] [(.t 2)]), oB 22 (.call 145 [(.t 20), (.t 21)])]) (.cond (.t 22) (.seq (.ops false [oP 4 (.mv (cI 8))]) .ret) .skip)) c105_1)
def c105_3 : C := (.seq (.seq (.ops false [oP 12 (.fa 6 (.t 2)), oP 13 (.ld 1 false (.t 12)), oP 14 (.len (.t 13)), oP 15 (.fa 0 (.t 2)), oP 16 (.fa 1 (.t 15)), oP 17 (.ld 1 false (.t 16)), oP 18 (.len (.t 17)), oP 19 (.bin .neq (.t 14) (.t 18))]) (.cond (.t 19) (.seq (.ops false [oP 4 (.mv (cI 9))]) .ret) .skip)) (.weak c105_2))
def c105 : C := (.seq (.ops false [oP 2 (.box 7 (.t 0)), oP 4 (.mv (cI 0))]) (.seq (.seq (.ops false [oP 6 (.fa 0 (.t 2)), oP 7 (.ld 6 true (.t 6)), oB 8 (.call 95 [(.t 7)]), oM 5 8]) (.seq (.ops false [oM 9 5, oP 10 (.bin .neq (.t 9) (cI 0))]) (.cond (.t 10) (.seq (.ops false [oM 11 5, oM 4 11]) .ret) .skip))) c105_3))
def r105 : List RV := [(.tmp 4)]
theorem c105_ok : ∃ code, Try.f105.body = some code ∧ compC Try.prog Try.f105.ntmps code = some (C.strip c105) := ⟨_, rfl, by kernel_rfl⟩
theorem r105_ok : compRes Try.prog Try.f105.results.toList = some r105 := by kernel_rfl
theorem f105_ok : fnOk Try.prog 105 = true := by kernel_rfl
def c106_1 : C := (.ops false [oP 70 (.bin .add (.t 39) (cI 1)), oM 39 70])
def c106_2 : C := (.seq (.block 3 (.seq (.ops false [oM 41 39, oM 8 41]) (.seq (.ops false [oP 43 (.ld 7 true (.t 2)), oM 44 8, oM 45 7, oB 46 (.call 107 [(.t 43), (.t 44), (.t 45)]), oM 42 46, oP 47 (.ext (.t 42) 0), oP 48 (.ext (.t 42) 1), oP 49 (.ext (.t 42) 2), oM 9 47, oM 10 48, oM 11 49])
 (.seq (.ops false [oM 50 11, oM 51 50, oG 52 51 true (.mv (.t 5)), oG 53 51 true (.mv (.t 9)), oG 54 51 true (.iaS 1 (.t 52) (.t 53)), oG 55 51 true (.ld 1 false (.t 54)), oG 56 51 true (.bin .lss (.t 55) (cI 0)), oP 57 (.pick (.t 51) (.t 56) (cB false))]) (.cond (.t 57) (.seq (.ops false [oM 58 5, oM 59 9, oM 60 5, oM 61 7,
 oP 62 (.iaS 1 (.t 60) (.t 61)), oP 63 (.ld 1 false (.t 62)), oP 64 (.bin .add (.t 63) (cI 1)), oP 65 (.iaS 1 (.t 58) (.t 59)), oS (.st 1 (.t 65) (.t 64))]) (.ops false [oM 66 6, oM 67 9, oP 68 (.bsl 1 1 [(.v (.int .i64 0))] [(0, (.t 67))]), oP 69 (.app 1 8 (.t 66) (.t 68)), oM 6 69])) .skip))))) c106_1)
def c106_3 : C := (.seq (.ops false [oP 40 (.bin .lss (.t 39) (.t 38))]) (.seq (.cond (.t 40) .skip (.exit 2)) c106_2))
def c106_4 : C := (.block 1 (.seq (.ops false [oM 26 6, oP 27 (.iaS 1 (.t 26) (cI 0)), oP 28 (.ld 1 false (.t 27)), oM 7 28]) (.seq (.ops false [oM 29 6, oM 30 6, oP 31 (.len (.t 30)), oM 32 6, oP 33 (.len (.t 32)), oP 34 (.slc3 1 (.t 29) (.some (cI 1)) (.t 31) (.t 33)), oM 6 34]) (.seq (.ops false [oP 35 (.fa 0 (.t 2)), oP 36 (.fa 1 (.t 35)),
 oP 37 (.ld 1 false (.t 36)), oP 38 (.len (.t 37)), oP 39 (.mv (cI 0))]) (.block 2 (.loop c106_3))))))
def c106_5 : C := (.seq (.seq (.ops false [oM 23 6, oP 24 (.len (.t 23)), oP 25 (.bin .gtr (.t 24) (cI 0))]) (.cond (.t 25) .skip (.exit 0))) c106_4)
def c106_6 : C := (.seq (.ops false [oM 71 5, oM 4 71]) .ret)
def c106 : C := (.seq (.ops false [oP 2 (.box 7 (.t 0)), oP 4 (.mv (.c .mt))]) (.seq (.ops false [oP 12 (.bsl 1 1 [(.v (.int .i64 0))] [(0, (cI (-1)))]), oP 13 (.fa 0 (.t 2)), oP 14 (.fa 0 (.t 13)), oP 15 (.ld 1 false (.t 14)), oP 16 (.len (.t 15)), oP 17 (.call 147 [(.t 12), (.t 16)]), oM 5 17]) (.seq (.ops false [oM 18 5, oM 19 1, oP 20 (.iaS 1 (.t 18) (.t 19)),
 oS (.st 1 (.t 20) (cI 0))]) (.seq (.ops false [oM 21 1, oP 22 (.bsl 1 1 [(.v (.int .i64 0))] [(0, (.t 21))]), oM 6 22]) (.seq (.block 0 (.loop c106_5)) c106_6)))))
def r106 : List RV := [(.tmp 4)]
theorem c106_ok : ∃ code, Try.f106.body = some code ∧ compC Try.prog Try.f106.ntmps code = some (C.strip c106) := ⟨_, rfl, by kernel_rfl⟩
theorem r106_ok : compRes Try.prog Try.f106.results.toList = some r106 := by kernel_rfl
theorem f106_ok : fnOk Try.prog 106 = true := by kernel_rfl
def c107_1 : C := (.seq (.ops false [oP 6 (.mv (cI 0)), oP 7 (.mv (cB false)), oP 8 (.mv (cB false))]) .ret)
def c107 : C := (.seq (.ops false [oP 3 (.box 7 (.t 0)), oP 6 (.mv (cI 0)), oP 7 (.mv (cB false)), oP 8 (.mv (cB false))]) (.seq (.ops false [oP 10 (.fa 0 (.t 3)), oP 11 (.fa 1 (.t 10)), oP 12 (.ld 1 false (.t 11)), oM 13 1, oP 14 (.iaS 7 (.t 12) (.t 13)), oP 15 (.ld 7 true (.t 14)), oP 9 (.new [(.v (.string ({ data := #[] }))), (.v (.int .i64 0)), (.v (.int .i64 0)), (.v (.int .i64 0)),
 (.v (.int .i64 0)), (.v (.int .i64 0)), .mt]), oS (.st 7 (.t 9) (.t 15))]) (.seq (.block 0 (.seq (.ops false [oP 17 (.fa 6 (.t 3)), oP 18 (.ld 1 false (.t 17)), oM 19 1, oP 20 (.iaS 1 (.t 18) (.t 19)), oP 21 (.ld 1 false (.t 20)), oM 16 21]) (.cond (.t 16) (.seq (.ops false [oP 6 (.mv (cI 0)), oP 7 (.mv (cB false)), oP 8 (.mv (cB false))]) .ret)
 (.seq (.ops false [oP 23 (.fa 1 (.t 9)), oP 24 (.ld 1 false (.t 23)), oM 25 2, oP 26 (.bin .eql (.t 24) (.t 25)), oM 22 26]) (.cond (.t 22) (.seq (.ops false [oP 27 (.fa 2 (.t 9)), oP 28 (.ld 1 false (.t 27)), oM 6 28, oP 7 (.mv (cB false)), oP 8 (.mv (cB true))]) .ret) (.seq (.ops false [oP 30 (.fa 2 (.t 9)), oP 31 (.ld 1 false (.t 30)), oM 32 2,
 oP 33 (.bin .eql (.t 31) (.t 32)), oM 29 33]) (.cond (.t 29) (.seq (.ops false [oP 34 (.fa 1 (.t 9)), oP 35 (.ld 1 false (.t 34)), oM 6 35, oP 7 (.mv (cB true)), oP 8 (.mv (cB true))]) .ret) .skip))))))) c107_1)))
def r107 : List RV := [(.tmp 6), (.tmp 7), (.tmp 8)]
theorem c107_ok : ∃ code, Try.f107.body = some code ∧ compC Try.prog Try.f107.ntmps code = some (C.strip c107) := ⟨_, rfl, by kernel_rfl⟩
theorem r107_ok : compRes Try.prog Try.f107.results.toList = some r107 := by kernel_rfl
theorem f107_ok : fnOk Try.prog 107 = true := by kernel_rfl
def c111_1 : C := (.seq (.ops true [oP 19 (.fa 1 (.t 6)), oA 20 (.ld 1 false (.t 19)) [0], oP 21 (.fa 2 (.t 6)), oA 22 (.ld 1 false (.t 21)) [2], oA 4 (.mv (.t 20)) [0, 1], oA 5 (.mv (.t 22)) [2, 1, 0, 4, 3]]) .ret)
def c111 : C := (.seq (.ops false [oP 2 (.box 6 (.t 0)), oP 3 (.box 2 (.t 1)), oP 4 (.mv (cI 0)), oP 5 (.mv (cI 0))]) (.seq (.ops false [oP 7 (.fa 1 (.t 2)), oP 8 (.ld 1 false (.t 7)), oP 9 (.fa 0 (.t 3)), oP 10 (.ld 1 false (.t 9)), oP 11 (.iaS 7 (.t 8) (.t 10)), oP 12 (.ld 7 true (.t 11)), oP 6 (.new [(.v (.string ({ data := #[] }))), (.v (.int .i64 0)), (.v (.int .i64 0)), (.v (.int .i64 0)),
 (.v (.int .i64 0)), (.v (.int .i64 0)), .mt]), oS (.st 7 (.t 6) (.t 12))]) (.seq (.seq (.ops false [oP 13 (.fa 1 (.t 3)), oP 14 (.ld 1 false (.t 13))]) (.cond (.t 14) (.seq (.ops true [oP 15 (.fa 2 (.t 6)), oA 16 (.ld 1 false (.t 15)) [0], oP 17 (.fa 1 (.t 6)), oA 18 (.ld 1 false (.t 17)) [2], oA 4 (.mv (.t 16)) [0, 1], oA 5 (.mv (.t 18)) [2, 1, 0, 4, 3]]) .ret) .skip)) c111_1)))
def r111 : List RV := [(.tmp 4), (.tmp 5)]
theorem c111_ok : ∃ code, Try.f111.body = some code ∧ compC Try.prog Try.f111.ntmps code = some (C.strip c111) := ⟨_, rfl, by kernel_rfl⟩
theorem r111_ok : compRes Try.prog Try.f111.results.toList = some r111 := by kernel_rfl
theorem f111_ok : fnOk Try.prog 111 = true := by kernel_rfl
def c112_1 : C := (.ops false [oP 23 (.bin .add (.t 12) (cI 1)), oM 12 23])
def c112_2 : C := (.seq (.block 1 (.seq (.ops false [oM 14 12, oP 15 (.iaS 1 (.t 10) (.t 12)), oP 16 (.ld 1 false (.t 15)), oM 6 14, oM 7 16]) (.seq (.ops false [oM 17 7, oP 18 (.bin .geq (.t 17) (cI 0))]) (.cond (.t 18) (.ops false [oM 19 5, oM 20 6, oP 21 (.bsl 1 1 [(.v (.int .i64 0))] [(0, (.t 20))]), oP 22 (.app 1 8 (.t 19) (.t 21)),
 oM 5 22]) .skip)))) c112_1)
def c112_3 : C := (.seq (.ops false [oP 13 (.bin .lss (.t 12) (.t 11))]) (.seq (.cond (.t 13) .skip (.exit 0)) c112_2))
def c112_4 : C := (.seq (.ops false [oM 24 5, oM 4 24]) .ret)
def c112 : C := (.seq (.ops false [oP 2 (.box 7 (.t 0)), oP 4 (.mv (.c .mt))]) (.seq (.ops false [oP 5 (.mv (.c .mt))]) (.seq (.seq (.ops false [oP 8 (.ld 7 true (.t 2)), oM 9 1, oP 10 (.call 106 [(.t 8), (.t 9)]), oP 11 (.len (.t 10)), oP 12 (.mv (cI 0))]) (.block 0 (.loop c112_3))) c112_4)))
def r112 : List RV := [(.tmp 4)]
theorem c112_ok : ∃ code, Try.f112.body = some code ∧ compC Try.prog Try.f112.ntmps code = some (C.strip c112) := ⟨_, rfl, by kernel_rfl⟩
theorem r112_ok : compRes Try.prog Try.f112.results.toList = some r112 := by kernel_rfl
theorem f112_ok : fnOk Try.prog 112 = true := by kernel_rfl
def c114_1 : C := (.seq (.ops false [oP 5 (.bsl 1 0 [(.v (.bool false))] []), oM 6 0, oP 7 (.app 1 1 (.t 5) (.t 6)), oM 2 7]) .ret)
def c114 : C := (.seq (.ops false [oP 2 (.mv (.c .mt))]) (.seq (.seq (.ops false [oM 3 0, oP 4 (.isn false (.t 3))]) (.cond (.t 4) (.seq (.ops false [oP 2 (.mv (.c .mt))]) .ret) .skip)) c114_1))
def r114 : List RV := [(.tmp 2)]
theorem c114_ok : ∃ code, Try.f114.body = some code ∧ compC Try.prog Try.f114.ntmps code = some (C.strip c114) := ⟨_, rfl, by kernel_rfl⟩
theorem r114_ok : compRes Try.prog Try.f114.results.toList = some r114 := by kernel_rfl
theorem f114_ok : fnOk Try.prog 114 = true := by kernel_rfl
def c115 : C := (.seq (.ops false [oP 4 (.mv (cB false))]) (.seq (.ops false [oM 5 0, oM 6 1, oB 7 (.call 148 [(.t 5), (.t 6)]), oP 8 (.bin .geq (.t 7) (cI 0)), oM 4 8]) .ret))
def r115 : List RV := [(.tmp 4)]
theorem c115_ok : ∃ code, Try.f115.body = some code ∧ compC Try.prog Try.f115.ntmps code = some (C.strip c115) := ⟨_, rfl, by kernel_rfl⟩
theorem r115_ok : compRes Try.prog Try.f115.results.toList = some r115 := by kernel_rfl
theorem f115_ok : fnOk Try.prog 115 = true := by kernel_rfl
def c116 : C := (.seq (.ops false [oP 2 (.box 2 (.t 0)), oP 3 (.mv (cB false))]) (.seq (.ops false [oP 4 (.fa 0 (.t 2)), oP 5 (.ld 1 false (.t 4)), oP 6 (.bin .lss (.t 5) (cI 0)), oM 7 6, oG 8 7 false (.fa 0 (.t 2)), oG 9 7 false (.ld 1 false (.t 8)), oG 10 7 false (.fa 1 (.t 1)), oG 11 7 false (.ld 1 false (.t 10)), oG 12 7 false (.len (.t 11)), oG 13 7 false (.bin .geq (.t 9) (.t 12)),
 oP 14 (.pick (.t 7) (cB true) (.t 13)), oM 3 14]) .ret))
def r116 : List RV := [(.tmp 3)]
theorem c116_ok : ∃ code, Try.f116.body = some code ∧ compC Try.prog Try.f116.ntmps code = some (C.strip c116) := ⟨_, rfl, by kernel_rfl⟩
theorem r116_ok : compRes Try.prog Try.f116.results.toList = some r116 := by kernel_rfl
theorem f116_ok : fnOk Try.prog 116 = true := by kernel_rfl
def c117_1 : C := (.seq (.ops true [oP 19 (.fa 1 (.t 6)), oA 20 (.ld 1 false (.t 19)) [0], oP 21 (.fa 2 (.t 6)), oA 22 (.ld 1 false (.t 21)) [2], oA 4 (.mv (.t 20)) [0, 1], oA 5 (.mv (.t 22)) [2, 1, 0, 4, 3]]) .ret)
def c117 : C := (.seq (.ops false [oP 2 (.box 6 (.t 0)), oP 3 (.box 2 (.t 1)), oP 4 (.mv (cI 0)), oP 5 (.mv (cI 0))]) (.seq (.ops false [oP 7 (.fa 1 (.t 2)), oP 8 (.ld 1 false (.t 7)), oP 9 (.fa 0 (.t 3)), oP 10 (.ld 1 false (.t 9)), oP 11 (.iaS 7 (.t 8) (.t 10)), oP 12 (.ld 7 true (.t 11)), oP 6 (.new [(.v (.string ({ data := #[] }))), (.v (.int .i64 0)), (.v (.int .i64 0)), (.v (.int .i64 0)),
 (.v (.int .i64 0)), (.v (.int .i64 0)), .mt]), oS (.st 7 (.t 6) (.t 12))]) (.seq (.seq (.ops false [oP 13 (.fa 1 (.t 3)), oP 14 (.ld 1 false (.t 13))]) (.cond (.t 14) (.seq (.ops true [oP 15 (.fa 2 (.t 6)), oA 16 (.ld 1 false (.t 15)) [0], oP 17 (.fa 1 (.t 6)), oA 18 (.ld 1 false (.t 17)) [2], oA 4 (.mv (.t 16)) [0, 1], oA 5 (.mv (.t 18)) [2, 1, 0, 4, 3]]) .ret) .skip)) c117_1)))
def r117 : List RV := [(.tmp 4), (.tmp 5)]
theorem c117_ok : ∃ code, Try.f117.body = some code ∧ compC Try.prog Try.f117.ntmps code = some (C.strip c117) := ⟨_, rfl, by kernel_rfl⟩
theorem r117_ok : compRes Try.prog Try.f117.results.toList = some r117 := by kernel_rfl
theorem f117_ok : fnOk Try.prog 117 = true := by kernel_rfl
def c118 : C := (.seq (.ops false [oP 4 (.mv (cB false))]) (.seq (.ops false [oM 5 0, oM 6 1, oB 7 (.call 149 [(.t 5), (.t 6)]), oP 8 (.bin .geq (.t 7) (cI 0)), oM 4 8]) .ret))
def r118 : List RV := [(.tmp 4)]
theorem c118_ok : ∃ code, Try.f118.body = some code ∧ compC Try.prog Try.f118.ntmps code = some (C.strip c118) := ⟨_, rfl, by kernel_rfl⟩
theorem r118_ok : compRes Try.prog Try.f118.results.toList = some r118 := by kernel_rfl
theorem f118_ok : fnOk Try.prog 118 = true := by kernel_rfl
def c146 : C := (.seq (.ops false [oP 3 (.mv (cB false))]) (.seq (.ops false [oM 4 0, oP 5 (.bin .lss (.t 4) (cI 0)), oM 6 5, oG 7 6 false (.mv (.t 0)), oG 8 6 false (.fa 0 (.t 1)), oG 9 6 false (.fa 0 (.t 8)), oG 10 6 false (.ld 1 false (.t 9)), oG 11 6 false (.len (.t 10)), oG 12 6 false (.bin .geq (.t 7) (.t 11)), oP 13 (.pick (.t 6) (cB true) (.t 12)), oM 3 13]) .ret))
def r146 : List RV := [(.tmp 3)]
theorem c146_ok : ∃ code, Try.f146.body = some code ∧ compC Try.prog Try.f146.ntmps code = some (C.strip c146) := ⟨_, rfl, by kernel_rfl⟩
theorem r146_ok : compRes Try.prog Try.f146.results.toList = some r146 := by kernel_rfl
theorem f146_ok : fnOk Try.prog 146 = true := by kernel_rfl
def c147_1 : C := (.block 1 (.ops true [oM 38 8, oM 39 7, oM 40 8, oA 41 (.slc 1 (.t 39) (.some (.t 40)) Option.none) [2, 1], oM 42 7, oM 43 8, oA 44 (.slc 1 (.t 42) Option.none (.some (.t 43))) [5, 4], oA 45 (.cpy 1 (.t 41) (.t 44)) [4, 5, 1, 2, 6, 3], oA 46 (.bin .add (.t 38) (.t 45)) [3, 6, 2, 1, 5, 4, 7, 0], oA 8 (.mv (.t 46)) [6, 5, 4, 3, 2, 1, 0, 7, 8]]))
def c147_2 : C := (.seq (.seq (.ops false [oM 34 8, oM 35 7, oP 36 (.len (.t 35)), oP 37 (.bin .lss (.t 34) (.t 36))]) (.cond (.t 37) .skip (.exit 0))) c147_1)
def c147_3 : C := (.seq (.ops false [oM 47 7, oM 4 47]) .ret)
def c147_4 : C := (.seq (.ops false [oM 28 6, oP 29 (.cvi .i64 (.t 28)), oP 30 (.mks 1 8 [(.v (.int .i64 0))] (.t 29)), oM 7 30]) (.seq (.ops false [oM 31 7, oM 32 0, oP 33 (.cpy 1 (.t 31) (.t 32)), oM 8 33]) (.seq (.block 0 (.loop c147_2)) c147_3)))
def c147_5 : C := (.seq (.ops false [oM 13 0, oP 14 (.len (.t 13)), oP 15 (.cvi .u64 (.t 14)), oM 16 1, oP 17 (.cvi .u64 (.t 16)), oB 18 (.call 174 [(.t 15), (.t 17)]), oM 12 18, oP 19 (.ext (.t 12) 0), oP 20 (.ext (.t 12) 1), oM 5 19, oM 6 20]) (.seq (.seq (.ops false [oM 21 5, oP 22 (.bin .gtr (.t 21) (.c (.v (.int .u64 0)))), oM 23 22,
 oG 24 23 false (.mv (.t 6)), oG 25 23 false (.bin .gtr (.t 24) (.c (.v (.int .u64 9223372036854775807)))), oP 26 (.pick (.t 23) (cB true) (.t 25))]) (.cond (.t 26) (.ops false [oP 27 .stk, oS .stk]) .skip)) c147_4))
def c147 : C := (.seq (.ops false [oP 4 (.mv (.c .mt))]) (.seq (.seq (.ops false [oM 9 1, oP 10 (.bin .lss (.t 9) (cI 0))]) (.cond (.t 10) (.ops false [oP 11 .stk, oS .stk]) .skip)) c147_5))
def r147 : List RV := [(.tmp 4)]
theorem c147_ok : ∃ code, Try.f147.body = some code ∧ compC Try.prog Try.f147.ntmps code = some (C.strip c147) := ⟨_, rfl, by kernel_rfl⟩
theorem r147_ok : compRes Try.prog Try.f147.results.toList = some r147 := by kernel_rfl
theorem f147_ok : fnOk Try.prog 147 = true := by kernel_rfl
def c148_1 : C := (.ops false [oP 18 (.bin .add (.t 8) (cI 1)), oM 8 18])
def c148_2 : C := (.seq (.block 1 (.seq (.ops false [oM 10 8, oM 5 10]) (.seq (.ops false [oM 11 1, oM 12 0, oM 13 5, oP 14 (.iaS 2 (.t 12) (.t 13)), oP 15 (.ld 2 true (.t 14)), oP 16 (.callv (.t 11) [(.t 15)])]) (.cond (.t 16) (.seq (.ops false [oM 17 5, oM 4 17]) .ret) .skip)))) c148_1)
def c148_3 : C := (.seq (.ops false [oP 9 (.bin .lss (.t 8) (.t 7))]) (.seq (.cond (.t 9) .skip (.exit 0)) c148_2))
def c148_4 : C := (.seq (.ops false [oP 4 (.mv (cI (-1)))]) .ret)
def c148 : C := (.seq (.ops false [oP 4 (.mv (cI 0))]) (.seq (.seq (.ops false [oM 6 0, oP 7 (.len (.t 6)), oP 8 (.mv (cI 0))]) (.block 0 (.loop c148_3))) c148_4))
def r148 : List RV := [(.tmp 4)]
theorem c148_ok : ∃ code, Try.f148.body = some code ∧ compC Try.prog Try.f148.ntmps code = some (C.strip c148) := ⟨_, rfl, by kernel_rfl⟩
theorem r148_ok : compRes Try.prog Try.f148.results.toList = some r148 := by kernel_rfl
theorem f148_ok : fnOk Try.prog 148 = true := by kernel_rfl
def c149_1 : C := (.ops false [oP 18 (.bin .add (.t 8) (cI 1)), oM 8 18])
def c149_2 : C := (.seq (.block 1 (.seq (.ops false [oM 10 8, oM 5 10]) (.seq (.ops false [oM 11 1, oM 12 0, oM 13 5, oP 14 (.iaS 1 (.t 12) (.t 13)), oP 15 (.ld 1 false (.t 14)), oP 16 (.bin .eql (.t 11) (.t 15))]) (.cond (.t 16) (.seq (.ops false [oM 17 5, oM 4 17]) .ret) .skip)))) c149_1)
def c149_3 : C := (.seq (.ops false [oP 9 (.bin .lss (.t 8) (.t 7))]) (.seq (.cond (.t 9) .skip (.exit 0)) c149_2))
def c149_4 : C := (.seq (.ops false [oP 4 (.mv (cI (-1)))]) .ret)
def c149 : C := (.seq (.ops false [oP 4 (.mv (cI 0))]) (.seq (.seq (.ops false [oM 6 0, oP 7 (.len (.t 6)), oP 8 (.mv (cI 0))]) (.block 0 (.loop c149_3))) c149_4))
def r149 : List RV := [(.tmp 4)]
theorem c149_ok : ∃ code, Try.f149.body = some code ∧ compC Try.prog Try.f149.ntmps code = some (C.strip c149) := ⟨_, rfl, by kernel_rfl⟩
theorem r149_ok : compRes Try.prog Try.f149.results.toList = some r149 := by kernel_rfl
theorem f149_ok : fnOk Try.prog 149 = true := by kernel_rfl
def c174_1 : C := (.seq (.ops false [oM 23 0, oM 24 1, oB 25 (.call 180 [(.t 23), (.t 24)]), oM 22 25, oP 26 (.ext (.t 22) 0), oP 27 (.ext (.t 22) 1), oM 8 26, oM 9 27]) (.seq (.ops false [oM 28 8, oM 29 9, oM 4 28, oM 5 29]) .ret))
def c174 : C := (.seq (.ops false [oP 4 (.mv (.c (.v (.int .u64 0)))), oP 5 (.mv (.c (.v (.int .u64 0))))]) (.seq (.cond (cB false) (.seq (.ops false [oM 11 0, oP 12 (.cvi .u32 (.t 11)), oM 13 1, oP 14 (.cvi .u32 (.t 13)), oB 15 (.call 179 [(.t 12), (.t 14)]), oM 10 15, oP 16 (.ext (.t 10) 0), oP 17 (.ext (.t 10) 1), oM 6 16, oM 7 17])
 (.seq (.ops false [oM 18 6, oP 19 (.cvi .u64 (.t 18)), oM 20 7, oP 21 (.cvi .u64 (.t 20)), oM 4 19, oM 5 21]) .ret)) .skip) c174_1))
def r174 : List RV := [(.tmp 4), (.tmp 5)]
theorem c174_ok : ∃ code, Try.f174.body = some code ∧ compC Try.prog Try.f174.ntmps code = some (C.strip c174) := ⟨_, rfl, by kernel_rfl⟩
theorem r174_ok : compRes Try.prog Try.f174.results.toList = some r174 := by kernel_rfl
theorem f174_ok : fnOk Try.prog 174 = true := by kernel_rfl
def c180 : C := (.seq (.ops false [oP 4 (.mv (.c (.v (.int .u64 0)))), oP 5 (.mv (.c (.v (.int .u64 0))))]) (.seq (.ops false [oM 14 0, oP 15 (.bin .and (.t 14) (.c (.v (.int .u64 4294967295)))), oM 6 15]) (.seq (.ops false [oM 16 0, oP 17 (.bin .shr (.t 16) (.c (.v (.int .u64 32)))), oM 7 17]) (.seq (.ops false [oM 18 1, oP 19 (.bin .and (.t 18)
 (.c (.v (.int .u64 4294967295)))), oM 8 19]) (.seq (.ops false [oM 20 1, oP 21 (.bin .shr (.t 20) (.c (.v (.int .u64 32)))), oM 9 21]) (.seq (.ops false [oM 22 6, oM 23 8, oP 24 (.bin .mul (.t 22) (.t 23)), oM 10 24]) (.seq (.ops false [oM 25 7, oM 26 8, oP 27 (.bin .mul (.t 25) (.t 26)), oM 28 10,
 oP 29 (.bin .shr (.t 28) (.c (.v (.int .u64 32)))), oP 30 (.bin .add (.t 27) (.t 29)), oM 11 30]) (.seq (.ops false [oM 31 11, oP 32 (.bin .and (.t 31) (.c (.v (.int .u64 4294967295)))), oM 12 32]) (.seq (.ops false [oM 33 11, oP 34 (.bin .shr (.t 33) (.c (.v (.int .u64 32)))), oM 13 34]) (.seq (.ops false [oM 35 12,
 oM 36 6, oM 37 9, oP 38 (.bin .mul (.t 36) (.t 37)), oP 39 (.bin .add (.t 35) (.t 38)), oM 12 39]) (.seq (.ops false [oM 40 7, oM 41 9, oP 42 (.bin .mul (.t 40) (.t 41)), oM 43 13, oP 44 (.bin .add (.t 42) (.t 43)), oM 45 12, oP 46 (.bin .shr (.t 45) (.c (.v (.int .u64 32)))), oP 47 (.bin .add (.t 44) (.t 46)),
 oM 4 47]) (.seq (.ops false [oM 48 0, oM 49 1, oP 50 (.bin .mul (.t 48) (.t 49)), oM 5 50]) .ret))))))))))))
def r180 : List RV := [(.tmp 4), (.tmp 5)]
theorem c180_ok : ∃ code, Try.f180.body = some code ∧ compC Try.prog Try.f180.ntmps code = some (C.strip c180) := ⟨_, rfl, by kernel_rfl⟩
theorem r180_ok : compRes Try.prog Try.f180.results.toList = some r180 := by kernel_rfl
theorem f180_ok : fnOk Try.prog 180 = true := by kernel_rfl
set_option maxHeartbeats 4000000 in
theorem idxF_H (q : D → Bool) (g : FuncId) (l rows : List (List D)) (h : QOk Try.prog true 2 q g l rows) (nn : Nm) : CallsA Try.prog 148 [.sl rows, .clo g [] (ips l)] Hp.none nn (Pu (outI (fun r => q (elV true r)) rows) Hp.none) := by
 obtain ⟨hg, hl, hq⟩ := h
 obtain ⟨code, h1, h2⟩ := c148_ok
 refine callsA_of (tc_q (q := q) hg (T0_ok _)) mixed (N := fun t => (0, t)) Try.func148 h1 h2 r148_ok [] false js_nil js_nil' (by simp [Try.f148]) ?_
 unfold outI
 simp (maxSteps:=500000) only [↓vp, vv, ↓reduceIte, simprocAttr, c148]
 rw [vc_loop]
 refine ⟨fun m s => ∃ j : Nat, j + m = rows.length ∧ idxOf (fun r => q (elV true r)) 0 rows = idxOf (fun r => q (elV true r)) j (rows.drop j) ∧ s = ⟨fr [(0, .sl rows), (1, .clo g [] (ips l)), (7, di rows.length), (8, di j)], Hp.none⟩, ⟨rows.length, _, (weak_eq [] [] [(0, .sl rows), (1, .clo g [] (ips l)), (7, di rows.length), (8, di 0)] (by simp only [↓vp, vv, ↓reduceIte, simprocAttr, coverS]) (by simp only [↓vp, vv, ↓reduceIte, simprocAttr, refsF, ips_refs]) (by simp only [↓vp, vv, ↓reduceIte, simprocAttr, ]) (by simp) (by simp only [↓vp, vv, ↓reduceIte, simprocAttr, ]; try rfl)), ⟨0, by omega, rfl, rfl⟩⟩, ?_⟩
 rintro m s ⟨j, hj, he, rfl⟩
 by_cases hlt : j < rows.length
 ·have hlt' : (j : Int) < rows.length := by omega
  have h0 : (0 : Int) ≤ j := by omega
  obtain ⟨r, hr⟩ : ∃ r, rows[j]? = some r := ⟨_, get_lt hlt⟩
  have hg' : rows.getD j [] = r := by rw [List.getD_eq_getElem?_getD, hr]; rfl
  obtain ⟨hr1, hr2, hr0, hr3⟩ := hq r (List.mem_of_getElem? hr)
  rw [idxOf_drop _ _ _ _ hr] at he
  have w1 : IntKind.i64.wrap ((j : Int) + 1) = ((j + 1 : Nat) : Int) := by rw [wrap_i (by omega)]; rfl
  have ht : r.take 2 = r := List.take_of_length_le (by omega)
  have d1 := fun H => (doneR H [] hr2).1
  have d2 := fun H => (doneR H [] hr2).2.1
  have d3 := fun H => (doneR H [] hr2).2.2.1
  have d4 := (doneR Hp.none [] hr2).2.2.2.1
  have d5 := fun js => (doneR Hp.none js hr2).2.2.2.2
  have hc : ∀ nn, CallsA Try.prog g ((.agg r) :: ips l) Hp.none nn (Pu (db (q (.agg r))) Hp.none) := hr3
  have he2 : idxOf (fun r => q (elV true r)) 0 rows = if q (.agg r) = true then (j : Int) else idxOf (fun r => q (elV true r)) (j + 1 : Nat) (rows.drop (j + 1)) := he
  cases hb : q (.agg r) with
  | true =>
   rw [hb, if_pos rfl] at he2
   have hcT : ∀ nn, CallsA Try.prog g ((.agg r) :: ips l) Hp.none nn (Pu (db true) Hp.none) = True := fun nn => eq_true (by have := hc nn; rwa [hb] at this)
   simp (maxSteps:=500000) only [↓vp, vv, ↓reduceIte, simprocAttr, c148, r148, c148_1, c148_2, c148_3, c148_4, hlt', h0, Int.toNat_natCast, hg', hr1, ht, d1, d2, d3, d4, d5, ips_nms, ips_lend, ips_lendNm, ips_ok, ips_refs, rowQ, hb, he2, Pu, addNm, cellNms, hcT]
  | false =>
   rw [hb, if_neg (by simp)] at he2
   have hcT : ∀ nn, CallsA Try.prog g ((.agg r) :: ips l) Hp.none nn (Pu (db false) Hp.none) = True := fun nn => eq_true (by have := hc nn; rwa [hb] at this)
   simp (maxSteps:=500000) only [↓vp, vv, ↓reduceIte, simprocAttr, c148, r148, c148_1, c148_2, c148_3, c148_4, hlt', h0, Int.toNat_natCast, hg', hr1, ht, d1, d2, d3, d4, d5, ips_nms, ips_lend, ips_lendNm, ips_ok, ips_refs, rowQ, hb, addNm, cellNms, hcT]
   exact ⟨m - 1, _, by omega, weak_eq [] [] [(0, .sl rows), (1, .clo g [] (ips l)), (7, di rows.length), (8, di ((j + 1 : Nat) : Int))] (by simp only [↓vp, vv, ↓reduceIte, simprocAttr, coverS, w1]) (by simp only [↓vp, vv, ↓reduceIte, simprocAttr, refsF, ips_refs]) (by simp only [↓vp, vv, ↓reduceIte, simprocAttr, ]) (by simp) (by simp only [↓vp, vv, ↓reduceIte, simprocAttr, ]; try rfl), ⟨j + 1, by omega, he2, rfl⟩⟩
 ·have hlt' : ¬ (j : Int) < rows.length := by omega
  rw [List.drop_of_length_le (by omega)] at he
  have he2 : idxOf (fun r => q (elV true r)) 0 rows = -1 := he
  simp (maxSteps:=500000) only [↓vp, vv, ↓reduceIte, simprocAttr, c148, r148, c148_1, c148_2, c148_3, c148_4, hlt', he2, Pu]
set_option maxHeartbeats 4000000 in
theorem hasF_H (q : D → Bool) (g : FuncId) (l rows : List (List D)) (h : QOk Try.prog true 2 q g l rows) (nn : Nm) : CallsA Try.prog 115 [.sl rows, .clo g [] (ips l)] Hp.none nn (Pu (outC (fun r => q (elV true r)) rows) Hp.none) := by
 obtain ⟨code, h1, h2⟩ := c115_ok
 refine callsA_of (T := tc 148 (rowPu (selQ Try.prog true 2 (fun g' l' d => q d) outI)) T0) (tc_pu f148_ok (fun args pre d hs hp nn => ?_) (T0_ok _)) mixed (N := fun t => (0, t)) Try.func115 h1 h2 r115_ok [] false js_nil js_nil' (by simp [Try.f115]) ?_
 ·unfold selQ at hs
  split at hs
  ·split at hs
   ·rename_i hi
    cases hs
    rw [ipsOf_eq hi]
    exact idxF_H _ _ _ _ hp nn
   ·cases hs
  ·cases hs
 ·have ha := idxOf_any (fun r => q (elV true r)) rows 0 (Int.le_refl _)
  have hv : decide (0 ≤ idxOf (fun r => q (elV true r)) 0 rows) = rows.any (fun r => q (elV true r)) := by
   rw [Bool.eq_iff_iff, decide_eq_true_eq]; exact ha
  simp (maxSteps:=500000) only [↓vp, vv, ↓reduceIte, simprocAttr, c115, r115, selQ, ipsOf_ips, h, ips_nms, ips_lend, ips_lendNm, ips_ok, ips_refs, outI, outC, addNm, cellNms, hv, Pu]
def RngI (n : Nat) (st : Nat → St) (P : Nat → Prop) (m : Nat) (s : St) : Prop := ∃ j, j + m = n ∧ P j ∧ s = st j
theorem rng_loop {T : Tbl} {N : Nat → Nm} {J : List Nm} {c : C} {Q : Ex → St → Prop} {s : St} (n : Nat) (st : Nat → St) (P : Nat → Prop) (h0 : Weak J s (st 0)) (hP : P 0)
  (hs : ∀ j, j < n → P j → vc T N J c (loopQ J (RngI n st P) (n - j) Q) (st j)) (he : P n → vc T N J c (loopQ J (RngI n st P) 0 Q) (st n)) : vc T N J (.loop c) Q s := by
 rw [vc_loop]
 refine ⟨RngI n st P, ⟨n, _, h0, 0, by omega, hP, rfl⟩, ?_⟩
 rintro m s' ⟨j, hj, hPj, rfl⟩
 by_cases h : j < n
 ·obtain rfl : m = n - j := by omega
  exact hs j h hPj
 ·obtain rfl : j = n := by omega
  obtain rfl : m = 0 := by omega
  exact he hPj
theorem rng_next {J : List Nm} {n : Nat} {st : Nat → St} {P : Nat → Prop} {j : Nat} {s : St} (hj : j < n) (w : Weak J s (st (j + 1))) (hp : P (j + 1)) : ∃ k' s', k' < n - j ∧ Weak J s s' ∧ RngI n st P k' s' :=
 ⟨n - (j + 1), _, by omega, w, j + 1, by omega, hp, rfl⟩
theorem weak0 {F : Fr} {H : Hp} {l : List (Nat × D)} (h1 : coverS F H [] l) (h2 : refsF [] l = true) : Weak [] ⟨F, H⟩ ⟨fr l, Hp.none⟩ := weak_eq [] [] l h1 h2 trivial (by simp) rfl
theorem drop_all {α : Type} {p : α → Bool} {l : List α} {j : Nat} {b : Bool} (hj : j < l.length) (he : (l.drop j).all p = b) : (p l[j] = false → b = false) ∧ (p l[j] = true → (l.drop (j + 1)).all p = b) := by
 rw [List.drop_eq_getElem_cons hj, List.all_cons] at he
 exact ⟨fun h => by rw [h] at he; simpa using he.symm, fun h => by rw [h] at he; simpa using he⟩
theorem drop_all_end {α : Type} {p : α → Bool} {l : List α} {b : Bool} (he : (l.drop l.length).all p = b) : b = true := by
 rw [List.drop_of_length_le (Nat.le_refl _)] at he
 exact he.symm
theorem idx_next {j : Nat} (h : (j : Int) ≤ 1000000000000) : IntKind.i64.wrap ((j : Int) + 1) = ((j + 1 : Nat) : Int) := by rw [wrap_i (by omega)]; rfl
theorem idx_nn (j : Nat) : (0 : Int) ≤ (j : Int) := Int.natCast_nonneg j
end Go.Proofs.Ytadjhfjiimgddaa
