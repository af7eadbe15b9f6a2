/- ToolMade: CodeF Fw1. -/
import Derived.Test.YtadjhfjiimgddaaTM3
import Derived.Test.YtadjhfjiimgddaaProg
import Derived.Test.YtadjhfjiimgddaaTM8
set_option linter.unusedSimpArgs false
set_option linter.unusedVariables false
set_option maxRecDepth 100000
/- Compiled code of some functions (printed by a program), each checked by the kernel. -/
namespace Go.Proofs.Ytadjhfjiimgddaa
open Go
def c124_1 : C := (.ops false [oP 57 (.bin .add (.t 42) (cI 1)), oP 42 (.mv (.t 57))])
def c124_2 : C := (.seq (.block 1 (.seq (.ops false [oP 44 (.mv (.t 42)), oP 45 (.iaS 7 (.t 40) (.t 42)), oP 46 (.ld 7 true (.t 45)), oP 7 (.new [(.v (.string ({ data := #[] }))), (.v (.int .i64 0)), (.v (.int .i64 0)), (.v (.int .i64 0)), (.v (.int .i64 0)), (.v (.int .i64 0)), .mt]), oP 6 (.mv (.t 44)), oS (.st 7 (.t 7) (.t 46))]) (.seq (.ops true [oP 47 (.fa 0 (.t 3)), oA 48 (.ld 1 false (.t 47)) [0],
  oP 49 (.mv (.t 6)), oA 50 (.iaS 1 (.t 48) (.t 49)) [0, 2, 1], oA 51 (.ld 1 false (.t 50)) [1, 2, 0, 3], oP 52 (.fa 3 (.t 7)), oA 53 (.ld 1 false (.t 52)) [5], oA 54 (.mnx false (cI 1000) (.t 53)) [5, 6], oE 55 (.call 151 [(.t 51), (.t 54)]) [6, 5, 3, 0, 2, 1, 7, 4], oA 56 (.not (.t 55)) [4, 7, 1, 2, 0, 3, 5, 6, 8]]) (.cond (.t 56) (.seq (.ops false [oP 4 (.mv (cI 1))]) .ret) .skip)))) c124_1)
def c124_3 : C := (.seq (.ops false [oP 43 (.bin .lss (.t 42) (.t 41))]) (.seq (.cond (.t 43) .skip (.exit 0)) c124_2))
def c124_4 : C := (.seq (.ops false [oP 4 (.mv (cI 0))]) .ret)
def c124_5 : C := (.seq (.seq (.ops true [oP 69 (.ld 6 true (.t 2)), oP 70 (.ld 3 true (.t 3)), oA 71 (.call 154 [(.t 69), (.t 70)]) [1, 0], oA 72 (.len (.t 71)) [0, 1, 2], oP 73 (.fa 0 (.t 2)), oA 74 (.ld 1 false (.t 73)) [4], oA 75 (.len (.t 74)) [4, 5], oA 76 (.bin .lss (.t 72) (.t 75)) [5, 4, 2, 1, 0, 6, 3]]) (.cond (.t 76) (.seq (.ops false [oP 4 (.mv (cI 13))]) .ret) .skip)) c124_4)
def c124_6 : C := (.seq (.seq (.ops false [oP 61 (.ld 6 true (.t 2)), oP 62 (.ld 3 true (.t 3)), oB 63 (.call 153 [(.t 61), (.t 62)]), oP 8 (.new [(.v (.int .i64 0)), (.v (.int .i64 0)), (.v (.int .i64 0)), (.v (.int .i64 0)), (.v (.int .i64 0)), (.v (.int .i64 0)), (.v (.int .i64 0)), (.v (.int .i64 0)), (.v (.int .i64 0)), (.v (.int .i64 0)), (.v (.int .i64 0)), (.v (.int .i64 0)), (.v (.int .i64 0)),
  (.v (.int .i64 0)), (.v (.int .i64 0)), (.v (.int .i64 0)), (.v (.int .i64 0)), (.v (.int .i64 0)), (.v (.int .i64 0)), (.v (.int .i64 0)), (.v (.int .i64 0)), (.v (.int .i64 0)), (.v (.int .i64 0)), (.v (.int .i64 0)), (.v (.int .i64 0)), (.v (.int .i64 0)), (.v (.int .i64 0)), (.v (.int .i64 0)), (.v (.int .i64 0)), (.v (.int .i64 0)), (.v (.int .i64 0)), (.v (.int .i64 0)), (.v (.int .i64 0)),
  (.v (.int .i64 0)), (.v (.int .i64 0)), (.v (.int .i64 0)), (.v (.int .i64 0)), (.v (.int .i64 0)), (.v (.int .i64 0)), (.v (.int .i64 0)), (.v (.int .i64 0)), (.v (.int .i64 0)), (.v (.int .i64 0)), (.v (.int .i64 0)), (.v (.int .i64 0)), (.v (.int .i64 0)), (.v (.int .i64 0)), (.v (.int .i64 0))]), oS (.st 48 (.t 8) (.t 63))]) (.seq (.ops false [oP 64 (.fa 0 (.t 8)), oP 65 (.ld 24 true (.t 64)),
  oP 66 (.fa 24 (.t 8)), oP 67 (.ld 24 true (.t 66)), oP 68 (.eqa true [0, 0, 0, 0, 0, 0, 0, 0, 0, 0, 0, 0, 0, 0, 0, 0, 0, 0, 0, 0, 0, 0, 0, 0] (.t 65) (.t 67))]) (.cond (.t 68) (.seq (.ops false [oP 4 (.mv (cI 12))]) .ret) .skip))) c124_5)
def c124_7 : C := (.seq (.seq (.ops false [oP 58 (.fa 1 (.t 3)), oP 59 (.ld 1 false (.t 58)), oB 60 (.call 145 [(.t 59), (.c (.clo 152 [] []))])]) (.cond (.t 60) (.seq (.ops false [oP 4 (.mv (cI 1))]) .ret) .skip)) c124_6)
def c124_8 : C := (.seq (.seq (.ops false [oP 39 (.fa 1 (.t 2)), oP 40 (.ld 1 false (.t 39)), oP 41 (.len (.t 40)), oP 42 (.mv (cI 0))]) (.block 0 (.loop c124_3))) c124_7)
def c124_9 : C := (.seq (.seq (.ops false [oP 14 (.fa 0 (.t 3)), oP 15 (.ld 1 false (.t 14)), oP 16 (.len (.t 15)), oP 17 (.fa 1 (.t 2)), oP 18 (.ld 1 false (.t 17)), oP 19 (.len (.t 18)), oP 20 (.bin .neq (.t 16) (.t 19)), oP 21 (.mv (.t 20)), oG 22 21 false (.fa 1 (.t 3)), oG 23 21 false (.ld 1 false (.t 22)), oG 24 21 false (.len (.t 23)), oG 25 21 false (.fa 2 (.t 2)), oG 26 21 false (.ld 1 false (.t 25)),
  oG 27 21 false (.len (.t 26)), oG 28 21 false (.bin .neq (.t 24) (.t 27)), oP 29 (.pick (.t 21) (cB true) (.t 28)), oP 30 (.mv (.t 29)), oG 31 30 false (.fa 2 (.t 3)), oG 32 30 false (.ld 1 false (.t 31)), oG 33 30 false (.len (.t 32)), oG 34 30 false (.fa 3 (.t 2)), oG 35 30 false (.ld 1 false (.t 34)), oG 36 30 false (.len (.t 35)), oG 37 30 false (.bin .neq (.t 33) (.t 36)),
  oP 38 (.pick (.t 30) (cB true) (.t 37))]) (.cond (.t 38) (.seq (.ops false [oP 4 (.mv (cI 9))]) .ret) .skip)) c124_8)
def c124 : C := (.seq (.ops false [oP 2 (.box 6 (.t 0)), oP 3 (.box 3 (.t 1)), oP 4 (.mv (cI 0))]) (.seq (.seq (.ops false [oP 9 (.ld 6 true (.t 2)), oB 10 (.call 95 [(.t 9)]), oP 5 (.mv (.t 10))]) (.seq (.ops false [oP 11 (.mv (.t 5)), oP 12 (.bin .neq (.t 11) (cI 0))]) (.cond (.t 12) (.seq (.ops false [oP 13 (.mv (.t 5)), oP 4 (.mv (.t 13))]) .ret) .skip))) c124_9))
def r124 : List RV := [(.tmp 4)]
theorem c124_ok : ∃ code, Try.f124.body = some code ∧ compC Try.prog Try.f124.ntmps code = some (C.strip c124) := ⟨_, rfl, by kernel_rfl⟩
theorem r124_ok : compRes Try.prog Try.f124.results.toList = some r124 := by kernel_rfl
theorem f124_ok : fnOk Try.prog 124 = true := by kernel_rfl
def c151 : C := (.seq (.ops false [oP 4 (.mv (cB false))]) (.seq (.ops false [oP 5 (.mv (.t 0)), oP 6 (.mv (.t 1)), oP 7 (.neg (.t 6)), oP 8 (.bin .geq (.t 5) (.t 7)), oP 9 (.mv (.t 8)), oG 10 9 true (.mv (.t 0)), oG 11 9 true (.mv (.t 1)), oG 12 9 true (.bin .leq (.t 10) (.t 11)), oP 13 (.pick (.t 9) (.t 12) (cB false)), oP 4 (.mv (.t 13))]) .ret))
def r151 : List RV := [(.tmp 4)]
theorem c151_ok : ∃ code, Try.f151.body = some code ∧ compC Try.prog Try.f151.ntmps code = some (C.strip c151) := ⟨_, rfl, by kernel_rfl⟩
theorem r151_ok : compRes Try.prog Try.f151.results.toList = some r151 := by kernel_rfl
theorem f151_ok : fnOk Try.prog 151 = true := by kernel_rfl
def c152 : C := (.seq (.ops false [oP 2 (.mv (cB false))]) (.seq (.ops false [oP 3 (.mv (.t 0)), oB 4 (.call 151 [(.t 3), (cI 1000)]), oP 5 (.not (.t 4)), oP 2 (.mv (.t 5))]) .ret))
def r152 : List RV := [(.tmp 2)]
theorem c152_ok : ∃ code, Try.f152.body = some code ∧ compC Try.prog Try.f152.ntmps code = some (C.strip c152) := ⟨_, rfl, by kernel_rfl⟩
theorem r152_ok : compRes Try.prog Try.f152.results.toList = some r152 := by kernel_rfl
theorem f152_ok : fnOk Try.prog 152 = true := by kernel_rfl
def c153_1 : C := (.seq (.block 1 (.seq (.ops false [oP 15 (.mv (.t 13)), oP 16 (.iaS 7 (.t 11) (.t 13)), oP 17 (.ld 7 true (.t 16)), oP 7 (.new [(.v (.string ({ data := #[] }))), (.v (.int .i64 0)), (.v (.int .i64 0)), (.v (.int .i64 0)), (.v (.int .i64 0)), (.v (.int .i64 0)), .mt]), oP 6 (.mv (.t 15)), oS (.st 7 (.t 7) (.t 17))]) (.ops true [oP 18 (.fa 1 (.t 7)), oA 19 (.ld 1 false (.t 18)) [0],
  oP 20 (.fa 2 (.t 7)), oA 21 (.ld 1 false (.t 20)) [2], oP 22 (.fa 0 (.t 3)), oA 23 (.ld 1 false (.t 22)) [4], oP 24 (.mv (.t 6)), oA 25 (.iaS 1 (.t 23) (.t 24)) [4, 6, 5], oA 26 (.ld 1 false (.t 25)) [5, 6, 4, 7], oE 27 (.call 175 [(.t 5), (.t 19), (.t 21), (.t 26)]) [7, 4, 6, 5, 2, 0, 8, 3, 1]]))) (.ops false [oP 28 (.bin .add (.t 13) (cI 1)), oP 13 (.mv (.t 28))]))
def c153_2 : C := (.seq (.ops false [oP 14 (.bin .lss (.t 13) (.t 12))]) (.seq (.cond (.t 14) .skip (.exit 0)) c153_1))
def c153_3 : C := (.seq (.block 3 (.seq (.ops false [oP 34 (.mv (.t 32)), oP 35 (.iaS 3 (.t 30) (.t 32)), oP 36 (.ld 3 true (.t 35)), oP 9 (.new [(.v (.string ({ data := #[] }))), (.v (.int .i64 0)), (.v (.int .i64 0))]), oP 8 (.mv (.t 34)), oS (.st 3 (.t 9) (.t 36))]) (.ops true [oP 37 (.fa 1 (.t 9)), oA 38 (.ld 1 false (.t 37)) [0], oP 39 (.fa 1 (.t 3)), oA 40 (.ld 1 false (.t 39)) [2], oP 41 (.mv (.t 8)),
  oA 42 (.iaS 1 (.t 40) (.t 41)) [2, 4, 3], oA 43 (.ld 1 false (.t 42)) [3, 4, 2, 5], oE 44 (.call 175 [(.t 5), (cI (-1)), (.t 38), (.t 43)]) [5, 2, 4, 3, 0, 6, 1]]))) (.ops false [oP 45 (.bin .add (.t 32) (cI 1)), oP 32 (.mv (.t 45))]))
def c153_4 : C := (.seq (.ops false [oP 33 (.bin .lss (.t 32) (.t 31))]) (.seq (.cond (.t 33) .skip (.exit 2)) c153_3))
def c153_5 : C := (.seq (.ops false [oP 46 (.ld 48 true (.t 5)), oS (.st 48 (.t 4) (.t 46))]) .ret)
def c153_6 : C := (.seq (.seq (.ops false [oP 29 (.fa 2 (.t 2)), oP 30 (.ld 1 false (.t 29)), oP 31 (.len (.t 30)), oP 32 (.mv (cI 0))]) (.block 2 (.loop c153_4))) c153_5)
def c153 : C := (.seq (.ops false [oP 2 (.box 6 (.t 0)), oP 3 (.box 3 (.t 1)), oP 4 (.new [(.v (.int .i64 0)), (.v (.int .i64 0)), (.v (.int .i64 0)), (.v (.int .i64 0)), (.v (.int .i64 0)), (.v (.int .i64 0)), (.v (.int .i64 0)), (.v (.int .i64 0)), (.v (.int .i64 0)), (.v (.int .i64 0)), (.v (.int .i64 0)), (.v (.int .i64 0)), (.v (.int .i64 0)), (.v (.int .i64 0)), (.v (.int .i64 0)), (.v (.int .i64 0)),
  (.v (.int .i64 0)), (.v (.int .i64 0)), (.v (.int .i64 0)), (.v (.int .i64 0)), (.v (.int .i64 0)), (.v (.int .i64 0)), (.v (.int .i64 0)), (.v (.int .i64 0)), (.v (.int .i64 0)), (.v (.int .i64 0)), (.v (.int .i64 0)), (.v (.int .i64 0)), (.v (.int .i64 0)), (.v (.int .i64 0)), (.v (.int .i64 0)), (.v (.int .i64 0)), (.v (.int .i64 0)), (.v (.int .i64 0)), (.v (.int .i64 0)), (.v (.int .i64 0)),
  (.v (.int .i64 0)), (.v (.int .i64 0)), (.v (.int .i64 0)), (.v (.int .i64 0)), (.v (.int .i64 0)), (.v (.int .i64 0)), (.v (.int .i64 0)), (.v (.int .i64 0)), (.v (.int .i64 0)), (.v (.int .i64 0)), (.v (.int .i64 0)), (.v (.int .i64 0))])]) (.seq (.ops false [oP 5 (.new [(.v (.int .i64 0)), (.v (.int .i64 0)), (.v (.int .i64 0)), (.v (.int .i64 0)), (.v (.int .i64 0)), (.v (.int .i64 0)),
  (.v (.int .i64 0)), (.v (.int .i64 0)), (.v (.int .i64 0)), (.v (.int .i64 0)), (.v (.int .i64 0)), (.v (.int .i64 0)), (.v (.int .i64 0)), (.v (.int .i64 0)), (.v (.int .i64 0)), (.v (.int .i64 0)), (.v (.int .i64 0)), (.v (.int .i64 0)), (.v (.int .i64 0)), (.v (.int .i64 0)), (.v (.int .i64 0)), (.v (.int .i64 0)), (.v (.int .i64 0)), (.v (.int .i64 0)), (.v (.int .i64 0)), (.v (.int .i64 0)),
  (.v (.int .i64 0)), (.v (.int .i64 0)), (.v (.int .i64 0)), (.v (.int .i64 0)), (.v (.int .i64 0)), (.v (.int .i64 0)), (.v (.int .i64 0)), (.v (.int .i64 0)), (.v (.int .i64 0)), (.v (.int .i64 0)), (.v (.int .i64 0)), (.v (.int .i64 0)), (.v (.int .i64 0)), (.v (.int .i64 0)), (.v (.int .i64 0)), (.v (.int .i64 0)), (.v (.int .i64 0)), (.v (.int .i64 0)), (.v (.int .i64 0)), (.v (.int .i64 0)),
  (.v (.int .i64 0)), (.v (.int .i64 0))])]) (.seq (.seq (.ops false [oP 10 (.fa 1 (.t 2)), oP 11 (.ld 1 false (.t 10)), oP 12 (.len (.t 11)), oP 13 (.mv (cI 0))]) (.block 0 (.loop c153_2))) c153_6)))
def r153 : List RV := [(.cell 4 48 true)]
theorem c153_ok : ∃ code, Try.f153.body = some code ∧ compC Try.prog Try.f153.ntmps code = some (C.strip c153) := ⟨_, rfl, by kernel_rfl⟩
theorem r153_ok : compRes Try.prog Try.f153.results.toList = some r153 := by kernel_rfl
theorem f153_ok : fnOk Try.prog 153 = true := by kernel_rfl
def c154_1 : C := (.ops false [oP 63 (.bin .add (.t 30) (cI 1)), oP 30 (.mv (.t 63))])
def c154_2 : C := (.seq (.block 3 (.seq (.ops false [oP 32 (.mv (.t 30)), oP 33 (.iaS 7 (.t 28) (.t 30)), oP 34 (.ld 7 true (.t 33)), oP 9 (.new [(.v (.string ({ data := #[] }))), (.v (.int .i64 0)), (.v (.int .i64 0)), (.v (.int .i64 0)), (.v (.int .i64 0)), (.v (.int .i64 0)), .mt]), oP 8 (.mv (.t 32)), oS (.st 7 (.t 9) (.t 34))]) (.seq (.ops true [oP 36 (.ld 7 true (.t 9)), oP 37 (.fa 0 (.t 3)),
  oA 38 (.ld 1 false (.t 37)) [1], oP 39 (.mv (.t 8)), oA 40 (.iaS 1 (.t 38) (.t 39)) [1, 3, 2], oA 41 (.ld 1 false (.t 40)) [2, 3, 1, 4], oE 42 (.call 176 [(.t 36), (.t 41)]) [4, 1, 3, 2, 5, 0], oA 35 (.mv (.t 42)) [0, 5, 2, 3, 1, 4, 6], oA 43 (.ext (.t 35) 0) [6, 4, 1, 3, 2, 5, 0, 7], oA 44 (.ext (.t 35) 1) [6, 4, 1, 3, 2, 5, 0, 7], oA 10 (.mv (.t 43)) [7, 5, 4, 3, 2, 1, 0, 6, 8],
  oA 11 (.mv (.t 44)) [8, 7, 6, 5, 4, 3, 2, 1, 0, 10, 9]]) (.seq (.ops false [oP 45 (.fa 0 (.t 3)), oP 46 (.ld 1 false (.t 45)), oP 47 (.mv (.t 8)), oP 48 (.iaS 1 (.t 46) (.t 47)), oP 49 (.ld 1 false (.t 48)), oP 50 (.bin .neq (.t 49) (cI 0)), oP 51 (.mv (.t 50)), oG 52 51 true (.mv (.t 11)), oG 53 51 true (.mv (.t 7)), oG 54 51 true (.bin .eql (.t 52) (.t 53)), oP 55 (.pick (.t 51) (.t 54)
  (cB false)), oP 56 (.mv (.t 55)), oG 57 56 true (.mv (.t 6)), oG 58 56 true (.mv (.t 10)), oG 59 56 true (.iaS 1 (.t 57) (.t 58)), oG 60 56 true (.ld 1 false (.t 59)), oG 61 56 true (.not (.t 60)), oP 62 (.pick (.t 56) (.t 61) (cB false))]) (.cond (.t 62) (.exit 1) .skip))))) c154_1)
def c154_3 : C := (.seq (.ops false [oP 31 (.bin .lss (.t 30) (.t 29))]) (.seq (.cond (.t 31) .skip (.exit 2)) c154_2))
def c154_4 : C := (.seq (.ops false [oP 64 (.mv (.t 6)), oP 65 (.mv (.t 7)), oP 66 (.iaS 1 (.t 64) (.t 65)), oS (.st 1 (.t 66) (cB true))]) (.seq (.ops false [oP 67 (.mv (.t 5)), oP 68 (.mv (.t 7)), oP 69 (.bsl 1 1 [(.v (.int .i64 0))] [(0, (.t 68))]), oP 70 (.app 1 8 (.t 67) (.t 69)), oP 5 (.mv (.t 70))]) (.ops false [oP 7 (.mv (cI (-1)))])))
def c154_5 : C := (.seq (.seq (.ops false [oP 27 (.fa 1 (.t 2)), oP 28 (.ld 1 false (.t 27)), oP 29 (.len (.t 28)), oP 30 (.mv (cI 0))]) (.block 2 (.loop c154_3))) c154_4)
def c154_6 : C := (.ops false [oP 21 (.mv (.t 7)), oP 22 (.bin .add (.t 21) (cI 1)), oP 7 (.mv (.t 22))])
def c154_7 : C := (.seq (.block 1 (.seq (.seq (.ops false [oP 23 (.mv (.t 6)), oP 24 (.mv (.t 7)), oP 25 (.iaS 1 (.t 23) (.t 24)), oP 26 (.ld 1 false (.t 25))]) (.cond (.t 26) (.exit 1) .skip)) c154_5)) c154_6)
def c154_8 : C := (.seq (.seq (.ops false [oP 16 (.mv (.t 7)), oP 17 (.fa 0 (.t 2)), oP 18 (.ld 1 false (.t 17)), oP 19 (.len (.t 18)), oP 20 (.bin .lss (.t 16) (.t 19))]) (.cond (.t 20) .skip (.exit 0))) c154_7)
def c154_9 : C := (.seq (.ops false [oP 71 (.mv (.t 5)), oP 4 (.mv (.t 71))]) .ret)
def c154 : C := (.seq (.ops false [oP 2 (.box 6 (.t 0)), oP 3 (.box 3 (.t 1)), oP 4 (.mv (.c .mt))]) (.seq (.ops false [oP 5 (.mv (.c .mt))]) (.seq (.ops false [oP 12 (.fa 0 (.t 2)), oP 13 (.ld 1 false (.t 12)), oP 14 (.len (.t 13)), oP 15 (.mks 1 1 [(.v (.bool false))] (.t 14)), oP 6 (.mv (.t 15))]) (.seq .skip (.seq (.seq (.ops false [oP 7 (.mv (cI 0))]) (.block 0 (.loop c154_8))) c154_9)))))
def r154 : List RV := [(.tmp 4)]
theorem c154_ok : ∃ code, Try.f154.body = some code ∧ compC Try.prog Try.f154.ntmps code = some (C.strip c154) := ⟨_, rfl, by kernel_rfl⟩
theorem r154_ok : compRes Try.prog Try.f154.results.toList = some r154 := by kernel_rfl
theorem f154_ok : fnOk Try.prog 154 = true := by kernel_rfl
def c175_1 : C := (.seq (.ops false [oP 27 (.mv (.t 2)), oP 28 (.bin .geq (.t 27) (cI 0))]) (.cond (.t 28) (.ops true [oP 29 (.mv (.t 0)), oP 30 (.mv (.t 2)), oA 31 (.nck (.t 29)) [0], oA 32 (.fa 0 (.t 31)) [0, 2], oA 33 (.iaA 24 1 (.t 32) (.t 30)) [2, 0, 1, 3], oA 34 (.ld 1 false (.t 33)) [3, 1, 0, 2, 4], oP 35 (.mv (.t 3)), oA 36 (.bin .add (.t 34) (.t 35)) [4, 2, 0, 1, 3, 6, 5], oA 37 (.nck (.t 29)) [0],
  oA 38 (.fa 0 (.t 37)) [0, 8], oA 39 (.iaA 24 1 (.t 38) (.t 30)) [8, 7, 6, 5, 4, 3, 2, 0, 1, 9], oT (.st 1 (.t 39) (.t 36)) [9, 8, 6, 5, 4, 3, 2, 1, 0, 7, 10]]) .skip))
def c175_2 : C := (.seq (.seq (.ops false [oP 14 (.mv (.t 1)), oP 15 (.bin .geq (.t 14) (cI 0))]) (.cond (.t 15) (.ops true [oP 16 (.mv (.t 0)), oP 17 (.mv (.t 1)), oA 18 (.nck (.t 16)) [0], oA 19 (.fa 24 (.t 18)) [0, 2], oA 20 (.iaA 24 1 (.t 19) (.t 17)) [2, 0, 1, 3], oA 21 (.ld 1 false (.t 20)) [3, 1, 0, 2, 4], oP 22 (.mv (.t 3)), oA 23 (.bin .add (.t 21) (.t 22)) [4, 2, 0, 1, 3, 6, 5], oA 24 (.nck (.t 16)) [0],
  oA 25 (.fa 24 (.t 24)) [0, 8], oA 26 (.iaA 24 1 (.t 25) (.t 17)) [8, 7, 6, 5, 4, 3, 2, 0, 1, 9], oT (.st 1 (.t 26) (.t 23)) [9, 8, 6, 5, 4, 3, 2, 1, 0, 7, 10]]) .skip)) c175_1)
def c175 : C := (.seq (.seq (.ops false [oP 8 (.mv (.t 3)), oP 9 (.bin .lss (.t 8) (cI 0))]) (.cond (.t 9) (.ops false [oP 10 (.mv (.t 2)), oP 11 (.mv (.t 1)), oP 12 (.mv (.t 3)), oP 13 (.neg (.t 12)), oP 1 (.mv (.t 10)), oP 2 (.mv (.t 11)), oP 3 (.mv (.t 13))]) .skip)) c175_2)
def r175 : List RV := []
theorem c175_ok : ∃ code, Try.f175.body = some code ∧ compC Try.prog Try.f175.ntmps code = some (C.strip c175) := ⟨_, rfl, by kernel_rfl⟩
theorem r175_ok : compRes Try.prog Try.f175.results.toList = some r175 := by kernel_rfl
theorem f175_ok : fnOk Try.prog 175 = true := by kernel_rfl
def c176_1 : C := (.seq (.ops true [oP 12 (.fa 1 (.t 2)), oA 13 (.ld 1 false (.t 12)) [0], oP 14 (.fa 2 (.t 2)), oA 15 (.ld 1 false (.t 14)) [2], oA 4 (.mv (.t 13)) [0, 1], oA 5 (.mv (.t 15)) [2, 1, 0, 4, 3]]) .ret)
def c176 : C := (.seq (.ops false [oP 2 (.box 7 (.t 0)), oP 4 (.mv (cI 0)), oP 5 (.mv (cI 0))]) (.seq (.seq (.ops false [oP 6 (.mv (.t 1)), oP 7 (.bin .lss (.t 6) (cI 0))]) (.cond (.t 7) (.seq (.ops true [oP 8 (.fa 2 (.t 2)), oA 9 (.ld 1 false (.t 8)) [0], oP 10 (.fa 1 (.t 2)), oA 11 (.ld 1 false (.t 10)) [2], oA 4 (.mv (.t 9)) [0, 1], oA 5 (.mv (.t 11)) [2, 1, 0, 4, 3]]) .ret) .skip)) c176_1))
def r176 : List RV := [(.tmp 4), (.tmp 5)]
theorem c176_ok : ∃ code, Try.f176.body = some code ∧ compC Try.prog Try.f176.ntmps code = some (C.strip c176) := ⟨_, rfl, by kernel_rfl⟩
theorem r176_ok : compRes Try.prog Try.f176.results.toList = some r176 := by kernel_rfl
theorem f176_ok : fnOk Try.prog 176 = true := by kernel_rfl
set_option maxHeartbeats 4000000 in
theorem fends_c (s : Seg) (r : Int) (nn : Nm) : CallsA Try.prog 176 [.agg s.row, di r] Hp.none nn (Pu (.tup [di (frOf (s, r)), di (toOf (s, r))]) Hp.none) := by
  obtain ⟨code, h1, h2⟩ := c176_ok
  refine callsA_of (T0_ok _) mixed (N := fun t => (0, t)) Try.func176 h1 h2 r176_ok [] false js_nil js_nil' (by simp [Try.f176]) ?_
  by_cases a1 : r < 0 <;> simp (maxSteps:=500000) only [↓vp, vv, ↓reduceIte, simprocAttr, c176, r176, c176_1, Seg.row, a1, Pu, frOf, toOf]
def withB (r m : Int) : Bool := if -m ≤ r then decide (r ≤ m) else false
set_option maxHeartbeats 4000000 in
theorem within_c (r m : Int) (hm : -1000000 ≤ m ∧ m ≤ 1000000) (nn : Nm) : CallsA Try.prog 151 [di r, di m] Hp.none nn (Pu (db (withB r m)) Hp.none) := by
  obtain ⟨code, h1, h2⟩ := c151_ok
  refine callsA_of (T0_ok _) mixed (N := fun t => (0, t)) Try.func151 h1 h2 r151_ok [] false js_nil js_nil' (by simp [Try.f151]) ?_
  have w1 : IntKind.i64.wrap (0 - m) = -m := by rw [wrap_i (by omega)]; omega
  by_cases a1 : -m ≤ r <;> simp (maxSteps:=500000) only [↓vp, vv, ↓reduceIte, simprocAttr, c151, r151, w1, a1, Pu, withB]
def addM (M : List Int) (f t r : Int) : List Int :=
  (fun M1 : List Int => if 0 ≤ t then M1.set t.toNat (M1.getD t.toNat 0 + r) else M1) (if 0 ≤ f then M.set (24 + f.toNat) (M.getD (24 + f.toNat) 0 + r) else M)
def addF (M : List Int) (f t r : Int) : List Int := if r < 0 then addM M t f (-r) else addM M f t r
theorem getDi (M : List Int) (k : Nat) (h : k < M.length) : (M.map di).getD k .any = di (M.getD k 0) := by
  rw [List.getD_eq_getElem?_getD, List.getD_eq_getElem?_getD, List.getElem?_map, List.getElem?_eq_getElem h]; rfl
theorem setDi (M : List Int) (k : Nat) (x : Int) : (M.map di).set k (di x) = (M.set k x).map di := (List.map_set ..).symm
theorem refs_di (js : List Nm) : ∀ M : List Int, refsInL js (M.map di) = true
  | [] => rfl
  | x :: M => by rw [List.map_cons, refsInL, refs_di js M]; rfl
theorem nms_di : ∀ M : List Int, nmsL (M.map di) = []
  | [] => rfl
  | x :: M => by rw [List.map_cons, nmsL, nms_di M]; rfl
theorem done_di : ∀ M : List Int, doneL (M.map di) = true
  | [] => rfl
  | x :: M => by rw [List.map_cons, doneL, done_di M]; rfl
theorem di_done (H : Hp) (M : List Int) : (M.map di).map (lend1 H) = M.map di ∧ (M.map di).flatMap (lendNm1 H) = [] ∧ lendOkL H (M.map di) = True := ⟨(doneR H [] (done_di M)).1, (doneR H [] (done_di M)).2.1, (doneR H [] (done_di M)).2.2.1⟩
set_option maxHeartbeats 8000000 in
theorem add_c (i : Nm) (M : List Int) (f t r : Int) (hM : M.length = 48) (hb : ∀ k, k < 48 → -1000000000 ≤ M.getD k 0 ∧ M.getD k 0 ≤ 1000000000) (hf : -1 ≤ f ∧ f < 24) (ht : -1 ≤ t ∧ t < 24) (hr : -1000000 ≤ r ∧ r ≤ 1000000) (nn : Nm) :
    CallsA Try.prog 175 [.ptr i 0 0 0, di f, di t, di r] (Hp.none.put i ⟨0, 48, [M.map di]⟩) nn (Pu (.tup []) (Hp.none.put i ⟨0, 48, [(addF M f t r).map di]⟩)) := by
  obtain ⟨code, h1, h2⟩ := c175_ok
  refine callsA_of (T0_ok _) mixed (N := fun t => (i.1 + 1, t)) Try.func175 h1 h2 r175_ok [i] false js_one js_one' (by simp [Try.f175]) ?_
  have key : ∀ f t r : Int, -1 ≤ f ∧ f < 24 → -1 ≤ t ∧ t < 24 → 0 ≤ r ∧ r ≤ 1000000 → ∀ F : Fr, F 0 = .ptr i 0 0 0 → F 1 = di f → F 2 = di t → F 3 = di r →
      vc T0 (fun t => (i.1 + 1, t)) [i] c175_2 (finQ r175 [i] false (Pu (.tup []) (Hp.none.put i ⟨0, 48, [(addM M f t r).map di]⟩))) ⟨F, Hp.none.put i ⟨0, 48, [M.map di]⟩⟩ := by
    intro f t r hf ht hr F f0 f1 f2 f3
    have key2 : ∀ (M : List Int), M.length = 48 → (∀ k, k < 24 → -2000000000 ≤ M.getD k 0 ∧ M.getD k 0 ≤ 2000000000) → ∀ F : Fr, F 0 = .ptr i 0 0 0 → F 2 = di t → F 3 = di r →
        vc T0 (fun t => (i.1 + 1, t)) [i] c175_1 (finQ r175 [i] false (Pu (.tup []) (Hp.none.put i ⟨0, 48, [(if 0 ≤ t then M.set t.toNat (M.getD t.toNat 0 + r) else M).map di]⟩))) ⟨F, Hp.none.put i ⟨0, 48, [M.map di]⟩⟩ := by
      intro M hM hb F f0 f2 f3
      by_cases a1 : 0 ≤ t
      · have a2 : t.toNat < 24 := by omega
        have w := hb t.toNat a2
        have w1 : IntKind.i64.wrap (M.getD t.toNat 0 + r) = M.getD t.toNat 0 + r := wrap_i (by omega)
        have g := getDi M t.toNat (by omega)
        have a3 : t < 24 := by omega
        have a4 : t.toNat + 1 ≤ 48 := by omega
        simp (maxSteps:=500000) only [↓vp, vv, ↓reduceIte, simprocAttr, c175_1, r175, f0, f2, f3, a1, a3, a4, hM, g, w1, Nat.mul_one, setDi, refs_di, Pu]
      · simp (maxSteps:=500000) only [↓vp, vv, ↓reduceIte, simprocAttr, c175_1, r175, f0, f2, f3, a1, refs_di, Pu]
    by_cases a1 : 0 ≤ f
    · have a2 : f.toNat < 24 := by omega
      have w := hb (24 + f.toNat) (by omega)
      have w1 : IntKind.i64.wrap (M.getD (24 + f.toNat) 0 + r) = M.getD (24 + f.toNat) 0 + r := wrap_i (by omega)
      have g := getDi M (24 + f.toNat) (by omega)
      have a3 : f < 24 := by omega
      have a4 : 24 + f.toNat + 1 ≤ 48 := by omega
      have e : addM M f t r = if 0 ≤ t then (M.set (24 + f.toNat) (M.getD (24 + f.toNat) 0 + r)).set t.toNat ((M.set (24 + f.toNat) (M.getD (24 + f.toNat) 0 + r)).getD t.toNat 0 + r) else M.set (24 + f.toNat) (M.getD (24 + f.toNat) 0 + r) := by unfold addM; rw [if_pos a1]
      rw [e]
      simp (maxSteps:=500000) only [↓vp, vv, ↓reduceIte, simprocAttr, c175_2, f0, f1, f2, f3, a1, a3, a4, hM, g, w1, Nat.mul_one, setDi]
      refine key2 (M.set (24 + f.toNat) (M.getD (24 + f.toNat) 0 + r)) (by rw [List.length_set]; exact hM) (fun k hk => ?_) _ ?_ ?_ ?_
      · rw [List.getD_eq_getElem?_getD, List.getElem?_set_ne (by omega), ← List.getD_eq_getElem?_getD]
        have := hb k (by omega); omega
      · simp (maxSteps:=500000) only [↓vp, vv, ↓reduceIte, simprocAttr, f0]
      · simp (maxSteps:=500000) only [↓vp, vv, ↓reduceIte, simprocAttr, f2]
      · simp (maxSteps:=500000) only [↓vp, vv, ↓reduceIte, simprocAttr, f3]
    · have e : addM M f t r = if 0 ≤ t then M.set t.toNat (M.getD t.toNat 0 + r) else M := by unfold addM; rw [if_neg a1]
      rw [e]
      simp (maxSteps:=500000) only [↓vp, vv, ↓reduceIte, simprocAttr, c175_2, f0, f1, f2, f3, a1]
      refine key2 M hM (fun k hk => by have := hb k (by omega); omega) _ ?_ ?_ ?_
      · simp (maxSteps:=500000) only [↓vp, vv, ↓reduceIte, simprocAttr, f0]
      · simp (maxSteps:=500000) only [↓vp, vv, ↓reduceIte, simprocAttr, f2]
      · simp (maxSteps:=500000) only [↓vp, vv, ↓reduceIte, simprocAttr, f3]
  by_cases a1 : r < 0
  · have w1 : IntKind.i64.wrap (0 - r) = -r := by rw [wrap_i (by omega)]; omega
    have e : addF M f t r = addM M t f (-r) := by unfold addF; rw [if_pos a1]
    rw [e]
    simp (maxSteps:=500000) only [↓vp, vv, ↓reduceIte, simprocAttr, c175, a1, w1]
    refine key t f (-r) ht hf (by omega) _ ?_ ?_ ?_ ?_ <;> simp (maxSteps:=500000) only [↓vp, vv, ↓reduceIte, simprocAttr, w1]
  · have e : addF M f t r = addM M f t r := by unfold addF; rw [if_neg a1]
    rw [e]
    simp (maxSteps:=500000) only [↓vp, vv, ↓reduceIte, simprocAttr, c175, a1]
    refine key f t r hf ht (by omega) _ ?_ ?_ ?_ ?_ <;> simp (maxSteps:=500000) only [↓vp, vv, ↓reduceIte, simprocAttr, ]
def amtM (T : List Fl) : List Int := amt comeOf T ++ amt leaveOf T
theorem amtM_len (T : List Fl) : (amtM T).length = 48 := by simp [amtM, amt]
theorem amtM_at (T : List Fl) (k : Nat) (h : k < 48) : (amtM T).getD k 0 = if k < 24 then sumI (comeOf (k : Int)) T else sumI (leaveOf ((k - 24 : Nat) : Int)) T := by
  have hl : (amt comeOf T).length = 24 := by simp [amt]
  unfold amtM
  rw [List.getD_eq_getElem?_getD]
  split
  · rename_i h1
    rw [List.getElem?_append_left (by omega)]
    simp [amt, h1]
  · rename_i h1
    rw [List.getElem?_append_right (by omega), hl]
    have : k - 24 < 24 := by omega
    simp [amt, this]
def FlIn (t : Fl) : Prop := (-1 ≤ t.1 ∧ t.1 < 24) ∧ (-1 ≤ t.2.1 ∧ t.2.1 < 24) ∧ -1000 ≤ t.2.2 ∧ t.2.2 ≤ 1000
theorem amtM_bd (T : List Fl) (hl : T.length ≤ 1000) (h : ∀ t ∈ T, FlIn t) (k : Nat) (hk : k < 48) : 0 ≤ (amtM T).getD k 0 ∧ (amtM T).getD k 0 ≤ 1000000 := by
  rw [amtM_at T k hk]
  split
  · have a := sumI_nn (f := comeOf (k : Int)) (l := T) fun x _ => come_nn _ x
    have b := sumI_le (f := comeOf (k : Int)) 1000 (l := T) fun x hx => come_le (h x hx).2.2
    omega
  · have a := sumI_nn (f := leaveOf ((k - 24 : Nat) : Int)) (l := T) fun x _ => leave_nn _ x
    have b := sumI_le (f := leaveOf ((k - 24 : Nat) : Int)) 1000 (l := T) fun x hx => leave_le (h x hx).2.2
    omega
theorem addM_len (M : List Int) (f t r : Int) : (addM M f t r).length = M.length := by
  unfold addM
  split <;> split <;> simp
theorem getD_set (M : List Int) (a k : Nat) (x : Int) (h : a < M.length) : (M.set a x).getD k 0 = if a = k then x else M.getD k 0 := by
  rw [List.getD_eq_getElem?_getD, List.getElem?_set, List.getD_eq_getElem?_getD]
  by_cases c : a = k
  · rw [if_pos c, if_pos h, if_pos c]; rfl
  · rw [if_neg c, if_neg c]
theorem addM_at (M : List Int) (hM : M.length = 48) (f t r : Int) (hf : -1 ≤ f ∧ f < 24) (ht : -1 ≤ t ∧ t < 24) (k : Nat) (hk : k < 48) : (addM M f t r).getD k 0 = M.getD k 0 + (if (k : Int) = t then r else 0) + (if (k : Int) = 24 + f ∧ 0 ≤ f then r else 0) := by
  unfold addM
  dsimp only
  by_cases a : 0 ≤ f
  · rw [if_pos a]
    have s1 : ∀ j, (M.set (24 + f.toNat) (M.getD (24 + f.toNat) 0 + r)).getD j 0 = if 24 + f.toNat = j then M.getD (24 + f.toNat) 0 + r else M.getD j 0 := fun j => getD_set _ _ _ _ (by omega)
    by_cases d : 24 + f.toNat = k
    · have d2 : (k : Int) = 24 + f ∧ 0 ≤ f := by omega
      have d3 : ¬ (k : Int) = t := by omega
      rw [if_pos d2, if_neg d3]
      by_cases b : 0 ≤ t
      · rw [if_pos b, getD_set _ _ _ _ (by rw [List.length_set]; omega), if_neg (by omega : ¬ t.toNat = k), s1, if_pos d, d]; omega
      · rw [if_neg b, s1, if_pos d, d]; omega
    · have d2 : ¬ ((k : Int) = 24 + f ∧ 0 ≤ f) := by omega
      rw [if_neg d2]
      by_cases b : 0 ≤ t
      · rw [if_pos b, getD_set _ _ _ _ (by rw [List.length_set]; omega)]
        by_cases c : t.toNat = k
        · have c2 : (k : Int) = t := by omega
          rw [if_pos c, if_pos c2, s1, if_neg (by omega : ¬ 24 + f.toNat = t.toNat), c]; omega
        · have c2 : ¬ (k : Int) = t := by omega
          rw [if_neg c, if_neg c2, s1, if_neg d]; omega
      · have c2 : ¬ (k : Int) = t := by omega
        rw [if_neg b, if_neg c2, s1, if_neg d]; omega
  · have d2 : ¬ ((k : Int) = 24 + f ∧ 0 ≤ f) := by omega
    rw [if_neg a, if_neg d2]
    by_cases b : 0 ≤ t
    · rw [if_pos b, getD_set _ _ _ _ (by omega)]
      by_cases c : t.toNat = k
      · have c2 : (k : Int) = t := by omega
        rw [if_pos c, if_pos c2, c]; omega
      · have c2 : ¬ (k : Int) = t := by omega
        rw [if_neg c, if_neg c2]; omega
    · have c2 : ¬ (k : Int) = t := by omega
      rw [if_neg b, if_neg c2]; omega
theorem addF_amt (T : List Fl) (t : Fl) (h : FlIn t) : addF (amtM T) t.1 t.2.1 t.2.2 = amtM (T ++ [t]) := by
  obtain ⟨f, g, r⟩ := t
  obtain ⟨h1, h2, h3⟩ := h
  dsimp only at h1 h2 h3 ⊢
  have hlen : (addF (amtM T) f g r).length = 48 := by
    unfold addF
    split <;> rw [addM_len, amtM_len]
  apply List.ext_getElem?
  intro k
  rcases Nat.lt_or_ge k 48 with hk | hk
  · have e : (addF (amtM T) f g r).getD k 0 = (amtM (T ++ [(f, g, r)])).getD k 0 := by
      rw [amtM_at _ k hk]
      unfold addF
      split
      · rename_i hr
        rw [addM_at _ (amtM_len T) _ _ _ h2 h1 k hk, amtM_at _ k hk]
        split
        · rw [sumI_snoc]
          unfold comeOf
          dsimp only
          rw [if_pos hr, if_neg (by omega : ¬ ((k : Int) = 24 + g ∧ 0 ≤ g))]
          by_cases c : (k : Int) = f
          · rw [if_pos c, if_pos c.symm]; omega
          · rw [if_neg c, if_neg (Ne.symm c)]; omega
        · rw [sumI_snoc]
          unfold leaveOf
          dsimp only
          rw [if_pos hr, if_neg (by omega : ¬ (k : Int) = f)]
          by_cases c : (k : Int) = 24 + g ∧ 0 ≤ g
          · rw [if_pos c, if_pos (by omega)]; omega
          · rw [if_neg c, if_neg (by omega)]; omega
      · rename_i hr
        rw [addM_at _ (amtM_len T) _ _ _ h1 h2 k hk, amtM_at _ k hk]
        split
        · rw [sumI_snoc]
          unfold comeOf
          dsimp only
          rw [if_neg hr, if_neg (by omega : ¬ ((k : Int) = 24 + f ∧ 0 ≤ f))]
          by_cases c : (k : Int) = g
          · rw [if_pos c, if_pos c.symm]; omega
          · rw [if_neg c, if_neg (Ne.symm c)]; omega
        · rw [sumI_snoc]
          unfold leaveOf
          dsimp only
          rw [if_neg hr, if_neg (by omega : ¬ (k : Int) = g)]
          by_cases c : (k : Int) = 24 + f ∧ 0 ≤ f
          · rw [if_pos c, if_pos (by omega)]; omega
          · rw [if_neg c, if_neg (by omega)]; omega
    have l1 : k < (addF (amtM T) f g r).length := by omega
    have l2 : k < (amtM (T ++ [(f, g, r)])).length := by rw [amtM_len]; exact hk
    rw [List.getD_eq_getElem?_getD, List.getD_eq_getElem?_getD, List.getElem?_eq_getElem l1, List.getElem?_eq_getElem l2] at e
    rw [List.getElem?_eq_getElem l1, List.getElem?_eq_getElem l2]
    exact congrArg some e
  · rw [List.getElem?_eq_none (by omega), List.getElem?_eq_none (by rw [amtM_len]; exact hk)]
def idsOf : List D → Option (List Int)
  | [] => some []
  | .v (.int .i64 n) :: l => match idsOf l with
    | some ns => some (n :: ns)
    | Option.none => Option.none
  | _ => Option.none
theorem idsOf_map : ∀ (M : List Int), idsOf (M.map di) = some M
  | [] => rfl
  | n :: M => by rw [List.map_cons, idsOf, idsOf_map M]
def AddPre (M : List Int) (f t r : Int) : Prop := M.length = 48 ∧ (∀ k, k < 48 → -1000000000 ≤ M.getD k 0 ∧ M.getD k 0 ≤ 1000000000) ∧ (-1 ≤ f ∧ f < 24) ∧ (-1 ≤ t ∧ t < 24) ∧ -1000000 ≤ r ∧ r ≤ 1000000
def rowAdd : List D → Hp → Nm → Option (Prop × (D → Hp → Prop)) := fun args Hs nn =>
  match args with
  | [.ptr i g r c, .v (.int .i64 a), .v (.int .i64 b), .v (.int .i64 k)] => match Hs i with
    | some ⟨_, _, [row]⟩ => match idsOf row with
      | some M => some ((Hs = Hp.none.put i ⟨0, 48, [M.map di]⟩ ∧ g = 0 ∧ r = 0 ∧ c = 0) ∧ AddPre M a b k, Pu (.tup []) (Hp.none.put i ⟨0, 48, [(addF M a b k).map di]⟩))
      | Option.none => Option.none
    | _ => Option.none
  | _ => Option.none
theorem tc_add {T : Tbl} (hT : TblOk Try.prog T) : TblOk Try.prog (tc 175 rowAdd T) :=
  tc_row f175_ok (fun args Hs nn pre R hr hp => by
    unfold rowAdd at hr
    split at hr
    · split at hr
      · split at hr
        · cases hr
          obtain ⟨⟨rfl, rfl, rfl, rfl⟩, h1, h2, h3, h4, h5⟩ := hp
          exact ⟨⟨_, _, rfl, rfl⟩, add_c _ _ _ _ _ h1 h2 h3 h4 h5 nn⟩
        · cases hr
      · cases hr
    · cases hr) hT
structure FlOk (n : Net) (p : Pln) : Prop where
  sl : n.segs.length ≤ 32
  ql : n.ports.length ≤ 24
  rl : p.rates.length = n.segs.length
  pl : p.ports.length = n.ports.length
  fl : ∀ t ∈ flowsOf n p, FlIn t
def zeros : List D := [di 0, di 0, di 0, di 0, di 0, di 0, di 0, di 0, di 0, di 0, di 0, di 0, di 0, di 0, di 0, di 0, di 0, di 0, di 0, di 0, di 0, di 0, di 0, di 0, di 0, di 0, di 0, di 0, di 0, di 0, di 0, di 0, di 0, di 0, di 0, di 0, di 0, di 0, di 0, di 0, di 0, di 0, di 0, di 0, di 0, di 0, di 0, di 0]
theorem put_all {row ds : List D} (h : ds.length = row.length) : put1 row 0 ds = ds := by
  rw [put1_eq row 0 ds (by omega), List.take_zero, List.drop_of_length_le (by omega)]
  simp
def HS (n : Net) (p : Pln) (T : List Fl) : Hp := (((Hp.none.put (0, 5) ⟨0, 48, [(amtM T).map di]⟩).put (0, 4) ⟨0, 48, [zeros]⟩).put (0, 3) ⟨0, 3, [plnD p]⟩).put (0, 2) ⟨0, 6, [netD n]⟩
def HS2 (p : Pln) (T : List Fl) : Hp := ((Hp.none.put (0, 5) ⟨0, 48, [(amtM T).map di]⟩).put (0, 4) ⟨0, 48, [zeros]⟩).put (0, 3) ⟨0, 3, [plnD p]⟩
theorem zip_take {α β γ : Type} (f : α → β → γ) : ∀ {l : List α} {m : List β} {j : Nat} (h1 : j < l.length) (h2 : j < m.length), List.zipWith f (l.take (j + 1)) (m.take (j + 1)) = List.zipWith f (l.take j) (m.take j) ++ [f l[j] m[j]]
  | x :: l, y :: m, 0, _, _ => by simp
  | x :: l, y :: m, j + 1, h1, h2 => by
    have := zip_take f (l := l) (m := m) (j := j) (by simpa using h1) (by simpa using h2)
    simp only [List.take_succ_cons, List.zipWith_cons_cons, this, List.cons_append, List.getElem_cons_succ]
theorem zip_mem {α β γ : Type} (f : α → β → γ) : ∀ {l : List α} {m : List β} {j : Nat} (h1 : j < l.length) (h2 : j < m.length), f l[j] m[j] ∈ List.zipWith f l m
  | x :: l, y :: m, 0, _, _ => by simp
  | x :: l, y :: m, j + 1, h1, h2 => by
    simp only [List.getElem_cons_succ, List.zipWith_cons_cons]
    exact List.mem_cons_of_mem _ (zip_mem f (by simpa using h1) (by simpa using h2))
theorem zip_sub {α β γ : Type} (f : α → β → γ) : ∀ (l : List α) (m : List β) (j : Nat) (x : γ), x ∈ List.zipWith f (l.take j) (m.take j) → x ∈ List.zipWith f l m
  | [], m, j, x, h => by simp at h
  | a :: l, [], j, x, h => by simp at h
  | a :: l, b :: m, 0, x, h => by simp at h
  | a :: l, b :: m, j + 1, x, h => by
    simp only [List.take_succ_cons, List.zipWith_cons_cons, List.mem_cons] at h ⊢
    exact h.imp id (zip_sub f l m j x)
theorem iRow_at (R : List Int) (j : Nat) (h : j < R.length) : (R.map iRow).getD j [] = [di R[j]] := by rw [getD_map iRow R j h]; rfl
set_option maxHeartbeats 16000000 in
theorem sums_c (n : Net) (p : Pln) (hF : FlOk n p) (nn : Nm) : CallsA Try.prog 153 [n.enc, p.enc] Hp.none nn (Pu (.agg ((amtM (flowsOf n p)).map di)) Hp.none) := by
  obtain ⟨code, h1, h2⟩ := c153_ok
  refine callsA_of (tc_add (T0_ok _)) mixed (N := fun t => (0, t)) Try.func153 h1 h2 r153_ok [] false js_nil js_nil' (by simp [Try.f153]) ?_
  obtain ⟨s1, s2, s3, s4, s5⟩ := hF
  have bound : ∀ T, T.length ≤ 100 → (∀ t ∈ T, FlIn t) → ∀ k, k < 48 → -1000000000 ≤ (amtM T).getD k 0 ∧ (amtM T).getD k 0 ≤ 1000000000 := fun T hl h k hk => by
    have := amtM_bd T (by omega) h k hk
    omega
  simp (maxSteps:=500000) only [↓vp, vv, ↓reduceIte, simprocAttr, c153, Net.enc, Pln.enc, plnD]
  refine rng_loop n.segs.length (fun j => ⟨fr [(2, .ptr (0, 2) 0 0 0), (3, .ptr (0, 3) 0 0 0), (4, .ptr (0, 4) 0 0 0), (5, .ptr (0, 5) 0 0 0), (11, .sl (n.segs.map Seg.row)), (12, di n.segs.length), (13, di j)], HS n p (List.zipWith segFl (n.segs.take j) (p.rates.take j))⟩) (fun j => True) (weak_eq [] [(0, 2), (0, 3), (0, 4), (0, 5)] [(2, .ptr (0, 2) 0 0 0), (3, .ptr (0, 3) 0 0 0), (4, .ptr (0, 4) 0 0 0), (5, .ptr (0, 5) 0 0 0), (11, .sl (n.segs.map Seg.row)), (12, di n.segs.length), (13, di 0)] (by simp (maxSteps:=500000) only [↓vp, vv, ↓reduceIte, simprocAttr, coverS, HS, netD, plnD, zeros]) (by simp (maxSteps:=500000) only [↓vp, vv, ↓reduceIte, simprocAttr, refsF, HS, netD, plnD, zeros]) (by simp (maxSteps:=500000) only [↓vp, vv, ↓reduceIte, simprocAttr, HS, netD, plnD, zeros]) (by simp) (by simp (maxSteps:=500000) only [↓vp, vv, ↓reduceIte, simprocAttr, HS, netD, plnD, zeros]; try rfl)) trivial (fun j hj _ => ?_) (fun _ => ?_)
  · have hj' : (j : Int) < n.segs.length := by omega
    have hn := idx_nn j
    have w1 := idx_next (j := j) (by omega)
    have hr : j < p.rates.length := by omega
    have hr' : (j : Int) < p.rates.length := by omega
    have hg := getD_map Seg.row n.segs j hj
    have hg2 := iRow_at p.rates j hr
    have hT := zip_take segFl hj hr
    have hi : FlIn (segFl n.segs[j] p.rates[j]) := s5 _ (List.mem_append_left _ (zip_mem segFl hj hr))
    have hb := bound (List.zipWith segFl (n.segs.take j) (p.rates.take j)) (by rw [List.length_zipWith, List.length_take]; omega) fun t ht => s5 t (List.mem_append_left _ (zip_sub segFl _ _ j t ht))
    have ha := addF_amt (List.zipWith segFl (n.segs.take j) (p.rates.take j)) _ hi
    rw [← hT] at ha
    generalize List.zipWith segFl (n.segs.take j) (p.rates.take j) = T at hb ha
    have hpre : AddPre (amtM T) n.segs[j].fr n.segs[j].to p.rates[j] := ⟨amtM_len T, hb, hi.1, hi.2.1, by have := hi.2.2; unfold segFl at this; dsimp only at this; omega, by have := hi.2.2; unfold segFl at this; dsimp only at this; omega⟩
    unfold segFl at ha
    dsimp only at ha
    generalize n.segs[j] = s at hg ha hpre
    generalize p.rates[j] = r at hg2 ha hpre
    simp (maxSteps:=500000) only [↓vp, vv, ↓reduceIte, simprocAttr, c153, r153, c153_1, c153_2, c153_3, c153_4, c153_5, c153_6, refs_di, nms_di, HS, netD, plnD, rowAdd, idsOf_map, hj', hr', hn, Int.toNat_natCast, hg, hg2, Seg.row, w1, ha, hpre]
    exact rng_next hj (weak_eq [] [(0, 2), (0, 3), (0, 4), (0, 5)] [(2, .ptr (0, 2) 0 0 0), (3, .ptr (0, 3) 0 0 0), (4, .ptr (0, 4) 0 0 0), (5, .ptr (0, 5) 0 0 0), (11, .sl (n.segs.map Seg.row)), (12, di n.segs.length), (13, di (j + 1 : Nat))] (by simp (maxSteps:=500000) only [↓vp, vv, ↓reduceIte, simprocAttr, coverS, HS, netD, plnD, zeros, w1, refs_di]) (by simp (maxSteps:=500000) only [↓vp, vv, ↓reduceIte, simprocAttr, refsF, HS, netD, plnD, zeros, w1, refs_di]) (by simp (maxSteps:=500000) only [↓vp, vv, ↓reduceIte, simprocAttr, HS, netD, plnD, zeros, w1, refs_di]) (by simp) (by simp (maxSteps:=500000) only [↓vp, vv, ↓reduceIte, simprocAttr, HS, netD, plnD, zeros, w1, refs_di]; try rfl)) trivial
  · simp (maxSteps:=500000) only [↓vp, vv, ↓reduceIte, simprocAttr, c153, r153, c153_1, c153_2, c153_3, c153_4, c153_5, c153_6, refs_di, nms_di, HS, netD, plnD, Int.lt_irrefl]
    have hTs : List.zipWith segFl (n.segs.take n.segs.length) (p.rates.take n.segs.length) = List.zipWith segFl n.segs p.rates := by rw [List.take_length, ← s3, List.take_length]
    rw [hTs]
    refine rng_loop n.ports.length (fun j => ⟨fr [(3, .ptr (0, 3) 0 0 0), (4, .ptr (0, 4) 0 0 0), (5, .ptr (0, 5) 0 0 0), (30, .sl (n.ports.map Port.row)), (31, di n.ports.length), (32, di j)], HS2 p (List.zipWith segFl n.segs p.rates ++ List.zipWith portFl (n.ports.take j) (p.ports.take j))⟩) (fun j => True) (weak_eq [] [(0, 3), (0, 4), (0, 5)] [(3, .ptr (0, 3) 0 0 0), (4, .ptr (0, 4) 0 0 0), (5, .ptr (0, 5) 0 0 0), (30, .sl (n.ports.map Port.row)), (31, di n.ports.length), (32, di 0)] (by simp (maxSteps:=500000) only [↓vp, vv, ↓reduceIte, simprocAttr, coverS, HS2, netD, plnD, zeros, refs_di, List.zipWith_nil_left]) (by simp (maxSteps:=500000) only [↓vp, vv, ↓reduceIte, simprocAttr, refsF, HS2, netD, plnD, zeros, refs_di, List.zipWith_nil_left]) (by simp (maxSteps:=500000) only [↓vp, vv, ↓reduceIte, simprocAttr, HS2, netD, plnD, zeros, refs_di, List.zipWith_nil_left]) (by simp) (by simp (maxSteps:=500000) only [↓vp, vv, ↓reduceIte, simprocAttr, HS2, netD, plnD, zeros, refs_di, List.zipWith_nil_left]; try rfl)) trivial (fun j hj _ => ?_) (fun _ => ?_)
    · have hj' : (j : Int) < n.ports.length := by omega
      have hn := idx_nn j
      have w1 := idx_next (j := j) (by omega)
      have hr : j < p.ports.length := by omega
      have hr' : (j : Int) < p.ports.length := by omega
      have hg := getD_map Port.row n.ports j hj
      have hg2 := iRow_at p.ports j hr
      have hT := zip_take portFl hj hr
      have hi : FlIn (portFl n.ports[j] p.ports[j]) := s5 _ (List.mem_append_right _ (zip_mem portFl hj hr))
      have hb := bound (List.zipWith segFl n.segs p.rates ++ List.zipWith portFl (n.ports.take j) (p.ports.take j)) (by rw [List.length_append, List.length_zipWith, List.length_zipWith, List.length_take]; omega) fun t ht => by
        rcases List.mem_append.1 ht with ht | ht
        · exact s5 t (List.mem_append_left _ ht)
        · exact s5 t (List.mem_append_right _ (zip_sub portFl _ _ j t ht))
      have ha := addF_amt (List.zipWith segFl n.segs p.rates ++ List.zipWith portFl (n.ports.take j) (p.ports.take j)) _ hi
      rw [List.append_assoc, ← hT] at ha
      generalize List.zipWith segFl n.segs p.rates ++ List.zipWith portFl (n.ports.take j) (p.ports.take j) = T at hb ha
      have hpre : AddPre (amtM T) (-1) n.ports[j].node p.ports[j] := ⟨amtM_len T, hb, by omega, hi.2.1, by have := hi.2.2; unfold portFl at this; dsimp only at this; omega, by have := hi.2.2; unfold portFl at this; dsimp only at this; omega⟩
      unfold portFl at ha
      dsimp only at ha
      generalize n.ports[j] = s at hg ha hpre
      generalize p.ports[j] = r at hg2 ha hpre
      simp (maxSteps:=500000) only [↓vp, vv, ↓reduceIte, simprocAttr, c153, r153, c153_1, c153_2, c153_3, c153_4, c153_5, c153_6, refs_di, nms_di, HS2, plnD, rowAdd, idsOf_map, hj', hr', hn, Int.toNat_natCast, hg, hg2, Port.row, w1, ha, hpre]
      exact rng_next hj (weak_eq [] [(0, 3), (0, 4), (0, 5)] [(3, .ptr (0, 3) 0 0 0), (4, .ptr (0, 4) 0 0 0), (5, .ptr (0, 5) 0 0 0), (30, .sl (n.ports.map Port.row)), (31, di n.ports.length), (32, di (j + 1 : Nat))] (by simp (maxSteps:=500000) only [↓vp, vv, ↓reduceIte, simprocAttr, coverS, HS2, netD, plnD, zeros, w1, refs_di]) (by simp (maxSteps:=500000) only [↓vp, vv, ↓reduceIte, simprocAttr, refsF, HS2, netD, plnD, zeros, w1, refs_di]) (by simp (maxSteps:=500000) only [↓vp, vv, ↓reduceIte, simprocAttr, HS2, netD, plnD, zeros, w1, refs_di]) (by simp) (by simp (maxSteps:=500000) only [↓vp, vv, ↓reduceIte, simprocAttr, HS2, netD, plnD, zeros, w1, refs_di]; try rfl)) trivial
    · have hTs : List.zipWith segFl n.segs p.rates ++ List.zipWith portFl (n.ports.take n.ports.length) (p.ports.take n.ports.length) = flowsOf n p := by rw [List.take_length, ← s4, List.take_length]; rfl
      rw [hTs]
      generalize flowsOf n p = T
      have hl := amtM_len T
      have ht : ((amtM T).map di).take 48 = (amtM T).map di := List.take_of_length_le (by rw [List.length_map, hl]; exact Nat.le_refl _)
      simp (maxSteps:=500000) only [↓vp, vv, ↓reduceIte, simprocAttr, c153, r153, c153_1, c153_2, c153_3, c153_4, c153_5, c153_6, refs_di, nms_di, HS2, plnD, zeros, Int.lt_irrefl, hl, ht, put_all, di_done, Pu]
def nRow (k : Nat) : List D := [di (k : Int)]
def selEnds : List D → Option (Prop × D)
  | [.agg r, .v (.int .i64 k)] => match segOf1 r with
    | some s => some (True, .tup [di (frOf (s, k)), di (toOf (s, k))])
    | Option.none => Option.none
  | _ => Option.none
def TO : Tbl := tc 176 (rowPu selEnds) T0
theorem TO_ok : TblOk Try.prog TO := by
  refine tc_pu f176_ok (fun args pre d h hp nn => ?_) (T0_ok _)
  unfold selEnds at h
  split at h
  · split at h
    · rename_i hs
      cases h
      rw [segOf1_eq hs]
      exact fends_c _ _ nn
    · cases h
  · cases h
def HO (n : Net) (p : Pln) (g : Nat) (out : List Nat) (th : List Bool) : Hp := (((Hp.none.put (0, 1000) ⟨g, 1, out.map nRow⟩).put (0, 15) ⟨0, 1, th.map bRow⟩).put (0, 3) ⟨0, 3, [plnD p]⟩).put (0, 2) ⟨0, 6, [netD n]⟩
def FrO (g : Nat) (out : List Nat) (th : List Bool) (k : Int) (l : List (Nat × D)) : List (Nat × D) := (2, .ptr (0, 2) 0 0 0) :: (3, .ptr (0, 3) 0 0 0) :: (5, .own (0, 1000) g 0 out.length) :: (6, .own (0, 15) 0 0 th.length) :: (7, di k) :: l
structure OI (n : Net) (p : Pln) (th : List Bool) (out : List Nat) (k : Nat) : Prop where
  tl : th.length = n.nodes.length
  kl : k ≤ n.nodes.length
  cnt : cntF th + out.length = n.nodes.length
  res : ordL (n.segs.zip p.rates) (cntF th) th out = ordB n p
  no : ∀ j, j < k → pickB (n.segs.zip p.rates) th j = false
def OInv (n : Net) (p : Pln) (m : Nat) (s : St) : Prop := ∃ th out k g, OI n p th out k ∧ m = cntF th * (n.nodes.length + 1) + (n.nodes.length - k) ∧ s = ⟨fr (FrO g out th k []), HO n p g out th⟩
theorem OI.skip {n : Net} {p : Pln} {th : List Bool} {out : List Nat} {k : Nat} (h : OI n p th out k) (hk : k < n.nodes.length) (hp : pickB (n.segs.zip p.rates) th k = false) : OI n p th out (k + 1) :=
  ⟨h.tl, hk, h.cnt, h.res, fun j hj => by
    rcases Nat.lt_or_ge j k with h1 | h1
    · exact h.no j h1
    · obtain rfl : j = k := by omega
      exact hp⟩
theorem OI.pick {n : Net} {p : Pln} {th : List Bool} {out : List Nat} {k : Nat} (h : OI n p th out k) (hp : pickB (n.segs.zip p.rates) th k = true) : OI n p (th.set k true) (out ++ [k]) 0 ∧ cntF (th.set k true) + 1 = cntF th := by
  have hs := getD_none ((pick_iff _ th k).1 hp).1
  have hc := cntF_set th k hs
  refine ⟨⟨by rw [List.length_set]; exact h.tl, Nat.zero_le _, ?_, ?_, fun j hj => absurd hj (Nat.not_lt_zero j)⟩, hc⟩
  · have := h.cnt
    rw [List.length_append, List.length_singleton]
    omega
  · rw [← h.res]
    exact (ord_pick h.no hp).symm
theorem bRow_at (th : List Bool) (k : Nat) (h : k < th.length) : (th.map bRow).getD k [] = [db (th.getD k false)] := by
  rw [getD_map bRow th k h, List.getD_eq_getElem?_getD, List.getElem?_eq_getElem h]
  rfl
theorem bRow_set (th : List Bool) (k : Nat) (b : Bool) : (th.map bRow).set k [db b] = (th.set k b).map bRow := (List.map_set ..).symm
theorem len_set (th : List Bool) (k : Nat) (b : Bool) : (th.set k b).length = th.length := List.length_set
theorem w_zero : IntKind.i64.wrap 0 = 0 := by decide
theorem zip_get {α β : Type} {l : List α} {m : List β} {i : Nat} (h1 : i < l.length) (h2 : i < m.length) : (l.zip m)[i]? = some (l[i], m[i]) := by
  rw [List.getElem?_zip_eq_some]
  exact ⟨List.getElem?_eq_getElem h1, List.getElem?_eq_getElem h2⟩
set_option maxHeartbeats 16000000 in
theorem order_c (n : Net) (p : Pln) (hz1 : n.nodes.length ≤ 1000000) (hz2 : n.segs.length ≤ 1000000) (hr : p.rates.length = n.segs.length) (hE : EdgeIn (n.segs.zip p.rates) n.nodes.length) (nn : Nm) :
    CallsA Try.prog 154 [n.enc, p.enc] Hp.none nn (Pu (.sl ((ordB n p).map nRow)) Hp.none) := by
  obtain ⟨code, h1, h2⟩ := c154_ok
  refine callsA_of TO_ok mixed (N := fun t => (0, t)) Try.func154 h1 h2 r154_ok [] false js_nil js_nil' (by simp [Try.f154]) ?_
  obtain ⟨i1, i2⟩ := init_inv (n.segs.zip p.rates) n.nodes.length
  have e0 : List.replicate n.nodes.length [db false] = (List.replicate n.nodes.length false).map bRow := by rw [List.map_replicate]; rfl
  have z1 : (8 : Int) * n.nodes.length ≤ 281474976710656 := by omega
  have z2 : (n.nodes.length : Int) ≤ 281474976710656 := by omega
  have z3 : (n.nodes.length : Int) ≤ 4611686018427387904 := by omega
  have z4 := idx_nn n.nodes.length
  simp (maxSteps:=500000) only [↓vp, vv, ↓reduceIte, simprocAttr, c154, Net.enc, Pln.enc, plnD, Int.toNat_natCast, z1, z2, z3, z4, e0, Int.one_mul]
  rw [vc_loop]
  refine ⟨OInv n p, ⟨_, _, (weak_own 5 (0, 1000) 1 (by simp (maxSteps:=500000) only [↓vp, vv, ↓reduceIte, simprocAttr, ]) (by simp (maxSteps:=500000) only [↓vp, vv, ↓reduceIte, simprocAttr, ])).trans (weak_eq [] [(0, 2), (0, 3), (0, 15), (0, 1000)] (FrO 0 [] (List.replicate n.nodes.length false) 0 []) (by simp (maxSteps:=500000) only [↓vp, vv, ↓reduceIte, simprocAttr, coverS, FrO, HO, netD, plnD, bRow, List.length_replicate]) (by simp (maxSteps:=500000) only [↓vp, vv, ↓reduceIte, simprocAttr, refsF, FrO, HO, netD, plnD, bRow, List.length_replicate]) (by simp (maxSteps:=500000) only [↓vp, vv, ↓reduceIte, simprocAttr, FrO, HO, netD, plnD, bRow, List.length_replicate]) (by simp) (by simp (maxSteps:=500000) only [↓vp, vv, ↓reduceIte, simprocAttr, FrO, HO, netD, plnD, bRow, List.length_replicate]; try rfl)), List.replicate n.nodes.length false, [], 0, 0, ⟨List.length_replicate, Nat.zero_le _, by rw [i2]; rfl, by rw [i2]; rfl, fun j hj => absurd hj (Nat.not_lt_zero j)⟩, rfl, rfl⟩, ?_⟩
  rintro m s ⟨th, out, k, g, hI, hm, rfl⟩
  have htl := hI.tl
  by_cases hk : k < n.nodes.length
  · have hk' : (k : Int) < n.nodes.length := by omega
    have hkt : k < th.length := by omega
    have hkt' : (k : Int) < th.length := by omega
    have hn := idx_nn k
    have w1 := idx_next (j := k) (by omega)
    have hg := bRow_at th k hkt
    have fin : pickB (n.segs.zip p.rates) th k = false → ∀ F : Fr, ∀ H : Hp, H (0, 2) = some ⟨0, 6, [netD n]⟩ → H (0, 3) = some ⟨0, 3, [plnD p]⟩ → H (0, 15) = some ⟨0, 1, th.map bRow⟩ → H (0, 1000) = some ⟨g, 1, out.map nRow⟩ → F 2 = .ptr (0, 2) 0 0 0 → F 3 = .ptr (0, 3) 0 0 0 → F 5 = .own (0, 1000) g 0 out.length → F 6 = .own (0, 15) 0 0 th.length → F 7 = di (k + 1 : Nat) →
        ∃ k' s', k' < m ∧ Weak [] ⟨F, H⟩ s' ∧ OInv n p k' s' := by
      intro hp F H g1 g2 g3 g4 f2 f3 f5 f6 f7
      refine ⟨_, _, ?_, (weak_eq [] [(0, 2), (0, 3), (0, 15), (0, 1000)] (FrO g out th (k + 1 : Nat) []) (by simp (maxSteps:=500000) only [↓vp, vv, ↓reduceIte, simprocAttr, coverS, FrO, HO, netD, plnD, nRow, bRow, f2, f3, f5, f6, f7, g1, g2, g3, g4]) (by simp (maxSteps:=500000) only [↓vp, vv, ↓reduceIte, simprocAttr, refsF, FrO, HO, netD, plnD, nRow, bRow, f2, f3, f5, f6, f7, g1, g2, g3, g4]) (by simp (maxSteps:=500000) only [↓vp, vv, ↓reduceIte, simprocAttr, FrO, HO, netD, plnD, nRow, bRow, f2, f3, f5, f6, f7, g1, g2, g3, g4]) (by simp) (by simp (maxSteps:=500000) only [↓vp, vv, ↓reduceIte, simprocAttr, FrO, HO, netD, plnD, nRow, bRow, f2, f3, f5, f6, f7, g1, g2, g3, g4]; try rfl)), th, out, k + 1, g, hI.skip hk hp, rfl, rfl⟩
      omega
    cases ht : th.getD k false with
    | true =>
      have hp : pickB (n.segs.zip p.rates) th k = false := by
        unfold pickB
        rw [List.getD_eq_getElem?_getD, List.getElem?_eq_getElem hkt, Option.getD_some] at ht ⊢
        rw [if_pos ht]
      rw [ht] at hg
      simp (maxSteps:=500000) only [↓vp, vv, ↓reduceIte, simprocAttr, c154, r154, c154_1, c154_2, c154_3, c154_4, c154_5, c154_6, c154_7, c154_8, c154_9, FrO, HO, netD, plnD, hk', hkt, hkt', hn, Int.toNat_natCast, hg, w1]
      refine fin hp _ _ ?_ ?_ ?_ ?_ ?_ ?_ ?_ ?_ ?_ <;> simp (maxSteps:=500000) only [↓vp, vv, ↓reduceIte, simprocAttr, netD, plnD, w1]
    | false =>
      rw [ht] at hg
      simp (maxSteps:=500000) only [↓vp, vv, ↓reduceIte, simprocAttr, c154, r154, c154_1, c154_2, c154_3, c154_4, c154_5, c154_6, c154_7, c154_8, c154_9, FrO, HO, netD, plnD, hk', hkt, hkt', hn, Int.toNat_natCast, hg, w1]
      refine rng_loop n.segs.length (fun i => ⟨fr (FrO g out th k [(28, .sl (n.segs.map Seg.row)), (29, di n.segs.length), (30, di i)]), HO n p g out th⟩) (fun i => ∀ i', i' < i → ∀ x, (n.segs.zip p.rates)[i']? = some x → blk th k x = false) (weak_eq [] [(0, 2), (0, 3), (0, 15), (0, 1000)] (FrO g out th k [(28, .sl (n.segs.map Seg.row)), (29, di n.segs.length), (30, di 0)]) (by simp (maxSteps:=500000) only [↓vp, vv, ↓reduceIte, simprocAttr, coverS, FrO, HO, netD, plnD, nRow, bRow]) (by simp (maxSteps:=500000) only [↓vp, vv, ↓reduceIte, simprocAttr, refsF, FrO, HO, netD, plnD, nRow, bRow]) (by simp (maxSteps:=500000) only [↓vp, vv, ↓reduceIte, simprocAttr, FrO, HO, netD, plnD, nRow, bRow]) (by simp) (by simp (maxSteps:=500000) only [↓vp, vv, ↓reduceIte, simprocAttr, FrO, HO, netD, plnD, nRow, bRow]; try rfl)) (fun i' hi' => absurd hi' (Nat.not_lt_zero i')) (fun i hi hP => ?_) (fun hP => ?_)
      · have hi' : (i : Int) < n.segs.length := by omega
        have hin := idx_nn i
        have w2 := idx_next (j := i) (by omega)
        have hir : i < p.rates.length := by omega
        have hir' : (i : Int) < p.rates.length := by omega
        have hgs := getD_map Seg.row n.segs i hi
        have hgr := iRow_at p.rates i hir
        have hx := zip_get hi hir
        generalize n.segs[i] = s at hgs hx
        generalize p.rates[i] = r at hgr hx
        have hmem : (s, r) ∈ n.segs.zip p.rates := List.mem_of_getElem? hx
        have hfr := fr_in hE hmem
        have hs1 : segOf1 [ds s.name, di s.fr, di s.to, di s.cap, di s.resist, di s.wave, .sl (s.points.map Pt.row)] = some s := segOf1_row s
        have hf0 := hfr.1
        have hf1 : frOf (s, r) < th.length := by omega
        have hf2 : (frOf (s, r)).toNat < th.length := by omega
        have hgf := bRow_at th (frOf (s, r)).toNat hf2
        have hbl := blk_eq th k (s, r)
        have nxt : blk th k (s, r) = false → ∀ i', i' < i + 1 → ∀ x, (n.segs.zip p.rates)[i']? = some x → blk th k x = false := fun hb i' h1 x h2 => by
          rcases Nat.lt_or_ge i' i with h3 | h3
          · exact hP i' h3 x h2
          · obtain rfl : i' = i := by omega
            rw [hx] at h2
            cases h2
            exact hb
        have nb : ¬ (r ≠ 0 ∧ toOf (s, r) = k ∧ th.getD (frOf (s, r)).toNat false = false) → blk th k (s, r) = false := fun h => by
          cases hb : blk th k (s, r) with
          | false => rfl
          | true => exact absurd (hbl.1 hb) h
        cases c1 : (r != 0) with
        | false =>
          have hb := nb fun h => by simp at c1; exact h.1 c1
          simp (maxSteps:=500000) only [↓vp, vv, ↓reduceIte, simprocAttr, c154, r154, c154_1, c154_2, c154_3, c154_4, c154_5, c154_6, c154_7, c154_8, c154_9, TO, selEnds, FrO, HO, netD, plnD, hi', hin, hir', Int.toNat_natCast, hgs, hgr, Seg.row, hs1, c1, w2]
          exact rng_next hi (weak_eq [] [(0, 2), (0, 3), (0, 15), (0, 1000)] (FrO g out th k [(28, .sl (n.segs.map Seg.row)), (29, di n.segs.length), (30, di (i + 1 : Nat))]) (by simp (maxSteps:=500000) only [↓vp, vv, ↓reduceIte, simprocAttr, coverS, FrO, HO, netD, plnD, nRow, bRow, w2, Seg.row]) (by simp (maxSteps:=500000) only [↓vp, vv, ↓reduceIte, simprocAttr, refsF, FrO, HO, netD, plnD, nRow, bRow, w2, Seg.row]) (by simp (maxSteps:=500000) only [↓vp, vv, ↓reduceIte, simprocAttr, FrO, HO, netD, plnD, nRow, bRow, w2, Seg.row]) (by simp) (by simp (maxSteps:=500000) only [↓vp, vv, ↓reduceIte, simprocAttr, FrO, HO, netD, plnD, nRow, bRow, w2, Seg.row]; try rfl)) (nxt hb)
        | true =>
        cases c2 : (toOf (s, r) == (k : Int)) with
        | false =>
          have hb := nb fun h => by simp at c2; exact c2 h.2.1
          simp (maxSteps:=500000) only [↓vp, vv, ↓reduceIte, simprocAttr, c154, r154, c154_1, c154_2, c154_3, c154_4, c154_5, c154_6, c154_7, c154_8, c154_9, TO, selEnds, FrO, HO, netD, plnD, hi', hin, hir', Int.toNat_natCast, hgs, hgr, Seg.row, hs1, c1, c2, w2]
          exact rng_next hi (weak_eq [] [(0, 2), (0, 3), (0, 15), (0, 1000)] (FrO g out th k [(28, .sl (n.segs.map Seg.row)), (29, di n.segs.length), (30, di (i + 1 : Nat))]) (by simp (maxSteps:=500000) only [↓vp, vv, ↓reduceIte, simprocAttr, coverS, FrO, HO, netD, plnD, nRow, bRow, w2, Seg.row]) (by simp (maxSteps:=500000) only [↓vp, vv, ↓reduceIte, simprocAttr, refsF, FrO, HO, netD, plnD, nRow, bRow, w2, Seg.row]) (by simp (maxSteps:=500000) only [↓vp, vv, ↓reduceIte, simprocAttr, FrO, HO, netD, plnD, nRow, bRow, w2, Seg.row]) (by simp) (by simp (maxSteps:=500000) only [↓vp, vv, ↓reduceIte, simprocAttr, FrO, HO, netD, plnD, nRow, bRow, w2, Seg.row]; try rfl)) (nxt hb)
        | true =>
        cases c3 : th.getD (frOf (s, r)).toNat false with
        | true =>
          have hb := nb fun h => by rw [c3] at h; cases h.2.2
          rw [c3] at hgf
          simp (maxSteps:=500000) only [↓vp, vv, ↓reduceIte, simprocAttr, c154, r154, c154_1, c154_2, c154_3, c154_4, c154_5, c154_6, c154_7, c154_8, c154_9, TO, selEnds, FrO, HO, netD, plnD, hi', hin, hir', Int.toNat_natCast, hgs, hgr, Seg.row, hs1, c1, c2, hf0, hf1, hf2, hgf, w2]
          exact rng_next hi (weak_eq [] [(0, 2), (0, 3), (0, 15), (0, 1000)] (FrO g out th k [(28, .sl (n.segs.map Seg.row)), (29, di n.segs.length), (30, di (i + 1 : Nat))]) (by simp (maxSteps:=500000) only [↓vp, vv, ↓reduceIte, simprocAttr, coverS, FrO, HO, netD, plnD, nRow, bRow, w2, Seg.row]) (by simp (maxSteps:=500000) only [↓vp, vv, ↓reduceIte, simprocAttr, refsF, FrO, HO, netD, plnD, nRow, bRow, w2, Seg.row]) (by simp (maxSteps:=500000) only [↓vp, vv, ↓reduceIte, simprocAttr, FrO, HO, netD, plnD, nRow, bRow, w2, Seg.row]) (by simp) (by simp (maxSteps:=500000) only [↓vp, vv, ↓reduceIte, simprocAttr, FrO, HO, netD, plnD, nRow, bRow, w2, Seg.row]; try rfl)) (nxt hb)
        | false =>
          have hb : blk th k (s, r) = true := hbl.2 ⟨by simpa using c1, by simpa using c2, c3⟩
          have hp : pickB (n.segs.zip p.rates) th k = false := by
            unfold pickB
            rw [List.any_eq_true.2 ⟨_, hmem, hb⟩]
            split <;> rfl
          rw [c3] at hgf
          simp (maxSteps:=500000) only [↓vp, vv, ↓reduceIte, simprocAttr, c154, r154, c154_1, c154_2, c154_3, c154_4, c154_5, c154_6, c154_7, c154_8, c154_9, TO, selEnds, FrO, HO, netD, plnD, hi', hin, hir', Int.toNat_natCast, hgs, hgr, Seg.row, hs1, c1, c2, hf0, hf1, hf2, hgf, w1]
          refine fin hp _ _ ?_ ?_ ?_ ?_ ?_ ?_ ?_ ?_ ?_ <;> simp (maxSteps:=500000) only [↓vp, vv, ↓reduceIte, simprocAttr, netD, plnD, w1]
      · have hany : (n.segs.zip p.rates).any (blk th k) = false := by
          rw [List.any_eq_false]
          intro x hx hb
          obtain ⟨i, hi⟩ := List.getElem?_of_mem hx
          have hl : i < n.segs.length := by
            rcases Nat.lt_or_ge i (n.segs.zip p.rates).length with h | h
            · rw [List.length_zip] at h; omega
            · rw [List.getElem?_eq_none h] at hi; cases hi
          rw [hP i hl x hi] at hb
          cases hb
        have hp : pickB (n.segs.zip p.rates) th k = true := by
          unfold pickB
          rw [hany]
          rw [List.getD_eq_getElem?_getD, List.getElem?_eq_getElem hkt, Option.getD_some] at ht ⊢
          rw [ht]
          rfl
        obtain ⟨hI2, hc⟩ := hI.pick hp
        have z5 : ((out.length : Int) + 1) * 8 ≤ 140737488355328 := by have := hI.cnt; omega
        have z6 : (out.length + 1) * 8 ≤ 140737488355328 := by have := hI.cnt; omega
        have z7 : out.length + 1 ≤ 4611686018427387904 := by have := hI.cnt; omega
        simp (maxSteps:=500000) only [↓vp, vv, ↓reduceIte, simprocAttr, c154, r154, c154_1, c154_2, c154_3, c154_4, c154_5, c154_6, c154_7, c154_8, c154_9, FrO, HO, netD, plnD, Int.lt_irrefl, hk', hkt, hkt', hn, Int.toNat_natCast, hg, bRow_set, len_set, w_zero, z6, z7, nRow]
        refine ⟨_, _, ?_, (weak_eq [] [(0, 2), (0, 3), (0, 15), (0, 1000)] (FrO (g + 1) (out ++ [k]) (th.set k true) 0 []) (by simp (maxSteps:=500000) only [↓vp, vv, ↓reduceIte, simprocAttr, coverS, FrO, HO, netD, plnD, nRow, bRow, len_set, w_zero, List.length_append, List.length_singleton]) (by simp (maxSteps:=500000) only [↓vp, vv, ↓reduceIte, simprocAttr, refsF, FrO, HO, netD, plnD, nRow, bRow, len_set, w_zero, List.length_append, List.length_singleton]) (by simp (maxSteps:=500000) only [↓vp, vv, ↓reduceIte, simprocAttr, FrO, HO, netD, plnD, nRow, bRow, len_set, w_zero, List.length_append, List.length_singleton]) (by simp) (by simp (maxSteps:=500000) only [↓vp, vv, ↓reduceIte, simprocAttr, FrO, HO, netD, plnD, nRow, bRow, len_set, w_zero, List.length_append, List.length_singleton]; try rfl)), th.set k true, out ++ [k], 0, g + 1, hI2, rfl, ?_⟩
        · rw [hm, ← hc, Nat.add_mul]
          omega
        · simp only [FrO, HO, List.map_append, List.map_cons, List.map_nil, nRow, List.length_append, List.length_singleton, len_set]
          rfl
  · have hk2 : k = n.nodes.length := by have := hI.kl; omega
    have hk' : ¬ (k : Int) < n.nodes.length := by omega
    have he : ordL (n.segs.zip p.rates) (cntF th) th out = out := ord_end fun j hj => hI.no j (by omega)
    have ho : out = ordB n p := by rw [← he]; exact hI.res
    simp (maxSteps:=500000) only [↓vp, vv, ↓reduceIte, simprocAttr, c154, r154, c154_1, c154_2, c154_3, c154_4, c154_5, c154_6, c154_7, c154_8, c154_9, r154, FrO, HO, netD, plnD, hk', Pu]
    exact ⟨fun j _ d hd => by rw [List.mem_singleton.1 hd]; rfl, by rw [← ho]⟩
end Go.Proofs.Ytadjhfjiimgddaa
