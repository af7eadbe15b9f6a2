/- Compiled code of some functions (printed by a program), each checked by the kernel. -/
import Derived.Test.YtkjibmfggeibjaaV3
import Derived.Test.YtkjibmfggeibjaaProg
namespace Go.Proofs.Ytkjibmfggeibjaa
open Go
set_option maxRecDepth 100000
def c52_1 : C := (.seq (.ops false [oP 13 (.ld 6 true (.t 2)), oP 14 (.ld 3 true (.t 3)), oP 15 (.call 119 [(.t 13), (.t 14)]), oP 4 (.mv (.t 15)), oP 5 (.mv (cI 0))]) .ret)
def c52 : C := (.seq (.ops false [oP 2 (.box 6 (.t 0)), oP 3 (.box 3 (.t 1)), oP 4 (.mv (.c .mt)), oP 5 (.mv (cI 0))]) (.seq (.seq (.ops false [oP 7 (.ld 6 true (.t 2)), oP 8 (.ld 3 true (.t 3)), oB 9 (.call 56 [(.t 7), (.t 8)]), oP 6 (.mv (.t 9))]) (.seq (.ops false [oP 10 (.mv (.t 6)), oP 11 (.bin .neq (.t 10) (cI 0))]) (.cond (.t 11) (.seq (.ops false [oP 12 (.mv (.t 6)), oP 4 (.mv (.c .mt)),
  oP 5 (.mv (.t 12))]) .ret) .skip))) c52_1))
def r52 : List RV := [(.tmp 4), (.tmp 5)]
theorem c52_ok : ∃ code, Try.f52.body = some code ∧ compC Try.prog Try.f52.ntmps code = some (C.strip c52) := ⟨_, rfl, by kernel_rfl⟩
theorem r52_ok : compRes Try.prog Try.f52.results.toList = some r52 := by kernel_rfl
theorem f52_ok : fnOk Try.prog 52 = true := by kernel_rfl
def c54_1 : C := (.seq (.block 1 (.seq (.ops false [oP 23 (.iaS 1 (.t 19) (.t 21)), oP 24 (.ld 1 false (.t 23)), oP 11 (.mv (.t 24))]) (.ops false [oP 25 (.mv (.t 8)), oP 26 (.mv (.t 11)), oP 27 (.mnx true (cI 0) (.t 26)), oP 28 (.bin .add (.t 25) (.t 27)), oP 29 (.mv (.t 9)), oP 30 (.mv (.t 11)), oP 31 (.neg (.t 30)), oP 32 (.mnx true (cI 0) (.t 31)), oP 33 (.bin .add (.t 29) (.t 32)), oP 8 (.mv (.t 28)),
  oP 9 (.mv (.t 33))]))) (.ops false [oP 34 (.bin .add (.t 21) (cI 1)), oP 21 (.mv (.t 34))]))
def c54_2 : C := (.seq (.ops false [oP 22 (.bin .lss (.t 21) (.t 20))]) (.seq (.cond (.t 22) .skip (.exit 0)) c54_1))
def c54_3 : C := (.seq (.ops false [oP 35 (.mv (.t 8)), oP 36 (.mv (.t 9)), oP 4 (.mv (.t 35)), oP 5 (.mv (.t 36)), oP 6 (.mv (cI 0))]) .ret)
def c54_4 : C := (.seq (.ops false [oP 8 (.mv (cI 0)), oP 9 (.mv (cI 0))]) (.seq (.seq (.ops false [oP 18 (.fa 1 (.t 3)), oP 19 (.ld 1 false (.t 18)), oP 20 (.len (.t 19)), oP 21 (.mv (cI 0))]) (.block 0 (.loop c54_2))) c54_3))
def c54 : C := (.seq (.ops false [oP 2 (.box 6 (.t 0)), oP 3 (.box 3 (.t 1)), oP 4 (.mv (cI 0)), oP 5 (.mv (cI 0)), oP 6 (.mv (cI 0))]) (.seq (.seq (.ops false [oP 12 (.ld 6 true (.t 2)), oP 13 (.ld 3 true (.t 3)), oB 14 (.call 56 [(.t 12), (.t 13)]), oP 7 (.mv (.t 14))]) (.seq (.ops false [oP 15 (.mv (.t 7)), oP 16 (.bin .neq (.t 15) (cI 0))]) (.cond (.t 16) (.seq (.ops false [oP 17 (.mv (.t 7)),
  oP 4 (.mv (cI 0)), oP 5 (.mv (cI 0)), oP 6 (.mv (.t 17))]) .ret) .skip))) c54_4))
def r54 : List RV := [(.tmp 4), (.tmp 5), (.tmp 6)]
theorem c54_ok : ∃ code, Try.f54.body = some code ∧ compC Try.prog Try.f54.ntmps code = some (C.strip c54) := ⟨_, rfl, by kernel_rfl⟩
theorem r54_ok : compRes Try.prog Try.f54.results.toList = some r54 := by kernel_rfl
theorem f54_ok : fnOk Try.prog 54 = true := by kernel_rfl
def c56_1 : C := (.ops false [oP 68 (.bin .add (.t 47) (cI 1)), oP 47 (.mv (.t 68))])
def c56_2 : C := (.seq (.block 1 (.seq (.ops false [oP 49 (.mv (.t 47)), oP 50 (.iaS 1 (.t 45) (.t 47)), oP 51 (.ld 1 false (.t 50)), oP 6 (.mv (.t 49)), oP 7 (.mv (.t 51))]) (.seq (.ops false [oP 52 (.fa 1 (.t 2)), oP 53 (.ld 1 false (.t 52)), oP 54 (.mv (.t 6)), oP 55 (.iaS 7 (.t 53) (.t 54)), oP 56 (.fa 3 (.t 55)), oP 57 (.ld 1 false (.t 56)), oP 58 (.mnx false (cI 1000) (.t 57)), oP 8 (.mv (.t 58))])
  (.seq (.ops false [oP 59 (.mv (.t 7)), oP 60 (.mv (.t 8)), oP 61 (.neg (.t 60)), oP 62 (.bin .lss (.t 59) (.t 61)), oP 63 (.mv (.t 62)), oG 64 63 false (.mv (.t 7)), oG 65 63 false (.mv (.t 8)), oG 66 63 false (.bin .gtr (.t 64) (.t 65)), oP 67 (.pick (.t 63) (cB true) (.t 66))]) (.cond (.t 67) (.seq (.ops false [oP 4 (.mv (cI 1))]) .ret) .skip))))) c56_1)
def c56_3 : C := (.seq (.ops false [oP 48 (.bin .lss (.t 47) (.t 46))]) (.seq (.cond (.t 48) .skip (.exit 0)) c56_2))
def c56_4 : C := (.ops false [oP 82 (.bin .add (.t 72) (cI 1)), oP 72 (.mv (.t 82))])
def c56_5 : C := (.seq (.block 3 (.seq (.ops false [oP 74 (.iaS 1 (.t 70) (.t 72)), oP 75 (.ld 1 false (.t 74)), oP 10 (.mv (.t 75))]) (.seq (.ops false [oP 76 (.mv (.t 10)), oP 77 (.bin .lss (.t 76) (cI (-1000))), oP 78 (.mv (.t 77)), oG 79 78 false (.mv (.t 10)), oG 80 78 false (.bin .gtr (.t 79) (cI 1000)), oP 81 (.pick (.t 78) (cB true) (.t 80))]) (.cond (.t 81) (.seq (.ops false [oP 4 (.mv (cI 1))]) .ret)
  .skip)))) c56_4)
def c56_6 : C := (.seq (.ops false [oP 73 (.bin .lss (.t 72) (.t 71))]) (.seq (.cond (.t 73) .skip (.exit 2)) c56_5))
def c56_7 : C := (.ops false [oP 99 (.bin .add (.t 86) (cI 1)), oP 86 (.mv (.t 99))])
def c56_8 : C := (.seq (.block 5 (.seq (.ops false [oP 88 (.mv (.t 86)), oP 11 (.mv (.t 88))]) (.seq (.ops false [oP 90 (.ld 6 true (.t 2)), oP 91 (.ld 3 true (.t 3)), oP 92 (.mv (.t 11)), oB 93 (.call 124 [(.t 90), (.t 91), (.t 92)]), oP 89 (.mv (.t 93)), oP 94 (.ext (.t 89) 0), oP 95 (.ext (.t 89) 1), oP 12 (.mv (.t 94)), oP 13 (.mv (.t 95))]) (.seq (.ops false [oP 96 (.mv (.t 12)), oP 97 (.mv (.t 13)),
  oP 98 (.bin .neq (.t 96) (.t 97))]) (.cond (.t 98) (.seq (.ops false [oP 4 (.mv (cI 12))]) .ret) .skip))))) c56_7)
def c56_9 : C := (.seq (.ops false [oP 87 (.bin .lss (.t 86) (.t 85))]) (.seq (.cond (.t 87) .skip (.exit 4)) c56_8))
def c56_10 : C := (.seq (.ops false [oP 4 (.mv (cI 0))]) .ret)
def c56_11 : C := (.seq (.seq (.ops true [oP 100 (.ld 6 true (.t 2)), oP 101 (.ld 3 true (.t 3)), oA 102 (.call 119 [(.t 100), (.t 101)]) [1, 0], oA 103 (.len (.t 102)) [0, 1, 2], oP 104 (.fa 0 (.t 2)), oA 105 (.ld 1 false (.t 104)) [4], oA 106 (.len (.t 105)) [4, 5], oA 107 (.bin .neq (.t 103) (.t 106)) [5, 4, 2, 1, 0, 6, 3]]) (.cond (.t 107) (.seq (.ops false [oP 4 (.mv (cI 13))]) .ret) .skip)) c56_10)
def c56_12 : C := (.seq (.seq (.ops false [oP 83 (.fa 0 (.t 2)), oP 84 (.ld 1 false (.t 83)), oP 85 (.len (.t 84)), oP 86 (.mv (cI 0))]) (.block 4 (.loop c56_9))) c56_11)
def c56_13 : C := (.seq (.seq (.ops false [oP 69 (.fa 1 (.t 3)), oP 70 (.ld 1 false (.t 69)), oP 71 (.len (.t 70)), oP 72 (.mv (cI 0))]) (.block 2 (.loop c56_6))) c56_12)
def c56_14 : C := (.seq (.seq (.ops false [oP 44 (.fa 0 (.t 3)), oP 45 (.ld 1 false (.t 44)), oP 46 (.len (.t 45)), oP 47 (.mv (cI 0))]) (.block 0 (.loop c56_3))) c56_13)
def c56_15 : C := (.seq (.seq (.ops false [oP 19 (.fa 0 (.t 3)), oP 20 (.ld 1 false (.t 19)), oP 21 (.len (.t 20)), oP 22 (.fa 1 (.t 2)), oP 23 (.ld 1 false (.t 22)), oP 24 (.len (.t 23)), oP 25 (.bin .neq (.t 21) (.t 24)), oP 26 (.mv (.t 25)), oG 27 26 false (.fa 1 (.t 3)), oG 28 26 false (.ld 1 false (.t 27)), oG 29 26 false (.len (.t 28)), oG 30 26 false (.fa 2 (.t 2)), oG 31 26 false (.ld 1 false (.t 30)),
  oG 32 26 false (.len (.t 31)), oG 33 26 false (.bin .neq (.t 29) (.t 32)), oP 34 (.pick (.t 26) (cB true) (.t 33)), oP 35 (.mv (.t 34)), oG 36 35 false (.fa 2 (.t 3)), oG 37 35 false (.ld 1 false (.t 36)), oG 38 35 false (.len (.t 37)), oG 39 35 false (.fa 3 (.t 2)), oG 40 35 false (.ld 1 false (.t 39)), oG 41 35 false (.len (.t 40)), oG 42 35 false (.bin .neq (.t 38) (.t 41)),
  oP 43 (.pick (.t 35) (cB true) (.t 42))]) (.cond (.t 43) (.seq (.ops false [oP 4 (.mv (cI 9))]) .ret) .skip)) c56_14)
def c56 : C := (.seq (.ops false [oP 2 (.box 6 (.t 0)), oP 3 (.box 3 (.t 1)), oP 4 (.mv (cI 0))]) (.seq (.seq (.ops false [oP 14 (.ld 6 true (.t 2)), oB 15 (.call 99 [(.t 14)]), oP 5 (.mv (.t 15))]) (.seq (.ops false [oP 16 (.mv (.t 5)), oP 17 (.bin .neq (.t 16) (cI 0))]) (.cond (.t 17) (.seq (.ops false [oP 18 (.mv (.t 5)), oP 4 (.mv (.t 18))]) .ret) .skip))) c56_15))
def r56 : List RV := [(.tmp 4)]
theorem c56_ok : ∃ code, Try.f56.body = some code ∧ compC Try.prog Try.f56.ntmps code = some (C.strip c56) := ⟨_, rfl, by kernel_rfl⟩
theorem r56_ok : compRes Try.prog Try.f56.results.toList = some r56 := by kernel_rfl
theorem f56_ok : fnOk Try.prog 56 = true := by kernel_rfl
def c59_1 : C := (.seq (.ops false [oP 27 (.ld 6 true (.t 3)), oP 28 (.ld 3 true (.t 4)), oP 29 (.mv (.t 2)), oB 30 (.call 124 [(.t 27), (.t 28), (.t 29)]), oP 26 (.mv (.t 30)), oP 31 (.ext (.t 26) 0), oP 32 (.ext (.t 26) 1), oP 9 (.mv (.t 31)), oP 10 (.mv (.t 32))]) (.seq (.ops false [oP 33 (.mv (.t 9)), oP 6 (.mv (.t 33)), oP 7 (.mv (cI 0))]) .ret))
def c59_2 : C := (.seq (.seq (.ops false [oP 17 (.mv (.t 2)), oP 18 (.bin .lss (.t 17) (cI 0)), oP 19 (.mv (.t 18)), oG 20 19 false (.mv (.t 2)), oG 21 19 false (.fa 0 (.t 3)), oG 22 19 false (.ld 1 false (.t 21)), oG 23 19 false (.len (.t 22)), oG 24 19 false (.bin .geq (.t 20) (.t 23)), oP 25 (.pick (.t 19) (cB true) (.t 24))]) (.cond (.t 25) (.seq (.ops false [oP 6 (.mv (cI 0)), oP 7 (.mv (cI 8))]) .ret)
  .skip)) c59_1)
def c59 : C := (.seq (.ops false [oP 3 (.box 6 (.t 0)), oP 4 (.box 3 (.t 1)), oP 6 (.mv (cI 0)), oP 7 (.mv (cI 0))]) (.seq (.seq (.ops false [oP 11 (.ld 6 true (.t 3)), oP 12 (.ld 3 true (.t 4)), oB 13 (.call 56 [(.t 11), (.t 12)]), oP 8 (.mv (.t 13))]) (.seq (.ops false [oP 14 (.mv (.t 8)), oP 15 (.bin .neq (.t 14) (cI 0))]) (.cond (.t 15) (.seq (.ops false [oP 16 (.mv (.t 8)), oP 6 (.mv (cI 0)),
  oP 7 (.mv (.t 16))]) .ret) .skip))) c59_2))
def r59 : List RV := [(.tmp 6), (.tmp 7)]
theorem c59_ok : ∃ code, Try.f59.body = some code ∧ compC Try.prog Try.f59.ntmps code = some (C.strip c59) := ⟨_, rfl, by kernel_rfl⟩
theorem r59_ok : compRes Try.prog Try.f59.results.toList = some r59 := by kernel_rfl
theorem f59_ok : fnOk Try.prog 59 = true := by kernel_rfl
def c119_1 : C := (.ops false [oP 65 (.bin .add (.t 32) (cI 1)), oP 32 (.mv (.t 65))])
def c119_2 : C := (.seq (.block 5 (.seq (.ops false [oP 34 (.mv (.t 32)), oP 35 (.iaS 7 (.t 30) (.t 32)), oP 36 (.ld 7 true (.t 35)), oP 11 (.new [(.v (.string ({ data := #[] }))), (.v (.int .i64 0)), (.v (.int .i64 0)), (.v (.int .i64 0)), (.v (.int .i64 0)), (.v (.int .i64 0)), .mt]), oP 10 (.mv (.t 34)), oS (.st 7 (.t 11) (.t 36))]) (.seq (.ops false [oP 37 (.fa 0 (.t 3)), oP 38 (.ld 1 false (.t 37)),
  oP 39 (.mv (.t 10)), oP 40 (.iaS 1 (.t 38) (.t 39)), oP 41 (.ld 1 false (.t 40)), oP 42 (.bin .neq (.t 41) (cI 0))]) (.cond (.t 42) (.seq (.ops true [oP 44 (.ld 7 true (.t 11)), oP 45 (.fa 0 (.t 3)), oA 46 (.ld 1 false (.t 45)) [1], oP 47 (.mv (.t 10)), oA 48 (.iaS 1 (.t 46) (.t 47)) [1, 3, 2], oA 49 (.ld 1 false (.t 48)) [2, 3, 1, 4], ⟨(.some 50), Option.none, (.call 92 [(.t 44), (.t 49)]), 50,
  [4, 1, 3, 2, 5, 0], true⟩, oA 43 (.mv (.t 50)) [0, 5, 2, 3, 1, 4, 6], oA 51 (.ext (.t 43) 0) [6, 4, 1, 3, 2, 5, 0, 7], oA 52 (.ext (.t 43) 1) [6, 4, 1, 3, 2, 5, 0, 7], oA 12 (.mv (.t 51)) [7, 5, 4, 3, 2, 1, 0, 6, 8], oA 13 (.mv (.t 52)) [8, 7, 6, 5, 4, 3, 2, 1, 0, 10, 9]]) (.ops false [oP 53 (.mv (.t 9)), oP 54 (.mv (.t 53)), oG 55 54 true (.mv (.t 13)), oG 56 54 true (.mv (.t 8)),
  oG 57 54 true (.bin .neq (.t 55) (.t 56)), oG 58 54 true (.mv (.t 57)), oG 59 58 false (.mv (.t 6)), oG 60 58 false (.mv (.t 12)), oG 61 58 false (.iaS 1 (.t 59) (.t 60)), oG 62 58 false (.ld 1 false (.t 61)), oG 63 54 true (.pick (.t 58) (cB true) (.t 62)), oP 64 (.pick (.t 54) (.t 63) (cB false)), oP 9 (.mv (.t 64))])) .skip)))) c119_1)
def c119_3 : C := (.seq (.ops false [oP 33 (.bin .lss (.t 32) (.t 31))]) (.seq (.cond (.t 33) .skip (.exit 4)) c119_2))
def c119_4 : C := (.seq (.ops false [oP 66 (.mv (.t 9)), oP 67 (.mv (.t 66)), oG 68 67 true (.mv (.t 7)), oG 69 67 true (.bin .lss (.t 68) (cI 0)), oP 70 (.pick (.t 67) (.t 69) (cB false))]) (.cond (.t 70) (.ops false [oP 71 (.mv (.t 8)), oP 7 (.mv (.t 71))]) .skip))
def c119_5 : C := (.ops false [oP 72 (.bin .add (.t 21) (cI 1)), oP 21 (.mv (.t 72))])
def c119_6 : C := (.seq (.block 3 (.seq (.ops false [oP 23 (.mv (.t 21)), oP 8 (.mv (.t 23))]) (.seq (.ops false [oP 24 (.mv (.t 6)), oP 25 (.mv (.t 8)), oP 26 (.iaS 1 (.t 24) (.t 25)), oP 27 (.ld 1 false (.t 26)), oP 28 (.not (.t 27)), oP 9 (.mv (.t 28))]) (.seq (.seq (.ops false [oP 29 (.fa 1 (.t 2)), oP 30 (.ld 1 false (.t 29)), oP 31 (.len (.t 30)), oP 32 (.mv (cI 0))]) (.block 4 (.loop c119_3))) c119_4))))
  c119_5)
def c119_7 : C := (.seq (.ops false [oP 22 (.bin .lss (.t 21) (.t 20))]) (.seq (.cond (.t 22) .skip (.exit 2)) c119_6))
def c119_8 : C := (.seq (.ops false [oP 76 (.mv (.t 5)), oP 77 (.mv (.t 7)), oP 78 (.bsl 1 1 [(.v (.int .i64 0))] [(0, (.t 77))]), oP 79 (.app 1 8 (.t 76) (.t 78)), oP 5 (.mv (.t 79))]) (.ops false [oP 80 (.mv (.t 6)), oP 81 (.mv (.t 7)), oP 82 (.iaS 1 (.t 80) (.t 81)), oS (.st 1 (.t 82) (cB true))]))
def c119_9 : C := (.seq (.seq (.ops false [oP 73 (.mv (.t 7)), oP 74 (.bin .lss (.t 73) (cI 0))]) (.cond (.t 74) (.seq (.ops false [oP 75 (.mv (.t 5)), oP 4 (.mv (.t 75))]) .ret) .skip)) c119_8)
def c119_10 : C := (.block 1 (.seq (.ops false [oP 7 (.mv (cI (-1)))]) (.seq (.seq (.ops false [oP 18 (.fa 0 (.t 2)), oP 19 (.ld 1 false (.t 18)), oP 20 (.len (.t 19)), oP 21 (.mv (cI 0))]) (.block 2 (.loop c119_7))) c119_9)))
def c119 : C := (.seq (.ops false [oP 2 (.box 6 (.t 0)), oP 3 (.box 3 (.t 1)), oP 4 (.mv (.c .mt))]) (.seq (.ops false [oP 5 (.mv (.c .mt))]) (.seq (.ops false [oP 14 (.fa 0 (.t 2)), oP 15 (.ld 1 false (.t 14)), oP 16 (.len (.t 15)), oP 17 (.mks 1 1 [(.v (.bool false))] (.t 16)), oP 6 (.mv (.t 17))]) (.block 0 (.loop c119_10)))))
def r119 : List RV := [(.tmp 4)]
theorem c119_ok : ∃ code, Try.f119.body = some code ∧ compC Try.prog Try.f119.ntmps code = some (C.strip c119) := ⟨_, rfl, by kernel_rfl⟩
theorem r119_ok : compRes Try.prog Try.f119.results.toList = some r119 := by kernel_rfl
theorem f119_ok : fnOk Try.prog 119 = true := by kernel_rfl
def c124_1 : C := (.seq (.ops false [oP 51 (.mv (.t 13)), oP 52 (.mv (.t 2)), oP 53 (.bin .eql (.t 51) (.t 52))]) (.cond (.t 53) (.ops false [oP 54 (.mv (.t 8)), oP 55 (.fa 0 (.t 4)), oP 56 (.ld 1 false (.t 55)), oP 57 (.mv (.t 10)), oP 58 (.iaS 1 (.t 56) (.t 57)), oP 59 (.ld 1 false (.t 58)), oB 60 (.call 93 [(.t 59)]), oP 61 (.bin .add (.t 54) (.t 60)), oP 8 (.mv (.t 61))]) .skip))
def c124_2 : C := (.seq (.ops true [oP 31 (.ld 7 true (.t 11)), oP 32 (.fa 0 (.t 4)), oA 33 (.ld 1 false (.t 32)) [1], oP 34 (.mv (.t 10)), oA 35 (.iaS 1 (.t 33) (.t 34)) [1, 3, 2], oA 36 (.ld 1 false (.t 35)) [2, 3, 1, 4], ⟨(.some 37), Option.none, (.call 92 [(.t 31), (.t 36)]), 37, [4, 1, 3, 2, 5, 0], true⟩, oA 30 (.mv (.t 37)) [0, 5, 2, 3, 1, 4, 6], oA 38 (.ext (.t 30) 0) [6, 4, 1, 3, 2, 5, 0, 7],
  oA 39 (.ext (.t 30) 1) [6, 4, 1, 3, 2, 5, 0, 7], oA 12 (.mv (.t 38)) [7, 5, 4, 3, 2, 1, 0, 6, 8], oA 13 (.mv (.t 39)) [8, 7, 6, 5, 4, 3, 2, 1, 0, 10, 9]]) (.seq (.seq (.ops false [oP 40 (.mv (.t 12)), oP 41 (.mv (.t 2)), oP 42 (.bin .eql (.t 40) (.t 41))]) (.cond (.t 42) (.ops false [oP 43 (.mv (.t 9)), oP 44 (.fa 0 (.t 4)), oP 45 (.ld 1 false (.t 44)), oP 46 (.mv (.t 10)), oP 47 (.iaS 1 (.t 45)
  (.t 46)), oP 48 (.ld 1 false (.t 47)), oB 49 (.call 93 [(.t 48)]), oP 50 (.bin .add (.t 43) (.t 49)), oP 9 (.mv (.t 50))]) .skip)) c124_1))
def c124_3 : C := (.ops false [oP 62 (.bin .add (.t 19) (cI 1)), oP 19 (.mv (.t 62))])
def c124_4 : C := (.seq (.block 1 (.seq (.ops false [oP 21 (.mv (.t 19)), oP 22 (.iaS 7 (.t 17) (.t 19)), oP 23 (.ld 7 true (.t 22)), oP 11 (.new [(.v (.string ({ data := #[] }))), (.v (.int .i64 0)), (.v (.int .i64 0)), (.v (.int .i64 0)), (.v (.int .i64 0)), (.v (.int .i64 0)), .mt]), oP 10 (.mv (.t 21)), oS (.st 7 (.t 11) (.t 23))]) (.seq (.seq (.ops false [oP 24 (.fa 0 (.t 4)), oP 25 (.ld 1 false (.t 24)),
  oP 26 (.mv (.t 10)), oP 27 (.iaS 1 (.t 25) (.t 26)), oP 28 (.ld 1 false (.t 27)), oP 29 (.bin .eql (.t 28) (cI 0))]) (.cond (.t 29) (.exit 1) .skip)) c124_2))) c124_3)
def c124_5 : C := (.seq (.ops false [oP 20 (.bin .lss (.t 19) (.t 18))]) (.seq (.cond (.t 20) .skip (.exit 0)) c124_4))
def c124_6 : C := (.ops false [oP 92 (.bin .add (.t 66) (cI 1)), oP 66 (.mv (.t 92))])
def c124_7 : C := (.seq (.block 3 (.seq (.ops false [oP 68 (.mv (.t 66)), oP 69 (.iaS 3 (.t 64) (.t 66)), oP 70 (.ld 3 true (.t 69)), oP 15 (.new [(.v (.string ({ data := #[] }))), (.v (.int .i64 0)), (.v (.int .i64 0))]), oP 14 (.mv (.t 68)), oS (.st 3 (.t 15) (.t 70))]) (.seq (.ops false [oP 71 (.fa 1 (.t 15)), oP 72 (.ld 1 false (.t 71)), oP 73 (.mv (.t 2)), oP 74 (.bin .eql (.t 72) (.t 73))]) (.cond (.t 74)
  (.ops true [oP 75 (.mv (.t 8)), oP 76 (.fa 1 (.t 4)), oA 77 (.ld 1 false (.t 76)) [1], oP 78 (.mv (.t 14)), oA 79 (.iaS 1 (.t 77) (.t 78)) [1, 3, 2], oA 80 (.ld 1 false (.t 79)) [2, 3, 1, 4], oA 81 (.mnx true (cI 0) (.t 80)) [4, 1, 3, 2, 5], oA 82 (.bin .add (.t 75) (.t 81)) [5, 2, 3, 1, 4, 6, 0], oP 83 (.mv (.t 9)), oP 84 (.fa 1 (.t 4)), oA 85 (.ld 1 false (.t 84)) [9], oP 86 (.mv (.t 14)),
  oA 87 (.iaS 1 (.t 85) (.t 86)) [9, 11, 10], oA 88 (.ld 1 false (.t 87)) [10, 11, 9, 12], oA 89 (.neg (.t 88)) [12, 9, 11, 10, 13], oA 90 (.mnx true (cI 0) (.t 89)) [13, 10, 11, 9, 12, 14], oA 91 (.bin .add (.t 83) (.t 90)) [14, 12, 9, 11, 10, 13, 15, 8], oA 8 (.mv (.t 82)) [6, 5, 4, 3, 2, 1, 0, 7], oA 9 (.mv (.t 91)) [15, 14, 13, 12, 11, 10, 9, 8, 7, 6, 5, 4, 3, 2, 1, 0, 17, 16]]) .skip))))
  c124_6)
def c124_8 : C := (.seq (.ops false [oP 67 (.bin .lss (.t 66) (.t 65))]) (.seq (.cond (.t 67) .skip (.exit 2)) c124_7))
def c124_9 : C := (.seq (.ops false [oP 93 (.mv (.t 8)), oP 94 (.mv (.t 9)), oP 6 (.mv (.t 93)), oP 7 (.mv (.t 94))]) .ret)
def c124_10 : C := (.seq (.seq (.ops false [oP 63 (.fa 2 (.t 3)), oP 64 (.ld 1 false (.t 63)), oP 65 (.len (.t 64)), oP 66 (.mv (cI 0))]) (.block 2 (.loop c124_8))) c124_9)
def c124 : C := (.seq (.ops false [oP 3 (.box 6 (.t 0)), oP 4 (.box 3 (.t 1)), oP 6 (.mv (cI 0)), oP 7 (.mv (cI 0))]) (.seq (.ops false [oP 8 (.mv (cI 0)), oP 9 (.mv (cI 0))]) (.seq (.seq (.ops false [oP 16 (.fa 1 (.t 3)), oP 17 (.ld 1 false (.t 16)), oP 18 (.len (.t 17)), oP 19 (.mv (cI 0))]) (.block 0 (.loop c124_5))) c124_10)))
def r124 : List RV := [(.tmp 6), (.tmp 7)]
theorem c124_ok : ∃ code, Try.f124.body = some code ∧ compC Try.prog Try.f124.ntmps code = some (C.strip c124) := ⟨_, rfl, by kernel_rfl⟩
theorem r124_ok : compRes Try.prog Try.f124.results.toList = some r124 := by kernel_rfl
theorem f124_ok : fnOk Try.prog 124 = true := by kernel_rfl
end Go.Proofs.Ytkjibmfggeibjaa
