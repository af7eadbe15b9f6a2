/- Compiled code of some functions (printed by a program), each checked by the kernel. -/
import Derived.Test.YtfkhjkkhdfcnjaaV3
import Derived.Test.YtfkhjkkhdfcnjaaProg
namespace Go.Proofs.Ytfkhjkkhdfcnjaa
open Go
set_option maxRecDepth 100000
def c22_1 : C := (.seq (.ops false [oP 4 (.mv (cI 0))]) .ret)
def c22_2 : C := (.seq (.block 0 (.seq (.ops false [oP 12 (.mv (.t 1)), oP 13 (.len (.t 12)), oP 14 (.bin .gtr (.t 13) (cI 32)), oP 11 (.mv (.t 14))]) (.cond (.t 11) (.seq (.ops false [oP 4 (.mv (cI 4))]) .ret) (.seq (.ops false [oP 16 (.mv (.t 1)), oP 17 (.mkf 81 [] [(.t 2)]), oB 18 (.call 80 [(.t 16), (.t 17)]), oP 15 (.mv (.t 18))]) (.cond (.t 15) (.seq (.ops false [oP 4 (.mv (cI 30))]) .ret) .skip))))) c22_1)
def c22 : C := (.seq (.ops false [oP 2 (.box 6 (.t 0)), oP 4 (.mv (cI 0))]) (.seq (.seq (.ops false [oP 6 (.ld 6 true (.t 2)), oB 7 (.call 79 [(.t 6)]), oP 5 (.mv (.t 7))]) (.seq (.ops false [oP 8 (.mv (.t 5)), oP 9 (.bin .neq (.t 8) (cI 0))]) (.cond (.t 9) (.seq (.ops false [oP 10 (.mv (.t 5)), oP 4 (.mv (.t 10))]) .ret) .skip))) (.weak c22_2)))
def r22 : List RV := [(.tmp 4)]
theorem c22_ok : ∃ code, Try.f22.body = some code ∧ compC Try.prog Try.f22.ntmps code = some (C.strip c22) := ⟨_, rfl, by kernel_rfl⟩
theorem r22_ok : compRes Try.prog Try.f22.results.toList = some r22 := by kernel_rfl
theorem f22_ok : fnOk Try.prog 22 = true := by kernel_rfl
def c81 : C := (.seq (.ops false [oP 2 (.box 5 (.t 0)), oP 3 (.mv (cB false))]) (.seq (.ops false [oP 4 (.ld 6 true (.t 1)), oP 5 (.ld 5 true (.t 2)), oB 6 (.call 82 [(.t 4), (.t 5)]), oP 7 (.not (.t 6)), oP 3 (.mv (.t 7))]) .ret))
def r81 : List RV := [(.tmp 3)]
theorem c81_ok : ∃ code, Try.f81.body = some code ∧ compC Try.prog Try.f81.ntmps code = some (C.strip c81) := ⟨_, rfl, by kernel_rfl⟩
theorem r81_ok : compRes Try.prog Try.f81.results.toList = some r81 := by kernel_rfl
theorem f81_ok : fnOk Try.prog 81 = true := by kernel_rfl
def c82_1 : C := (.seq (.ops false [oP 87 (.fa 2 (.t 3)), oP 88 (.ld 1 false (.t 87)), oP 89 (.bin .eql (.t 88) (cI 0)), oP 4 (.mv (.t 89))]) .ret)
def c82_2 : C := (.seq (.seq (.ops false [oP 65 (.fa 0 (.t 3)), oP 66 (.ld 1 false (.t 65))]) (.block 0 (.seq (.ops false [oP 68 (.bin .eql (.t 66) (cI 1)), oP 67 (.mv (.t 68))]) (.cond (.t 67) (.seq (.ops false [oP 69 (.fa 2 (.t 3)), oP 70 (.ld 1 false (.t 69)), oP 71 (.bin .geq (.t 70) (cI 1)), oP 72 (.mv (.t 71)), oG 73 72 true (.fa 2 (.t 3)), oG 74 72 true (.ld 1 false (.t 73)),
  oG 75 72 true (.bin .leq (.t 74) (cI 1000)), oP 76 (.pick (.t 72) (.t 75) (cB false)), oP 4 (.mv (.t 76))]) .ret) (.seq (.ops false [oP 78 (.bin .eql (.t 66) (cI 2)), oP 77 (.mv (.t 78))]) (.cond (.t 77) (.seq (.ops false [oP 79 (.fa 2 (.t 3)), oP 80 (.ld 1 false (.t 79)), oP 81 (.bin .geq (.t 80) (cI (-100000))), oP 82 (.mv (.t 81)), oG 83 82 true (.fa 2 (.t 3)),
  oG 84 82 true (.ld 1 false (.t 83)), oG 85 82 true (.bin .leq (.t 84) (cI 100000)), oP 86 (.pick (.t 82) (.t 85) (cB false)), oP 4 (.mv (.t 86))]) .ret) .skip)))))) c82_1)
def c82_3 : C := (.seq (.ops false [oP 35 (.fa 1 (.t 2)), oP 36 (.ld 1 false (.t 35)), oP 37 (.len (.t 36)), oP 38 (.fa 2 (.t 2)), oP 39 (.ld 1 false (.t 38)), oP 40 (.len (.t 39)), oP 41 (.fa 1 (.t 2)), oP 42 (.ld 1 false (.t 41)), oP 43 (.len (.t 42)), oP 44 (.fa 2 (.t 2)), oP 45 (.ld 1 false (.t 44)), oP 46 (.len (.t 45)), oP 47 (.bin .add (.t 43) (.t 46)), oP 48 (.bsl 1 4 [(.v (.int .i64 0))] [(0, (cI 0)), (1,
  (.t 37)), (2, (.t 40)), (3, (.t 47))]), oP 6 (.mv (.t 48))]) (.seq (.seq (.ops true [oP 49 (.fa 1 (.t 3)), oA 50 (.ld 1 false (.t 49)) [0], oA 51 (.bin .lss (.t 50) (cI 0)) [0, 1], oA 52 (.mv (.t 51)) [1, 0, 2], ⟨(.some 53), (.some (52, false)), (.fa 1 (.t 3)), 53, [2, 0, 1, 3], false⟩, ⟨(.some 54), (.some (52, false)), (.ld 1 false (.t 53)), 54, [1, 0, 2, 3, 4], false⟩, ⟨(.some 55), (.some (52,
  false)), (.mv (.t 6)), 55, [2, 0, 1, 3], false⟩, ⟨(.some 56), (.some (52, false)), (.mv (.t 5)), 56, [2, 0, 1, 3], false⟩, ⟨(.some 57), (.some (52, false)), (.fa 0 (.t 3)), 57, [2, 0, 1, 3], false⟩, ⟨(.some 58), (.some (52, false)), (.ld 1 false (.t 57)), 58, [1, 0, 2, 3, 8], false⟩, ⟨(.some 59), (.some (52, false)), (.iaS 1 (.t 56) (.t 58)), 59, [8, 1, 0, 2, 3, 9, 7], false⟩, ⟨(.some 60),
  (.some (52, false)), (.ld 1 false (.t 59)), 60, [7, 9, 2, 0, 1, 8, 3, 10], false⟩, ⟨(.some 61), (.some (52, false)), (.iaS 1 (.t 55) (.t 60)), 61, [10, 8, 9, 7, 1, 0, 2, 3, 11, 6], false⟩, ⟨(.some 62), (.some (52, false)), (.ld 1 false (.t 61)), 62, [6, 11, 2, 0, 1, 7, 9, 8, 10, 3, 12], false⟩, ⟨(.some 63), (.some (52, false)), (.bin .geq (.t 54) (.t 62)), 63, [12, 10, 8, 9, 7, 11, 6, 4, 2, 0, 1,
  3, 13, 5], false⟩, oA 64 (.pick (.t 52) (cB true) (.t 63)) [5, 13, 4, 6, 11, 7, 9, 8, 10, 12, 2, 0, 1, 14, 3]]) (.cond (.t 64) (.seq (.ops false [oP 4 (.mv (cB false))]) .ret) .skip)) c82_2))
def c82 : C := (.seq (.ops false [oP 2 (.box 6 (.t 0)), oP 3 (.box 5 (.t 1)), oP 4 (.mv (cB false))]) (.seq (.ops false [oP 7 (.call 145 []), oP 5 (.mv (.t 7))]) (.seq (.seq (.ops false [oP 8 (.fa 0 (.t 3)), oP 9 (.ld 1 false (.t 8)), oP 10 (.bin .lss (.t 9) (cI 1)), oP 11 (.mv (.t 10)), oG 12 11 false (.fa 0 (.t 3)), oG 13 11 false (.ld 1 false (.t 12)), oG 14 11 false (.mv (.t 5)),
  oG 15 11 false (.len (.t 14)), oG 16 11 false (.bin .geq (.t 13) (.t 15)), oP 17 (.pick (.t 11) (cB true) (.t 16)), oP 18 (.mv (.t 17)), oG 19 18 false (.fa 3 (.t 3)), oG 20 18 false (.ld 1 false (.t 19)), oG 21 18 false (.bin .lss (.t 20) (cI 0)), oP 22 (.pick (.t 18) (cB true) (.t 21)), oP 23 (.mv (.t 22)), oG 24 23 false (.fa 4 (.t 3)), oG 25 23 false (.ld 1 false (.t 24)),
  oG 26 23 false (.fa 3 (.t 3)), oG 27 23 false (.ld 1 false (.t 26)), oG 28 23 false (.bin .lss (.t 25) (.t 27)), oP 29 (.pick (.t 23) (cB true) (.t 28)), oP 30 (.mv (.t 29)), oG 31 30 false (.fa 4 (.t 3)), oG 32 30 false (.ld 1 false (.t 31)), oG 33 30 false (.bin .gtr (.t 32) (cI 1099511627776)), oP 34 (.pick (.t 30) (cB true) (.t 33))]) (.cond (.t 34) (.seq (.ops false [oP 4 (.mv (cB false))])
  .ret) .skip)) c82_3)))
def r82 : List RV := [(.tmp 4)]
theorem c82_ok : ∃ code, Try.f82.body = some code ∧ compC Try.prog Try.f82.ntmps code = some (C.strip c82) := ⟨_, rfl, by kernel_rfl⟩
theorem r82_ok : compRes Try.prog Try.f82.results.toList = some r82 := by kernel_rfl
theorem f82_ok : fnOk Try.prog 82 = true := by kernel_rfl
def c145 : C := (.seq (.ops false [oP 0 (.mv (.c .mt))]) (.seq (.ops false [oP 1 (.bsl 1 5 [(.v (.int .i64 0))] [(1, (cI 1)), (2, (cI 2)), (3, (cI 2)), (4, (cI 3))]), oP 0 (.mv (.t 1))]) .ret))
def r145 : List RV := [(.tmp 0)]
theorem c145_ok : ∃ code, Try.f145.body = some code ∧ compC Try.prog Try.f145.ntmps code = some (C.strip c145) := ⟨_, rfl, by kernel_rfl⟩
theorem r145_ok : compRes Try.prog Try.f145.results.toList = some r145 := by kernel_rfl
theorem f145_ok : fnOk Try.prog 145 = true := by kernel_rfl
end Go.Proofs.Ytfkhjkkhdfcnjaa
