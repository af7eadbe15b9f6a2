/- Compiled code of some functions (printed by a program), each checked by the kernel. -/
import Derived.Test.YtiaenojpbiahgaaV3
import Derived.Test.YtiaenojpbiahgaaProg
namespace Go.Proofs.Ytiaenojpbiahgaa
open Go
set_option maxRecDepth 100000
def c6_1 : C := (.seq (.block 1 (.seq (.ops false [oP 47 (.mv (.t 45)), oP 9 (.mv (.t 47))]) (.ops false [oP 48 (.mv (.t 8)), oP 49 (.mv (.t 9)), oP 50 (.iaS 1 (.t 48) (.t 49)), oS (.st 1 (.t 50) (cI (-1)))]))) (.ops false [oP 51 (.bin .add (.t 45) (cI 1)), oP 45 (.mv (.t 51))]))
def c6_2 : C := (.seq (.ops false [oP 46 (.bin .lss (.t 45) (.t 44))]) (.seq (.cond (.t 46) .skip (.exit 0)) c6_1))
def c6_3 : C := (.ops false [oP 74 (.mv (.t 8)), oP 75 (.mv (.t 11)), oP 76 (.mv (.t 10)), oP 77 (.iaS 1 (.t 74) (.t 75)), oS (.st 1 (.t 77) (.t 76))])
def c6_4 : C := (.ops false [oP 78 (.bin .add (.t 54) (cI 1)), oP 54 (.mv (.t 78))])
def c6_5 : C := (.seq (.block 3 (.seq (.ops false [oP 56 (.mv (.t 54)), oP 57 (.iaS 1 (.t 52) (.t 54)), oP 58 (.ld 1 false (.t 57)), oP 10 (.mv (.t 56)), oP 11 (.mv (.t 58))]) (.seq (.seq (.ops false [oP 59 (.mv (.t 11)), oP 60 (.bin .lss (.t 59) (cI 0)), oP 61 (.mv (.t 60)), oG 62 61 false (.mv (.t 11)), oG 63 61 false (.mv (.t 8)), oG 64 61 false (.len (.t 63)), oG 65 61 false (.bin .geq (.t 62) (.t 64)),
  oP 66 (.pick (.t 61) (cB true) (.t 65)), oP 67 (.mv (.t 66)), oG 68 67 false (.mv (.t 8)), oG 69 67 false (.mv (.t 11)), oG 70 67 false (.iaS 1 (.t 68) (.t 69)), oG 71 67 false (.ld 1 false (.t 70)), oG 72 67 false (.bin .geq (.t 71) (cI 0)), oP 73 (.pick (.t 67) (cB true) (.t 72))]) (.cond (.t 73) (.seq (.ops false [oP 2 (.mv (cB false))]) .ret) .skip)) c6_3))) c6_4)
def c6_6 : C := (.seq (.ops false [oP 55 (.bin .lss (.t 54) (.t 53))]) (.seq (.cond (.t 55) .skip (.exit 2)) c6_5))
def c6_7 : C := (.seq (.ops true [oP 94 (.ld 7 true (.t 13)), oP 95 (.fa 0 (.t 5)), oA 96 (.ld 1 false (.t 95)) [1], oP 97 (.mv (.t 12)), oA 98 (.iaS 1 (.t 96) (.t 97)) [1, 3, 2], oA 99 (.ld 1 false (.t 98)) [2, 3, 1, 4], ⟨(.some 100), Option.none, (.call 29 [(.t 94), (.t 99)]), 100, [4, 1, 3, 2, 5, 0], true⟩, oA 93 (.mv (.t 100)) [0, 5, 2, 3, 1, 4, 6], oA 101 (.ext (.t 93) 0) [6, 4, 1, 3, 2, 5, 0, 7],
  oA 102 (.ext (.t 93) 1) [6, 4, 1, 3, 2, 5, 0, 7], oA 14 (.mv (.t 101)) [7, 5, 4, 3, 2, 1, 0, 6, 8], oA 15 (.mv (.t 102)) [8, 7, 6, 5, 4, 3, 2, 1, 0, 10, 9]]) (.seq (.ops true [oP 103 (.mv (.t 8)), oP 104 (.mv (.t 14)), oA 105 (.iaS 1 (.t 103) (.t 104)) [1, 0], oA 106 (.ld 1 false (.t 105)) [0, 1, 2], oP 107 (.mv (.t 8)), oP 108 (.mv (.t 15)), oA 109 (.iaS 1 (.t 107) (.t 108)) [5, 4],
  oA 110 (.ld 1 false (.t 109)) [4, 5, 6], oA 111 (.bin .geq (.t 106) (.t 110)) [6, 5, 4, 2, 1, 0, 7, 3]]) (.cond (.t 111) (.seq (.ops false [oP 2 (.mv (cB false))]) .ret) .skip)))
def c6_8 : C := (.ops false [oP 112 (.bin .add (.t 82) (cI 1)), oP 82 (.mv (.t 112))])
def c6_9 : C := (.seq (.block 5 (.seq (.ops false [oP 84 (.mv (.t 82)), oP 85 (.iaS 7 (.t 80) (.t 82)), oP 86 (.ld 7 true (.t 85)), oP 13 (.new [(.v (.string ({ data := #[] }))), (.v (.int .i64 0)), (.v (.int .i64 0)), (.v (.int .i64 0)), (.v (.int .i64 0)), (.v (.int .i64 0)), .mt]), oP 12 (.mv (.t 84)), oS (.st 7 (.t 13) (.t 86))]) (.seq (.seq (.ops false [oP 87 (.fa 0 (.t 5)), oP 88 (.ld 1 false (.t 87)),
  oP 89 (.mv (.t 12)), oP 90 (.iaS 1 (.t 88) (.t 89)), oP 91 (.ld 1 false (.t 90)), oP 92 (.bin .eql (.t 91) (cI 0))]) (.cond (.t 92) (.exit 5) .skip)) c6_7))) c6_8)
def c6_10 : C := (.seq (.ops false [oP 83 (.bin .lss (.t 82) (.t 81))]) (.seq (.cond (.t 83) .skip (.exit 4)) c6_9))
def c6_11 : C := (.seq (.ops false [oB 113 (.call 30 []), oP 2 (.mv (.t 113))]) .ret)
def c6_12 : C := (.seq (.seq (.ops false [oP 79 (.fa 1 (.t 4)), oP 80 (.ld 1 false (.t 79)), oP 81 (.len (.t 80)), oP 82 (.mv (cI 0))]) (.block 4 (.loop c6_10))) c6_11)
def c6_13 : C := (.seq (.seq (.ops false [oP 52 (.mv (.t 6)), oP 53 (.len (.t 52)), oP 54 (.mv (cI 0))]) (.block 2 (.loop c6_6))) c6_12)
def c6_14 : C := (.seq (.ops false [oP 39 (.fa 0 (.t 4)), oP 40 (.ld 1 false (.t 39)), oP 41 (.len (.t 40)), oP 42 (.mks 1 8 [(.v (.int .i64 0))] (.t 41)), oP 8 (.mv (.t 42))]) (.seq (.seq (.ops false [oP 43 (.mv (.t 8)), oP 44 (.len (.t 43)), oP 45 (.mv (cI 0))]) (.block 0 (.loop c6_2))) c6_13))
def c6 : C := (.seq (.ops false [oP 2 (.mv (cB false))]) (.seq (.ops false [oP 16 (.mv (.t 0)), oP 17 (.call 14 [(.t 16)]), oP 3 (.mv (.t 17))]) (.seq (.ops false [oP 18 (.mv (.t 3)), oP 19 (.call 15 [(.t 18)]), oP 4 (.new [.mt, .mt, .mt, .mt, (.v (.int .i64 0)), (.v (.int .i64 0))]), oS (.st 6 (.t 4) (.t 19))]) (.seq (.ops false [oP 20 (.mv (.t 3)), oP 21 (.ld 6 true (.t 4)), oP 22 (.call 27 [(.t 20),
  (.t 21)]), oP 5 (.new [.mt, .mt, .mt]), oS (.st 3 (.t 5) (.t 22))]) (.seq (.ops false [oP 24 (.ld 6 true (.t 4)), oP 25 (.ld 3 true (.t 5)), oP 26 (.call 28 [(.t 24), (.t 25)]), oP 23 (.mv (.t 26)), oP 27 (.ext (.t 23) 0), oP 28 (.ext (.t 23) 1), oP 6 (.mv (.t 27)), oP 7 (.mv (.t 28))]) (.seq (.seq (.ops false [oP 29 (.mv (.t 7)), oP 30 (.bin .neq (.t 29) (cI 0)), oP 31 (.mv (.t 30)),
  oG 32 31 false (.mv (.t 6)), oG 33 31 false (.len (.t 32)), oG 34 31 false (.fa 0 (.t 4)), oG 35 31 false (.ld 1 false (.t 34)), oG 36 31 false (.len (.t 35)), oG 37 31 false (.bin .neq (.t 33) (.t 36)), oP 38 (.pick (.t 31) (cB true) (.t 37))]) (.cond (.t 38) (.seq (.ops false [oP 2 (.mv (cB false))]) .ret) .skip)) c6_14))))))
def r6 : List RV := [(.tmp 2)]
theorem c6_ok : ∃ code, Try.f6.body = some code ∧ compC Try.prog Try.f6.ntmps code = some (C.strip c6) := ⟨_, rfl, by kernel_rfl⟩
theorem r6_ok : compRes Try.prog Try.f6.results.toList = some r6 := by kernel_rfl
theorem f6_ok : fnOk Try.prog 6 = true := by kernel_rfl
def c29_1 : C := (.seq (.ops true [oP 12 (.fa 1 (.t 2)), oA 13 (.ld 1 false (.t 12)) [0], oP 14 (.fa 2 (.t 2)), oA 15 (.ld 1 false (.t 14)) [2], oA 4 (.mv (.t 13)) [0, 1], oA 5 (.mv (.t 15)) [2, 1, 0, 4, 3]]) .ret)
def c29 : C := (.seq (.ops false [oP 2 (.box 7 (.t 0)), oP 4 (.mv (cI 0)), oP 5 (.mv (cI 0))]) (.seq (.seq (.ops false [oP 6 (.mv (.t 1)), oP 7 (.bin .lss (.t 6) (cI 0))]) (.cond (.t 7) (.seq (.ops true [oP 8 (.fa 2 (.t 2)), oA 9 (.ld 1 false (.t 8)) [0], oP 10 (.fa 1 (.t 2)), oA 11 (.ld 1 false (.t 10)) [2], oA 4 (.mv (.t 9)) [0, 1], oA 5 (.mv (.t 11)) [2, 1, 0, 4, 3]]) .ret) .skip)) c29_1))
def r29 : List RV := [(.tmp 4), (.tmp 5)]
theorem c29_ok : ∃ code, Try.f29.body = some code ∧ compC Try.prog Try.f29.ntmps code = some (C.strip c29) := ⟨_, rfl, by kernel_rfl⟩
theorem r29_ok : compRes Try.prog Try.f29.results.toList = some r29 := by kernel_rfl
theorem f29_ok : fnOk Try.prog 29 = true := by kernel_rfl
def c32 : C := (.seq (.ops false [oP 2 (.mv (cI 0))]) (.seq (.ops false [oP 3 (.mv (.t 0)), oP 4 (.mv (.t 0)), oP 5 (.neg (.t 4)), oP 6 (.mnx true (.t 3) (.t 5)), oP 2 (.mv (.t 6))]) .ret))
def r32 : List RV := [(.tmp 2)]
theorem c32_ok : ∃ code, Try.f32.body = some code ∧ compC Try.prog Try.f32.ntmps code = some (C.strip c32) := ⟨_, rfl, by kernel_rfl⟩
theorem r32_ok : compRes Try.prog Try.f32.results.toList = some r32 := by kernel_rfl
theorem f32_ok : fnOk Try.prog 32 = true := by kernel_rfl
end Go.Proofs.Ytiaenojpbiahgaa
