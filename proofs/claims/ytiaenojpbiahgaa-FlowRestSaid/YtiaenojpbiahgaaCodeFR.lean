/- Compiled code of some functions (printed by a program), each checked by the kernel. -/
import Derived.Test.YtiaenojpbiahgaaV3
import Derived.Test.YtiaenojpbiahgaaProg
namespace Go.Proofs.Ytiaenojpbiahgaa
open Go
set_option maxRecDepth 100000
def c7_1 : C := (.ops false [oP 64 (.bin .add (.t 55) (cI 1)), oP 55 (.mv (.t 64))])
def c7_2 : C := (.seq (.block 1 (.seq (.ops false [oP 57 (.mv (.t 55)), oP 11 (.mv (.t 57))]) (.seq (.ops false [oP 58 (.mv (.t 9)), oP 59 (.mv (.t 11)), oP 60 (.iaS 1 (.t 58) (.t 59)), oP 61 (.ld 1 false (.t 60)), oP 62 (.mv (.t 11)), oP 63 (.bin .neq (.t 61) (.t 62))]) (.cond (.t 63) (.seq (.ops false [oP 4 (.mv (cB false))]) .ret) .skip)))) c7_1)
def c7_3 : C := (.seq (.ops false [oP 56 (.bin .lss (.t 55) (.t 54))]) (.seq (.cond (.t 56) .skip (.exit 0)) c7_2))
def c7_4 : C := (.seq (.ops false [oP 65 (.mv (.t 10)), oP 66 (.bin .eql (.t 65) (cI 0)), oP 67 (.mv (.t 66)), oG 68 67 true (.mv (.t 9)), oG 69 67 true (.len (.t 68)), oG 70 67 true (.fa 0 (.t 6)), oG 71 67 true (.ld 1 false (.t 70)), oG 72 67 true (.len (.t 71)), oG 73 67 true (.bin .eql (.t 69) (.t 72)), oP 74 (.pick (.t 67) (.t 73) (cB false)), oP 75 (.mv (.t 74)), oG 76 75 true (.ld 6 true (.t 6)),
  oG 77 75 true (.ld 3 true (.t 8)), ⟨(.some 78), (.some (75, true)), (.call 31 [(.t 76), (.t 77)]), 78, [], true⟩, oG 79 75 true (.bin .eql (.t 78) (cI 12)), oP 80 (.pick (.t 75) (.t 79) (cB false)), oP 81 (.mv (.t 80)), ⟨(.some 82), (.some (81, true)), (.call 30 []), 82, [], true⟩, oP 83 (.pick (.t 81) (.t 82) (cB false)), oP 4 (.mv (.t 83))]) .ret)
def c7_5 : C := (.seq (.ops false [oP 48 (.ld 6 true (.t 6)), oP 49 (.ld 3 true (.t 7)), oP 50 (.call 28 [(.t 48), (.t 49)]), oP 47 (.mv (.t 50)), oP 51 (.ext (.t 47) 0), oP 52 (.ext (.t 47) 1), oP 9 (.mv (.t 51)), oP 10 (.mv (.t 52))]) (.seq (.seq (.ops false [oP 53 (.mv (.t 9)), oP 54 (.len (.t 53)), oP 55 (.mv (cI 0))]) (.block 0 (.loop c7_3))) c7_4))
def c7 : C := (.seq (.ops false [oP 4 (.mv (cB false))]) (.seq (.ops false [oP 12 (.mv (.t 0)), oP 13 (.call 14 [(.t 12)]), oP 5 (.mv (.t 13))]) (.seq (.ops false [oP 14 (.mv (.t 5)), oP 15 (.call 15 [(.t 14)]), oP 6 (.new [.mt, .mt, .mt, .mt, (.v (.int .i64 0)), (.v (.int .i64 0))]), oS (.st 6 (.t 6) (.t 15))]) (.seq (.ops true [oP 16 (.fa 1 (.t 6)), oA 17 (.ld 1 false (.t 16)) [0], oA 18 (.len (.t 17)) [0,
  1], oA 19 (.mks 1 8 [(.v (.int .i64 0))] (.t 18)) [1, 0, 2], oP 20 (.fa 2 (.t 6)), oA 21 (.ld 1 false (.t 20)) [4], oA 22 (.len (.t 21)) [4, 5], oA 23 (.mks 1 8 [(.v (.int .i64 0))] (.t 22)) [5, 4, 6], oP 24 (.fa 3 (.t 6)), oA 25 (.ld 1 false (.t 24)) [8], oA 26 (.len (.t 25)) [8, 9], oA 27 (.mks 1 1 [(.v (.bool false))] (.t 26)) [9, 8, 10], oA 28 (.bld [.mt, .mt, .mt] [(0, (1, (.t 19))), (1, (1,
  (.t 23))), (2, (1, (.t 27)))]) [10, 8, 9, 6, 4, 5, 2, 0, 1, 11, 7, 3], oP 7 (.new [.mt, .mt, .mt]), ⟨Option.none, Option.none, (.st 3 (.t 7) (.t 28)), 0, [11, 10, 9, 8, 7, 6, 5, 4, 3, 2, 1, 0, 12, 13], false⟩]) (.seq (.ops true [oP 29 (.bsl 1 0 [(.v (.int .i64 0))] []), oP 30 (.fa 0 (.t 7)), oA 31 (.ld 1 false (.t 30)) [1], oA 32 (.app 1 8 (.t 29) (.t 31)) [1, 2, 0], oP 33 (.fa 1 (.t 7)),
  oA 34 (.ld 1 false (.t 33)) [4], oP 35 (.fa 2 (.t 7)), oA 36 (.ld 1 false (.t 35)) [6], oA 37 (.bld [.mt, .mt, .mt] [(0, (1, (.t 32))), (1, (1, (.t 34))), (2, (1, (.t 36)))]) [6, 4, 0, 2, 1, 7, 5, 3], oP 8 (.new [.mt, .mt, .mt]), ⟨Option.none, Option.none, (.st 3 (.t 8) (.t 37)), 0, [7, 6, 5, 4, 2, 1, 0, 3, 8, 9], false⟩]) (.seq (.ops true [oP 38 (.fa 0 (.t 8)), oA 39 (.ld 1 false (.t 38)) [0],
  oP 40 (.mv (.t 1)), oA 41 (.cvi .i64 (.t 40)) [2], oP 42 (.fa 0 (.t 8)), oA 43 (.ld 1 false (.t 42)) [4], oA 44 (.len (.t 43)) [4, 5], oA 45 (.bin .rem (.t 41) (.t 44)) [5, 4, 2, 6, 3], oA 46 (.iaS 1 (.t 39) (.t 45)) [6, 5, 4, 3, 2, 0, 7, 1], ⟨Option.none, Option.none, (.st 1 (.t 46) (cI 1)), 0, [7, 6, 5, 4, 3, 2, 1, 0, 8], false⟩]) (.weak c7_5)))))))
def r7 : List RV := [(.tmp 4)]
theorem c7_ok : ∃ code, Try.f7.body = some code ∧ compC Try.prog Try.f7.ntmps code = some (C.strip c7) := ⟨_, rfl, by kernel_rfl⟩
theorem r7_ok : compRes Try.prog Try.f7.results.toList = some r7 := by kernel_rfl
theorem f7_ok : fnOk Try.prog 7 = true := by kernel_rfl
end Go.Proofs.Ytiaenojpbiahgaa
