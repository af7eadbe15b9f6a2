/- Compiled code of some functions (printed by a program), each checked by the kernel. -/
import Derived.Test.YtiaenojpbiahgaaV3
import Derived.Test.YtiaenojpbiahgaaProg
namespace Go.Proofs.Ytiaenojpbiahgaa
open Go
set_option maxRecDepth 100000
def c5_1 : C := (.seq (.block 1 (.seq (.ops true [⟨(.some 31), Option.none, (.mv (.t 7)), 31, [], false⟩, ⟨(.some 32), Option.none, (.mv (.t 9)), 32, [], false⟩, ⟨(.some 33), Option.none,
    (.iaS 5 (.t 31) (.t 32)), 33, [1, 0], false⟩, ⟨(.some 34), Option.none, (.ld 5 true (.t 33)), 34, [0, 1, 2], false⟩, ⟨(.some 35), Option.none, (.mv (.t 7)), 35, [], false⟩,
    ⟨(.some 36), Option.none, (.mv (.t 9)), 36, [], false⟩, ⟨(.some 37), Option.none, (.iaS 5 (.t 35) (.t 36)), 37, [5, 4], false⟩, ⟨(.some 38), Option.none, (.ld 5 true (.t 37)), 38,
    [4, 5, 6], false⟩, ⟨(.some 10), Option.none, (.new [(.v (.int .i64 0)), (.v (.int .i64 0)), (.v (.int .i64 0)), (.v (.int .i64 0)), (.v (.int .i64 0))]), 10, [], false⟩,
    ⟨(.some 11), Option.none, (.new [(.v (.int .i64 0)), (.v (.int .i64 0)), (.v (.int .i64 0)), (.v (.int .i64 0)), (.v (.int .i64 0))]), 11, [], false⟩, ⟨Option.none, Option.none,
    (.st 5 (.t 10) (.t 34)), 0, [9, 2, 1, 0, 3, 8], false⟩, ⟨Option.none, Option.none, (.st 5 (.t 11) (.t 38)), 0, [8, 6, 5, 4, 3, 2, 1, 0, 10, 7, 9], false⟩])
    (.seq (.ops true [⟨(.some 39), Option.none, (.mv (.t 7)), 39, [], false⟩, ⟨(.some 40), Option.none, (.mv (.t 9)), 40, [], false⟩, ⟨(.some 41), Option.none, (.iaS 5 (.t 39)
    (.t 40)), 41, [1, 0], false⟩, ⟨(.some 42), Option.none, (.fa 4 (.t 41)), 42, [0, 1, 2], false⟩, ⟨(.some 43), Option.none, (.ld 1 false (.t 42)), 43, [2, 1, 0, 3], false⟩,
    ⟨(.some 44), Option.none, (.mv (.t 7)), 44, [], false⟩, ⟨(.some 45), Option.none, (.mv (.t 9)), 45, [], false⟩, ⟨(.some 46), Option.none, (.iaS 5 (.t 44) (.t 45)), 46, [6, 5],
    false⟩, ⟨(.some 47), Option.none, (.fa 3 (.t 46)), 47, [5, 6, 7], false⟩, ⟨(.some 48), Option.none, (.ld 1 false (.t 47)), 48, [7, 6, 5, 8], false⟩, ⟨(.some 49), Option.none,
    (.mv (.t 1)), 49, [], false⟩, ⟨(.some 50), Option.none, (.cvi .i64 (.t 49)), 50, [10], false⟩, ⟨(.some 51), Option.none, (.bin .rem (.t 50) (.c (.v (.int .i64 7)))), 51, [10, 11],
    false⟩, ⟨(.some 52), Option.none, (.bin .add (.t 48) (.t 51)), 52, [11, 10, 8, 5, 6, 7, 12, 9], false⟩, ⟨(.some 53), Option.none, (.mnx false (.t 43) (.t 52)), 53, [9, 12, 7, 6, 5,
    8, 10, 11, 3, 0, 1, 2, 13, 4], false⟩, ⟨(.some 54), Option.none, (.fa 4 (.t 10)), 54, [14, 13, 12, 11, 10, 9, 8, 7, 6, 5, 4, 3, 2, 1, 0], false⟩, ⟨Option.none, Option.none,
    (.st 1 (.t 54) (.t 53)), 0, [13, 12, 11, 10, 9, 8, 7, 6, 5, 4, 3, 2, 1, 0, 14, 15], false⟩]) (.seq (.ops false [⟨(.some 55), Option.none, (.fa 4 (.t 10)), 55, [], false⟩,
    ⟨(.some 56), Option.none, (.ld 1 false (.t 55)), 56, [], false⟩, ⟨(.some 57), Option.none, (.fa 3 (.t 11)), 57, [], false⟩, ⟨Option.none, Option.none, (.st 1 (.t 57) (.t 56)), 0,
    [], false⟩]) (.ops false [⟨(.some 58), Option.none, (.mv (.t 8)), 58, [], false⟩, ⟨(.some 59), Option.none, (.ld 5 true (.t 10)), 59, [], false⟩, ⟨(.some 60), Option.none,
    (.ld 5 true (.t 11)), 60, [], false⟩, ⟨(.some 61), Option.none, (.bsl 5 2 [(.v (.int .i64 0)), (.v (.int .i64 0)), (.v (.int .i64 0)), (.v (.int .i64 0)), (.v (.int .i64 0))] [(0,
    (.t 59)), (1, (.t 60))]), 61, [], false⟩, ⟨(.some 62), Option.none, (.app 5 40 (.t 58) (.t 61)), 62, [], false⟩, ⟨(.some 8), Option.none, (.mv (.t 62)), 8, [], false⟩])))))
    (.ops false [⟨(.some 29), Option.none, (.mv (.t 9)), 29, [], false⟩, ⟨(.some 30), Option.none, (.bin .add (.t 29) (.c (.v (.int .i64 1)))), 30, [], false⟩, ⟨(.some 9), Option.none,
    (.mv (.t 30)), 9, [], false⟩]))
def c5_2 : C := (.seq (.seq (.ops false [⟨(.some 25), Option.none, (.mv (.t 9)), 25, [], false⟩, ⟨(.some 26), Option.none, (.mv (.t 7)), 26, [], false⟩, ⟨(.some 27), Option.none, (.len (.t 26)),
    27, [], false⟩, ⟨(.some 28), Option.none, (.bin .lss (.t 25) (.t 27)), 28, [], false⟩]) (.cond (.t 28) .skip (.exit 0))) c5_1)
def c5_3 : C := (.ops false [⟨(.some 76), Option.none, (.mv (.t 13)), 76, [], false⟩, ⟨(.some 77), Option.none, (.bin .add (.t 76) (.c (.v (.int .i64 1)))), 77, [], false⟩, ⟨(.some 13),
    Option.none, (.mv (.t 77)), 13, [], false⟩])
def c5_4 : C := (.seq (.block 5 (.seq (.ops false [⟨(.some 78), Option.none, (.mv (.t 7)), 78, [], false⟩, ⟨(.some 79), Option.none, (.mv (.t 13)), 79, [], false⟩, ⟨(.some 80), Option.none,
    (.mv (.t 12)), 80, [], false⟩, ⟨(.some 81), Option.none, (.call 18 [(.t 78), (.t 79), (.t 80)]), 81, [], true⟩, ⟨(.some 82), Option.none, (.mv (.t 8)), 82, [], false⟩, ⟨(.some 83),
    Option.none, (.mv (.t 13)), 83, [], false⟩, ⟨(.some 84), Option.none, (.mv (.t 12)), 84, [], false⟩, ⟨(.some 85), Option.none, (.call 18 [(.t 82), (.t 83), (.t 84)]), 85, [],
    true⟩, ⟨(.some 86), Option.none, (.bin .neq (.t 81) (.t 85)), 86, [], false⟩, ⟨(.some 87), Option.none, (.mv (.t 86)), 87, [], false⟩, ⟨(.some 88), (.some (87, false)),
    (.mv (.t 7)), 88, [], false⟩, ⟨(.some 89), (.some (87, false)), (.mv (.t 13)), 89, [], false⟩, ⟨(.some 90), (.some (87, false)), (.mv (.t 12)), 90, [], false⟩, ⟨(.some 91),
    (.some (87, false)), (.call 19 [(.t 88), (.t 89), (.t 90)]), 91, [], true⟩, ⟨(.some 92), (.some (87, false)), (.mv (.t 8)), 92, [], false⟩, ⟨(.some 93), (.some (87, false)),
    (.mv (.t 13)), 93, [], false⟩, ⟨(.some 94), (.some (87, false)), (.mv (.t 12)), 94, [], false⟩, ⟨(.some 95), (.some (87, false)), (.call 19 [(.t 92), (.t 93), (.t 94)]), 95, [],
    true⟩, ⟨(.some 96), (.some (87, false)), (.bin .neq (.t 91) (.t 95)), 96, [], false⟩, ⟨(.some 97), Option.none, (.pick (.t 87) (.c (.v (.bool true))) (.t 96)), 97, [], false⟩,
    ⟨(.some 98), Option.none, (.mv (.t 97)), 98, [], false⟩, ⟨(.some 99), (.some (98, false)), (.mv (.t 7)), 99, [], false⟩, ⟨(.some 100), (.some (98, false)), (.mv (.t 13)), 100, [],
    false⟩, ⟨(.some 101), (.some (98, false)), (.mv (.t 12)), 101, [], false⟩, ⟨(.some 102), (.some (98, false)), (.call 21 [(.t 99), (.t 100), (.t 101)]), 102, [], true⟩,
    ⟨(.some 103), (.some (98, false)), (.mv (.t 8)), 103, [], false⟩, ⟨(.some 104), (.some (98, false)), (.mv (.t 13)), 104, [], false⟩, ⟨(.some 105), (.some (98, false)),
    (.mv (.t 12)), 105, [], false⟩, ⟨(.some 106), (.some (98, false)), (.call 21 [(.t 103), (.t 104), (.t 105)]), 106, [], true⟩, ⟨(.some 107), (.some (98, false)), (.beq true (.t 102)
    (.t 106)), 107, [], false⟩, ⟨(.some 108), Option.none, (.pick (.t 98) (.c (.v (.bool true))) (.t 107)), 108, [], false⟩, ⟨(.some 109), Option.none, (.mv (.t 108)), 109, [], false⟩,
    ⟨(.some 110), (.some (109, false)), (.mv (.t 7)), 110, [], false⟩, ⟨(.some 111), (.some (109, false)), (.mv (.t 13)), 111, [], false⟩, ⟨(.some 112), (.some (109, false)),
    (.mv (.t 12)), 112, [], false⟩, ⟨(.some 113), (.some (109, false)), (.call 20 [(.t 110), (.t 111), (.t 112)]), 113, [], true⟩, ⟨(.some 114), (.some (109, false)), (.mv (.t 8)),
    114, [], false⟩, ⟨(.some 115), (.some (109, false)), (.mv (.t 13)), 115, [], false⟩, ⟨(.some 116), (.some (109, false)), (.mv (.t 12)), 116, [], false⟩, ⟨(.some 117), (.some (109,
    false)), (.call 20 [(.t 114), (.t 115), (.t 116)]), 117, [], true⟩, ⟨(.some 118), (.some (109, false)), (.beq true (.t 113) (.t 117)), 118, [], false⟩, ⟨(.some 119), Option.none,
    (.pick (.t 109) (.c (.v (.bool true))) (.t 118)), 119, [], false⟩]) (.cond (.t 119) (.seq (.ops false [⟨(.some 4), Option.none, (.mv (.c (.v (.bool false)))), 4, [], false⟩]) .ret)
    .skip))) c5_3)
def c5_5 : C := (.seq (.seq (.ops false [⟨(.some 74), Option.none, (.mv (.t 13)), 74, [], false⟩, ⟨(.some 75), Option.none, (.bin .lss (.t 74) (.c (.v (.int .i64 5)))), 75, [], false⟩])
    (.cond (.t 75) .skip (.exit 4))) c5_4)
def c5_6 : C := (.ops false [⟨(.some 72), Option.none, (.mv (.t 12)), 72, [], false⟩, ⟨(.some 73), Option.none, (.bin .add (.t 72) (.c (.v (.int .i64 1)))), 73, [], false⟩, ⟨(.some 12),
    Option.none, (.mv (.t 73)), 12, [], false⟩])
def c5_7 : C := (.seq (.block 3 (.seq (.ops false [⟨(.some 13), Option.none, (.mv (.c (.v (.int .i64 0)))), 13, [], false⟩]) (.block 4 (.loop c5_5)))) c5_6)
def c5_8 : C := (.seq (.seq (.ops false [⟨(.some 70), Option.none, (.mv (.t 12)), 70, [], false⟩, ⟨(.some 71), Option.none, (.bin .lss (.t 70) (.c (.v (.int .i64 40)))), 71, [], false⟩])
    (.cond (.t 71) .skip (.exit 2))) c5_7)
def c5_9 : C := (.seq (.ops false [⟨(.some 120), Option.none, (.call 13 []), 120, [], true⟩, ⟨(.some 4), Option.none, (.mv (.t 120)), 4, [], false⟩]) .ret)
def c5_10 : C := (.seq (.seq (.ops false [⟨(.some 12), Option.none, (.mv (.c (.v (.int .i64 0)))), 12, [], false⟩]) (.block 2 (.loop c5_8))) c5_9)
def c5_11 : C := (.seq (.seq (.ops true [⟨(.some 63), Option.none, (.ld 6 true (.t 6)), 63, [], false⟩, ⟨(.some 64), Option.none, (.mv (.t 8)), 64, [], false⟩, ⟨(.some 65), Option.none,
    (.call 24 [(.t 63), (.t 64)]), 65, [1, 0], true⟩, ⟨(.some 66), Option.none, (.ld 6 true (.t 6)), 66, [], false⟩, ⟨(.some 67), Option.none, (.mv (.t 7)), 67, [], false⟩,
    ⟨(.some 68), Option.none, (.call 24 [(.t 66), (.t 67)]), 68, [0, 1, 2, 4, 3], true⟩, ⟨(.some 69), Option.none, (.bin .neq (.t 65) (.t 68)), 69, [3, 4, 0, 1, 5, 2], false⟩])
    (.cond (.t 69) (.seq (.ops false [⟨(.some 4), Option.none, (.mv (.c (.v (.bool false)))), 4, [], false⟩]) .ret) .skip)) c5_10)
def c5_12 : C := (.seq (.ops false [⟨(.some 18), Option.none, (.mv (.t 0)), 18, [], false⟩, ⟨(.some 19), Option.none, (.call 14 [(.t 18)]), 19, [], false⟩, ⟨(.some 5), Option.none, (.mv (.t 19)),
    5, [], false⟩]) (.seq (.ops false [⟨(.some 20), Option.none, (.mv (.t 5)), 20, [], false⟩, ⟨(.some 21), Option.none, (.call 15 [(.t 20)]), 21, [], false⟩, ⟨(.some 6), Option.none,
    (.new [.mt, .mt, .mt, .mt, (.v (.int .i64 0)), (.v (.int .i64 0))]), 6, [], false⟩, ⟨Option.none, Option.none, (.st 6 (.t 6) (.t 21)), 0, [], false⟩])
    (.seq (.ops false [⟨(.some 22), Option.none, (.mv (.t 5)), 22, [], false⟩, ⟨(.some 23), Option.none, (.ld 6 true (.t 6)), 23, [], false⟩, ⟨(.some 24), Option.none,
    (.call 16 [(.t 22), (.t 23), (.c (.v (.int .i64 6)))]), 24, [], false⟩, ⟨(.some 7), Option.none, (.mv (.t 24)), 7, [], false⟩]) (.seq (.ops false [⟨(.some 8), Option.none,
    (.mv (.c .mt)), 8, [], false⟩]) (.seq (.seq (.ops false [⟨(.some 9), Option.none, (.mv (.c (.v (.int .i64 0)))), 9, [], false⟩]) (.block 0 (.loop c5_2))) (.weak c5_11))))))
def c5 : C := (.seq (.ops false [⟨(.some 4), Option.none, (.mv (.c (.v (.bool false)))), 4, [], false⟩]) (.seq (.seq (.ops false [⟨(.some 14), Option.none, (.mv (.t 0)), 14, [], false⟩,
    ⟨(.some 15), Option.none, (.call 12 [(.t 14)]), 15, [], true⟩, ⟨(.some 16), Option.none, (.not (.t 15)), 16, [], false⟩]) (.cond (.t 16) (.seq (.ops false [⟨(.some 17),
    Option.none, (.call 13 []), 17, [], true⟩, ⟨(.some 4), Option.none, (.mv (.t 17)), 4, [], false⟩]) .ret) .skip)) c5_12))
def r5 : List RV := [(.tmp 4)]
theorem c5_ok : ∃ code, Try.f5.body = some code ∧ compC Try.prog Try.f5.ntmps code = some (C.strip c5) := ⟨_, rfl, by kernel_rfl⟩
theorem r5_ok : compRes Try.prog Try.f5.results.toList = some r5 := by kernel_rfl
theorem f5_ok : fnOk Try.prog 5 = true := by kernel_rfl
def c24_1 : C := (.seq (.ops false [⟨(.some 4), Option.none, (.mv (.c (.v (.int .i64 0)))), 4, [], false⟩]) .ret)
def c24_2 : C := (.seq (.block 0 (.seq (.ops false [⟨(.some 12), Option.none, (.mv (.t 1)), 12, [], false⟩, ⟨(.some 13), Option.none, (.len (.t 12)), 13, [], false⟩, ⟨(.some 14), Option.none,
    (.bin .gtr (.t 13) (.c (.v (.int .i64 32)))), 14, [], false⟩, ⟨(.some 11), Option.none, (.mv (.t 14)), 11, [], false⟩]) (.cond (.t 11) (.seq (.ops false [⟨(.some 4), Option.none,
    (.mv (.c (.v (.int .i64 4)))), 4, [], false⟩]) .ret) (.seq (.ops false [⟨(.some 16), Option.none, (.mv (.t 1)), 16, [], false⟩, ⟨(.some 17), Option.none, (.mkf 56 [] [(.t 2)]), 17,
    [], false⟩, ⟨(.some 18), Option.none, (.call 55 [(.t 16), (.t 17)]), 18, [], true⟩, ⟨(.some 15), Option.none, (.mv (.t 18)), 15, [], false⟩]) (.cond (.t 15)
    (.seq (.ops false [⟨(.some 4), Option.none, (.mv (.c (.v (.int .i64 30)))), 4, [], false⟩]) .ret) .skip))))) c24_1)
def c24 : C := (.seq (.ops false [⟨(.some 2), Option.none, (.box 6 (.t 0)), 2, [], false⟩, ⟨(.some 4), Option.none, (.mv (.c (.v (.int .i64 0)))), 4, [], false⟩])
    (.seq (.seq (.ops false [⟨(.some 6), Option.none, (.ld 6 true (.t 2)), 6, [], false⟩, ⟨(.some 7), Option.none, (.call 54 [(.t 6)]), 7, [], true⟩, ⟨(.some 5), Option.none,
    (.mv (.t 7)), 5, [], false⟩]) (.seq (.ops false [⟨(.some 8), Option.none, (.mv (.t 5)), 8, [], false⟩, ⟨(.some 9), Option.none, (.bin .neq (.t 8) (.c (.v (.int .i64 0)))), 9, [],
    false⟩]) (.cond (.t 9) (.seq (.ops false [⟨(.some 10), Option.none, (.mv (.t 5)), 10, [], false⟩, ⟨(.some 4), Option.none, (.mv (.t 10)), 4, [], false⟩]) .ret) .skip)))
    (.weak c24_2)))
def r24 : List RV := [(.tmp 4)]
theorem c24_ok : ∃ code, Try.f24.body = some code ∧ compC Try.prog Try.f24.ntmps code = some (C.strip c24) := ⟨_, rfl, by kernel_rfl⟩
theorem r24_ok : compRes Try.prog Try.f24.results.toList = some r24 := by kernel_rfl
theorem f24_ok : fnOk Try.prog 24 = true := by kernel_rfl
def c56 : C := (.seq (.ops false [⟨(.some 2), Option.none, (.box 5 (.t 0)), 2, [], false⟩, ⟨(.some 3), Option.none, (.mv (.c (.v (.bool false)))), 3, [], false⟩]) (.seq (.ops false [⟨(.some 4),
    Option.none, (.ld 6 true (.t 1)), 4, [], false⟩, ⟨(.some 5), Option.none, (.ld 5 true (.t 2)), 5, [], false⟩, ⟨(.some 6), Option.none, (.call 57 [(.t 4), (.t 5)]), 6, [], true⟩,
    ⟨(.some 7), Option.none, (.not (.t 6)), 7, [], false⟩, ⟨(.some 3), Option.none, (.mv (.t 7)), 3, [], false⟩]) .ret))
def r56 : List RV := [(.tmp 3)]
theorem c56_ok : ∃ code, Try.f56.body = some code ∧ compC Try.prog Try.f56.ntmps code = some (C.strip c56) := ⟨_, rfl, by kernel_rfl⟩
theorem r56_ok : compRes Try.prog Try.f56.results.toList = some r56 := by kernel_rfl
theorem f56_ok : fnOk Try.prog 56 = true := by kernel_rfl
def c57_1 : C := (.seq (.ops false [⟨(.some 87), Option.none, (.fa 2 (.t 3)), 87, [], false⟩, ⟨(.some 88), Option.none, (.ld 1 false (.t 87)), 88, [], false⟩, ⟨(.some 89), Option.none,
    (.bin .eql (.t 88) (.c (.v (.int .i64 0)))), 89, [], false⟩, ⟨(.some 4), Option.none, (.mv (.t 89)), 4, [], false⟩]) .ret)
def c57_2 : C := (.seq (.seq (.ops false [⟨(.some 65), Option.none, (.fa 0 (.t 3)), 65, [], false⟩, ⟨(.some 66), Option.none, (.ld 1 false (.t 65)), 66, [], false⟩])
    (.block 0 (.seq (.ops false [⟨(.some 68), Option.none, (.bin .eql (.t 66) (.c (.v (.int .i64 1)))), 68, [], false⟩, ⟨(.some 67), Option.none, (.mv (.t 68)), 67, [], false⟩])
    (.cond (.t 67) (.seq (.ops false [⟨(.some 69), Option.none, (.fa 2 (.t 3)), 69, [], false⟩, ⟨(.some 70), Option.none, (.ld 1 false (.t 69)), 70, [], false⟩, ⟨(.some 71),
    Option.none, (.bin .geq (.t 70) (.c (.v (.int .i64 1)))), 71, [], false⟩, ⟨(.some 72), Option.none, (.mv (.t 71)), 72, [], false⟩, ⟨(.some 73), (.some (72, true)), (.fa 2 (.t 3)),
    73, [], false⟩, ⟨(.some 74), (.some (72, true)), (.ld 1 false (.t 73)), 74, [], false⟩, ⟨(.some 75), (.some (72, true)), (.bin .leq (.t 74) (.c (.v (.int .i64 1000)))), 75, [],
    false⟩, ⟨(.some 76), Option.none, (.pick (.t 72) (.t 75) (.c (.v (.bool false)))), 76, [], false⟩, ⟨(.some 4), Option.none, (.mv (.t 76)), 4, [], false⟩]) .ret)
    (.seq (.ops false [⟨(.some 78), Option.none, (.bin .eql (.t 66) (.c (.v (.int .i64 2)))), 78, [], false⟩, ⟨(.some 77), Option.none, (.mv (.t 78)), 77, [], false⟩]) (.cond (.t 77)
    (.seq (.ops false [⟨(.some 79), Option.none, (.fa 2 (.t 3)), 79, [], false⟩, ⟨(.some 80), Option.none, (.ld 1 false (.t 79)), 80, [], false⟩, ⟨(.some 81), Option.none,
    (.bin .geq (.t 80) (.c (.v (.int .i64 (-100000))))), 81, [], false⟩, ⟨(.some 82), Option.none, (.mv (.t 81)), 82, [], false⟩, ⟨(.some 83), (.some (82, true)), (.fa 2 (.t 3)), 83,
    [], false⟩, ⟨(.some 84), (.some (82, true)), (.ld 1 false (.t 83)), 84, [], false⟩, ⟨(.some 85), (.some (82, true)), (.bin .leq (.t 84) (.c (.v (.int .i64 100000)))), 85, [],
    false⟩, ⟨(.some 86), Option.none, (.pick (.t 82) (.t 85) (.c (.v (.bool false)))), 86, [], false⟩, ⟨(.some 4), Option.none, (.mv (.t 86)), 4, [], false⟩]) .ret) .skip)))))) c57_1)
def c57_3 : C := (.seq (.ops false [⟨(.some 35), Option.none, (.fa 1 (.t 2)), 35, [], false⟩, ⟨(.some 36), Option.none, (.ld 1 false (.t 35)), 36, [], false⟩, ⟨(.some 37), Option.none,
    (.len (.t 36)), 37, [], false⟩, ⟨(.some 38), Option.none, (.fa 2 (.t 2)), 38, [], false⟩, ⟨(.some 39), Option.none, (.ld 1 false (.t 38)), 39, [], false⟩, ⟨(.some 40), Option.none,
    (.len (.t 39)), 40, [], false⟩, ⟨(.some 41), Option.none, (.fa 1 (.t 2)), 41, [], false⟩, ⟨(.some 42), Option.none, (.ld 1 false (.t 41)), 42, [], false⟩, ⟨(.some 43), Option.none,
    (.len (.t 42)), 43, [], false⟩, ⟨(.some 44), Option.none, (.fa 2 (.t 2)), 44, [], false⟩, ⟨(.some 45), Option.none, (.ld 1 false (.t 44)), 45, [], false⟩, ⟨(.some 46), Option.none,
    (.len (.t 45)), 46, [], false⟩, ⟨(.some 47), Option.none, (.bin .add (.t 43) (.t 46)), 47, [], false⟩, ⟨(.some 48), Option.none, (.bsl 1 4 [(.v (.int .i64 0))] [(0,
    (.c (.v (.int .i64 0)))), (1, (.t 37)), (2, (.t 40)), (3, (.t 47))]), 48, [], false⟩, ⟨(.some 6), Option.none, (.mv (.t 48)), 6, [], false⟩]) (.seq (.seq (.ops true [⟨(.some 49),
    Option.none, (.fa 1 (.t 3)), 49, [], false⟩, ⟨(.some 50), Option.none, (.ld 1 false (.t 49)), 50, [0], false⟩, ⟨(.some 51), Option.none, (.bin .lss (.t 50)
    (.c (.v (.int .i64 0)))), 51, [0, 1], false⟩, ⟨(.some 52), Option.none, (.mv (.t 51)), 52, [1, 0, 2], false⟩, ⟨(.some 53), (.some (52, false)), (.fa 1 (.t 3)), 53, [2, 0, 1, 3],
    false⟩, ⟨(.some 54), (.some (52, false)), (.ld 1 false (.t 53)), 54, [1, 0, 2, 3, 4], false⟩, ⟨(.some 55), (.some (52, false)), (.mv (.t 6)), 55, [2, 0, 1, 3], false⟩, ⟨(.some 56),
    (.some (52, false)), (.mv (.t 5)), 56, [2, 0, 1, 3], false⟩, ⟨(.some 57), (.some (52, false)), (.fa 0 (.t 3)), 57, [2, 0, 1, 3], false⟩, ⟨(.some 58), (.some (52, false)),
    (.ld 1 false (.t 57)), 58, [1, 0, 2, 3, 8], false⟩, ⟨(.some 59), (.some (52, false)), (.iaS 1 (.t 56) (.t 58)), 59, [8, 1, 0, 2, 3, 9, 7], false⟩, ⟨(.some 60), (.some (52, false)),
    (.ld 1 false (.t 59)), 60, [7, 9, 2, 0, 1, 8, 3, 10], false⟩, ⟨(.some 61), (.some (52, false)), (.iaS 1 (.t 55) (.t 60)), 61, [10, 8, 9, 7, 1, 0, 2, 3, 11, 6], false⟩, ⟨(.some 62),
    (.some (52, false)), (.ld 1 false (.t 61)), 62, [6, 11, 2, 0, 1, 7, 9, 8, 10, 3, 12], false⟩, ⟨(.some 63), (.some (52, false)), (.bin .geq (.t 54) (.t 62)), 63, [12, 10, 8, 9, 7,
    11, 6, 4, 2, 0, 1, 3, 13, 5], false⟩, ⟨(.some 64), Option.none, (.pick (.t 52) (.c (.v (.bool true))) (.t 63)), 64, [5, 13, 4, 6, 11, 7, 9, 8, 10, 12, 2, 0, 1, 14, 3], false⟩])
    (.cond (.t 64) (.seq (.ops false [⟨(.some 4), Option.none, (.mv (.c (.v (.bool false)))), 4, [], false⟩]) .ret) .skip)) c57_2))
def c57 : C := (.seq (.ops false [⟨(.some 2), Option.none, (.box 6 (.t 0)), 2, [], false⟩, ⟨(.some 3), Option.none, (.box 5 (.t 1)), 3, [], false⟩, ⟨(.some 4), Option.none,
    (.mv (.c (.v (.bool false)))), 4, [], false⟩]) (.seq (.ops false [⟨(.some 7), Option.none, (.call 90 []), 7, [], false⟩, ⟨(.some 5), Option.none, (.mv (.t 7)), 5, [], false⟩])
    (.seq (.seq (.ops false [⟨(.some 8), Option.none, (.fa 0 (.t 3)), 8, [], false⟩, ⟨(.some 9), Option.none, (.ld 1 false (.t 8)), 9, [], false⟩, ⟨(.some 10), Option.none,
    (.bin .lss (.t 9) (.c (.v (.int .i64 1)))), 10, [], false⟩, ⟨(.some 11), Option.none, (.mv (.t 10)), 11, [], false⟩, ⟨(.some 12), (.some (11, false)), (.fa 0 (.t 3)), 12, [],
    false⟩, ⟨(.some 13), (.some (11, false)), (.ld 1 false (.t 12)), 13, [], false⟩, ⟨(.some 14), (.some (11, false)), (.mv (.t 5)), 14, [], false⟩, ⟨(.some 15), (.some (11, false)),
    (.len (.t 14)), 15, [], false⟩, ⟨(.some 16), (.some (11, false)), (.bin .geq (.t 13) (.t 15)), 16, [], false⟩, ⟨(.some 17), Option.none, (.pick (.t 11) (.c (.v (.bool true)))
    (.t 16)), 17, [], false⟩, ⟨(.some 18), Option.none, (.mv (.t 17)), 18, [], false⟩, ⟨(.some 19), (.some (18, false)), (.fa 3 (.t 3)), 19, [], false⟩, ⟨(.some 20), (.some (18,
    false)), (.ld 1 false (.t 19)), 20, [], false⟩, ⟨(.some 21), (.some (18, false)), (.bin .lss (.t 20) (.c (.v (.int .i64 0)))), 21, [], false⟩, ⟨(.some 22), Option.none,
    (.pick (.t 18) (.c (.v (.bool true))) (.t 21)), 22, [], false⟩, ⟨(.some 23), Option.none, (.mv (.t 22)), 23, [], false⟩, ⟨(.some 24), (.some (23, false)), (.fa 4 (.t 3)), 24, [],
    false⟩, ⟨(.some 25), (.some (23, false)), (.ld 1 false (.t 24)), 25, [], false⟩, ⟨(.some 26), (.some (23, false)), (.fa 3 (.t 3)), 26, [], false⟩, ⟨(.some 27), (.some (23, false)),
    (.ld 1 false (.t 26)), 27, [], false⟩, ⟨(.some 28), (.some (23, false)), (.bin .lss (.t 25) (.t 27)), 28, [], false⟩, ⟨(.some 29), Option.none, (.pick (.t 23)
    (.c (.v (.bool true))) (.t 28)), 29, [], false⟩, ⟨(.some 30), Option.none, (.mv (.t 29)), 30, [], false⟩, ⟨(.some 31), (.some (30, false)), (.fa 4 (.t 3)), 31, [], false⟩,
    ⟨(.some 32), (.some (30, false)), (.ld 1 false (.t 31)), 32, [], false⟩, ⟨(.some 33), (.some (30, false)), (.bin .gtr (.t 32) (.c (.v (.int .i64 1099511627776)))), 33, [], false⟩,
    ⟨(.some 34), Option.none, (.pick (.t 30) (.c (.v (.bool true))) (.t 33)), 34, [], false⟩]) (.cond (.t 34) (.seq (.ops false [⟨(.some 4), Option.none, (.mv (.c (.v (.bool false)))),
    4, [], false⟩]) .ret) .skip)) c57_3)))
def r57 : List RV := [(.tmp 4)]
theorem c57_ok : ∃ code, Try.f57.body = some code ∧ compC Try.prog Try.f57.ntmps code = some (C.strip c57) := ⟨_, rfl, by kernel_rfl⟩
theorem r57_ok : compRes Try.prog Try.f57.results.toList = some r57 := by kernel_rfl
theorem f57_ok : fnOk Try.prog 57 = true := by kernel_rfl
def c90 : C := (.seq (.ops false [⟨(.some 0), Option.none, (.mv (.c .mt)), 0, [], false⟩]) (.seq (.ops false [⟨(.some 1), Option.none, (.bsl 1 5 [(.v (.int .i64 0))] [(1,
    (.c (.v (.int .i64 1)))), (2, (.c (.v (.int .i64 2)))), (3, (.c (.v (.int .i64 2)))), (4, (.c (.v (.int .i64 3))))]), 1, [], false⟩, ⟨(.some 0), Option.none, (.mv (.t 1)), 0, [],
    false⟩]) .ret))
def r90 : List RV := [(.tmp 0)]
theorem c90_ok : ∃ code, Try.f90.body = some code ∧ compC Try.prog Try.f90.ntmps code = some (C.strip c90) := ⟨_, rfl, by kernel_rfl⟩
theorem r90_ok : compRes Try.prog Try.f90.results.toList = some r90 := by kernel_rfl
theorem f90_ok : fnOk Try.prog 90 = true := by kernel_rfl
end Go.Proofs.Ytiaenojpbiahgaa
