/- Compiled code of some functions (printed by a program), each checked by the kernel. -/
import Derived.Test.YtiaenojpbiahgaaV3
import Derived.Test.YtiaenojpbiahgaaProg
namespace Go.Proofs.Ytiaenojpbiahgaa
open Go
set_option maxRecDepth 100000
def c14 : C := (.seq (.ops false [⟨(.some 2), Option.none, (.mv (.c (.v (.pointer Option.none)))), 2, [], false⟩]) (.seq (.ops false [⟨(.some 3), Option.none, (.mv (.t 0)), 3, [], false⟩,
    ⟨(.some 4), Option.none, (.mv (.t 0)), 4, [], false⟩, ⟨(.some 5), Option.none, (.len (.t 4)), 5, [], false⟩, ⟨(.some 6), Option.none, (.mnx false (.t 5)
    (.c (.v (.int .i64 2000)))), 6, [], false⟩, ⟨(.some 7), Option.none, (.slc 1 (.t 3) Option.none (.some (.t 6))), 7, [], false⟩, ⟨(.some 8), Option.none, (.bld [.mt,
    (.v (.int .i64 0))] [(0, (1, (.t 7)))]), 8, [], false⟩, ⟨(.some 9), Option.none, (.box 2 (.t 8)), 9, [], false⟩, ⟨(.some 2), Option.none, (.mv (.t 9)), 2, [], false⟩]) .ret))
def r14 : List RV := [(.tmp 2)]
theorem c14_ok : ∃ code, Try.f14.body = some code ∧ compC Try.prog Try.f14.ntmps code = some (C.strip c14) := ⟨_, rfl, by kernel_rfl⟩
theorem r14_ok : compRes Try.prog Try.f14.results.toList = some r14 := by kernel_rfl
theorem f14_ok : fnOk Try.prog 14 = true := by kernel_rfl
def c15_1 : C := (.seq (.block 1 (.ops true [⟨(.some 23), Option.none, (.fa 0 (.t 3)), 23, [], false⟩, ⟨(.some 24), Option.none, (.ld 1 false (.t 23)), 24, [0], false⟩, ⟨(.some 25), Option.none,
    (.fa 0 (.t 3)), 25, [], false⟩, ⟨(.some 26), Option.none, (.ld 1 false (.t 25)), 26, [2], false⟩, ⟨(.some 27), Option.none, (.len (.t 26)), 27, [2, 3], false⟩, ⟨(.some 28),
    Option.none, (.call 46 [(.c (.v (.string ({ data := #[110] })))), (.t 27)]), 28, [3, 2, 4], true⟩, ⟨(.some 29), Option.none, (.bsl 1 1 [(.v (.string ({ data := #[] })))] [(0,
    (.t 28))]), 29, [4, 2, 3, 5], false⟩, ⟨(.some 30), Option.none, (.app 1 16 (.t 24) (.t 29)), 30, [3, 2, 4, 0, 5, 6, 1], false⟩, ⟨(.some 31), Option.none, (.fa 0 (.t 3)), 31, [7, 6,
    5, 4, 3, 2, 1, 0], false⟩, ⟨Option.none, Option.none, (.st 1 (.t 31) (.t 30)), 0, [6, 5, 4, 3, 2, 1, 0, 7, 8], false⟩])) (.ops false [⟨(.some 21), Option.none, (.mv (.t 4)), 21,
    [], false⟩, ⟨(.some 22), Option.none, (.bin .sub (.t 21) (.c (.v (.int .i64 1)))), 22, [], false⟩, ⟨(.some 4), Option.none, (.mv (.t 22)), 4, [], false⟩]))
def c15_2 : C := (.seq (.seq (.ops false [⟨(.some 19), Option.none, (.mv (.t 4)), 19, [], false⟩, ⟨(.some 20), Option.none, (.bin .gtr (.t 19) (.c (.v (.int .i64 0)))), 20, [], false⟩])
    (.cond (.t 20) .skip (.exit 0))) c15_1)
def c15_3 : C := (.seq (.block 3 (.ops true [⟨(.some 41), Option.none, (.fa 1 (.t 3)), 41, [], false⟩, ⟨(.some 42), Option.none, (.ld 1 false (.t 41)), 42, [0], false⟩, ⟨(.some 43), Option.none,
    (.mv (.t 0)), 43, [], false⟩, ⟨(.some 44), Option.none, (.fa 1 (.t 3)), 44, [], false⟩, ⟨(.some 45), Option.none, (.ld 1 false (.t 44)), 45, [3], false⟩, ⟨(.some 46), Option.none,
    (.len (.t 45)), 46, [3, 4], false⟩, ⟨(.some 47), Option.none, (.mv (.t 6)), 47, [], false⟩, ⟨(.some 48), Option.none, (.mv (.t 6)), 48, [], false⟩, ⟨(.some 49), Option.none,
    (.bin .add (.t 48) (.c (.v (.int .i64 1)))), 49, [7], false⟩, ⟨(.some 50), Option.none, (.call 47 [(.t 43), (.t 46), (.t 47), (.t 49)]), 50, [7, 4, 3, 8, 6, 5, 2], false⟩,
    ⟨(.some 51), Option.none, (.bsl 7 1 [(.v (.string ({ data := #[] }))), (.v (.int .i64 0)), (.v (.int .i64 0)), (.v (.int .i64 0)), (.v (.int .i64 0)), (.v (.int .i64 0)), .mt] [(0,
    (.t 50))]), 51, [2, 5, 6, 8, 3, 4, 7, 9], false⟩, ⟨(.some 52), Option.none, (.app 7 80 (.t 42) (.t 51)), 52, [7, 4, 3, 8, 6, 5, 2, 0, 9, 10, 1], false⟩, ⟨(.some 53), Option.none,
    (.fa 1 (.t 3)), 53, [11, 10, 9, 8, 7, 6, 5, 4, 3, 2, 1, 0], false⟩, ⟨Option.none, Option.none, (.st 1 (.t 53) (.t 52)), 0, [10, 9, 8, 7, 6, 5, 4, 3, 2, 1, 0, 11, 12], false⟩]))
    (.ops false [⟨(.some 39), Option.none, (.mv (.t 6)), 39, [], false⟩, ⟨(.some 40), Option.none, (.bin .add (.t 39) (.c (.v (.int .i64 1)))), 40, [], false⟩, ⟨(.some 6), Option.none,
    (.mv (.t 40)), 6, [], false⟩]))
def c15_4 : C := (.seq (.seq (.ops false [⟨(.some 36), Option.none, (.mv (.t 6)), 36, [], false⟩, ⟨(.some 37), Option.none, (.mv (.t 5)), 37, [], false⟩, ⟨(.some 38), Option.none,
    (.bin .lss (.t 36) (.t 37)), 38, [], false⟩]) (.cond (.t 38) .skip (.exit 2))) c15_3)
def c15_5 : C := (.seq (.block 5 (.seq (.ops false [⟨(.some 60), Option.none, (.mv (.t 0)), 60, [], false⟩, ⟨(.some 61), Option.none, (.mv (.t 5)), 61, [], false⟩, ⟨(.some 62), Option.none,
    (.call 48 [(.t 60), (.t 61)]), 62, [], true⟩, ⟨(.some 8), Option.none, (.mv (.t 62)), 8, [], false⟩]) (.ops true [⟨(.some 63), Option.none, (.fa 1 (.t 3)), 63, [], false⟩,
    ⟨(.some 64), Option.none, (.ld 1 false (.t 63)), 64, [0], false⟩, ⟨(.some 65), Option.none, (.mv (.t 0)), 65, [], false⟩, ⟨(.some 66), Option.none, (.fa 1 (.t 3)), 66, [], false⟩,
    ⟨(.some 67), Option.none, (.ld 1 false (.t 66)), 67, [3], false⟩, ⟨(.some 68), Option.none, (.len (.t 67)), 68, [3, 4], false⟩, ⟨(.some 69), Option.none, (.mv (.t 8)), 69, [],
    false⟩, ⟨(.some 70), Option.none, (.mv (.t 0)), 70, [], false⟩, ⟨(.some 71), Option.none, (.mv (.t 8)), 71, [], false⟩, ⟨(.some 72), Option.none, (.bin .add (.t 71)
    (.c (.v (.int .i64 1)))), 72, [8], false⟩, ⟨(.some 73), Option.none, (.mv (.t 5)), 73, [], false⟩, ⟨(.some 74), Option.none, (.call 43 [(.t 70), (.t 72), (.t 73)]), 74, [8, 10, 9,
    7], true⟩, ⟨(.some 75), Option.none, (.call 47 [(.t 65), (.t 68), (.t 69), (.t 74)]), 75, [7, 9, 10, 8, 4, 3, 11, 6, 5, 2], false⟩, ⟨(.some 76), Option.none,
    (.bsl 7 1 [(.v (.string ({ data := #[] }))), (.v (.int .i64 0)), (.v (.int .i64 0)), (.v (.int .i64 0)), (.v (.int .i64 0)), (.v (.int .i64 0)), .mt] [(0, (.t 75))]), 76, [2, 5, 6,
    11, 3, 4, 8, 10, 9, 7, 12], false⟩, ⟨(.some 77), Option.none, (.app 7 80 (.t 64) (.t 76)), 77, [7, 9, 10, 8, 4, 3, 11, 6, 5, 2, 0, 12, 13, 1], false⟩, ⟨(.some 78), Option.none,
    (.fa 1 (.t 3)), 78, [14, 13, 12, 11, 10, 9, 8, 7, 6, 5, 4, 3, 2, 1, 0], false⟩, ⟨Option.none, Option.none, (.st 1 (.t 78) (.t 77)), 0, [13, 12, 11, 10, 9, 8, 7, 6, 5, 4, 3, 2, 1,
    0, 14, 15], false⟩]))) (.ops false [⟨(.some 58), Option.none, (.mv (.t 7)), 58, [], false⟩, ⟨(.some 59), Option.none, (.bin .sub (.t 58) (.c (.v (.int .i64 1)))), 59, [], false⟩,
    ⟨(.some 7), Option.none, (.mv (.t 59)), 7, [], false⟩]))
def c15_6 : C := (.seq (.seq (.ops false [⟨(.some 56), Option.none, (.mv (.t 7)), 56, [], false⟩, ⟨(.some 57), Option.none, (.bin .gtr (.t 56) (.c (.v (.int .i64 0)))), 57, [], false⟩])
    (.cond (.t 57) .skip (.exit 4))) c15_5)
def c15_7 : C := (.seq (.ops false [⟨(.some 110), Option.none, (.mv (.t 9)), 110, [], false⟩, ⟨(.some 111), Option.none, (.mv (.t 5)), 111, [], false⟩, ⟨(.some 112), Option.none,
    (.bin .lss (.t 110) (.t 111)), 112, [], false⟩, ⟨(.some 113), Option.none, (.mv (.t 112)), 113, [], false⟩, ⟨(.some 114), (.some (113, true)), (.mv (.t 0)), 114, [], false⟩,
    ⟨(.some 115), (.some (113, true)), (.call 48 [(.t 114), (.c (.v (.int .i64 3)))]), 115, [], true⟩, ⟨(.some 116), (.some (113, true)), (.bin .eql (.t 115) (.c (.v (.int .i64 0)))),
    116, [], false⟩, ⟨(.some 117), Option.none, (.pick (.t 113) (.t 116) (.c (.v (.bool false)))), 117, [], false⟩]) (.cond (.t 117) (.ops true [⟨(.some 118), Option.none,
    (.fa 3 (.t 3)), 118, [], false⟩, ⟨(.some 119), Option.none, (.ld 1 false (.t 118)), 119, [0], false⟩, ⟨(.some 120), Option.none, (.fa 3 (.t 3)), 120, [], false⟩, ⟨(.some 121),
    Option.none, (.ld 1 false (.t 120)), 121, [2], false⟩, ⟨(.some 122), Option.none, (.len (.t 121)), 122, [2, 3], false⟩, ⟨(.some 123), Option.none,
    (.call 46 [(.c (.v (.string ({ data := #[115] })))), (.t 122)]), 123, [3, 2, 4], true⟩, ⟨(.some 124), Option.none, (.mv (.t 9)), 124, [], false⟩, ⟨(.some 125), Option.none,
    (.mv (.t 0)), 125, [], false⟩, ⟨(.some 126), Option.none, (.bsl 1 3 [(.v (.int .i64 0))] [(0, (.c (.v (.int .i64 500000)))), (1, (.c (.v (.int .i64 2000000)))), (2,
    (.c (.v (.int .i64 0))))]), 126, [], false⟩, ⟨(.some 127), Option.none, (.call 45 [(.t 125), (.t 126)]), 127, [4, 2, 3, 5, 8, 7], true⟩, ⟨(.some 128), Option.none, (.mv (.t 0)),
    128, [], false⟩, ⟨(.some 129), Option.none, (.bsl 1 3 [(.v (.int .i64 0))] [(0, (.c (.v (.int .i64 0)))), (1, (.c (.v (.int .i64 200)))), (2, (.c (.v (.int .i64 100000))))]), 129,
    [], false⟩, ⟨(.some 130), Option.none, (.call 45 [(.t 128), (.t 129)]), 130, [7, 8, 5, 3, 2, 4, 9, 11, 10], true⟩, ⟨(.some 131), Option.none, (.mv (.t 0)), 131, [], false⟩,
    ⟨(.some 132), Option.none, (.bsl 1 3 [(.v (.int .i64 0))] [(0, (.c (.v (.int .i64 0)))), (1, (.c (.v (.int .i64 100000)))), (2, (.c (.v (.int .i64 400000))))]), 132, [], false⟩,
    ⟨(.some 133), Option.none, (.call 45 [(.t 131), (.t 132)]), 133, [10, 11, 9, 4, 2, 3, 5, 8, 7, 12, 14, 13], true⟩, ⟨(.some 134), Option.none, (.bld [(.v (.string ({ data := #[]
    }))), (.v (.int .i64 0)), (.v (.int .i64 0)), (.v (.int .i64 0)), (.v (.int .i64 0))] [(0, (1, (.t 123))), (1, (1, (.t 124))), (2, (1, (.t 127))), (3, (1, (.t 130))), (4, (1,
    (.t 133)))]), 134, [13, 14, 10, 11, 7, 8, 4, 2, 3, 15, 12, 9, 6, 5], false⟩, ⟨(.some 135), Option.none, (.bsl 5 1 [(.v (.string ({ data := #[] }))), (.v (.int .i64 0)),
    (.v (.int .i64 0)), (.v (.int .i64 0)), (.v (.int .i64 0))] [(0, (.t 134))]), 135, [5, 6, 9, 12, 15, 3, 2, 4, 8, 7, 11, 10, 14, 13, 16], false⟩, ⟨(.some 136), Option.none,
    (.app 5 48 (.t 119) (.t 135)), 136, [16, 13, 14, 10, 11, 7, 8, 4, 2, 3, 12, 9, 6, 5, 0, 15, 17, 1], false⟩, ⟨(.some 137), Option.none, (.fa 3 (.t 3)), 137, [18, 17, 16, 15, 14, 13,
    12, 11, 10, 9, 8, 7, 6, 5, 4, 3, 2, 1, 0], false⟩, ⟨Option.none, Option.none, (.st 1 (.t 137) (.t 136)), 0, [17, 16, 15, 14, 13, 12, 11, 10, 9, 8, 7, 6, 5, 4, 3, 2, 1, 0, 18, 19],
    false⟩]) .skip))
def c15_8 : C := (.ops false [⟨(.some 82), Option.none, (.mv (.t 9)), 82, [], false⟩, ⟨(.some 83), Option.none, (.bin .add (.t 82) (.c (.v (.int .i64 1)))), 83, [], false⟩, ⟨(.some 9), Option.none,
    (.mv (.t 83)), 9, [], false⟩])
def c15_9 : C := (.seq (.block 7 (.seq (.seq (.ops false [⟨(.some 84), Option.none, (.mv (.t 9)), 84, [], false⟩, ⟨(.some 85), Option.none, (.bin .eql (.t 84) (.c (.v (.int .i64 0)))), 85, [],
    false⟩, ⟨(.some 86), Option.none, (.mv (.t 85)), 86, [], false⟩, ⟨(.some 87), (.some (86, false)), (.mv (.t 9)), 87, [], false⟩, ⟨(.some 88), (.some (86, false)), (.mv (.t 5)), 88,
    [], false⟩, ⟨(.some 89), (.some (86, false)), (.bin .eql (.t 87) (.t 88)), 89, [], false⟩, ⟨(.some 90), Option.none, (.pick (.t 86) (.c (.v (.bool true))) (.t 89)), 90, [], false⟩,
    ⟨(.some 91), Option.none, (.mv (.t 90)), 91, [], false⟩, ⟨(.some 92), (.some (91, false)), (.mv (.t 0)), 92, [], false⟩, ⟨(.some 93), (.some (91, false)), (.call 48 [(.t 92),
    (.c (.v (.int .i64 2)))]), 93, [], true⟩, ⟨(.some 94), (.some (91, false)), (.bin .eql (.t 93) (.c (.v (.int .i64 0)))), 94, [], false⟩, ⟨(.some 95), Option.none, (.pick (.t 91)
    (.c (.v (.bool true))) (.t 94)), 95, [], false⟩]) (.cond (.t 95) (.ops true [⟨(.some 96), Option.none, (.fa 2 (.t 3)), 96, [], false⟩, ⟨(.some 97), Option.none,
    (.ld 1 false (.t 96)), 97, [0], false⟩, ⟨(.some 98), Option.none, (.fa 2 (.t 3)), 98, [], false⟩, ⟨(.some 99), Option.none, (.ld 1 false (.t 98)), 99, [2], false⟩, ⟨(.some 100),
    Option.none, (.len (.t 99)), 100, [2, 3], false⟩, ⟨(.some 101), Option.none, (.call 46 [(.c (.v (.string ({ data := #[113] })))), (.t 100)]), 101, [3, 2, 4], true⟩, ⟨(.some 102),
    Option.none, (.mv (.t 9)), 102, [], false⟩, ⟨(.some 103), Option.none, (.mv (.t 0)), 103, [], false⟩, ⟨(.some 104), Option.none, (.bsl 1 4 [(.v (.int .i64 0))] [(0,
    (.c (.v (.int .i64 300000)))), (1, (.c (.v (.int .i64 1000000)))), (2, (.c (.v (.int .i64 0)))), (3, (.c (.v (.int .i64 5000000))))]), 104, [], false⟩, ⟨(.some 105), Option.none,
    (.call 45 [(.t 103), (.t 104)]), 105, [4, 2, 3, 5, 8, 7], true⟩, ⟨(.some 106), Option.none, (.bld [(.v (.string ({ data := #[] }))), (.v (.int .i64 0)), (.v (.int .i64 0))] [(0,
    (1, (.t 101))), (1, (1, (.t 102))), (2, (1, (.t 105)))]), 106, [7, 8, 4, 2, 3, 9, 6, 5], false⟩, ⟨(.some 107), Option.none, (.bsl 3 1 [(.v (.string ({ data := #[] }))),
    (.v (.int .i64 0)), (.v (.int .i64 0))] [(0, (.t 106))]), 107, [5, 6, 9, 3, 2, 4, 8, 7, 10], false⟩, ⟨(.some 108), Option.none, (.app 3 32 (.t 97) (.t 107)), 108, [10, 7, 8, 4, 2,
    3, 6, 5, 0, 9, 11, 1], false⟩, ⟨(.some 109), Option.none, (.fa 2 (.t 3)), 109, [12, 11, 10, 9, 8, 7, 6, 5, 4, 3, 2, 1, 0], false⟩, ⟨Option.none, Option.none, (.st 1 (.t 109)
    (.t 108)), 0, [11, 10, 9, 8, 7, 6, 5, 4, 3, 2, 1, 0, 12, 13], false⟩]) .skip)) c15_7)) c15_8)
def c15_10 : C := (.seq (.seq (.ops false [⟨(.some 79), Option.none, (.mv (.t 9)), 79, [], false⟩, ⟨(.some 80), Option.none, (.mv (.t 5)), 80, [], false⟩, ⟨(.some 81), Option.none,
    (.bin .leq (.t 79) (.t 80)), 81, [], false⟩]) (.cond (.t 81) .skip (.exit 6))) c15_9)
def c15_11 : C := (.seq (.ops false [⟨(.some 138), Option.none, (.ld 6 true (.t 3)), 138, [], false⟩, ⟨Option.none, Option.none, (.st 6 (.t 2) (.t 138)), 0, [], false⟩]) .ret)
def c15_12 : C := (.seq (.seq (.ops false [⟨(.some 9), Option.none, (.mv (.c (.v (.int .i64 0)))), 9, [], false⟩]) (.block 6 (.loop c15_10))) c15_11)
def c15_13 : C := (.seq (.seq (.ops false [⟨(.some 54), Option.none, (.mv (.t 0)), 54, [], false⟩, ⟨(.some 55), Option.none, (.call 48 [(.t 54), (.c (.v (.int .i64 4)))]), 55, [], true⟩, ⟨(.some 7),
    Option.none, (.mv (.t 55)), 7, [], false⟩]) (.block 4 (.loop c15_6))) (.weak c15_12))
def c15_14 : C := (.seq (.ops false [⟨(.some 32), Option.none, (.fa 0 (.t 3)), 32, [], false⟩, ⟨(.some 33), Option.none, (.ld 1 false (.t 32)), 33, [], false⟩, ⟨(.some 34), Option.none,
    (.len (.t 33)), 34, [], false⟩, ⟨(.some 35), Option.none, (.bin .sub (.t 34) (.c (.v (.int .i64 1)))), 35, [], false⟩, ⟨(.some 5), Option.none, (.mv (.t 35)), 5, [], false⟩])
    (.seq (.seq (.ops false [⟨(.some 6), Option.none, (.mv (.c (.v (.int .i64 0)))), 6, [], false⟩]) (.block 2 (.loop c15_4))) (.weak c15_13)))
def c15 : C := (.seq (.ops false [⟨(.some 2), Option.none, (.new [.mt, .mt, .mt, .mt, (.v (.int .i64 0)), (.v (.int .i64 0))]), 2, [], false⟩]) (.seq (.ops false [⟨(.some 10), Option.none,
    (.mv (.t 0)), 10, [], false⟩, ⟨(.some 11), Option.none, (.bsl 1 3 [(.v (.int .i64 0))] [(0, (.c (.v (.int .i64 (-100000))))), (1, (.c (.v (.int .i64 0)))), (2,
    (.c (.v (.int .i64 50000))))]), 11, [], false⟩, ⟨(.some 12), Option.none, (.call 45 [(.t 10), (.t 11)]), 12, [], true⟩, ⟨(.some 13), Option.none, (.mv (.t 0)), 13, [], false⟩,
    ⟨(.some 14), Option.none, (.bsl 1 4 [(.v (.int .i64 0))] [(0, (.c (.v (.int .i64 0)))), (1, (.c (.v (.int .i64 1)))), (2, (.c (.v (.int .i64 5)))), (3,
    (.c (.v (.int .i64 100))))]), 14, [], false⟩, ⟨(.some 15), Option.none, (.call 45 [(.t 13), (.t 14)]), 15, [], true⟩, ⟨(.some 16), Option.none, (.bld [.mt, .mt, .mt, .mt,
    (.v (.int .i64 0)), (.v (.int .i64 0))] [(4, (1, (.t 12))), (5, (1, (.t 15)))]), 16, [], false⟩, ⟨(.some 3), Option.none, (.new [.mt, .mt, .mt, .mt, (.v (.int .i64 0)),
    (.v (.int .i64 0))]), 3, [], false⟩, ⟨Option.none, Option.none, (.st 6 (.t 3) (.t 16)), 0, [], false⟩]) (.seq (.seq (.ops false [⟨(.some 17), Option.none, (.mv (.t 0)), 17, [],
    false⟩, ⟨(.some 18), Option.none, (.call 43 [(.t 17), (.c (.v (.int .i64 2))), (.c (.v (.int .i64 6)))]), 18, [], true⟩, ⟨(.some 4), Option.none, (.mv (.t 18)), 4, [], false⟩])
    (.block 0 (.loop c15_2))) (.weak c15_14))))
def r15 : List RV := [(.cell 2 6 true)]
theorem c15_ok : ∃ code, Try.f15.body = some code ∧ compC Try.prog Try.f15.ntmps code = some (C.strip c15) := ⟨_, rfl, by kernel_rfl⟩
theorem r15_ok : compRes Try.prog Try.f15.results.toList = some r15 := by kernel_rfl
theorem f15_ok : fnOk Try.prog 15 = true := by kernel_rfl
def c43 : C := (.seq (.ops false [⟨(.some 6), Option.none, (.mv (.c (.v (.int .i64 0)))), 6, [], false⟩]) (.seq (.ops false [⟨(.some 7), Option.none, (.mv (.t 1)), 7, [], false⟩, ⟨(.some 8),
    Option.none, (.mv (.t 0)), 8, [], false⟩, ⟨(.some 9), Option.none, (.mv (.t 2)), 9, [], false⟩, ⟨(.some 10), Option.none, (.mv (.t 1)), 10, [], false⟩, ⟨(.some 11), Option.none,
    (.bin .sub (.t 9) (.t 10)), 11, [], false⟩, ⟨(.some 12), Option.none, (.bin .add (.t 11) (.c (.v (.int .i64 1)))), 12, [], false⟩, ⟨(.some 13), Option.none, (.call 48 [(.t 8),
    (.t 12)]), 13, [], true⟩, ⟨(.some 14), Option.none, (.bin .add (.t 7) (.t 13)), 14, [], false⟩, ⟨(.some 6), Option.none, (.mv (.t 14)), 6, [], false⟩]) .ret))
def r43 : List RV := [(.tmp 6)]
theorem c43_ok : ∃ code, Try.f43.body = some code ∧ compC Try.prog Try.f43.ntmps code = some (C.strip c43) := ⟨_, rfl, by kernel_rfl⟩
theorem r43_ok : compRes Try.prog Try.f43.results.toList = some r43 := by kernel_rfl
theorem f43_ok : fnOk Try.prog 43 = true := by kernel_rfl
def c45 : C := (.seq (.ops false [⟨(.some 4), Option.none, (.mv (.c (.v (.int .i64 0)))), 4, [], false⟩]) (.seq (.ops false [⟨(.some 5), Option.none, (.mv (.t 1)), 5, [], false⟩, ⟨(.some 6),
    Option.none, (.mv (.t 0)), 6, [], false⟩, ⟨(.some 7), Option.none, (.mv (.t 1)), 7, [], false⟩, ⟨(.some 8), Option.none, (.len (.t 7)), 8, [], false⟩, ⟨(.some 9), Option.none,
    (.call 48 [(.t 6), (.t 8)]), 9, [], true⟩, ⟨(.some 10), Option.none, (.iaS 1 (.t 5) (.t 9)), 10, [], false⟩, ⟨(.some 11), Option.none, (.ld 1 false (.t 10)), 11, [], false⟩,
    ⟨(.some 4), Option.none, (.mv (.t 11)), 4, [], false⟩]) .ret))
def r45 : List RV := [(.tmp 4)]
theorem c45_ok : ∃ code, Try.f45.body = some code ∧ compC Try.prog Try.f45.ntmps code = some (C.strip c45) := ⟨_, rfl, by kernel_rfl⟩
theorem r45_ok : compRes Try.prog Try.f45.results.toList = some r45 := by kernel_rfl
theorem f45_ok : fnOk Try.prog 45 = true := by kernel_rfl
def c46 : C := (.seq (.ops false [⟨(.some 4), Option.none, (.mv (.c (.v (.string ({ data := #[] }))))), 4, [], false⟩]) (.seq (.ops false [⟨(.some 5), Option.none, (.mv (.t 0)), 5, [], false⟩,
    ⟨(.some 6), Option.none, (.mv (.t 1)), 6, [], false⟩, ⟨(.some 7), Option.none, (.bin .rem (.t 6) (.c (.v (.int .i64 26)))), 7, [], false⟩, ⟨(.some 8), Option.none,
    (.bin .add (.c (.v (.int .i64 97))) (.t 7)), 8, [], false⟩, ⟨(.some 9), Option.none, (.cvi .u8 (.t 8)), 9, [], false⟩, ⟨(.some 10), Option.none, (.bsl 1 1 [(.v (.int .u8 0))] [(0,
    (.t 9))]), 10, [], false⟩, ⟨(.some 11), Option.none, (.bts (.t 10)), 11, [], false⟩, ⟨(.some 12), Option.none, (.bin .add (.t 5) (.t 11)), 12, [], false⟩, ⟨(.some 4), Option.none,
    (.mv (.t 12)), 4, [], false⟩]) .ret))
def r46 : List RV := [(.tmp 4)]
theorem c46_ok : ∃ code, Try.f46.body = some code ∧ compC Try.prog Try.f46.ntmps code = some (C.strip c46) := ⟨_, rfl, by kernel_rfl⟩
theorem r46_ok : compRes Try.prog Try.f46.results.toList = some r46 := by kernel_rfl
theorem f46_ok : fnOk Try.prog 46 = true := by kernel_rfl
def c47_1 : C := (.ops true [⟨(.some 60), Option.none, (.fa 6 (.t 9)), 60, [], false⟩, ⟨(.some 61), Option.none, (.ld 1 false (.t 60)), 61, [0], false⟩, ⟨(.some 62), Option.none, (.mv (.t 11)), 62,
    [], false⟩, ⟨(.some 63), Option.none, (.mv (.t 0)), 63, [], false⟩, ⟨(.some 64), Option.none, (.call 43 [(.t 63), (.c (.v (.int .i64 (-5)))), (.c (.v (.int .i64 60)))]), 64, [3],
    true⟩, ⟨(.some 65), Option.none, (.mv (.t 0)), 65, [], false⟩, ⟨(.some 66), Option.none, (.bsl 1 3 [(.v (.int .i64 0))] [(0, (.c (.v (.int .i64 1)))), (1, (.c (.v (.int .i64 1)))),
    (2, (.c (.v (.int .i64 10))))]), 66, [], false⟩, ⟨(.some 67), Option.none, (.call 45 [(.t 65), (.t 66)]), 67, [3, 4, 6, 5], true⟩, ⟨(.some 68), Option.none, (.bin .mul (.t 64)
    (.t 67)), 68, [5, 6, 3, 7, 4], false⟩, ⟨(.some 69), Option.none, (.mv (.t 10)), 69, [], false⟩, ⟨(.some 70), Option.none, (.mv (.t 0)), 70, [], false⟩, ⟨(.some 71), Option.none,
    (.call 48 [(.t 70), (.c (.v (.int .i64 3)))]), 71, [5, 6, 4, 3, 7, 10], true⟩, ⟨(.some 72), Option.none, (.bin .mul (.t 71) (.c (.v (.int .i64 1000)))), 72, [10, 7, 3, 4, 6, 5,
    11], false⟩, ⟨(.some 73), Option.none, (.bin .sub (.t 69) (.t 72)), 73, [11, 5, 6, 4, 3, 7, 10, 12, 9], false⟩, ⟨(.some 74), Option.none, (.bld [(.v (.int .i64 0)),
    (.v (.int .i64 0)), (.v (.int .i64 0))] [(0, (1, (.t 62))), (1, (1, (.t 68))), (2, (1, (.t 73)))]), 74, [9, 12, 10, 11, 4, 7, 3, 6, 5, 13, 8, 2], false⟩, ⟨(.some 75), Option.none,
    (.bsl 3 1 [(.v (.int .i64 0)), (.v (.int .i64 0)), (.v (.int .i64 0))] [(0, (.t 74))]), 75, [2, 8, 13, 5, 6, 3, 7, 4, 11, 10, 12, 9, 14], false⟩, ⟨(.some 76), Option.none,
    (.app 3 24 (.t 61) (.t 75)), 76, [14, 9, 12, 10, 4, 7, 3, 6, 5, 13, 8, 2, 0, 11, 15, 1], false⟩, ⟨(.some 77), Option.none, (.fa 6 (.t 9)), 77, [16, 15, 14, 13, 12, 11, 10, 9, 8, 7,
    6, 5, 4, 3, 2, 1, 0], false⟩, ⟨Option.none, Option.none, (.st 1 (.t 77) (.t 76)), 0, [15, 14, 13, 12, 11, 10, 9, 8, 7, 6, 5, 4, 3, 2, 1, 0, 16, 17], false⟩])
def c47_2 : C := (.block 1 (.seq (.ops false [⟨(.some 52), Option.none, (.mv (.t 11)), 52, [], false⟩, ⟨(.some 53), Option.none, (.mv (.t 0)), 53, [], false⟩, ⟨(.some 54), Option.none,
    (.call 43 [(.t 53), (.c (.v (.int .i64 1))), (.c (.v (.int .i64 40)))]), 54, [], true⟩, ⟨(.some 55), Option.none, (.bin .add (.t 52) (.t 54)), 55, [], false⟩, ⟨(.some 11),
    Option.none, (.mv (.t 55)), 11, [], false⟩]) (.seq (.seq (.ops false [⟨(.some 56), Option.none, (.mv (.t 11)), 56, [], false⟩, ⟨(.some 57), Option.none, (.fa 3 (.t 9)), 57, [],
    false⟩, ⟨(.some 58), Option.none, (.ld 1 false (.t 57)), 58, [], false⟩, ⟨(.some 59), Option.none, (.bin .geq (.t 56) (.t 58)), 59, [], false⟩]) (.cond (.t 59) (.exit 0) .skip))
    c47_1)))
def c47_3 : C := (.seq (.seq (.ops false [⟨(.some 43), Option.none, (.fa 6 (.t 9)), 43, [], false⟩, ⟨(.some 44), Option.none, (.ld 1 false (.t 43)), 44, [], false⟩, ⟨(.some 45), Option.none,
    (.len (.t 44)), 45, [], false⟩, ⟨(.some 46), Option.none, (.bin .lss (.t 45) (.c (.v (.int .i64 7)))), 46, [], false⟩, ⟨(.some 47), Option.none, (.mv (.t 46)), 47, [], false⟩,
    ⟨(.some 48), (.some (47, true)), (.mv (.t 0)), 48, [], false⟩, ⟨(.some 49), (.some (47, true)), (.call 48 [(.t 48), (.c (.v (.int .i64 3)))]), 49, [], true⟩, ⟨(.some 50),
    (.some (47, true)), (.bin .gtr (.t 49) (.c (.v (.int .i64 0)))), 50, [], false⟩, ⟨(.some 51), Option.none, (.pick (.t 47) (.t 50) (.c (.v (.bool false)))), 51, [], false⟩])
    (.cond (.t 51) .skip (.exit 0))) c47_2)
def c47_4 : C := (.seq (.ops true [⟨(.some 78), Option.none, (.fa 6 (.t 9)), 78, [], false⟩, ⟨(.some 79), Option.none, (.ld 1 false (.t 78)), 79, [0], false⟩, ⟨(.some 80), Option.none,
    (.fa 3 (.t 9)), 80, [], false⟩, ⟨(.some 81), Option.none, (.ld 1 false (.t 80)), 81, [2], false⟩, ⟨(.some 82), Option.none, (.mv (.t 0)), 82, [], false⟩, ⟨(.some 83), Option.none,
    (.call 43 [(.t 82), (.c (.v (.int .i64 (-5)))), (.c (.v (.int .i64 30)))]), 83, [4], true⟩, ⟨(.some 84), Option.none, (.mv (.t 10)), 84, [], false⟩, ⟨(.some 85), Option.none,
    (.bld [(.v (.int .i64 0)), (.v (.int .i64 0)), (.v (.int .i64 0))] [(0, (1, (.t 81))), (1, (1, (.t 83))), (2, (1, (.t 84)))]), 85, [4, 2, 6, 5, 3], false⟩, ⟨(.some 86),
    Option.none, (.bsl 3 1 [(.v (.int .i64 0)), (.v (.int .i64 0)), (.v (.int .i64 0))] [(0, (.t 85))]), 86, [3, 5, 6, 2, 4, 7], false⟩, ⟨(.some 87), Option.none, (.app 3 24 (.t 79)
    (.t 86)), 87, [7, 4, 2, 6, 3, 0, 5, 8, 1], false⟩, ⟨(.some 88), Option.none, (.fa 6 (.t 9)), 88, [9, 8, 7, 6, 5, 4, 3, 2, 1, 0], false⟩, ⟨Option.none, Option.none, (.st 1 (.t 88)
    (.t 87)), 0, [8, 7, 6, 5, 4, 3, 2, 1, 0, 9, 10], false⟩]) (.seq (.ops false [⟨(.some 89), Option.none, (.ld 7 true (.t 9)), 89, [], false⟩, ⟨Option.none, Option.none, (.st 7 (.t 8)
    (.t 89)), 0, [], false⟩]) .ret))
def c47_5 : C := (.seq (.ops false [⟨(.some 17), Option.none, (.mv (.t 1)), 17, [], false⟩, ⟨(.some 18), Option.none, (.call 46 [(.c (.v (.string ({ data := #[103] })))), (.t 17)]), 18, [], true⟩,
    ⟨(.some 19), Option.none, (.mv (.t 2)), 19, [], false⟩, ⟨(.some 20), Option.none, (.mv (.t 3)), 20, [], false⟩, ⟨(.some 21), Option.none, (.mv (.t 0)), 21, [], false⟩, ⟨(.some 22),
    Option.none, (.bsl 1 7 [(.v (.int .i64 0))] [(0, (.c (.v (.int .i64 1)))), (1, (.c (.v (.int .i64 2)))), (2, (.c (.v (.int .i64 7)))), (3, (.c (.v (.int .i64 20)))), (4,
    (.c (.v (.int .i64 60)))), (5, (.c (.v (.int .i64 200)))), (6, (.c (.v (.int .i64 1000))))]), 22, [], false⟩, ⟨(.some 23), Option.none, (.call 45 [(.t 21), (.t 22)]), 23, [],
    true⟩, ⟨(.some 24), Option.none, (.mv (.t 0)), 24, [], false⟩, ⟨(.some 25), Option.none, (.bsl 1 4 [(.v (.int .i64 0))] [(0, (.c (.v (.int .i64 0)))), (1, (.c (.v (.int .i64 1)))),
    (2, (.c (.v (.int .i64 5)))), (3, (.c (.v (.int .i64 1000))))]), 25, [], false⟩, ⟨(.some 26), Option.none, (.call 45 [(.t 24), (.t 25)]), 26, [], true⟩, ⟨(.some 27), Option.none,
    (.mv (.t 0)), 27, [], false⟩, ⟨(.some 28), Option.none, (.bsl 1 4 [(.v (.int .i64 0))] [(0, (.c (.v (.int .i64 0)))), (1, (.c (.v (.int .i64 50)))), (2,
    (.c (.v (.int .i64 1000)))), (3, (.c (.v (.int .i64 100000))))]), 28, [], false⟩, ⟨(.some 29), Option.none, (.call 45 [(.t 27), (.t 28)]), 29, [], true⟩, ⟨(.some 30), Option.none,
    (.bld [(.v (.string ({ data := #[] }))), (.v (.int .i64 0)), (.v (.int .i64 0)), (.v (.int .i64 0)), (.v (.int .i64 0)), (.v (.int .i64 0)), .mt] [(0, (1, (.t 18))), (1, (1,
    (.t 19))), (2, (1, (.t 20))), (3, (1, (.t 23))), (4, (1, (.t 26))), (5, (1, (.t 29)))]), 30, [], false⟩, ⟨(.some 9), Option.none, (.new [(.v (.string ({ data := #[] }))),
    (.v (.int .i64 0)), (.v (.int .i64 0)), (.v (.int .i64 0)), (.v (.int .i64 0)), (.v (.int .i64 0)), .mt]), 9, [], false⟩, ⟨Option.none, Option.none, (.st 7 (.t 9) (.t 30)), 0, [],
    false⟩]) (.seq (.ops false [⟨(.some 31), Option.none, (.mv (.t 0)), 31, [], false⟩, ⟨(.some 32), Option.none, (.bsl 1 3 [(.v (.int .i64 0))] [(0, (.c (.v (.int .i64 1000000)))),
    (1, (.c (.v (.int .i64 6000000)))), (2, (.c (.v (.int .i64 100000000))))]), 32, [], false⟩, ⟨(.some 33), Option.none, (.call 45 [(.t 31), (.t 32)]), 33, [], true⟩, ⟨(.some 10),
    Option.none, (.mv (.t 33)), 10, [], false⟩]) (.seq (.ops true [⟨(.some 34), Option.none, (.fa 6 (.t 9)), 34, [], false⟩, ⟨(.some 35), Option.none, (.ld 1 false (.t 34)), 35, [0],
    false⟩, ⟨(.some 36), Option.none, (.mv (.t 0)), 36, [], false⟩, ⟨(.some 37), Option.none, (.call 43 [(.t 36), (.c (.v (.int .i64 (-5)))), (.c (.v (.int .i64 30)))]), 37, [2],
    true⟩, ⟨(.some 38), Option.none, (.mv (.t 10)), 38, [], false⟩, ⟨(.some 39), Option.none, (.bld [(.v (.int .i64 0)), (.v (.int .i64 0)), (.v (.int .i64 0))] [(1, (1, (.t 37))), (2,
    (1, (.t 38)))]), 39, [2, 4, 3], false⟩, ⟨(.some 40), Option.none, (.bsl 3 1 [(.v (.int .i64 0)), (.v (.int .i64 0)), (.v (.int .i64 0))] [(0, (.t 39))]), 40, [3, 4, 2, 5], false⟩,
    ⟨(.some 41), Option.none, (.app 3 24 (.t 35) (.t 40)), 41, [5, 2, 4, 0, 3, 6, 1], false⟩, ⟨(.some 42), Option.none, (.fa 6 (.t 9)), 42, [7, 6, 5, 4, 3, 2, 1, 0], false⟩,
    ⟨Option.none, Option.none, (.st 1 (.t 42) (.t 41)), 0, [6, 5, 4, 3, 2, 1, 0, 7, 8], false⟩]) (.seq (.seq (.ops false [⟨(.some 11), Option.none, (.mv (.c (.v (.int .i64 0)))), 11,
    [], false⟩]) (.block 0 (.loop c47_3))) c47_4))))
def c47 : C := (.seq (.ops false [⟨(.some 8), Option.none, (.new [(.v (.string ({ data := #[] }))), (.v (.int .i64 0)), (.v (.int .i64 0)), (.v (.int .i64 0)), (.v (.int .i64 0)),
    (.v (.int .i64 0)), .mt]), 8, [], false⟩]) (.seq (.seq (.ops false [⟨(.some 12), Option.none, (.mv (.t 0)), 12, [], false⟩, ⟨(.some 13), Option.none, (.call 48 [(.t 12),
    (.c (.v (.int .i64 4)))]), 13, [], true⟩, ⟨(.some 14), Option.none, (.bin .eql (.t 13) (.c (.v (.int .i64 0)))), 14, [], false⟩]) (.cond (.t 14) (.ops false [⟨(.some 15),
    Option.none, (.mv (.t 3)), 15, [], false⟩, ⟨(.some 16), Option.none, (.mv (.t 2)), 16, [], false⟩, ⟨(.some 2), Option.none, (.mv (.t 15)), 2, [], false⟩, ⟨(.some 3), Option.none,
    (.mv (.t 16)), 3, [], false⟩]) .skip)) (.weak c47_5)))
def r47 : List RV := [(.cell 8 7 true)]
theorem c47_ok : ∃ code, Try.f47.body = some code ∧ compC Try.prog Try.f47.ntmps code = some (C.strip c47) := ⟨_, rfl, by kernel_rfl⟩
theorem r47_ok : compRes Try.prog Try.f47.results.toList = some r47 := by kernel_rfl
theorem f47_ok : fnOk Try.prog 47 = true := by kernel_rfl
def c48 : C := (.seq (.ops false [⟨(.some 4), Option.none, (.mv (.c (.v (.int .i64 0)))), 4, [], false⟩]) (.seq (.ops false [⟨(.some 5), Option.none, (.mv (.t 0)), 5, [], false⟩, ⟨(.some 6),
    Option.none, (.call 78 [(.t 5)]), 6, [], true⟩, ⟨(.some 7), Option.none, (.mv (.t 1)), 7, [], false⟩, ⟨(.some 8), Option.none, (.call 52 [(.t 6), (.t 7)]), 8, [], true⟩,
    ⟨(.some 4), Option.none, (.mv (.t 8)), 4, [], false⟩]) .ret))
def r48 : List RV := [(.tmp 4)]
theorem c48_ok : ∃ code, Try.f48.body = some code ∧ compC Try.prog Try.f48.ntmps code = some (C.strip c48) := ⟨_, rfl, by kernel_rfl⟩
theorem r48_ok : compRes Try.prog Try.f48.results.toList = some r48 := by kernel_rfl
theorem f48_ok : fnOk Try.prog 48 = true := by kernel_rfl
def c52_1 : C := (.seq (.ops false [⟨(.some 15), Option.none, (.mv (.t 0)), 15, [], false⟩, ⟨(.some 4), Option.none, (.mv (.t 15)), 4, [], false⟩]) .ret)
def c52_2 : C := (.seq (.ops false [⟨(.some 7), Option.none, (.mv (.t 0)), 7, [], false⟩, ⟨(.some 8), Option.none, (.mv (.t 1)), 8, [], false⟩, ⟨(.some 9), Option.none, (.bin .rem (.t 7) (.t 8)),
    9, [], false⟩, ⟨(.some 0), Option.none, (.mv (.t 9)), 0, [], false⟩]) (.seq (.seq (.ops false [⟨(.some 10), Option.none, (.mv (.t 0)), 10, [], false⟩, ⟨(.some 11), Option.none,
    (.bin .lss (.t 10) (.c (.v (.int .i64 0)))), 11, [], false⟩]) (.cond (.t 11) (.ops false [⟨(.some 12), Option.none, (.mv (.t 0)), 12, [], false⟩, ⟨(.some 13), Option.none,
    (.mv (.t 1)), 13, [], false⟩, ⟨(.some 14), Option.none, (.bin .add (.t 12) (.t 13)), 14, [], false⟩, ⟨(.some 0), Option.none, (.mv (.t 14)), 0, [], false⟩]) .skip)) c52_1))
def c52 : C := (.seq (.ops false [⟨(.some 4), Option.none, (.mv (.c (.v (.int .i64 0)))), 4, [], false⟩]) (.seq (.seq (.ops false [⟨(.some 5), Option.none, (.mv (.t 1)), 5, [], false⟩,
    ⟨(.some 6), Option.none, (.bin .lss (.t 5) (.c (.v (.int .i64 1)))), 6, [], false⟩]) (.cond (.t 6) (.seq (.ops false [⟨(.some 4), Option.none, (.mv (.c (.v (.int .i64 0)))), 4, [],
    false⟩]) .ret) .skip)) c52_2))
def r52 : List RV := [(.tmp 4)]
theorem c52_ok : ∃ code, Try.f52.body = some code ∧ compC Try.prog Try.f52.ntmps code = some (C.strip c52) := ⟨_, rfl, by kernel_rfl⟩
theorem r52_ok : compRes Try.prog Try.f52.results.toList = some r52 := by kernel_rfl
theorem f52_ok : fnOk Try.prog 52 = true := by kernel_rfl
def c53 : C := (.seq (.ops false [⟨(.some 4), Option.none, (.mv (.c (.v (.string ({ data := #[] }))))), 4, [], false⟩]) (.seq (.ops false [⟨(.some 5), Option.none, (.mv (.t 1)), 5, [], false⟩,
    ⟨(.some 6), Option.none, (.mv (.t 0)), 6, [], false⟩, ⟨(.some 7), Option.none, (.mv (.t 1)), 7, [], false⟩, ⟨(.some 8), Option.none, (.len (.t 7)), 8, [], false⟩, ⟨(.some 9),
    Option.none, (.call 48 [(.t 6), (.t 8)]), 9, [], true⟩, ⟨(.some 10), Option.none, (.iaS 1 (.t 5) (.t 9)), 10, [], false⟩, ⟨(.some 11), Option.none, (.ld 1 false (.t 10)), 11, [],
    false⟩, ⟨(.some 4), Option.none, (.mv (.t 11)), 4, [], false⟩]) .ret))
def r53 : List RV := [(.tmp 4)]
theorem c53_ok : ∃ code, Try.f53.body = some code ∧ compC Try.prog Try.f53.ntmps code = some (C.strip c53) := ⟨_, rfl, by kernel_rfl⟩
theorem r53_ok : compRes Try.prog Try.f53.results.toList = some r53 := by kernel_rfl
theorem f53_ok : fnOk Try.prog 53 = true := by kernel_rfl
def c78_1 : C := (.seq (.ops false [⟨(.some 13), Option.none, (.mv (.t 0)), 13, [], false⟩, ⟨(.some 14), Option.none, (.nck (.t 13)), 14, [], false⟩, ⟨(.some 15), Option.none, (.fa 1 (.t 14)), 15,
    [], false⟩, ⟨(.some 16), Option.none, (.ld 1 false (.t 15)), 16, [], false⟩, ⟨(.some 17), Option.none, (.bin .add (.t 16) (.c (.v (.int .i64 1)))), 17, [], false⟩, ⟨(.some 18),
    Option.none, (.nck (.t 13)), 18, [], false⟩, ⟨(.some 19), Option.none, (.fa 1 (.t 18)), 19, [], false⟩, ⟨Option.none, Option.none, (.st 1 (.t 19) (.t 17)), 0, [], false⟩])
    (.seq (.ops true [⟨(.some 20), Option.none, (.mv (.t 0)), 20, [], false⟩, ⟨(.some 21), Option.none, (.nck (.t 20)), 21, [0], false⟩, ⟨(.some 22), Option.none, (.fa 0 (.t 21)), 22,
    [0, 1], false⟩, ⟨(.some 23), Option.none, (.ld 1 false (.t 22)), 23, [1, 0, 2], false⟩, ⟨(.some 24), Option.none, (.mv (.t 0)), 24, [], false⟩, ⟨(.some 25), Option.none,
    (.nck (.t 24)), 25, [4], false⟩, ⟨(.some 26), Option.none, (.fa 1 (.t 25)), 26, [4, 5], false⟩, ⟨(.some 27), Option.none, (.ld 1 false (.t 26)), 27, [5, 4, 6], false⟩, ⟨(.some 28),
    Option.none, (.bin .sub (.t 27) (.c (.v (.int .i64 1)))), 28, [6, 4, 5, 7], false⟩, ⟨(.some 29), Option.none, (.iaS 1 (.t 23) (.t 28)), 29, [7, 5, 4, 6, 2, 0, 1, 8, 3], false⟩,
    ⟨(.some 30), Option.none, (.ld 1 false (.t 29)), 30, [3, 8, 1, 0, 2, 6, 4, 5, 7, 9], false⟩, ⟨(.some 2), Option.none, (.mv (.t 30)), 2, [9, 8, 7, 6, 5, 4, 3, 2, 1, 0, 10], false⟩])
    .ret))
def c78 : C := (.seq (.ops false [⟨(.some 2), Option.none, (.mv (.c (.v (.int .i64 0)))), 2, [], false⟩]) (.seq (.seq (.ops true [⟨(.some 3), Option.none, (.mv (.t 0)), 3, [], false⟩, ⟨(.some 4),
    Option.none, (.nck (.t 3)), 4, [0], false⟩, ⟨(.some 5), Option.none, (.fa 1 (.t 4)), 5, [0, 1], false⟩, ⟨(.some 6), Option.none, (.ld 1 false (.t 5)), 6, [1, 0, 2], false⟩,
    ⟨(.some 7), Option.none, (.mv (.t 0)), 7, [], false⟩, ⟨(.some 8), Option.none, (.nck (.t 7)), 8, [4], false⟩, ⟨(.some 9), Option.none, (.fa 0 (.t 8)), 9, [4, 5], false⟩,
    ⟨(.some 10), Option.none, (.ld 1 false (.t 9)), 10, [5, 4, 6], false⟩, ⟨(.some 11), Option.none, (.len (.t 10)), 11, [6, 4, 5, 7], false⟩, ⟨(.some 12), Option.none,
    (.bin .geq (.t 6) (.t 11)), 12, [7, 5, 4, 6, 2, 0, 1, 8, 3], false⟩]) (.cond (.t 12) (.seq (.ops false [⟨(.some 2), Option.none, (.mv (.c (.v (.int .i64 0)))), 2, [], false⟩])
    .ret) .skip)) c78_1))
def r78 : List RV := [(.tmp 2)]
theorem c78_ok : ∃ code, Try.f78.body = some code ∧ compC Try.prog Try.f78.ntmps code = some (C.strip c78) := ⟨_, rfl, by kernel_rfl⟩
theorem r78_ok : compRes Try.prog Try.f78.results.toList = some r78 := by kernel_rfl
theorem f78_ok : fnOk Try.prog 78 = true := by kernel_rfl
end Go.Proofs.Ytiaenojpbiahgaa
