/- Compiled code of some functions (printed by a program), each checked by the kernel. -/
import Derived.Test.YtiaenojpbiahgaaV3
import Derived.Test.YtiaenojpbiahgaaProg
namespace Go.Proofs.Ytiaenojpbiahgaa
open Go
set_option maxRecDepth 100000
def c3_1 : C := (.seq (.block 1 (.ops false [⟨(.some 32), Option.none, (.mv (.t 8)), 32, [], false⟩, ⟨(.some 33), Option.none, (.mv (.t 7)), 33, [], false⟩, ⟨(.some 34), Option.none, (.mv (.t 9)),
    34, [], false⟩, ⟨(.some 35), Option.none, (.mv (.t 1)), 35, [], false⟩, ⟨(.some 36), Option.none, (.cvi .i64 (.t 35)), 36, [], false⟩, ⟨(.some 37), Option.none, (.bin .add (.t 34)
    (.t 36)), 37, [], false⟩, ⟨(.some 38), Option.none, (.mv (.t 7)), 38, [], false⟩, ⟨(.some 39), Option.none, (.len (.t 38)), 39, [], false⟩, ⟨(.some 40), Option.none,
    (.bin .rem (.t 37) (.t 39)), 40, [], false⟩, ⟨(.some 41), Option.none, (.iaS 5 (.t 33) (.t 40)), 41, [], false⟩, ⟨(.some 42), Option.none, (.ld 5 true (.t 41)), 42, [], false⟩,
    ⟨(.some 43), Option.none, (.bsl 5 1 [(.v (.int .i64 0)), (.v (.int .i64 0)), (.v (.int .i64 0)), (.v (.int .i64 0)), (.v (.int .i64 0))] [(0, (.t 42))]), 43, [], false⟩,
    ⟨(.some 44), Option.none, (.app 5 40 (.t 32) (.t 43)), 44, [], false⟩, ⟨(.some 8), Option.none, (.mv (.t 44)), 8, [], false⟩])) (.ops false [⟨(.some 30), Option.none, (.mv (.t 9)),
    30, [], false⟩, ⟨(.some 31), Option.none, (.bin .add (.t 30) (.c (.v (.int .i64 1)))), 31, [], false⟩, ⟨(.some 9), Option.none, (.mv (.t 31)), 9, [], false⟩]))
def c3_2 : C := (.seq (.seq (.ops false [⟨(.some 26), Option.none, (.mv (.t 9)), 26, [], false⟩, ⟨(.some 27), Option.none, (.mv (.t 7)), 27, [], false⟩, ⟨(.some 28), Option.none, (.len (.t 27)),
    28, [], false⟩, ⟨(.some 29), Option.none, (.bin .lss (.t 26) (.t 28)), 29, [], false⟩]) (.cond (.t 29) .skip (.exit 0))) c3_1)
def c3_3 : C := (.seq (.ops false [⟨(.some 102), Option.none, (.mv (.t 13)), 102, [], false⟩, ⟨(.some 103), Option.none, (.not (.t 102)), 103, [], false⟩, ⟨(.some 104), Option.none,
    (.mv (.t 103)), 104, [], false⟩, ⟨(.some 105), (.some (104, true)), (.mv (.t 12)), 105, [], false⟩, ⟨(.some 106), (.some (104, true)), (.bin .gtr (.t 105) (.c (.v (.int .i64 0)))),
    106, [], false⟩, ⟨(.some 107), Option.none, (.pick (.t 104) (.t 106) (.c (.v (.bool false)))), 107, [], false⟩, ⟨(.some 108), Option.none, (.mv (.t 107)), 108, [], false⟩,
    ⟨(.some 109), (.some (108, true)), (.mv (.t 7)), 109, [], false⟩, ⟨(.some 110), (.some (108, true)), (.mv (.t 14)), 110, [], false⟩, ⟨(.some 111), (.some (108, true)),
    (.mv (.t 12)), 111, [], false⟩, ⟨(.some 112), (.some (108, true)), (.call 18 [(.t 109), (.t 110), (.t 111)]), 112, [], true⟩, ⟨(.some 113), (.some (108, true)), (.mv (.t 7)), 113,
    [], false⟩, ⟨(.some 114), (.some (108, true)), (.mv (.t 14)), 114, [], false⟩, ⟨(.some 115), (.some (108, true)), (.mv (.t 12)), 115, [], false⟩, ⟨(.some 116), (.some (108, true)),
    (.bin .sub (.t 115) (.c (.v (.int .i64 1)))), 116, [], false⟩, ⟨(.some 117), (.some (108, true)), (.call 18 [(.t 113), (.t 114), (.t 116)]), 117, [], true⟩, ⟨(.some 118),
    (.some (108, true)), (.bin .neq (.t 112) (.t 117)), 118, [], false⟩, ⟨(.some 119), (.some (108, true)), (.mv (.t 118)), 119, [], false⟩, ⟨(.some 120), (.some (119, false)),
    (.mv (.t 7)), 120, [], false⟩, ⟨(.some 121), (.some (119, false)), (.mv (.t 14)), 121, [], false⟩, ⟨(.some 122), (.some (119, false)), (.mv (.t 12)), 122, [], false⟩, ⟨(.some 123),
    (.some (119, false)), (.call 19 [(.t 120), (.t 121), (.t 122)]), 123, [], true⟩, ⟨(.some 124), (.some (119, false)), (.mv (.t 7)), 124, [], false⟩, ⟨(.some 125), (.some (119,
    false)), (.mv (.t 14)), 125, [], false⟩, ⟨(.some 126), (.some (119, false)), (.mv (.t 12)), 126, [], false⟩, ⟨(.some 127), (.some (119, false)), (.bin .sub (.t 126)
    (.c (.v (.int .i64 1)))), 127, [], false⟩, ⟨(.some 128), (.some (119, false)), (.call 19 [(.t 124), (.t 125), (.t 127)]), 128, [], true⟩, ⟨(.some 129), (.some (119, false)),
    (.bin .neq (.t 123) (.t 128)), 129, [], false⟩, ⟨(.some 130), (.some (108, true)), (.pick (.t 119) (.c (.v (.bool true))) (.t 129)), 130, [], false⟩, ⟨(.some 131), (.some (108,
    true)), (.mv (.t 130)), 131, [], false⟩, ⟨(.some 132), (.some (131, false)), (.mv (.t 7)), 132, [], false⟩, ⟨(.some 133), (.some (131, false)), (.mv (.t 14)), 133, [], false⟩,
    ⟨(.some 134), (.some (131, false)), (.mv (.t 12)), 134, [], false⟩, ⟨(.some 135), (.some (131, false)), (.call 21 [(.t 132), (.t 133), (.t 134)]), 135, [], true⟩, ⟨(.some 136),
    (.some (131, false)), (.mv (.t 7)), 136, [], false⟩, ⟨(.some 137), (.some (131, false)), (.mv (.t 14)), 137, [], false⟩, ⟨(.some 138), (.some (131, false)), (.mv (.t 12)), 138, [],
    false⟩, ⟨(.some 139), (.some (131, false)), (.bin .sub (.t 138) (.c (.v (.int .i64 1)))), 139, [], false⟩, ⟨(.some 140), (.some (131, false)), (.call 21 [(.t 136), (.t 137),
    (.t 139)]), 140, [], true⟩, ⟨(.some 141), (.some (131, false)), (.beq true (.t 135) (.t 140)), 141, [], false⟩, ⟨(.some 142), (.some (108, true)), (.pick (.t 131)
    (.c (.v (.bool true))) (.t 141)), 142, [], false⟩, ⟨(.some 143), (.some (108, true)), (.mv (.t 142)), 143, [], false⟩, ⟨(.some 144), (.some (143, false)), (.mv (.t 7)), 144, [],
    false⟩, ⟨(.some 145), (.some (143, false)), (.mv (.t 14)), 145, [], false⟩, ⟨(.some 146), (.some (143, false)), (.mv (.t 12)), 146, [], false⟩, ⟨(.some 147), (.some (143, false)),
    (.call 20 [(.t 144), (.t 145), (.t 146)]), 147, [], true⟩, ⟨(.some 148), (.some (143, false)), (.mv (.t 7)), 148, [], false⟩, ⟨(.some 149), (.some (143, false)), (.mv (.t 14)),
    149, [], false⟩, ⟨(.some 150), (.some (143, false)), (.mv (.t 12)), 150, [], false⟩, ⟨(.some 151), (.some (143, false)), (.bin .sub (.t 150) (.c (.v (.int .i64 1)))), 151, [],
    false⟩, ⟨(.some 152), (.some (143, false)), (.call 20 [(.t 148), (.t 149), (.t 151)]), 152, [], true⟩, ⟨(.some 153), (.some (143, false)), (.beq true (.t 147) (.t 152)), 153, [],
    false⟩, ⟨(.some 154), (.some (108, true)), (.pick (.t 143) (.c (.v (.bool true))) (.t 153)), 154, [], false⟩, ⟨(.some 155), Option.none, (.pick (.t 108) (.t 154)
    (.c (.v (.bool false)))), 155, [], false⟩]) (.cond (.t 155) (.seq (.ops false [⟨(.some 4), Option.none, (.mv (.c (.v (.bool false)))), 4, [], false⟩]) .ret) .skip))
def c3_4 : C := (.ops false [⟨(.some 69), Option.none, (.mv (.t 14)), 69, [], false⟩, ⟨(.some 70), Option.none, (.bin .add (.t 69) (.c (.v (.int .i64 1)))), 70, [], false⟩, ⟨(.some 14),
    Option.none, (.mv (.t 70)), 14, [], false⟩])
def c3_5 : C := (.seq (.block 5 (.seq (.seq (.ops false [⟨(.some 71), Option.none, (.mv (.t 7)), 71, [], false⟩, ⟨(.some 72), Option.none, (.mv (.t 14)), 72, [], false⟩, ⟨(.some 73), Option.none,
    (.mv (.t 12)), 73, [], false⟩, ⟨(.some 74), Option.none, (.call 18 [(.t 71), (.t 72), (.t 73)]), 74, [], true⟩, ⟨(.some 75), Option.none, (.mv (.t 8)), 75, [], false⟩, ⟨(.some 76),
    Option.none, (.mv (.t 14)), 76, [], false⟩, ⟨(.some 77), Option.none, (.mv (.t 12)), 77, [], false⟩, ⟨(.some 78), Option.none, (.call 18 [(.t 75), (.t 76), (.t 77)]), 78, [],
    true⟩, ⟨(.some 79), Option.none, (.bin .neq (.t 74) (.t 78)), 79, [], false⟩, ⟨(.some 80), Option.none, (.mv (.t 79)), 80, [], false⟩, ⟨(.some 81), (.some (80, false)),
    (.mv (.t 7)), 81, [], false⟩, ⟨(.some 82), (.some (80, false)), (.mv (.t 14)), 82, [], false⟩, ⟨(.some 83), (.some (80, false)), (.mv (.t 12)), 83, [], false⟩, ⟨(.some 84),
    (.some (80, false)), (.call 19 [(.t 81), (.t 82), (.t 83)]), 84, [], true⟩, ⟨(.some 85), (.some (80, false)), (.mv (.t 8)), 85, [], false⟩, ⟨(.some 86), (.some (80, false)),
    (.mv (.t 14)), 86, [], false⟩, ⟨(.some 87), (.some (80, false)), (.mv (.t 12)), 87, [], false⟩, ⟨(.some 88), (.some (80, false)), (.call 19 [(.t 85), (.t 86), (.t 87)]), 88, [],
    true⟩, ⟨(.some 89), (.some (80, false)), (.bin .neq (.t 84) (.t 88)), 89, [], false⟩, ⟨(.some 90), Option.none, (.pick (.t 80) (.c (.v (.bool true))) (.t 89)), 90, [], false⟩,
    ⟨(.some 91), Option.none, (.mv (.t 90)), 91, [], false⟩, ⟨(.some 92), (.some (91, false)), (.mv (.t 7)), 92, [], false⟩, ⟨(.some 93), (.some (91, false)), (.mv (.t 14)), 93, [],
    false⟩, ⟨(.some 94), (.some (91, false)), (.mv (.t 12)), 94, [], false⟩, ⟨(.some 95), (.some (91, false)), (.call 20 [(.t 92), (.t 93), (.t 94)]), 95, [], true⟩, ⟨(.some 96),
    (.some (91, false)), (.mv (.t 8)), 96, [], false⟩, ⟨(.some 97), (.some (91, false)), (.mv (.t 14)), 97, [], false⟩, ⟨(.some 98), (.some (91, false)), (.mv (.t 12)), 98, [], false⟩,
    ⟨(.some 99), (.some (91, false)), (.call 20 [(.t 96), (.t 97), (.t 98)]), 99, [], true⟩, ⟨(.some 100), (.some (91, false)), (.beq true (.t 95) (.t 99)), 100, [], false⟩,
    ⟨(.some 101), Option.none, (.pick (.t 91) (.c (.v (.bool true))) (.t 100)), 101, [], false⟩]) (.cond (.t 101) (.seq (.ops false [⟨(.some 4), Option.none,
    (.mv (.c (.v (.bool false)))), 4, [], false⟩]) .ret) .skip)) c3_3)) c3_4)
def c3_6 : C := (.seq (.seq (.ops false [⟨(.some 67), Option.none, (.mv (.t 14)), 67, [], false⟩, ⟨(.some 68), Option.none, (.bin .lss (.t 67) (.c (.v (.int .i64 6)))), 68, [], false⟩])
    (.cond (.t 68) .skip (.exit 4))) c3_5)
def c3_7 : C := (.seq (.ops false [⟨(.some 14), Option.none, (.mv (.c (.v (.int .i64 0)))), 14, [], false⟩]) (.block 4 (.loop c3_6)))
def c3_8 : C := (.ops false [⟨(.some 52), Option.none, (.mv (.t 12)), 52, [], false⟩, ⟨(.some 53), Option.none, (.bin .add (.t 52) (.c (.v (.int .i64 1)))), 53, [], false⟩, ⟨(.some 12),
    Option.none, (.mv (.t 53)), 12, [], false⟩])
def c3_9 : C := (.seq (.block 3 (.seq (.ops false [⟨(.some 54), Option.none, (.mv (.t 11)), 54, [], false⟩, ⟨(.some 55), Option.none, (.mv (.t 54)), 55, [], false⟩, ⟨(.some 56), (.some (55,
    true)), (.mv (.t 12)), 56, [], false⟩, ⟨(.some 57), (.some (55, true)), (.mv (.t 10)), 57, [], false⟩, ⟨(.some 58), (.some (55, true)), (.bin .eql (.t 56) (.t 57)), 58, [], false⟩,
    ⟨(.some 59), Option.none, (.pick (.t 55) (.t 58) (.c (.v (.bool false)))), 59, [], false⟩, ⟨(.some 13), Option.none, (.mv (.t 59)), 13, [], false⟩])
    (.seq (.seq (.ops false [⟨(.some 60), Option.none, (.mv (.t 13)), 60, [], false⟩]) (.cond (.t 60) (.ops false [⟨(.some 62), Option.none, (.mv (.t 7)), 62, [], false⟩, ⟨(.some 63),
    Option.none, (.mv (.t 12)), 63, [], false⟩, ⟨(.some 64), Option.none, (.call 17 [(.t 62), (.t 63)]), 64, [], true⟩, ⟨(.some 61), Option.none, (.mv (.t 64)), 61, [], false⟩,
    ⟨(.some 65), Option.none, (.ext (.t 61) 0), 65, [], false⟩, ⟨(.some 66), Option.none, (.ext (.t 61) 1), 66, [], false⟩, ⟨(.some 10), Option.none, (.mv (.t 65)), 10, [], false⟩,
    ⟨(.some 11), Option.none, (.mv (.t 66)), 11, [], false⟩]) .skip)) (.weak c3_7)))) c3_8)
def c3_10 : C := (.seq (.seq (.ops false [⟨(.some 50), Option.none, (.mv (.t 12)), 50, [], false⟩, ⟨(.some 51), Option.none, (.bin .lss (.t 50) (.c (.v (.int .i64 115)))), 51, [], false⟩])
    (.cond (.t 51) .skip (.exit 2))) c3_9)
def c3_11 : C := (.seq (.ops false [⟨(.some 156), Option.none, (.mv (.t 11)), 156, [], false⟩, ⟨(.some 157), Option.none, (.not (.t 156)), 157, [], false⟩, ⟨(.some 158), Option.none,
    (.mv (.t 157)), 158, [], false⟩, ⟨(.some 159), (.some (158, true)), (.call 13 []), 159, [], true⟩, ⟨(.some 160), Option.none, (.pick (.t 158) (.t 159) (.c (.v (.bool false)))),
    160, [], false⟩, ⟨(.some 4), Option.none, (.mv (.t 160)), 4, [], false⟩]) .ret)
def c3_12 : C := (.seq (.ops false [⟨(.some 46), Option.none, (.mv (.t 7)), 46, [], false⟩, ⟨(.some 47), Option.none, (.call 17 [(.t 46), (.c (.v (.int .i64 (-1))))]), 47, [], true⟩, ⟨(.some 45),
    Option.none, (.mv (.t 47)), 45, [], false⟩, ⟨(.some 48), Option.none, (.ext (.t 45) 0), 48, [], false⟩, ⟨(.some 49), Option.none, (.ext (.t 45) 1), 49, [], false⟩, ⟨(.some 10),
    Option.none, (.mv (.t 48)), 10, [], false⟩, ⟨(.some 11), Option.none, (.mv (.t 49)), 11, [], false⟩]) (.seq (.seq (.ops false [⟨(.some 12), Option.none,
    (.mv (.c (.v (.int .i64 0)))), 12, [], false⟩]) (.block 2 (.loop c3_10))) c3_11))
def c3_13 : C := (.seq (.ops false [⟨(.some 19), Option.none, (.mv (.t 0)), 19, [], false⟩, ⟨(.some 20), Option.none, (.call 14 [(.t 19)]), 20, [], false⟩, ⟨(.some 5), Option.none, (.mv (.t 20)),
    5, [], false⟩]) (.seq (.ops false [⟨(.some 21), Option.none, (.mv (.t 5)), 21, [], false⟩, ⟨(.some 22), Option.none, (.call 15 [(.t 21)]), 22, [], false⟩, ⟨(.some 6), Option.none,
    (.new [.mt, .mt, .mt, .mt, (.v (.int .i64 0)), (.v (.int .i64 0))]), 6, [], false⟩, ⟨Option.none, Option.none, (.st 6 (.t 6) (.t 22)), 0, [], false⟩])
    (.seq (.ops false [⟨(.some 23), Option.none, (.mv (.t 5)), 23, [], false⟩, ⟨(.some 24), Option.none, (.ld 6 true (.t 6)), 24, [], false⟩, ⟨(.some 25), Option.none,
    (.call 16 [(.t 23), (.t 24), (.c (.v (.int .i64 10)))]), 25, [], false⟩, ⟨(.some 7), Option.none, (.mv (.t 25)), 7, [], false⟩]) (.seq (.ops false [⟨(.some 8), Option.none,
    (.mv (.c .mt)), 8, [], false⟩]) (.seq (.seq (.ops false [⟨(.some 9), Option.none, (.mv (.c (.v (.int .i64 0)))), 9, [], false⟩]) (.block 0 (.loop c3_2))) (.weak c3_12))))))
def c3 : C := (.seq (.ops false [⟨(.some 4), Option.none, (.mv (.c (.v (.bool false)))), 4, [], false⟩]) (.seq (.seq (.ops false [⟨(.some 15), Option.none, (.mv (.t 0)), 15, [], false⟩,
    ⟨(.some 16), Option.none, (.call 12 [(.t 15)]), 16, [], true⟩, ⟨(.some 17), Option.none, (.not (.t 16)), 17, [], false⟩]) (.cond (.t 17) (.seq (.ops false [⟨(.some 18),
    Option.none, (.call 13 []), 18, [], true⟩, ⟨(.some 4), Option.none, (.mv (.t 18)), 4, [], false⟩]) .ret) .skip)) c3_13))
def r3 : List RV := [(.tmp 4)]
theorem c3_ok : ∃ code, Try.f3.body = some code ∧ compC Try.prog Try.f3.ntmps code = some (C.strip c3) := ⟨_, rfl, by kernel_rfl⟩
theorem r3_ok : compRes Try.prog Try.f3.results.toList = some r3 := by kernel_rfl
theorem f3_ok : fnOk Try.prog 3 = true := by kernel_rfl
def c12 : C := (.seq (.ops false [⟨(.some 2), Option.none, (.mv (.c (.v (.bool false)))), 2, [], false⟩]) (.seq (.ops false [⟨(.some 3), Option.none, (.mv (.t 0)), 3, [], false⟩, ⟨(.some 4),
    Option.none, (.len (.t 3)), 4, [], false⟩, ⟨(.some 5), Option.none, (.bin .leq (.t 4) (.c (.v (.int .i64 400)))), 5, [], false⟩, ⟨(.some 2), Option.none, (.mv (.t 5)), 2, [],
    false⟩]) .ret))
def r12 : List RV := [(.tmp 2)]
theorem c12_ok : ∃ code, Try.f12.body = some code ∧ compC Try.prog Try.f12.ntmps code = some (C.strip c12) := ⟨_, rfl, by kernel_rfl⟩
theorem r12_ok : compRes Try.prog Try.f12.results.toList = some r12 := by kernel_rfl
theorem f12_ok : fnOk Try.prog 12 = true := by kernel_rfl
def c13 : C := (.seq (.ops false [⟨(.some 0), Option.none, (.mv (.c (.v (.bool false)))), 0, [], false⟩]) (.seq (.ops false [⟨(.some 4), Option.none, (.bld [(.v (.int .i64 0)),
    (.v (.int .i64 0)), (.v (.int .i64 0)), (.v (.int .i64 0)), (.v (.int .i64 0))] [(0, (1, (.c (.v (.int .i64 1))))), (2, (1, (.c (.v (.int .i64 5))))), (3, (1,
    (.c (.v (.int .i64 10))))), (4, (1, (.c (.v (.int .i64 12)))))]), 4, [], false⟩, ⟨(.some 5), Option.none, (.bsl 5 1 [(.v (.int .i64 0)), (.v (.int .i64 0)), (.v (.int .i64 0)),
    (.v (.int .i64 0)), (.v (.int .i64 0))] [(0, (.t 4))]), 5, [], false⟩, ⟨(.some 1), Option.none, (.mv (.t 5)), 1, [], false⟩]) (.seq (.ops false [⟨(.some 7), Option.none,
    (.mv (.t 1)), 7, [], false⟩, ⟨(.some 8), Option.none, (.call 17 [(.t 7), (.c (.v (.int .i64 10)))]), 8, [], true⟩, ⟨(.some 6), Option.none, (.mv (.t 8)), 6, [], false⟩, ⟨(.some 9),
    Option.none, (.ext (.t 6) 0), 9, [], false⟩, ⟨(.some 10), Option.none, (.ext (.t 6) 1), 10, [], false⟩, ⟨(.some 2), Option.none, (.mv (.t 9)), 2, [], false⟩, ⟨(.some 3),
    Option.none, (.mv (.t 10)), 3, [], false⟩]) (.seq (.ops false [⟨(.some 11), Option.none, (.mv (.t 1)), 11, [], false⟩, ⟨(.some 12), Option.none, (.call 18 [(.t 11),
    (.c (.v (.int .i64 0))), (.c (.v (.int .i64 9)))]), 12, [], true⟩, ⟨(.some 13), Option.none, (.bin .eql (.t 12) (.c (.v (.int .i64 0)))), 13, [], false⟩, ⟨(.some 14), Option.none,
    (.mv (.t 13)), 14, [], false⟩, ⟨(.some 15), (.some (14, true)), (.mv (.t 1)), 15, [], false⟩, ⟨(.some 16), (.some (14, true)), (.call 18 [(.t 15), (.c (.v (.int .i64 0))),
    (.c (.v (.int .i64 10)))]), 16, [], true⟩, ⟨(.some 17), (.some (14, true)), (.bin .eql (.t 16) (.c (.v (.int .i64 5)))), 17, [], false⟩, ⟨(.some 18), Option.none, (.pick (.t 14)
    (.t 17) (.c (.v (.bool false)))), 18, [], false⟩, ⟨(.some 19), Option.none, (.mv (.t 18)), 19, [], false⟩, ⟨(.some 20), (.some (19, true)), (.mv (.t 1)), 20, [], false⟩,
    ⟨(.some 21), (.some (19, true)), (.call 18 [(.t 20), (.c (.v (.int .i64 0))), (.c (.v (.int .i64 11)))]), 21, [], true⟩, ⟨(.some 22), (.some (19, true)), (.bin .eql (.t 21)
    (.c (.v (.int .i64 5)))), 22, [], false⟩, ⟨(.some 23), Option.none, (.pick (.t 19) (.t 22) (.c (.v (.bool false)))), 23, [], false⟩, ⟨(.some 24), Option.none, (.mv (.t 23)), 24,
    [], false⟩, ⟨(.some 25), (.some (24, true)), (.mv (.t 1)), 25, [], false⟩, ⟨(.some 26), (.some (24, true)), (.call 18 [(.t 25), (.c (.v (.int .i64 0))), (.c (.v (.int .i64 12)))]),
    26, [], true⟩, ⟨(.some 27), (.some (24, true)), (.bin .eql (.t 26) (.c (.v (.int .i64 0)))), 27, [], false⟩, ⟨(.some 28), Option.none, (.pick (.t 24) (.t 27)
    (.c (.v (.bool false)))), 28, [], false⟩, ⟨(.some 29), Option.none, (.mv (.t 28)), 29, [], false⟩, ⟨(.some 30), (.some (29, true)), (.mv (.t 3)), 30, [], false⟩, ⟨(.some 31),
    Option.none, (.pick (.t 29) (.t 30) (.c (.v (.bool false)))), 31, [], false⟩, ⟨(.some 32), Option.none, (.mv (.t 31)), 32, [], false⟩, ⟨(.some 33), (.some (32, true)),
    (.mv (.t 2)), 33, [], false⟩, ⟨(.some 34), (.some (32, true)), (.bin .eql (.t 33) (.c (.v (.int .i64 12)))), 34, [], false⟩, ⟨(.some 35), Option.none, (.pick (.t 32) (.t 34)
    (.c (.v (.bool false)))), 35, [], false⟩, ⟨(.some 0), Option.none, (.mv (.t 35)), 0, [], false⟩]) .ret))))
def r13 : List RV := [(.tmp 0)]
theorem c13_ok : ∃ code, Try.f13.body = some code ∧ compC Try.prog Try.f13.ntmps code = some (C.strip c13) := ⟨_, rfl, by kernel_rfl⟩
theorem r13_ok : compRes Try.prog Try.f13.results.toList = some r13 := by kernel_rfl
theorem f13_ok : fnOk Try.prog 13 = true := by kernel_rfl
def c16_1 : C := (.ops false [⟨(.some 70), Option.none, (.mv (.t 7)), 70, [], false⟩, ⟨(.some 71), Option.none, (.ld 5 true (.t 9)), 71, [], false⟩, ⟨(.some 72), Option.none,
    (.bsl 5 1 [(.v (.int .i64 0)), (.v (.int .i64 0)), (.v (.int .i64 0)), (.v (.int .i64 0)), (.v (.int .i64 0))] [(0, (.t 71))]), 72, [], false⟩, ⟨(.some 73), Option.none,
    (.app 5 40 (.t 70) (.t 72)), 73, [], false⟩, ⟨(.some 7), Option.none, (.mv (.t 73)), 7, [], false⟩])
def c16_2 : C := (.ops false [⟨(.some 16), Option.none, (.mv (.t 8)), 16, [], false⟩, ⟨(.some 17), Option.none, (.bin .sub (.t 16) (.c (.v (.int .i64 1)))), 17, [], false⟩, ⟨(.some 8), Option.none,
    (.mv (.t 17)), 8, [], false⟩])
def c16_3 : C := (.seq (.block 1 (.seq (.ops false [⟨(.some 18), Option.none, (.mv (.t 0)), 18, [], false⟩, ⟨(.some 19), Option.none, (.call 48 [(.t 18), (.c (.v (.int .i64 4)))]), 19, [], true⟩,
    ⟨(.some 20), Option.none, (.bin .add (.c (.v (.int .i64 1))) (.t 19)), 20, [], false⟩, ⟨(.some 21), Option.none, (.mv (.t 0)), 21, [], false⟩, ⟨(.some 22), Option.none,
    (.call 48 [(.t 21), (.c (.v (.int .i64 8)))]), 22, [], true⟩, ⟨(.some 23), Option.none, (.bld [(.v (.int .i64 0)), (.v (.int .i64 0)), (.v (.int .i64 0)), (.v (.int .i64 0)),
    (.v (.int .i64 0))] [(0, (1, (.t 20))), (3, (1, (.t 22)))]), 23, [], false⟩, ⟨(.some 9), Option.none, (.new [(.v (.int .i64 0)), (.v (.int .i64 0)), (.v (.int .i64 0)),
    (.v (.int .i64 0)), (.v (.int .i64 0))]), 9, [], false⟩, ⟨Option.none, Option.none, (.st 5 (.t 9) (.t 23)), 0, [], false⟩]) (.seq (.ops true [⟨(.some 24), Option.none,
    (.fa 3 (.t 9)), 24, [], false⟩, ⟨(.some 25), Option.none, (.ld 1 false (.t 24)), 25, [0], false⟩, ⟨(.some 26), Option.none, (.mv (.t 0)), 26, [], false⟩, ⟨(.some 27), Option.none,
    (.bsl 1 4 [(.v (.int .i64 0))] [(0, (.c (.v (.int .i64 0)))), (1, (.c (.v (.int .i64 1)))), (2, (.c (.v (.int .i64 5)))), (3, (.c (.v (.int .i64 100))))]), 27, [], false⟩,
    ⟨(.some 28), Option.none, (.call 45 [(.t 26), (.t 27)]), 28, [3, 2], true⟩, ⟨(.some 29), Option.none, (.bin .add (.t 25) (.t 28)), 29, [2, 3, 0, 4, 1], false⟩, ⟨(.some 30),
    Option.none, (.fa 4 (.t 9)), 30, [5, 4, 3, 2, 1, 0], false⟩, ⟨Option.none, Option.none, (.st 1 (.t 30) (.t 29)), 0, [3, 2, 1, 0, 4, 5, 6], false⟩])
    (.seq (.seq (.ops false [⟨(.some 31), Option.none, (.fa 0 (.t 9)), 31, [], false⟩, ⟨(.some 32), Option.none, (.ld 1 false (.t 31)), 32, [], false⟩])
    (.block 2 (.seq (.ops false [⟨(.some 39), Option.none, (.bin .eql (.t 32) (.c (.v (.int .i64 1)))), 39, [], false⟩, ⟨(.some 38), Option.none, (.mv (.t 39)), 38, [], false⟩])
    (.cond (.t 38) (.ops false [⟨(.some 40), Option.none, (.mv (.t 0)), 40, [], false⟩, ⟨(.some 41), Option.none, (.fa 1 (.t 4)), 41, [], false⟩, ⟨(.some 42), Option.none,
    (.ld 1 false (.t 41)), 42, [], false⟩, ⟨(.some 43), Option.none, (.len (.t 42)), 43, [], false⟩, ⟨(.some 44), Option.none, (.call 48 [(.t 40), (.t 43)]), 44, [], true⟩,
    ⟨(.some 45), Option.none, (.mv (.t 0)), 45, [], false⟩, ⟨(.some 46), Option.none, (.bsl 1 4 [(.v (.int .i64 0))] [(0, (.c (.v (.int .i64 1)))), (1, (.c (.v (.int .i64 2)))), (2,
    (.c (.v (.int .i64 5)))), (3, (.c (.v (.int .i64 300))))]), 46, [], false⟩, ⟨(.some 47), Option.none, (.call 45 [(.t 45), (.t 46)]), 47, [], true⟩, ⟨(.some 48), Option.none,
    (.fa 1 (.t 9)), 48, [], false⟩, ⟨Option.none, Option.none, (.st 1 (.t 48) (.t 44)), 0, [], false⟩, ⟨(.some 49), Option.none, (.fa 2 (.t 9)), 49, [], false⟩, ⟨Option.none,
    Option.none, (.st 1 (.t 49) (.t 47)), 0, [], false⟩]) (.seq (.ops false [⟨(.some 51), Option.none, (.bin .eql (.t 32) (.c (.v (.int .i64 2)))), 51, [], false⟩, ⟨(.some 50),
    Option.none, (.mv (.t 51)), 50, [], false⟩]) (.cond (.t 50) (.ops false [⟨(.some 52), Option.none, (.mv (.t 0)), 52, [], false⟩, ⟨(.some 53), Option.none, (.fa 2 (.t 4)), 53, [],
    false⟩, ⟨(.some 54), Option.none, (.ld 1 false (.t 53)), 54, [], false⟩, ⟨(.some 55), Option.none, (.len (.t 54)), 55, [], false⟩, ⟨(.some 56), Option.none, (.call 48 [(.t 52),
    (.t 55)]), 56, [], true⟩, ⟨(.some 57), Option.none, (.mv (.t 0)), 57, [], false⟩, ⟨(.some 58), Option.none, (.bsl 1 5 [(.v (.int .i64 0))] [(0, (.c (.v (.int .i64 0)))), (1,
    (.c (.v (.int .i64 1000)))), (2, (.c (.v (.int .i64 (-1000))))), (3, (.c (.v (.int .i64 100000)))), (4, (.c (.v (.int .i64 (-100000)))))]), 58, [], false⟩, ⟨(.some 59),
    Option.none, (.call 45 [(.t 57), (.t 58)]), 59, [], true⟩, ⟨(.some 60), Option.none, (.fa 1 (.t 9)), 60, [], false⟩, ⟨Option.none, Option.none, (.st 1 (.t 60) (.t 56)), 0, [],
    false⟩, ⟨(.some 61), Option.none, (.fa 2 (.t 9)), 61, [], false⟩, ⟨Option.none, Option.none, (.st 1 (.t 61) (.t 59)), 0, [], false⟩]) (.seq (.ops false [⟨(.some 63), Option.none,
    (.bin .eql (.t 32) (.c (.v (.int .i64 3)))), 63, [], false⟩, ⟨(.some 62), Option.none, (.mv (.t 63)), 62, [], false⟩]) (.cond (.t 62) (.ops false [⟨(.some 64), Option.none,
    (.mv (.t 0)), 64, [], false⟩, ⟨(.some 65), Option.none, (.fa 2 (.t 4)), 65, [], false⟩, ⟨(.some 66), Option.none, (.ld 1 false (.t 65)), 66, [], false⟩, ⟨(.some 67), Option.none,
    (.len (.t 66)), 67, [], false⟩, ⟨(.some 68), Option.none, (.call 48 [(.t 64), (.t 67)]), 68, [], true⟩, ⟨(.some 69), Option.none, (.fa 1 (.t 9)), 69, [], false⟩, ⟨Option.none,
    Option.none, (.st 1 (.t 69) (.t 68)), 0, [], false⟩]) (.ops false [⟨(.some 33), Option.none, (.mv (.t 0)), 33, [], false⟩, ⟨(.some 34), Option.none, (.ld 6 true (.t 4)), 34, [],
    false⟩, ⟨(.some 35), Option.none, (.call 49 [(.t 34)]), 35, [], true⟩, ⟨(.some 36), Option.none, (.call 48 [(.t 33), (.t 35)]), 36, [], true⟩, ⟨(.some 37), Option.none,
    (.fa 1 (.t 9)), 37, [], false⟩, ⟨Option.none, Option.none, (.st 1 (.t 37) (.t 36)), 0, [], false⟩]))))))))) c16_1)))) c16_2)
def c16_4 : C := (.seq (.seq (.ops false [⟨(.some 14), Option.none, (.mv (.t 8)), 14, [], false⟩, ⟨(.some 15), Option.none, (.bin .gtr (.t 14) (.c (.v (.int .i64 0)))), 15, [], false⟩])
    (.cond (.t 15) .skip (.exit 0))) c16_3)
def c16_5 : C := (.seq (.ops false [⟨(.some 74), Option.none, (.mv (.t 7)), 74, [], false⟩, ⟨(.some 6), Option.none, (.mv (.t 74)), 6, [], false⟩]) .ret)
def c16 : C := (.seq (.ops false [⟨(.some 4), Option.none, (.box 6 (.t 1)), 4, [], false⟩, ⟨(.some 6), Option.none, (.mv (.c .mt)), 6, [], false⟩]) (.seq (.ops false [⟨(.some 7), Option.none,
    (.mv (.c .mt)), 7, [], false⟩]) (.seq (.seq (.ops false [⟨(.some 10), Option.none, (.mv (.t 0)), 10, [], false⟩, ⟨(.some 11), Option.none, (.mv (.t 2)), 11, [], false⟩,
    ⟨(.some 12), Option.none, (.bin .add (.t 11) (.c (.v (.int .i64 1)))), 12, [], false⟩, ⟨(.some 13), Option.none, (.call 48 [(.t 10), (.t 12)]), 13, [], true⟩, ⟨(.some 8),
    Option.none, (.mv (.t 13)), 8, [], false⟩]) (.block 0 (.loop c16_4))) c16_5)))
def r16 : List RV := [(.tmp 6)]
theorem c16_ok : ∃ code, Try.f16.body = some code ∧ compC Try.prog Try.f16.ntmps code = some (C.strip c16) := ⟨_, rfl, by kernel_rfl⟩
theorem r16_ok : compRes Try.prog Try.f16.results.toList = some r16 := by kernel_rfl
theorem f16_ok : fnOk Try.prog 16 = true := by kernel_rfl
def c17_1 : C := (.ops false [⟨(.some 46), Option.none, (.bin .add (.t 29) (.c (.v (.int .i64 1)))), 46, [], false⟩, ⟨(.some 29), Option.none, (.mv (.t 46)), 29, [], false⟩])
def c17_2 : C := (.seq (.block 3 (.seq (.ops false [⟨(.some 31), Option.none, (.iaS 1 (.t 27) (.t 29)), 31, [], false⟩, ⟨(.some 32), Option.none, (.ld 1 false (.t 31)), 32, [], false⟩, ⟨(.some 11),
    Option.none, (.mv (.t 32)), 11, [], false⟩]) (.seq (.ops false [⟨(.some 33), Option.none, (.mv (.t 11)), 33, [], false⟩, ⟨(.some 34), Option.none, (.mv (.t 1)), 34, [], false⟩,
    ⟨(.some 35), Option.none, (.bin .gtr (.t 33) (.t 34)), 35, [], false⟩, ⟨(.some 36), Option.none, (.mv (.t 35)), 36, [], false⟩, ⟨(.some 37), (.some (36, true)), (.mv (.t 7)), 37,
    [], false⟩, ⟨(.some 38), (.some (36, true)), (.not (.t 37)), 38, [], false⟩, ⟨(.some 39), (.some (36, true)), (.mv (.t 38)), 39, [], false⟩, ⟨(.some 40), (.some (39, false)),
    (.mv (.t 11)), 40, [], false⟩, ⟨(.some 41), (.some (39, false)), (.mv (.t 6)), 41, [], false⟩, ⟨(.some 42), (.some (39, false)), (.bin .lss (.t 40) (.t 41)), 42, [], false⟩,
    ⟨(.some 43), (.some (36, true)), (.pick (.t 39) (.c (.v (.bool true))) (.t 42)), 43, [], false⟩, ⟨(.some 44), Option.none, (.pick (.t 36) (.t 43) (.c (.v (.bool false)))), 44, [],
    false⟩]) (.cond (.t 44) (.ops false [⟨(.some 45), Option.none, (.mv (.t 11)), 45, [], false⟩, ⟨(.some 6), Option.none, (.mv (.t 45)), 6, [], false⟩, ⟨(.some 7), Option.none,
    (.mv (.c (.v (.bool true)))), 7, [], false⟩]) .skip)))) c17_1)
def c17_3 : C := (.seq (.ops false [⟨(.some 30), Option.none, (.bin .lss (.t 29) (.t 28)), 30, [], false⟩]) (.seq (.cond (.t 30) .skip (.exit 2)) c17_2))
def c17_4 : C := (.seq (.ops false [⟨(.some 23), Option.none, (.fa 3 (.t 9)), 23, [], false⟩, ⟨(.some 24), Option.none, (.ld 1 false (.t 23)), 24, [], false⟩, ⟨(.some 25), Option.none,
    (.fa 4 (.t 9)), 25, [], false⟩, ⟨(.some 26), Option.none, (.ld 1 false (.t 25)), 26, [], false⟩, ⟨(.some 27), Option.none, (.bsl 1 2 [(.v (.int .i64 0))] [(0, (.t 24)), (1,
    (.t 26))]), 27, [], false⟩, ⟨(.some 28), Option.none, (.len (.t 27)), 28, [], false⟩, ⟨(.some 29), Option.none, (.mv (.c (.v (.int .i64 0)))), 29, [], false⟩])
    (.block 2 (.loop c17_3)))
def c17_5 : C := (.ops false [⟨(.some 47), Option.none, (.bin .add (.t 14) (.c (.v (.int .i64 1)))), 47, [], false⟩, ⟨(.some 14), Option.none, (.mv (.t 47)), 14, [], false⟩])
def c17_6 : C := (.seq (.block 1 (.seq (.ops false [⟨(.some 16), Option.none, (.iaS 5 (.t 12) (.t 14)), 16, [], false⟩, ⟨(.some 17), Option.none, (.ld 5 true (.t 16)), 17, [], false⟩, ⟨(.some 9),
    Option.none, (.new [(.v (.int .i64 0)), (.v (.int .i64 0)), (.v (.int .i64 0)), (.v (.int .i64 0)), (.v (.int .i64 0))]), 9, [], false⟩, ⟨Option.none, Option.none, (.st 5 (.t 9)
    (.t 17)), 0, [], false⟩]) (.seq (.seq (.ops false [⟨(.some 18), Option.none, (.fa 3 (.t 9)), 18, [], false⟩, ⟨(.some 19), Option.none, (.ld 1 false (.t 18)), 19, [], false⟩,
    ⟨(.some 20), Option.none, (.fa 4 (.t 9)), 20, [], false⟩, ⟨(.some 21), Option.none, (.ld 1 false (.t 20)), 21, [], false⟩, ⟨(.some 22), Option.none, (.bin .geq (.t 19) (.t 21)),
    22, [], false⟩]) (.cond (.t 22) (.exit 1) .skip)) c17_4))) c17_5)
def c17_7 : C := (.seq (.ops false [⟨(.some 15), Option.none, (.bin .lss (.t 14) (.t 13)), 15, [], false⟩]) (.seq (.cond (.t 15) .skip (.exit 0)) c17_6))
def c17_8 : C := (.seq (.ops false [⟨(.some 48), Option.none, (.mv (.t 6)), 48, [], false⟩, ⟨(.some 49), Option.none, (.mv (.t 7)), 49, [], false⟩, ⟨(.some 4), Option.none, (.mv (.t 48)), 4, [],
    false⟩, ⟨(.some 5), Option.none, (.mv (.t 49)), 5, [], false⟩]) .ret)
def c17 : C := (.seq (.ops false [⟨(.some 4), Option.none, (.mv (.c (.v (.int .i64 0)))), 4, [], false⟩, ⟨(.some 5), Option.none, (.mv (.c (.v (.bool false)))), 5, [], false⟩])
    (.seq (.ops false [⟨(.some 6), Option.none, (.mv (.c (.v (.int .i64 0)))), 6, [], false⟩, ⟨(.some 7), Option.none, (.mv (.c (.v (.bool false)))), 7, [], false⟩])
    (.seq (.seq (.ops false [⟨(.some 12), Option.none, (.mv (.t 0)), 12, [], false⟩, ⟨(.some 13), Option.none, (.len (.t 12)), 13, [], false⟩, ⟨(.some 14), Option.none,
    (.mv (.c (.v (.int .i64 0)))), 14, [], false⟩]) (.block 0 (.loop c17_7))) c17_8)))
def r17 : List RV := [(.tmp 4), (.tmp 5)]
theorem c17_ok : ∃ code, Try.f17.body = some code ∧ compC Try.prog Try.f17.ntmps code = some (C.strip c17) := ⟨_, rfl, by kernel_rfl⟩
theorem r17_ok : compRes Try.prog Try.f17.results.toList = some r17 := by kernel_rfl
theorem f17_ok : fnOk Try.prog 17 = true := by kernel_rfl
def c18 : C := (.seq (.ops false [⟨(.some 6), Option.none, (.mv (.c (.v (.int .i64 0)))), 6, [], false⟩]) (.seq (.ops false [⟨(.some 7), Option.none, (.mv (.t 0)), 7, [], false⟩, ⟨(.some 8),
    Option.none, (.mv (.t 1)), 8, [], false⟩, ⟨(.some 9), Option.none, (.mv (.t 2)), 9, [], false⟩, ⟨(.some 10), Option.none, (.call 50 [(.t 7), (.c (.v (.int .i64 1))), (.t 8),
    (.t 9)]), 10, [], true⟩, ⟨(.some 6), Option.none, (.mv (.t 10)), 6, [], false⟩]) .ret))
def r18 : List RV := [(.tmp 6)]
theorem c18_ok : ∃ code, Try.f18.body = some code ∧ compC Try.prog Try.f18.ntmps code = some (C.strip c18) := ⟨_, rfl, by kernel_rfl⟩
theorem r18_ok : compRes Try.prog Try.f18.results.toList = some r18 := by kernel_rfl
theorem f18_ok : fnOk Try.prog 18 = true := by kernel_rfl
def c19 : C := (.seq (.ops false [⟨(.some 6), Option.none, (.mv (.c (.v (.int .i64 0)))), 6, [], false⟩]) (.seq (.ops false [⟨(.some 7), Option.none, (.mv (.t 0)), 7, [], false⟩, ⟨(.some 8),
    Option.none, (.mv (.t 1)), 8, [], false⟩, ⟨(.some 9), Option.none, (.mv (.t 2)), 9, [], false⟩, ⟨(.some 10), Option.none, (.call 50 [(.t 7), (.c (.v (.int .i64 2))), (.t 8),
    (.t 9)]), 10, [], true⟩, ⟨(.some 6), Option.none, (.mv (.t 10)), 6, [], false⟩]) .ret))
def r19 : List RV := [(.tmp 6)]
theorem c19_ok : ∃ code, Try.f19.body = some code ∧ compC Try.prog Try.f19.ntmps code = some (C.strip c19) := ⟨_, rfl, by kernel_rfl⟩
theorem r19_ok : compRes Try.prog Try.f19.results.toList = some r19 := by kernel_rfl
theorem f19_ok : fnOk Try.prog 19 = true := by kernel_rfl
def c20 : C := (.seq (.ops false [⟨(.some 6), Option.none, (.mv (.c (.v (.bool false)))), 6, [], false⟩]) (.seq (.ops false [⟨(.some 7), Option.none, (.mv (.t 0)), 7, [], false⟩, ⟨(.some 8),
    Option.none, (.mv (.t 1)), 8, [], false⟩, ⟨(.some 9), Option.none, (.mv (.t 2)), 9, [], false⟩, ⟨(.some 10), Option.none, (.call 51 [(.t 7), (.c (.v (.int .i64 4))), (.t 8),
    (.t 9)]), 10, [], true⟩, ⟨(.some 6), Option.none, (.mv (.t 10)), 6, [], false⟩]) .ret))
def r20 : List RV := [(.tmp 6)]
theorem c20_ok : ∃ code, Try.f20.body = some code ∧ compC Try.prog Try.f20.ntmps code = some (C.strip c20) := ⟨_, rfl, by kernel_rfl⟩
theorem r20_ok : compRes Try.prog Try.f20.results.toList = some r20 := by kernel_rfl
theorem f20_ok : fnOk Try.prog 20 = true := by kernel_rfl
def c21 : C := (.seq (.ops false [⟨(.some 6), Option.none, (.mv (.c (.v (.bool false)))), 6, [], false⟩]) (.seq (.ops false [⟨(.some 7), Option.none, (.mv (.t 0)), 7, [], false⟩, ⟨(.some 8),
    Option.none, (.mv (.t 1)), 8, [], false⟩, ⟨(.some 9), Option.none, (.mv (.t 2)), 9, [], false⟩, ⟨(.some 10), Option.none, (.call 51 [(.t 7), (.c (.v (.int .i64 3))), (.t 8),
    (.t 9)]), 10, [], true⟩, ⟨(.some 6), Option.none, (.mv (.t 10)), 6, [], false⟩]) .ret))
def r21 : List RV := [(.tmp 6)]
theorem c21_ok : ∃ code, Try.f21.body = some code ∧ compC Try.prog Try.f21.ntmps code = some (C.strip c21) := ⟨_, rfl, by kernel_rfl⟩
theorem r21_ok : compRes Try.prog Try.f21.results.toList = some r21 := by kernel_rfl
theorem f21_ok : fnOk Try.prog 21 = true := by kernel_rfl
def c49 : C := (.seq (.ops false [⟨(.some 1), Option.none, (.box 6 (.t 0)), 1, [], false⟩, ⟨(.some 2), Option.none, (.mv (.c (.v (.int .i64 0)))), 2, [], false⟩]) (.seq (.ops false [⟨(.some 3),
    Option.none, (.fa 1 (.t 1)), 3, [], false⟩, ⟨(.some 4), Option.none, (.ld 1 false (.t 3)), 4, [], false⟩, ⟨(.some 5), Option.none, (.len (.t 4)), 5, [], false⟩, ⟨(.some 6),
    Option.none, (.fa 2 (.t 1)), 6, [], false⟩, ⟨(.some 7), Option.none, (.ld 1 false (.t 6)), 7, [], false⟩, ⟨(.some 8), Option.none, (.len (.t 7)), 8, [], false⟩, ⟨(.some 9),
    Option.none, (.bin .add (.t 5) (.t 8)), 9, [], false⟩, ⟨(.some 2), Option.none, (.mv (.t 9)), 2, [], false⟩]) .ret))
def r49 : List RV := [(.tmp 2)]
theorem c49_ok : ∃ code, Try.f49.body = some code ∧ compC Try.prog Try.f49.ntmps code = some (C.strip c49) := ⟨_, rfl, by kernel_rfl⟩
theorem r49_ok : compRes Try.prog Try.f49.results.toList = some r49 := by kernel_rfl
theorem f49_ok : fnOk Try.prog 49 = true := by kernel_rfl
def c50_1 : C := (.ops false [⟨(.some 37), Option.none, (.bin .add (.t 14) (.c (.v (.int .i64 1)))), 37, [], false⟩, ⟨(.some 14), Option.none, (.mv (.t 37)), 14, [], false⟩])
def c50_2 : C := (.seq (.block 1 (.seq (.ops false [⟨(.some 16), Option.none, (.iaS 5 (.t 12) (.t 14)), 16, [], false⟩, ⟨(.some 17), Option.none, (.ld 5 true (.t 16)), 17, [], false⟩, ⟨(.some 11),
    Option.none, (.new [(.v (.int .i64 0)), (.v (.int .i64 0)), (.v (.int .i64 0)), (.v (.int .i64 0)), (.v (.int .i64 0))]), 11, [], false⟩, ⟨Option.none, Option.none, (.st 5 (.t 11)
    (.t 17)), 0, [], false⟩]) (.seq (.ops false [⟨(.some 18), Option.none, (.fa 0 (.t 11)), 18, [], false⟩, ⟨(.some 19), Option.none, (.ld 1 false (.t 18)), 19, [], false⟩,
    ⟨(.some 20), Option.none, (.mv (.t 1)), 20, [], false⟩, ⟨(.some 21), Option.none, (.bin .eql (.t 19) (.t 20)), 21, [], false⟩, ⟨(.some 22), Option.none, (.mv (.t 21)), 22, [],
    false⟩, ⟨(.some 23), (.some (22, true)), (.fa 1 (.t 11)), 23, [], false⟩, ⟨(.some 24), (.some (22, true)), (.ld 1 false (.t 23)), 24, [], false⟩, ⟨(.some 25), (.some (22, true)),
    (.mv (.t 2)), 25, [], false⟩, ⟨(.some 26), (.some (22, true)), (.bin .eql (.t 24) (.t 25)), 26, [], false⟩, ⟨(.some 27), Option.none, (.pick (.t 22) (.t 26)
    (.c (.v (.bool false)))), 27, [], false⟩, ⟨(.some 28), Option.none, (.mv (.t 27)), 28, [], false⟩, ⟨(.some 29), (.some (28, true)), (.ld 5 true (.t 11)), 29, [], false⟩,
    ⟨(.some 30), (.some (28, true)), (.mv (.t 3)), 30, [], false⟩, ⟨(.some 31), (.some (28, true)), (.call 79 [(.t 29), (.t 30)]), 31, [], true⟩, ⟨(.some 32), Option.none,
    (.pick (.t 28) (.t 31) (.c (.v (.bool false)))), 32, [], false⟩]) (.cond (.t 32) (.ops false [⟨(.some 33), Option.none, (.mv (.t 9)), 33, [], false⟩, ⟨(.some 34), Option.none,
    (.fa 2 (.t 11)), 34, [], false⟩, ⟨(.some 35), Option.none, (.ld 1 false (.t 34)), 35, [], false⟩, ⟨(.some 36), Option.none, (.bin .add (.t 33) (.t 35)), 36, [], false⟩, ⟨(.some 9),
    Option.none, (.mv (.t 36)), 9, [], false⟩]) .skip)))) c50_1)
def c50_3 : C := (.seq (.ops false [⟨(.some 15), Option.none, (.bin .lss (.t 14) (.t 13)), 15, [], false⟩]) (.seq (.cond (.t 15) .skip (.exit 0)) c50_2))
def c50_4 : C := (.seq (.ops false [⟨(.some 38), Option.none, (.mv (.t 9)), 38, [], false⟩, ⟨(.some 8), Option.none, (.mv (.t 38)), 8, [], false⟩]) .ret)
def c50 : C := (.seq (.ops false [⟨(.some 8), Option.none, (.mv (.c (.v (.int .i64 0)))), 8, [], false⟩]) (.seq (.ops false [⟨(.some 9), Option.none, (.mv (.c (.v (.int .i64 0)))), 9, [],
    false⟩]) (.seq (.seq (.ops false [⟨(.some 12), Option.none, (.mv (.t 0)), 12, [], false⟩, ⟨(.some 13), Option.none, (.len (.t 12)), 13, [], false⟩, ⟨(.some 14), Option.none,
    (.mv (.c (.v (.int .i64 0)))), 14, [], false⟩]) (.block 0 (.loop c50_3))) c50_4)))
def r50 : List RV := [(.tmp 8)]
theorem c50_ok : ∃ code, Try.f50.body = some code ∧ compC Try.prog Try.f50.ntmps code = some (C.strip c50) := ⟨_, rfl, by kernel_rfl⟩
theorem r50_ok : compRes Try.prog Try.f50.results.toList = some r50 := by kernel_rfl
theorem f50_ok : fnOk Try.prog 50 = true := by kernel_rfl
def c51_1 : C := (.seq (.ops false [⟨(.some 9), Option.none, (.mv (.t 0)), 9, [], false⟩, ⟨(.some 10), Option.none, (.mkf 80 [] [(.t 5), (.t 6), (.t 7)]), 10, [], false⟩, ⟨(.some 11), Option.none,
    (.call 55 [(.t 9), (.t 10)]), 11, [], true⟩, ⟨(.some 8), Option.none, (.mv (.t 11)), 8, [], false⟩]) .ret)
def c51 : C := (.seq (.ops false [⟨(.some 5), Option.none, (.box 1 (.t 1)), 5, [], false⟩, ⟨(.some 6), Option.none, (.box 1 (.t 2)), 6, [], false⟩, ⟨(.some 7), Option.none, (.box 1 (.t 3)), 7,
    [], false⟩, ⟨(.some 8), Option.none, (.mv (.c (.v (.bool false)))), 8, [], false⟩]) (.weak c51_1))
def r51 : List RV := [(.tmp 8)]
theorem c51_ok : ∃ code, Try.f51.body = some code ∧ compC Try.prog Try.f51.ntmps code = some (C.strip c51) := ⟨_, rfl, by kernel_rfl⟩
theorem r51_ok : compRes Try.prog Try.f51.results.toList = some r51 := by kernel_rfl
theorem f51_ok : fnOk Try.prog 51 = true := by kernel_rfl
def c79 : C := (.seq (.ops false [⟨(.some 2), Option.none, (.box 5 (.t 0)), 2, [], false⟩, ⟨(.some 4), Option.none, (.mv (.c (.v (.bool false)))), 4, [], false⟩]) (.seq (.ops false [⟨(.some 5),
    Option.none, (.fa 3 (.t 2)), 5, [], false⟩, ⟨(.some 6), Option.none, (.ld 1 false (.t 5)), 6, [], false⟩, ⟨(.some 7), Option.none, (.mv (.t 1)), 7, [], false⟩, ⟨(.some 8),
    Option.none, (.bin .leq (.t 6) (.t 7)), 8, [], false⟩, ⟨(.some 9), Option.none, (.mv (.t 8)), 9, [], false⟩, ⟨(.some 10), (.some (9, true)), (.mv (.t 1)), 10, [], false⟩,
    ⟨(.some 11), (.some (9, true)), (.fa 4 (.t 2)), 11, [], false⟩, ⟨(.some 12), (.some (9, true)), (.ld 1 false (.t 11)), 12, [], false⟩, ⟨(.some 13), (.some (9, true)),
    (.bin .lss (.t 10) (.t 12)), 13, [], false⟩, ⟨(.some 14), Option.none, (.pick (.t 9) (.t 13) (.c (.v (.bool false)))), 14, [], false⟩, ⟨(.some 4), Option.none, (.mv (.t 14)), 4,
    [], false⟩]) .ret))
def r79 : List RV := [(.tmp 4)]
theorem c79_ok : ∃ code, Try.f79.body = some code ∧ compC Try.prog Try.f79.ntmps code = some (C.strip c79) := ⟨_, rfl, by kernel_rfl⟩
theorem r79_ok : compRes Try.prog Try.f79.results.toList = some r79 := by kernel_rfl
theorem f79_ok : fnOk Try.prog 79 = true := by kernel_rfl
def c80 : C := (.seq (.ops false [⟨(.some 4), Option.none, (.box 5 (.t 0)), 4, [], false⟩, ⟨(.some 5), Option.none, (.mv (.c (.v (.bool false)))), 5, [], false⟩]) (.seq (.ops false [⟨(.some 6),
    Option.none, (.fa 0 (.t 4)), 6, [], false⟩, ⟨(.some 7), Option.none, (.ld 1 false (.t 6)), 7, [], false⟩, ⟨(.some 8), Option.none, (.ld 1 false (.t 1)), 8, [], false⟩, ⟨(.some 9),
    Option.none, (.bin .eql (.t 7) (.t 8)), 9, [], false⟩, ⟨(.some 10), Option.none, (.mv (.t 9)), 10, [], false⟩, ⟨(.some 11), (.some (10, true)), (.fa 1 (.t 4)), 11, [], false⟩,
    ⟨(.some 12), (.some (10, true)), (.ld 1 false (.t 11)), 12, [], false⟩, ⟨(.some 13), (.some (10, true)), (.ld 1 false (.t 2)), 13, [], false⟩, ⟨(.some 14), (.some (10, true)),
    (.bin .eql (.t 12) (.t 13)), 14, [], false⟩, ⟨(.some 15), Option.none, (.pick (.t 10) (.t 14) (.c (.v (.bool false)))), 15, [], false⟩, ⟨(.some 16), Option.none, (.mv (.t 15)), 16,
    [], false⟩, ⟨(.some 17), (.some (16, true)), (.ld 5 true (.t 4)), 17, [], false⟩, ⟨(.some 18), (.some (16, true)), (.ld 1 false (.t 3)), 18, [], false⟩, ⟨(.some 19), (.some (16,
    true)), (.call 79 [(.t 17), (.t 18)]), 19, [], true⟩, ⟨(.some 20), Option.none, (.pick (.t 16) (.t 19) (.c (.v (.bool false)))), 20, [], false⟩, ⟨(.some 5), Option.none,
    (.mv (.t 20)), 5, [], false⟩]) .ret))
def r80 : List RV := [(.tmp 5)]
theorem c80_ok : ∃ code, Try.f80.body = some code ∧ compC Try.prog Try.f80.ntmps code = some (C.strip c80) := ⟨_, rfl, by kernel_rfl⟩
theorem r80_ok : compRes Try.prog Try.f80.results.toList = some r80 := by kernel_rfl
theorem f80_ok : fnOk Try.prog 80 = true := by kernel_rfl
end Go.Proofs.Ytiaenojpbiahgaa
