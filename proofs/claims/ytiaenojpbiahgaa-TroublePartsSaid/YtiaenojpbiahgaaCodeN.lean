/- Compiled code of some functions (printed by a program), each checked by the kernel. -/
import Derived.Test.YtiaenojpbiahgaaV3
import Derived.Test.YtiaenojpbiahgaaProg
namespace Go.Proofs.Ytiaenojpbiahgaa
open Go
set_option maxRecDepth 100000
def c37_1 : C := (.ops false [⟨(.some 62), Option.none, (.bin .add (.t 53) (.c (.v (.int .i64 1)))), 62, [], false⟩, ⟨(.some 53), Option.none, (.mv (.t 62)), 53, [], false⟩])
def c37_2 : C := (.seq (.block 1 (.seq (.ops false [⟨(.some 55), Option.none, (.iaS 7 (.t 51) (.t 53)), 55, [], false⟩, ⟨(.some 56), Option.none, (.ld 7 true (.t 55)), 56, [], false⟩, ⟨(.some 4),
    Option.none, (.new [(.v (.string ({ data := #[] }))), (.v (.int .i64 0)), (.v (.int .i64 0)), (.v (.int .i64 0)), (.v (.int .i64 0)), (.v (.int .i64 0)), .mt]), 4, [], false⟩,
    ⟨Option.none, Option.none, (.st 7 (.t 4) (.t 56)), 0, [], false⟩]) (.seq (.ops false [⟨(.some 57), Option.none, (.fa 6 (.t 4)), 57, [], false⟩, ⟨(.some 58), Option.none,
    (.ld 1 false (.t 57)), 58, [], false⟩, ⟨(.some 59), Option.none, (.len (.t 58)), 59, [], false⟩, ⟨(.some 60), Option.none, (.call 71 [(.t 59), (.c (.v (.int .i64 2))),
    (.c (.v (.int .i64 8)))]), 60, [], true⟩, ⟨(.some 61), Option.none, (.not (.t 60)), 61, [], false⟩]) (.cond (.t 61) (.seq (.ops false [⟨(.some 2), Option.none,
    (.mv (.c (.v (.int .i64 4)))), 2, [], false⟩]) .ret) .skip)))) c37_1)
def c37_3 : C := (.seq (.ops false [⟨(.some 54), Option.none, (.bin .lss (.t 53) (.t 52)), 54, [], false⟩]) (.seq (.cond (.t 54) .skip (.exit 0)) c37_2))
def c37_4 : C := (.ops false [⟨(.some 78), Option.none, (.bin .add (.t 71) (.c (.v (.int .i64 1)))), 78, [], false⟩, ⟨(.some 71), Option.none, (.mv (.t 78)), 71, [], false⟩])
def c37_5 : C := (.seq (.block 5 (.seq (.ops false [⟨(.some 73), Option.none, (.iaS 1 (.t 69) (.t 71)), 73, [], false⟩, ⟨(.some 74), Option.none, (.ld 1 false (.t 73)), 74, [], false⟩, ⟨(.some 9),
    Option.none, (.mv (.t 74)), 9, [], false⟩]) (.seq (.ops false [⟨(.some 75), Option.none, (.mv (.t 9)), 75, [], false⟩, ⟨(.some 76), Option.none, (.call 73 [(.t 75)]), 76, [],
    true⟩, ⟨(.some 77), Option.none, (.not (.t 76)), 77, [], false⟩]) (.cond (.t 77) (.seq (.ops false [⟨(.some 2), Option.none, (.mv (.c (.v (.int .i64 3)))), 2, [], false⟩]) .ret)
    .skip)))) c37_4)
def c37_6 : C := (.seq (.ops false [⟨(.some 72), Option.none, (.bin .lss (.t 71) (.t 70)), 72, [], false⟩]) (.seq (.cond (.t 72) .skip (.exit 4)) c37_5))
def c37_7 : C := (.ops false [⟨(.some 79), Option.none, (.bin .add (.t 66) (.c (.v (.int .i64 1)))), 79, [], false⟩, ⟨(.some 66), Option.none, (.mv (.t 79)), 66, [], false⟩])
def c37_8 : C := (.seq (.block 3 (.seq (.ops false [⟨(.some 68), Option.none, (.ixA 4 1 false (.t 65) (.t 66)), 68, [], false⟩, ⟨(.some 7), Option.none, (.mv (.t 68)), 7, [], false⟩])
    (.seq (.ops false [⟨(.some 69), Option.none, (.mv (.t 7)), 69, [], false⟩, ⟨(.some 70), Option.none, (.len (.t 69)), 70, [], false⟩, ⟨(.some 71), Option.none,
    (.mv (.c (.v (.int .i64 0)))), 71, [], false⟩]) (.block 4 (.loop c37_6))))) c37_7)
def c37_9 : C := (.seq (.ops false [⟨(.some 67), Option.none, (.bin .lss (.t 66) (.c (.v (.int .i64 4)))), 67, [], false⟩]) (.seq (.cond (.t 67) .skip (.exit 2)) c37_8))
def c37_10 : C := (.ops false [⟨(.some 86), Option.none, (.bin .add (.t 81) (.c (.v (.int .i64 1)))), 86, [], false⟩, ⟨(.some 81), Option.none, (.mv (.t 86)), 81, [], false⟩])
def c37_11 : C := (.seq (.block 7 (.seq (.ops false [⟨(.some 83), Option.none, (.ixA 4 1 false (.t 80) (.t 81)), 83, [], false⟩, ⟨(.some 11), Option.none, (.mv (.t 83)), 11, [], false⟩])
    (.seq (.ops false [⟨(.some 84), Option.none, (.mv (.t 11)), 84, [], false⟩, ⟨(.some 85), Option.none, (.call 74 [(.t 84)]), 85, [], true⟩]) (.cond (.t 85)
    (.seq (.ops false [⟨(.some 2), Option.none, (.mv (.c (.v (.int .i64 7)))), 2, [], false⟩]) .ret) .skip)))) c37_10)
def c37_12 : C := (.seq (.ops false [⟨(.some 82), Option.none, (.bin .lss (.t 81) (.c (.v (.int .i64 4)))), 82, [], false⟩]) (.seq (.cond (.t 82) .skip (.exit 6)) c37_11))
def c37_13 : C := (.ops false [⟨(.some 96), Option.none, (.mv (.t 13)), 96, [], false⟩, ⟨(.some 97), Option.none, (.bin .add (.t 96) (.c (.v (.int .i64 1)))), 97, [], false⟩, ⟨(.some 13),
    Option.none, (.mv (.t 97)), 13, [], false⟩])
def c37_14 : C := (.seq (.block 11 (.seq (.ops true [⟨(.some 98), Option.none, (.fa 3 (.t 1)), 98, [], false⟩, ⟨(.some 99), Option.none, (.ld 1 false (.t 98)), 99, [0], false⟩, ⟨(.some 100),
    Option.none, (.mv (.t 12)), 100, [], false⟩, ⟨(.some 101), Option.none, (.iaS 5 (.t 99) (.t 100)), 101, [0, 2, 1], false⟩, ⟨(.some 102), Option.none, (.fa 1 (.t 101)), 102, [1, 2,
    0, 3], false⟩, ⟨(.some 103), Option.none, (.ld 1 false (.t 102)), 103, [3, 0, 2, 1, 4], false⟩, ⟨(.some 104), Option.none, (.fa 3 (.t 1)), 104, [], false⟩, ⟨(.some 105),
    Option.none, (.ld 1 false (.t 104)), 105, [6], false⟩, ⟨(.some 106), Option.none, (.mv (.t 13)), 106, [], false⟩, ⟨(.some 107), Option.none, (.iaS 5 (.t 105) (.t 106)), 107, [6, 8,
    7], false⟩, ⟨(.some 108), Option.none, (.fa 1 (.t 107)), 108, [7, 8, 6, 9], false⟩, ⟨(.some 109), Option.none, (.ld 1 false (.t 108)), 109, [9, 6, 8, 7, 10], false⟩, ⟨(.some 110),
    Option.none, (.bin .eql (.t 103) (.t 109)), 110, [10, 7, 8, 6, 9, 4, 1, 2, 0, 3, 11, 5], false⟩]) (.cond (.t 110) (.seq (.ops false [⟨(.some 2), Option.none,
    (.mv (.c (.v (.int .i64 7)))), 2, [], false⟩]) .ret) .skip))) c37_13)
def c37_15 : C := (.seq (.seq (.ops false [⟨(.some 93), Option.none, (.mv (.t 13)), 93, [], false⟩, ⟨(.some 94), Option.none, (.mv (.t 12)), 94, [], false⟩, ⟨(.some 95), Option.none,
    (.bin .lss (.t 93) (.t 94)), 95, [], false⟩]) (.cond (.t 95) .skip (.exit 10))) c37_14)
def c37_16 : C := (.ops false [⟨(.some 111), Option.none, (.bin .add (.t 90) (.c (.v (.int .i64 1)))), 111, [], false⟩, ⟨(.some 90), Option.none, (.mv (.t 111)), 90, [], false⟩])
def c37_17 : C := (.seq (.block 9 (.seq (.ops false [⟨(.some 92), Option.none, (.mv (.t 90)), 92, [], false⟩, ⟨(.some 12), Option.none, (.mv (.t 92)), 12, [], false⟩])
    (.seq (.ops false [⟨(.some 13), Option.none, (.mv (.c (.v (.int .i64 0)))), 13, [], false⟩]) (.block 10 (.loop c37_15))))) c37_16)
def c37_18 : C := (.seq (.ops false [⟨(.some 91), Option.none, (.bin .lss (.t 90) (.t 89)), 91, [], false⟩]) (.seq (.cond (.t 91) .skip (.exit 8)) c37_17))
def c37_19 : C := (.ops false [⟨(.some 135), Option.none, (.bin .add (.t 119) (.c (.v (.int .i64 1)))), 135, [], false⟩, ⟨(.some 119), Option.none, (.mv (.t 135)), 119, [], false⟩])
def c37_20 : C := (.seq (.block 13 (.seq (.ops false [⟨(.some 121), Option.none, (.iaS 7 (.t 117) (.t 119)), 121, [], false⟩, ⟨(.some 122), Option.none, (.ld 7 true (.t 121)), 122, [], false⟩,
    ⟨(.some 16), Option.none, (.new [(.v (.string ({ data := #[] }))), (.v (.int .i64 0)), (.v (.int .i64 0)), (.v (.int .i64 0)), (.v (.int .i64 0)), (.v (.int .i64 0)), .mt]), 16,
    [], false⟩, ⟨Option.none, Option.none, (.st 7 (.t 16) (.t 122)), 0, [], false⟩]) (.seq (.ops false [⟨(.some 123), Option.none, (.fa 1 (.t 16)), 123, [], false⟩, ⟨(.some 124),
    Option.none, (.ld 1 false (.t 123)), 124, [], false⟩, ⟨(.some 125), Option.none, (.mv (.t 14)), 125, [], false⟩, ⟨(.some 126), Option.none, (.call 71 [(.t 124),
    (.c (.v (.int .i64 0))), (.t 125)]), 126, [], true⟩, ⟨(.some 127), Option.none, (.not (.t 126)), 127, [], false⟩, ⟨(.some 128), Option.none, (.mv (.t 127)), 128, [], false⟩,
    ⟨(.some 129), (.some (128, false)), (.fa 2 (.t 16)), 129, [], false⟩, ⟨(.some 130), (.some (128, false)), (.ld 1 false (.t 129)), 130, [], false⟩, ⟨(.some 131), (.some (128,
    false)), (.mv (.t 14)), 131, [], false⟩, ⟨(.some 132), (.some (128, false)), (.call 71 [(.t 130), (.c (.v (.int .i64 0))), (.t 131)]), 132, [], true⟩, ⟨(.some 133), (.some (128,
    false)), (.not (.t 132)), 133, [], false⟩, ⟨(.some 134), Option.none, (.pick (.t 128) (.c (.v (.bool true))) (.t 133)), 134, [], false⟩]) (.cond (.t 134)
    (.seq (.ops false [⟨(.some 2), Option.none, (.mv (.c (.v (.int .i64 8)))), 2, [], false⟩]) .ret) .skip)))) c37_19)
def c37_21 : C := (.seq (.ops false [⟨(.some 120), Option.none, (.bin .lss (.t 119) (.t 118)), 120, [], false⟩]) (.seq (.cond (.t 120) .skip (.exit 12)) c37_20))
def c37_22 : C := (.ops false [⟨(.some 148), Option.none, (.bin .add (.t 139) (.c (.v (.int .i64 1)))), 148, [], false⟩, ⟨(.some 139), Option.none, (.mv (.t 148)), 139, [], false⟩])
def c37_23 : C := (.seq (.block 15 (.seq (.ops false [⟨(.some 141), Option.none, (.iaS 3 (.t 137) (.t 139)), 141, [], false⟩, ⟨(.some 142), Option.none, (.ld 3 true (.t 141)), 142, [], false⟩,
    ⟨(.some 18), Option.none, (.new [(.v (.string ({ data := #[] }))), (.v (.int .i64 0)), (.v (.int .i64 0))]), 18, [], false⟩, ⟨Option.none, Option.none, (.st 3 (.t 18) (.t 142)), 0,
    [], false⟩]) (.seq (.ops false [⟨(.some 143), Option.none, (.fa 1 (.t 18)), 143, [], false⟩, ⟨(.some 144), Option.none, (.ld 1 false (.t 143)), 144, [], false⟩, ⟨(.some 145),
    Option.none, (.mv (.t 14)), 145, [], false⟩, ⟨(.some 146), Option.none, (.call 71 [(.t 144), (.c (.v (.int .i64 0))), (.t 145)]), 146, [], true⟩, ⟨(.some 147), Option.none,
    (.not (.t 146)), 147, [], false⟩]) (.cond (.t 147) (.seq (.ops false [⟨(.some 2), Option.none, (.mv (.c (.v (.int .i64 8)))), 2, [], false⟩]) .ret) .skip)))) c37_22)
def c37_24 : C := (.seq (.ops false [⟨(.some 140), Option.none, (.bin .lss (.t 139) (.t 138)), 140, [], false⟩]) (.seq (.cond (.t 140) .skip (.exit 14)) c37_23))
def c37_25 : C := (.ops false [⟨(.some 161), Option.none, (.bin .add (.t 152) (.c (.v (.int .i64 1)))), 161, [], false⟩, ⟨(.some 152), Option.none, (.mv (.t 161)), 152, [], false⟩])
def c37_26 : C := (.seq (.block 17 (.seq (.ops false [⟨(.some 154), Option.none, (.iaS 5 (.t 150) (.t 152)), 154, [], false⟩, ⟨(.some 155), Option.none, (.ld 5 true (.t 154)), 155, [], false⟩,
    ⟨(.some 20), Option.none, (.new [(.v (.string ({ data := #[] }))), (.v (.int .i64 0)), (.v (.int .i64 0)), (.v (.int .i64 0)), (.v (.int .i64 0))]), 20, [], false⟩, ⟨Option.none,
    Option.none, (.st 5 (.t 20) (.t 155)), 0, [], false⟩]) (.seq (.ops false [⟨(.some 156), Option.none, (.fa 1 (.t 20)), 156, [], false⟩, ⟨(.some 157), Option.none,
    (.ld 1 false (.t 156)), 157, [], false⟩, ⟨(.some 158), Option.none, (.mv (.t 14)), 158, [], false⟩, ⟨(.some 159), Option.none, (.call 71 [(.t 157), (.c (.v (.int .i64 0))),
    (.t 158)]), 159, [], true⟩, ⟨(.some 160), Option.none, (.not (.t 159)), 160, [], false⟩]) (.cond (.t 160) (.seq (.ops false [⟨(.some 2), Option.none, (.mv (.c (.v (.int .i64 8)))),
    2, [], false⟩]) .ret) .skip)))) c37_25)
def c37_27 : C := (.seq (.ops false [⟨(.some 153), Option.none, (.bin .lss (.t 152) (.t 151)), 153, [], false⟩]) (.seq (.cond (.t 153) .skip (.exit 16)) c37_26))
def c37_28 : C := (.ops false [⟨(.some 172), Option.none, (.bin .add (.t 165) (.c (.v (.int .i64 1)))), 172, [], false⟩, ⟨(.some 165), Option.none, (.mv (.t 172)), 165, [], false⟩])
def c37_29 : C := (.seq (.block 19 (.seq (.ops false [⟨(.some 167), Option.none, (.iaS 7 (.t 163) (.t 165)), 167, [], false⟩, ⟨(.some 168), Option.none, (.ld 7 true (.t 167)), 168, [], false⟩,
    ⟨(.some 22), Option.none, (.new [(.v (.string ({ data := #[] }))), (.v (.int .i64 0)), (.v (.int .i64 0)), (.v (.int .i64 0)), (.v (.int .i64 0)), (.v (.int .i64 0)), .mt]), 22,
    [], false⟩, ⟨Option.none, Option.none, (.st 7 (.t 22) (.t 168)), 0, [], false⟩]) (.seq (.ops false [⟨(.some 169), Option.none, (.ld 7 true (.t 22)), 169, [], false⟩, ⟨(.some 170),
    Option.none, (.call 75 [(.t 169)]), 170, [], true⟩, ⟨(.some 171), Option.none, (.not (.t 170)), 171, [], false⟩]) (.cond (.t 171) (.seq (.ops false [⟨(.some 2), Option.none,
    (.mv (.c (.v (.int .i64 9)))), 2, [], false⟩]) .ret) .skip)))) c37_28)
def c37_30 : C := (.seq (.ops false [⟨(.some 166), Option.none, (.bin .lss (.t 165) (.t 164)), 166, [], false⟩]) (.seq (.cond (.t 166) .skip (.exit 18)) c37_29))
def c37_31 : C := (.ops false [⟨(.some 184), Option.none, (.bin .add (.t 176) (.c (.v (.int .i64 1)))), 184, [], false⟩, ⟨(.some 176), Option.none, (.mv (.t 184)), 176, [], false⟩])
def c37_32 : C := (.seq (.block 21 (.seq (.ops false [⟨(.some 178), Option.none, (.iaS 3 (.t 174) (.t 176)), 178, [], false⟩, ⟨(.some 179), Option.none, (.ld 3 true (.t 178)), 179, [], false⟩,
    ⟨(.some 24), Option.none, (.new [(.v (.string ({ data := #[] }))), (.v (.int .i64 0)), (.v (.int .i64 0))]), 24, [], false⟩, ⟨Option.none, Option.none, (.st 3 (.t 24) (.t 179)), 0,
    [], false⟩]) (.seq (.ops false [⟨(.some 180), Option.none, (.fa 2 (.t 24)), 180, [], false⟩, ⟨(.some 181), Option.none, (.ld 1 false (.t 180)), 181, [], false⟩, ⟨(.some 182),
    Option.none, (.call 71 [(.t 181), (.c (.v (.int .i64 0))), (.c (.v (.int .i64 100000000)))]), 182, [], true⟩, ⟨(.some 183), Option.none, (.not (.t 182)), 183, [], false⟩])
    (.cond (.t 183) (.seq (.ops false [⟨(.some 2), Option.none, (.mv (.c (.v (.int .i64 9)))), 2, [], false⟩]) .ret) .skip)))) c37_31)
def c37_33 : C := (.seq (.ops false [⟨(.some 177), Option.none, (.bin .lss (.t 176) (.t 175)), 177, [], false⟩]) (.seq (.cond (.t 177) .skip (.exit 20)) c37_32))
def c37_34 : C := (.ops false [⟨(.some 208), Option.none, (.bin .add (.t 188) (.c (.v (.int .i64 1)))), 208, [], false⟩, ⟨(.some 188), Option.none, (.mv (.t 208)), 188, [], false⟩])
def c37_35 : C := (.seq (.block 23 (.seq (.ops false [⟨(.some 190), Option.none, (.iaS 5 (.t 186) (.t 188)), 190, [], false⟩, ⟨(.some 191), Option.none, (.ld 5 true (.t 190)), 191, [], false⟩,
    ⟨(.some 26), Option.none, (.new [(.v (.string ({ data := #[] }))), (.v (.int .i64 0)), (.v (.int .i64 0)), (.v (.int .i64 0)), (.v (.int .i64 0))]), 26, [], false⟩, ⟨Option.none,
    Option.none, (.st 5 (.t 26) (.t 191)), 0, [], false⟩]) (.seq (.ops false [⟨(.some 192), Option.none, (.fa 2 (.t 26)), 192, [], false⟩, ⟨(.some 193), Option.none,
    (.ld 1 false (.t 192)), 193, [], false⟩, ⟨(.some 194), Option.none, (.call 71 [(.t 193), (.c (.v (.int .i64 0))), (.c (.v (.int .i64 100000000)))]), 194, [], true⟩, ⟨(.some 195),
    Option.none, (.not (.t 194)), 195, [], false⟩, ⟨(.some 196), Option.none, (.mv (.t 195)), 196, [], false⟩, ⟨(.some 197), (.some (196, false)), (.fa 3 (.t 26)), 197, [], false⟩,
    ⟨(.some 198), (.some (196, false)), (.ld 1 false (.t 197)), 198, [], false⟩, ⟨(.some 199), (.some (196, false)), (.call 71 [(.t 198), (.c (.v (.int .i64 0))),
    (.c (.v (.int .i64 100000)))]), 199, [], true⟩, ⟨(.some 200), (.some (196, false)), (.not (.t 199)), 200, [], false⟩, ⟨(.some 201), Option.none, (.pick (.t 196)
    (.c (.v (.bool true))) (.t 200)), 201, [], false⟩, ⟨(.some 202), Option.none, (.mv (.t 201)), 202, [], false⟩, ⟨(.some 203), (.some (202, false)), (.fa 4 (.t 26)), 203, [], false⟩,
    ⟨(.some 204), (.some (202, false)), (.ld 1 false (.t 203)), 204, [], false⟩, ⟨(.some 205), (.some (202, false)), (.call 71 [(.t 204), (.c (.v (.int .i64 0))),
    (.c (.v (.int .i64 100000000)))]), 205, [], true⟩, ⟨(.some 206), (.some (202, false)), (.not (.t 205)), 206, [], false⟩, ⟨(.some 207), Option.none, (.pick (.t 202)
    (.c (.v (.bool true))) (.t 206)), 207, [], false⟩]) (.cond (.t 207) (.seq (.ops false [⟨(.some 2), Option.none, (.mv (.c (.v (.int .i64 9)))), 2, [], false⟩]) .ret) .skip))))
    c37_34)
def c37_36 : C := (.seq (.ops false [⟨(.some 189), Option.none, (.bin .lss (.t 188) (.t 187)), 189, [], false⟩]) (.seq (.cond (.t 189) .skip (.exit 22)) c37_35))
def c37_37 : C := (.seq (.ops false [⟨(.some 2), Option.none, (.mv (.c (.v (.int .i64 0)))), 2, [], false⟩]) .ret)
def c37_38 : C := (.seq (.seq (.ops false [⟨(.some 209), Option.none, (.fa 4 (.t 1)), 209, [], false⟩, ⟨(.some 210), Option.none, (.ld 1 false (.t 209)), 210, [], false⟩, ⟨(.some 211), Option.none,
    (.call 71 [(.t 210), (.c (.v (.int .i64 (-100000)))), (.c (.v (.int .i64 100000000)))]), 211, [], true⟩, ⟨(.some 212), Option.none, (.not (.t 211)), 212, [], false⟩, ⟨(.some 213),
    Option.none, (.mv (.t 212)), 213, [], false⟩, ⟨(.some 214), (.some (213, false)), (.fa 5 (.t 1)), 214, [], false⟩, ⟨(.some 215), (.some (213, false)), (.ld 1 false (.t 214)), 215,
    [], false⟩, ⟨(.some 216), (.some (213, false)), (.call 71 [(.t 215), (.c (.v (.int .i64 0))), (.c (.v (.int .i64 100)))]), 216, [], true⟩, ⟨(.some 217), (.some (213, false)),
    (.not (.t 216)), 217, [], false⟩, ⟨(.some 218), Option.none, (.pick (.t 213) (.c (.v (.bool true))) (.t 217)), 218, [], false⟩]) (.cond (.t 218) (.seq (.ops false [⟨(.some 2),
    Option.none, (.mv (.c (.v (.int .i64 9)))), 2, [], false⟩]) .ret) .skip)) c37_37)
def c37_39 : C := (.seq (.seq (.ops false [⟨(.some 185), Option.none, (.fa 3 (.t 1)), 185, [], false⟩, ⟨(.some 186), Option.none, (.ld 1 false (.t 185)), 186, [], false⟩, ⟨(.some 187), Option.none,
    (.len (.t 186)), 187, [], false⟩, ⟨(.some 188), Option.none, (.mv (.c (.v (.int .i64 0)))), 188, [], false⟩]) (.block 22 (.loop c37_36))) c37_38)
def c37_40 : C := (.seq (.seq (.ops false [⟨(.some 173), Option.none, (.fa 2 (.t 1)), 173, [], false⟩, ⟨(.some 174), Option.none, (.ld 1 false (.t 173)), 174, [], false⟩, ⟨(.some 175), Option.none,
    (.len (.t 174)), 175, [], false⟩, ⟨(.some 176), Option.none, (.mv (.c (.v (.int .i64 0)))), 176, [], false⟩]) (.block 20 (.loop c37_33))) c37_39)
def c37_41 : C := (.seq (.seq (.ops false [⟨(.some 162), Option.none, (.fa 1 (.t 1)), 162, [], false⟩, ⟨(.some 163), Option.none, (.ld 1 false (.t 162)), 163, [], false⟩, ⟨(.some 164), Option.none,
    (.len (.t 163)), 164, [], false⟩, ⟨(.some 165), Option.none, (.mv (.c (.v (.int .i64 0)))), 165, [], false⟩]) (.block 18 (.loop c37_30))) c37_40)
def c37_42 : C := (.seq (.seq (.ops false [⟨(.some 149), Option.none, (.fa 3 (.t 1)), 149, [], false⟩, ⟨(.some 150), Option.none, (.ld 1 false (.t 149)), 150, [], false⟩, ⟨(.some 151), Option.none,
    (.len (.t 150)), 151, [], false⟩, ⟨(.some 152), Option.none, (.mv (.c (.v (.int .i64 0)))), 152, [], false⟩]) (.block 16 (.loop c37_27))) c37_41)
def c37_43 : C := (.seq (.seq (.ops false [⟨(.some 136), Option.none, (.fa 2 (.t 1)), 136, [], false⟩, ⟨(.some 137), Option.none, (.ld 1 false (.t 136)), 137, [], false⟩, ⟨(.some 138), Option.none,
    (.len (.t 137)), 138, [], false⟩, ⟨(.some 139), Option.none, (.mv (.c (.v (.int .i64 0)))), 139, [], false⟩]) (.block 14 (.loop c37_24))) c37_42)
def c37_44 : C := (.seq (.ops false [⟨(.some 112), Option.none, (.fa 0 (.t 1)), 112, [], false⟩, ⟨(.some 113), Option.none, (.ld 1 false (.t 112)), 113, [], false⟩, ⟨(.some 114), Option.none,
    (.len (.t 113)), 114, [], false⟩, ⟨(.some 115), Option.none, (.bin .sub (.t 114) (.c (.v (.int .i64 1)))), 115, [], false⟩, ⟨(.some 14), Option.none, (.mv (.t 115)), 14, [],
    false⟩]) (.seq (.seq (.ops false [⟨(.some 116), Option.none, (.fa 1 (.t 1)), 116, [], false⟩, ⟨(.some 117), Option.none, (.ld 1 false (.t 116)), 117, [], false⟩, ⟨(.some 118),
    Option.none, (.len (.t 117)), 118, [], false⟩, ⟨(.some 119), Option.none, (.mv (.c (.v (.int .i64 0)))), 119, [], false⟩]) (.block 12 (.loop c37_21))) c37_43))
def c37_45 : C := (.seq (.seq (.ops false [⟨(.some 87), Option.none, (.fa 3 (.t 1)), 87, [], false⟩, ⟨(.some 88), Option.none, (.ld 1 false (.t 87)), 88, [], false⟩, ⟨(.some 89), Option.none,
    (.len (.t 88)), 89, [], false⟩, ⟨(.some 90), Option.none, (.mv (.c (.v (.int .i64 0)))), 90, [], false⟩]) (.block 8 (.loop c37_18))) c37_44)
def c37_46 : C := (.seq (.seq (.ops false [⟨(.some 80), Option.none, (.ld 4 true (.t 5)), 80, [], false⟩, ⟨(.some 81), Option.none, (.mv (.c (.v (.int .i64 0)))), 81, [], false⟩])
    (.block 6 (.loop c37_12))) c37_45)
def c37_47 : C := (.seq (.ops false [⟨(.some 63), Option.none, (.ld 6 true (.t 1)), 63, [], false⟩, ⟨(.some 64), Option.none, (.call 72 [(.t 63)]), 64, [], false⟩, ⟨(.some 5), Option.none,
    (.new [.mt, .mt, .mt, .mt]), 5, [], false⟩, ⟨Option.none, Option.none, (.st 4 (.t 5) (.t 64)), 0, [], false⟩]) (.seq (.seq (.ops false [⟨(.some 65), Option.none,
    (.ld 4 true (.t 5)), 65, [], false⟩, ⟨(.some 66), Option.none, (.mv (.c (.v (.int .i64 0)))), 66, [], false⟩]) (.block 2 (.loop c37_9))) c37_46))
def c37_48 : C := (.seq (.seq (.ops false [⟨(.some 50), Option.none, (.fa 1 (.t 1)), 50, [], false⟩, ⟨(.some 51), Option.none, (.ld 1 false (.t 50)), 51, [], false⟩, ⟨(.some 52), Option.none,
    (.len (.t 51)), 52, [], false⟩, ⟨(.some 53), Option.none, (.mv (.c (.v (.int .i64 0)))), 53, [], false⟩]) (.block 0 (.loop c37_3))) c37_47)
def c37 : C := (.seq (.ops false [⟨(.some 1), Option.none, (.box 6 (.t 0)), 1, [], false⟩, ⟨(.some 2), Option.none, (.mv (.c (.v (.int .i64 0)))), 2, [], false⟩])
    (.seq (.seq (.ops false [⟨(.some 27), Option.none, (.fa 0 (.t 1)), 27, [], false⟩, ⟨(.some 28), Option.none, (.ld 1 false (.t 27)), 28, [], false⟩, ⟨(.some 29), Option.none,
    (.len (.t 28)), 29, [], false⟩, ⟨(.some 30), Option.none, (.call 71 [(.t 29), (.c (.v (.int .i64 1))), (.c (.v (.int .i64 24)))]), 30, [], true⟩, ⟨(.some 31), Option.none,
    (.not (.t 30)), 31, [], false⟩, ⟨(.some 32), Option.none, (.mv (.t 31)), 32, [], false⟩, ⟨(.some 33), (.some (32, false)), (.fa 1 (.t 1)), 33, [], false⟩, ⟨(.some 34), (.some (32,
    false)), (.ld 1 false (.t 33)), 34, [], false⟩, ⟨(.some 35), (.some (32, false)), (.len (.t 34)), 35, [], false⟩, ⟨(.some 36), (.some (32, false)), (.bin .gtr (.t 35)
    (.c (.v (.int .i64 32)))), 36, [], false⟩, ⟨(.some 37), Option.none, (.pick (.t 32) (.c (.v (.bool true))) (.t 36)), 37, [], false⟩, ⟨(.some 38), Option.none, (.mv (.t 37)), 38,
    [], false⟩, ⟨(.some 39), (.some (38, false)), (.fa 2 (.t 1)), 39, [], false⟩, ⟨(.some 40), (.some (38, false)), (.ld 1 false (.t 39)), 40, [], false⟩, ⟨(.some 41), (.some (38,
    false)), (.len (.t 40)), 41, [], false⟩, ⟨(.some 42), (.some (38, false)), (.bin .gtr (.t 41) (.c (.v (.int .i64 24)))), 42, [], false⟩, ⟨(.some 43), Option.none, (.pick (.t 38)
    (.c (.v (.bool true))) (.t 42)), 43, [], false⟩, ⟨(.some 44), Option.none, (.mv (.t 43)), 44, [], false⟩, ⟨(.some 45), (.some (44, false)), (.fa 3 (.t 1)), 45, [], false⟩,
    ⟨(.some 46), (.some (44, false)), (.ld 1 false (.t 45)), 46, [], false⟩, ⟨(.some 47), (.some (44, false)), (.len (.t 46)), 47, [], false⟩, ⟨(.some 48), (.some (44, false)),
    (.bin .gtr (.t 47) (.c (.v (.int .i64 12)))), 48, [], false⟩, ⟨(.some 49), Option.none, (.pick (.t 44) (.c (.v (.bool true))) (.t 48)), 49, [], false⟩]) (.cond (.t 49)
    (.seq (.ops false [⟨(.some 2), Option.none, (.mv (.c (.v (.int .i64 4)))), 2, [], false⟩]) .ret) .skip)) c37_48))
def r37 : List RV := [(.tmp 2)]
theorem c37_ok : ∃ code, Try.f37.body = some code ∧ compC Try.prog Try.f37.ntmps code = some (C.strip c37) := ⟨_, rfl, by kernel_rfl⟩
theorem r37_ok : compRes Try.prog Try.f37.results.toList = some r37 := by kernel_rfl
theorem f37_ok : fnOk Try.prog 37 = true := by kernel_rfl
def c54_1 : C := (.ops false [⟨(.some 15), Option.none, (.bin .add (.t 10) (.c (.v (.int .i64 1)))), 15, [], false⟩, ⟨(.some 10), Option.none, (.mv (.t 15)), 10, [], false⟩])
def c54_2 : C := (.seq (.block 1 (.seq (.ops false [⟨(.some 12), Option.none, (.ixA 4 1 false (.t 9) (.t 10)), 12, [], false⟩, ⟨(.some 4), Option.none, (.mv (.t 12)), 4, [], false⟩])
    (.seq (.ops false [⟨(.some 13), Option.none, (.mv (.t 4)), 13, [], false⟩, ⟨(.some 14), Option.none, (.call 83 [(.t 13), (.c (.clo 84 [] []))]), 14, [], true⟩]) (.cond (.t 14)
    (.seq (.ops false [⟨(.some 2), Option.none, (.mv (.c (.v (.int .i64 3)))), 2, [], false⟩]) .ret) .skip)))) c54_1)
def c54_3 : C := (.seq (.ops false [⟨(.some 11), Option.none, (.bin .lss (.t 10) (.c (.v (.int .i64 4)))), 11, [], false⟩]) (.seq (.cond (.t 11) .skip (.exit 0)) c54_2))
def c54_4 : C := (.seq (.ops false [⟨(.some 2), Option.none, (.mv (.c (.v (.int .i64 0)))), 2, [], false⟩]) .ret)
def c54_5 : C := (.seq (.block 2 (.seq (.ops false [⟨(.some 17), Option.none, (.ld 6 true (.t 1)), 17, [], false⟩, ⟨(.some 18), Option.none, (.call 86 [(.t 17)]), 18, [], true⟩, ⟨(.some 16),
    Option.none, (.mv (.t 18)), 16, [], false⟩]) (.cond (.t 16) (.seq (.ops false [⟨(.some 2), Option.none, (.mv (.c (.v (.int .i64 7)))), 2, [], false⟩]) .ret)
    (.seq (.ops false [⟨(.some 20), Option.none, (.ld 6 true (.t 1)), 20, [], false⟩, ⟨(.some 21), Option.none, (.call 87 [(.t 20)]), 21, [], true⟩, ⟨(.some 22), Option.none,
    (.not (.t 21)), 22, [], false⟩, ⟨(.some 19), Option.none, (.mv (.t 22)), 19, [], false⟩]) (.cond (.t 19) (.seq (.ops false [⟨(.some 2), Option.none, (.mv (.c (.v (.int .i64 8)))),
    2, [], false⟩]) .ret) (.seq (.ops false [⟨(.some 24), Option.none, (.ld 6 true (.t 1)), 24, [], false⟩, ⟨(.some 25), Option.none, (.call 88 [(.t 24)]), 25, [], true⟩, ⟨(.some 26),
    Option.none, (.not (.t 25)), 26, [], false⟩, ⟨(.some 23), Option.none, (.mv (.t 26)), 23, [], false⟩]) (.cond (.t 23) (.seq (.ops false [⟨(.some 2), Option.none,
    (.mv (.c (.v (.int .i64 9)))), 2, [], false⟩]) .ret) .skip))))))) c54_4)
def c54_6 : C := (.seq (.seq (.ops false [⟨(.some 8), Option.none, (.ld 6 true (.t 1)), 8, [], false⟩, ⟨(.some 9), Option.none, (.call 82 [(.t 8)]), 9, [], false⟩, ⟨(.some 10), Option.none,
    (.mv (.c (.v (.int .i64 0)))), 10, [], false⟩]) (.block 0 (.loop c54_3))) c54_5)
def c54 : C := (.seq (.ops false [⟨(.some 1), Option.none, (.box 6 (.t 0)), 1, [], false⟩, ⟨(.some 2), Option.none, (.mv (.c (.v (.int .i64 0)))), 2, [], false⟩])
    (.seq (.seq (.ops false [⟨(.some 5), Option.none, (.ld 6 true (.t 1)), 5, [], false⟩, ⟨(.some 6), Option.none, (.call 81 [(.t 5)]), 6, [], true⟩, ⟨(.some 7), Option.none,
    (.not (.t 6)), 7, [], false⟩]) (.cond (.t 7) (.seq (.ops false [⟨(.some 2), Option.none, (.mv (.c (.v (.int .i64 4)))), 2, [], false⟩]) .ret) .skip)) c54_6))
def r54 : List RV := [(.tmp 2)]
theorem c54_ok : ∃ code, Try.f54.body = some code ∧ compC Try.prog Try.f54.ntmps code = some (C.strip c54) := ⟨_, rfl, by kernel_rfl⟩
theorem r54_ok : compRes Try.prog Try.f54.results.toList = some r54 := by kernel_rfl
theorem f54_ok : fnOk Try.prog 54 = true := by kernel_rfl
def c71 : C := (.seq (.ops false [⟨(.some 6), Option.none, (.mv (.c (.v (.bool false)))), 6, [], false⟩]) (.seq (.ops false [⟨(.some 7), Option.none, (.mv (.t 0)), 7, [], false⟩, ⟨(.some 8),
    Option.none, (.mv (.t 1)), 8, [], false⟩, ⟨(.some 9), Option.none, (.bin .geq (.t 7) (.t 8)), 9, [], false⟩, ⟨(.some 10), Option.none, (.mv (.t 9)), 10, [], false⟩, ⟨(.some 11),
    (.some (10, true)), (.mv (.t 0)), 11, [], false⟩, ⟨(.some 12), (.some (10, true)), (.mv (.t 2)), 12, [], false⟩, ⟨(.some 13), (.some (10, true)), (.bin .leq (.t 11) (.t 12)), 13,
    [], false⟩, ⟨(.some 14), Option.none, (.pick (.t 10) (.t 13) (.c (.v (.bool false)))), 14, [], false⟩, ⟨(.some 6), Option.none, (.mv (.t 14)), 6, [], false⟩]) .ret))
def r71 : List RV := [(.tmp 6)]
theorem c71_ok : ∃ code, Try.f71.body = some code ∧ compC Try.prog Try.f71.ntmps code = some (C.strip c71) := ⟨_, rfl, by kernel_rfl⟩
theorem r71_ok : compRes Try.prog Try.f71.results.toList = some r71 := by kernel_rfl
theorem f71_ok : fnOk Try.prog 71 = true := by kernel_rfl
def c72_1 : C := (.seq (.block 1 (.seq (.ops false [⟨(.some 18), Option.none, (.iaS 7 (.t 14) (.t 16)), 18, [], false⟩, ⟨(.some 19), Option.none, (.ld 7 true (.t 18)), 19, [], false⟩, ⟨(.some 5),
    Option.none, (.new [(.v (.string ({ data := #[] }))), (.v (.int .i64 0)), (.v (.int .i64 0)), (.v (.int .i64 0)), (.v (.int .i64 0)), (.v (.int .i64 0)), .mt]), 5, [], false⟩,
    ⟨Option.none, Option.none, (.st 7 (.t 5) (.t 19)), 0, [], false⟩]) (.ops false [⟨(.some 20), Option.none, (.iaA 4 1 (.t 3) (.c (.v (.int .i64 1)))), 20, [], false⟩, ⟨(.some 21),
    Option.none, (.ld 1 false (.t 20)), 21, [], false⟩, ⟨(.some 22), Option.none, (.fa 0 (.t 5)), 22, [], false⟩, ⟨(.some 23), Option.none, (.ld 1 false (.t 22)), 23, [], false⟩,
    ⟨(.some 24), Option.none, (.bsl 1 1 [(.v (.string ({ data := #[] })))] [(0, (.t 23))]), 24, [], false⟩, ⟨(.some 25), Option.none, (.app 1 16 (.t 21) (.t 24)), 25, [], false⟩,
    ⟨(.some 26), Option.none, (.iaA 4 1 (.t 3) (.c (.v (.int .i64 1)))), 26, [], false⟩, ⟨Option.none, Option.none, (.st 1 (.t 26) (.t 25)), 0, [], false⟩]))) (.ops false [⟨(.some 27),
    Option.none, (.bin .add (.t 16) (.c (.v (.int .i64 1)))), 27, [], false⟩, ⟨(.some 16), Option.none, (.mv (.t 27)), 16, [], false⟩]))
def c72_2 : C := (.seq (.ops false [⟨(.some 17), Option.none, (.bin .lss (.t 16) (.t 15)), 17, [], false⟩]) (.seq (.cond (.t 17) .skip (.exit 0)) c72_1))
def c72_3 : C := (.seq (.block 3 (.seq (.ops false [⟨(.some 33), Option.none, (.iaS 3 (.t 29) (.t 31)), 33, [], false⟩, ⟨(.some 34), Option.none, (.ld 3 true (.t 33)), 34, [], false⟩, ⟨(.some 7),
    Option.none, (.new [(.v (.string ({ data := #[] }))), (.v (.int .i64 0)), (.v (.int .i64 0))]), 7, [], false⟩, ⟨Option.none, Option.none, (.st 3 (.t 7) (.t 34)), 0, [], false⟩])
    (.ops false [⟨(.some 35), Option.none, (.iaA 4 1 (.t 3) (.c (.v (.int .i64 2)))), 35, [], false⟩, ⟨(.some 36), Option.none, (.ld 1 false (.t 35)), 36, [], false⟩, ⟨(.some 37),
    Option.none, (.fa 0 (.t 7)), 37, [], false⟩, ⟨(.some 38), Option.none, (.ld 1 false (.t 37)), 38, [], false⟩, ⟨(.some 39), Option.none, (.bsl 1 1 [(.v (.string ({ data := #[] })))]
    [(0, (.t 38))]), 39, [], false⟩, ⟨(.some 40), Option.none, (.app 1 16 (.t 36) (.t 39)), 40, [], false⟩, ⟨(.some 41), Option.none, (.iaA 4 1 (.t 3) (.c (.v (.int .i64 2)))), 41, [],
    false⟩, ⟨Option.none, Option.none, (.st 1 (.t 41) (.t 40)), 0, [], false⟩]))) (.ops false [⟨(.some 42), Option.none, (.bin .add (.t 31) (.c (.v (.int .i64 1)))), 42, [], false⟩,
    ⟨(.some 31), Option.none, (.mv (.t 42)), 31, [], false⟩]))
def c72_4 : C := (.seq (.ops false [⟨(.some 32), Option.none, (.bin .lss (.t 31) (.t 30)), 32, [], false⟩]) (.seq (.cond (.t 32) .skip (.exit 2)) c72_3))
def c72_5 : C := (.seq (.block 5 (.seq (.ops false [⟨(.some 48), Option.none, (.iaS 5 (.t 44) (.t 46)), 48, [], false⟩, ⟨(.some 49), Option.none, (.ld 5 true (.t 48)), 49, [], false⟩, ⟨(.some 9),
    Option.none, (.new [(.v (.string ({ data := #[] }))), (.v (.int .i64 0)), (.v (.int .i64 0)), (.v (.int .i64 0)), (.v (.int .i64 0))]), 9, [], false⟩, ⟨Option.none, Option.none,
    (.st 5 (.t 9) (.t 49)), 0, [], false⟩]) (.ops false [⟨(.some 50), Option.none, (.iaA 4 1 (.t 3) (.c (.v (.int .i64 3)))), 50, [], false⟩, ⟨(.some 51), Option.none,
    (.ld 1 false (.t 50)), 51, [], false⟩, ⟨(.some 52), Option.none, (.fa 0 (.t 9)), 52, [], false⟩, ⟨(.some 53), Option.none, (.ld 1 false (.t 52)), 53, [], false⟩, ⟨(.some 54),
    Option.none, (.bsl 1 1 [(.v (.string ({ data := #[] })))] [(0, (.t 53))]), 54, [], false⟩, ⟨(.some 55), Option.none, (.app 1 16 (.t 51) (.t 54)), 55, [], false⟩, ⟨(.some 56),
    Option.none, (.iaA 4 1 (.t 3) (.c (.v (.int .i64 3)))), 56, [], false⟩, ⟨Option.none, Option.none, (.st 1 (.t 56) (.t 55)), 0, [], false⟩]))) (.ops false [⟨(.some 57), Option.none,
    (.bin .add (.t 46) (.c (.v (.int .i64 1)))), 57, [], false⟩, ⟨(.some 46), Option.none, (.mv (.t 57)), 46, [], false⟩]))
def c72_6 : C := (.seq (.ops false [⟨(.some 47), Option.none, (.bin .lss (.t 46) (.t 45)), 47, [], false⟩]) (.seq (.cond (.t 47) .skip (.exit 4)) c72_5))
def c72_7 : C := (.seq (.ops false [⟨(.some 58), Option.none, (.ld 4 true (.t 3)), 58, [], false⟩, ⟨Option.none, Option.none, (.st 4 (.t 2) (.t 58)), 0, [], false⟩]) .ret)
def c72_8 : C := (.seq (.seq (.ops false [⟨(.some 43), Option.none, (.fa 3 (.t 1)), 43, [], false⟩, ⟨(.some 44), Option.none, (.ld 1 false (.t 43)), 44, [], false⟩, ⟨(.some 45), Option.none,
    (.len (.t 44)), 45, [], false⟩, ⟨(.some 46), Option.none, (.mv (.c (.v (.int .i64 0)))), 46, [], false⟩]) (.block 4 (.loop c72_6))) c72_7)
def c72_9 : C := (.seq (.seq (.ops false [⟨(.some 28), Option.none, (.fa 2 (.t 1)), 28, [], false⟩, ⟨(.some 29), Option.none, (.ld 1 false (.t 28)), 29, [], false⟩, ⟨(.some 30), Option.none,
    (.len (.t 29)), 30, [], false⟩, ⟨(.some 31), Option.none, (.mv (.c (.v (.int .i64 0)))), 31, [], false⟩]) (.block 2 (.loop c72_4))) c72_8)
def c72 : C := (.seq (.ops false [⟨(.some 1), Option.none, (.box 6 (.t 0)), 1, [], false⟩, ⟨(.some 2), Option.none, (.new [.mt, .mt, .mt, .mt]), 2, [], false⟩]) (.seq (.ops false [⟨(.some 3),
    Option.none, (.new [.mt, .mt, .mt, .mt]), 3, [], false⟩]) (.seq (.ops false [⟨(.some 10), Option.none, (.fa 0 (.t 1)), 10, [], false⟩, ⟨(.some 11), Option.none,
    (.ld 1 false (.t 10)), 11, [], false⟩, ⟨(.some 12), Option.none, (.iaA 4 1 (.t 3) (.c (.v (.int .i64 0)))), 12, [], false⟩, ⟨Option.none, Option.none, (.st 1 (.t 12) (.t 11)), 0,
    [], false⟩]) (.seq (.seq (.ops false [⟨(.some 13), Option.none, (.fa 1 (.t 1)), 13, [], false⟩, ⟨(.some 14), Option.none, (.ld 1 false (.t 13)), 14, [], false⟩, ⟨(.some 15),
    Option.none, (.len (.t 14)), 15, [], false⟩, ⟨(.some 16), Option.none, (.mv (.c (.v (.int .i64 0)))), 16, [], false⟩]) (.block 0 (.loop c72_2))) c72_9))))
def r72 : List RV := [(.cell 2 4 true)]
theorem c72_ok : ∃ code, Try.f72.body = some code ∧ compC Try.prog Try.f72.ntmps code = some (C.strip c72) := ⟨_, rfl, by kernel_rfl⟩
theorem r72_ok : compRes Try.prog Try.f72.results.toList = some r72 := by kernel_rfl
theorem f72_ok : fnOk Try.prog 72 = true := by kernel_rfl
def c73_1 : C := (.ops false [⟨(.some 26), Option.none, (.mv (.t 3)), 26, [], false⟩, ⟨(.some 27), Option.none, (.bin .add (.t 26) (.c (.v (.int .i64 1)))), 27, [], false⟩, ⟨(.some 3), Option.none,
    (.mv (.t 27)), 3, [], false⟩])
def c73_2 : C := (.seq (.block 1 (.seq (.ops false [⟨(.some 28), Option.none, (.mv (.t 0)), 28, [], false⟩, ⟨(.some 29), Option.none, (.mv (.t 3)), 29, [], false⟩, ⟨(.some 30), Option.none,
    (.ixS (.t 28) (.t 29)), 30, [], false⟩, ⟨(.some 31), Option.none, (.bin .lss (.t 30) (.c (.v (.int .u8 97)))), 31, [], false⟩, ⟨(.some 32), Option.none, (.mv (.t 31)), 32, [],
    false⟩, ⟨(.some 33), (.some (32, false)), (.mv (.t 0)), 33, [], false⟩, ⟨(.some 34), (.some (32, false)), (.mv (.t 3)), 34, [], false⟩, ⟨(.some 35), (.some (32, false)),
    (.ixS (.t 33) (.t 34)), 35, [], false⟩, ⟨(.some 36), (.some (32, false)), (.bin .gtr (.t 35) (.c (.v (.int .u8 122)))), 36, [], false⟩, ⟨(.some 37), Option.none, (.pick (.t 32)
    (.c (.v (.bool true))) (.t 36)), 37, [], false⟩, ⟨(.some 38), Option.none, (.mv (.t 37)), 38, [], false⟩, ⟨(.some 39), (.some (38, true)), (.mv (.t 0)), 39, [], false⟩,
    ⟨(.some 40), (.some (38, true)), (.mv (.t 3)), 40, [], false⟩, ⟨(.some 41), (.some (38, true)), (.ixS (.t 39) (.t 40)), 41, [], false⟩, ⟨(.some 42), (.some (38, true)),
    (.bin .lss (.t 41) (.c (.v (.int .u8 48)))), 42, [], false⟩, ⟨(.some 43), (.some (38, true)), (.mv (.t 42)), 43, [], false⟩, ⟨(.some 44), (.some (43, false)), (.mv (.t 0)), 44, [],
    false⟩, ⟨(.some 45), (.some (43, false)), (.mv (.t 3)), 45, [], false⟩, ⟨(.some 46), (.some (43, false)), (.ixS (.t 44) (.t 45)), 46, [], false⟩, ⟨(.some 47), (.some (43, false)),
    (.bin .gtr (.t 46) (.c (.v (.int .u8 57)))), 47, [], false⟩, ⟨(.some 48), (.some (38, true)), (.pick (.t 43) (.c (.v (.bool true))) (.t 47)), 48, [], false⟩, ⟨(.some 49),
    Option.none, (.pick (.t 38) (.t 48) (.c (.v (.bool false)))), 49, [], false⟩, ⟨(.some 50), Option.none, (.mv (.t 49)), 50, [], false⟩, ⟨(.some 51), (.some (50, true)),
    (.mv (.t 0)), 51, [], false⟩, ⟨(.some 52), (.some (50, true)), (.mv (.t 3)), 52, [], false⟩, ⟨(.some 53), (.some (50, true)), (.ixS (.t 51) (.t 52)), 53, [], false⟩, ⟨(.some 54),
    (.some (50, true)), (.bin .neq (.t 53) (.c (.v (.int .u8 45)))), 54, [], false⟩, ⟨(.some 55), Option.none, (.pick (.t 50) (.t 54) (.c (.v (.bool false)))), 55, [], false⟩])
    (.cond (.t 55) (.seq (.ops false [⟨(.some 2), Option.none, (.mv (.c (.v (.bool false)))), 2, [], false⟩]) .ret) .skip))) c73_1)
def c73_3 : C := (.seq (.seq (.ops false [⟨(.some 22), Option.none, (.mv (.t 3)), 22, [], false⟩, ⟨(.some 23), Option.none, (.mv (.t 0)), 23, [], false⟩, ⟨(.some 24), Option.none, (.lenS (.t 23)),
    24, [], false⟩, ⟨(.some 25), Option.none, (.bin .lss (.t 22) (.t 24)), 25, [], false⟩]) (.cond (.t 25) .skip (.exit 0))) c73_2)
def c73_4 : C := (.seq (.ops false [⟨(.some 2), Option.none, (.mv (.c (.v (.bool true)))), 2, [], false⟩]) .ret)
def c73_5 : C := (.seq (.seq (.ops false [⟨(.some 3), Option.none, (.mv (.c (.v (.int .i64 0)))), 3, [], false⟩]) (.block 0 (.loop c73_3))) c73_4)
def c73 : C := (.seq (.ops false [⟨(.some 2), Option.none, (.mv (.c (.v (.bool false)))), 2, [], false⟩]) (.seq (.seq (.ops false [⟨(.some 4), Option.none, (.mv (.t 0)), 4, [], false⟩,
    ⟨(.some 5), Option.none, (.lenS (.t 4)), 5, [], false⟩, ⟨(.some 6), Option.none, (.bin .lss (.t 5) (.c (.v (.int .i64 1)))), 6, [], false⟩, ⟨(.some 7), Option.none, (.mv (.t 6)),
    7, [], false⟩, ⟨(.some 8), (.some (7, false)), (.mv (.t 0)), 8, [], false⟩, ⟨(.some 9), (.some (7, false)), (.lenS (.t 8)), 9, [], false⟩, ⟨(.some 10), (.some (7, false)),
    (.bin .gtr (.t 9) (.c (.v (.int .i64 12)))), 10, [], false⟩, ⟨(.some 11), Option.none, (.pick (.t 7) (.c (.v (.bool true))) (.t 10)), 11, [], false⟩, ⟨(.some 12), Option.none,
    (.mv (.t 11)), 12, [], false⟩, ⟨(.some 13), (.some (12, false)), (.mv (.t 0)), 13, [], false⟩, ⟨(.some 14), (.some (12, false)), (.ixS (.t 13) (.c (.v (.int .i64 0)))), 14, [],
    false⟩, ⟨(.some 15), (.some (12, false)), (.bin .lss (.t 14) (.c (.v (.int .u8 97)))), 15, [], false⟩, ⟨(.some 16), Option.none, (.pick (.t 12) (.c (.v (.bool true))) (.t 15)), 16,
    [], false⟩, ⟨(.some 17), Option.none, (.mv (.t 16)), 17, [], false⟩, ⟨(.some 18), (.some (17, false)), (.mv (.t 0)), 18, [], false⟩, ⟨(.some 19), (.some (17, false)), (.ixS (.t 18)
    (.c (.v (.int .i64 0)))), 19, [], false⟩, ⟨(.some 20), (.some (17, false)), (.bin .gtr (.t 19) (.c (.v (.int .u8 122)))), 20, [], false⟩, ⟨(.some 21), Option.none, (.pick (.t 17)
    (.c (.v (.bool true))) (.t 20)), 21, [], false⟩]) (.cond (.t 21) (.seq (.ops false [⟨(.some 2), Option.none, (.mv (.c (.v (.bool false)))), 2, [], false⟩]) .ret) .skip)) c73_5))
def r73 : List RV := [(.tmp 2)]
theorem c73_ok : ∃ code, Try.f73.body = some code ∧ compC Try.prog Try.f73.ntmps code = some (C.strip c73) := ⟨_, rfl, by kernel_rfl⟩
theorem r73_ok : compRes Try.prog Try.f73.results.toList = some r73 := by kernel_rfl
theorem f73_ok : fnOk Try.prog 73 = true := by kernel_rfl
def c74_1 : C := (.ops false [⟨(.some 13), Option.none, (.mv (.t 4)), 13, [], false⟩, ⟨(.some 14), Option.none, (.bin .add (.t 13) (.c (.v (.int .i64 1)))), 14, [], false⟩, ⟨(.some 4), Option.none,
    (.mv (.t 14)), 4, [], false⟩])
def c74_2 : C := (.seq (.block 3 (.seq (.ops true [⟨(.some 15), Option.none, (.mv (.t 0)), 15, [], false⟩, ⟨(.some 16), Option.none, (.mv (.t 3)), 16, [], false⟩, ⟨(.some 17), Option.none,
    (.iaS 1 (.t 15) (.t 16)), 17, [1, 0], false⟩, ⟨(.some 18), Option.none, (.ld 1 false (.t 17)), 18, [0, 1, 2], false⟩, ⟨(.some 19), Option.none, (.mv (.t 0)), 19, [], false⟩,
    ⟨(.some 20), Option.none, (.mv (.t 4)), 20, [], false⟩, ⟨(.some 21), Option.none, (.iaS 1 (.t 19) (.t 20)), 21, [5, 4], false⟩, ⟨(.some 22), Option.none, (.ld 1 false (.t 21)), 22,
    [4, 5, 6], false⟩, ⟨(.some 23), Option.none, (.bin .eql (.t 18) (.t 22)), 23, [6, 5, 4, 2, 1, 0, 7, 3], false⟩]) (.cond (.t 23) (.seq (.ops false [⟨(.some 2), Option.none,
    (.mv (.c (.v (.bool true)))), 2, [], false⟩]) .ret) .skip))) c74_1)
def c74_3 : C := (.seq (.seq (.ops false [⟨(.some 10), Option.none, (.mv (.t 4)), 10, [], false⟩, ⟨(.some 11), Option.none, (.mv (.t 3)), 11, [], false⟩, ⟨(.some 12), Option.none,
    (.bin .lss (.t 10) (.t 11)), 12, [], false⟩]) (.cond (.t 12) .skip (.exit 2))) c74_2)
def c74_4 : C := (.ops false [⟨(.some 24), Option.none, (.bin .add (.t 7) (.c (.v (.int .i64 1)))), 24, [], false⟩, ⟨(.some 7), Option.none, (.mv (.t 24)), 7, [], false⟩])
def c74_5 : C := (.seq (.block 1 (.seq (.ops false [⟨(.some 9), Option.none, (.mv (.t 7)), 9, [], false⟩, ⟨(.some 3), Option.none, (.mv (.t 9)), 3, [], false⟩]) (.seq (.ops false [⟨(.some 4),
    Option.none, (.mv (.c (.v (.int .i64 0)))), 4, [], false⟩]) (.block 2 (.loop c74_3))))) c74_4)
def c74_6 : C := (.seq (.ops false [⟨(.some 8), Option.none, (.bin .lss (.t 7) (.t 6)), 8, [], false⟩]) (.seq (.cond (.t 8) .skip (.exit 0)) c74_5))
def c74_7 : C := (.seq (.ops false [⟨(.some 2), Option.none, (.mv (.c (.v (.bool false)))), 2, [], false⟩]) .ret)
def c74 : C := (.seq (.ops false [⟨(.some 2), Option.none, (.mv (.c (.v (.bool false)))), 2, [], false⟩]) (.seq (.seq (.ops false [⟨(.some 5), Option.none, (.mv (.t 0)), 5, [], false⟩,
    ⟨(.some 6), Option.none, (.len (.t 5)), 6, [], false⟩, ⟨(.some 7), Option.none, (.mv (.c (.v (.int .i64 0)))), 7, [], false⟩]) (.block 0 (.loop c74_6))) c74_7))
def r74 : List RV := [(.tmp 2)]
theorem c74_ok : ∃ code, Try.f74.body = some code ∧ compC Try.prog Try.f74.ntmps code = some (C.strip c74) := ⟨_, rfl, by kernel_rfl⟩
theorem r74_ok : compRes Try.prog Try.f74.results.toList = some r74 := by kernel_rfl
theorem f74_ok : fnOk Try.prog 74 = true := by kernel_rfl
def c75_1 : C := (.ops false [⟨(.some 84), Option.none, (.bin .add (.t 53) (.c (.v (.int .i64 1)))), 84, [], false⟩, ⟨(.some 53), Option.none, (.mv (.t 84)), 53, [], false⟩])
def c75_2 : C := (.seq (.block 1 (.seq (.ops false [⟨(.some 55), Option.none, (.mv (.t 53)), 55, [], false⟩, ⟨(.some 56), Option.none, (.iaS 3 (.t 51) (.t 53)), 56, [], false⟩, ⟨(.some 57),
    Option.none, (.ld 3 true (.t 56)), 57, [], false⟩, ⟨(.some 4), Option.none, (.new [(.v (.int .i64 0)), (.v (.int .i64 0)), (.v (.int .i64 0))]), 4, [], false⟩, ⟨(.some 3),
    Option.none, (.mv (.t 55)), 3, [], false⟩, ⟨Option.none, Option.none, (.st 3 (.t 4) (.t 57)), 0, [], false⟩]) (.seq (.ops true [⟨(.some 58), Option.none, (.mv (.t 3)), 58, [],
    false⟩, ⟨(.some 59), Option.none, (.bin .gtr (.t 58) (.c (.v (.int .i64 0)))), 59, [0], false⟩, ⟨(.some 60), Option.none, (.mv (.t 59)), 60, [0, 1], false⟩, ⟨(.some 61),
    (.some (60, true)), (.fa 0 (.t 4)), 61, [1, 0, 2], false⟩, ⟨(.some 62), (.some (60, true)), (.ld 1 false (.t 61)), 62, [0, 1, 2, 3], false⟩, ⟨(.some 63), (.some (60, true)),
    (.fa 6 (.t 1)), 63, [1, 0, 2], false⟩, ⟨(.some 64), (.some (60, true)), (.ld 1 false (.t 63)), 64, [0, 1, 2, 5], false⟩, ⟨(.some 65), (.some (60, true)), (.mv (.t 3)), 65, [1, 0,
    2], false⟩, ⟨(.some 66), (.some (60, true)), (.bin .sub (.t 65) (.c (.v (.int .i64 1)))), 66, [0, 1, 2, 7], false⟩, ⟨(.some 67), (.some (60, true)), (.iaS 3 (.t 64) (.t 66)), 67,
    [7, 5, 1, 0, 2, 8, 6], false⟩, ⟨(.some 68), (.some (60, true)), (.fa 0 (.t 67)), 68, [6, 8, 0, 1, 5, 7, 2, 9], false⟩, ⟨(.some 69), (.some (60, true)), (.ld 1 false (.t 68)), 69,
    [9, 7, 5, 1, 0, 8, 6, 2, 10], false⟩, ⟨(.some 70), (.some (60, true)), (.bin .leq (.t 62) (.t 69)), 70, [10, 6, 8, 5, 7, 9, 3, 1, 0, 2, 11, 4], false⟩, ⟨(.some 71), Option.none,
    (.pick (.t 60) (.t 70) (.c (.v (.bool false)))), 71, [4, 11, 3, 9, 7, 5, 8, 6, 10, 1, 0, 12, 2], false⟩, ⟨(.some 72), Option.none, (.mv (.t 71)), 72, [12, 0, 1, 10, 6, 8, 5, 7, 9,
    3, 11, 4, 2, 13], false⟩, ⟨(.some 73), (.some (72, false)), (.fa 1 (.t 4)), 73, [13, 2, 4, 11, 3, 9, 7, 5, 8, 6, 10, 1, 0, 12, 14], false⟩, ⟨(.some 74), (.some (72, false)),
    (.ld 1 false (.t 73)), 74, [12, 0, 1, 10, 6, 8, 5, 7, 9, 3, 11, 4, 2, 13, 14, 15], false⟩, ⟨(.some 75), (.some (72, false)), (.call 71 [(.t 74), (.c (.v (.int .i64 (-500)))),
    (.c (.v (.int .i64 5000)))]), 75, [15, 13, 2, 4, 11, 3, 9, 7, 5, 8, 6, 10, 1, 0, 12, 14, 16], true⟩, ⟨(.some 76), (.some (72, false)), (.not (.t 75)), 76, [16, 12, 0, 1, 10, 6, 8,
    5, 7, 9, 3, 11, 4, 2, 13, 15, 14, 17], false⟩, ⟨(.some 77), Option.none, (.pick (.t 72) (.c (.v (.bool true))) (.t 76)), 77, [17, 15, 16, 13, 2, 4, 11, 3, 9, 7, 5, 8, 6, 10, 1, 0,
    12, 18, 14], false⟩, ⟨(.some 78), Option.none, (.mv (.t 77)), 78, [14, 18, 12, 0, 1, 10, 6, 8, 5, 7, 9, 3, 11, 4, 2, 13, 16, 15, 17, 19], false⟩, ⟨(.some 79), (.some (78, false)),
    (.fa 2 (.t 4)), 79, [19, 17, 15, 16, 13, 2, 4, 11, 3, 9, 7, 5, 8, 6, 10, 1, 0, 12, 18, 14, 20], false⟩, ⟨(.some 80), (.some (78, false)), (.ld 1 false (.t 79)), 80, [14, 18, 12, 0,
    1, 10, 6, 8, 5, 7, 9, 3, 11, 4, 2, 13, 16, 15, 17, 19, 20, 21], false⟩, ⟨(.some 81), (.some (78, false)), (.call 71 [(.t 80), (.c (.v (.int .i64 0))),
    (.c (.v (.int .i64 100000000)))]), 81, [21, 19, 17, 15, 16, 13, 2, 4, 11, 3, 9, 7, 5, 8, 6, 10, 1, 0, 12, 18, 14, 20, 22], true⟩, ⟨(.some 82), (.some (78, false)), (.not (.t 81)),
    82, [22, 14, 18, 12, 0, 1, 10, 6, 8, 5, 7, 9, 3, 11, 4, 2, 13, 16, 15, 17, 19, 21, 20, 23], false⟩, ⟨(.some 83), Option.none, (.pick (.t 78) (.c (.v (.bool true))) (.t 82)), 83,
    [23, 21, 22, 19, 17, 15, 16, 13, 2, 4, 11, 3, 9, 7, 5, 8, 6, 10, 1, 0, 12, 18, 14, 24, 20], false⟩]) (.cond (.t 83) (.seq (.ops false [⟨(.some 2), Option.none,
    (.mv (.c (.v (.bool false)))), 2, [], false⟩]) .ret) .skip)))) c75_1)
def c75_3 : C := (.seq (.ops false [⟨(.some 54), Option.none, (.bin .lss (.t 53) (.t 52)), 54, [], false⟩]) (.seq (.cond (.t 54) .skip (.exit 0)) c75_2))
def c75_4 : C := (.seq (.ops false [⟨(.some 2), Option.none, (.mv (.c (.v (.bool true)))), 2, [], false⟩]) .ret)
def c75_5 : C := (.seq (.seq (.ops false [⟨(.some 50), Option.none, (.fa 6 (.t 1)), 50, [], false⟩, ⟨(.some 51), Option.none, (.ld 1 false (.t 50)), 51, [], false⟩, ⟨(.some 52), Option.none,
    (.len (.t 51)), 52, [], false⟩, ⟨(.some 53), Option.none, (.mv (.c (.v (.int .i64 0)))), 53, [], false⟩]) (.block 0 (.loop c75_3))) c75_4)
def c75 : C := (.seq (.ops false [⟨(.some 1), Option.none, (.box 7 (.t 0)), 1, [], false⟩, ⟨(.some 2), Option.none, (.mv (.c (.v (.bool false)))), 2, [], false⟩])
    (.seq (.seq (.ops true [⟨(.some 5), Option.none, (.fa 1 (.t 1)), 5, [], false⟩, ⟨(.some 6), Option.none, (.ld 1 false (.t 5)), 6, [0], false⟩, ⟨(.some 7), Option.none,
    (.fa 2 (.t 1)), 7, [], false⟩, ⟨(.some 8), Option.none, (.ld 1 false (.t 7)), 8, [2], false⟩, ⟨(.some 9), Option.none, (.bin .eql (.t 6) (.t 8)), 9, [2, 0, 3, 1], false⟩,
    ⟨(.some 10), Option.none, (.mv (.t 9)), 10, [1, 3, 0, 2, 4], false⟩, ⟨(.some 11), (.some (10, false)), (.fa 3 (.t 1)), 11, [4, 2, 0, 3, 1, 5], false⟩, ⟨(.some 12), (.some (10,
    false)), (.ld 1 false (.t 11)), 12, [1, 3, 0, 2, 4, 5, 6], false⟩, ⟨(.some 13), (.some (10, false)), (.call 71 [(.t 12), (.c (.v (.int .i64 1))), (.c (.v (.int .i64 1000000)))]),
    13, [6, 4, 2, 0, 3, 1, 5, 7], true⟩, ⟨(.some 14), (.some (10, false)), (.not (.t 13)), 14, [7, 1, 3, 0, 2, 4, 6, 5, 8], false⟩, ⟨(.some 15), Option.none, (.pick (.t 10)
    (.c (.v (.bool true))) (.t 14)), 15, [8, 6, 7, 4, 2, 0, 3, 1, 9, 5], false⟩, ⟨(.some 16), Option.none, (.mv (.t 15)), 16, [5, 9, 1, 3, 0, 2, 4, 7, 6, 8, 10], false⟩, ⟨(.some 17),
    (.some (16, false)), (.fa 4 (.t 1)), 17, [10, 8, 6, 7, 4, 2, 0, 3, 1, 9, 5, 11], false⟩, ⟨(.some 18), (.some (16, false)), (.ld 1 false (.t 17)), 18, [5, 9, 1, 3, 0, 2, 4, 7, 6, 8,
    10, 11, 12], false⟩, ⟨(.some 19), (.some (16, false)), (.call 71 [(.t 18), (.c (.v (.int .i64 0))), (.c (.v (.int .i64 1000)))]), 19, [12, 10, 8, 6, 7, 4, 2, 0, 3, 1, 9, 5, 11,
    13], true⟩, ⟨(.some 20), (.some (16, false)), (.not (.t 19)), 20, [13, 5, 9, 1, 3, 0, 2, 4, 7, 6, 8, 10, 12, 11, 14], false⟩, ⟨(.some 21), Option.none, (.pick (.t 16)
    (.c (.v (.bool true))) (.t 20)), 21, [14, 12, 13, 10, 8, 6, 7, 4, 2, 0, 3, 1, 9, 5, 15, 11], false⟩, ⟨(.some 22), Option.none, (.mv (.t 21)), 22, [11, 15, 5, 9, 1, 3, 0, 2, 4, 7,
    6, 8, 10, 13, 12, 14, 16], false⟩, ⟨(.some 23), (.some (22, false)), (.fa 5 (.t 1)), 23, [16, 14, 12, 13, 10, 8, 6, 7, 4, 2, 0, 3, 1, 9, 5, 15, 11, 17], false⟩, ⟨(.some 24),
    (.some (22, false)), (.ld 1 false (.t 23)), 24, [11, 15, 5, 9, 1, 3, 0, 2, 4, 7, 6, 8, 10, 13, 12, 14, 16, 17, 18], false⟩, ⟨(.some 25), (.some (22, false)), (.call 71 [(.t 24),
    (.c (.v (.int .i64 0))), (.c (.v (.int .i64 100000)))]), 25, [18, 16, 14, 12, 13, 10, 8, 6, 7, 4, 2, 0, 3, 1, 9, 5, 15, 11, 17, 19], true⟩, ⟨(.some 26), (.some (22, false)),
    (.not (.t 25)), 26, [19, 11, 15, 5, 9, 1, 3, 0, 2, 4, 7, 6, 8, 10, 13, 12, 14, 16, 18, 17, 20], false⟩, ⟨(.some 27), Option.none, (.pick (.t 22) (.c (.v (.bool true))) (.t 26)),
    27, [20, 18, 19, 16, 14, 12, 13, 10, 8, 6, 7, 4, 2, 0, 3, 1, 9, 5, 15, 11, 21, 17], false⟩, ⟨(.some 28), Option.none, (.mv (.t 27)), 28, [17, 21, 11, 15, 5, 9, 1, 3, 0, 2, 4, 7, 6,
    8, 10, 13, 12, 14, 16, 19, 18, 20, 22], false⟩, ⟨(.some 29), (.some (28, false)), (.fa 6 (.t 1)), 29, [22, 20, 18, 19, 16, 14, 12, 13, 10, 8, 6, 7, 4, 2, 0, 3, 1, 9, 5, 15, 11, 21,
    17, 23], false⟩, ⟨(.some 30), (.some (28, false)), (.ld 1 false (.t 29)), 30, [17, 21, 11, 15, 5, 9, 1, 3, 0, 2, 4, 7, 6, 8, 10, 13, 12, 14, 16, 19, 18, 20, 22, 23, 24], false⟩,
    ⟨(.some 31), (.some (28, false)), (.iaS 3 (.t 30) (.c (.v (.int .i64 0)))), 31, [24, 22, 20, 18, 19, 16, 14, 12, 13, 10, 8, 6, 7, 4, 2, 0, 3, 1, 9, 5, 15, 11, 21, 17, 23, 25],
    false⟩, ⟨(.some 32), (.some (28, false)), (.fa 0 (.t 31)), 32, [25, 17, 21, 11, 15, 5, 9, 1, 3, 0, 2, 4, 7, 6, 8, 10, 13, 12, 14, 16, 19, 18, 20, 22, 24, 23, 26], false⟩,
    ⟨(.some 33), (.some (28, false)), (.ld 1 false (.t 32)), 33, [26, 24, 22, 20, 18, 19, 16, 14, 12, 13, 10, 8, 6, 7, 4, 2, 0, 3, 1, 9, 5, 15, 11, 21, 17, 25, 23, 27], false⟩,
    ⟨(.some 34), (.some (28, false)), (.bin .neq (.t 33) (.c (.v (.int .i64 0)))), 34, [27, 25, 17, 21, 11, 15, 5, 9, 1, 3, 0, 2, 4, 7, 6, 8, 10, 13, 12, 14, 16, 19, 18, 20, 22, 24,
    26, 23, 28], false⟩, ⟨(.some 35), Option.none, (.pick (.t 28) (.c (.v (.bool true))) (.t 34)), 35, [28, 26, 24, 25, 27, 22, 20, 18, 19, 16, 14, 12, 13, 10, 8, 6, 7, 4, 2, 0, 3, 1,
    9, 5, 15, 11, 21, 17, 29, 23], false⟩, ⟨(.some 36), Option.none, (.mv (.t 35)), 36, [29, 17, 21, 11, 15, 5, 9, 1, 3, 0, 2, 4, 7, 6, 8, 10, 13, 12, 14, 16, 19, 18, 20, 22, 27, 25,
    24, 26, 28, 23, 30], false⟩, ⟨(.some 37), (.some (36, false)), (.fa 6 (.t 1)), 37, [30, 23, 28, 26, 24, 25, 27, 22, 20, 18, 19, 16, 14, 12, 13, 10, 8, 6, 7, 4, 2, 0, 3, 1, 9, 5,
    15, 11, 21, 17, 29, 31], false⟩, ⟨(.some 38), (.some (36, false)), (.ld 1 false (.t 37)), 38, [29, 17, 21, 11, 15, 5, 9, 1, 3, 0, 2, 4, 7, 6, 8, 10, 13, 12, 14, 16, 19, 18, 20, 22,
    27, 25, 24, 26, 28, 23, 30, 31, 32], false⟩, ⟨(.some 39), (.some (36, false)), (.fa 6 (.t 1)), 39, [30, 23, 28, 26, 24, 25, 27, 22, 20, 18, 19, 16, 14, 12, 13, 10, 8, 6, 7, 4, 2,
    0, 3, 1, 9, 5, 15, 11, 21, 17, 29, 31], false⟩, ⟨(.some 40), (.some (36, false)), (.ld 1 false (.t 39)), 40, [29, 17, 21, 11, 15, 5, 9, 1, 3, 0, 2, 4, 7, 6, 8, 10, 13, 12, 14, 16,
    19, 18, 20, 22, 27, 25, 24, 26, 28, 23, 30, 31, 34], false⟩, ⟨(.some 41), (.some (36, false)), (.len (.t 40)), 41, [34, 30, 23, 28, 26, 24, 25, 27, 22, 20, 18, 19, 16, 14, 12, 13,
    10, 8, 6, 7, 4, 2, 0, 3, 1, 9, 5, 15, 11, 21, 17, 29, 31, 35], false⟩, ⟨(.some 42), (.some (36, false)), (.bin .sub (.t 41) (.c (.v (.int .i64 1)))), 42, [35, 29, 17, 21, 11, 15,
    5, 9, 1, 3, 0, 2, 4, 7, 6, 8, 10, 13, 12, 14, 16, 19, 18, 20, 22, 27, 25, 24, 26, 28, 23, 30, 34, 31, 36], false⟩, ⟨(.some 43), (.some (36, false)), (.iaS 3 (.t 38) (.t 42)), 43,
    [36, 34, 35, 32, 30, 23, 28, 26, 24, 25, 27, 22, 20, 18, 19, 16, 14, 12, 13, 10, 8, 6, 7, 4, 2, 0, 3, 1, 9, 5, 15, 11, 21, 17, 29, 31, 37, 33], false⟩, ⟨(.some 44), (.some (36,
    false)), (.fa 0 (.t 43)), 44, [33, 37, 29, 17, 21, 11, 15, 5, 9, 1, 3, 0, 2, 4, 7, 6, 8, 10, 13, 12, 14, 16, 19, 18, 20, 22, 27, 25, 24, 26, 28, 23, 30, 32, 35, 34, 36, 31, 38],
    false⟩, ⟨(.some 45), (.some (36, false)), (.ld 1 false (.t 44)), 45, [38, 36, 34, 35, 32, 30, 23, 28, 26, 24, 25, 27, 22, 20, 18, 19, 16, 14, 12, 13, 10, 8, 6, 7, 4, 2, 0, 3, 1, 9,
    5, 15, 11, 21, 17, 29, 37, 33, 31, 39], false⟩, ⟨(.some 46), (.some (36, false)), (.fa 3 (.t 1)), 46, [30, 23, 28, 26, 24, 25, 27, 22, 20, 18, 19, 16, 14, 12, 13, 10, 8, 6, 7, 4,
    2, 0, 3, 1, 9, 5, 15, 11, 21, 17, 29, 31], false⟩, ⟨(.some 47), (.some (36, false)), (.ld 1 false (.t 46)), 47, [29, 17, 21, 11, 15, 5, 9, 1, 3, 0, 2, 4, 7, 6, 8, 10, 13, 12, 14,
    16, 19, 18, 20, 22, 27, 25, 24, 26, 28, 23, 30, 31, 41], false⟩, ⟨(.some 48), (.some (36, false)), (.bin .neq (.t 45) (.t 47)), 48, [41, 39, 33, 37, 29, 17, 21, 11, 15, 5, 9, 1, 3,
    0, 2, 4, 7, 6, 8, 10, 13, 12, 14, 16, 19, 18, 20, 22, 27, 25, 24, 26, 28, 23, 30, 32, 35, 34, 36, 38, 31, 42, 40], false⟩, ⟨(.some 49), Option.none, (.pick (.t 36)
    (.c (.v (.bool true))) (.t 48)), 49, [40, 42, 38, 36, 34, 35, 32, 37, 33, 39, 41, 30, 23, 28, 26, 24, 25, 27, 22, 20, 18, 19, 16, 14, 12, 13, 10, 8, 6, 7, 4, 2, 0, 3, 1, 9, 5, 15,
    11, 21, 17, 29, 43, 31], false⟩]) (.cond (.t 49) (.seq (.ops false [⟨(.some 2), Option.none, (.mv (.c (.v (.bool false)))), 2, [], false⟩]) .ret) .skip)) c75_5))
def r75 : List RV := [(.tmp 2)]
theorem c75_ok : ∃ code, Try.f75.body = some code ∧ compC Try.prog Try.f75.ntmps code = some (C.strip c75) := ⟨_, rfl, by kernel_rfl⟩
theorem r75_ok : compRes Try.prog Try.f75.results.toList = some r75 := by kernel_rfl
theorem f75_ok : fnOk Try.prog 75 = true := by kernel_rfl
def c81_1 : C := (.seq (.ops false [⟨(.some 31), Option.none, (.fa 1 (.t 1)), 31, [], false⟩, ⟨(.some 32), Option.none, (.ld 1 false (.t 31)), 32, [], false⟩, ⟨(.some 33), Option.none,
    (.call 95 [(.t 32), (.c (.clo 96 [] []))]), 33, [], true⟩, ⟨(.some 34), Option.none, (.not (.t 33)), 34, [], false⟩, ⟨(.some 2), Option.none, (.mv (.t 34)), 2, [], false⟩]) .ret)
def c81 : C := (.seq (.ops false [⟨(.some 1), Option.none, (.box 6 (.t 0)), 1, [], false⟩, ⟨(.some 2), Option.none, (.mv (.c (.v (.bool false)))), 2, [], false⟩])
    (.seq (.seq (.ops false [⟨(.some 3), Option.none, (.fa 0 (.t 1)), 3, [], false⟩, ⟨(.some 4), Option.none, (.ld 1 false (.t 3)), 4, [], false⟩, ⟨(.some 5), Option.none,
    (.len (.t 4)), 5, [], false⟩, ⟨(.some 6), Option.none, (.bin .lss (.t 5) (.c (.v (.int .i64 1)))), 6, [], false⟩, ⟨(.some 7), Option.none, (.mv (.t 6)), 7, [], false⟩, ⟨(.some 8),
    (.some (7, false)), (.fa 0 (.t 1)), 8, [], false⟩, ⟨(.some 9), (.some (7, false)), (.ld 1 false (.t 8)), 9, [], false⟩, ⟨(.some 10), (.some (7, false)), (.len (.t 9)), 10, [],
    false⟩, ⟨(.some 11), (.some (7, false)), (.bin .gtr (.t 10) (.c (.v (.int .i64 24)))), 11, [], false⟩, ⟨(.some 12), Option.none, (.pick (.t 7) (.c (.v (.bool true))) (.t 11)), 12,
    [], false⟩, ⟨(.some 13), Option.none, (.mv (.t 12)), 13, [], false⟩, ⟨(.some 14), (.some (13, false)), (.fa 1 (.t 1)), 14, [], false⟩, ⟨(.some 15), (.some (13, false)),
    (.ld 1 false (.t 14)), 15, [], false⟩, ⟨(.some 16), (.some (13, false)), (.len (.t 15)), 16, [], false⟩, ⟨(.some 17), (.some (13, false)), (.bin .gtr (.t 16)
    (.c (.v (.int .i64 32)))), 17, [], false⟩, ⟨(.some 18), Option.none, (.pick (.t 13) (.c (.v (.bool true))) (.t 17)), 18, [], false⟩, ⟨(.some 19), Option.none, (.mv (.t 18)), 19,
    [], false⟩, ⟨(.some 20), (.some (19, false)), (.fa 2 (.t 1)), 20, [], false⟩, ⟨(.some 21), (.some (19, false)), (.ld 1 false (.t 20)), 21, [], false⟩, ⟨(.some 22), (.some (19,
    false)), (.len (.t 21)), 22, [], false⟩, ⟨(.some 23), (.some (19, false)), (.bin .gtr (.t 22) (.c (.v (.int .i64 24)))), 23, [], false⟩, ⟨(.some 24), Option.none, (.pick (.t 19)
    (.c (.v (.bool true))) (.t 23)), 24, [], false⟩, ⟨(.some 25), Option.none, (.mv (.t 24)), 25, [], false⟩, ⟨(.some 26), (.some (25, false)), (.fa 3 (.t 1)), 26, [], false⟩,
    ⟨(.some 27), (.some (25, false)), (.ld 1 false (.t 26)), 27, [], false⟩, ⟨(.some 28), (.some (25, false)), (.len (.t 27)), 28, [], false⟩, ⟨(.some 29), (.some (25, false)),
    (.bin .gtr (.t 28) (.c (.v (.int .i64 12)))), 29, [], false⟩, ⟨(.some 30), Option.none, (.pick (.t 25) (.c (.v (.bool true))) (.t 29)), 30, [], false⟩]) (.cond (.t 30)
    (.seq (.ops false [⟨(.some 2), Option.none, (.mv (.c (.v (.bool false)))), 2, [], false⟩]) .ret) .skip)) c81_1))
def r81 : List RV := [(.tmp 2)]
theorem c81_ok : ∃ code, Try.f81.body = some code ∧ compC Try.prog Try.f81.ntmps code = some (C.strip c81) := ⟨_, rfl, by kernel_rfl⟩
theorem r81_ok : compRes Try.prog Try.f81.results.toList = some r81 := by kernel_rfl
theorem f81_ok : fnOk Try.prog 81 = true := by kernel_rfl
def c82_1 : C := (.seq (.block 1 (.seq (.ops false [⟨(.some 18), Option.none, (.iaS 7 (.t 14) (.t 16)), 18, [], false⟩, ⟨(.some 19), Option.none, (.ld 7 true (.t 18)), 19, [], false⟩, ⟨(.some 5),
    Option.none, (.new [(.v (.string ({ data := #[] }))), (.v (.int .i64 0)), (.v (.int .i64 0)), (.v (.int .i64 0)), (.v (.int .i64 0)), (.v (.int .i64 0)), .mt]), 5, [], false⟩,
    ⟨Option.none, Option.none, (.st 7 (.t 5) (.t 19)), 0, [], false⟩]) (.ops false [⟨(.some 20), Option.none, (.iaA 4 1 (.t 3) (.c (.v (.int .i64 1)))), 20, [], false⟩, ⟨(.some 21),
    Option.none, (.ld 1 false (.t 20)), 21, [], false⟩, ⟨(.some 22), Option.none, (.fa 0 (.t 5)), 22, [], false⟩, ⟨(.some 23), Option.none, (.ld 1 false (.t 22)), 23, [], false⟩,
    ⟨(.some 24), Option.none, (.bsl 1 1 [(.v (.string ({ data := #[] })))] [(0, (.t 23))]), 24, [], false⟩, ⟨(.some 25), Option.none, (.app 1 16 (.t 21) (.t 24)), 25, [], false⟩,
    ⟨(.some 26), Option.none, (.iaA 4 1 (.t 3) (.c (.v (.int .i64 1)))), 26, [], false⟩, ⟨Option.none, Option.none, (.st 1 (.t 26) (.t 25)), 0, [], false⟩]))) (.ops false [⟨(.some 27),
    Option.none, (.bin .add (.t 16) (.c (.v (.int .i64 1)))), 27, [], false⟩, ⟨(.some 16), Option.none, (.mv (.t 27)), 16, [], false⟩]))
def c82_2 : C := (.seq (.ops false [⟨(.some 17), Option.none, (.bin .lss (.t 16) (.t 15)), 17, [], false⟩]) (.seq (.cond (.t 17) .skip (.exit 0)) c82_1))
def c82_3 : C := (.seq (.block 3 (.seq (.ops false [⟨(.some 33), Option.none, (.iaS 3 (.t 29) (.t 31)), 33, [], false⟩, ⟨(.some 34), Option.none, (.ld 3 true (.t 33)), 34, [], false⟩, ⟨(.some 7),
    Option.none, (.new [(.v (.string ({ data := #[] }))), (.v (.int .i64 0)), (.v (.int .i64 0))]), 7, [], false⟩, ⟨Option.none, Option.none, (.st 3 (.t 7) (.t 34)), 0, [], false⟩])
    (.ops false [⟨(.some 35), Option.none, (.iaA 4 1 (.t 3) (.c (.v (.int .i64 2)))), 35, [], false⟩, ⟨(.some 36), Option.none, (.ld 1 false (.t 35)), 36, [], false⟩, ⟨(.some 37),
    Option.none, (.fa 0 (.t 7)), 37, [], false⟩, ⟨(.some 38), Option.none, (.ld 1 false (.t 37)), 38, [], false⟩, ⟨(.some 39), Option.none, (.bsl 1 1 [(.v (.string ({ data := #[] })))]
    [(0, (.t 38))]), 39, [], false⟩, ⟨(.some 40), Option.none, (.app 1 16 (.t 36) (.t 39)), 40, [], false⟩, ⟨(.some 41), Option.none, (.iaA 4 1 (.t 3) (.c (.v (.int .i64 2)))), 41, [],
    false⟩, ⟨Option.none, Option.none, (.st 1 (.t 41) (.t 40)), 0, [], false⟩]))) (.ops false [⟨(.some 42), Option.none, (.bin .add (.t 31) (.c (.v (.int .i64 1)))), 42, [], false⟩,
    ⟨(.some 31), Option.none, (.mv (.t 42)), 31, [], false⟩]))
def c82_4 : C := (.seq (.ops false [⟨(.some 32), Option.none, (.bin .lss (.t 31) (.t 30)), 32, [], false⟩]) (.seq (.cond (.t 32) .skip (.exit 2)) c82_3))
def c82_5 : C := (.seq (.block 5 (.seq (.ops false [⟨(.some 48), Option.none, (.iaS 5 (.t 44) (.t 46)), 48, [], false⟩, ⟨(.some 49), Option.none, (.ld 5 true (.t 48)), 49, [], false⟩, ⟨(.some 9),
    Option.none, (.new [(.v (.string ({ data := #[] }))), (.v (.int .i64 0)), (.v (.int .i64 0)), (.v (.int .i64 0)), (.v (.int .i64 0))]), 9, [], false⟩, ⟨Option.none, Option.none,
    (.st 5 (.t 9) (.t 49)), 0, [], false⟩]) (.ops false [⟨(.some 50), Option.none, (.iaA 4 1 (.t 3) (.c (.v (.int .i64 3)))), 50, [], false⟩, ⟨(.some 51), Option.none,
    (.ld 1 false (.t 50)), 51, [], false⟩, ⟨(.some 52), Option.none, (.fa 0 (.t 9)), 52, [], false⟩, ⟨(.some 53), Option.none, (.ld 1 false (.t 52)), 53, [], false⟩, ⟨(.some 54),
    Option.none, (.bsl 1 1 [(.v (.string ({ data := #[] })))] [(0, (.t 53))]), 54, [], false⟩, ⟨(.some 55), Option.none, (.app 1 16 (.t 51) (.t 54)), 55, [], false⟩, ⟨(.some 56),
    Option.none, (.iaA 4 1 (.t 3) (.c (.v (.int .i64 3)))), 56, [], false⟩, ⟨Option.none, Option.none, (.st 1 (.t 56) (.t 55)), 0, [], false⟩]))) (.ops false [⟨(.some 57), Option.none,
    (.bin .add (.t 46) (.c (.v (.int .i64 1)))), 57, [], false⟩, ⟨(.some 46), Option.none, (.mv (.t 57)), 46, [], false⟩]))
def c82_6 : C := (.seq (.ops false [⟨(.some 47), Option.none, (.bin .lss (.t 46) (.t 45)), 47, [], false⟩]) (.seq (.cond (.t 47) .skip (.exit 4)) c82_5))
def c82_7 : C := (.seq (.ops false [⟨(.some 58), Option.none, (.ld 4 true (.t 3)), 58, [], false⟩, ⟨Option.none, Option.none, (.st 4 (.t 2) (.t 58)), 0, [], false⟩]) .ret)
def c82_8 : C := (.seq (.seq (.ops false [⟨(.some 43), Option.none, (.fa 3 (.t 1)), 43, [], false⟩, ⟨(.some 44), Option.none, (.ld 1 false (.t 43)), 44, [], false⟩, ⟨(.some 45), Option.none,
    (.len (.t 44)), 45, [], false⟩, ⟨(.some 46), Option.none, (.mv (.c (.v (.int .i64 0)))), 46, [], false⟩]) (.block 4 (.loop c82_6))) c82_7)
def c82_9 : C := (.seq (.seq (.ops false [⟨(.some 28), Option.none, (.fa 2 (.t 1)), 28, [], false⟩, ⟨(.some 29), Option.none, (.ld 1 false (.t 28)), 29, [], false⟩, ⟨(.some 30), Option.none,
    (.len (.t 29)), 30, [], false⟩, ⟨(.some 31), Option.none, (.mv (.c (.v (.int .i64 0)))), 31, [], false⟩]) (.block 2 (.loop c82_4))) c82_8)
def c82 : C := (.seq (.ops false [⟨(.some 1), Option.none, (.box 6 (.t 0)), 1, [], false⟩, ⟨(.some 2), Option.none, (.new [.mt, .mt, .mt, .mt]), 2, [], false⟩]) (.seq (.ops false [⟨(.some 3),
    Option.none, (.new [.mt, .mt, .mt, .mt]), 3, [], false⟩]) (.seq (.ops false [⟨(.some 10), Option.none, (.fa 0 (.t 1)), 10, [], false⟩, ⟨(.some 11), Option.none,
    (.ld 1 false (.t 10)), 11, [], false⟩, ⟨(.some 12), Option.none, (.iaA 4 1 (.t 3) (.c (.v (.int .i64 0)))), 12, [], false⟩, ⟨Option.none, Option.none, (.st 1 (.t 12) (.t 11)), 0,
    [], false⟩]) (.seq (.seq (.ops false [⟨(.some 13), Option.none, (.fa 1 (.t 1)), 13, [], false⟩, ⟨(.some 14), Option.none, (.ld 1 false (.t 13)), 14, [], false⟩, ⟨(.some 15),
    Option.none, (.len (.t 14)), 15, [], false⟩, ⟨(.some 16), Option.none, (.mv (.c (.v (.int .i64 0)))), 16, [], false⟩]) (.block 0 (.loop c82_2))) c82_9))))
def r82 : List RV := [(.cell 2 4 true)]
theorem c82_ok : ∃ code, Try.f82.body = some code ∧ compC Try.prog Try.f82.ntmps code = some (C.strip c82) := ⟨_, rfl, by kernel_rfl⟩
theorem r82_ok : compRes Try.prog Try.f82.results.toList = some r82 := by kernel_rfl
theorem f82_ok : fnOk Try.prog 82 = true := by kernel_rfl
def c84 : C := (.seq (.ops false [⟨(.some 2), Option.none, (.mv (.c (.v (.bool false)))), 2, [], false⟩]) (.seq (.ops false [⟨(.some 3), Option.none, (.mv (.t 0)), 3, [], false⟩, ⟨(.some 4),
    Option.none, (.call 85 [(.t 3)]), 4, [], true⟩, ⟨(.some 5), Option.none, (.not (.t 4)), 5, [], false⟩, ⟨(.some 2), Option.none, (.mv (.t 5)), 2, [], false⟩]) .ret))
def r84 : List RV := [(.tmp 2)]
theorem c84_ok : ∃ code, Try.f84.body = some code ∧ compC Try.prog Try.f84.ntmps code = some (C.strip c84) := ⟨_, rfl, by kernel_rfl⟩
theorem r84_ok : compRes Try.prog Try.f84.results.toList = some r84 := by kernel_rfl
theorem f84_ok : fnOk Try.prog 84 = true := by kernel_rfl
def c85_1 : C := (.ops false [⟨(.some 28), Option.none, (.bin .add (.t 20) (.c (.v (.int .i64 1)))), 28, [], false⟩, ⟨(.some 20), Option.none, (.mv (.t 28)), 20, [], false⟩])
def c85_2 : C := (.seq (.block 1 (.seq (.ops false [⟨(.some 22), Option.none, (.mv (.t 20)), 22, [], false⟩, ⟨(.some 3), Option.none, (.mv (.t 22)), 3, [], false⟩]) (.seq (.ops false [⟨(.some 23),
    Option.none, (.mv (.t 0)), 23, [], false⟩, ⟨(.some 24), Option.none, (.mv (.t 3)), 24, [], false⟩, ⟨(.some 25), Option.none, (.ixS (.t 23) (.t 24)), 25, [], false⟩, ⟨(.some 26),
    Option.none, (.call 98 [(.t 25)]), 26, [], true⟩, ⟨(.some 27), Option.none, (.bin .eql (.t 26) (.c (.v (.int .i64 0)))), 27, [], false⟩]) (.cond (.t 27)
    (.seq (.ops false [⟨(.some 2), Option.none, (.mv (.c (.v (.bool false)))), 2, [], false⟩]) .ret) .skip)))) c85_1)
def c85_3 : C := (.seq (.ops false [⟨(.some 21), Option.none, (.bin .lss (.t 20) (.t 19)), 21, [], false⟩]) (.seq (.cond (.t 21) .skip (.exit 0)) c85_2))
def c85_4 : C := (.seq (.ops false [⟨(.some 2), Option.none, (.mv (.c (.v (.bool true)))), 2, [], false⟩]) .ret)
def c85_5 : C := (.seq (.seq (.ops false [⟨(.some 18), Option.none, (.mv (.t 0)), 18, [], false⟩, ⟨(.some 19), Option.none, (.lenS (.t 18)), 19, [], false⟩, ⟨(.some 20), Option.none,
    (.mv (.c (.v (.int .i64 0)))), 20, [], false⟩]) (.block 0 (.loop c85_3))) c85_4)
def c85 : C := (.seq (.ops false [⟨(.some 2), Option.none, (.mv (.c (.v (.bool false)))), 2, [], false⟩]) (.seq (.seq (.ops false [⟨(.some 4), Option.none, (.mv (.t 0)), 4, [], false⟩,
    ⟨(.some 5), Option.none, (.lenS (.t 4)), 5, [], false⟩, ⟨(.some 6), Option.none, (.bin .lss (.t 5) (.c (.v (.int .i64 1)))), 6, [], false⟩, ⟨(.some 7), Option.none, (.mv (.t 6)),
    7, [], false⟩, ⟨(.some 8), (.some (7, false)), (.mv (.t 0)), 8, [], false⟩, ⟨(.some 9), (.some (7, false)), (.lenS (.t 8)), 9, [], false⟩, ⟨(.some 10), (.some (7, false)),
    (.bin .gtr (.t 9) (.c (.v (.int .i64 12)))), 10, [], false⟩, ⟨(.some 11), Option.none, (.pick (.t 7) (.c (.v (.bool true))) (.t 10)), 11, [], false⟩, ⟨(.some 12), Option.none,
    (.mv (.t 11)), 12, [], false⟩, ⟨(.some 13), (.some (12, false)), (.mv (.t 0)), 13, [], false⟩, ⟨(.some 14), (.some (12, false)), (.ixS (.t 13) (.c (.v (.int .i64 0)))), 14, [],
    false⟩, ⟨(.some 15), (.some (12, false)), (.call 98 [(.t 14)]), 15, [], true⟩, ⟨(.some 16), (.some (12, false)), (.bin .neq (.t 15) (.c (.v (.int .i64 1)))), 16, [], false⟩,
    ⟨(.some 17), Option.none, (.pick (.t 12) (.c (.v (.bool true))) (.t 16)), 17, [], false⟩]) (.cond (.t 17) (.seq (.ops false [⟨(.some 2), Option.none, (.mv (.c (.v (.bool false)))),
    2, [], false⟩]) .ret) .skip)) c85_5))
def r85 : List RV := [(.tmp 2)]
theorem c85_ok : ∃ code, Try.f85.body = some code ∧ compC Try.prog Try.f85.ntmps code = some (C.strip c85) := ⟨_, rfl, by kernel_rfl⟩
theorem r85_ok : compRes Try.prog Try.f85.results.toList = some r85 := by kernel_rfl
theorem f85_ok : fnOk Try.prog 85 = true := by kernel_rfl
def c86_1 : C := (.ops false [⟨(.some 26), Option.none, (.bin .add (.t 16) (.c (.v (.int .i64 1)))), 26, [], false⟩, ⟨(.some 16), Option.none, (.mv (.t 26)), 16, [], false⟩])
def c86_2 : C := (.seq (.block 3 (.seq (.ops false [⟨(.some 18), Option.none, (.mv (.t 16)), 18, [], false⟩, ⟨(.some 19), Option.none, (.iaS 1 (.t 14) (.t 16)), 19, [], false⟩, ⟨(.some 20),
    Option.none, (.ld 1 false (.t 19)), 20, [], false⟩, ⟨(.some 5), Option.none, (.mv (.t 18)), 5, [], false⟩, ⟨(.some 6), Option.none, (.mv (.t 20)), 6, [], false⟩])
    (.seq (.ops false [⟨(.some 21), Option.none, (.mv (.t 4)), 21, [], false⟩, ⟨(.some 22), Option.none, (.mv (.t 6)), 22, [], false⟩, ⟨(.some 23), Option.none, (.call 99 [(.t 21),
    (.t 22)]), 23, [], true⟩, ⟨(.some 24), Option.none, (.mv (.t 5)), 24, [], false⟩, ⟨(.some 25), Option.none, (.bin .lss (.t 23) (.t 24)), 25, [], false⟩]) (.cond (.t 25)
    (.seq (.ops false [⟨(.some 2), Option.none, (.mv (.c (.v (.bool true)))), 2, [], false⟩]) .ret) .skip)))) c86_1)
def c86_3 : C := (.seq (.ops false [⟨(.some 17), Option.none, (.bin .lss (.t 16) (.t 15)), 17, [], false⟩]) (.seq (.cond (.t 17) .skip (.exit 2)) c86_2))
def c86_4 : C := (.ops false [⟨(.some 27), Option.none, (.bin .add (.t 11) (.c (.v (.int .i64 1)))), 27, [], false⟩, ⟨(.some 11), Option.none, (.mv (.t 27)), 11, [], false⟩])
def c86_5 : C := (.seq (.block 1 (.seq (.ops false [⟨(.some 13), Option.none, (.ixA 4 1 false (.t 10) (.t 11)), 13, [], false⟩, ⟨(.some 4), Option.none, (.mv (.t 13)), 4, [], false⟩])
    (.seq (.ops false [⟨(.some 14), Option.none, (.mv (.t 4)), 14, [], false⟩, ⟨(.some 15), Option.none, (.len (.t 14)), 15, [], false⟩, ⟨(.some 16), Option.none,
    (.mv (.c (.v (.int .i64 0)))), 16, [], false⟩]) (.block 2 (.loop c86_3))))) c86_4)
def c86_6 : C := (.seq (.ops false [⟨(.some 12), Option.none, (.bin .lss (.t 11) (.c (.v (.int .i64 4)))), 12, [], false⟩]) (.seq (.cond (.t 12) .skip (.exit 0)) c86_5))
def c86_7 : C := (.seq (.ops false [⟨(.some 36), Option.none, (.fa 3 (.t 1)), 36, [], false⟩, ⟨(.some 37), Option.none, (.ld 1 false (.t 36)), 37, [], false⟩, ⟨(.some 38), Option.none, (.mkf 101 []
    [(.t 8)]), 38, [], false⟩, ⟨(.some 39), Option.none, (.call 100 [(.t 37), (.t 38)]), 39, [], true⟩, ⟨(.some 40), Option.none, (.mv (.t 7)), 40, [], false⟩, ⟨(.some 41),
    Option.none, (.bin .lss (.t 39) (.t 40)), 41, [], false⟩]) (.cond (.t 41) (.seq (.ops false [⟨(.some 2), Option.none, (.mv (.c (.v (.bool true)))), 2, [], false⟩]) .ret) .skip))
def c86_8 : C := (.ops false [⟨(.some 42), Option.none, (.bin .add (.t 31) (.c (.v (.int .i64 1)))), 42, [], false⟩, ⟨(.some 31), Option.none, (.mv (.t 42)), 31, [], false⟩])
def c86_9 : C := (.seq (.block 5 (.seq (.ops false [⟨(.some 33), Option.none, (.mv (.t 31)), 33, [], false⟩, ⟨(.some 34), Option.none, (.iaS 5 (.t 29) (.t 31)), 34, [], false⟩, ⟨(.some 35),
    Option.none, (.ld 5 true (.t 34)), 35, [], false⟩, ⟨(.some 8), Option.none, (.new [(.v (.string ({ data := #[] }))), (.v (.int .i64 0)), (.v (.int .i64 0)), (.v (.int .i64 0)),
    (.v (.int .i64 0))]), 8, [], false⟩, ⟨(.some 7), Option.none, (.mv (.t 33)), 7, [], false⟩, ⟨Option.none, Option.none, (.st 5 (.t 8) (.t 35)), 0, [], false⟩]) (.weak c86_7)))
    c86_8)
def c86_10 : C := (.seq (.ops false [⟨(.some 32), Option.none, (.bin .lss (.t 31) (.t 30)), 32, [], false⟩]) (.seq (.cond (.t 32) .skip (.exit 4)) c86_9))
def c86_11 : C := (.seq (.ops false [⟨(.some 2), Option.none, (.mv (.c (.v (.bool false)))), 2, [], false⟩]) .ret)
def c86_12 : C := (.seq (.seq (.ops false [⟨(.some 28), Option.none, (.fa 3 (.t 1)), 28, [], false⟩, ⟨(.some 29), Option.none, (.ld 1 false (.t 28)), 29, [], false⟩, ⟨(.some 30), Option.none,
    (.len (.t 29)), 30, [], false⟩, ⟨(.some 31), Option.none, (.mv (.c (.v (.int .i64 0)))), 31, [], false⟩]) (.block 4 (.loop c86_10))) c86_11)
def c86 : C := (.seq (.ops false [⟨(.some 1), Option.none, (.box 6 (.t 0)), 1, [], false⟩, ⟨(.some 2), Option.none, (.mv (.c (.v (.bool false)))), 2, [], false⟩])
    (.seq (.seq (.ops false [⟨(.some 9), Option.none, (.ld 6 true (.t 1)), 9, [], false⟩, ⟨(.some 10), Option.none, (.call 82 [(.t 9)]), 10, [], false⟩, ⟨(.some 11), Option.none,
    (.mv (.c (.v (.int .i64 0)))), 11, [], false⟩]) (.block 0 (.loop c86_6))) c86_12))
def r86 : List RV := [(.tmp 2)]
theorem c86_ok : ∃ code, Try.f86.body = some code ∧ compC Try.prog Try.f86.ntmps code = some (C.strip c86) := ⟨_, rfl, by kernel_rfl⟩
theorem r86_ok : compRes Try.prog Try.f86.results.toList = some r86 := by kernel_rfl
theorem f86_ok : fnOk Try.prog 86 = true := by kernel_rfl
def c87_1 : C := (.seq (.block 1 (.seq (.ops false [⟨(.some 15), Option.none, (.iaS 7 (.t 11) (.t 13)), 15, [], false⟩, ⟨(.some 16), Option.none, (.ld 7 true (.t 15)), 16, [], false⟩, ⟨(.some 5),
    Option.none, (.new [(.v (.string ({ data := #[] }))), (.v (.int .i64 0)), (.v (.int .i64 0)), (.v (.int .i64 0)), (.v (.int .i64 0)), (.v (.int .i64 0)), .mt]), 5, [], false⟩,
    ⟨Option.none, Option.none, (.st 7 (.t 5) (.t 16)), 0, [], false⟩]) (.ops false [⟨(.some 17), Option.none, (.mv (.t 3)), 17, [], false⟩, ⟨(.some 18), Option.none, (.fa 1 (.t 5)),
    18, [], false⟩, ⟨(.some 19), Option.none, (.ld 1 false (.t 18)), 19, [], false⟩, ⟨(.some 20), Option.none, (.fa 2 (.t 5)), 20, [], false⟩, ⟨(.some 21), Option.none,
    (.ld 1 false (.t 20)), 21, [], false⟩, ⟨(.some 22), Option.none, (.bsl 1 2 [(.v (.int .i64 0))] [(0, (.t 19)), (1, (.t 21))]), 22, [], false⟩, ⟨(.some 23), Option.none,
    (.app 1 8 (.t 17) (.t 22)), 23, [], false⟩, ⟨(.some 3), Option.none, (.mv (.t 23)), 3, [], false⟩]))) (.ops false [⟨(.some 24), Option.none, (.bin .add (.t 13)
    (.c (.v (.int .i64 1)))), 24, [], false⟩, ⟨(.some 13), Option.none, (.mv (.t 24)), 13, [], false⟩]))
def c87_2 : C := (.seq (.ops false [⟨(.some 14), Option.none, (.bin .lss (.t 13) (.t 12)), 14, [], false⟩]) (.seq (.cond (.t 14) .skip (.exit 0)) c87_1))
def c87_3 : C := (.seq (.block 3 (.seq (.ops false [⟨(.some 30), Option.none, (.iaS 3 (.t 26) (.t 28)), 30, [], false⟩, ⟨(.some 31), Option.none, (.ld 3 true (.t 30)), 31, [], false⟩, ⟨(.some 7),
    Option.none, (.new [(.v (.string ({ data := #[] }))), (.v (.int .i64 0)), (.v (.int .i64 0))]), 7, [], false⟩, ⟨Option.none, Option.none, (.st 3 (.t 7) (.t 31)), 0, [], false⟩])
    (.ops false [⟨(.some 32), Option.none, (.mv (.t 3)), 32, [], false⟩, ⟨(.some 33), Option.none, (.fa 1 (.t 7)), 33, [], false⟩, ⟨(.some 34), Option.none, (.ld 1 false (.t 33)), 34,
    [], false⟩, ⟨(.some 35), Option.none, (.bsl 1 1 [(.v (.int .i64 0))] [(0, (.t 34))]), 35, [], false⟩, ⟨(.some 36), Option.none, (.app 1 8 (.t 32) (.t 35)), 36, [], false⟩,
    ⟨(.some 3), Option.none, (.mv (.t 36)), 3, [], false⟩]))) (.ops false [⟨(.some 37), Option.none, (.bin .add (.t 28) (.c (.v (.int .i64 1)))), 37, [], false⟩, ⟨(.some 28),
    Option.none, (.mv (.t 37)), 28, [], false⟩]))
def c87_4 : C := (.seq (.ops false [⟨(.some 29), Option.none, (.bin .lss (.t 28) (.t 27)), 29, [], false⟩]) (.seq (.cond (.t 29) .skip (.exit 2)) c87_3))
def c87_5 : C := (.seq (.block 5 (.seq (.ops false [⟨(.some 43), Option.none, (.iaS 5 (.t 39) (.t 41)), 43, [], false⟩, ⟨(.some 44), Option.none, (.ld 5 true (.t 43)), 44, [], false⟩, ⟨(.some 9),
    Option.none, (.new [(.v (.string ({ data := #[] }))), (.v (.int .i64 0)), (.v (.int .i64 0)), (.v (.int .i64 0)), (.v (.int .i64 0))]), 9, [], false⟩, ⟨Option.none, Option.none,
    (.st 5 (.t 9) (.t 44)), 0, [], false⟩]) (.ops false [⟨(.some 45), Option.none, (.mv (.t 3)), 45, [], false⟩, ⟨(.some 46), Option.none, (.fa 1 (.t 9)), 46, [], false⟩, ⟨(.some 47),
    Option.none, (.ld 1 false (.t 46)), 47, [], false⟩, ⟨(.some 48), Option.none, (.bsl 1 1 [(.v (.int .i64 0))] [(0, (.t 47))]), 48, [], false⟩, ⟨(.some 49), Option.none,
    (.app 1 8 (.t 45) (.t 48)), 49, [], false⟩, ⟨(.some 3), Option.none, (.mv (.t 49)), 3, [], false⟩]))) (.ops false [⟨(.some 50), Option.none, (.bin .add (.t 41)
    (.c (.v (.int .i64 1)))), 50, [], false⟩, ⟨(.some 41), Option.none, (.mv (.t 50)), 41, [], false⟩]))
def c87_6 : C := (.seq (.ops false [⟨(.some 42), Option.none, (.bin .lss (.t 41) (.t 40)), 42, [], false⟩]) (.seq (.cond (.t 42) .skip (.exit 4)) c87_5))
def c87_7 : C := (.seq (.ops false [⟨(.some 51), Option.none, (.mv (.t 3)), 51, [], false⟩, ⟨(.some 52), Option.none, (.mkf 102 [] [(.t 1)]), 52, [], false⟩, ⟨(.some 53), Option.none,
    (.call 68 [(.t 51), (.t 52)]), 53, [], true⟩, ⟨(.some 54), Option.none, (.not (.t 53)), 54, [], false⟩, ⟨(.some 2), Option.none, (.mv (.t 54)), 2, [], false⟩]) .ret)
def c87_8 : C := (.seq (.seq (.ops false [⟨(.some 38), Option.none, (.fa 3 (.t 1)), 38, [], false⟩, ⟨(.some 39), Option.none, (.ld 1 false (.t 38)), 39, [], false⟩, ⟨(.some 40), Option.none,
    (.len (.t 39)), 40, [], false⟩, ⟨(.some 41), Option.none, (.mv (.c (.v (.int .i64 0)))), 41, [], false⟩]) (.block 4 (.loop c87_6))) (.weak c87_7))
def c87_9 : C := (.seq (.seq (.ops false [⟨(.some 25), Option.none, (.fa 2 (.t 1)), 25, [], false⟩, ⟨(.some 26), Option.none, (.ld 1 false (.t 25)), 26, [], false⟩, ⟨(.some 27), Option.none,
    (.len (.t 26)), 27, [], false⟩, ⟨(.some 28), Option.none, (.mv (.c (.v (.int .i64 0)))), 28, [], false⟩]) (.block 2 (.loop c87_4))) c87_8)
def c87 : C := (.seq (.ops false [⟨(.some 1), Option.none, (.box 6 (.t 0)), 1, [], false⟩, ⟨(.some 2), Option.none, (.mv (.c (.v (.bool false)))), 2, [], false⟩]) (.seq (.ops false [⟨(.some 3),
    Option.none, (.mv (.c .mt)), 3, [], false⟩]) (.seq (.seq (.ops false [⟨(.some 10), Option.none, (.fa 1 (.t 1)), 10, [], false⟩, ⟨(.some 11), Option.none, (.ld 1 false (.t 10)), 11,
    [], false⟩, ⟨(.some 12), Option.none, (.len (.t 11)), 12, [], false⟩, ⟨(.some 13), Option.none, (.mv (.c (.v (.int .i64 0)))), 13, [], false⟩]) (.block 0 (.loop c87_2))) c87_9)))
def r87 : List RV := [(.tmp 2)]
theorem c87_ok : ∃ code, Try.f87.body = some code ∧ compC Try.prog Try.f87.ntmps code = some (C.strip c87) := ⟨_, rfl, by kernel_rfl⟩
theorem r87_ok : compRes Try.prog Try.f87.results.toList = some r87 := by kernel_rfl
theorem f87_ok : fnOk Try.prog 87 = true := by kernel_rfl
def c88_1 : C := (.seq (.ops false [⟨(.some 12), Option.none, (.fa 4 (.t 1)), 12, [], false⟩, ⟨(.some 13), Option.none, (.ld 1 false (.t 12)), 13, [], false⟩, ⟨(.some 14), Option.none,
    (.call 107 [(.t 13), (.c (.v (.int .i64 (-100000)))), (.c (.v (.int .i64 100000000)))]), 14, [], true⟩, ⟨(.some 15), Option.none, (.mv (.t 14)), 15, [], false⟩, ⟨(.some 16),
    (.some (15, true)), (.fa 5 (.t 1)), 16, [], false⟩, ⟨(.some 17), (.some (15, true)), (.ld 1 false (.t 16)), 17, [], false⟩, ⟨(.some 18), (.some (15, true)), (.call 107 [(.t 17),
    (.c (.v (.int .i64 0))), (.c (.v (.int .i64 100)))]), 18, [], true⟩, ⟨(.some 19), Option.none, (.pick (.t 15) (.t 18) (.c (.v (.bool false)))), 19, [], false⟩, ⟨(.some 2),
    Option.none, (.mv (.t 19)), 2, [], false⟩]) .ret)
def c88_2 : C := (.seq (.seq (.ops false [⟨(.some 9), Option.none, (.fa 3 (.t 1)), 9, [], false⟩, ⟨(.some 10), Option.none, (.ld 1 false (.t 9)), 10, [], false⟩, ⟨(.some 11), Option.none,
    (.call 108 [(.t 10), (.c (.clo 109 [] []))]), 11, [], true⟩]) (.cond (.t 11) (.seq (.ops false [⟨(.some 2), Option.none, (.mv (.c (.v (.bool false)))), 2, [], false⟩]) .ret)
    .skip)) c88_1)
def c88_3 : C := (.seq (.seq (.ops false [⟨(.some 6), Option.none, (.fa 2 (.t 1)), 6, [], false⟩, ⟨(.some 7), Option.none, (.ld 1 false (.t 6)), 7, [], false⟩, ⟨(.some 8), Option.none,
    (.call 105 [(.t 7), (.c (.clo 106 [] []))]), 8, [], true⟩]) (.cond (.t 8) (.seq (.ops false [⟨(.some 2), Option.none, (.mv (.c (.v (.bool false)))), 2, [], false⟩]) .ret) .skip))
    c88_2)
def c88 : C := (.seq (.ops false [⟨(.some 1), Option.none, (.box 6 (.t 0)), 1, [], false⟩, ⟨(.some 2), Option.none, (.mv (.c (.v (.bool false)))), 2, [], false⟩])
    (.seq (.seq (.ops false [⟨(.some 3), Option.none, (.fa 1 (.t 1)), 3, [], false⟩, ⟨(.some 4), Option.none, (.ld 1 false (.t 3)), 4, [], false⟩, ⟨(.some 5), Option.none,
    (.call 95 [(.t 4), (.c (.clo 103 [] []))]), 5, [], true⟩]) (.cond (.t 5) (.seq (.ops false [⟨(.some 2), Option.none, (.mv (.c (.v (.bool false)))), 2, [], false⟩]) .ret) .skip))
    c88_3))
def r88 : List RV := [(.tmp 2)]
theorem c88_ok : ∃ code, Try.f88.body = some code ∧ compC Try.prog Try.f88.ntmps code = some (C.strip c88) := ⟨_, rfl, by kernel_rfl⟩
theorem r88_ok : compRes Try.prog Try.f88.results.toList = some r88 := by kernel_rfl
theorem f88_ok : fnOk Try.prog 88 = true := by kernel_rfl
def c96 : C := (.seq (.ops false [⟨(.some 1), Option.none, (.box 7 (.t 0)), 1, [], false⟩, ⟨(.some 2), Option.none, (.mv (.c (.v (.bool false)))), 2, [], false⟩]) (.seq (.ops false [⟨(.some 3),
    Option.none, (.fa 6 (.t 1)), 3, [], false⟩, ⟨(.some 4), Option.none, (.ld 1 false (.t 3)), 4, [], false⟩, ⟨(.some 5), Option.none, (.len (.t 4)), 5, [], false⟩, ⟨(.some 6),
    Option.none, (.bin .lss (.t 5) (.c (.v (.int .i64 2)))), 6, [], false⟩, ⟨(.some 7), Option.none, (.mv (.t 6)), 7, [], false⟩, ⟨(.some 8), (.some (7, false)), (.fa 6 (.t 1)), 8, [],
    false⟩, ⟨(.some 9), (.some (7, false)), (.ld 1 false (.t 8)), 9, [], false⟩, ⟨(.some 10), (.some (7, false)), (.len (.t 9)), 10, [], false⟩, ⟨(.some 11), (.some (7, false)),
    (.bin .gtr (.t 10) (.c (.v (.int .i64 8)))), 11, [], false⟩, ⟨(.some 12), Option.none, (.pick (.t 7) (.c (.v (.bool true))) (.t 11)), 12, [], false⟩, ⟨(.some 2), Option.none,
    (.mv (.t 12)), 2, [], false⟩]) .ret))
def r96 : List RV := [(.tmp 2)]
theorem c96_ok : ∃ code, Try.f96.body = some code ∧ compC Try.prog Try.f96.ntmps code = some (C.strip c96) := ⟨_, rfl, by kernel_rfl⟩
theorem r96_ok : compRes Try.prog Try.f96.results.toList = some r96 := by kernel_rfl
theorem f96_ok : fnOk Try.prog 96 = true := by kernel_rfl
def c98_1 : C := (.seq (.ops false [⟨(.some 18), Option.none, (.mv (.t 0)), 18, [], false⟩, ⟨(.some 19), Option.none, (.bin .eql (.t 18) (.c (.v (.int .u8 45)))), 19, [], false⟩, ⟨(.some 17),
    Option.none, (.mv (.t 19)), 17, [], false⟩]) (.cond (.t 17) (.exit 3) .skip))
def c98_2 : C := (.seq (.seq (.ops false [⟨(.some 11), Option.none, (.mv (.t 0)), 11, [], false⟩, ⟨(.some 12), Option.none, (.bin .geq (.t 11) (.c (.v (.int .u8 48)))), 12, [], false⟩, ⟨(.some 13),
    Option.none, (.mv (.t 12)), 13, [], false⟩, ⟨(.some 14), (.some (13, true)), (.mv (.t 0)), 14, [], false⟩, ⟨(.some 15), (.some (13, true)), (.bin .leq (.t 14)
    (.c (.v (.int .u8 57)))), 15, [], false⟩, ⟨(.some 16), Option.none, (.pick (.t 13) (.t 15) (.c (.v (.bool false)))), 16, [], false⟩, ⟨(.some 10), Option.none, (.mv (.t 16)), 10,
    [], false⟩]) (.cond (.t 10) (.exit 2) .skip)) c98_1)
def c98_3 : C := (.exit 0)
def c98_4 : C := (.seq (.seq (.ops false [⟨(.some 2), Option.none, (.mv (.c (.v (.int .i64 1)))), 2, [], false⟩]) .ret) (.exit 0))
def c98_5 : C := (.seq (.seq (.ops false [⟨(.some 2), Option.none, (.mv (.c (.v (.int .i64 2)))), 2, [], false⟩]) .ret) (.exit 0))
def c98_6 : C := (.seq (.ops false [⟨(.some 2), Option.none, (.mv (.c (.v (.int .i64 0)))), 2, [], false⟩]) .ret)
def c98 : C := (.seq (.ops false [⟨(.some 2), Option.none, (.mv (.c (.v (.int .i64 0)))), 2, [], false⟩])
    (.seq (.block 0 (.seq (.block 3 (.block 2 (.seq (.block 1 (.seq (.seq (.seq (.ops false [⟨(.some 4), Option.none, (.mv (.t 0)), 4, [], false⟩, ⟨(.some 5), Option.none,
    (.bin .geq (.t 4) (.c (.v (.int .u8 97)))), 5, [], false⟩, ⟨(.some 6), Option.none, (.mv (.t 5)), 6, [], false⟩, ⟨(.some 7), (.some (6, true)), (.mv (.t 0)), 7, [], false⟩,
    ⟨(.some 8), (.some (6, true)), (.bin .leq (.t 7) (.c (.v (.int .u8 122)))), 8, [], false⟩, ⟨(.some 9), Option.none, (.pick (.t 6) (.t 8) (.c (.v (.bool false)))), 9, [], false⟩,
    ⟨(.some 3), Option.none, (.mv (.t 9)), 3, [], false⟩]) (.cond (.t 3) (.exit 1) .skip)) c98_2) c98_3)) c98_4))) c98_5)) c98_6))
def r98 : List RV := [(.tmp 2)]
theorem c98_ok : ∃ code, Try.f98.body = some code ∧ compC Try.prog Try.f98.ntmps code = some (C.strip c98) := ⟨_, rfl, by kernel_rfl⟩
theorem r98_ok : compRes Try.prog Try.f98.results.toList = some r98 := by kernel_rfl
theorem f98_ok : fnOk Try.prog 98 = true := by kernel_rfl
def c99_1 : C := (.ops false [⟨(.some 18), Option.none, (.bin .add (.t 8) (.c (.v (.int .i64 1)))), 18, [], false⟩, ⟨(.some 8), Option.none, (.mv (.t 18)), 8, [], false⟩])
def c99_2 : C := (.seq (.block 1 (.seq (.ops false [⟨(.some 10), Option.none, (.mv (.t 8)), 10, [], false⟩, ⟨(.some 5), Option.none, (.mv (.t 10)), 5, [], false⟩]) (.seq (.ops false [⟨(.some 11),
    Option.none, (.mv (.t 1)), 11, [], false⟩, ⟨(.some 12), Option.none, (.mv (.t 0)), 12, [], false⟩, ⟨(.some 13), Option.none, (.mv (.t 5)), 13, [], false⟩, ⟨(.some 14), Option.none,
    (.iaS 1 (.t 12) (.t 13)), 14, [], false⟩, ⟨(.some 15), Option.none, (.ld 1 false (.t 14)), 15, [], false⟩, ⟨(.some 16), Option.none, (.bin .eql (.t 11) (.t 15)), 16, [], false⟩])
    (.cond (.t 16) (.seq (.ops false [⟨(.some 17), Option.none, (.mv (.t 5)), 17, [], false⟩, ⟨(.some 4), Option.none, (.mv (.t 17)), 4, [], false⟩]) .ret) .skip)))) c99_1)
def c99_3 : C := (.seq (.ops false [⟨(.some 9), Option.none, (.bin .lss (.t 8) (.t 7)), 9, [], false⟩]) (.seq (.cond (.t 9) .skip (.exit 0)) c99_2))
def c99_4 : C := (.seq (.ops false [⟨(.some 4), Option.none, (.mv (.c (.v (.int .i64 (-1))))), 4, [], false⟩]) .ret)
def c99 : C := (.seq (.ops false [⟨(.some 4), Option.none, (.mv (.c (.v (.int .i64 0)))), 4, [], false⟩]) (.seq (.seq (.ops false [⟨(.some 6), Option.none, (.mv (.t 0)), 6, [], false⟩,
    ⟨(.some 7), Option.none, (.len (.t 6)), 7, [], false⟩, ⟨(.some 8), Option.none, (.mv (.c (.v (.int .i64 0)))), 8, [], false⟩]) (.block 0 (.loop c99_3))) c99_4))
def r99 : List RV := [(.tmp 4)]
theorem c99_ok : ∃ code, Try.f99.body = some code ∧ compC Try.prog Try.f99.ntmps code = some (C.strip c99) := ⟨_, rfl, by kernel_rfl⟩
theorem r99_ok : compRes Try.prog Try.f99.results.toList = some r99 := by kernel_rfl
theorem f99_ok : fnOk Try.prog 99 = true := by kernel_rfl
def c101 : C := (.seq (.ops false [⟨(.some 2), Option.none, (.box 5 (.t 0)), 2, [], false⟩, ⟨(.some 3), Option.none, (.mv (.c (.v (.bool false)))), 3, [], false⟩]) (.seq (.ops false [⟨(.some 4),
    Option.none, (.fa 1 (.t 2)), 4, [], false⟩, ⟨(.some 5), Option.none, (.ld 1 false (.t 4)), 5, [], false⟩, ⟨(.some 6), Option.none, (.fa 1 (.t 1)), 6, [], false⟩, ⟨(.some 7),
    Option.none, (.ld 1 false (.t 6)), 7, [], false⟩, ⟨(.some 8), Option.none, (.bin .eql (.t 5) (.t 7)), 8, [], false⟩, ⟨(.some 3), Option.none, (.mv (.t 8)), 3, [], false⟩]) .ret))
def r101 : List RV := [(.tmp 3)]
theorem c101_ok : ∃ code, Try.f101.body = some code ∧ compC Try.prog Try.f101.ntmps code = some (C.strip c101) := ⟨_, rfl, by kernel_rfl⟩
theorem r101_ok : compRes Try.prog Try.f101.results.toList = some r101 := by kernel_rfl
theorem f101_ok : fnOk Try.prog 101 = true := by kernel_rfl
def c102 : C := (.seq (.ops false [⟨(.some 3), Option.none, (.mv (.c (.v (.bool false)))), 3, [], false⟩]) (.seq (.ops false [⟨(.some 4), Option.none, (.mv (.t 0)), 4, [], false⟩, ⟨(.some 5),
    Option.none, (.bin .lss (.t 4) (.c (.v (.int .i64 0)))), 5, [], false⟩, ⟨(.some 6), Option.none, (.mv (.t 5)), 6, [], false⟩, ⟨(.some 7), (.some (6, false)), (.mv (.t 0)), 7, [],
    false⟩, ⟨(.some 8), (.some (6, false)), (.fa 0 (.t 1)), 8, [], false⟩, ⟨(.some 9), (.some (6, false)), (.ld 1 false (.t 8)), 9, [], false⟩, ⟨(.some 10), (.some (6, false)),
    (.len (.t 9)), 10, [], false⟩, ⟨(.some 11), (.some (6, false)), (.bin .geq (.t 7) (.t 10)), 11, [], false⟩, ⟨(.some 12), Option.none, (.pick (.t 6) (.c (.v (.bool true))) (.t 11)),
    12, [], false⟩, ⟨(.some 3), Option.none, (.mv (.t 12)), 3, [], false⟩]) .ret))
def r102 : List RV := [(.tmp 3)]
theorem c102_ok : ∃ code, Try.f102.body = some code ∧ compC Try.prog Try.f102.ntmps code = some (C.strip c102) := ⟨_, rfl, by kernel_rfl⟩
theorem r102_ok : compRes Try.prog Try.f102.results.toList = some r102 := by kernel_rfl
theorem f102_ok : fnOk Try.prog 102 = true := by kernel_rfl
def c103 : C := (.seq (.ops false [⟨(.some 1), Option.none, (.box 7 (.t 0)), 1, [], false⟩, ⟨(.some 2), Option.none, (.mv (.c (.v (.bool false)))), 2, [], false⟩]) (.seq (.ops false [⟨(.some 3),
    Option.none, (.ld 7 true (.t 1)), 3, [], false⟩, ⟨(.some 4), Option.none, (.call 104 [(.t 3)]), 4, [], true⟩, ⟨(.some 5), Option.none, (.not (.t 4)), 5, [], false⟩, ⟨(.some 2),
    Option.none, (.mv (.t 5)), 2, [], false⟩]) .ret))
def r103 : List RV := [(.tmp 2)]
theorem c103_ok : ∃ code, Try.f103.body = some code ∧ compC Try.prog Try.f103.ntmps code = some (C.strip c103) := ⟨_, rfl, by kernel_rfl⟩
theorem r103_ok : compRes Try.prog Try.f103.results.toList = some r103 := by kernel_rfl
theorem f103_ok : fnOk Try.prog 103 = true := by kernel_rfl
def c104_1 : C := (.ops false [⟨(.some 62), Option.none, (.bin .add (.t 31) (.c (.v (.int .i64 1)))), 62, [], false⟩, ⟨(.some 31), Option.none, (.mv (.t 62)), 31, [], false⟩])
def c104_2 : C := (.seq (.block 1 (.seq (.ops false [⟨(.some 33), Option.none, (.mv (.t 31)), 33, [], false⟩, ⟨(.some 34), Option.none, (.iaS 3 (.t 29) (.t 31)), 34, [], false⟩, ⟨(.some 35),
    Option.none, (.ld 3 true (.t 34)), 35, [], false⟩, ⟨(.some 4), Option.none, (.new [(.v (.int .i64 0)), (.v (.int .i64 0)), (.v (.int .i64 0))]), 4, [], false⟩, ⟨(.some 3),
    Option.none, (.mv (.t 33)), 3, [], false⟩, ⟨Option.none, Option.none, (.st 3 (.t 4) (.t 35)), 0, [], false⟩]) (.seq (.ops true [⟨(.some 36), Option.none, (.fa 1 (.t 4)), 36, [],
    false⟩, ⟨(.some 37), Option.none, (.ld 1 false (.t 36)), 37, [0], false⟩, ⟨(.some 38), Option.none, (.call 107 [(.t 37), (.c (.v (.int .i64 (-500)))), (.c (.v (.int .i64 5000)))]),
    38, [0, 1], true⟩, ⟨(.some 39), Option.none, (.not (.t 38)), 39, [1, 0, 2], false⟩, ⟨(.some 40), Option.none, (.mv (.t 39)), 40, [0, 1, 2, 3], false⟩, ⟨(.some 41), (.some (40,
    false)), (.fa 2 (.t 4)), 41, [3, 2, 1, 0, 4], false⟩, ⟨(.some 42), (.some (40, false)), (.ld 1 false (.t 41)), 42, [0, 1, 2, 3, 4, 5], false⟩, ⟨(.some 43), (.some (40, false)),
    (.call 107 [(.t 42), (.c (.v (.int .i64 0))), (.c (.v (.int .i64 100000000)))]), 43, [5, 3, 2, 1, 0, 4, 6], true⟩, ⟨(.some 44), (.some (40, false)), (.not (.t 43)), 44, [6, 0, 1,
    2, 3, 5, 4, 7], false⟩, ⟨(.some 45), Option.none, (.pick (.t 40) (.c (.v (.bool true))) (.t 44)), 45, [7, 5, 6, 3, 2, 1, 0, 8, 4], false⟩, ⟨(.some 46), Option.none, (.mv (.t 45)),
    46, [4, 8, 0, 1, 2, 3, 6, 5, 7, 9], false⟩, ⟨(.some 47), (.some (46, false)), (.mv (.t 3)), 47, [9, 7, 5, 6, 3, 2, 1, 0, 8, 4, 10], false⟩, ⟨(.some 48), (.some (46, false)),
    (.bin .gtr (.t 47) (.c (.v (.int .i64 0)))), 48, [4, 8, 0, 1, 2, 3, 6, 5, 7, 9, 10, 11], false⟩, ⟨(.some 49), (.some (46, false)), (.mv (.t 48)), 49, [11, 9, 7, 5, 6, 3, 2, 1, 0,
    8, 4, 10, 12], false⟩, ⟨(.some 50), (.some (49, true)), (.fa 0 (.t 4)), 50, [12, 10, 4, 8, 0, 1, 2, 3, 6, 5, 7, 9, 11, 13], false⟩, ⟨(.some 51), (.some (49, true)),
    (.ld 1 false (.t 50)), 51, [11, 9, 7, 5, 6, 3, 2, 1, 0, 8, 4, 10, 12, 13, 14], false⟩, ⟨(.some 52), (.some (49, true)), (.fa 6 (.t 1)), 52, [12, 10, 4, 8, 0, 1, 2, 3, 6, 5, 7, 9,
    11, 13], false⟩, ⟨(.some 53), (.some (49, true)), (.ld 1 false (.t 52)), 53, [11, 9, 7, 5, 6, 3, 2, 1, 0, 8, 4, 10, 12, 13, 16], false⟩, ⟨(.some 54), (.some (49, true)),
    (.mv (.t 3)), 54, [12, 10, 4, 8, 0, 1, 2, 3, 6, 5, 7, 9, 11, 13], false⟩, ⟨(.some 55), (.some (49, true)), (.bin .sub (.t 54) (.c (.v (.int .i64 1)))), 55, [11, 9, 7, 5, 6, 3, 2,
    1, 0, 8, 4, 10, 12, 13, 18], false⟩, ⟨(.some 56), (.some (49, true)), (.iaS 3 (.t 53) (.t 55)), 56, [18, 16, 12, 10, 4, 8, 0, 1, 2, 3, 6, 5, 7, 9, 11, 13, 19, 17], false⟩,
    ⟨(.some 57), (.some (49, true)), (.fa 0 (.t 56)), 57, [17, 19, 11, 9, 7, 5, 6, 3, 2, 1, 0, 8, 4, 10, 12, 16, 18, 13, 20], false⟩, ⟨(.some 58), (.some (49, true)),
    (.ld 1 false (.t 57)), 58, [20, 18, 16, 12, 10, 4, 8, 0, 1, 2, 3, 6, 5, 7, 9, 11, 19, 17, 13, 21], false⟩, ⟨(.some 59), (.some (49, true)), (.bin .leq (.t 51) (.t 58)), 59, [21,
    17, 19, 16, 18, 20, 14, 12, 10, 4, 8, 0, 1, 2, 3, 6, 5, 7, 9, 11, 13, 22, 15], false⟩, ⟨(.some 60), (.some (46, false)), (.pick (.t 49) (.t 59) (.c (.v (.bool false)))), 60, [15,
    22, 14, 20, 18, 16, 19, 17, 21, 12, 4, 8, 0, 1, 2, 3, 6, 5, 7, 9, 11, 10, 23, 13], false⟩, ⟨(.some 61), Option.none, (.pick (.t 46) (.c (.v (.bool true))) (.t 60)), 61, [13, 23,
    11, 12, 21, 17, 19, 16, 18, 20, 14, 22, 15, 9, 7, 5, 6, 3, 2, 1, 0, 8, 4, 24, 10], false⟩]) (.cond (.t 61) (.seq (.ops false [⟨(.some 2), Option.none,
    (.mv (.c (.v (.bool false)))), 2, [], false⟩]) .ret) .skip)))) c104_1)
def c104_3 : C := (.seq (.ops false [⟨(.some 32), Option.none, (.bin .lss (.t 31) (.t 30)), 32, [], false⟩]) (.seq (.cond (.t 32) .skip (.exit 0)) c104_2))
def c104_4 : C := (.seq (.ops true [⟨(.some 63), Option.none, (.fa 6 (.t 1)), 63, [], false⟩, ⟨(.some 64), Option.none, (.ld 1 false (.t 63)), 64, [0], false⟩, ⟨(.some 65), Option.none,
    (.iaS 3 (.t 64) (.c (.v (.int .i64 0)))), 65, [0, 1], false⟩, ⟨(.some 66), Option.none, (.fa 0 (.t 65)), 66, [1, 0, 2], false⟩, ⟨(.some 67), Option.none, (.ld 1 false (.t 66)), 67,
    [2, 0, 1, 3], false⟩, ⟨(.some 68), Option.none, (.bin .eql (.t 67) (.c (.v (.int .i64 0)))), 68, [3, 1, 0, 2, 4], false⟩, ⟨(.some 69), Option.none, (.mv (.t 68)), 69, [4, 2, 0, 1,
    3, 5], false⟩, ⟨(.some 70), (.some (69, true)), (.fa 6 (.t 1)), 70, [5, 3, 1, 0, 2, 4, 6], false⟩, ⟨(.some 71), (.some (69, true)), (.ld 1 false (.t 70)), 71, [4, 2, 0, 1, 3, 5, 6,
    7], false⟩, ⟨(.some 72), (.some (69, true)), (.fa 6 (.t 1)), 72, [5, 3, 1, 0, 2, 4, 6], false⟩, ⟨(.some 73), (.some (69, true)), (.ld 1 false (.t 72)), 73, [4, 2, 0, 1, 3, 5, 6,
    9], false⟩, ⟨(.some 74), (.some (69, true)), (.len (.t 73)), 74, [9, 5, 3, 1, 0, 2, 4, 6, 10], false⟩, ⟨(.some 75), (.some (69, true)), (.bin .sub (.t 74) (.c (.v (.int .i64 1)))),
    75, [10, 4, 2, 0, 1, 3, 5, 9, 6, 11], false⟩, ⟨(.some 76), (.some (69, true)), (.iaS 3 (.t 71) (.t 75)), 76, [11, 9, 10, 7, 5, 3, 1, 0, 2, 4, 6, 12, 8], false⟩, ⟨(.some 77),
    (.some (69, true)), (.fa 0 (.t 76)), 77, [8, 12, 4, 2, 0, 1, 3, 5, 7, 10, 9, 11, 6, 13], false⟩, ⟨(.some 78), (.some (69, true)), (.ld 1 false (.t 77)), 78, [13, 11, 9, 10, 7, 5,
    3, 1, 0, 2, 4, 12, 8, 6, 14], false⟩, ⟨(.some 79), (.some (69, true)), (.fa 3 (.t 1)), 79, [5, 3, 1, 0, 2, 4, 6], false⟩, ⟨(.some 80), (.some (69, true)), (.ld 1 false (.t 79)),
    80, [4, 2, 0, 1, 3, 5, 6, 16], false⟩, ⟨(.some 81), (.some (69, true)), (.bin .eql (.t 78) (.t 80)), 81, [16, 14, 8, 12, 4, 2, 0, 1, 3, 5, 7, 10, 9, 11, 13, 6, 17, 15], false⟩,
    ⟨(.some 82), Option.none, (.pick (.t 69) (.t 81) (.c (.v (.bool false)))), 82, [15, 17, 13, 11, 9, 10, 7, 12, 8, 14, 16, 5, 3, 1, 0, 2, 4, 18, 6], false⟩, ⟨(.some 2), Option.none,
    (.mv (.t 82)), 2, [18, 17, 16, 15, 14, 13, 12, 11, 10, 9, 8, 7, 5, 4, 3, 2, 1, 0, 6, 19], false⟩]) .ret)
def c104_5 : C := (.seq (.seq (.ops false [⟨(.some 28), Option.none, (.fa 6 (.t 1)), 28, [], false⟩, ⟨(.some 29), Option.none, (.ld 1 false (.t 28)), 29, [], false⟩, ⟨(.some 30), Option.none,
    (.len (.t 29)), 30, [], false⟩, ⟨(.some 31), Option.none, (.mv (.c (.v (.int .i64 0)))), 31, [], false⟩]) (.block 0 (.loop c104_3))) c104_4)
def c104 : C := (.seq (.ops false [⟨(.some 1), Option.none, (.box 7 (.t 0)), 1, [], false⟩, ⟨(.some 2), Option.none, (.mv (.c (.v (.bool false)))), 2, [], false⟩])
    (.seq (.seq (.ops false [⟨(.some 5), Option.none, (.fa 1 (.t 1)), 5, [], false⟩, ⟨(.some 6), Option.none, (.ld 1 false (.t 5)), 6, [], false⟩, ⟨(.some 7), Option.none,
    (.fa 2 (.t 1)), 7, [], false⟩, ⟨(.some 8), Option.none, (.ld 1 false (.t 7)), 8, [], false⟩, ⟨(.some 9), Option.none, (.bin .eql (.t 6) (.t 8)), 9, [], false⟩, ⟨(.some 10),
    Option.none, (.mv (.t 9)), 10, [], false⟩, ⟨(.some 11), (.some (10, false)), (.fa 3 (.t 1)), 11, [], false⟩, ⟨(.some 12), (.some (10, false)), (.ld 1 false (.t 11)), 12, [],
    false⟩, ⟨(.some 13), (.some (10, false)), (.call 107 [(.t 12), (.c (.v (.int .i64 1))), (.c (.v (.int .i64 1000000)))]), 13, [], true⟩, ⟨(.some 14), (.some (10, false)),
    (.not (.t 13)), 14, [], false⟩, ⟨(.some 15), Option.none, (.pick (.t 10) (.c (.v (.bool true))) (.t 14)), 15, [], false⟩, ⟨(.some 16), Option.none, (.mv (.t 15)), 16, [], false⟩,
    ⟨(.some 17), (.some (16, false)), (.fa 4 (.t 1)), 17, [], false⟩, ⟨(.some 18), (.some (16, false)), (.ld 1 false (.t 17)), 18, [], false⟩, ⟨(.some 19), (.some (16, false)),
    (.call 107 [(.t 18), (.c (.v (.int .i64 0))), (.c (.v (.int .i64 1000)))]), 19, [], true⟩, ⟨(.some 20), (.some (16, false)), (.not (.t 19)), 20, [], false⟩, ⟨(.some 21),
    Option.none, (.pick (.t 16) (.c (.v (.bool true))) (.t 20)), 21, [], false⟩, ⟨(.some 22), Option.none, (.mv (.t 21)), 22, [], false⟩, ⟨(.some 23), (.some (22, false)),
    (.fa 5 (.t 1)), 23, [], false⟩, ⟨(.some 24), (.some (22, false)), (.ld 1 false (.t 23)), 24, [], false⟩, ⟨(.some 25), (.some (22, false)), (.call 107 [(.t 24),
    (.c (.v (.int .i64 0))), (.c (.v (.int .i64 100000)))]), 25, [], true⟩, ⟨(.some 26), (.some (22, false)), (.not (.t 25)), 26, [], false⟩, ⟨(.some 27), Option.none, (.pick (.t 22)
    (.c (.v (.bool true))) (.t 26)), 27, [], false⟩]) (.cond (.t 27) (.seq (.ops false [⟨(.some 2), Option.none, (.mv (.c (.v (.bool false)))), 2, [], false⟩]) .ret) .skip)) c104_5))
def r104 : List RV := [(.tmp 2)]
theorem c104_ok : ∃ code, Try.f104.body = some code ∧ compC Try.prog Try.f104.ntmps code = some (C.strip c104) := ⟨_, rfl, by kernel_rfl⟩
theorem r104_ok : compRes Try.prog Try.f104.results.toList = some r104 := by kernel_rfl
theorem f104_ok : fnOk Try.prog 104 = true := by kernel_rfl
def c106 : C := (.seq (.ops false [⟨(.some 1), Option.none, (.box 3 (.t 0)), 1, [], false⟩, ⟨(.some 2), Option.none, (.mv (.c (.v (.bool false)))), 2, [], false⟩]) (.seq (.ops false [⟨(.some 3),
    Option.none, (.fa 2 (.t 1)), 3, [], false⟩, ⟨(.some 4), Option.none, (.ld 1 false (.t 3)), 4, [], false⟩, ⟨(.some 5), Option.none, (.call 107 [(.t 4), (.c (.v (.int .i64 0))),
    (.c (.v (.int .i64 100000000)))]), 5, [], true⟩, ⟨(.some 6), Option.none, (.not (.t 5)), 6, [], false⟩, ⟨(.some 2), Option.none, (.mv (.t 6)), 2, [], false⟩]) .ret))
def r106 : List RV := [(.tmp 2)]
theorem c106_ok : ∃ code, Try.f106.body = some code ∧ compC Try.prog Try.f106.ntmps code = some (C.strip c106) := ⟨_, rfl, by kernel_rfl⟩
theorem r106_ok : compRes Try.prog Try.f106.results.toList = some r106 := by kernel_rfl
theorem f106_ok : fnOk Try.prog 106 = true := by kernel_rfl
def c107 : C := (.seq (.ops false [⟨(.some 6), Option.none, (.mv (.c (.v (.bool false)))), 6, [], false⟩]) (.seq (.ops false [⟨(.some 7), Option.none, (.mv (.t 0)), 7, [], false⟩, ⟨(.some 8),
    Option.none, (.mv (.t 1)), 8, [], false⟩, ⟨(.some 9), Option.none, (.bin .geq (.t 7) (.t 8)), 9, [], false⟩, ⟨(.some 10), Option.none, (.mv (.t 9)), 10, [], false⟩, ⟨(.some 11),
    (.some (10, true)), (.mv (.t 0)), 11, [], false⟩, ⟨(.some 12), (.some (10, true)), (.mv (.t 2)), 12, [], false⟩, ⟨(.some 13), (.some (10, true)), (.bin .leq (.t 11) (.t 12)), 13,
    [], false⟩, ⟨(.some 14), Option.none, (.pick (.t 10) (.t 13) (.c (.v (.bool false)))), 14, [], false⟩, ⟨(.some 6), Option.none, (.mv (.t 14)), 6, [], false⟩]) .ret))
def r107 : List RV := [(.tmp 6)]
theorem c107_ok : ∃ code, Try.f107.body = some code ∧ compC Try.prog Try.f107.ntmps code = some (C.strip c107) := ⟨_, rfl, by kernel_rfl⟩
theorem r107_ok : compRes Try.prog Try.f107.results.toList = some r107 := by kernel_rfl
theorem f107_ok : fnOk Try.prog 107 = true := by kernel_rfl
def c109 : C := (.seq (.ops false [⟨(.some 1), Option.none, (.box 5 (.t 0)), 1, [], false⟩, ⟨(.some 2), Option.none, (.mv (.c (.v (.bool false)))), 2, [], false⟩]) (.seq (.ops false [⟨(.some 3),
    Option.none, (.fa 2 (.t 1)), 3, [], false⟩, ⟨(.some 4), Option.none, (.ld 1 false (.t 3)), 4, [], false⟩, ⟨(.some 5), Option.none, (.call 107 [(.t 4), (.c (.v (.int .i64 0))),
    (.c (.v (.int .i64 100000000)))]), 5, [], true⟩, ⟨(.some 6), Option.none, (.not (.t 5)), 6, [], false⟩, ⟨(.some 7), Option.none, (.mv (.t 6)), 7, [], false⟩, ⟨(.some 8), (.some (7,
    false)), (.fa 3 (.t 1)), 8, [], false⟩, ⟨(.some 9), (.some (7, false)), (.ld 1 false (.t 8)), 9, [], false⟩, ⟨(.some 10), (.some (7, false)), (.call 107 [(.t 9),
    (.c (.v (.int .i64 0))), (.c (.v (.int .i64 100000)))]), 10, [], true⟩, ⟨(.some 11), (.some (7, false)), (.not (.t 10)), 11, [], false⟩, ⟨(.some 12), Option.none, (.pick (.t 7)
    (.c (.v (.bool true))) (.t 11)), 12, [], false⟩, ⟨(.some 13), Option.none, (.mv (.t 12)), 13, [], false⟩, ⟨(.some 14), (.some (13, false)), (.fa 4 (.t 1)), 14, [], false⟩,
    ⟨(.some 15), (.some (13, false)), (.ld 1 false (.t 14)), 15, [], false⟩, ⟨(.some 16), (.some (13, false)), (.call 107 [(.t 15), (.c (.v (.int .i64 0))),
    (.c (.v (.int .i64 100000000)))]), 16, [], true⟩, ⟨(.some 17), (.some (13, false)), (.not (.t 16)), 17, [], false⟩, ⟨(.some 18), Option.none, (.pick (.t 13) (.c (.v (.bool true)))
    (.t 17)), 18, [], false⟩, ⟨(.some 2), Option.none, (.mv (.t 18)), 2, [], false⟩]) .ret))
def r109 : List RV := [(.tmp 2)]
theorem c109_ok : ∃ code, Try.f109.body = some code ∧ compC Try.prog Try.f109.ntmps code = some (C.strip c109) := ⟨_, rfl, by kernel_rfl⟩
theorem r109_ok : compRes Try.prog Try.f109.results.toList = some r109 := by kernel_rfl
theorem f109_ok : fnOk Try.prog 109 = true := by kernel_rfl
end Go.Proofs.Ytiaenojpbiahgaa
