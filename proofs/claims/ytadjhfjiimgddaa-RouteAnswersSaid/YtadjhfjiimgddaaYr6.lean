/- RouteAnswers: CodeN Nm. -/
import Derived.Test.YtadjhfjiimgddaaYr3
import Derived.Test.YtadjhfjiimgddaaProg
import Derived.Test.YtadjhfjiimgddaaYr5
set_option linter.unusedSimpArgs false
set_option linter.unusedVariables false
set_option maxRecDepth 100000
/- Compiled code of some functions (printed by a program), each checked by the kernel. -/
namespace Go.Proofs.Ytadjhfjiimgddaa
open Go
def c67_1 : C := (.ops false [oP 28 (.bin .add (.t 20) (cI 1)), oM 20 28])
def c67_2 : C := (.seq (.block 1 (.seq (.ops false [oM 22 20, oM 3 22]) (.seq (.ops false [oM 23 0, oM 24 3, oP 25 (.ixS (.t 23) (.t 24)), oB 26 (.call 120 [(.t 25)]), oP 27 (.bin .eql (.t 26) (cI 0))]) (.cond (.t 27) (.seq (.ops false [oP 2 (.mv (cB false))]) .ret) .skip)))) c67_1)
def c67_3 : C := (.seq (.ops false [oP 21 (.bin .lss (.t 20) (.t 19))]) (.seq (.cond (.t 21) .skip (.exit 0)) c67_2))
def c67_4 : C := (.seq (.ops false [oP 2 (.mv (cB true))]) .ret)
def c67_5 : C := (.seq (.seq (.ops false [oM 18 0, oP 19 (.lenS (.t 18)), oP 20 (.mv (cI 0))]) (.block 0 (.loop c67_3))) c67_4)
def c67 : C := (.seq (.ops false [oP 2 (.mv (cB false))]) (.seq (.seq (.ops false [oM 4 0, oP 5 (.lenS (.t 4)), oP 6 (.bin .lss (.t 5) (cI 1)), oM 7 6, oG 8 7 false (.mv (.t 0)), oG 9 7 false (.lenS (.t 8)), oG 10 7 false (.bin .gtr (.t 9) (cI 12)), oP 11 (.pick (.t 7) (cB true) (.t 10)), oM 12 11, oG 13 12 false (.mv (.t 0)), oG 14 12 false (.ixS (.t 13) (cI 0)),
 oD 15 12 false (.call 120 [(.t 14)]) [], oG 16 12 false (.bin .neq (.t 15) (cI 1)), oP 17 (.pick (.t 12) (cB true) (.t 16))]) (.cond (.t 17) (.seq (.ops false [oP 2 (.mv (cB false))]) .ret) .skip)) c67_5))
def r67 : List RV := [(.tmp 2)]
theorem c67_ok : ∃ code, Try.f67.body = some code ∧ compC Try.prog Try.f67.ntmps code = some (C.strip c67) := ⟨_, rfl, by kernel_rfl⟩
theorem r67_ok : compRes Try.prog Try.f67.results.toList = some r67 := by kernel_rfl
theorem f67_ok : fnOk Try.prog 67 = true := by kernel_rfl
def c68_1 : C := (.ops false [oM 26 3, oP 27 (.bin .add (.t 26) (cI 1)), oM 3 27])
def c68_2 : C := (.seq (.block 1 (.seq (.ops false [oM 28 0, oM 29 3, oP 30 (.ixS (.t 28) (.t 29)), oP 31 (.bin .lss (.t 30) (.c (.v (.int .u8 97)))), oM 32 31, oG 33 32 false (.mv (.t 0)), oG 34 32 false (.mv (.t 3)), oG 35 32 false (.ixS (.t 33) (.t 34)), oG 36 32 false (.bin .gtr (.t 35) (.c (.v (.int .u8 122)))), oP 37 (.pick (.t 32) (cB true) (.t 36)), oM 38 37,
 oG 39 38 true (.mv (.t 0)), oG 40 38 true (.mv (.t 3)), oG 41 38 true (.ixS (.t 39) (.t 40)), oG 42 38 true (.bin .lss (.t 41) (.c (.v (.int .u8 48)))), oG 43 38 true (.mv (.t 42)), oG 44 43 false (.mv (.t 0)), oG 45 43 false (.mv (.t 3)), oG 46 43 false (.ixS (.t 44) (.t 45)), oG 47 43 false (.bin .gtr (.t 46) (.c (.v (.int .u8 57)))), oG 48 38 true (.pick (.t 43) (cB true) (.t 47)),
 oP 49 (.pick (.t 38) (.t 48) (cB false)), oM 50 49, oG 51 50 true (.mv (.t 0)), oG 52 50 true (.mv (.t 3)), oG 53 50 true (.ixS (.t 51) (.t 52)), oG 54 50 true (.bin .neq (.t 53) (.c (.v (.int .u8 45)))), oP 55 (.pick (.t 50) (.t 54) (cB false))]) (.cond (.t 55) (.seq (.ops false [oP 2 (.mv (cB false))]) .ret) .skip))) c68_1)
def c68_3 : C := (.seq (.seq (.ops false [oM 22 3, oM 23 0, oP 24 (.lenS (.t 23)), oP 25 (.bin .lss (.t 22) (.t 24))]) (.cond (.t 25) .skip (.exit 0))) c68_2)
def c68_4 : C := (.seq (.ops false [oP 2 (.mv (cB true))]) .ret)
def c68_5 : C := (.seq (.seq (.ops false [oP 3 (.mv (cI 0))]) (.block 0 (.loop c68_3))) c68_4)
def c68 : C := (.seq (.ops false [oP 2 (.mv (cB false))]) (.seq (.seq (.ops false [oM 4 0, oP 5 (.lenS (.t 4)), oP 6 (.bin .lss (.t 5) (cI 1)), oM 7 6, oG 8 7 false (.mv (.t 0)), oG 9 7 false (.lenS (.t 8)), oG 10 7 false (.bin .gtr (.t 9) (cI 12)), oP 11 (.pick (.t 7) (cB true) (.t 10)), oM 12 11, oG 13 12 false (.mv (.t 0)), oG 14 12 false (.ixS (.t 13) (cI 0)),
 oG 15 12 false (.bin .lss (.t 14) (.c (.v (.int .u8 97)))), oP 16 (.pick (.t 12) (cB true) (.t 15)), oM 17 16, oG 18 17 false (.mv (.t 0)), oG 19 17 false (.ixS (.t 18) (cI 0)), oG 20 17 false (.bin .gtr (.t 19) (.c (.v (.int .u8 122)))), oP 21 (.pick (.t 17) (cB true) (.t 20))]) (.cond (.t 21) (.seq (.ops false [oP 2 (.mv (cB false))]) .ret) .skip)) c68_5))
def r68 : List RV := [(.tmp 2)]
theorem c68_ok : ∃ code, Try.f68.body = some code ∧ compC Try.prog Try.f68.ntmps code = some (C.strip c68) := ⟨_, rfl, by kernel_rfl⟩
theorem r68_ok : compRes Try.prog Try.f68.results.toList = some r68 := by kernel_rfl
theorem f68_ok : fnOk Try.prog 68 = true := by kernel_rfl
def c95_1 : C := (.ops false [oP 15 (.bin .add (.t 10) (cI 1)), oM 10 15])
def c95_2 : C := (.seq (.block 1 (.seq (.ops false [oP 12 (.ixA 4 1 false (.t 9) (.t 10)), oM 4 12]) (.seq (.ops false [oM 13 4, oB 14 (.call 134 [(.t 13), (.c (.clo 135 [] []))])]) (.cond (.t 14) (.seq (.ops false [oP 2 (.mv (cI 3))]) .ret) .skip)))) c95_1)
def c95_3 : C := (.seq (.ops false [oP 11 (.bin .lss (.t 10) (cI 4))]) (.seq (.cond (.t 11) .skip (.exit 0)) c95_2))
def c95_4 : C := (.seq (.ops false [oP 2 (.mv (cI 0))]) .ret)
def c95_5 : C := (.seq (.block 2 (.seq (.ops false [oP 17 (.ld 6 true (.t 1)), oB 18 (.call 136 [(.t 17)]), oM 16 18]) (.cond (.t 16) (.seq (.ops false [oP 2 (.mv (cI 7))]) .ret) (.seq (.ops false [oP 20 (.ld 6 true (.t 1)), oB 21 (.call 137 [(.t 20)]), oP 22 (.not (.t 21)), oM 19 22]) (.cond (.t 19) (.seq (.ops false [oP 2 (.mv (cI 8))]) .ret) (.seq (.ops false [oP 24 (.ld 6 true (.t 1)),
 oB 25 (.call 138 [(.t 24)]), oP 26 (.not (.t 25)), oM 23 26]) (.cond (.t 23) (.seq (.ops false [oP 2 (.mv (cI 9))]) .ret) .skip))))))) c95_4)
def c95_6 : C := (.seq (.seq (.ops false [oP 8 (.ld 6 true (.t 1)), oP 9 (.call 133 [(.t 8)]), oP 10 (.mv (cI 0))]) (.block 0 (.loop c95_3))) c95_5)
def c95 : C := (.seq (.ops false [oP 1 (.box 6 (.t 0)), oP 2 (.mv (cI 0))]) (.seq (.seq (.ops false [oP 5 (.ld 6 true (.t 1)), oB 6 (.call 132 [(.t 5)]), oP 7 (.not (.t 6))]) (.cond (.t 7) (.seq (.ops false [oP 2 (.mv (cI 4))]) .ret) .skip)) c95_6))
def r95 : List RV := [(.tmp 2)]
theorem c95_ok : ∃ code, Try.f95.body = some code ∧ compC Try.prog Try.f95.ntmps code = some (C.strip c95) := ⟨_, rfl, by kernel_rfl⟩
theorem r95_ok : compRes Try.prog Try.f95.results.toList = some r95 := by kernel_rfl
theorem f95_ok : fnOk Try.prog 95 = true := by kernel_rfl
def c97_1 : C := (.ops false [oP 62 (.bin .add (.t 53) (cI 1)), oM 53 62])
def c97_2 : C := (.seq (.block 1 (.seq (.ops false [oP 55 (.iaS 7 (.t 51) (.t 53)), oP 56 (.ld 7 true (.t 55)), oP 4 (.new [(.v (.string ({ data := #[] }))), (.v (.int .i64 0)), (.v (.int .i64 0)), (.v (.int .i64 0)), (.v (.int .i64 0)), (.v (.int .i64 0)), .mt]), oS (.st 7 (.t 4) (.t 56))]) (.seq (.ops false [oP 57 (.fa 6 (.t 4)), oP 58 (.ld 1 false (.t 57)), oP 59 (.len (.t 58)), oB 60 (.call 139 [(.t 59),
 (cI 2), (cI 8)]), oP 61 (.not (.t 60))]) (.cond (.t 61) (.seq (.ops false [oP 2 (.mv (cI 4))]) .ret) .skip)))) c97_1)
def c97_3 : C := (.seq (.ops false [oP 54 (.bin .lss (.t 53) (.t 52))]) (.seq (.cond (.t 54) .skip (.exit 0)) c97_2))
def c97_4 : C := (.ops false [oP 78 (.bin .add (.t 71) (cI 1)), oM 71 78])
def c97_5 : C := (.seq (.block 5 (.seq (.ops false [oP 73 (.iaS 1 (.t 69) (.t 71)), oP 74 (.ld 1 false (.t 73)), oM 9 74]) (.seq (.ops false [oM 75 9, oB 76 (.call 68 [(.t 75)]), oP 77 (.not (.t 76))]) (.cond (.t 77) (.seq (.ops false [oP 2 (.mv (cI 3))]) .ret) .skip)))) c97_4)
def c97_6 : C := (.seq (.ops false [oP 72 (.bin .lss (.t 71) (.t 70))]) (.seq (.cond (.t 72) .skip (.exit 4)) c97_5))
def c97_7 : C := (.ops false [oP 79 (.bin .add (.t 66) (cI 1)), oM 66 79])
def c97_8 : C := (.seq (.block 3 (.seq (.ops false [oP 68 (.ixA 4 1 false (.t 65) (.t 66)), oM 7 68]) (.seq (.ops false [oM 69 7, oP 70 (.len (.t 69)), oP 71 (.mv (cI 0))]) (.block 4 (.loop c97_6))))) c97_7)
def c97_9 : C := (.seq (.ops false [oP 67 (.bin .lss (.t 66) (cI 4))]) (.seq (.cond (.t 67) .skip (.exit 2)) c97_8))
def c97_10 : C := (.ops false [oP 86 (.bin .add (.t 81) (cI 1)), oM 81 86])
def c97_11 : C := (.seq (.block 7 (.seq (.ops false [oP 83 (.ixA 4 1 false (.t 80) (.t 81)), oM 11 83]) (.seq (.ops false [oM 84 11, oB 85 (.call 141 [(.t 84)])]) (.cond (.t 85) (.seq (.ops false [oP 2 (.mv (cI 7))]) .ret) .skip)))) c97_10)
def c97_12 : C := (.seq (.ops false [oP 82 (.bin .lss (.t 81) (cI 4))]) (.seq (.cond (.t 82) .skip (.exit 6)) c97_11))
def c97_13 : C := (.ops false [oM 96 13, oP 97 (.bin .add (.t 96) (cI 1)), oM 13 97])
def c97_14 : C := (.seq (.block 11 (.seq (.ops true [oP 98 (.fa 3 (.t 1)), oA 99 (.ld 1 false (.t 98)) [0], oM 100 12, oA 101 (.iaS 5 (.t 99) (.t 100)) [0, 2, 1], oA 102 (.fa 1 (.t 101)) [1, 2, 0, 3], oA 103 (.ld 1 false (.t 102)) [3, 0, 2, 1, 4], oP 104 (.fa 3 (.t 1)), oA 105 (.ld 1 false (.t 104)) [6], oM 106 13, oA 107 (.iaS 5 (.t 105) (.t 106)) [6, 8, 7], oA 108 (.fa 1 (.t 107)) [7, 8, 6,
 9], oA 109 (.ld 1 false (.t 108)) [9, 6, 8, 7, 10], oA 110 (.bin .eql (.t 103) (.t 109)) [10, 7, 8, 6, 9, 4, 1, 2, 0, 3, 11, 5]]) (.cond (.t 110) (.seq (.ops false [oP 2 (.mv (cI 7))]) .ret) .skip))) c97_13)
def c97_15 : C := (.seq (.seq (.ops false [oM 93 13, oM 94 12, oP 95 (.bin .lss (.t 93) (.t 94))]) (.cond (.t 95) .skip (.exit 10))) c97_14)
def c97_16 : C := (.ops false [oP 111 (.bin .add (.t 90) (cI 1)), oM 90 111])
def c97_17 : C := (.seq (.block 9 (.seq (.ops false [oM 92 90, oM 12 92]) (.seq (.ops false [oP 13 (.mv (cI 0))]) (.block 10 (.loop c97_15))))) c97_16)
def c97_18 : C := (.seq (.ops false [oP 91 (.bin .lss (.t 90) (.t 89))]) (.seq (.cond (.t 91) .skip (.exit 8)) c97_17))
def c97_19 : C := (.ops false [oP 135 (.bin .add (.t 119) (cI 1)), oM 119 135])
def c97_20 : C := (.seq (.block 13 (.seq (.ops false [oP 121 (.iaS 7 (.t 117) (.t 119)), oP 122 (.ld 7 true (.t 121)), oP 16 (.new [(.v (.string ({ data := #[] }))), (.v (.int .i64 0)), (.v (.int .i64 0)), (.v (.int .i64 0)), (.v (.int .i64 0)), (.v (.int .i64 0)), .mt]), oS (.st 7 (.t 16) (.t 122))]) (.seq (.ops false [oP 123 (.fa 1 (.t 16)), oP 124 (.ld 1 false (.t 123)), oM 125 14,
 oB 126 (.call 139 [(.t 124), (cI 0), (.t 125)]), oP 127 (.not (.t 126)), oM 128 127, oG 129 128 false (.fa 2 (.t 16)), oG 130 128 false (.ld 1 false (.t 129)), oG 131 128 false (.mv (.t 14)), oD 132 128 false (.call 139 [(.t 130), (cI 0), (.t 131)]) [], oG 133 128 false (.not (.t 132)), oP 134 (.pick (.t 128) (cB true) (.t 133))]) (.cond (.t 134) (.seq (.ops false [oP 2 (.mv (cI 8))])
 .ret) .skip)))) c97_19)
def c97_21 : C := (.seq (.ops false [oP 120 (.bin .lss (.t 119) (.t 118))]) (.seq (.cond (.t 120) .skip (.exit 12)) c97_20))
def c97_22 : C := (.ops false [oP 148 (.bin .add (.t 139) (cI 1)), oM 139 148])
def c97_23 : C := (.seq (.block 15 (.seq (.ops false [oP 141 (.iaS 3 (.t 137) (.t 139)), oP 142 (.ld 3 true (.t 141)), oP 18 (.new [(.v (.string ({ data := #[] }))), (.v (.int .i64 0)), (.v (.int .i64 0))]), oS (.st 3 (.t 18) (.t 142))]) (.seq (.ops false [oP 143 (.fa 1 (.t 18)), oP 144 (.ld 1 false (.t 143)), oM 145 14, oB 146 (.call 139 [(.t 144), (cI 0), (.t 145)]), oP 147 (.not (.t 146))])
 (.cond (.t 147) (.seq (.ops false [oP 2 (.mv (cI 8))]) .ret) .skip)))) c97_22)
def c97_24 : C := (.seq (.ops false [oP 140 (.bin .lss (.t 139) (.t 138))]) (.seq (.cond (.t 140) .skip (.exit 14)) c97_23))
def c97_25 : C := (.ops false [oP 161 (.bin .add (.t 152) (cI 1)), oM 152 161])
def c97_26 : C := (.seq (.block 17 (.seq (.ops false [oP 154 (.iaS 5 (.t 150) (.t 152)), oP 155 (.ld 5 true (.t 154)), oP 20 (.new [(.v (.string ({ data := #[] }))), (.v (.int .i64 0)), (.v (.int .i64 0)), (.v (.int .i64 0)), (.v (.int .i64 0))]), oS (.st 5 (.t 20) (.t 155))]) (.seq (.ops false [oP 156 (.fa 1 (.t 20)), oP 157 (.ld 1 false (.t 156)), oM 158 14, oB 159 (.call 139 [(.t 157), (cI 0),
 (.t 158)]), oP 160 (.not (.t 159))]) (.cond (.t 160) (.seq (.ops false [oP 2 (.mv (cI 8))]) .ret) .skip)))) c97_25)
def c97_27 : C := (.seq (.ops false [oP 153 (.bin .lss (.t 152) (.t 151))]) (.seq (.cond (.t 153) .skip (.exit 16)) c97_26))
def c97_28 : C := (.ops false [oP 172 (.bin .add (.t 165) (cI 1)), oM 165 172])
def c97_29 : C := (.seq (.block 19 (.seq (.ops false [oP 167 (.iaS 7 (.t 163) (.t 165)), oP 168 (.ld 7 true (.t 167)), oP 22 (.new [(.v (.string ({ data := #[] }))), (.v (.int .i64 0)), (.v (.int .i64 0)), (.v (.int .i64 0)), (.v (.int .i64 0)), (.v (.int .i64 0)), .mt]), oS (.st 7 (.t 22) (.t 168))]) (.seq (.ops false [oP 169 (.ld 7 true (.t 22)), oB 170 (.call 142 [(.t 169)]), oP 171 (.not (.t 170))])
 (.cond (.t 171) (.seq (.ops false [oP 2 (.mv (cI 9))]) .ret) .skip)))) c97_28)
def c97_30 : C := (.seq (.ops false [oP 166 (.bin .lss (.t 165) (.t 164))]) (.seq (.cond (.t 166) .skip (.exit 18)) c97_29))
def c97_31 : C := (.ops false [oP 184 (.bin .add (.t 176) (cI 1)), oM 176 184])
def c97_32 : C := (.seq (.block 21 (.seq (.ops false [oP 178 (.iaS 3 (.t 174) (.t 176)), oP 179 (.ld 3 true (.t 178)), oP 24 (.new [(.v (.string ({ data := #[] }))), (.v (.int .i64 0)), (.v (.int .i64 0))]), oS (.st 3 (.t 24) (.t 179))]) (.seq (.ops false [oP 180 (.fa 2 (.t 24)), oP 181 (.ld 1 false (.t 180)), oB 182 (.call 139 [(.t 181), (cI 0), (cI 100000000)]), oP 183 (.not (.t 182))]) (.cond (.t 183)
 (.seq (.ops false [oP 2 (.mv (cI 9))]) .ret) .skip)))) c97_31)
def c97_33 : C := (.seq (.ops false [oP 177 (.bin .lss (.t 176) (.t 175))]) (.seq (.cond (.t 177) .skip (.exit 20)) c97_32))
def c97_34 : C := (.ops false [oP 208 (.bin .add (.t 188) (cI 1)), oM 188 208])
def c97_35 : C := (.seq (.block 23 (.seq (.ops false [oP 190 (.iaS 5 (.t 186) (.t 188)), oP 191 (.ld 5 true (.t 190)), oP 26 (.new [(.v (.string ({ data := #[] }))), (.v (.int .i64 0)), (.v (.int .i64 0)), (.v (.int .i64 0)), (.v (.int .i64 0))]), oS (.st 5 (.t 26) (.t 191))]) (.seq (.ops false [oP 192 (.fa 2 (.t 26)), oP 193 (.ld 1 false (.t 192)), oB 194 (.call 139 [(.t 193), (cI 0), (cI 100000000)]),
 oP 195 (.not (.t 194)), oM 196 195, oG 197 196 false (.fa 3 (.t 26)), oG 198 196 false (.ld 1 false (.t 197)), oD 199 196 false (.call 139 [(.t 198), (cI 0), (cI 100000)]) [], oG 200 196 false (.not (.t 199)), oP 201 (.pick (.t 196) (cB true) (.t 200)), oM 202 201, oG 203 202 false (.fa 4 (.t 26)), oG 204 202 false (.ld 1 false (.t 203)),
 oD 205 202 false (.call 139 [(.t 204), (cI 0), (cI 100000000)]) [], oG 206 202 false (.not (.t 205)), oP 207 (.pick (.t 202) (cB true) (.t 206))]) (.cond (.t 207) (.seq (.ops false [oP 2 (.mv (cI 9))]) .ret) .skip)))) c97_34)
def c97_36 : C := (.seq (.ops false [oP 189 (.bin .lss (.t 188) (.t 187))]) (.seq (.cond (.t 189) .skip (.exit 22)) c97_35))
def c97_37 : C := (.seq (.ops false [oP 2 (.mv (cI 0))]) .ret)
def c97_38 : C := (.seq (.seq (.ops false [oP 209 (.fa 4 (.t 1)), oP 210 (.ld 1 false (.t 209)), oB 211 (.call 139 [(.t 210), (cI (-100000)), (cI 100000000)]), oP 212 (.not (.t 211)), oM 213 212, oG 214 213 false (.fa 5 (.t 1)), oG 215 213 false (.ld 1 false (.t 214)), oD 216 213 false (.call 139 [(.t 215), (cI 0), (cI 100)]) [], oG 217 213 false (.not (.t 216)), oP 218 (.pick (.t 213) (cB true)
 (.t 217))]) (.cond (.t 218) (.seq (.ops false [oP 2 (.mv (cI 9))]) .ret) .skip)) c97_37)
def c97_39 : C := (.seq (.seq (.ops false [oP 185 (.fa 3 (.t 1)), oP 186 (.ld 1 false (.t 185)), oP 187 (.len (.t 186)), oP 188 (.mv (cI 0))]) (.block 22 (.loop c97_36))) c97_38)
def c97_40 : C := (.seq (.seq (.ops false [oP 173 (.fa 2 (.t 1)), oP 174 (.ld 1 false (.t 173)), oP 175 (.len (.t 174)), oP 176 (.mv (cI 0))]) (.block 20 (.loop c97_33))) c97_39)
def c97_41 : C := (.seq (.seq (.ops false [oP 162 (.fa 1 (.t 1)), oP 163 (.ld 1 false (.t 162)), oP 164 (.len (.t 163)), oP 165 (.mv (cI 0))]) (.block 18 (.loop c97_30))) c97_40)
def c97_42 : C := (.seq (.seq (.ops false [oP 149 (.fa 3 (.t 1)), oP 150 (.ld 1 false (.t 149)), oP 151 (.len (.t 150)), oP 152 (.mv (cI 0))]) (.block 16 (.loop c97_27))) c97_41)
def c97_43 : C := (.seq (.seq (.ops false [oP 136 (.fa 2 (.t 1)), oP 137 (.ld 1 false (.t 136)), oP 138 (.len (.t 137)), oP 139 (.mv (cI 0))]) (.block 14 (.loop c97_24))) c97_42)
def c97_44 : C := (.seq (.ops false [oP 112 (.fa 0 (.t 1)), oP 113 (.ld 1 false (.t 112)), oP 114 (.len (.t 113)), oP 115 (.bin .sub (.t 114) (cI 1)), oM 14 115]) (.seq (.seq (.ops false [oP 116 (.fa 1 (.t 1)), oP 117 (.ld 1 false (.t 116)), oP 118 (.len (.t 117)), oP 119 (.mv (cI 0))]) (.block 12 (.loop c97_21))) c97_43))
def c97_45 : C := (.seq (.seq (.ops false [oP 87 (.fa 3 (.t 1)), oP 88 (.ld 1 false (.t 87)), oP 89 (.len (.t 88)), oP 90 (.mv (cI 0))]) (.block 8 (.loop c97_18))) c97_44)
def c97_46 : C := (.seq (.seq (.ops false [oP 80 (.ld 4 true (.t 5)), oP 81 (.mv (cI 0))]) (.block 6 (.loop c97_12))) c97_45)
def c97_47 : C := (.seq (.ops false [oP 63 (.ld 6 true (.t 1)), oP 64 (.call 140 [(.t 63)]), oP 5 (.new [.mt, .mt, .mt, .mt]), oS (.st 4 (.t 5) (.t 64))]) (.seq (.seq (.ops false [oP 65 (.ld 4 true (.t 5)), oP 66 (.mv (cI 0))]) (.block 2 (.loop c97_9))) c97_46))
def c97_48 : C := (.seq (.seq (.ops false [oP 50 (.fa 1 (.t 1)), oP 51 (.ld 1 false (.t 50)), oP 52 (.len (.t 51)), oP 53 (.mv (cI 0))]) (.block 0 (.loop c97_3))) c97_47)
def c97 : C := (.seq (.ops false [oP 1 (.box 6 (.t 0)), oP 2 (.mv (cI 0))]) (.seq (.seq (.ops false [oP 27 (.fa 0 (.t 1)), oP 28 (.ld 1 false (.t 27)), oP 29 (.len (.t 28)), oB 30 (.call 139 [(.t 29), (cI 1), (cI 24)]), oP 31 (.not (.t 30)), oM 32 31, oG 33 32 false (.fa 1 (.t 1)), oG 34 32 false (.ld 1 false (.t 33)), oG 35 32 false (.len (.t 34)), oG 36 32 false (.bin .gtr (.t 35) (cI 32)),
 oP 37 (.pick (.t 32) (cB true) (.t 36)), oM 38 37, oG 39 38 false (.fa 2 (.t 1)), oG 40 38 false (.ld 1 false (.t 39)), oG 41 38 false (.len (.t 40)), oG 42 38 false (.bin .gtr (.t 41) (cI 24)), oP 43 (.pick (.t 38) (cB true) (.t 42)), oM 44 43, oG 45 44 false (.fa 3 (.t 1)), oG 46 44 false (.ld 1 false (.t 45)), oG 47 44 false (.len (.t 46)),
 oG 48 44 false (.bin .gtr (.t 47) (cI 12)), oP 49 (.pick (.t 44) (cB true) (.t 48))]) (.cond (.t 49) (.seq (.ops false [oP 2 (.mv (cI 4))]) .ret) .skip)) c97_48))
def r97 : List RV := [(.tmp 2)]
theorem c97_ok : ∃ code, Try.f97.body = some code ∧ compC Try.prog Try.f97.ntmps code = some (C.strip c97) := ⟨_, rfl, by kernel_rfl⟩
theorem r97_ok : compRes Try.prog Try.f97.results.toList = some r97 := by kernel_rfl
theorem f97_ok : fnOk Try.prog 97 = true := by kernel_rfl
def c120_1 : C := (.seq (.ops false [oM 18 0, oP 19 (.bin .eql (.t 18) (.c (.v (.int .u8 45)))), oM 17 19]) (.cond (.t 17) (.exit 3) .skip))
def c120_2 : C := (.seq (.seq (.ops false [oM 11 0, oP 12 (.bin .geq (.t 11) (.c (.v (.int .u8 48)))), oM 13 12, oG 14 13 true (.mv (.t 0)), oG 15 13 true (.bin .leq (.t 14) (.c (.v (.int .u8 57)))), oP 16 (.pick (.t 13) (.t 15) (cB false)), oM 10 16]) (.cond (.t 10) (.exit 2) .skip)) c120_1)
def c120_3 : C := (.exit 0)
def c120_4 : C := (.seq (.seq (.ops false [oP 2 (.mv (cI 1))]) .ret) (.exit 0))
def c120_5 : C := (.seq (.seq (.ops false [oP 2 (.mv (cI 2))]) .ret) (.exit 0))
def c120_6 : C := (.seq (.ops false [oP 2 (.mv (cI 0))]) .ret)
def c120 : C := (.seq (.ops false [oP 2 (.mv (cI 0))]) (.seq (.block 0 (.seq (.block 3 (.block 2 (.seq (.block 1 (.seq (.seq (.seq (.ops false [oM 4 0, oP 5 (.bin .geq (.t 4) (.c (.v (.int .u8 97)))), oM 6 5, oG 7 6 true (.mv (.t 0)), oG 8 6 true (.bin .leq (.t 7) (.c (.v (.int .u8 122)))), oP 9 (.pick (.t 6) (.t 8) (cB false)), oM 3 9]) (.cond (.t 3) (.exit 1) .skip)) c120_2)
 c120_3)) c120_4))) c120_5)) c120_6))
def r120 : List RV := [(.tmp 2)]
theorem c120_ok : ∃ code, Try.f120.body = some code ∧ compC Try.prog Try.f120.ntmps code = some (C.strip c120) := ⟨_, rfl, by kernel_rfl⟩
theorem r120_ok : compRes Try.prog Try.f120.results.toList = some r120 := by kernel_rfl
theorem f120_ok : fnOk Try.prog 120 = true := by kernel_rfl
def c132_1 : C := (.seq (.ops false [oP 31 (.fa 1 (.t 1)), oP 32 (.ld 1 false (.t 31)), oB 33 (.call 159 [(.t 32), (.c (.clo 160 [] []))]), oP 34 (.not (.t 33)), oM 2 34]) .ret)
def c132 : C := (.seq (.ops false [oP 1 (.box 6 (.t 0)), oP 2 (.mv (cB false))]) (.seq (.seq (.ops false [oP 3 (.fa 0 (.t 1)), oP 4 (.ld 1 false (.t 3)), oP 5 (.len (.t 4)), oP 6 (.bin .lss (.t 5) (cI 1)), oM 7 6, oG 8 7 false (.fa 0 (.t 1)), oG 9 7 false (.ld 1 false (.t 8)), oG 10 7 false (.len (.t 9)), oG 11 7 false (.bin .gtr (.t 10) (cI 24)), oP 12 (.pick (.t 7) (cB true) (.t 11)),
 oM 13 12, oG 14 13 false (.fa 1 (.t 1)), oG 15 13 false (.ld 1 false (.t 14)), oG 16 13 false (.len (.t 15)), oG 17 13 false (.bin .gtr (.t 16) (cI 32)), oP 18 (.pick (.t 13) (cB true) (.t 17)), oM 19 18, oG 20 19 false (.fa 2 (.t 1)), oG 21 19 false (.ld 1 false (.t 20)), oG 22 19 false (.len (.t 21)), oG 23 19 false (.bin .gtr (.t 22) (cI 24)), oP 24 (.pick (.t 19)
 (cB true) (.t 23)), oM 25 24, oG 26 25 false (.fa 3 (.t 1)), oG 27 25 false (.ld 1 false (.t 26)), oG 28 25 false (.len (.t 27)), oG 29 25 false (.bin .gtr (.t 28) (cI 12)), oP 30 (.pick (.t 25) (cB true) (.t 29))]) (.cond (.t 30) (.seq (.ops false [oP 2 (.mv (cB false))]) .ret) .skip)) c132_1))
def r132 : List RV := [(.tmp 2)]
theorem c132_ok : ∃ code, Try.f132.body = some code ∧ compC Try.prog Try.f132.ntmps code = some (C.strip c132) := ⟨_, rfl, by kernel_rfl⟩
theorem r132_ok : compRes Try.prog Try.f132.results.toList = some r132 := by kernel_rfl
theorem f132_ok : fnOk Try.prog 132 = true := by kernel_rfl
def c133_1 : C := (.seq (.block 1 (.seq (.ops false [oP 18 (.iaS 7 (.t 14) (.t 16)), oP 19 (.ld 7 true (.t 18)), oP 5 (.new [(.v (.string ({ data := #[] }))), (.v (.int .i64 0)), (.v (.int .i64 0)), (.v (.int .i64 0)), (.v (.int .i64 0)), (.v (.int .i64 0)), .mt]), oS (.st 7 (.t 5) (.t 19))]) (.ops false [oP 20 (.iaA 4 1 (.t 3) (cI 1)), oP 21 (.ld 1 false (.t 20)), oP 22 (.fa 0 (.t 5)), oP 23 (.ld 1 false (.t 22)),
 oP 24 (.bsl 1 1 [(.v (.string ({ data := #[] })))] [(0, (.t 23))]), oP 25 (.app 1 16 (.t 21) (.t 24)), oP 26 (.iaA 4 1 (.t 3) (cI 1)), oS (.st 1 (.t 26) (.t 25))]))) (.ops false [oP 27 (.bin .add (.t 16) (cI 1)), oM 16 27]))
def c133_2 : C := (.seq (.ops false [oP 17 (.bin .lss (.t 16) (.t 15))]) (.seq (.cond (.t 17) .skip (.exit 0)) c133_1))
def c133_3 : C := (.seq (.block 3 (.seq (.ops false [oP 33 (.iaS 3 (.t 29) (.t 31)), oP 34 (.ld 3 true (.t 33)), oP 7 (.new [(.v (.string ({ data := #[] }))), (.v (.int .i64 0)), (.v (.int .i64 0))]), oS (.st 3 (.t 7) (.t 34))]) (.ops false [oP 35 (.iaA 4 1 (.t 3) (cI 2)), oP 36 (.ld 1 false (.t 35)), oP 37 (.fa 0 (.t 7)), oP 38 (.ld 1 false (.t 37)), oP 39 (.bsl 1 1 [(.v (.string ({ data := #[] })))] [(0,
 (.t 38))]), oP 40 (.app 1 16 (.t 36) (.t 39)), oP 41 (.iaA 4 1 (.t 3) (cI 2)), oS (.st 1 (.t 41) (.t 40))]))) (.ops false [oP 42 (.bin .add (.t 31) (cI 1)), oM 31 42]))
def c133_4 : C := (.seq (.ops false [oP 32 (.bin .lss (.t 31) (.t 30))]) (.seq (.cond (.t 32) .skip (.exit 2)) c133_3))
def c133_5 : C := (.seq (.block 5 (.seq (.ops false [oP 48 (.iaS 5 (.t 44) (.t 46)), oP 49 (.ld 5 true (.t 48)), oP 9 (.new [(.v (.string ({ data := #[] }))), (.v (.int .i64 0)), (.v (.int .i64 0)), (.v (.int .i64 0)), (.v (.int .i64 0))]), oS (.st 5 (.t 9) (.t 49))]) (.ops false [oP 50 (.iaA 4 1 (.t 3) (cI 3)), oP 51 (.ld 1 false (.t 50)), oP 52 (.fa 0 (.t 9)), oP 53 (.ld 1 false (.t 52)),
 oP 54 (.bsl 1 1 [(.v (.string ({ data := #[] })))] [(0, (.t 53))]), oP 55 (.app 1 16 (.t 51) (.t 54)), oP 56 (.iaA 4 1 (.t 3) (cI 3)), oS (.st 1 (.t 56) (.t 55))]))) (.ops false [oP 57 (.bin .add (.t 46) (cI 1)), oM 46 57]))
def c133_6 : C := (.seq (.ops false [oP 47 (.bin .lss (.t 46) (.t 45))]) (.seq (.cond (.t 47) .skip (.exit 4)) c133_5))
def c133_7 : C := (.seq (.ops false [oP 58 (.ld 4 true (.t 3)), oS (.st 4 (.t 2) (.t 58))]) .ret)
def c133_8 : C := (.seq (.seq (.ops false [oP 43 (.fa 3 (.t 1)), oP 44 (.ld 1 false (.t 43)), oP 45 (.len (.t 44)), oP 46 (.mv (cI 0))]) (.block 4 (.loop c133_6))) c133_7)
def c133_9 : C := (.seq (.seq (.ops false [oP 28 (.fa 2 (.t 1)), oP 29 (.ld 1 false (.t 28)), oP 30 (.len (.t 29)), oP 31 (.mv (cI 0))]) (.block 2 (.loop c133_4))) c133_8)
def c133 : C := (.seq (.ops false [oP 1 (.box 6 (.t 0)), oP 2 (.new [.mt, .mt, .mt, .mt])]) (.seq (.ops false [oP 3 (.new [.mt, .mt, .mt, .mt])]) (.seq (.ops false [oP 10 (.fa 0 (.t 1)), oP 11 (.ld 1 false (.t 10)), oP 12 (.iaA 4 1 (.t 3) (cI 0)), oS (.st 1 (.t 12) (.t 11))]) (.seq (.seq (.ops false [oP 13 (.fa 1 (.t 1)), oP 14 (.ld 1 false (.t 13)), oP 15 (.len (.t 14)), oP 16 (.mv (cI 0))])
 (.block 0 (.loop c133_2))) c133_9))))
def r133 : List RV := [(.cell 2 4 true)]
theorem c133_ok : ∃ code, Try.f133.body = some code ∧ compC Try.prog Try.f133.ntmps code = some (C.strip c133) := ⟨_, rfl, by kernel_rfl⟩
theorem r133_ok : compRes Try.prog Try.f133.results.toList = some r133 := by kernel_rfl
theorem f133_ok : fnOk Try.prog 133 = true := by kernel_rfl
def c135 : C := (.seq (.ops false [oP 2 (.mv (cB false))]) (.seq (.ops false [oM 3 0, oB 4 (.call 67 [(.t 3)]), oP 5 (.not (.t 4)), oM 2 5]) .ret))
def r135 : List RV := [(.tmp 2)]
theorem c135_ok : ∃ code, Try.f135.body = some code ∧ compC Try.prog Try.f135.ntmps code = some (C.strip c135) := ⟨_, rfl, by kernel_rfl⟩
theorem r135_ok : compRes Try.prog Try.f135.results.toList = some r135 := by kernel_rfl
theorem f135_ok : fnOk Try.prog 135 = true := by kernel_rfl
def c136_1 : C := (.ops false [oP 26 (.bin .add (.t 16) (cI 1)), oM 16 26])
def c136_2 : C := (.seq (.block 3 (.seq (.ops false [oM 18 16, oP 19 (.iaS 1 (.t 14) (.t 16)), oP 20 (.ld 1 false (.t 19)), oM 5 18, oM 6 20]) (.seq (.ops false [oM 21 4, oM 22 6, oB 23 (.call 162 [(.t 21), (.t 22)]), oM 24 5, oP 25 (.bin .lss (.t 23) (.t 24))]) (.cond (.t 25) (.seq (.ops false [oP 2 (.mv (cB true))]) .ret) .skip)))) c136_1)
def c136_3 : C := (.seq (.ops false [oP 17 (.bin .lss (.t 16) (.t 15))]) (.seq (.cond (.t 17) .skip (.exit 2)) c136_2))
def c136_4 : C := (.ops false [oP 27 (.bin .add (.t 11) (cI 1)), oM 11 27])
def c136_5 : C := (.seq (.block 1 (.seq (.ops false [oP 13 (.ixA 4 1 false (.t 10) (.t 11)), oM 4 13]) (.seq (.ops false [oM 14 4, oP 15 (.len (.t 14)), oP 16 (.mv (cI 0))]) (.block 2 (.loop c136_3))))) c136_4)
def c136_6 : C := (.seq (.ops false [oP 12 (.bin .lss (.t 11) (cI 4))]) (.seq (.cond (.t 12) .skip (.exit 0)) c136_5))
def c136_7 : C := (.seq (.ops false [oP 36 (.fa 3 (.t 1)), oP 37 (.ld 1 false (.t 36)), oP 38 (.mkf 164 [] [(.t 8)]), oB 39 (.call 163 [(.t 37), (.t 38)]), oM 40 7, oP 41 (.bin .lss (.t 39) (.t 40))]) (.cond (.t 41) (.seq (.ops false [oP 2 (.mv (cB true))]) .ret) .skip))
def c136_8 : C := (.ops false [oP 42 (.bin .add (.t 31) (cI 1)), oM 31 42])
def c136_9 : C := (.seq (.block 5 (.seq (.ops false [oM 33 31, oP 34 (.iaS 5 (.t 29) (.t 31)), oP 35 (.ld 5 true (.t 34)), oP 8 (.new [(.v (.string ({ data := #[] }))), (.v (.int .i64 0)), (.v (.int .i64 0)), (.v (.int .i64 0)), (.v (.int .i64 0))]), oM 7 33, oS (.st 5 (.t 8) (.t 35))]) (.weak c136_7))) c136_8)
def c136_10 : C := (.seq (.ops false [oP 32 (.bin .lss (.t 31) (.t 30))]) (.seq (.cond (.t 32) .skip (.exit 4)) c136_9))
def c136_11 : C := (.seq (.ops false [oP 2 (.mv (cB false))]) .ret)
def c136_12 : C := (.seq (.seq (.ops false [oP 28 (.fa 3 (.t 1)), oP 29 (.ld 1 false (.t 28)), oP 30 (.len (.t 29)), oP 31 (.mv (cI 0))]) (.block 4 (.loop c136_10))) c136_11)
def c136 : C := (.seq (.ops false [oP 1 (.box 6 (.t 0)), oP 2 (.mv (cB false))]) (.seq (.seq (.ops false [oP 9 (.ld 6 true (.t 1)), oP 10 (.call 133 [(.t 9)]), oP 11 (.mv (cI 0))]) (.block 0 (.loop c136_6))) c136_12))
def r136 : List RV := [(.tmp 2)]
theorem c136_ok : ∃ code, Try.f136.body = some code ∧ compC Try.prog Try.f136.ntmps code = some (C.strip c136) := ⟨_, rfl, by kernel_rfl⟩
theorem r136_ok : compRes Try.prog Try.f136.results.toList = some r136 := by kernel_rfl
theorem f136_ok : fnOk Try.prog 136 = true := by kernel_rfl
def c137_1 : C := (.seq (.block 1 (.seq (.ops false [oP 15 (.iaS 7 (.t 11) (.t 13)), oP 16 (.ld 7 true (.t 15)), oP 5 (.new [(.v (.string ({ data := #[] }))), (.v (.int .i64 0)), (.v (.int .i64 0)), (.v (.int .i64 0)), (.v (.int .i64 0)), (.v (.int .i64 0)), .mt]), oS (.st 7 (.t 5) (.t 16))]) (.ops false [oM 17 3, oP 18 (.fa 1 (.t 5)), oP 19 (.ld 1 false (.t 18)), oP 20 (.fa 2 (.t 5)),
 oP 21 (.ld 1 false (.t 20)), oP 22 (.bsl 1 2 [(.v (.int .i64 0))] [(0, (.t 19)), (1, (.t 21))]), oP 23 (.app 1 8 (.t 17) (.t 22)), oM 3 23]))) (.ops false [oP 24 (.bin .add (.t 13) (cI 1)), oM 13 24]))
def c137_2 : C := (.seq (.ops false [oP 14 (.bin .lss (.t 13) (.t 12))]) (.seq (.cond (.t 14) .skip (.exit 0)) c137_1))
def c137_3 : C := (.seq (.block 3 (.seq (.ops false [oP 30 (.iaS 3 (.t 26) (.t 28)), oP 31 (.ld 3 true (.t 30)), oP 7 (.new [(.v (.string ({ data := #[] }))), (.v (.int .i64 0)), (.v (.int .i64 0))]), oS (.st 3 (.t 7) (.t 31))]) (.ops false [oM 32 3, oP 33 (.fa 1 (.t 7)), oP 34 (.ld 1 false (.t 33)), oP 35 (.bsl 1 1 [(.v (.int .i64 0))] [(0, (.t 34))]), oP 36 (.app 1 8 (.t 32) (.t 35)),
 oM 3 36]))) (.ops false [oP 37 (.bin .add (.t 28) (cI 1)), oM 28 37]))
def c137_4 : C := (.seq (.ops false [oP 29 (.bin .lss (.t 28) (.t 27))]) (.seq (.cond (.t 29) .skip (.exit 2)) c137_3))
def c137_5 : C := (.seq (.block 5 (.seq (.ops false [oP 43 (.iaS 5 (.t 39) (.t 41)), oP 44 (.ld 5 true (.t 43)), oP 9 (.new [(.v (.string ({ data := #[] }))), (.v (.int .i64 0)), (.v (.int .i64 0)), (.v (.int .i64 0)), (.v (.int .i64 0))]), oS (.st 5 (.t 9) (.t 44))]) (.ops false [oM 45 3, oP 46 (.fa 1 (.t 9)), oP 47 (.ld 1 false (.t 46)), oP 48 (.bsl 1 1 [(.v (.int .i64 0))] [(0, (.t 47))]),
 oP 49 (.app 1 8 (.t 45) (.t 48)), oM 3 49]))) (.ops false [oP 50 (.bin .add (.t 41) (cI 1)), oM 41 50]))
def c137_6 : C := (.seq (.ops false [oP 42 (.bin .lss (.t 41) (.t 40))]) (.seq (.cond (.t 42) .skip (.exit 4)) c137_5))
def c137_7 : C := (.seq (.ops false [oM 51 3, oP 52 (.mkf 165 [] [(.t 1)]), oB 53 (.call 145 [(.t 51), (.t 52)]), oP 54 (.not (.t 53)), oM 2 54]) .ret)
def c137_8 : C := (.seq (.seq (.ops false [oP 38 (.fa 3 (.t 1)), oP 39 (.ld 1 false (.t 38)), oP 40 (.len (.t 39)), oP 41 (.mv (cI 0))]) (.block 4 (.loop c137_6))) (.weak c137_7))
def c137_9 : C := (.seq (.seq (.ops false [oP 25 (.fa 2 (.t 1)), oP 26 (.ld 1 false (.t 25)), oP 27 (.len (.t 26)), oP 28 (.mv (cI 0))]) (.block 2 (.loop c137_4))) c137_8)
def c137 : C := (.seq (.ops false [oP 1 (.box 6 (.t 0)), oP 2 (.mv (cB false))]) (.seq (.ops false [oP 3 (.mv (.c .mt))]) (.seq (.seq (.ops false [oP 10 (.fa 1 (.t 1)), oP 11 (.ld 1 false (.t 10)), oP 12 (.len (.t 11)), oP 13 (.mv (cI 0))]) (.block 0 (.loop c137_2))) c137_9)))
def r137 : List RV := [(.tmp 2)]
theorem c137_ok : ∃ code, Try.f137.body = some code ∧ compC Try.prog Try.f137.ntmps code = some (C.strip c137) := ⟨_, rfl, by kernel_rfl⟩
theorem r137_ok : compRes Try.prog Try.f137.results.toList = some r137 := by kernel_rfl
theorem f137_ok : fnOk Try.prog 137 = true := by kernel_rfl
def c138_1 : C := (.seq (.ops false [oP 12 (.fa 4 (.t 1)), oP 13 (.ld 1 false (.t 12)), oB 14 (.call 170 [(.t 13), (cI (-100000)), (cI 100000000)]), oM 15 14, oG 16 15 true (.fa 5 (.t 1)), oG 17 15 true (.ld 1 false (.t 16)), oD 18 15 true (.call 170 [(.t 17), (cI 0), (cI 100)]) [], oP 19 (.pick (.t 15) (.t 18) (cB false)), oM 2 19]) .ret)
def c138_2 : C := (.seq (.seq (.ops false [oP 9 (.fa 3 (.t 1)), oP 10 (.ld 1 false (.t 9)), oB 11 (.call 171 [(.t 10), (.c (.clo 172 [] []))])]) (.cond (.t 11) (.seq (.ops false [oP 2 (.mv (cB false))]) .ret) .skip)) c138_1)
def c138_3 : C := (.seq (.seq (.ops false [oP 6 (.fa 2 (.t 1)), oP 7 (.ld 1 false (.t 6)), oB 8 (.call 168 [(.t 7), (.c (.clo 169 [] []))])]) (.cond (.t 8) (.seq (.ops false [oP 2 (.mv (cB false))]) .ret) .skip)) c138_2)
def c138 : C := (.seq (.ops false [oP 1 (.box 6 (.t 0)), oP 2 (.mv (cB false))]) (.seq (.seq (.ops false [oP 3 (.fa 1 (.t 1)), oP 4 (.ld 1 false (.t 3)), oB 5 (.call 159 [(.t 4), (.c (.clo 166 [] []))])]) (.cond (.t 5) (.seq (.ops false [oP 2 (.mv (cB false))]) .ret) .skip)) c138_3))
def r138 : List RV := [(.tmp 2)]
theorem c138_ok : ∃ code, Try.f138.body = some code ∧ compC Try.prog Try.f138.ntmps code = some (C.strip c138) := ⟨_, rfl, by kernel_rfl⟩
theorem r138_ok : compRes Try.prog Try.f138.results.toList = some r138 := by kernel_rfl
theorem f138_ok : fnOk Try.prog 138 = true := by kernel_rfl
def c139 : C := (.seq (.ops false [oP 6 (.mv (cB false))]) (.seq (.ops false [oM 7 0, oM 8 1, oP 9 (.bin .geq (.t 7) (.t 8)), oM 10 9, oG 11 10 true (.mv (.t 0)), oG 12 10 true (.mv (.t 2)), oG 13 10 true (.bin .leq (.t 11) (.t 12)), oP 14 (.pick (.t 10) (.t 13) (cB false)), oM 6 14]) .ret))
def r139 : List RV := [(.tmp 6)]
theorem c139_ok : ∃ code, Try.f139.body = some code ∧ compC Try.prog Try.f139.ntmps code = some (C.strip c139) := ⟨_, rfl, by kernel_rfl⟩
theorem r139_ok : compRes Try.prog Try.f139.results.toList = some r139 := by kernel_rfl
theorem f139_ok : fnOk Try.prog 139 = true := by kernel_rfl
def c140_1 : C := (.seq (.block 1 (.seq (.ops false [oP 18 (.iaS 7 (.t 14) (.t 16)), oP 19 (.ld 7 true (.t 18)), oP 5 (.new [(.v (.string ({ data := #[] }))), (.v (.int .i64 0)), (.v (.int .i64 0)), (.v (.int .i64 0)), (.v (.int .i64 0)), (.v (.int .i64 0)), .mt]), oS (.st 7 (.t 5) (.t 19))]) (.ops false [oP 20 (.iaA 4 1 (.t 3) (cI 1)), oP 21 (.ld 1 false (.t 20)), oP 22 (.fa 0 (.t 5)), oP 23 (.ld 1 false (.t 22)),
 oP 24 (.bsl 1 1 [(.v (.string ({ data := #[] })))] [(0, (.t 23))]), oP 25 (.app 1 16 (.t 21) (.t 24)), oP 26 (.iaA 4 1 (.t 3) (cI 1)), oS (.st 1 (.t 26) (.t 25))]))) (.ops false [oP 27 (.bin .add (.t 16) (cI 1)), oM 16 27]))
def c140_2 : C := (.seq (.ops false [oP 17 (.bin .lss (.t 16) (.t 15))]) (.seq (.cond (.t 17) .skip (.exit 0)) c140_1))
def c140_3 : C := (.seq (.block 3 (.seq (.ops false [oP 33 (.iaS 3 (.t 29) (.t 31)), oP 34 (.ld 3 true (.t 33)), oP 7 (.new [(.v (.string ({ data := #[] }))), (.v (.int .i64 0)), (.v (.int .i64 0))]), oS (.st 3 (.t 7) (.t 34))]) (.ops false [oP 35 (.iaA 4 1 (.t 3) (cI 2)), oP 36 (.ld 1 false (.t 35)), oP 37 (.fa 0 (.t 7)), oP 38 (.ld 1 false (.t 37)), oP 39 (.bsl 1 1 [(.v (.string ({ data := #[] })))] [(0,
 (.t 38))]), oP 40 (.app 1 16 (.t 36) (.t 39)), oP 41 (.iaA 4 1 (.t 3) (cI 2)), oS (.st 1 (.t 41) (.t 40))]))) (.ops false [oP 42 (.bin .add (.t 31) (cI 1)), oM 31 42]))
def c140_4 : C := (.seq (.ops false [oP 32 (.bin .lss (.t 31) (.t 30))]) (.seq (.cond (.t 32) .skip (.exit 2)) c140_3))
def c140_5 : C := (.seq (.block 5 (.seq (.ops false [oP 48 (.iaS 5 (.t 44) (.t 46)), oP 49 (.ld 5 true (.t 48)), oP 9 (.new [(.v (.string ({ data := #[] }))), (.v (.int .i64 0)), (.v (.int .i64 0)), (.v (.int .i64 0)), (.v (.int .i64 0))]), oS (.st 5 (.t 9) (.t 49))]) (.ops false [oP 50 (.iaA 4 1 (.t 3) (cI 3)), oP 51 (.ld 1 false (.t 50)), oP 52 (.fa 0 (.t 9)), oP 53 (.ld 1 false (.t 52)),
 oP 54 (.bsl 1 1 [(.v (.string ({ data := #[] })))] [(0, (.t 53))]), oP 55 (.app 1 16 (.t 51) (.t 54)), oP 56 (.iaA 4 1 (.t 3) (cI 3)), oS (.st 1 (.t 56) (.t 55))]))) (.ops false [oP 57 (.bin .add (.t 46) (cI 1)), oM 46 57]))
def c140_6 : C := (.seq (.ops false [oP 47 (.bin .lss (.t 46) (.t 45))]) (.seq (.cond (.t 47) .skip (.exit 4)) c140_5))
def c140_7 : C := (.seq (.ops false [oP 58 (.ld 4 true (.t 3)), oS (.st 4 (.t 2) (.t 58))]) .ret)
def c140_8 : C := (.seq (.seq (.ops false [oP 43 (.fa 3 (.t 1)), oP 44 (.ld 1 false (.t 43)), oP 45 (.len (.t 44)), oP 46 (.mv (cI 0))]) (.block 4 (.loop c140_6))) c140_7)
def c140_9 : C := (.seq (.seq (.ops false [oP 28 (.fa 2 (.t 1)), oP 29 (.ld 1 false (.t 28)), oP 30 (.len (.t 29)), oP 31 (.mv (cI 0))]) (.block 2 (.loop c140_4))) c140_8)
def c140 : C := (.seq (.ops false [oP 1 (.box 6 (.t 0)), oP 2 (.new [.mt, .mt, .mt, .mt])]) (.seq (.ops false [oP 3 (.new [.mt, .mt, .mt, .mt])]) (.seq (.ops false [oP 10 (.fa 0 (.t 1)), oP 11 (.ld 1 false (.t 10)), oP 12 (.iaA 4 1 (.t 3) (cI 0)), oS (.st 1 (.t 12) (.t 11))]) (.seq (.seq (.ops false [oP 13 (.fa 1 (.t 1)), oP 14 (.ld 1 false (.t 13)), oP 15 (.len (.t 14)), oP 16 (.mv (cI 0))])
 (.block 0 (.loop c140_2))) c140_9))))
def r140 : List RV := [(.cell 2 4 true)]
theorem c140_ok : ∃ code, Try.f140.body = some code ∧ compC Try.prog Try.f140.ntmps code = some (C.strip c140) := ⟨_, rfl, by kernel_rfl⟩
theorem r140_ok : compRes Try.prog Try.f140.results.toList = some r140 := by kernel_rfl
theorem f140_ok : fnOk Try.prog 140 = true := by kernel_rfl
def c141_1 : C := (.ops false [oM 13 4, oP 14 (.bin .add (.t 13) (cI 1)), oM 4 14])
def c141_2 : C := (.seq (.block 3 (.seq (.ops true [oM 15 0, oM 16 3, oA 17 (.iaS 1 (.t 15) (.t 16)) [1, 0], oA 18 (.ld 1 false (.t 17)) [0, 1, 2], oM 19 0, oM 20 4, oA 21 (.iaS 1 (.t 19) (.t 20)) [5, 4], oA 22 (.ld 1 false (.t 21)) [4, 5, 6], oA 23 (.bin .eql (.t 18) (.t 22)) [6, 5, 4, 2, 1, 0, 7, 3]]) (.cond (.t 23) (.seq (.ops false [oP 2 (.mv (cB true))]) .ret)
 .skip))) c141_1)
def c141_3 : C := (.seq (.seq (.ops false [oM 10 4, oM 11 3, oP 12 (.bin .lss (.t 10) (.t 11))]) (.cond (.t 12) .skip (.exit 2))) c141_2)
def c141_4 : C := (.ops false [oP 24 (.bin .add (.t 7) (cI 1)), oM 7 24])
def c141_5 : C := (.seq (.block 1 (.seq (.ops false [oM 9 7, oM 3 9]) (.seq (.ops false [oP 4 (.mv (cI 0))]) (.block 2 (.loop c141_3))))) c141_4)
def c141_6 : C := (.seq (.ops false [oP 8 (.bin .lss (.t 7) (.t 6))]) (.seq (.cond (.t 8) .skip (.exit 0)) c141_5))
def c141_7 : C := (.seq (.ops false [oP 2 (.mv (cB false))]) .ret)
def c141 : C := (.seq (.ops false [oP 2 (.mv (cB false))]) (.seq (.seq (.ops false [oM 5 0, oP 6 (.len (.t 5)), oP 7 (.mv (cI 0))]) (.block 0 (.loop c141_6))) c141_7))
def r141 : List RV := [(.tmp 2)]
theorem c141_ok : ∃ code, Try.f141.body = some code ∧ compC Try.prog Try.f141.ntmps code = some (C.strip c141) := ⟨_, rfl, by kernel_rfl⟩
theorem r141_ok : compRes Try.prog Try.f141.results.toList = some r141 := by kernel_rfl
theorem f141_ok : fnOk Try.prog 141 = true := by kernel_rfl
def c142_1 : C := (.ops false [oP 84 (.bin .add (.t 53) (cI 1)), oM 53 84])
def c142_2 : C := (.seq (.block 1 (.seq (.ops false [oM 55 53, oP 56 (.iaS 3 (.t 51) (.t 53)), oP 57 (.ld 3 true (.t 56)), oP 4 (.new [(.v (.int .i64 0)), (.v (.int .i64 0)), (.v (.int .i64 0))]), oM 3 55, oS (.st 3 (.t 4) (.t 57))]) (.seq (.ops true [oM 58 3, oA 59 (.bin .gtr (.t 58) (cI 0)) [0], oA 60 (.mv (.t 59)) [0, 1], oH 61 60 true (.fa 0 (.t 4)) [1, 0, 2],
 oH 62 60 true (.ld 1 false (.t 61)) [0, 1, 2, 3], oH 63 60 true (.fa 6 (.t 1)) [1, 0, 2], oH 64 60 true (.ld 1 false (.t 63)) [0, 1, 2, 5], oH 65 60 true (.mv (.t 3)) [1, 0, 2], oH 66 60 true (.bin .sub (.t 65) (cI 1)) [0, 1, 2, 7], oH 67 60 true (.iaS 3 (.t 64) (.t 66)) [7, 5, 1, 0, 2, 8, 6], oH 68 60 true (.fa 0 (.t 67)) [6, 8, 0, 1, 5, 7, 2, 9], oH 69 60 true (.ld 1 false (.t 68)) [9, 7, 5, 1,
 0, 8, 6, 2, 10], oH 70 60 true (.bin .leq (.t 62) (.t 69)) [10, 6, 8, 5, 7, 9, 3, 1, 0, 2, 11, 4], oA 71 (.pick (.t 60) (.t 70) (cB false)) [4, 11, 3, 9, 7, 5, 8, 6, 10, 1, 0, 12, 2], oA 72 (.mv (.t 71)) [12, 0, 1, 10, 6, 8, 5, 7, 9, 3, 11, 4, 2, 13], oH 73 72 false (.fa 1 (.t 4)) [13, 2, 4, 11, 3, 9, 7, 5, 8, 6, 10, 1, 0, 12, 14], oH 74 72 false (.ld 1 false (.t 73)) [12, 0, 1, 10, 6, 8, 5, 7, 9,
 3, 11, 4, 2, 13, 14, 15], oD 75 72 false (.call 139 [(.t 74), (cI (-500)), (cI 5000)]) [15, 13, 2, 4, 11, 3, 9, 7, 5, 8, 6, 10, 1, 0, 12, 14, 16], oH 76 72 false (.not (.t 75)) [16, 12, 0, 1, 10, 6, 8, 5, 7, 9, 3, 11, 4, 2, 13, 15, 14, 17], oA 77 (.pick (.t 72) (cB true) (.t 76)) [17, 15, 16, 13, 2, 4, 11, 3, 9, 7, 5, 8, 6, 10, 1, 0, 12, 18, 14], oA 78 (.mv (.t 77)) [14, 18, 12, 0, 1, 10, 6, 8, 5,
 7, 9, 3, 11, 4, 2, 13, 16, 15, 17, 19], oH 79 78 false (.fa 2 (.t 4)) [19, 17, 15, 16, 13, 2, 4, 11, 3, 9, 7, 5, 8, 6, 10, 1, 0, 12, 18, 14, 20], oH 80 78 false (.ld 1 false (.t 79)) [14, 18, 12, 0, 1, 10, 6, 8, 5, 7, 9, 3, 11, 4, 2, 13, 16, 15, 17, 19, 20, 21], oD 81 78 false (.call 139 [(.t 80), (cI 0), (cI 100000000)]) [21, 19, 17, 15, 16, 13, 2, 4, 11, 3, 9, 7, 5, 8, 6, 10, 1, 0, 12, 18, 14,
 20, 22], oH 82 78 false (.not (.t 81)) [22, 14, 18, 12, 0, 1, 10, 6, 8, 5, 7, 9, 3, 11, 4, 2, 13, 16, 15, 17, 19, 21, 20, 23], oA 83 (.pick (.t 78) (cB true) (.t 82)) [23, 21, 22, 19, 17, 15, 16, 13, 2, 4, 11, 3, 9, 7, 5, 8, 6, 10, 1, 0, 12, 18, 14, 24, 20]]) (.cond (.t 83) (.seq (.ops false [oP 2 (.mv (cB false))]) .ret) .skip)))) c142_1)
def c142_3 : C := (.seq (.ops false [oP 54 (.bin .lss (.t 53) (.t 52))]) (.seq (.cond (.t 54) .skip (.exit 0)) c142_2))
def c142_4 : C := (.seq (.ops false [oP 2 (.mv (cB true))]) .ret)
def c142_5 : C := (.seq (.seq (.ops false [oP 50 (.fa 6 (.t 1)), oP 51 (.ld 1 false (.t 50)), oP 52 (.len (.t 51)), oP 53 (.mv (cI 0))]) (.block 0 (.loop c142_3))) c142_4)
def c142 : C := (.seq (.ops false [oP 1 (.box 7 (.t 0)), oP 2 (.mv (cB false))]) (.seq (.seq (.ops true [oP 5 (.fa 1 (.t 1)), oA 6 (.ld 1 false (.t 5)) [0], oP 7 (.fa 2 (.t 1)), oA 8 (.ld 1 false (.t 7)) [2], oA 9 (.bin .eql (.t 6) (.t 8)) [2, 0, 3, 1], oA 10 (.mv (.t 9)) [1, 3, 0, 2, 4], oH 11 10 false (.fa 3 (.t 1)) [4, 2, 0, 3, 1, 5], oH 12 10 false (.ld 1 false (.t 11)) [1, 3, 0, 2, 4, 5, 6],
 oD 13 10 false (.call 139 [(.t 12), (cI 1), (cI 1000000)]) [6, 4, 2, 0, 3, 1, 5, 7], oH 14 10 false (.not (.t 13)) [7, 1, 3, 0, 2, 4, 6, 5, 8], oA 15 (.pick (.t 10) (cB true) (.t 14)) [8, 6, 7, 4, 2, 0, 3, 1, 9, 5], oA 16 (.mv (.t 15)) [5, 9, 1, 3, 0, 2, 4, 7, 6, 8, 10], oH 17 16 false (.fa 4 (.t 1)) [10, 8, 6, 7, 4, 2, 0, 3, 1, 9, 5, 11], oH 18 16 false (.ld 1 false (.t 17)) [5, 9, 1, 3, 0, 2, 4,
 7, 6, 8, 10, 11, 12], oD 19 16 false (.call 139 [(.t 18), (cI 0), (cI 1000)]) [12, 10, 8, 6, 7, 4, 2, 0, 3, 1, 9, 5, 11, 13], oH 20 16 false (.not (.t 19)) [13, 5, 9, 1, 3, 0, 2, 4, 7, 6, 8, 10, 12, 11, 14], oA 21 (.pick (.t 16) (cB true) (.t 20)) [14, 12, 13, 10, 8, 6, 7, 4, 2, 0, 3, 1, 9, 5, 15, 11], oA 22 (.mv (.t 21)) [11, 15, 5, 9, 1, 3, 0, 2, 4, 7, 6, 8, 10, 13, 12, 14, 16],
 oH 23 22 false (.fa 5 (.t 1)) [16, 14, 12, 13, 10, 8, 6, 7, 4, 2, 0, 3, 1, 9, 5, 15, 11, 17], oH 24 22 false (.ld 1 false (.t 23)) [11, 15, 5, 9, 1, 3, 0, 2, 4, 7, 6, 8, 10, 13, 12, 14, 16, 17, 18], oD 25 22 false (.call 139 [(.t 24), (cI 0), (cI 100000)]) [18, 16, 14, 12, 13, 10, 8, 6, 7, 4, 2, 0, 3, 1, 9, 5, 15, 11, 17, 19], oH 26 22 false (.not (.t 25)) [19, 11, 15, 5, 9, 1, 3, 0, 2, 4, 7, 6,
 8, 10, 13, 12, 14, 16, 18, 17, 20], oA 27 (.pick (.t 22) (cB true) (.t 26)) [20, 18, 19, 16, 14, 12, 13, 10, 8, 6, 7, 4, 2, 0, 3, 1, 9, 5, 15, 11, 21, 17], oA 28 (.mv (.t 27)) [17, 21, 11, 15, 5, 9, 1, 3, 0, 2, 4, 7, 6, 8, 10, 13, 12, 14, 16, 19, 18, 20, 22], oH 29 28 false (.fa 6 (.t 1)) [22, 20, 18, 19, 16, 14, 12, 13, 10, 8, 6, 7, 4, 2, 0, 3, 1, 9, 5, 15, 11, 21, 17, 23],
 oH 30 28 false (.ld 1 false (.t 29)) [17, 21, 11, 15, 5, 9, 1, 3, 0, 2, 4, 7, 6, 8, 10, 13, 12, 14, 16, 19, 18, 20, 22, 23, 24], oH 31 28 false (.iaS 3 (.t 30) (cI 0)) [24, 22, 20, 18, 19, 16, 14, 12, 13, 10, 8, 6, 7, 4, 2, 0, 3, 1, 9, 5, 15, 11, 21, 17, 23, 25], oH 32 28 false (.fa 0 (.t 31)) [25, 17, 21, 11, 15, 5, 9, 1, 3, 0, 2, 4, 7, 6, 8, 10, 13, 12, 14, 16, 19, 18, 20, 22, 24, 23, 26],
 oH 33 28 false (.ld 1 false (.t 32)) [26, 24, 22, 20, 18, 19, 16, 14, 12, 13, 10, 8, 6, 7, 4, 2, 0, 3, 1, 9, 5, 15, 11, 21, 17, 25, 23, 27], oH 34 28 false (.bin .neq (.t 33) (cI 0)) [27, 25, 17, 21, 11, 15, 5, 9, 1, 3, 0, 2, 4, 7, 6, 8, 10, 13, 12, 14, 16, 19, 18, 20, 22, 24, 26, 23, 28], oA 35 (.pick (.t 28) (cB true) (.t 34)) [28, 26, 24, 25, 27, 22, 20, 18, 19, 16, 14, 12, 13, 10, 8, 6, 7, 4,
 2, 0, 3, 1, 9, 5, 15, 11, 21, 17, 29, 23], oA 36 (.mv (.t 35)) [29, 17, 21, 11, 15, 5, 9, 1, 3, 0, 2, 4, 7, 6, 8, 10, 13, 12, 14, 16, 19, 18, 20, 22, 27, 25, 24, 26, 28, 23, 30], oH 37 36 false (.fa 6 (.t 1)) [30, 23, 28, 26, 24, 25, 27, 22, 20, 18, 19, 16, 14, 12, 13, 10, 8, 6, 7, 4, 2, 0, 3, 1, 9, 5, 15, 11, 21, 17, 29, 31], oH 38 36 false (.ld 1 false (.t 37)) [29, 17, 21, 11, 15, 5, 9, 1, 3,
 0, 2, 4, 7, 6, 8, 10, 13, 12, 14, 16, 19, 18, 20, 22, 27, 25, 24, 26, 28, 23, 30, 31, 32], oH 39 36 false (.fa 6 (.t 1)) [30, 23, 28, 26, 24, 25, 27, 22, 20, 18, 19, 16, 14, 12, 13, 10, 8, 6, 7, 4, 2, 0, 3, 1, 9, 5, 15, 11, 21, 17, 29, 31], oH 40 36 false (.ld 1 false (.t 39)) [29, 17, 21, 11, 15, 5, 9, 1, 3, 0, 2, 4, 7, 6, 8, 10, 13, 12, 14, 16, 19, 18, 20, 22, 27, 25, 24, 26, 28, 23, 30, 31,
 34], oH 41 36 false (.len (.t 40)) [34, 30, 23, 28, 26, 24, 25, 27, 22, 20, 18, 19, 16, 14, 12, 13, 10, 8, 6, 7, 4, 2, 0, 3, 1, 9, 5, 15, 11, 21, 17, 29, 31, 35], oH 42 36 false (.bin .sub (.t 41) (cI 1)) [35, 29, 17, 21, 11, 15, 5, 9, 1, 3, 0, 2, 4, 7, 6, 8, 10, 13, 12, 14, 16, 19, 18, 20, 22, 27, 25, 24, 26, 28, 23, 30, 34, 31, 36], oH 43 36 false (.iaS 3 (.t 38) (.t 42)) [36, 34, 35, 32, 30,
 23, 28, 26, 24, 25, 27, 22, 20, 18, 19, 16, 14, 12, 13, 10, 8, 6, 7, 4, 2, 0, 3, 1, 9, 5, 15, 11, 21, 17, 29, 31, 37, 33], oH 44 36 false (.fa 0 (.t 43)) [33, 37, 29, 17, 21, 11, 15, 5, 9, 1, 3, 0, 2, 4, 7, 6, 8, 10, 13, 12, 14, 16, 19, 18, 20, 22, 27, 25, 24, 26, 28, 23, 30, 32, 35, 34, 36, 31, 38], oH 45 36 false (.ld 1 false (.t 44)) [38, 36, 34, 35, 32, 30, 23, 28, 26, 24, 25, 27, 22, 20, 18,
 19, 16, 14, 12, 13, 10, 8, 6, 7, 4, 2, 0, 3, 1, 9, 5, 15, 11, 21, 17, 29, 37, 33, 31, 39], oH 46 36 false (.fa 3 (.t 1)) [30, 23, 28, 26, 24, 25, 27, 22, 20, 18, 19, 16, 14, 12, 13, 10, 8, 6, 7, 4, 2, 0, 3, 1, 9, 5, 15, 11, 21, 17, 29, 31], oH 47 36 false (.ld 1 false (.t 46)) [29, 17, 21, 11, 15, 5, 9, 1, 3, 0, 2, 4, 7, 6, 8, 10, 13, 12, 14, 16, 19, 18, 20, 22, 27, 25, 24, 26, 28, 23, 30, 31,
 41], oH 48 36 false (.bin .neq (.t 45) (.t 47)) [41, 39, 33, 37, 29, 17, 21, 11, 15, 5, 9, 1, 3, 0, 2, 4, 7, 6, 8, 10, 13, 12, 14, 16, 19, 18, 20, 22, 27, 25, 24, 26, 28, 23, 30, 32, 35, 34, 36, 38, 31, 42, 40], oA 49 (.pick (.t 36) (cB true) (.t 48)) [40, 42, 38, 36, 34, 35, 32, 37, 33, 39, 41, 30, 23, 28, 26, 24, 25, 27, 22, 20, 18, 19, 16, 14, 12, 13, 10, 8, 6, 7, 4, 2, 0, 3, 1, 9, 5, 15, 11,
 21, 17, 29, 43, 31]]) (.cond (.t 49) (.seq (.ops false [oP 2 (.mv (cB false))]) .ret) .skip)) c142_5))
def r142 : List RV := [(.tmp 2)]
theorem c142_ok : ∃ code, Try.f142.body = some code ∧ compC Try.prog Try.f142.ntmps code = some (C.strip c142) := ⟨_, rfl, by kernel_rfl⟩
theorem r142_ok : compRes Try.prog Try.f142.results.toList = some r142 := by kernel_rfl
theorem f142_ok : fnOk Try.prog 142 = true := by kernel_rfl
def c160 : C := (.seq (.ops false [oP 1 (.box 7 (.t 0)), oP 2 (.mv (cB false))]) (.seq (.ops false [oP 3 (.fa 6 (.t 1)), oP 4 (.ld 1 false (.t 3)), oP 5 (.len (.t 4)), oP 6 (.bin .lss (.t 5) (cI 2)), oM 7 6, oG 8 7 false (.fa 6 (.t 1)), oG 9 7 false (.ld 1 false (.t 8)), oG 10 7 false (.len (.t 9)), oG 11 7 false (.bin .gtr (.t 10) (cI 8)), oP 12 (.pick (.t 7) (cB true) (.t 11)), oM 2 12])
 .ret))
def r160 : List RV := [(.tmp 2)]
theorem c160_ok : ∃ code, Try.f160.body = some code ∧ compC Try.prog Try.f160.ntmps code = some (C.strip c160) := ⟨_, rfl, by kernel_rfl⟩
theorem r160_ok : compRes Try.prog Try.f160.results.toList = some r160 := by kernel_rfl
theorem f160_ok : fnOk Try.prog 160 = true := by kernel_rfl
def c162_1 : C := (.ops false [oP 18 (.bin .add (.t 8) (cI 1)), oM 8 18])
def c162_2 : C := (.seq (.block 1 (.seq (.ops false [oM 10 8, oM 5 10]) (.seq (.ops false [oM 11 1, oM 12 0, oM 13 5, oP 14 (.iaS 1 (.t 12) (.t 13)), oP 15 (.ld 1 false (.t 14)), oP 16 (.bin .eql (.t 11) (.t 15))]) (.cond (.t 16) (.seq (.ops false [oM 17 5, oM 4 17]) .ret) .skip)))) c162_1)
def c162_3 : C := (.seq (.ops false [oP 9 (.bin .lss (.t 8) (.t 7))]) (.seq (.cond (.t 9) .skip (.exit 0)) c162_2))
def c162_4 : C := (.seq (.ops false [oP 4 (.mv (cI (-1)))]) .ret)
def c162 : C := (.seq (.ops false [oP 4 (.mv (cI 0))]) (.seq (.seq (.ops false [oM 6 0, oP 7 (.len (.t 6)), oP 8 (.mv (cI 0))]) (.block 0 (.loop c162_3))) c162_4))
def r162 : List RV := [(.tmp 4)]
theorem c162_ok : ∃ code, Try.f162.body = some code ∧ compC Try.prog Try.f162.ntmps code = some (C.strip c162) := ⟨_, rfl, by kernel_rfl⟩
theorem r162_ok : compRes Try.prog Try.f162.results.toList = some r162 := by kernel_rfl
theorem f162_ok : fnOk Try.prog 162 = true := by kernel_rfl
def c164 : C := (.seq (.ops false [oP 2 (.box 5 (.t 0)), oP 3 (.mv (cB false))]) (.seq (.ops false [oP 4 (.fa 1 (.t 2)), oP 5 (.ld 1 false (.t 4)), oP 6 (.fa 1 (.t 1)), oP 7 (.ld 1 false (.t 6)), oP 8 (.bin .eql (.t 5) (.t 7)), oM 3 8]) .ret))
def r164 : List RV := [(.tmp 3)]
theorem c164_ok : ∃ code, Try.f164.body = some code ∧ compC Try.prog Try.f164.ntmps code = some (C.strip c164) := ⟨_, rfl, by kernel_rfl⟩
theorem r164_ok : compRes Try.prog Try.f164.results.toList = some r164 := by kernel_rfl
theorem f164_ok : fnOk Try.prog 164 = true := by kernel_rfl
def c165 : C := (.seq (.ops false [oP 3 (.mv (cB false))]) (.seq (.ops false [oM 4 0, oP 5 (.bin .lss (.t 4) (cI 0)), oM 6 5, oG 7 6 false (.mv (.t 0)), oG 8 6 false (.fa 0 (.t 1)), oG 9 6 false (.ld 1 false (.t 8)), oG 10 6 false (.len (.t 9)), oG 11 6 false (.bin .geq (.t 7) (.t 10)), oP 12 (.pick (.t 6) (cB true) (.t 11)), oM 3 12]) .ret))
def r165 : List RV := [(.tmp 3)]
theorem c165_ok : ∃ code, Try.f165.body = some code ∧ compC Try.prog Try.f165.ntmps code = some (C.strip c165) := ⟨_, rfl, by kernel_rfl⟩
theorem r165_ok : compRes Try.prog Try.f165.results.toList = some r165 := by kernel_rfl
theorem f165_ok : fnOk Try.prog 165 = true := by kernel_rfl
def c166 : C := (.seq (.ops false [oP 1 (.box 7 (.t 0)), oP 2 (.mv (cB false))]) (.seq (.ops false [oP 3 (.ld 7 true (.t 1)), oB 4 (.call 167 [(.t 3)]), oP 5 (.not (.t 4)), oM 2 5]) .ret))
def r166 : List RV := [(.tmp 2)]
theorem c166_ok : ∃ code, Try.f166.body = some code ∧ compC Try.prog Try.f166.ntmps code = some (C.strip c166) := ⟨_, rfl, by kernel_rfl⟩
theorem r166_ok : compRes Try.prog Try.f166.results.toList = some r166 := by kernel_rfl
theorem f166_ok : fnOk Try.prog 166 = true := by kernel_rfl
def c167_1 : C := (.ops false [oP 62 (.bin .add (.t 31) (cI 1)), oM 31 62])
def c167_2 : C := (.seq (.block 1 (.seq (.ops false [oM 33 31, oP 34 (.iaS 3 (.t 29) (.t 31)), oP 35 (.ld 3 true (.t 34)), oP 4 (.new [(.v (.int .i64 0)), (.v (.int .i64 0)), (.v (.int .i64 0))]), oM 3 33, oS (.st 3 (.t 4) (.t 35))]) (.seq (.ops true [oP 36 (.fa 1 (.t 4)), oA 37 (.ld 1 false (.t 36)) [0], oE 38 (.call 170 [(.t 37), (cI (-500)), (cI 5000)]) [0, 1], oA 39 (.not (.t 38)) [1, 0,
 2], oA 40 (.mv (.t 39)) [0, 1, 2, 3], oH 41 40 false (.fa 2 (.t 4)) [3, 2, 1, 0, 4], oH 42 40 false (.ld 1 false (.t 41)) [0, 1, 2, 3, 4, 5], oD 43 40 false (.call 170 [(.t 42), (cI 0), (cI 100000000)]) [5, 3, 2, 1, 0, 4, 6], oH 44 40 false (.not (.t 43)) [6, 0, 1, 2, 3, 5, 4, 7], oA 45 (.pick (.t 40) (cB true) (.t 44)) [7, 5, 6, 3, 2, 1, 0, 8, 4], oA 46 (.mv (.t 45)) [4, 8, 0, 1, 2, 3, 6, 5, 7,
 9], oH 47 46 false (.mv (.t 3)) [9, 7, 5, 6, 3, 2, 1, 0, 8, 4, 10], oH 48 46 false (.bin .gtr (.t 47) (cI 0)) [4, 8, 0, 1, 2, 3, 6, 5, 7, 9, 10, 11], oH 49 46 false (.mv (.t 48)) [11, 9, 7, 5, 6, 3, 2, 1, 0, 8, 4, 10, 12], oH 50 49 true (.fa 0 (.t 4)) [12, 10, 4, 8, 0, 1, 2, 3, 6, 5, 7, 9, 11, 13], oH 51 49 true (.ld 1 false (.t 50)) [11, 9, 7, 5, 6, 3, 2, 1, 0, 8, 4, 10, 12, 13, 14],
 oH 52 49 true (.fa 6 (.t 1)) [12, 10, 4, 8, 0, 1, 2, 3, 6, 5, 7, 9, 11, 13], oH 53 49 true (.ld 1 false (.t 52)) [11, 9, 7, 5, 6, 3, 2, 1, 0, 8, 4, 10, 12, 13, 16], oH 54 49 true (.mv (.t 3)) [12, 10, 4, 8, 0, 1, 2, 3, 6, 5, 7, 9, 11, 13], oH 55 49 true (.bin .sub (.t 54) (cI 1)) [11, 9, 7, 5, 6, 3, 2, 1, 0, 8, 4, 10, 12, 13, 18], oH 56 49 true (.iaS 3 (.t 53) (.t 55)) [18, 16, 12, 10, 4, 8, 0, 1,
 2, 3, 6, 5, 7, 9, 11, 13, 19, 17], oH 57 49 true (.fa 0 (.t 56)) [17, 19, 11, 9, 7, 5, 6, 3, 2, 1, 0, 8, 4, 10, 12, 16, 18, 13, 20], oH 58 49 true (.ld 1 false (.t 57)) [20, 18, 16, 12, 10, 4, 8, 0, 1, 2, 3, 6, 5, 7, 9, 11, 19, 17, 13, 21], oH 59 49 true (.bin .leq (.t 51) (.t 58)) [21, 17, 19, 16, 18, 20, 14, 12, 10, 4, 8, 0, 1, 2, 3, 6, 5, 7, 9, 11, 13, 22, 15], oH 60 46 false (.pick (.t 49)
 (.t 59) (cB false)) [15, 22, 14, 20, 18, 16, 19, 17, 21, 12, 4, 8, 0, 1, 2, 3, 6, 5, 7, 9, 11, 10, 23, 13], oA 61 (.pick (.t 46) (cB true) (.t 60)) [13, 23, 11, 12, 21, 17, 19, 16, 18, 20, 14, 22, 15, 9, 7, 5, 6, 3, 2, 1, 0, 8, 4, 24, 10]]) (.cond (.t 61) (.seq (.ops false [oP 2 (.mv (cB false))]) .ret) .skip)))) c167_1)
def c167_3 : C := (.seq (.ops false [oP 32 (.bin .lss (.t 31) (.t 30))]) (.seq (.cond (.t 32) .skip (.exit 0)) c167_2))
def c167_4 : C := (.seq (.ops true [oP 63 (.fa 6 (.t 1)), oA 64 (.ld 1 false (.t 63)) [0], oA 65 (.iaS 3 (.t 64) (cI 0)) [0, 1], oA 66 (.fa 0 (.t 65)) [1, 0, 2], oA 67 (.ld 1 false (.t 66)) [2, 0, 1, 3], oA 68 (.bin .eql (.t 67) (cI 0)) [3, 1, 0, 2, 4], oA 69 (.mv (.t 68)) [4, 2, 0, 1, 3, 5], oH 70 69 true (.fa 6 (.t 1)) [5, 3, 1, 0, 2, 4, 6], oH 71 69 true (.ld 1 false (.t 70)) [4, 2, 0, 1, 3, 5, 6, 7],
 oH 72 69 true (.fa 6 (.t 1)) [5, 3, 1, 0, 2, 4, 6], oH 73 69 true (.ld 1 false (.t 72)) [4, 2, 0, 1, 3, 5, 6, 9], oH 74 69 true (.len (.t 73)) [9, 5, 3, 1, 0, 2, 4, 6, 10], oH 75 69 true (.bin .sub (.t 74) (cI 1)) [10, 4, 2, 0, 1, 3, 5, 9, 6, 11], oH 76 69 true (.iaS 3 (.t 71) (.t 75)) [11, 9, 10, 7, 5, 3, 1, 0, 2, 4, 6, 12, 8], oH 77 69 true (.fa 0 (.t 76)) [8, 12, 4, 2, 0, 1, 3, 5, 7, 10, 9, 11,
 6, 13], oH 78 69 true (.ld 1 false (.t 77)) [13, 11, 9, 10, 7, 5, 3, 1, 0, 2, 4, 12, 8, 6, 14], oH 79 69 true (.fa 3 (.t 1)) [5, 3, 1, 0, 2, 4, 6], oH 80 69 true (.ld 1 false (.t 79)) [4, 2, 0, 1, 3, 5, 6, 16], oH 81 69 true (.bin .eql (.t 78) (.t 80)) [16, 14, 8, 12, 4, 2, 0, 1, 3, 5, 7, 10, 9, 11, 13, 6, 17, 15], oA 82 (.pick (.t 69) (.t 81) (cB false)) [15, 17, 13, 11, 9, 10, 7, 12, 8, 14, 16,
 5, 3, 1, 0, 2, 4, 18, 6], oA 2 (.mv (.t 82)) [18, 17, 16, 15, 14, 13, 12, 11, 10, 9, 8, 7, 5, 4, 3, 2, 1, 0, 6, 19]]) .ret)
def c167_5 : C := (.seq (.seq (.ops false [oP 28 (.fa 6 (.t 1)), oP 29 (.ld 1 false (.t 28)), oP 30 (.len (.t 29)), oP 31 (.mv (cI 0))]) (.block 0 (.loop c167_3))) c167_4)
def c167 : C := (.seq (.ops false [oP 1 (.box 7 (.t 0)), oP 2 (.mv (cB false))]) (.seq (.seq (.ops false [oP 5 (.fa 1 (.t 1)), oP 6 (.ld 1 false (.t 5)), oP 7 (.fa 2 (.t 1)), oP 8 (.ld 1 false (.t 7)), oP 9 (.bin .eql (.t 6) (.t 8)), oM 10 9, oG 11 10 false (.fa 3 (.t 1)), oG 12 10 false (.ld 1 false (.t 11)), oD 13 10 false (.call 170 [(.t 12), (cI 1), (cI 1000000)]) [], oG 14 10 false (.not (.t 13)),
 oP 15 (.pick (.t 10) (cB true) (.t 14)), oM 16 15, oG 17 16 false (.fa 4 (.t 1)), oG 18 16 false (.ld 1 false (.t 17)), oD 19 16 false (.call 170 [(.t 18), (cI 0), (cI 1000)]) [], oG 20 16 false (.not (.t 19)), oP 21 (.pick (.t 16) (cB true) (.t 20)), oM 22 21, oG 23 22 false (.fa 5 (.t 1)), oG 24 22 false (.ld 1 false (.t 23)), oD 25 22 false (.call 170 [(.t 24), (cI 0),
 (cI 100000)]) [], oG 26 22 false (.not (.t 25)), oP 27 (.pick (.t 22) (cB true) (.t 26))]) (.cond (.t 27) (.seq (.ops false [oP 2 (.mv (cB false))]) .ret) .skip)) c167_5))
def r167 : List RV := [(.tmp 2)]
theorem c167_ok : ∃ code, Try.f167.body = some code ∧ compC Try.prog Try.f167.ntmps code = some (C.strip c167) := ⟨_, rfl, by kernel_rfl⟩
theorem r167_ok : compRes Try.prog Try.f167.results.toList = some r167 := by kernel_rfl
theorem f167_ok : fnOk Try.prog 167 = true := by kernel_rfl
def c169 : C := (.seq (.ops false [oP 1 (.box 3 (.t 0)), oP 2 (.mv (cB false))]) (.seq (.ops false [oP 3 (.fa 2 (.t 1)), oP 4 (.ld 1 false (.t 3)), oB 5 (.call 170 [(.t 4), (cI 0), (cI 100000000)]), oP 6 (.not (.t 5)), oM 2 6]) .ret))
def r169 : List RV := [(.tmp 2)]
theorem c169_ok : ∃ code, Try.f169.body = some code ∧ compC Try.prog Try.f169.ntmps code = some (C.strip c169) := ⟨_, rfl, by kernel_rfl⟩
theorem r169_ok : compRes Try.prog Try.f169.results.toList = some r169 := by kernel_rfl
theorem f169_ok : fnOk Try.prog 169 = true := by kernel_rfl
def c170 : C := (.seq (.ops false [oP 6 (.mv (cB false))]) (.seq (.ops false [oM 7 0, oM 8 1, oP 9 (.bin .geq (.t 7) (.t 8)), oM 10 9, oG 11 10 true (.mv (.t 0)), oG 12 10 true (.mv (.t 2)), oG 13 10 true (.bin .leq (.t 11) (.t 12)), oP 14 (.pick (.t 10) (.t 13) (cB false)), oM 6 14]) .ret))
def r170 : List RV := [(.tmp 6)]
theorem c170_ok : ∃ code, Try.f170.body = some code ∧ compC Try.prog Try.f170.ntmps code = some (C.strip c170) := ⟨_, rfl, by kernel_rfl⟩
theorem r170_ok : compRes Try.prog Try.f170.results.toList = some r170 := by kernel_rfl
theorem f170_ok : fnOk Try.prog 170 = true := by kernel_rfl
def c172 : C := (.seq (.ops false [oP 1 (.box 5 (.t 0)), oP 2 (.mv (cB false))]) (.seq (.ops false [oP 3 (.fa 2 (.t 1)), oP 4 (.ld 1 false (.t 3)), oB 5 (.call 170 [(.t 4), (cI 0), (cI 100000000)]), oP 6 (.not (.t 5)), oM 7 6, oG 8 7 false (.fa 3 (.t 1)), oG 9 7 false (.ld 1 false (.t 8)), oD 10 7 false (.call 170 [(.t 9), (cI 0), (cI 100000)]) [], oG 11 7 false (.not (.t 10)), oP 12 (.pick (.t 7)
 (cB true) (.t 11)), oM 13 12, oG 14 13 false (.fa 4 (.t 1)), oG 15 13 false (.ld 1 false (.t 14)), oD 16 13 false (.call 170 [(.t 15), (cI 0), (cI 100000000)]) [], oG 17 13 false (.not (.t 16)), oP 18 (.pick (.t 13) (cB true) (.t 17)), oM 2 18]) .ret))
def r172 : List RV := [(.tmp 2)]
theorem c172_ok : ∃ code, Try.f172.body = some code ∧ compC Try.prog Try.f172.ntmps code = some (C.strip c172) := ⟨_, rfl, by kernel_rfl⟩
theorem r172_ok : compRes Try.prog Try.f172.results.toList = some r172 := by kernel_rfl
theorem f172_ok : fnOk Try.prog 172 = true := by kernel_rfl
def placeI (c : Int) : Int := if 97 ≤ c ∧ c ≤ 122 then 1 else if 48 ≤ c ∧ c ≤ 57 then 2 else if c = 45 then 2 else 0
def byteI (s : ByteArray) (k : Nat) : Int := (s.data.getD k 0).toNat
def bytesI (s : ByteArray) : List Int := (List.range s.size).map (byteI s)
def nameB (s : ByteArray) : Bool := if s.size < 1 then false else if 12 < s.size then false else if placeI (byteI s 0) = 1 then (bytesI s).all (fun c => decide (placeI c ≠ 0)) else false
theorem bytesI_len (s : ByteArray) : (bytesI s).length = s.size := by simp [bytesI]
theorem bytesI_at (s : ByteArray) {j : Nat} (h : j < (bytesI s).length) : (bytesI s)[j] = byteI s j := by simp [bytesI]
set_option maxHeartbeats 4000000 in
theorem place_c (c : Int) (nn : Nm) : CallsA Try.prog 120 [.v (.int .u8 c)] Hp.none nn (Pu (di (placeI c)) Hp.none) := by
 obtain ⟨code, h1, h2⟩ := c120_ok
 refine callsA_of (T0_ok _) mixed (N := fun t => (0, t)) Try.func120 h1 h2 r120_ok [] false js_nil js_nil' (by simp [Try.f120]) ?_
 by_cases a1 : 97 ≤ c
 ·by_cases a2 : c ≤ 122
  ·simp (maxSteps:=500000) only [↓vp, vv, ↓reduceIte, simprocAttr, c120, r120, c120_1, c120_2, c120_3, c120_4, c120_5, c120_6, a1, a2, placeI, Pu, decide_true, decide_false]
  ·have a3 : ¬ c ≤ 57 := by omega
   have a4 : 48 ≤ c := by omega
   have a5 : (c == 45) = false := beq_false_of_ne (by omega)
   have a6 : ¬ c = 45 := by omega
   simp (maxSteps:=500000) only [↓vp, vv, ↓reduceIte, simprocAttr, c120, r120, c120_1, c120_2, c120_3, c120_4, c120_5, c120_6, a1, a2, a3, a4, a5, a6, placeI, Pu, decide_true, decide_false]
 ·by_cases a2 : 48 ≤ c
  ·by_cases a3 : c ≤ 57
   ·simp (maxSteps:=500000) only [↓vp, vv, ↓reduceIte, simprocAttr, c120, r120, c120_1, c120_2, c120_3, c120_4, c120_5, c120_6, a1, a2, a3, placeI, Pu, decide_true, decide_false]
   ·have a5 : (c == 45) = false := beq_false_of_ne (by omega)
    have a6 : ¬ c = 45 := by omega
    simp (maxSteps:=500000) only [↓vp, vv, ↓reduceIte, simprocAttr, c120, r120, c120_1, c120_2, c120_3, c120_4, c120_5, c120_6, a1, a2, a3, a5, a6, placeI, Pu, decide_true, decide_false]
  ·by_cases a5 : c = 45
   ·have a6 : (c == 45) = true := beq_iff_eq.2 a5
    simp (maxSteps:=500000) only [↓vp, vv, ↓reduceIte, simprocAttr, c120, r120, c120_1, c120_2, c120_3, c120_4, c120_5, c120_6, a1, a2, a5, a6, placeI, Pu, decide_true, decide_false]
   ·have a6 : (c == 45) = false := beq_false_of_ne a5
    simp (maxSteps:=500000) only [↓vp, vv, ↓reduceIte, simprocAttr, c120, r120, c120_1, c120_2, c120_3, c120_4, c120_5, c120_6, a1, a2, a5, a6, placeI, Pu, decide_true, decide_false]
def selPlace : List D → Option (Prop × D)
 | [.v (.int .u8 c)] => some (True, di (placeI c))
 | _ => Option.none
def TP : Tbl := tc 120 (rowPu selPlace) T0
theorem TP_ok : TblOk Try.prog TP := by
 refine tc_pu f120_ok (fun args pre d h hp nn => ?_) (T0_ok _)
 unfold selPlace at h
 split at h <;> cases h
 exact place_c _ nn
theorem byteI_eq (s : ByteArray) (k : Nat) : ((s.data.getD k 0).toNat : Int) = byteI s k := rfl
set_option maxHeartbeats 4000000 in
theorem lname_c (s : ByteArray) (nn : Nm) : CallsA Try.prog 67 [ds s] Hp.none nn (Pu (db (nameB s)) Hp.none) := by
 obtain ⟨code, h1, h2⟩ := c67_ok
 refine callsA_of TP_ok mixed (N := fun t => (0, t)) Try.func67 h1 h2 r67_ok [] false js_nil js_nil' (by simp [Try.f67]) ?_
 by_cases a1 : (s.size : Int) < 1
 ·have b1 : s.size < 1 := by omega
  simp (maxSteps:=500000) only [↓vp, vv, ↓reduceIte, simprocAttr, c67, r67, c67_1, c67_2, c67_3, c67_4, c67_5, a1, b1, nameB, Pu, decide_true, decide_false]
 ·by_cases a2 : (12 : Int) < s.size
  ·have b1 : ¬ s.size < 1 := by omega
   have b2 : 12 < s.size := by omega
   simp (maxSteps:=500000) only [↓vp, vv, ↓reduceIte, simprocAttr, c67, r67, c67_1, c67_2, c67_3, c67_4, c67_5, a1, a2, b1, b2, nameB, Pu, decide_true, decide_false]
  ·have b1 : ¬ s.size < 1 := by omega
   have b2 : ¬ 12 < s.size := by omega
   have b3 : (0 : Int) < s.size := by omega
   by_cases a3 : placeI (byteI s 0) = 1
   ·have e0 : nameB s = (bytesI s).all (fun c => decide (placeI c ≠ 0)) := by unfold nameB; rw [if_neg b1, if_neg b2, if_pos a3]
    rw [e0]
    generalize hb : (bytesI s).all (fun c => decide (placeI c ≠ 0)) = b
    simp (maxSteps:=500000) only [↓vp, vv, ↓reduceIte, simprocAttr, c67, c67_5, TP, selPlace, a1, a2, a3, b3, byteI_eq, bne_self_eq_false, decide_true, decide_false]
    refine rng_loop s.size (fun j => ⟨fr [(0, ds s), (19, di s.size), (20, di j)], Hp.none⟩) (fun j => ((bytesI s).drop j).all (fun c => decide (placeI c ≠ 0)) = b) (weak0 (by simp only [↓vp, vv, ↓reduceIte, simprocAttr, coverS]) (by simp only [↓vp, vv, ↓reduceIte, simprocAttr, refsF])) hb (fun j hj he => ?_) (fun he => ?_)
    ·have hj' : (j : Int) < s.size := by omega
     have hn := idx_nn j
     have w1 := idx_next (j := j) (by omega)
     obtain ⟨hf, ht⟩ := drop_all (by rw [bytesI_len]; exact hj) he
     rw [bytesI_at] at hf ht
     by_cases a4 : placeI (byteI s j) = 0
     ·have e5 : b = false := hf (by simp [a4])
      subst e5
      simp (maxSteps:=500000) only [↓vp, vv, ↓reduceIte, simprocAttr, c67, r67, c67_1, c67_2, c67_3, c67_4, c67_5, TP, selPlace, hj', hn, Int.toNat_natCast, byteI_eq, a4, w1, Pu, decide_true, decide_false]
     ·have a5 : (placeI (byteI s j) == 0) = false := beq_false_of_ne a4
      simp (maxSteps:=500000) only [↓vp, vv, ↓reduceIte, simprocAttr, c67, r67, c67_1, c67_2, c67_3, c67_4, c67_5, TP, selPlace, hj', hn, Int.toNat_natCast, byteI_eq, a5, w1, decide_true, decide_false]
      exact rng_next hj (weak0 (by simp only [↓vp, vv, ↓reduceIte, simprocAttr, coverS, w1]) (by simp only [↓vp, vv, ↓reduceIte, simprocAttr, refsF])) (ht (by simp [a4]))
    ·have e5 : b = true := drop_all_end (by rw [bytesI_len]; exact he)
     subst e5
     simp (maxSteps:=500000) only [↓vp, vv, ↓reduceIte, simprocAttr, c67, r67, c67_1, c67_2, c67_3, c67_4, c67_5, TP, selPlace, Int.lt_irrefl, Pu, decide_true, decide_false]
   ·have a5 : (placeI (byteI s 0) != 1) = true := by simp [a3]
    simp (maxSteps:=500000) only [↓vp, vv, ↓reduceIte, simprocAttr, c67, r67, c67_1, c67_2, c67_3, c67_4, c67_5, TP, selPlace, a1, a2, a3, a5, b1, b2, b3, byteI_eq, nameB, Pu, decide_true, decide_false]
end Go.Proofs.Ytadjhfjiimgddaa
