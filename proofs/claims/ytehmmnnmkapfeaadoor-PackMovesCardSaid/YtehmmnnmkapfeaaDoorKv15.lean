/- PackMoves: CodePL Pl2 CodeFO FlE CodeRF. -/
import Derived.Test.YtehmmnnmkapfeaaDoorKv3
import Derived.Test.YtehmmnnmkapfeaaDoorProg
import Derived.Test.YtehmmnnmkapfeaaDoorKv14
import Derived.Test.YtehmmnnmkapfeaaDoorKv8
import Derived.Test.YtehmmnnmkapfeaaDoorKv13
set_option linter.unusedSimpArgs false
set_option linter.unusedVariables false
set_option maxRecDepth 100000
/- Compiled code of some functions (printed by a program), each checked by the kernel. -/
namespace Go.Proofs.YtehmmnnmkapfeaaDoor
open Go
def c48_1 : C := (.seq (.block 1 (.ops true [oP 38 (.fa 2 (.t 5)), oA 39 (.ld 1 false (.t 38)) [0], oM 40 0, oE 41 (.call 14 [(.t 40), (cI 2)]) [2], oA 42 (.bin .eql (.t 41) (cI 0)) [2, 3], oA 43 (.bsl 1 1 [(.v (.bool false))] [(0, (.t 42))]) [3, 2, 4], oA 44 (.app 1 1 (.t 39) (.t 43)) [4, 2, 0, 3, 5, 1], oA 45 (.fa 2 (.t 5)) [6, 5, 4, 3, 2, 1, 0], oT (.st 1 (.t 45) (.t 44)) [5, 4, 3, 2, 1, 0, 6, 7]]))
 (.ops false [oM 36 6, oP 37 (.bin .add (.t 36) (cI 1)), oM 6 37]))
def c48_2 : C := (.seq (.seq (.ops false [oM 31 6, oP 32 (.fa 3 (.t 3)), oP 33 (.ld 1 false (.t 32)), oP 34 (.len (.t 33)), oP 35 (.bin .lss (.t 31) (.t 34))]) (.cond (.t 35) .skip (.exit 0))) c48_1)
def c48_3 : C := (.ops false [oP 135 (.bin .add (.t 92) (cI 1)), oM 92 135])
def c48_4 : C := (.seq (.block 7 (.seq (.ops false [oM 94 92, oP 95 (.iaS 3 (.t 90) (.t 92)), oP 96 (.ld 3 true (.t 95)), oP 15 (.new [(.v (.string ({ data := #[] }))), (.v (.int .i64 0)), (.v (.int .i64 0))]), oM 14 94, oS (.st 3 (.t 15) (.t 96))]) (.seq (.ops false [oP 97 (.fa 1 (.t 15)), oP 98 (.ld 1 false (.t 97)), oM 99 10, oP 100 (.bin .eql (.t 98) (.t 99)),
 oM 101 100, oG 102 101 true (.mv (.t 14)), oG 103 101 true (.mv (.t 9)), oG 104 101 true (.bin .neq (.t 102) (.t 103)), oP 105 (.pick (.t 101) (.t 104) (cB false)), oM 106 105, oG 107 106 true (.fa 1 (.t 5)), oG 108 106 true (.ld 1 false (.t 107)), oG 109 106 true (.mv (.t 14)), oG 110 106 true (.iaS 1 (.t 108) (.t 109)), oG 111 106 true (.ld 1 false (.t 110)),
 oG 112 106 true (.bin .leq (.t 111) (cI 0)), oP 113 (.pick (.t 106) (.t 112) (cB false)), oM 114 113, oG 115 114 true (.fa 1 (.t 5)), oG 116 114 true (.ld 1 false (.t 115)), oG 117 114 true (.mv (.t 14)), oG 118 114 true (.iaS 1 (.t 116) (.t 117)), oG 119 114 true (.ld 1 false (.t 118)), oG 120 114 true (.mv (.t 11)), oG 121 114 true (.bin .sub (.t 119) (.t 120)),
 oG 122 114 true (.bin .geq (.t 121) (cI (-1000))), oP 123 (.pick (.t 114) (.t 122) (cB false)), oM 124 123, oG 125 124 true (.mv (.t 12)), oG 126 124 true (.len (.t 125)), oG 127 124 true (.bin .gtr (.t 126) (cI 0)), oP 128 (.pick (.t 124) (.t 127) (cB false)), oM 129 128, oG 130 129 true (.mv (.t 0)), oD 131 129 true (.call 14 [(.t 130), (cI 2)]) [],
 oG 132 129 true (.bin .eql (.t 131) (cI 0)), oP 133 (.pick (.t 129) (.t 132) (cB false))]) (.cond (.t 133) (.ops false [oM 134 14, oM 13 134]) .skip)))) c48_3)
def c48_5 : C := (.seq (.ops false [oP 93 (.bin .lss (.t 92) (.t 91))]) (.seq (.cond (.t 93) .skip (.exit 6)) c48_4))
def c48_6 : C := (.ops false [oP 185 (.bin .add (.t 141) (cI 1)), oM 141 185])
def c48_7 : C := (.seq (.block 9 (.seq (.ops false [oM 143 141, oP 144 (.iaS 7 (.t 139) (.t 141)), oP 145 (.ld 7 true (.t 144)), oP 18 (.new [(.v (.string ({ data := #[] }))), (.v (.int .i64 0)), (.v (.int .i64 0)), (.v (.int .i64 0)), (.v (.int .i64 0)), (.v (.int .i64 0)), .mt]), oM 17 143, oS (.st 7 (.t 18) (.t 145))]) (.seq (.ops true [oP 146 (.fa 1 (.t 18)), oA 147 (.ld 1 false (.t 146))
 [0], oM 148 10, oA 149 (.bin .eql (.t 147) (.t 148)) [0, 2, 1], oA 150 (.mv (.t 149)) [1, 2, 0, 3], oH 151 150 false (.fa 2 (.t 18)) [3, 0, 2, 1, 4], oH 152 150 false (.ld 1 false (.t 151)) [1, 2, 0, 3, 4, 5], oH 153 150 false (.mv (.t 10)) [3, 0, 2, 1, 4], oH 154 150 false (.bin .eql (.t 152) (.t 153)) [5, 3, 0, 2, 1, 4, 7, 6], oA 155 (.pick (.t 150) (cB true) (.t 154)) [6, 7, 5, 3, 0,
 2, 1, 8, 4], oA 156 (.mv (.t 155)) [8, 1, 2, 0, 3, 5, 7, 6, 4, 9], oH 157 156 true (.fa 1 (.t 18)) [9, 4, 6, 7, 5, 3, 0, 2, 1, 8, 10], oH 158 156 true (.ld 1 false (.t 157)) [8, 1, 2, 0, 3, 5, 7, 6, 4, 9, 10, 11], oH 159 156 true (.fa 2 (.t 18)) [9, 4, 6, 7, 5, 3, 0, 2, 1, 8, 10], oH 160 156 true (.ld 1 false (.t 159)) [8, 1, 2, 0, 3, 5, 7, 6, 4, 9, 10, 13], oH 161 156 true (.bin .add (.t 158)
 (.t 160)) [13, 11, 9, 4, 6, 7, 5, 3, 0, 2, 1, 8, 10, 14, 12], oH 162 156 true (.mv (.t 10)) [9, 4, 6, 7, 5, 3, 0, 2, 1, 8, 10], oH 163 156 true (.bin .sub (.t 161) (.t 162)) [12, 14, 8, 1, 2, 0, 3, 5, 7, 6, 4, 9, 11, 13, 10, 16, 15], oH 164 156 true (.mv (.t 10)) [9, 4, 6, 7, 5, 3, 0, 2, 1, 8, 10], oH 165 156 true (.bin .gtr (.t 163) (.t 164)) [15, 16, 13, 11, 9, 4, 6, 7, 5, 3, 0, 2, 1, 8, 14, 12,
 10, 18, 17], oA 166 (.pick (.t 156) (.t 165) (cB false)) [17, 18, 12, 14, 11, 13, 16, 15, 9, 4, 6, 7, 5, 3, 0, 2, 1, 8, 19, 10], oA 167 (.mv (.t 166)) [19, 8, 1, 2, 0, 3, 5, 7, 6, 4, 9, 15, 16, 13, 11, 14, 12, 18, 17, 10, 20], oH 168 167 true (.fa 0 (.t 5)) [20, 10, 17, 18, 12, 14, 11, 13, 16, 15, 9, 4, 6, 7, 5, 3, 0, 2, 1, 8, 19, 21], oH 169 167 true (.ld 1 false (.t 168)) [19, 8, 1, 2, 0, 3, 5,
 7, 6, 4, 9, 15, 16, 13, 11, 14, 12, 18, 17, 10, 20, 21, 22], oH 170 167 true (.mv (.t 17)) [20, 10, 17, 18, 12, 14, 11, 13, 16, 15, 9, 4, 6, 7, 5, 3, 0, 2, 1, 8, 19, 21], oH 171 167 true (.iaS 1 (.t 169) (.t 170)) [22, 20, 10, 17, 18, 12, 14, 11, 13, 16, 15, 9, 4, 6, 7, 5, 3, 0, 2, 1, 8, 19, 21, 24, 23], oH 172 167 true (.ld 1 false (.t 171)) [23, 24, 19, 8, 1, 2, 0, 3, 5, 7, 6, 4, 9, 15, 16, 13,
 11, 14, 12, 18, 17, 10, 20, 22, 21, 25], oD 173 167 true (.call 80 [(.t 172)]) [25, 22, 20, 10, 17, 18, 12, 14, 11, 13, 16, 15, 9, 4, 6, 7, 5, 3, 0, 2, 1, 8, 19, 24, 23, 21, 26], oH 174 167 true (.mv (.t 11)) [20, 10, 17, 18, 12, 14, 11, 13, 16, 15, 9, 4, 6, 7, 5, 3, 0, 2, 1, 8, 19, 21], oH 175 167 true (.bin .add (.t 173) (.t 174)) [26, 23, 24, 19, 8, 1, 2, 0, 3, 5, 7, 6, 4, 9, 15, 16, 13, 11,
 14, 12, 18, 17, 10, 20, 22, 25, 21, 28, 27], oH 176 167 true (.fa 3 (.t 18)) [20, 10, 17, 18, 12, 14, 11, 13, 16, 15, 9, 4, 6, 7, 5, 3, 0, 2, 1, 8, 19, 21], oH 177 167 true (.ld 1 false (.t 176)) [19, 8, 1, 2, 0, 3, 5, 7, 6, 4, 9, 15, 16, 13, 11, 14, 12, 18, 17, 10, 20, 21, 30], oH 178 167 true (.mnx false (cI 1000) (.t 177)) [30, 20, 10, 17, 18, 12, 14, 11, 13, 16, 15, 9, 4, 6, 7, 5, 3, 0, 2, 1,
 8, 19, 21, 31], oH 179 167 true (.bin .leq (.t 175) (.t 178)) [31, 30, 27, 28, 25, 22, 20, 10, 17, 18, 12, 14, 11, 13, 16, 15, 9, 4, 6, 7, 5, 3, 0, 2, 1, 8, 19, 24, 23, 26, 21, 32, 29], oA 180 (.pick (.t 167) (.t 179) (cB false)) [29, 32, 26, 23, 24, 22, 25, 28, 27, 30, 31, 20, 10, 17, 18, 12, 14, 11, 13, 16, 15, 9, 4, 6, 7, 5, 3, 0, 2, 1, 8, 19, 33, 21]]) (.cond (.t 180)
 (.ops false [oM 181 16, oM 182 17, oP 183 (.bsl 1 1 [(.v (.int .i64 0))] [(0, (.t 182))]), oP 184 (.app 1 8 (.t 181) (.t 183)), oM 16 184]) .skip)))) c48_6)
def c48_8 : C := (.seq (.ops false [oP 142 (.bin .lss (.t 141) (.t 140))]) (.seq (.cond (.t 142) .skip (.exit 8)) c48_7))
def c48_9 : C := (.seq (.ops false [oM 189 16, oM 190 0, oM 191 16, oP 192 (.len (.t 191)), oB 193 (.call 14 [(.t 190), (.t 192)]), oP 194 (.iaS 1 (.t 189) (.t 193)), oP 195 (.ld 1 false (.t 194)), oM 19 195]) (.seq (.ops false [oM 196 12, oM 197 19, oP 198 (.bsl 1 1 [(.v (.int .i64 0))] [(0, (.t 197))]), oP 199 (.app 1 8 (.t 196) (.t 198)),
 oM 12 199]) (.ops true [oP 200 (.fa 1 (.t 3)), oA 201 (.ld 1 false (.t 200)) [0], oM 202 19, oA 203 (.iaS 7 (.t 201) (.t 202)) [0, 2, 1], oA 204 (.fa 1 (.t 203)) [1, 2, 0, 3], oA 205 (.ld 1 false (.t 204)) [3, 0, 2, 1, 4], oP 206 (.fa 1 (.t 3)), oA 207 (.ld 1 false (.t 206)) [6], oM 208 19, oA 209 (.iaS 7 (.t 207) (.t 208)) [6, 8, 7], oA 210 (.fa 2 (.t 209)) [7, 8,
 6, 9], oA 211 (.ld 1 false (.t 210)) [9, 6, 8, 7, 10], oA 212 (.bin .add (.t 205) (.t 211)) [10, 7, 8, 6, 9, 4, 1, 2, 0, 3, 11, 5], oM 213 10, oA 214 (.bin .sub (.t 212) (.t 213)) [5, 11, 3, 0, 2, 1, 4, 9, 6, 8, 7, 10, 13, 12], oA 10 (.mv (.t 214)) [13, 12, 11, 10, 9, 8, 7, 6, 5, 4, 3, 2, 1, 0, 14]])))
def c48_10 : C := (.seq (.seq (.ops false [oM 186 16, oP 187 (.len (.t 186)), oP 188 (.bin .eql (.t 187) (cI 0))]) (.cond (.t 188) (.exit 4) .skip)) c48_9)
def c48_11 : C := (.seq (.ops false [oP 16 (.mv (.c .mt))]) (.seq (.seq (.ops false [oP 138 (.fa 1 (.t 3)), oP 139 (.ld 1 false (.t 138)), oP 140 (.len (.t 139)), oP 141 (.mv (cI 0))]) (.block 8 (.loop c48_8))) c48_10))
def c48_12 : C := (.seq (.seq (.ops false [oM 136 13, oP 137 (.bin .geq (.t 136) (cI 0))]) (.cond (.t 137) (.exit 4) .skip)) c48_11)
def c48_13 : C := (.block 5 (.seq (.seq (.ops false [oP 89 (.fa 2 (.t 3)), oP 90 (.ld 1 false (.t 89)), oP 91 (.len (.t 90)), oP 92 (.mv (cI 0))]) (.block 6 (.loop c48_5))) c48_12))
def c48_14 : C := (.seq (.seq (.ops false [oM 87 13, oP 88 (.bin .lss (.t 87) (cI 0))]) (.cond (.t 88) .skip (.exit 4))) c48_13)
def c48_15 : C := (.ops false [oP 274 (.bin .add (.t 241) (cI 1)), oM 241 274])
def c48_16 : C := (.seq (.block 11 (.seq (.ops false [oP 243 (.iaS 1 (.t 239) (.t 241)), oP 244 (.ld 1 false (.t 243)), oM 21 244]) (.seq (.ops true [oP 245 (.fa 1 (.t 3)), oA 246 (.ld 1 false (.t 245)) [0], oM 247 21, oA 248 (.iaS 7 (.t 246) (.t 247)) [0, 2, 1], oA 249 (.fa 1 (.t 248)) [1, 2, 0, 3], oA 250 (.ld 1 false (.t 249)) [3, 0, 2, 1, 4], oP 251 (.fa 1 (.t 3)),
 oA 252 (.ld 1 false (.t 251)) [6], oM 253 21, oA 254 (.iaS 7 (.t 252) (.t 253)) [6, 8, 7], oA 255 (.fa 2 (.t 254)) [7, 8, 6, 9], oA 256 (.ld 1 false (.t 255)) [9, 6, 8, 7, 10], oA 257 (.bin .lss (.t 250) (.t 256)) [10, 7, 8, 6, 9, 4, 1, 2, 0, 3, 11, 5]]) (.cond (.t 257) (.ops false [oP 258 (.fa 0 (.t 5)), oP 259 (.ld 1 false (.t 258)), oM 260 21, oP 261 (.iaS 1 (.t 259)
 (.t 260)), oP 262 (.ld 1 false (.t 261)), oM 263 11, oP 264 (.bin .add (.t 262) (.t 263)), oP 265 (.iaS 1 (.t 259) (.t 260)), oS (.st 1 (.t 265) (.t 264))]) (.ops false [oP 266 (.fa 0 (.t 5)), oP 267 (.ld 1 false (.t 266)), oM 268 21, oP 269 (.iaS 1 (.t 267) (.t 268)), oP 270 (.ld 1 false (.t 269)), oM 271 11, oP 272 (.bin .sub (.t 270) (.t 271)),
 oP 273 (.iaS 1 (.t 267) (.t 268)), oS (.st 1 (.t 273) (.t 272))]))))) c48_15)
def c48_17 : C := (.seq (.ops false [oP 242 (.bin .lss (.t 241) (.t 240))]) (.seq (.cond (.t 242) .skip (.exit 10)) c48_16))
def c48_18 : C := (.seq (.ops true [oP 217 (.fa 1 (.t 5)), oA 218 (.ld 1 false (.t 217)) [0], oM 219 9, oP 220 (.fa 1 (.t 5)), oA 221 (.ld 1 false (.t 220)) [3], oM 222 13, oP 223 (.fa 1 (.t 5)), oA 224 (.ld 1 false (.t 223)) [6], oM 225 9, oA 226 (.iaS 1 (.t 224) (.t 225)) [6, 8, 7], oA 227 (.ld 1 false (.t 226)) [7, 8, 6, 9], oM 228 11, oA 229 (.bin .add (.t 227)
 (.t 228)) [9, 6, 8, 7, 11, 10], oP 230 (.fa 1 (.t 5)), oA 231 (.ld 1 false (.t 230)) [13], oM 232 13, oA 233 (.iaS 1 (.t 231) (.t 232)) [13, 15, 14], oA 234 (.ld 1 false (.t 233)) [14, 15, 13, 16], oM 235 11, oA 236 (.bin .sub (.t 234) (.t 235)) [16, 13, 15, 14, 18, 17], oA 237 (.iaS 1 (.t 218) (.t 219)) [16, 13, 15, 14, 17, 12, 11, 10, 9, 8, 7, 6, 0, 2, 1],
 oT (.st 1 (.t 237) (.t 229)) [14, 15, 13, 16, 17, 11, 10, 9, 8, 7, 6, 2, 1, 0, 12, 20], oA 238 (.iaS 1 (.t 221) (.t 222)) [21, 20, 19, 18, 17, 16, 15, 14, 13, 12, 11, 10, 9, 8, 7, 6, 3, 2, 1, 0, 5, 4], oT (.st 1 (.t 238) (.t 236)) [20, 18, 17, 16, 15, 14, 13, 12, 11, 10, 9, 8, 7, 6, 5, 4, 3, 2, 1, 0, 21, 19, 22]]) (.seq (.ops false [oM 239 12, oP 240 (.len (.t 239)),
 oP 241 (.mv (cI 0))]) (.block 10 (.loop c48_17))))
def c48_19 : C := (.seq (.seq (.ops false [oM 215 13, oP 216 (.bin .lss (.t 215) (cI 0))]) (.cond (.t 216) (.exit 3) .skip)) c48_18)
def c48_20 : C := (.seq (.ops false [oP 12 (.mv (.c .mt))]) (.seq (.ops false [oP 13 (.mv (cI (-1)))]) (.seq (.block 4 (.loop c48_14)) c48_19)))
def c48_21 : C := (.ops false [oM 53 8, oP 54 (.bin .sub (.t 53) (cI 1)), oM 8 54])
def c48_22 : C := (.seq (.block 3 (.seq (.ops false [oM 55 0, oP 56 (.fa 2 (.t 3)), oP 57 (.ld 1 false (.t 56)), oP 58 (.len (.t 57)), oB 59 (.call 14 [(.t 55), (.t 58)]), oM 9 59]) (.seq (.ops true [oP 60 (.fa 2 (.t 3)), oA 61 (.ld 1 false (.t 60)) [0], oM 62 9, oA 63 (.iaS 3 (.t 61) (.t 62)) [0, 2, 1], oA 64 (.fa 1 (.t 63)) [1, 2, 0, 3], oA 65 (.ld 1 false (.t 64)) [3, 0, 2, 1,
 4], oM 66 0, oM 67 0, oP 68 (.bsl 1 4 [(.v (.int .i64 0))] [(0, (cI 1)), (1, (cI 5)), (2, (cI 30)), (3, (cI 300))]), oE 69 (.call 33 [(.t 67), (.t 68)]) [8, 7], oE 70 (.call 32 [(.t 66), (cI 1), (.t 69)]) [7, 8, 9, 6], oA 10 (.mv (.t 65)) [6, 9, 8, 7, 4, 3, 2, 1, 0, 10, 5], oA 11 (.mv (.t 70)) [9, 8, 7, 6, 5, 4, 3, 2, 1, 0, 11, 10]])
 (.seq (.seq (.ops false [oP 71 (.fa 1 (.t 5)), oP 72 (.ld 1 false (.t 71)), oM 73 9, oP 74 (.iaS 1 (.t 72) (.t 73)), oP 75 (.ld 1 false (.t 74)), oP 76 (.bin .lss (.t 75) (cI 0)), oM 77 76, oG 78 77 false (.fa 1 (.t 5)), oG 79 77 false (.ld 1 false (.t 78)), oG 80 77 false (.mv (.t 9)), oG 81 77 false (.iaS 1 (.t 79) (.t 80)), oG 82 77 false (.ld 1 false (.t 81)),
 oG 83 77 false (.mv (.t 11)), oG 84 77 false (.bin .add (.t 82) (.t 83)), oG 85 77 false (.bin .gtr (.t 84) (cI 1000)), oP 86 (.pick (.t 77) (cB true) (.t 85))]) (.cond (.t 86) (.exit 3) .skip)) c48_20)))) c48_21)
def c48_23 : C := (.seq (.seq (.ops false [oM 51 8, oP 52 (.bin .gtr (.t 51) (cI 0))]) (.cond (.t 52) .skip (.exit 2))) c48_22)
def c48_24 : C := (.seq (.ops false [oP 278 (.ld 3 true (.t 5)), oS (.st 3 (.t 4) (.t 278))]) .ret)
def c48_25 : C := (.seq (.seq (.ops false [oM 275 7]) (.cond (.t 275) (.seq (.ops false [oP 276 (.ld 3 true (.t 5)), oP 277 (.call 81 [(.t 276)]), oS (.st 3 (.t 4) (.t 277))]) .ret) .skip)) c48_24)
def c48_26 : C := (.seq (.ops false [oM 46 0, oB 47 (.call 14 [(.t 46), (cI 3)]), oP 48 (.bin .eql (.t 47) (cI 0)), oM 7 48]) (.seq (.seq (.ops false [oM 49 0, oB 50 (.call 14 [(.t 49), (cI 5)]), oM 8 50]) (.block 2 (.loop c48_23))) c48_25))
def c48 : C := (.seq (.ops false [oP 3 (.box 6 (.t 1)), oP 4 (.new [.mt, .mt, .mt])]) (.seq (.ops true [oP 22 (.fa 1 (.t 3)), oA 23 (.ld 1 false (.t 22)) [0], oA 24 (.len (.t 23)) [0, 1], oA 25 (.mks 1 8 [(.v (.int .i64 0))] (.t 24)) [1, 0, 2], oP 26 (.fa 2 (.t 3)), oA 27 (.ld 1 false (.t 26)) [4], oA 28 (.len (.t 27)) [4, 5], oA 29 (.mks 1 8 [(.v (.int .i64 0))] (.t 28)) [5, 4, 6], oA 30 (.bld [.mt, .mt, .mt]
 [(0, (1, (.t 25))), (1, (1, (.t 29)))]) [6, 4, 5, 2, 0, 1, 7, 3], oP 5 (.new [.mt, .mt, .mt]), oT (.st 3 (.t 5) (.t 30)) [7, 6, 5, 4, 3, 2, 1, 0, 8, 9]]) (.seq (.seq (.ops false [oP 6 (.mv (cI 0))]) (.block 0 (.loop c48_2))) c48_26)))
def r48 : List RV := [(.cell 4 3 true)]
theorem c48_ok : ∃ code, Tryd.f48.body = some code ∧ compC Tryd.prog Tryd.f48.ntmps code = some (C.strip c48) := ⟨_, rfl, by kernel_rfl⟩
theorem r48_ok : compRes Tryd.prog Tryd.f48.results.toList = some r48 := by kernel_rfl
theorem f48_ok : fnOk Tryd.prog 48 = true := by kernel_rfl
def c80 : C := (.seq (.ops false [oP 2 (.mv (cI 0))]) (.seq (.ops false [oM 3 0, oM 4 0, oP 5 (.neg (.t 4)), oP 6 (.mnx true (.t 3) (.t 5)), oM 2 6]) .ret))
def r80 : List RV := [(.tmp 2)]
theorem c80_ok : ∃ code, Tryd.f80.body = some code ∧ compC Tryd.prog Tryd.f80.ntmps code = some (C.strip c80) := ⟨_, rfl, by kernel_rfl⟩
theorem r80_ok : compRes Tryd.prog Tryd.f80.results.toList = some r80 := by kernel_rfl
theorem f80_ok : fnOk Tryd.prog 80 = true := by kernel_rfl
def c81_1 : C := (.seq (.block 1 (.seq (.ops false [oM 16 14, oM 4 16]) (.ops true [oP 17 (.fa 0 (.t 3)), oA 18 (.ld 1 false (.t 17)) [0], oP 19 (.fa 0 (.t 1)), oA 20 (.ld 1 false (.t 19)) [2], oM 21 4, oA 22 (.iaS 1 (.t 20) (.t 21)) [2, 4, 3], oA 23 (.ld 1 false (.t 22)) [3, 4, 2, 5], oA 24 (.neg (.t 23)) [5, 2, 4, 3, 6], oA 25 (.bsl 1 1 [(.v (.int .i64 0))] [(0, (.t 24))]) [6, 3,
 4, 2, 5, 7], oA 26 (.app 1 8 (.t 18) (.t 25)) [7, 5, 2, 4, 3, 6, 0, 8, 1], oA 27 (.fa 0 (.t 3)) [9, 8, 7, 6, 5, 4, 3, 2, 1, 0], oT (.st 1 (.t 27) (.t 26)) [8, 7, 6, 5, 4, 3, 2, 1, 0, 9, 10]]))) (.ops false [oP 28 (.bin .add (.t 14) (cI 1)), oM 14 28]))
def c81_2 : C := (.seq (.ops false [oP 15 (.bin .lss (.t 14) (.t 13))]) (.seq (.cond (.t 15) .skip (.exit 0)) c81_1))
def c81_3 : C := (.seq (.block 3 (.seq (.ops false [oM 34 32, oM 5 34]) (.ops true [oP 35 (.fa 1 (.t 3)), oA 36 (.ld 1 false (.t 35)) [0], oP 37 (.fa 1 (.t 1)), oA 38 (.ld 1 false (.t 37)) [2], oM 39 5, oA 40 (.iaS 1 (.t 38) (.t 39)) [2, 4, 3], oA 41 (.ld 1 false (.t 40)) [3, 4, 2, 5], oA 42 (.neg (.t 41)) [5, 2, 4, 3, 6], oA 43 (.bsl 1 1 [(.v (.int .i64 0))] [(0, (.t 42))]) [6, 3,
 4, 2, 5, 7], oA 44 (.app 1 8 (.t 36) (.t 43)) [7, 5, 2, 4, 3, 6, 0, 8, 1], oA 45 (.fa 1 (.t 3)) [9, 8, 7, 6, 5, 4, 3, 2, 1, 0], oT (.st 1 (.t 45) (.t 44)) [8, 7, 6, 5, 4, 3, 2, 1, 0, 9, 10]]))) (.ops false [oP 46 (.bin .add (.t 32) (cI 1)), oM 32 46]))
def c81_4 : C := (.seq (.ops false [oP 33 (.bin .lss (.t 32) (.t 31))]) (.seq (.cond (.t 33) .skip (.exit 2)) c81_3))
def c81_5 : C := (.seq (.ops false [oP 47 (.ld 3 true (.t 3)), oS (.st 3 (.t 2) (.t 47))]) .ret)
def c81_6 : C := (.seq (.seq (.ops false [oP 29 (.fa 1 (.t 1)), oP 30 (.ld 1 false (.t 29)), oP 31 (.len (.t 30)), oP 32 (.mv (cI 0))]) (.block 2 (.loop c81_4))) c81_5)
def c81 : C := (.seq (.ops false [oP 1 (.box 3 (.t 0)), oP 2 (.new [.mt, .mt, .mt])]) (.seq (.ops false [oP 6 (.bsl 1 0 [(.v (.bool false))] []), oP 7 (.fa 2 (.t 1)), oP 8 (.ld 1 false (.t 7)), oP 9 (.app 1 1 (.t 6) (.t 8)), oP 10 (.bld [.mt, .mt, .mt] [(2, (1, (.t 9)))]), oP 3 (.new [.mt, .mt, .mt]), oS (.st 3 (.t 3) (.t 10))]) (.seq (.seq (.ops false [oP 11 (.fa 0 (.t 1)), oP 12 (.ld 1 false (.t 11)),
 oP 13 (.len (.t 12)), oP 14 (.mv (cI 0))]) (.block 0 (.loop c81_2))) c81_6)))
def r81 : List RV := [(.cell 2 3 true)]
theorem c81_ok : ∃ code, Tryd.f81.body = some code ∧ compC Tryd.prog Tryd.f81.ntmps code = some (C.strip c81) := ⟨_, rfl, by kernel_rfl⟩
theorem r81_ok : compRes Tryd.prog Tryd.f81.results.toList = some r81 := by kernel_rfl
theorem f81_ok : fnOk Tryd.prog 81 = true := by kernel_rfl
set_option maxHeartbeats 1000000 in
theorem kabs_c (x : Int) (h : -1000000 ≤ x ∧ x ≤ 1000000) (nn : Nm) : CallsA Tryd.prog 80 [di x] Hp.none nn (Pu (di (absI x)) Hp.none) := by
 obtain ⟨code, h1, h2⟩ := c80_ok
 refine callsA_of (T0_ok _) mixed (N := fun t => (0, t)) Tryd.func80 h1 h2 r80_ok [] false js_nil js_nil' (by simp [Tryd.f80]) ?_
 have w1 : IntKind.i64.wrap (0 - x) = -x := by rw [wrap_i (by omega)]; omega
 have e : (if x < -x then -x else x) = absI x := rfl
 simp (maxSteps:=500000) only [↓vp, vv, ↓reduceIte, simprocAttr, c80, r80, w1, e, Pu]
def NegS (p : Pln) (r q : List Int) (g : Nat) : Hp := (((((Hp.none.put (0, 1002) ⟨q.length, 1, q.map iRow⟩).put (0, 1001) ⟨r.length, 1, r.map iRow⟩).put (0, 6) ⟨1, 1, p.pumps.map bRow⟩).put (0, 3) ⟨0, 3, [[.own (0, 1001) r.length 0 r.length, .own (0, 1002) q.length 0 q.length, .own (0, 6) 1 0 p.pumps.length]]⟩).put (0, 2) ⟨0, 3, [[.mt, .mt, .mt]]⟩).put (0, 1) ⟨0, 3, [plnD p]⟩
def SmI (R : List Int) : Prop := R.length ≤ 1000000 ∧ ∀ r ∈ R, -1000000000 ≤ r ∧ r ≤ 1000000000
theorem neg_take (R : List Int) (j : Nat) (h : j < R.length) : (R.take (j + 1)).map (- ·) = (R.take j).map (- ·) ++ [-R[j]] := by
 rw [← List.take_append_getElem h, List.map_append]; rfl
set_option maxHeartbeats 8000000 in
theorem negated_c (p : Pln) (h1 : SmI p.rates) (h2 : SmI p.ports) (h3 : p.pumps.length ≤ 1000000) (nn : Nm) : CallsA Tryd.prog 81 [p.enc] Hp.none nn (Pu (negP p).enc Hp.none) := by
 obtain ⟨code, k1, k2⟩ := c81_ok
 refine callsA_of (T0_ok _) mixed (N := fun t => (0, t)) Tryd.func81 k1 k2 r81_ok [] false js_nil js_nil' (by simp [Tryd.f81]) ?_
 obtain ⟨l1, b1⟩ := h1
 obtain ⟨l2, b2⟩ := h2
 have z1 : p.pumps.length * 1 ≤ 140737488355328 := by omega
 have z2 : p.pumps.length ≤ 4611686018427387904 := by omega
 have hb : ∀ b ∈ p.pumps, (bRow b).length = 1 := fun _ _ => rfl
 simp (maxSteps:=500000) only [↓vp, vv, ↓reduceIte, simprocAttr, c81, Pln.enc, plnD, z1, z2, hb]
 refine ⟨hb, rng_loop p.rates.length (fun j => ⟨fr [(1, .ptr (0, 1) 0 0 0), (2, .ptr (0, 2) 0 0 0), (3, .ptr (0, 3) 0 0 0), (13, di p.rates.length), (14, di j)], NegS p ((p.rates.take j).map (- ·)) [] 0⟩) (fun _ => True) ((weak_ownC (0, 3) 0 3 [] [.mt, .own (0, 6) 1 0 p.pumps.length] (0, 1001) 1 (by simp only [↓vp, vv, ↓reduceIte, simprocAttr, ]) (by simp only [↓vp, vv, ↓reduceIte, simprocAttr, ])).trans ((weak_ownC (0, 3) 0 3 [.own (0, 1001) 0 0 0] [.own (0, 6) 1 0 p.pumps.length] (0, 1002) 1 (by simp only [↓vp, vv, ↓reduceIte, simprocAttr, ]) (by simp only [↓vp, vv, ↓reduceIte, simprocAttr, ])).trans (weak_eqA [] [(0, 1), (0, 2), (0, 3), (0, 6), (0, 1001), (0, 1002)] [(1, .ptr (0, 1) 0 0 0), (2, .ptr (0, 2) 0 0 0), (3, .ptr (0, 3) 0 0 0), (13, di p.rates.length), (14, di 0)] (by refine ⟨?_, ?_, ?_, by simp, ?_⟩ <;> (simp only [↓vp, vv, ↓reduceIte, simprocAttr, coverS, refsF, NegS, plnD, bRow] <;> try rfl))))) trivial (fun j hj _ => ?_) (fun _ => ?_)⟩
 ·have hj' : (j : Int) < p.rates.length := by omega
  have hn := idx_nn j
  have w1 := idx_next (j := j) (by omega)
  have hg := iRow_at p.rates j hj
  have ht := neg_take p.rates j hj
  have hr := b1 _ (List.getElem_mem hj)
  generalize p.rates[j] = r at hg ht hr
  have w2 : IntKind.i64.wrap (0 - r) = -r := by rw [wrap_i (by omega)]; omega
  have hl : (p.rates.take j).length = j := by rw [List.length_take]; omega
  have hl3 : (p.rates.take (j + 1)).length = j + 1 := by rw [List.length_take]; omega
  have y1 : (j + 1) * 8 ≤ 140737488355328 := by omega
  have y2 : j + 1 ≤ 4611686018427387904 := by omega
  simp (maxSteps:=500000) only [↓vp, vv, ↓reduceIte, simprocAttr, c81, r81, c81_1, c81_2, c81_3, c81_4, c81_5, c81_6, NegS, plnD, hj', hn, Int.toNat_natCast, hg, w1, w2, hl, y1, y2]
  exact rng_next hj (weak_eqA [] [(0, 1), (0, 2), (0, 3), (0, 6), (0, 1001), (0, 1002)] [(1, .ptr (0, 1) 0 0 0), (2, .ptr (0, 2) 0 0 0), (3, .ptr (0, 3) 0 0 0), (13, di p.rates.length), (14, di (j + 1 : Nat))] (by refine ⟨?_, ?_, ?_, by simp, ?_⟩ <;> (simp only [↓vp, vv, ↓reduceIte, simprocAttr, coverS, refsF, NegS, plnD, iRow, bRow, w1, ht, hl, hl3, List.map_append] <;> try rfl))) trivial
 ·simp only [List.take_length]
  have hl1 : (p.rates.map (- ·)).length = p.rates.length := List.length_map _
  generalize hR : p.rates.map (- ·) = R at hl1
  simp (maxSteps:=500000) only [↓vp, vv, ↓reduceIte, simprocAttr, c81, r81, c81_1, c81_2, c81_3, c81_4, c81_5, c81_6, NegS, plnD, Int.lt_irrefl]
  refine rng_loop p.ports.length (fun j => ⟨fr [(1, .ptr (0, 1) 0 0 0), (2, .ptr (0, 2) 0 0 0), (3, .ptr (0, 3) 0 0 0), (31, di p.ports.length), (32, di j)], NegS p R ((p.ports.take j).map (- ·)) 0⟩) (fun _ => True) (weak_eqA [] [(0, 1), (0, 2), (0, 3), (0, 6), (0, 1001), (0, 1002)] [(1, .ptr (0, 1) 0 0 0), (2, .ptr (0, 2) 0 0 0), (3, .ptr (0, 3) 0 0 0), (31, di p.ports.length), (32, di 0)] (by refine ⟨?_, ?_, ?_, by simp, ?_⟩ <;> (simp only [↓vp, vv, ↓reduceIte, simprocAttr, coverS, refsF, NegS, plnD, iRow, bRow] <;> try rfl))) trivial (fun j hj _ => ?_) (fun _ => ?_)
  ·have hj' : (j : Int) < p.ports.length := by omega
   have hn := idx_nn j
   have w1 := idx_next (j := j) (by omega)
   have hg := iRow_at p.ports j hj
   have ht := neg_take p.ports j hj
   have hr := b2 _ (List.getElem_mem hj)
   generalize p.ports[j] = r at hg ht hr
   have w2 : IntKind.i64.wrap (0 - r) = -r := by rw [wrap_i (by omega)]; omega
   have hl : (p.ports.take j).length = j := by rw [List.length_take]; omega
   have hl3 : (p.ports.take (j + 1)).length = j + 1 := by rw [List.length_take]; omega
   have y1 : (j + 1) * 8 ≤ 140737488355328 := by omega
   have y2 : j + 1 ≤ 4611686018427387904 := by omega
   simp (maxSteps:=500000) only [↓vp, vv, ↓reduceIte, simprocAttr, c81, r81, c81_1, c81_2, c81_3, c81_4, c81_5, c81_6, NegS, plnD, hj', hn, Int.toNat_natCast, hg, w1, w2, hl, y1, y2]
   exact rng_next hj (weak_eqA [] [(0, 1), (0, 2), (0, 3), (0, 6), (0, 1001), (0, 1002)] [(1, .ptr (0, 1) 0 0 0), (2, .ptr (0, 2) 0 0 0), (3, .ptr (0, 3) 0 0 0), (31, di p.ports.length), (32, di (j + 1 : Nat))] (by refine ⟨?_, ?_, ?_, by simp, ?_⟩ <;> (simp only [↓vp, vv, ↓reduceIte, simprocAttr, coverS, refsF, NegS, plnD, iRow, bRow, w1, ht, hl, hl3, List.map_append] <;> try rfl))) trivial
  ·simp only [List.take_length]
   have e : negP p = ⟨R, p.ports.map (- ·), p.pumps⟩ := by unfold negP; rw [hR]
   rw [e]
   generalize p.ports.map (- ·) = Q
   simp (maxSteps:=500000) only [↓vp, vv, ↓reduceIte, simprocAttr, c81, r81, c81_1, c81_2, c81_3, c81_4, c81_5, c81_6, NegS, plnD, Int.lt_irrefl, Pu]
   exact ⟨fun _ _ d hd => by rw [List.mem_singleton.1 hd]; rfl, fun _ _ d hd => by rw [List.mem_singleton.1 hd]; rfl, fun _ _ d hd => by rw [List.mem_singleton.1 hd]; rfl⟩
def selAbs : List D → Option (Prop × D)
 | [.v (.int .i64 x)] => some (-1000000 ≤ x ∧ x ≤ 1000000, di (absI x))
 | _ => Option.none
def selNeg : List D → Option (Prop × D)
 | [.agg r] => match plnOf1 r with
  | some p => some (SmI p.rates ∧ SmI p.ports ∧ p.pumps.length ≤ 1000000, (negP p).enc)
  | Option.none => Option.none
 | _ => Option.none
def TPl : Tbl := tc 80 (rowPu selAbs) (tc 81 (rowPu selNeg) T2)
theorem TPl_ok : TblOk Tryd.prog TPl := by
 refine tc_pu f80_ok (fun args pre d h hp nn => ?_) (tc_pu f81_ok (fun args pre d h hp nn => ?_) T2_ok)
 ·unfold selAbs at h
  split at h <;> cases h
  exact kabs_c _ hp nn
 ·unfold selNeg at h
  split at h
  ·split at h
   ·rename_i e
    cases h
    rw [plnOf1_eq e]
    exact negated_c _ hp.1 hp.2.1 hp.2.2 nn
   ·cases h
  ·cases h
def PH (i : Nm) (n : Net) (g : Nat) (R Q : List Int) (U : List Bool) (L : List (List D)) (at' : Int) (B : Hp) : Hp :=
 ((((((B.put (i.1 + 1, 1005) ⟨g, 1, U.map bRow⟩).put (i.1 + 1, 29) ⟨0, 1, Q.map iRow⟩).put (i.1 + 1, 25) ⟨0, 1, R.map iRow⟩).put (i.1 + 1, 5) ⟨0, 3, [[.own (i.1 + 1, 25) 0 0 R.length, .own (i.1 + 1, 29) 0 0 Q.length, .own (i.1 + 1, 1005) g 0 U.length]]⟩).put (i.1 + 1, 4) ⟨0, 3, [[.mt, .mt, .mt]]⟩).put (i.1 + 1, 3) ⟨0, 6, [netD n]⟩).put i (sE L at')
def BW (i : Nm) (gw : Nat) (W : List Nat) : Hp := Hp.none.put (i.1 + 1, 1012) ⟨gw, 1, W.map nRow⟩
def BO (i : Nm) (gw : Nat) (W : List Nat) (go : Nat) (O : List Nat) : Hp := (Hp.none.put (i.1 + 1, 1016) ⟨go, 1, O.map nRow⟩).put (i.1 + 1, 1012) ⟨gw, 1, W.map nRow⟩
def PF (i : Nm) (tu : Bool) (c : Int) (l : List (Nat × D)) : List (Nat × D) := (0, .ptr i 0 0 0) :: (3, .ptr (i.1 + 1, 3) 0 0 0) :: (4, .ptr (i.1 + 1, 4) 0 0 0) :: (5, .ptr (i.1 + 1, 5) 0 0 0) :: (7, db tu) :: (8, di c) :: l
structure PFk (i : Nm) (tu : Bool) (c : Int) (F : Fr) : Prop where
 f0 : F 0 = .ptr i 0 0 0
 f3 : F 3 = .ptr (i.1 + 1, 3) 0 0 0
 f4 : F 4 = .ptr (i.1 + 1, 4) 0 0 0
 f5 : F 5 = .ptr (i.1 + 1, 5) 0 0 0
 f7 : F 7 = db tu
 f8 : F 8 = di c
structure PFw (a at0 rate : Int) (i : Nm) (gw : Nat) (W : List Nat) (e : Int) (F : Fr) : Prop where
 f9 : F 9 = di a
 f10 : F 10 = di at0
 f11 : F 11 = di rate
 f12 : F 12 = .own (i.1 + 1, 1012) gw 0 W.length
 f13 : F 13 = di e
def EndOk (n : Net) (Q : List Int) (a rate at' e : Int) : Prop := e ≠ a ∧ ∃ (k : Nat) (y : Port) (q : Int), e = k ∧ n.ports[k]? = some y ∧ Q[k]? = some q ∧ y.node = at' ∧ q ≤ 0 ∧ -1000 ≤ q - rate
set_option maxHeartbeats 16000000 in
theorem pl4 (i : Nm) (L : List (List D)) (n : Net) (g : Nat) (R Q : List Int) (U : List Bool) (tu : Bool) (c a at0 rate : Int) (gw : Nat) (W : List Nat) (hql : n.ports.length ≤ 1000000) (hQl : Q.length = n.ports.length) (hQb : ∀ r ∈ Q, -1000 ≤ r ∧ r ≤ 1000) (hr : 1 ≤ rate ∧ rate ≤ 300)
  (s : St) (Qx : Ex → St → Prop) (at1 : Int) (o1 : SrcOk L at1) (hw : Weak [i] s ⟨fr (PF i tu c [(9, di a), (10, di at0), (11, di rate), (12, .own (i.1 + 1, 1012) gw 0 W.length), (13, di (-1)), (90, .sl (n.ports.map Port.row)), (91, di n.ports.length), (92, di 0)]), PH i n g R Q U L at1 (BW i gw W)⟩)
  (hX : ∀ F at2 e, SrcOk L at2 → (e = -1 ∨ EndOk n Q a rate at0 e) → PFk i tu c F → PFw a at0 rate i gw W e F → Qx (.exit 6) ⟨F, PH i n g R Q U L at2 (BW i gw W)⟩) :
  vc TPl (fun t => (i.1 + 1, t)) [i] (.loop c48_5) Qx s := by
 rw [vc_loop]
 refine ⟨fun m s => ∃ at' e j, j + m = n.ports.length ∧ SrcOk L at' ∧ (e = -1 ∨ EndOk n Q a rate at0 e) ∧ s = ⟨fr (PF i tu c [(9, di a), (10, di at0), (11, di rate), (12, .own (i.1 + 1, 1012) gw 0 W.length), (13, di e), (90, .sl (n.ports.map Port.row)), (91, di n.ports.length), (92, di (j : Nat))]), PH i n g R Q U L at' (BW i gw W)⟩, ⟨n.ports.length, _, hw, at1, -1, 0, by omega, o1, .inl rfl, rfl⟩, ?_⟩
 rintro m s ⟨at2, e, j, hm, o2, he, rfl⟩
 by_cases hj : j < n.ports.length
 ·have hj' : (j : Int) < n.ports.length := by omega
  have hjn := idx_nn j
  have w1 := idx_next (j := j) (by omega)
  have hjq : j < Q.length := by omega
  have hjq' : (j : Int) < Q.length := by omega
  have hg := getD_map Port.row n.ports j hj
  have hg2 := iRow_at Q j hjq
  have hx : n.ports[j]? = some n.ports[j] := List.getElem?_eq_getElem hj
  have hy : Q[j]? = some Q[j] := List.getElem?_eq_getElem hjq
  have hb := hQb _ (List.getElem_mem hjq)
  generalize n.ports[j] = x at hg hx
  generalize Q[j] = q at hg2 hy hb
  have w2 : IntKind.i64.wrap (q - rate) = q - rate := wrap_i (by omega)
  have nx : ∀ (at3 e' : Int) (F : Fr) (H : Hp), SrcOk L at3 → (e' = -1 ∨ EndOk n Q a rate at0 e') → PFk i tu c F → PFw a at0 rate i gw W e' F → F 90 = .sl (n.ports.map Port.row) → F 91 = di n.ports.length → F 92 = di (j + 1 : Nat) →
    H i = some (sE L at3) → H (i.1 + 1, 3) = some ⟨0, 6, [netD n]⟩ → H (i.1 + 1, 4) = some ⟨0, 3, [[.mt, .mt, .mt]]⟩ → H (i.1 + 1, 5) = some ⟨0, 3, [[.own (i.1 + 1, 25) 0 0 R.length, .own (i.1 + 1, 29) 0 0 Q.length, .own (i.1 + 1, 1005) g 0 U.length]]⟩ → H (i.1 + 1, 25) = some ⟨0, 1, R.map iRow⟩ → H (i.1 + 1, 29) = some ⟨0, 1, Q.map iRow⟩ → H (i.1 + 1, 1005) = some ⟨g, 1, U.map bRow⟩ → H (i.1 + 1, 1012) = some ⟨gw, 1, W.map nRow⟩ →
    ∃ k' s', k' < m ∧ Weak [i] ⟨F, H⟩ s' ∧ ∃ at' e j, j + k' = n.ports.length ∧ SrcOk L at' ∧ (e = -1 ∨ EndOk n Q a rate at0 e) ∧ s' = ⟨fr (PF i tu c [(9, di a), (10, di at0), (11, di rate), (12, .own (i.1 + 1, 1012) gw 0 W.length), (13, di e), (90, .sl (n.ports.map Port.row)), (91, di n.ports.length), (92, di (j : Nat))]), PH i n g R Q U L at' (BW i gw W)⟩ := by
   rintro at3 e' F H o3 he' ⟨f0, f3, f4, f5, f7, f8⟩ ⟨f9, f10, f11, f12, f13⟩ f90 f91 f92 h0 h3 h4 h5 h25 h29 h105 h112
   exact ⟨m - 1, _, by omega, (weak_eqA [] [i, (i.1 + 1, 3), (i.1 + 1, 4), (i.1 + 1, 5), (i.1 + 1, 25), (i.1 + 1, 29), (i.1 + 1, 1005), (i.1 + 1, 1012)] (PF i tu c [(9, di a), (10, di at0), (11, di rate), (12, .own (i.1 + 1, 1012) gw 0 W.length), (13, di e'), (90, .sl (n.ports.map Port.row)), (91, di n.ports.length), (92, di (j + 1 : Nat))]) (by refine ⟨?_, ?_, ?_, by simp, ?_⟩ <;> (simp only [↓vp, vv, ↓reduceIte, simprocAttr, coverS, refsF, PF, PH, BW, netD, iRow, bRow, nRow, f0, f3, f4, f5, f7, f8, f9, f10, f11, f12, f13, f90, f91, f92, h0, h3, h4, h5, h25, h29, h105, h112] <;> try rfl))), at3, e', j + 1, by omega, o3, he', rfl⟩
  cases c1 : (x.node == at0) with
  | false =>
   simp (maxSteps:=500000) only [↓vp, vv, ↓reduceIte, simprocAttr, c48_5, c48_4, c48_3, TPl, T2, T1, selI, PF, PH, BW, netD, hj', hjn, Int.toNat_natCast, hg, Port.row, c1, w1]
   refine nx at2 e _ _ o2 he ⟨?_, ?_, ?_, ?_, ?_, ?_⟩ ⟨?_, ?_, ?_, ?_, ?_⟩ ?_ ?_ ?_ ?_ ?_ ?_ ?_ ?_ ?_ ?_ ?_ <;> simp (maxSteps:=500000) only [↓vp, vv, ↓reduceIte, simprocAttr, netD, w1]
  | true =>
  cases c2 : ((j : Int) != a) with
  | false =>
   simp (maxSteps:=500000) only [↓vp, vv, ↓reduceIte, simprocAttr, c48_5, c48_4, c48_3, TPl, T2, T1, selI, PF, PH, BW, netD, hj', hjn, Int.toNat_natCast, hg, hg2, Port.row, c1, c2, w1]
   refine nx at2 e _ _ o2 he ⟨?_, ?_, ?_, ?_, ?_, ?_⟩ ⟨?_, ?_, ?_, ?_, ?_⟩ ?_ ?_ ?_ ?_ ?_ ?_ ?_ ?_ ?_ ?_ ?_ <;> simp (maxSteps:=500000) only [↓vp, vv, ↓reduceIte, simprocAttr, netD, w1]
  | true =>
  cases c3 : decide (q ≤ 0) with
  | false =>
   simp (maxSteps:=500000) only [↓vp, vv, ↓reduceIte, simprocAttr, c48_5, c48_4, c48_3, TPl, T2, T1, selI, PF, PH, BW, netD, hj', hjn, Int.toNat_natCast, hg, hg2, Port.row, c1, c2, hjq, hjq', c3, w1]
   refine nx at2 e _ _ o2 he ⟨?_, ?_, ?_, ?_, ?_, ?_⟩ ⟨?_, ?_, ?_, ?_, ?_⟩ ?_ ?_ ?_ ?_ ?_ ?_ ?_ ?_ ?_ ?_ ?_ <;> simp (maxSteps:=500000) only [↓vp, vv, ↓reduceIte, simprocAttr, netD, w1]
  | true =>
  cases c4 : decide (-1000 ≤ q - rate) with
  | false =>
   simp (maxSteps:=500000) only [↓vp, vv, ↓reduceIte, simprocAttr, c48_5, c48_4, c48_3, TPl, T2, T1, selI, PF, PH, BW, netD, hj', hjn, Int.toNat_natCast, hg, hg2, Port.row, c1, c2, hjq, hjq', c3, w2, c4, w1]
   refine nx at2 e _ _ o2 he ⟨?_, ?_, ?_, ?_, ?_, ?_⟩ ⟨?_, ?_, ?_, ?_, ?_⟩ ?_ ?_ ?_ ?_ ?_ ?_ ?_ ?_ ?_ ?_ ?_ <;> simp (maxSteps:=500000) only [↓vp, vv, ↓reduceIte, simprocAttr, netD, w1]
  | true =>
  cases c5 : decide ((0 : Int) < W.length) with
  | false =>
   simp (maxSteps:=500000) only [↓vp, vv, ↓reduceIte, simprocAttr, c48_5, c48_4, c48_3, TPl, T2, T1, selI, PF, PH, BW, netD, hj', hjn, Int.toNat_natCast, hg, hg2, Port.row, c1, c2, hjq, hjq', c3, w2, c4, c5, w1]
   refine nx at2 e _ _ o2 he ⟨?_, ?_, ?_, ?_, ?_, ?_⟩ ⟨?_, ?_, ?_, ?_, ?_⟩ ?_ ?_ ?_ ?_ ?_ ?_ ?_ ?_ ?_ ?_ ?_ <;> simp (maxSteps:=500000) only [↓vp, vv, ↓reduceIte, simprocAttr, netD, w1]
  | true =>
   simp (maxSteps:=500000) only [↓vp, vv, ↓reduceIte, simprocAttr, c48_5, c48_4, c48_3, TPl, T2, T1, selI, PF, PH, BW, netD, hj', hjn, Int.toNat_natCast, hg, hg2, Port.row, c1, c2, hjq, hjq', c3, w2, c4, c5, o2, w1]
   rintro ⟨at3, o3⟩ v hv
   have he2 : EndOk n Q a rate at0 (j : Int) := ⟨by simpa using c2, j, x, q, rfl, hx, hy, by simpa using c1, by simpa using c3, by simpa using c4⟩
   cases c6 : (v == (0 : Int)) with
   | false =>
    simp (maxSteps:=500000) only [↓vp, vv, ↓reduceIte, simprocAttr, c6, w1]
    refine nx at3 e _ _ o3 he ⟨?_, ?_, ?_, ?_, ?_, ?_⟩ ⟨?_, ?_, ?_, ?_, ?_⟩ ?_ ?_ ?_ ?_ ?_ ?_ ?_ ?_ ?_ ?_ ?_ <;> simp (maxSteps:=500000) only [↓vp, vv, ↓reduceIte, simprocAttr, netD, w1]
   | true =>
    simp (maxSteps:=500000) only [↓vp, vv, ↓reduceIte, simprocAttr, c6, w1]
    refine nx at3 j _ _ o3 (.inr he2) ⟨?_, ?_, ?_, ?_, ?_, ?_⟩ ⟨?_, ?_, ?_, ?_, ?_⟩ ?_ ?_ ?_ ?_ ?_ ?_ ?_ ?_ ?_ ?_ ?_ <;> simp (maxSteps:=500000) only [↓vp, vv, ↓reduceIte, simprocAttr, netD, w1]
 ·have hj2 : j = n.ports.length := by omega
  have hj' : ¬ (j : Int) < n.ports.length := by omega
  simp (maxSteps:=500000) only [↓vp, vv, ↓reduceIte, simprocAttr, c48_5, PF, hj']
  refine hX _ at2 e o2 he ⟨?_, ?_, ?_, ?_, ?_, ?_⟩ ⟨?_, ?_, ?_, ?_, ?_⟩ <;> simp (maxSteps:=500000) only [↓vp, vv, ↓reduceIte, simprocAttr, ]
def OutOk (n : Net) (R : List Int) (rate at' : Int) (k : Nat) : Prop := ∃ s r, n.segs[k]? = some s ∧ R[k]? = some r ∧ (s.fr = at' ∨ s.to = at') ∧ at' < s.fr + s.to - at' ∧ absI r + rate ≤ minC s.cap
theorem most_min (s : Seg) : most s = minC s.cap := by unfold most minC; split <;> split <;> omega
set_option maxHeartbeats 16000000 in
theorem pl5 (i : Nm) (L : List (List D)) (n : Net) (hv : NetV n) (g : Nat) (R Q : List Int) (U : List Bool) (tu : Bool) (c a at0 rate : Int) (gw : Nat) (W : List Nat) (hRl : R.length = n.segs.length) (hRb : ∀ r ∈ R, -1000 ≤ r ∧ r ≤ 1000) (hr : 1 ≤ rate ∧ rate ≤ 300) (h0 : 0 ≤ at0 ∧ at0 < 24)
  (s : St) (Qx : Ex → St → Prop) (at1 : Int) (hw : Weak [i] s ⟨fr (PF i tu c [(9, di a), (10, di at0), (11, di rate), (12, .own (i.1 + 1, 1012) gw 0 W.length), (13, di (-1)), (16, .own (i.1 + 1, 1016) 0 0 0), (139, .sl (n.segs.map Seg.row)), (140, di n.segs.length), (141, di 0)]), PH i n g R Q U L at1 (BO i gw W 0 [])⟩)
  (hX : ∀ F O go, (∀ k ∈ O, OutOk n R rate at0 k) → O.length ≤ 32 → PFk i tu c F → PFw a at0 rate i gw W (-1) F → F 16 = .own (i.1 + 1, 1016) go 0 O.length → Qx (.exit 8) ⟨F, PH i n g R Q U L at1 (BO i gw W go O)⟩) :
  vc TPl (fun t => (i.1 + 1, t)) [i] (.loop c48_8) Qx s := by
 have hsl := hv.sl
 rw [vc_loop]
 refine ⟨fun m s => ∃ O go j, j + m = n.segs.length ∧ O.length ≤ j ∧ (∀ k ∈ O, OutOk n R rate at0 k) ∧ s = ⟨fr (PF i tu c [(9, di a), (10, di at0), (11, di rate), (12, .own (i.1 + 1, 1012) gw 0 W.length), (13, di (-1)), (16, .own (i.1 + 1, 1016) go 0 O.length), (139, .sl (n.segs.map Seg.row)), (140, di n.segs.length), (141, di (j : Nat))]), PH i n g R Q U L at1 (BO i gw W go O)⟩, ⟨n.segs.length, _, hw, [], 0, 0, by omega, Nat.le_refl _, fun k hk => (by cases hk), rfl⟩, ?_⟩
 rintro m s ⟨O, go, j, hm, hO, hOk, rfl⟩
 by_cases hj : j < n.segs.length
 ·have hj' : (j : Int) < n.segs.length := by omega
  have hjn := idx_nn j
  have w1 := idx_next (j := j) (by omega)
  have hjq : j < R.length := by omega
  have hjq' : (j : Int) < R.length := by omega
  have hg := getD_map Seg.row n.segs j hj
  have hg2 := iRow_at R j hjq
  have hx : n.segs[j]? = some n.segs[j] := List.getElem?_eq_getElem hj
  have hy : R[j]? = some R[j] := List.getElem?_eq_getElem hjq
  have hb := hRb _ (List.getElem_mem hjq)
  have hse := hv.se _ (List.getElem_mem hj)
  have hnl := hv.nl
  generalize n.segs[j] = x at hg hx hse
  generalize R[j] = r at hg2 hy hb
  have nx : ∀ (O' : List Nat) (go' : Nat) (F : Fr) (H : Hp), O'.length ≤ j + 1 → (∀ k ∈ O', OutOk n R rate at0 k) → PFk i tu c F → PFw a at0 rate i gw W (-1) F → F 16 = .own (i.1 + 1, 1016) go' 0 O'.length → F 139 = .sl (n.segs.map Seg.row) → F 140 = di n.segs.length → F 141 = di (j + 1 : Nat) →
    H i = some (sE L at1) → H (i.1 + 1, 3) = some ⟨0, 6, [netD n]⟩ → H (i.1 + 1, 4) = some ⟨0, 3, [[.mt, .mt, .mt]]⟩ → H (i.1 + 1, 5) = some ⟨0, 3, [[.own (i.1 + 1, 25) 0 0 R.length, .own (i.1 + 1, 29) 0 0 Q.length, .own (i.1 + 1, 1005) g 0 U.length]]⟩ → H (i.1 + 1, 25) = some ⟨0, 1, R.map iRow⟩ → H (i.1 + 1, 29) = some ⟨0, 1, Q.map iRow⟩ → H (i.1 + 1, 1005) = some ⟨g, 1, U.map bRow⟩ → H (i.1 + 1, 1012) = some ⟨gw, 1, W.map nRow⟩ → H (i.1 + 1, 1016) = some ⟨go', 1, O'.map nRow⟩ →
    ∃ k' s', k' < m ∧ Weak [i] ⟨F, H⟩ s' ∧ ∃ O go j, j + k' = n.segs.length ∧ O.length ≤ j ∧ (∀ k ∈ O, OutOk n R rate at0 k) ∧ s' = ⟨fr (PF i tu c [(9, di a), (10, di at0), (11, di rate), (12, .own (i.1 + 1, 1012) gw 0 W.length), (13, di (-1)), (16, .own (i.1 + 1, 1016) go 0 O.length), (139, .sl (n.segs.map Seg.row)), (140, di n.segs.length), (141, di (j : Nat))]), PH i n g R Q U L at1 (BO i gw W go O)⟩ := by
   rintro O' go' F H hO' hOk' ⟨f0, f3, f4, f5, f7, f8⟩ ⟨f9, f10, f11, f12, f13⟩ f16 f90 f91 f92 h0 h3 h4 h5 h25 h29 h105 h112 h116
   exact ⟨m - 1, _, by omega, (weak_eqA [] [i, (i.1 + 1, 3), (i.1 + 1, 4), (i.1 + 1, 5), (i.1 + 1, 25), (i.1 + 1, 29), (i.1 + 1, 1005), (i.1 + 1, 1012), (i.1 + 1, 1016)] (PF i tu c [(9, di a), (10, di at0), (11, di rate), (12, .own (i.1 + 1, 1012) gw 0 W.length), (13, di (-1)), (16, .own (i.1 + 1, 1016) go' 0 O'.length), (139, .sl (n.segs.map Seg.row)), (140, di n.segs.length), (141, di (j + 1 : Nat))]) (by refine ⟨?_, ?_, ?_, by simp, ?_⟩ <;> (simp only [↓vp, vv, ↓reduceIte, simprocAttr, coverS, refsF, PF, PH, BO, netD, iRow, bRow, nRow, f0, f3, f4, f5, f7, f8, f9, f10, f11, f12, f13, f16, f90, f91, f92, h0, h3, h4, h5, h25, h29, h105, h112, h116] <;> try rfl))), O', go', j + 1, by omega, hO', hOk', rfl⟩
  have w2 : IntKind.i64.wrap (x.fr + x.to) = x.fr + x.to := wrap_i (by omega)
  have w3 : IntKind.i64.wrap (x.fr + x.to - at0) = x.fr + x.to - at0 := wrap_i (by omega)
  have ha : 0 ≤ absI r ∧ absI r ≤ 1000 := by unfold absI; split <;> omega
  have w4 : IntKind.i64.wrap (absI r + rate) = absI r + rate := wrap_i (by omega)
  have hm2 : (if x.cap < 1000 then x.cap else 1000) = minC x.cap := most_min x
  have hab : -1000000 ≤ r ∧ r ≤ 1000000 := by omega
  have key : ∀ (b1 b2 : Bool), (x.fr == at0) = b1 → (x.to == at0) = b2 → (b1 || b2) = false → vc TPl (fun t => (i.1 + 1, t)) [i] c48_8 (loopQ [i] (fun m s => ∃ O go j, j + m = n.segs.length ∧ O.length ≤ j ∧ (∀ k ∈ O, OutOk n R rate at0 k) ∧ s = ⟨fr (PF i tu c [(9, di a), (10, di at0), (11, di rate), (12, .own (i.1 + 1, 1012) gw 0 W.length), (13, di (-1)), (16, .own (i.1 + 1, 1016) go 0 O.length), (139, .sl (n.segs.map Seg.row)), (140, di n.segs.length), (141, di (j : Nat))]), PH i n g R Q U L at1 (BO i gw W go O)⟩) m Qx) ⟨fr (PF i tu c [(9, di a), (10, di at0), (11, di rate), (12, .own (i.1 + 1, 1012) gw 0 W.length), (13, di (-1)), (16, .own (i.1 + 1, 1016) go 0 O.length), (139, .sl (n.segs.map Seg.row)), (140, di n.segs.length), (141, di (j : Nat))]), PH i n g R Q U L at1 (BO i gw W go O)⟩ := by
   intro b1 b2 c1 c2 hbb
   cases b1 with
   | true => cases hbb
   | false =>
    cases b2 with
    | true => cases hbb
    | false =>
     simp (maxSteps:=500000) only [↓vp, vv, ↓reduceIte, simprocAttr, c48_8, c48_7, c48_6, TPl, PF, PH, BO, netD, hj', hjn, Int.toNat_natCast, hg, Seg.row, c1, c2, w1]
     refine nx O go _ _ (by omega) hOk ⟨?_, ?_, ?_, ?_, ?_, ?_⟩ ⟨?_, ?_, ?_, ?_, ?_⟩ ?_ ?_ ?_ ?_ ?_ ?_ ?_ ?_ ?_ ?_ ?_ ?_ ?_ <;> simp (maxSteps:=500000) only [↓vp, vv, ↓reduceIte, simprocAttr, netD, w1]
  have y1 : (O.length + 1) * 8 ≤ 140737488355328 := by omega
  have y2 : O.length + 1 ≤ 4611686018427387904 := by omega
  cases c1 : (x.fr == at0) with
  | true =>
   cases c3 : decide (at0 < x.fr + x.to - at0) with
   | false =>
    simp (maxSteps:=500000) only [↓vp, vv, ↓reduceIte, simprocAttr, c48_8, c48_7, c48_6, TPl, selAbs, PF, PH, BO, netD, hj', hjn, hjq, hjq', Int.toNat_natCast, hg, hg2, hab, hm2, w2, w3, w4, Seg.row, c1, c3, w1]
    refine nx O go _ _ (by omega) hOk ⟨?_, ?_, ?_, ?_, ?_, ?_⟩ ⟨?_, ?_, ?_, ?_, ?_⟩ ?_ ?_ ?_ ?_ ?_ ?_ ?_ ?_ ?_ ?_ ?_ ?_ ?_ <;> simp (maxSteps:=500000) only [↓vp, vv, ↓reduceIte, simprocAttr, netD, w1, nRow, List.map_append]
   | true =>
    cases c4 : decide (absI r + rate ≤ minC x.cap) with
    | false =>
     simp (maxSteps:=500000) only [↓vp, vv, ↓reduceIte, simprocAttr, c48_8, c48_7, c48_6, TPl, selAbs, PF, PH, BO, netD, hj', hjn, hjq, hjq', Int.toNat_natCast, hg, hg2, hab, hm2, w2, w3, w4, Seg.row, c1, c3, c4, w1]
     refine nx O go _ _ (by omega) hOk ⟨?_, ?_, ?_, ?_, ?_, ?_⟩ ⟨?_, ?_, ?_, ?_, ?_⟩ ?_ ?_ ?_ ?_ ?_ ?_ ?_ ?_ ?_ ?_ ?_ ?_ ?_ <;> simp (maxSteps:=500000) only [↓vp, vv, ↓reduceIte, simprocAttr, netD, w1, nRow, List.map_append]
    | true =>
     have hnew : OutOk n R rate at0 j := ⟨x, r, hx, hy, (.inl (by simpa using c1)), by simpa using c3, by simpa using c4⟩
     simp (maxSteps:=500000) only [↓vp, vv, ↓reduceIte, simprocAttr, c48_8, c48_7, c48_6, TPl, selAbs, PF, PH, BO, netD, hj', hjn, hjq, hjq', Int.toNat_natCast, hg, hg2, hab, hm2, w2, w3, w4, Seg.row, c1, c3, c4, y1, y2, w1]
     refine nx (O ++ [j]) (go + 1) _ _ (by rw [List.length_append, List.length_singleton]; omega) (fun k hk => by
      rcases List.mem_append.1 hk with hk | hk
      ·exact hOk k hk
      ·rw [List.mem_singleton.1 hk]; exact hnew) ⟨?_, ?_, ?_, ?_, ?_, ?_⟩ ⟨?_, ?_, ?_, ?_, ?_⟩ ?_ ?_ ?_ ?_ ?_ ?_ ?_ ?_ ?_ ?_ ?_ ?_ ?_ <;> simp (maxSteps:=500000) only [↓vp, vv, ↓reduceIte, simprocAttr, netD, w1, nRow, List.map_append]
  | false =>
   cases c2 : (x.to == at0) with
   | true =>
    cases c3 : decide (at0 < x.fr + x.to - at0) with
    | false =>
     simp (maxSteps:=500000) only [↓vp, vv, ↓reduceIte, simprocAttr, c48_8, c48_7, c48_6, TPl, selAbs, PF, PH, BO, netD, hj', hjn, hjq, hjq', Int.toNat_natCast, hg, hg2, hab, hm2, w2, w3, w4, Seg.row, c1, c2, c3, w1]
     refine nx O go _ _ (by omega) hOk ⟨?_, ?_, ?_, ?_, ?_, ?_⟩ ⟨?_, ?_, ?_, ?_, ?_⟩ ?_ ?_ ?_ ?_ ?_ ?_ ?_ ?_ ?_ ?_ ?_ ?_ ?_ <;> simp (maxSteps:=500000) only [↓vp, vv, ↓reduceIte, simprocAttr, netD, w1, nRow, List.map_append]
    | true =>
     cases c4 : decide (absI r + rate ≤ minC x.cap) with
     | false =>
      simp (maxSteps:=500000) only [↓vp, vv, ↓reduceIte, simprocAttr, c48_8, c48_7, c48_6, TPl, selAbs, PF, PH, BO, netD, hj', hjn, hjq, hjq', Int.toNat_natCast, hg, hg2, hab, hm2, w2, w3, w4, Seg.row, c1, c2, c3, c4, w1]
      refine nx O go _ _ (by omega) hOk ⟨?_, ?_, ?_, ?_, ?_, ?_⟩ ⟨?_, ?_, ?_, ?_, ?_⟩ ?_ ?_ ?_ ?_ ?_ ?_ ?_ ?_ ?_ ?_ ?_ ?_ ?_ <;> simp (maxSteps:=500000) only [↓vp, vv, ↓reduceIte, simprocAttr, netD, w1, nRow, List.map_append]
     | true =>
      have hnew : OutOk n R rate at0 j := ⟨x, r, hx, hy, (.inr (by simpa using c2)), by simpa using c3, by simpa using c4⟩
      simp (maxSteps:=500000) only [↓vp, vv, ↓reduceIte, simprocAttr, c48_8, c48_7, c48_6, TPl, selAbs, PF, PH, BO, netD, hj', hjn, hjq, hjq', Int.toNat_natCast, hg, hg2, hab, hm2, w2, w3, w4, Seg.row, c1, c2, c3, c4, y1, y2, w1]
      refine nx (O ++ [j]) (go + 1) _ _ (by rw [List.length_append, List.length_singleton]; omega) (fun k hk => by
       rcases List.mem_append.1 hk with hk | hk
       ·exact hOk k hk
       ·rw [List.mem_singleton.1 hk]; exact hnew) ⟨?_, ?_, ?_, ?_, ?_, ?_⟩ ⟨?_, ?_, ?_, ?_, ?_⟩ ?_ ?_ ?_ ?_ ?_ ?_ ?_ ?_ ?_ ?_ ?_ ?_ ?_ <;> simp (maxSteps:=500000) only [↓vp, vv, ↓reduceIte, simprocAttr, netD, w1, nRow, List.map_append]
   | false => exact key _ _ c1 c2 rfl
 ·have hj2 : j = n.segs.length := by omega
  have hj' : ¬ (j : Int) < n.segs.length := by omega
  simp (maxSteps:=500000) only [↓vp, vv, ↓reduceIte, simprocAttr, c48_8, PF, hj']
  refine hX _ O go hOk (by omega) ⟨?_, ?_, ?_, ?_, ?_, ?_⟩ ⟨?_, ?_, ?_, ?_, ?_⟩ ?_ <;> simp (maxSteps:=500000) only [↓vp, vv, ↓reduceIte, simprocAttr, ]
def c84_1 : C := (.seq (.ops true [oP 12 (.fa 1 (.t 2)), oA 13 (.ld 1 false (.t 12)) [0], oP 14 (.fa 2 (.t 2)), oA 15 (.ld 1 false (.t 14)) [2], oA 4 (.mv (.t 13)) [0, 1], oA 5 (.mv (.t 15)) [2, 1, 0, 4, 3]]) .ret)
def c84 : C := (.seq (.ops false [oP 2 (.box 7 (.t 0)), oP 4 (.mv (cI 0)), oP 5 (.mv (cI 0))]) (.seq (.seq (.ops false [oM 6 1, oP 7 (.bin .lss (.t 6) (cI 0))]) (.cond (.t 7) (.seq (.ops true [oP 8 (.fa 2 (.t 2)), oA 9 (.ld 1 false (.t 8)) [0], oP 10 (.fa 1 (.t 2)), oA 11 (.ld 1 false (.t 10)) [2], oA 4 (.mv (.t 9)) [0, 1], oA 5 (.mv (.t 11)) [2, 1, 0, 4, 3]]) .ret) .skip)) c84_1))
def r84 : List RV := [(.tmp 4), (.tmp 5)]
theorem c84_ok : ∃ code, Tryd.f84.body = some code ∧ compC Tryd.prog Tryd.f84.ntmps code = some (C.strip c84) := ⟨_, rfl, by kernel_rfl⟩
theorem r84_ok : compRes Tryd.prog Tryd.f84.results.toList = some r84 := by kernel_rfl
theorem f84_ok : fnOk Tryd.prog 84 = true := by kernel_rfl
def c85 : C := (.seq (.ops false [oP 2 (.mv (cI 0))]) (.seq (.ops false [oM 3 0, oM 4 0, oP 5 (.neg (.t 4)), oP 6 (.mnx true (.t 3) (.t 5)), oM 2 6]) .ret))
def r85 : List RV := [(.tmp 2)]
theorem c85_ok : ∃ code, Tryd.f85.body = some code ∧ compC Tryd.prog Tryd.f85.ntmps code = some (C.strip c85) := ⟨_, rfl, by kernel_rfl⟩
theorem r85_ok : compRes Tryd.prog Tryd.f85.results.toList = some r85 := by kernel_rfl
theorem f85_ok : fnOk Tryd.prog 85 = true := by kernel_rfl
set_option maxHeartbeats 4000000 in
theorem rends_c (s : Seg) (r : Int) (nn : Nm) : CallsA Tryd.prog 84 [.agg s.row, di r] Hp.none nn (Pu (.tup [di (frOf (s, r)), di (toOf (s, r))]) Hp.none) := by
 obtain ⟨code, h1, h2⟩ := c84_ok
 refine callsA_of (T0_ok _) mixed (N := fun t => (0, t)) Tryd.func84 h1 h2 r84_ok [] false js_nil js_nil' (by simp [Tryd.f84]) ?_
 by_cases a1 : r < 0 <;> simp (maxSteps:=500000) only [↓vp, vv, ↓reduceIte, simprocAttr, c84, r84, c84_1, Seg.row, a1, Pu, frOf, toOf]
set_option maxHeartbeats 1000000 in
theorem rabs_c (x : Int) (h : -1000000 ≤ x ∧ x ≤ 1000000) (nn : Nm) : CallsA Tryd.prog 85 [di x] Hp.none nn (Pu (di (absI x)) Hp.none) := by
 obtain ⟨code, h1, h2⟩ := c85_ok
 refine callsA_of (T0_ok _) mixed (N := fun t => (0, t)) Tryd.func85 h1 h2 r85_ok [] false js_nil js_nil' (by simp [Tryd.f85]) ?_
 have w1 : IntKind.i64.wrap (0 - x) = -x := by rw [wrap_i (by omega)]; omega
 have e : (if x < -x then -x else x) = absI x := rfl
 simp (maxSteps:=500000) only [↓vp, vv, ↓reduceIte, simprocAttr, c85, r85, w1, e, Pu]
theorem tc_rends {T : Tbl} (hT : TblOk Tryd.prog T) : TblOk Tryd.prog (tc 84 (rowPu selEnds) T) :=
 tc_pu f84_ok (fun args pre d h hp nn => by
  unfold selEnds at h
  split at h
  ·split at h
   ·rename_i hs
    cases h
    rw [segOf1_eq hs]
    exact rends_c _ _ nn
   ·cases h
  ·cases h) hT
theorem tc_rabs {T : Tbl} (hT : TblOk Tryd.prog T) : TblOk Tryd.prog (tc 85 (rowPu selAbs) T) :=
 tc_pu f85_ok (fun args pre d h hp nn => by
  unfold selAbs at h
  split at h <;> cases h
  exact rabs_c _ hp nn) hT
def c83_1 : C := (.seq (.ops false [oP 13 (.ld 6 true (.t 2)), oP 14 (.ld 3 true (.t 3)), oP 15 (.call 124 [(.t 13), (.t 14)]), oM 4 15, oP 5 (.mv (cI 0))]) .ret)
def c83 : C := (.seq (.ops false [oP 2 (.box 6 (.t 0)), oP 3 (.box 3 (.t 1)), oP 4 (.mv (.c .mt)), oP 5 (.mv (cI 0))]) (.seq (.seq (.ops false [oP 7 (.ld 6 true (.t 2)), oP 8 (.ld 3 true (.t 3)), oB 9 (.call 123 [(.t 7), (.t 8)]), oM 6 9]) (.seq (.ops false [oM 10 6, oP 11 (.bin .neq (.t 10) (cI 0))]) (.cond (.t 11) (.seq (.ops false [oM 12 6, oP 4 (.mv (.c .mt)),
 oM 5 12]) .ret) .skip))) c83_1))
def r83 : List RV := [(.tmp 4), (.tmp 5)]
theorem c83_ok : ∃ code, Tryd.f83.body = some code ∧ compC Tryd.prog Tryd.f83.ntmps code = some (C.strip c83) := ⟨_, rfl, by kernel_rfl⟩
theorem r83_ok : compRes Tryd.prog Tryd.f83.results.toList = some r83 := by kernel_rfl
theorem f83_ok : fnOk Tryd.prog 83 = true := by kernel_rfl
def c123_1 : C := (.ops false [oP 68 (.bin .add (.t 47) (cI 1)), oM 47 68])
def c123_2 : C := (.seq (.block 1 (.seq (.ops false [oM 49 47, oP 50 (.iaS 1 (.t 45) (.t 47)), oP 51 (.ld 1 false (.t 50)), oM 6 49, oM 7 51]) (.seq (.ops false [oP 52 (.fa 1 (.t 2)), oP 53 (.ld 1 false (.t 52)), oM 54 6, oP 55 (.iaS 7 (.t 53) (.t 54)), oP 56 (.fa 3 (.t 55)), oP 57 (.ld 1 false (.t 56)), oP 58 (.mnx false (cI 1000) (.t 57)), oM 8 58])
 (.seq (.ops false [oM 59 7, oM 60 8, oP 61 (.neg (.t 60)), oP 62 (.bin .lss (.t 59) (.t 61)), oM 63 62, oG 64 63 false (.mv (.t 7)), oG 65 63 false (.mv (.t 8)), oG 66 63 false (.bin .gtr (.t 64) (.t 65)), oP 67 (.pick (.t 63) (cB true) (.t 66))]) (.cond (.t 67) (.seq (.ops false [oP 4 (.mv (cI 1))]) .ret) .skip))))) c123_1)
def c123_3 : C := (.seq (.ops false [oP 48 (.bin .lss (.t 47) (.t 46))]) (.seq (.cond (.t 48) .skip (.exit 0)) c123_2))
def c123_4 : C := (.ops false [oP 82 (.bin .add (.t 72) (cI 1)), oM 72 82])
def c123_5 : C := (.seq (.block 3 (.seq (.ops false [oP 74 (.iaS 1 (.t 70) (.t 72)), oP 75 (.ld 1 false (.t 74)), oM 10 75]) (.seq (.ops false [oM 76 10, oP 77 (.bin .lss (.t 76) (cI (-1000))), oM 78 77, oG 79 78 false (.mv (.t 10)), oG 80 78 false (.bin .gtr (.t 79) (cI 1000)), oP 81 (.pick (.t 78) (cB true) (.t 80))]) (.cond (.t 81) (.seq (.ops false [oP 4 (.mv (cI 1))]) .ret)
 .skip)))) c123_4)
def c123_6 : C := (.seq (.ops false [oP 73 (.bin .lss (.t 72) (.t 71))]) (.seq (.cond (.t 73) .skip (.exit 2)) c123_5))
def c123_7 : C := (.ops false [oP 99 (.bin .add (.t 86) (cI 1)), oM 86 99])
def c123_8 : C := (.seq (.block 5 (.seq (.ops false [oM 88 86, oM 11 88]) (.seq (.ops false [oP 90 (.ld 6 true (.t 2)), oP 91 (.ld 3 true (.t 3)), oM 92 11, oB 93 (.call 149 [(.t 90), (.t 91), (.t 92)]), oM 89 93, oP 94 (.ext (.t 89) 0), oP 95 (.ext (.t 89) 1), oM 12 94, oM 13 95]) (.seq (.ops false [oM 96 12, oM 97 13,
 oP 98 (.bin .neq (.t 96) (.t 97))]) (.cond (.t 98) (.seq (.ops false [oP 4 (.mv (cI 12))]) .ret) .skip))))) c123_7)
def c123_9 : C := (.seq (.ops false [oP 87 (.bin .lss (.t 86) (.t 85))]) (.seq (.cond (.t 87) .skip (.exit 4)) c123_8))
def c123_10 : C := (.seq (.ops false [oP 4 (.mv (cI 0))]) .ret)
def c123_11 : C := (.seq (.seq (.ops true [oP 100 (.ld 6 true (.t 2)), oP 101 (.ld 3 true (.t 3)), oA 102 (.call 124 [(.t 100), (.t 101)]) [1, 0], oA 103 (.len (.t 102)) [0, 1, 2], oP 104 (.fa 0 (.t 2)), oA 105 (.ld 1 false (.t 104)) [4], oA 106 (.len (.t 105)) [4, 5], oA 107 (.bin .neq (.t 103) (.t 106)) [5, 4, 2, 1, 0, 6, 3]]) (.cond (.t 107) (.seq (.ops false [oP 4 (.mv (cI 13))]) .ret) .skip)) c123_10)
def c123_12 : C := (.seq (.seq (.ops false [oP 83 (.fa 0 (.t 2)), oP 84 (.ld 1 false (.t 83)), oP 85 (.len (.t 84)), oP 86 (.mv (cI 0))]) (.block 4 (.loop c123_9))) c123_11)
def c123_13 : C := (.seq (.seq (.ops false [oP 69 (.fa 1 (.t 3)), oP 70 (.ld 1 false (.t 69)), oP 71 (.len (.t 70)), oP 72 (.mv (cI 0))]) (.block 2 (.loop c123_6))) c123_12)
def c123_14 : C := (.seq (.seq (.ops false [oP 44 (.fa 0 (.t 3)), oP 45 (.ld 1 false (.t 44)), oP 46 (.len (.t 45)), oP 47 (.mv (cI 0))]) (.block 0 (.loop c123_3))) c123_13)
def c123_15 : C := (.seq (.seq (.ops false [oP 19 (.fa 0 (.t 3)), oP 20 (.ld 1 false (.t 19)), oP 21 (.len (.t 20)), oP 22 (.fa 1 (.t 2)), oP 23 (.ld 1 false (.t 22)), oP 24 (.len (.t 23)), oP 25 (.bin .neq (.t 21) (.t 24)), oM 26 25, oG 27 26 false (.fa 1 (.t 3)), oG 28 26 false (.ld 1 false (.t 27)), oG 29 26 false (.len (.t 28)), oG 30 26 false (.fa 2 (.t 2)), oG 31 26 false (.ld 1 false (.t 30)),
 oG 32 26 false (.len (.t 31)), oG 33 26 false (.bin .neq (.t 29) (.t 32)), oP 34 (.pick (.t 26) (cB true) (.t 33)), oM 35 34, oG 36 35 false (.fa 2 (.t 3)), oG 37 35 false (.ld 1 false (.t 36)), oG 38 35 false (.len (.t 37)), oG 39 35 false (.fa 3 (.t 2)), oG 40 35 false (.ld 1 false (.t 39)), oG 41 35 false (.len (.t 40)), oG 42 35 false (.bin .neq (.t 38) (.t 41)),
 oP 43 (.pick (.t 35) (cB true) (.t 42))]) (.cond (.t 43) (.seq (.ops false [oP 4 (.mv (cI 9))]) .ret) .skip)) c123_14)
def c123 : C := (.seq (.ops false [oP 2 (.box 6 (.t 0)), oP 3 (.box 3 (.t 1)), oP 4 (.mv (cI 0))]) (.seq (.seq (.ops false [oP 14 (.ld 6 true (.t 2)), oB 15 (.call 78 [(.t 14)]), oM 5 15]) (.seq (.ops false [oM 16 5, oP 17 (.bin .neq (.t 16) (cI 0))]) (.cond (.t 17) (.seq (.ops false [oM 18 5, oM 4 18]) .ret) .skip))) c123_15))
def r123 : List RV := [(.tmp 4)]
theorem c123_ok : ∃ code, Tryd.f123.body = some code ∧ compC Tryd.prog Tryd.f123.ntmps code = some (C.strip c123) := ⟨_, rfl, by kernel_rfl⟩
theorem r123_ok : compRes Tryd.prog Tryd.f123.results.toList = some r123 := by kernel_rfl
theorem f123_ok : fnOk Tryd.prog 123 = true := by kernel_rfl
def c124_1 : C := (.ops false [oP 65 (.bin .add (.t 32) (cI 1)), oM 32 65])
def c124_2 : C := (.seq (.block 5 (.seq (.ops false [oM 34 32, oP 35 (.iaS 7 (.t 30) (.t 32)), oP 36 (.ld 7 true (.t 35)), oP 11 (.new [(.v (.string ({ data := #[] }))), (.v (.int .i64 0)), (.v (.int .i64 0)), (.v (.int .i64 0)), (.v (.int .i64 0)), (.v (.int .i64 0)), .mt]), oM 10 34, oS (.st 7 (.t 11) (.t 36))]) (.seq (.ops false [oP 37 (.fa 0 (.t 3)), oP 38 (.ld 1 false (.t 37)),
 oM 39 10, oP 40 (.iaS 1 (.t 38) (.t 39)), oP 41 (.ld 1 false (.t 40)), oP 42 (.bin .neq (.t 41) (cI 0))]) (.cond (.t 42) (.seq (.ops true [oP 44 (.ld 7 true (.t 11)), oP 45 (.fa 0 (.t 3)), oA 46 (.ld 1 false (.t 45)) [1], oM 47 10, oA 48 (.iaS 1 (.t 46) (.t 47)) [1, 3, 2], oA 49 (.ld 1 false (.t 48)) [2, 3, 1, 4], oE 50 (.call 84 [(.t 44), (.t 49)]) [4, 1, 3, 2, 5, 0],
 oA 43 (.mv (.t 50)) [0, 5, 2, 3, 1, 4, 6], oA 51 (.ext (.t 43) 0) [6, 4, 1, 3, 2, 5, 0, 7], oA 52 (.ext (.t 43) 1) [6, 4, 1, 3, 2, 5, 0, 7], oA 12 (.mv (.t 51)) [7, 5, 4, 3, 2, 1, 0, 6, 8], oA 13 (.mv (.t 52)) [8, 7, 6, 5, 4, 3, 2, 1, 0, 10, 9]]) (.ops false [oM 53 9, oM 54 53, oG 55 54 true (.mv (.t 13)), oG 56 54 true (.mv (.t 8)), oG 57 54 true (.bin .neq (.t 55) (.t 56)),
 oG 58 54 true (.mv (.t 57)), oG 59 58 false (.mv (.t 6)), oG 60 58 false (.mv (.t 12)), oG 61 58 false (.iaS 1 (.t 59) (.t 60)), oG 62 58 false (.ld 1 false (.t 61)), oG 63 54 true (.pick (.t 58) (cB true) (.t 62)), oP 64 (.pick (.t 54) (.t 63) (cB false)), oM 9 64])) .skip)))) c124_1)
def c124_3 : C := (.seq (.ops false [oP 33 (.bin .lss (.t 32) (.t 31))]) (.seq (.cond (.t 33) .skip (.exit 4)) c124_2))
def c124_4 : C := (.seq (.ops false [oM 66 9, oM 67 66, oG 68 67 true (.mv (.t 7)), oG 69 67 true (.bin .lss (.t 68) (cI 0)), oP 70 (.pick (.t 67) (.t 69) (cB false))]) (.cond (.t 70) (.ops false [oM 71 8, oM 7 71]) .skip))
def c124_5 : C := (.ops false [oP 72 (.bin .add (.t 21) (cI 1)), oM 21 72])
def c124_6 : C := (.seq (.block 3 (.seq (.ops false [oM 23 21, oM 8 23]) (.seq (.ops false [oM 24 6, oM 25 8, oP 26 (.iaS 1 (.t 24) (.t 25)), oP 27 (.ld 1 false (.t 26)), oP 28 (.not (.t 27)), oM 9 28]) (.seq (.seq (.ops false [oP 29 (.fa 1 (.t 2)), oP 30 (.ld 1 false (.t 29)), oP 31 (.len (.t 30)), oP 32 (.mv (cI 0))]) (.block 4 (.loop c124_3))) c124_4))))
 c124_5)
def c124_7 : C := (.seq (.ops false [oP 22 (.bin .lss (.t 21) (.t 20))]) (.seq (.cond (.t 22) .skip (.exit 2)) c124_6))
def c124_8 : C := (.seq (.ops false [oM 76 5, oM 77 7, oP 78 (.bsl 1 1 [(.v (.int .i64 0))] [(0, (.t 77))]), oP 79 (.app 1 8 (.t 76) (.t 78)), oM 5 79]) (.ops false [oM 80 6, oM 81 7, oP 82 (.iaS 1 (.t 80) (.t 81)), oS (.st 1 (.t 82) (cB true))]))
def c124_9 : C := (.seq (.seq (.ops false [oM 73 7, oP 74 (.bin .lss (.t 73) (cI 0))]) (.cond (.t 74) (.seq (.ops false [oM 75 5, oM 4 75]) .ret) .skip)) c124_8)
def c124_10 : C := (.block 1 (.seq (.ops false [oP 7 (.mv (cI (-1)))]) (.seq (.seq (.ops false [oP 18 (.fa 0 (.t 2)), oP 19 (.ld 1 false (.t 18)), oP 20 (.len (.t 19)), oP 21 (.mv (cI 0))]) (.block 2 (.loop c124_7))) c124_9)))
def c124 : C := (.seq (.ops false [oP 2 (.box 6 (.t 0)), oP 3 (.box 3 (.t 1)), oP 4 (.mv (.c .mt))]) (.seq (.ops false [oP 5 (.mv (.c .mt))]) (.seq (.ops false [oP 14 (.fa 0 (.t 2)), oP 15 (.ld 1 false (.t 14)), oP 16 (.len (.t 15)), oP 17 (.mks 1 1 [(.v (.bool false))] (.t 16)), oM 6 17]) (.block 0 (.loop c124_10)))))
def r124 : List RV := [(.tmp 4)]
theorem c124_ok : ∃ code, Tryd.f124.body = some code ∧ compC Tryd.prog Tryd.f124.ntmps code = some (C.strip c124) := ⟨_, rfl, by kernel_rfl⟩
theorem r124_ok : compRes Tryd.prog Tryd.f124.results.toList = some r124 := by kernel_rfl
theorem f124_ok : fnOk Tryd.prog 124 = true := by kernel_rfl
def c149_1 : C := (.seq (.ops false [oM 51 13, oM 52 2, oP 53 (.bin .eql (.t 51) (.t 52))]) (.cond (.t 53) (.ops false [oM 54 8, oP 55 (.fa 0 (.t 4)), oP 56 (.ld 1 false (.t 55)), oM 57 10, oP 58 (.iaS 1 (.t 56) (.t 57)), oP 59 (.ld 1 false (.t 58)), oB 60 (.call 85 [(.t 59)]), oP 61 (.bin .add (.t 54) (.t 60)), oM 8 61]) .skip))
def c149_2 : C := (.seq (.ops true [oP 31 (.ld 7 true (.t 11)), oP 32 (.fa 0 (.t 4)), oA 33 (.ld 1 false (.t 32)) [1], oM 34 10, oA 35 (.iaS 1 (.t 33) (.t 34)) [1, 3, 2], oA 36 (.ld 1 false (.t 35)) [2, 3, 1, 4], oE 37 (.call 84 [(.t 31), (.t 36)]) [4, 1, 3, 2, 5, 0], oA 30 (.mv (.t 37)) [0, 5, 2, 3, 1, 4, 6], oA 38 (.ext (.t 30) 0) [6, 4, 1, 3, 2, 5, 0, 7], oA 39 (.ext (.t 30) 1) [6, 4, 1, 3, 2, 5, 0,
 7], oA 12 (.mv (.t 38)) [7, 5, 4, 3, 2, 1, 0, 6, 8], oA 13 (.mv (.t 39)) [8, 7, 6, 5, 4, 3, 2, 1, 0, 10, 9]]) (.seq (.seq (.ops false [oM 40 12, oM 41 2, oP 42 (.bin .eql (.t 40) (.t 41))]) (.cond (.t 42) (.ops false [oM 43 9, oP 44 (.fa 0 (.t 4)), oP 45 (.ld 1 false (.t 44)), oM 46 10, oP 47 (.iaS 1 (.t 45) (.t 46)), oP 48 (.ld 1 false (.t 47)),
 oB 49 (.call 85 [(.t 48)]), oP 50 (.bin .add (.t 43) (.t 49)), oM 9 50]) .skip)) c149_1))
def c149_3 : C := (.ops false [oP 62 (.bin .add (.t 19) (cI 1)), oM 19 62])
def c149_4 : C := (.seq (.block 1 (.seq (.ops false [oM 21 19, oP 22 (.iaS 7 (.t 17) (.t 19)), oP 23 (.ld 7 true (.t 22)), oP 11 (.new [(.v (.string ({ data := #[] }))), (.v (.int .i64 0)), (.v (.int .i64 0)), (.v (.int .i64 0)), (.v (.int .i64 0)), (.v (.int .i64 0)), .mt]), oM 10 21, oS (.st 7 (.t 11) (.t 23))]) (.seq (.seq (.ops false [oP 24 (.fa 0 (.t 4)), oP 25 (.ld 1 false (.t 24)),
 oM 26 10, oP 27 (.iaS 1 (.t 25) (.t 26)), oP 28 (.ld 1 false (.t 27)), oP 29 (.bin .eql (.t 28) (cI 0))]) (.cond (.t 29) (.exit 1) .skip)) c149_2))) c149_3)
def c149_5 : C := (.seq (.ops false [oP 20 (.bin .lss (.t 19) (.t 18))]) (.seq (.cond (.t 20) .skip (.exit 0)) c149_4))
def c149_6 : C := (.ops false [oP 92 (.bin .add (.t 66) (cI 1)), oM 66 92])
def c149_7 : C := (.seq (.block 3 (.seq (.ops false [oM 68 66, oP 69 (.iaS 3 (.t 64) (.t 66)), oP 70 (.ld 3 true (.t 69)), oP 15 (.new [(.v (.string ({ data := #[] }))), (.v (.int .i64 0)), (.v (.int .i64 0))]), oM 14 68, oS (.st 3 (.t 15) (.t 70))]) (.seq (.ops false [oP 71 (.fa 1 (.t 15)), oP 72 (.ld 1 false (.t 71)), oM 73 2, oP 74 (.bin .eql (.t 72) (.t 73))]) (.cond (.t 74)
 (.ops true [oM 75 8, oP 76 (.fa 1 (.t 4)), oA 77 (.ld 1 false (.t 76)) [1], oM 78 14, oA 79 (.iaS 1 (.t 77) (.t 78)) [1, 3, 2], oA 80 (.ld 1 false (.t 79)) [2, 3, 1, 4], oA 81 (.mnx true (cI 0) (.t 80)) [4, 1, 3, 2, 5], oA 82 (.bin .add (.t 75) (.t 81)) [5, 2, 3, 1, 4, 6, 0], oM 83 9, oP 84 (.fa 1 (.t 4)), oA 85 (.ld 1 false (.t 84)) [9], oM 86 14,
 oA 87 (.iaS 1 (.t 85) (.t 86)) [9, 11, 10], oA 88 (.ld 1 false (.t 87)) [10, 11, 9, 12], oA 89 (.neg (.t 88)) [12, 9, 11, 10, 13], oA 90 (.mnx true (cI 0) (.t 89)) [13, 10, 11, 9, 12, 14], oA 91 (.bin .add (.t 83) (.t 90)) [14, 12, 9, 11, 10, 13, 15, 8], oA 8 (.mv (.t 82)) [6, 5, 4, 3, 2, 1, 0, 7], oA 9 (.mv (.t 91)) [15, 14, 13, 12, 11, 10, 9, 8, 7, 6, 5, 4, 3, 2, 1, 0, 17, 16]]) .skip))))
 c149_6)
def c149_8 : C := (.seq (.ops false [oP 67 (.bin .lss (.t 66) (.t 65))]) (.seq (.cond (.t 67) .skip (.exit 2)) c149_7))
def c149_9 : C := (.seq (.ops false [oM 93 8, oM 94 9, oM 6 93, oM 7 94]) .ret)
def c149_10 : C := (.seq (.seq (.ops false [oP 63 (.fa 2 (.t 3)), oP 64 (.ld 1 false (.t 63)), oP 65 (.len (.t 64)), oP 66 (.mv (cI 0))]) (.block 2 (.loop c149_8))) c149_9)
def c149 : C := (.seq (.ops false [oP 3 (.box 6 (.t 0)), oP 4 (.box 3 (.t 1)), oP 6 (.mv (cI 0)), oP 7 (.mv (cI 0))]) (.seq (.ops false [oP 8 (.mv (cI 0)), oP 9 (.mv (cI 0))]) (.seq (.seq (.ops false [oP 16 (.fa 1 (.t 3)), oP 17 (.ld 1 false (.t 16)), oP 18 (.len (.t 17)), oP 19 (.mv (cI 0))]) (.block 0 (.loop c149_5))) c149_10)))
def r149 : List RV := [(.tmp 6), (.tmp 7)]
theorem c149_ok : ∃ code, Tryd.f149.body = some code ∧ compC Tryd.prog Tryd.f149.ntmps code = some (C.strip c149) := ⟨_, rfl, by kernel_rfl⟩
theorem r149_ok : compRes Tryd.prog Tryd.f149.results.toList = some r149 := by kernel_rfl
theorem f149_ok : fnOk Tryd.prog 149 = true := by kernel_rfl
end Go.Proofs.YtehmmnnmkapfeaaDoor
