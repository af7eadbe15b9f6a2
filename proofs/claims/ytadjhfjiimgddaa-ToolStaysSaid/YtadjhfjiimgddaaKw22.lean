/- ToolStays: CodeTJ. -/
import Derived.Test.YtadjhfjiimgddaaKw3
import Derived.Test.YtadjhfjiimgddaaProg
set_option maxRecDepth 100000
/- Compiled code of some functions (printed by a program), each checked by the kernel. -/
namespace Go.Proofs.Ytadjhfjiimgddaa
open Go
def c29_1 : C := (.seq (.block 1 (.seq (.ops false [oM 63 61, oM 16 63]) (.ops false [oM 64 12, oM 65 16, oP 66 (.bsl 2 0 [(.v (.int .i64 0)), (.v (.int .i64 0))] []), oM 67 1, oM 68 16, oP 69 (.iaS 1 (.t 67) (.t 68)), oP 70 (.ld 1 false (.t 69)), oP 71 (.app 2 16 (.t 66) (.t 70)), oP 72 (.iaS 1 (.t 64) (.t 65)), oS (.st 1 (.t 72) (.t 71))])))
 (.ops false [oP 73 (.bin .add (.t 61) (cI 1)), oM 61 73]))
def c29_2 : C := (.seq (.ops false [oP 62 (.bin .lss (.t 61) (.t 60))]) (.seq (.cond (.t 62) .skip (.exit 0)) c29_1))
def c29_3 : C := (.seq (.ops false [oP 119 (.fa 1 (.t 26)), oP 120 (.ld 1 false (.t 119)), oM 121 20, oP 122 (.bin .eql (.t 120) (.t 121)), oM 123 122, oG 124 123 true (.fa 1 (.t 6)), oG 125 123 true (.ld 1 false (.t 124)), oG 126 123 true (.mv (.t 25)), oG 127 123 true (.iaS 1 (.t 125) (.t 126)), oG 128 123 true (.ld 1 false (.t 127)), oG 129 123 true (.bin .lss (.t 128) (cI 0)),
 oP 130 (.pick (.t 123) (.t 129) (cB false))]) (.cond (.t 130) (.ops false [oM 131 22, oP 132 (.fa 1 (.t 6)), oP 133 (.ld 1 false (.t 132)), oM 134 25, oP 135 (.iaS 1 (.t 133) (.t 134)), oP 136 (.ld 1 false (.t 135)), oP 137 (.neg (.t 136)), oP 138 (.bsl 1 1 [(.v (.int .i64 0))] [(0, (.t 137))]), oP 139 (.app 1 8 (.t 131) (.t 138)), oM 140 23, oM 141 25,
 oP 142 (.bsl 1 1 [(.v (.int .i64 0))] [(0, (.t 141))]), oP 143 (.app 1 8 (.t 140) (.t 142)), oM 22 139, oM 23 143]) .skip))
def c29_4 : C := (.ops false [oP 144 (.bin .add (.t 89) (cI 1)), oM 89 144])
def c29_5 : C := (.seq (.block 5 (.seq (.ops false [oM 91 89, oP 92 (.iaS 3 (.t 87) (.t 89)), oP 93 (.ld 3 true (.t 92)), oP 26 (.new [(.v (.string ({ data := #[] }))), (.v (.int .i64 0)), (.v (.int .i64 0))]), oM 25 91, oS (.st 3 (.t 26) (.t 93))]) (.seq (.seq (.ops false [oP 94 (.fa 1 (.t 26)), oP 95 (.ld 1 false (.t 94)), oM 96 20, oP 97 (.bin .eql (.t 95) (.t 96)),
 oM 98 97, oG 99 98 true (.fa 1 (.t 6)), oG 100 98 true (.ld 1 false (.t 99)), oG 101 98 true (.mv (.t 25)), oG 102 98 true (.iaS 1 (.t 100) (.t 101)), oG 103 98 true (.ld 1 false (.t 102)), oG 104 98 true (.bin .gtr (.t 103) (cI 0)), oP 105 (.pick (.t 98) (.t 104) (cB false))]) (.cond (.t 105) (.ops true [oM 106 21, oM 107 3, oM 108 25,
 oA 109 (.iaS 1 (.t 107) (.t 108)) [2, 1], oA 110 (.ld 1 false (.t 109)) [1, 2, 3], oP 111 (.fa 1 (.t 6)), oA 112 (.ld 1 false (.t 111)) [5], oM 113 25, oA 114 (.iaS 1 (.t 112) (.t 113)) [5, 7, 6], oA 115 (.ld 1 false (.t 114)) [6, 7, 5, 8], oA 116 (.bld [(.v (.int .i64 0)), (.v (.int .i64 0))] [(0, (1, (.t 110))), (1, (1, (.t 115)))]) [8, 5, 7, 6, 3, 2, 1, 9, 4],
 oA 117 (.bsl 2 1 [(.v (.int .i64 0)), (.v (.int .i64 0))] [(0, (.t 116))]) [4, 9, 1, 2, 3, 6, 7, 5, 8, 10], oA 118 (.app 2 16 (.t 106) (.t 117)) [10, 8, 5, 7, 6, 3, 2, 1, 9, 4, 11, 0], oA 21 (.mv (.t 118)) [11, 10, 9, 8, 7, 6, 5, 4, 3, 2, 1, 0, 12]]) .skip)) c29_3))) c29_4)
def c29_6 : C := (.seq (.ops false [oP 90 (.bin .lss (.t 89) (.t 88))]) (.seq (.cond (.t 90) .skip (.exit 4)) c29_5))
def c29_7 : C := (.seq (.ops false [oM 178 29, oM 179 20, oP 180 (.bin .eql (.t 178) (.t 179))]) (.cond (.t 180) (.ops false [oM 181 22, oP 182 (.fa 0 (.t 6)), oP 183 (.ld 1 false (.t 182)), oM 184 27, oP 185 (.iaS 1 (.t 183) (.t 184)), oP 186 (.ld 1 false (.t 185)), oB 187 (.call 84 [(.t 186)]), oP 188 (.bsl 1 1 [(.v (.int .i64 0))] [(0, (.t 187))]),
 oP 189 (.app 1 8 (.t 181) (.t 188)), oM 190 24, oM 191 27, oP 192 (.bsl 1 1 [(.v (.int .i64 0))] [(0, (.t 191))]), oP 193 (.app 1 8 (.t 190) (.t 192)), oM 22 189, oM 24 193]) .skip))
def c29_8 : C := (.seq (.ops true [oP 160 (.ld 7 true (.t 28)), oP 161 (.fa 0 (.t 6)), oA 162 (.ld 1 false (.t 161)) [1], oM 163 27, oA 164 (.iaS 1 (.t 162) (.t 163)) [1, 3, 2], oA 165 (.ld 1 false (.t 164)) [2, 3, 1, 4], oE 166 (.call 83 [(.t 160), (.t 165)]) [4, 1, 3, 2, 5, 0], oA 159 (.mv (.t 166)) [0, 5, 2, 3, 1, 4, 6], oA 167 (.ext (.t 159) 0) [6, 4, 1, 3, 2, 5, 0, 7], oA 168 (.ext (.t 159) 1) [6,
 4, 1, 3, 2, 5, 0, 7], oA 29 (.mv (.t 167)) [7, 5, 4, 3, 2, 1, 0, 6, 8], oA 30 (.mv (.t 168)) [8, 7, 6, 5, 4, 3, 2, 1, 0, 10, 9]]) (.seq (.seq (.ops false [oM 169 30, oM 170 20, oP 171 (.bin .eql (.t 169) (.t 170))]) (.cond (.t 171) (.ops false [oM 172 21, oM 173 14, oM 174 27, oP 175 (.iaS 1 (.t 173) (.t 174)), oP 176 (.ld 1 false (.t 175)),
 oP 177 (.app 2 16 (.t 172) (.t 176)), oM 21 177]) .skip)) c29_7))
def c29_9 : C := (.ops false [oP 194 (.bin .add (.t 148) (cI 1)), oM 148 194])
def c29_10 : C := (.seq (.block 7 (.seq (.ops false [oM 150 148, oP 151 (.iaS 7 (.t 146) (.t 148)), oP 152 (.ld 7 true (.t 151)), oP 28 (.new [(.v (.string ({ data := #[] }))), (.v (.int .i64 0)), (.v (.int .i64 0)), (.v (.int .i64 0)), (.v (.int .i64 0)), (.v (.int .i64 0)), .mt]), oM 27 150, oS (.st 7 (.t 28) (.t 152))]) (.seq (.seq (.ops false [oP 153 (.fa 0 (.t 6)),
 oP 154 (.ld 1 false (.t 153)), oM 155 27, oP 156 (.iaS 1 (.t 154) (.t 155)), oP 157 (.ld 1 false (.t 156)), oP 158 (.bin .eql (.t 157) (cI 0))]) (.cond (.t 158) (.exit 7) .skip)) c29_8))) c29_9)
def c29_11 : C := (.seq (.ops false [oP 149 (.bin .lss (.t 148) (.t 147))]) (.seq (.cond (.t 149) .skip (.exit 6)) c29_10))
def c29_12 : C := (.seq (.block 9 (.seq (.ops false [oM 213 211, oP 214 (.iaS 1 (.t 209) (.t 211)), oP 215 (.ld 1 false (.t 214)), oM 32 213, oM 33 215]) (.ops false [oM 216 13, oM 217 33, oM 218 31, oM 219 32, oP 220 (.iaS 1 (.t 218) (.t 219)), oP 221 (.ld 1 false (.t 220)), oP 222 (.iaS 1 (.t 216) (.t 217)), oS (.st 1 (.t 222)
 (.t 221))]))) (.ops false [oP 223 (.bin .add (.t 211) (cI 1)), oM 211 223]))
def c29_13 : C := (.seq (.ops false [oP 212 (.bin .lss (.t 211) (.t 210))]) (.seq (.cond (.t 212) .skip (.exit 8)) c29_12))
def c29_14 : C := (.ops false [oM 265 14, oM 266 35, oM 267 38, oP 268 (.iaS 1 (.t 265) (.t 266)), oS (.st 1 (.t 268) (.t 267))])
def c29_15 : C := (.seq (.ops false [oP 38 (.mv (.c .mt))]) (.seq (.ops false [oM 249 12, oM 250 35, oM 251 12, oM 252 35, oP 253 (.iaS 1 (.t 251) (.t 252)), oP 254 (.ld 1 false (.t 253)), oM 255 36, oM 256 37, oP 257 (.call 88 [(.t 254), (.t 255), (.t 256)]), oM 248 257, oP 258 (.ext (.t 248) 0), oP 259 (.ext (.t 248) 1),
 oP 260 (.iaS 1 (.t 249) (.t 250)), oS (.st 1 (.t 260) (.t 258)), oM 38 259]) (.seq (.seq (.ops false [oM 261 37, oP 262 (.not (.t 261))]) (.cond (.t 262) (.ops false [oM 263 38, oP 264 (.call 87 [(.t 263)]), oM 38 264]) .skip)) c29_14)))
def c29_16 : C := (.ops false [oP 269 (.bin .add (.t 226) (cI 1)), oM 226 269])
def c29_17 : C := (.seq (.block 11 (.seq (.ops false [oM 228 226, oP 229 (.iaS 1 (.t 224) (.t 226)), oP 230 (.ld 1 false (.t 229)), oM 34 228, oM 35 230]) (.seq (.ops true [oM 231 31, oM 232 23, oA 233 (.len (.t 232)) [1], oM 234 34, oA 235 (.bin .add (.t 233) (.t 234)) [1, 3, 2], oA 236 (.iaS 1 (.t 231) (.t 235)) [2, 3, 1, 4, 0],
 oA 237 (.ld 1 false (.t 236)) [0, 4, 1, 3, 2, 5], oP 238 (.fa 0 (.t 6)), oA 239 (.ld 1 false (.t 238)) [7], oM 240 35, oA 241 (.iaS 1 (.t 239) (.t 240)) [7, 9, 8], oA 242 (.ld 1 false (.t 241)) [8, 9, 7, 10], oA 243 (.bin .lss (.t 242) (cI 0)) [10, 7, 9, 8, 11], oA 36 (.mv (.t 237)) [5, 4, 3, 2, 1, 0, 6], oA 37 (.mv (.t 243)) [11, 10, 9, 8, 7, 6, 5, 4, 3, 2, 1, 0, 13, 12]])
 (.seq (.seq (.ops false [oM 244 37, oP 245 (.not (.t 244))]) (.cond (.t 245) (.ops false [oM 246 36, oP 247 (.call 87 [(.t 246)]), oM 36 247]) .skip)) c29_15)))) c29_16)
def c29_18 : C := (.seq (.ops false [oP 227 (.bin .lss (.t 226) (.t 225))]) (.seq (.cond (.t 227) .skip (.exit 10)) c29_17))
def c29_19 : C := (.seq (.ops false [oM 224 24, oP 225 (.len (.t 224)), oP 226 (.mv (cI 0))]) (.block 10 (.loop c29_18)))
def c29_20 : C := (.seq (.ops false [oM 206 21, oM 207 22, oP 208 (.call 86 [(.t 206), (.t 207)]), oM 31 208]) (.seq (.seq (.ops false [oM 209 23, oP 210 (.len (.t 209)), oP 211 (.mv (cI 0))]) (.block 8 (.loop c29_13))) c29_19))
def c29_21 : C := (.seq (.ops false [oM 195 21, oP 196 (.call 85 [(.t 195)]), oM 21 196]) (.seq (.ops false [oM 197 15, oM 198 197, oG 199 198 false (.mv (.t 21)), oG 200 198 false (.len (.t 199)), oG 201 198 false (.bin .gtr (.t 200) (cI 200)), oP 202 (.pick (.t 198) (cB true) (.t 201)), oM 15 202]) (.seq (.seq (.ops false [oM 203 21,
 oP 204 (.len (.t 203)), oP 205 (.bin .eql (.t 204) (cI 0))]) (.cond (.t 205) (.exit 3) .skip)) c29_20)))
def c29_22 : C := (.seq (.seq (.ops false [oP 145 (.fa 1 (.t 4)), oP 146 (.ld 1 false (.t 145)), oP 147 (.len (.t 146)), oP 148 (.mv (cI 0))]) (.block 6 (.loop c29_11))) c29_21)
def c29_23 : C := (.ops false [oP 270 (.bin .add (.t 82) (cI 1)), oM 82 270])
def c29_24 : C := (.seq (.block 3 (.seq (.ops false [oP 84 (.iaS 1 (.t 80) (.t 82)), oP 85 (.ld 1 false (.t 84)), oM 20 85]) (.seq (.ops false [oP 21 (.mv (.c .mt))]) (.seq (.ops false [oP 22 (.mv (.c .mt)), oP 23 (.mv (.c .mt)), oP 24 (.mv (.c .mt))]) (.seq (.seq (.ops false [oP 86 (.fa 2 (.t 4)), oP 87 (.ld 1 false (.t 86)), oP 88 (.len (.t 87)), oP 89 (.mv (cI 0))]) (.block 4 (.loop c29_6)))
 c29_22))))) c29_23)
def c29_25 : C := (.seq (.ops false [oP 83 (.bin .lss (.t 82) (.t 81))]) (.seq (.cond (.t 83) .skip (.exit 2)) c29_24))
def c29_26 : C := (.seq (.block 13 (.seq (.ops false [oM 275 273, oM 39 275]) (.ops false [oM 276 15, oM 277 276, oG 278 277 false (.mv (.t 12)), oG 279 277 false (.mv (.t 39)), oG 280 277 false (.iaS 1 (.t 278) (.t 279)), oG 281 277 false (.ld 1 false (.t 280)), oG 282 277 false (.len (.t 281)), oG 283 277 false (.bin .gtr (.t 282) (cI 200)), oP 284 (.pick (.t 277)
 (cB true) (.t 283)), oM 285 284, oG 286 285 false (.mv (.t 14)), oG 287 285 false (.mv (.t 39)), oG 288 285 false (.iaS 1 (.t 286) (.t 287)), oG 289 285 false (.ld 1 false (.t 288)), oG 290 285 false (.len (.t 289)), oG 291 285 false (.bin .gtr (.t 290) (cI 200)), oP 292 (.pick (.t 285) (cB true) (.t 291)), oM 15 292]))) (.ops false [oP 293 (.bin .add (.t 273) (cI 1)),
 oM 273 293]))
def c29_27 : C := (.seq (.ops false [oP 274 (.bin .lss (.t 273) (.t 272))]) (.seq (.cond (.t 274) .skip (.exit 12)) c29_26))
def c29_28 : C := (.seq (.block 15 (.seq (.ops false [oM 298 296, oM 40 298]) (.ops false [oM 299 15, oM 300 299, oG 301 300 false (.mv (.t 13)), oG 302 300 false (.mv (.t 40)), oG 303 300 false (.iaS 1 (.t 301) (.t 302)), oG 304 300 false (.ld 1 false (.t 303)), oG 305 300 false (.len (.t 304)), oG 306 300 false (.bin .gtr (.t 305) (cI 200)), oP 307 (.pick (.t 300)
 (cB true) (.t 306)), oM 15 307]))) (.ops false [oP 308 (.bin .add (.t 296) (cI 1)), oM 296 308]))
def c29_29 : C := (.seq (.ops false [oP 297 (.bin .lss (.t 296) (.t 295))]) (.seq (.cond (.t 297) .skip (.exit 14)) c29_28))
def c29_30 : C := (.seq (.ops false [oM 310 12, oM 311 13, oM 8 310, oM 9 311, oP 10 (.mv (cI 0))]) .ret)
def c29_31 : C := (.seq (.seq (.ops false [oM 309 15]) (.cond (.t 309) (.seq (.ops false [oP 8 (.mv (.c .mt)), oP 9 (.mv (.c .mt)), oP 10 (.mv (cI 4))]) .ret) .skip)) c29_30)
def c29_32 : C := (.seq (.seq (.ops false [oM 294 13, oP 295 (.len (.t 294)), oP 296 (.mv (cI 0))]) (.block 14 (.loop c29_29))) c29_31)
def c29_33 : C := (.seq (.seq (.ops false [oM 271 12, oP 272 (.len (.t 271)), oP 273 (.mv (cI 0))]) (.block 12 (.loop c29_27))) c29_32)
def c29_34 : C := (.seq (.ops false [oP 75 (.ld 6 true (.t 4)), oP 76 (.ld 3 true (.t 6)), oP 77 (.call 82 [(.t 75), (.t 76)]), oM 74 77, oP 78 (.ext (.t 74) 0), oP 79 (.ext (.t 74) 1), oM 17 78, oM 18 79]) (.seq (.seq (.ops false [oM 80 17, oP 81 (.len (.t 80)), oP 82 (.mv (cI 0))]) (.block 2 (.loop c29_25))) c29_33))
def c29_35 : C := (.seq (.ops true [oM 49 1, oA 50 (.len (.t 49)) [0], oA 51 (.mks 1 24 [.mt] (.t 50)) [0, 1], oP 52 (.fa 2 (.t 4)), oA 53 (.ld 1 false (.t 52)) [3], oA 54 (.len (.t 53)) [3, 4], oA 55 (.mks 1 24 [.mt] (.t 54)) [4, 3, 5], oA 12 (.mv (.t 51)) [1, 0, 2], oA 13 (.mv (.t 55)) [5, 4, 3, 2, 1, 0, 7, 6]]) (.seq (.ops false [oM 56 1, oP 57 (.len (.t 56)), oP 58 (.mks 1 24 [.mt]
 (.t 57)), oM 14 58]) (.seq (.ops false [oP 15 (.mv (cB false))]) (.seq (.seq (.ops false [oM 59 1, oP 60 (.len (.t 59)), oP 61 (.mv (cI 0))]) (.block 0 (.loop c29_2))) c29_34))))
def c29 : C := (.seq (.ops false [oP 4 (.box 6 (.t 0)), oP 6 (.box 3 (.t 2)), oP 8 (.mv (.c .mt)), oP 9 (.mv (.c .mt)), oP 10 (.mv (cI 0))]) (.seq (.seq (.ops false [oP 41 (.ld 6 true (.t 4)), oM 42 1, oP 43 (.ld 3 true (.t 6)), oM 44 3, oB 45 (.call 81 [(.t 41), (.t 42), (.t 43), (.t 44)]), oM 11 45]) (.seq (.ops false [oM 46 11, oP 47 (.bin .neq (.t 46) (cI 0))])
 (.cond (.t 47) (.seq (.ops false [oM 48 11, oP 8 (.mv (.c .mt)), oP 9 (.mv (.c .mt)), oM 10 48]) .ret) .skip))) c29_35))
def r29 : List RV := [(.tmp 8), (.tmp 9), (.tmp 10)]
theorem c29_ok : ∃ code, Try.f29.body = some code ∧ compC Try.prog Try.f29.ntmps code = some (C.strip c29) := ⟨_, rfl, by kernel_rfl⟩
theorem r29_ok : compRes Try.prog Try.f29.results.toList = some r29 := by kernel_rfl
theorem f29_ok : fnOk Try.prog 29 = true := by kernel_rfl
end Go.Proofs.Ytadjhfjiimgddaa
