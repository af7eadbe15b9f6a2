/- ToolMade: CodeTW TwA TwB. -/
import Derived.Test.YtadjhfjiimgddaaTM3
import Derived.Test.YtadjhfjiimgddaaProg
import Derived.Test.YtadjhfjiimgddaaTM18
set_option linter.unusedSimpArgs false
set_option linter.unusedVariables false
set_option maxRecDepth 100000

/- Compiled code of some functions (printed by a program), each checked by the kernel. -/
namespace Go.Proofs.Ytadjhfjiimgddaa
open Go
def c5_1 : C := (.ops false [oP 81 (.mv (.t 11)), oP 82 (.ld 3 true (.t 13)), oP 83 (.bsl 3 1 [.mt, (.v (.int .i64 0)), (.v (.int .i64 0))] [(0, (.t 82))]), oP 84 (.app 3 40 (.t 81) (.t 83)), oP 11 (.mv (.t 84))])
def c5_2 : C := (.ops false [oP 50 (.mv (.t 12)), oP 51 (.bin .sub (.t 50) (cI 1)), oP 12 (.mv (.t 51))])
def c5_3 : C := (.seq (.block 1 (.seq (.ops false [oP 52 (.bsl 2 0 [(.v (.int .i64 0)), (.v (.bool false))] []), oP 53 (.mv (.t 10)), oP 54 (.app 2 16 (.t 52) (.t 53)), oP 55 (.mv (.t 7)), oP 56 (.mv (.t 10)), oP 57 (.len (.t 56)), oP 58 (.bin .add (.t 57) (cI 1)), oB 59 (.call 13 [(.t 55), (.t 58)]), oP 60 (.bld [.mt, (.v (.int .i64 0)), (.v (.int .i64 0))] [(0, (1, (.t 54))), (1, (1, (.t 59)))]),
  oP 13 (.new [.mt, (.v (.int .i64 0)), (.v (.int .i64 0))]), oS (.st 3 (.t 13) (.t 60))]) (.seq (.seq (.ops false [oP 61 (.fa 1 (.t 13)), oP 62 (.ld 1 false (.t 61)), oP 63 (.mv (.t 10)), oP 64 (.len (.t 63)), oP 65 (.bin .lss (.t 62) (.t 64))]) (.cond (.t 65) (.ops true [oP 66 (.mv (.t 7)), oP 67 (.fa 1 (.t 8)), oA 68 (.ld 1 false (.t 67)) [1], oP 69 (.mv (.t 10)), oP 70 (.fa 1 (.t 13)),
  oA 71 (.ld 1 false (.t 70)) [4], oA 72 (.iaS 2 (.t 69) (.t 71)) [4, 5, 3], oA 73 (.fa 0 (.t 72)) [3, 5, 4, 6], oA 74 (.ld 1 false (.t 73)) [6, 4, 5, 3, 7], oA 75 (.iaS 7 (.t 68) (.t 74)) [7, 3, 5, 4, 6, 1, 8, 2], oA 76 (.fa 3 (.t 75)) [2, 8, 1, 6, 4, 5, 3, 7, 9], oA 77 (.ld 1 false (.t 76)) [9, 7, 3, 5, 4, 6, 1, 8, 2, 10], oA 78 (.bin .add (.t 77) (cI 1)) [10, 2, 8, 1, 6, 4, 5, 3, 7, 9, 11],
  oE 79 (.call 13 [(.t 66), (.t 78)]) [11, 9, 7, 3, 5, 4, 6, 1, 8, 2, 10, 12, 0], oA 80 (.fa 2 (.t 13)) [13, 12, 11, 10, 9, 8, 7, 6, 5, 4, 3, 2, 1, 0], oT (.st 1 (.t 80) (.t 79)) [12, 11, 10, 9, 8, 7, 6, 5, 4, 3, 2, 1, 0, 13, 14]]) .skip)) c5_1))) c5_2)
def c5_4 : C := (.seq (.seq (.ops false [oP 48 (.mv (.t 12)), oP 49 (.bin .gtr (.t 48) (cI 0))]) (.cond (.t 49) .skip (.exit 0))) c5_3)
def c5_5 : C := (.seq (.ops true [oP 158 (.ld 6 true (.t 8)), oP 159 (.mv (.t 11)), oA 160 (.iaS 3 (.t 159) (cI 0)) [1], oA 161 (.fa 0 (.t 160)) [1, 2], oA 162 (.ld 1 false (.t 161)) [2, 1, 3], oA 163 (.call 38 [(.t 158), (.t 162)]) [3, 1, 2, 4, 0], oA 157 (.mv (.t 163)) [0, 4, 2, 1, 3, 5], oA 164 (.ext (.t 157) 0) [5, 3, 1, 2, 4, 0, 6], oA 165 (.ext (.t 157) 1) [5, 3, 1, 2, 4, 0, 6], oP 15 (.new [.mt,
  (.v (.int .i64 0)), (.v (.int .i64 0))]), oT (.st 3 (.t 15) (.t 164)) [6, 4, 3, 2, 1, 0, 5, 7, 9], oA 16 (.mv (.t 165)) [9, 7, 6, 5, 4, 3, 2, 1, 0, 10, 8]]) (.seq (.ops true [oP 167 (.ld 6 true (.t 8)), oP 168 (.mv (.t 11)), oA 169 (.iaS 3 (.t 168) (cI 0)) [1], oA 170 (.fa 0 (.t 169)) [1, 2], oA 171 (.ld 1 false (.t 170)) [2, 1, 3], oA 172 (.call 39 [(.t 167), (.t 171)]) [3, 1, 2, 4, 0],
  oA 166 (.mv (.t 172)) [0, 4, 2, 1, 3, 5], oA 173 (.ext (.t 166) 0) [5, 3, 1, 2, 4, 0, 6], oA 174 (.ext (.t 166) 1) [5, 3, 1, 2, 4, 0, 6], oP 17 (.new [.mt, (.v (.int .i64 0)), (.v (.int .i64 0))]), oT (.st 3 (.t 17) (.t 173)) [6, 4, 3, 2, 1, 0, 5, 7, 9], oA 18 (.mv (.t 174)) [9, 7, 6, 5, 4, 3, 2, 1, 0, 10, 8]]) (.seq (.ops true [oP 176 (.ld 6 true (.t 8)), oP 177 (.ld 3 true (.t 9)),
  oP 178 (.mv (.t 11)), oA 179 (.iaS 3 (.t 178) (cI 0)) [2], oA 180 (.ld 3 true (.t 179)) [2, 3], oA 181 (.call 28 [(.t 176), (.t 177), (.t 180)]) [3, 2, 4, 1, 0], oA 175 (.mv (.t 181)) [0, 1, 4, 2, 3, 5], oA 182 (.ext (.t 175) 0) [5, 3, 2, 4, 1, 0, 6], oA 183 (.ext (.t 175) 1) [5, 3, 2, 4, 1, 0, 6], oP 19 (.new [.mt, (.v (.int .i64 0)), (.v (.int .i64 0))]), oT (.st 3 (.t 19) (.t 182)) [6, 4, 3, 2,
  1, 0, 5, 7, 9], oA 20 (.mv (.t 183)) [9, 7, 6, 5, 4, 3, 2, 1, 0, 10, 8]]) (.seq (.ops true [oP 185 (.ld 6 true (.t 8)), oP 186 (.ld 3 true (.t 9)), oP 187 (.mv (.t 11)), oA 188 (.iaS 3 (.t 187) (cI 0)) [2], oA 189 (.ld 3 true (.t 188)) [2, 3], oA 190 (.call 40 [(.t 185), (.t 186), (.t 189)]) [3, 2, 4, 1, 0], oA 184 (.mv (.t 190)) [0, 1, 4, 2, 3, 5], oA 191 (.ext (.t 184) 0) [5, 3, 2, 4, 1, 0, 6],
  oA 192 (.ext (.t 184) 1) [5, 3, 2, 4, 1, 0, 6], oP 21 (.new [.mt, (.v (.int .i64 0)), (.v (.int .i64 0))]), oT (.st 3 (.t 21) (.t 191)) [6, 4, 3, 2, 1, 0, 5, 7, 9], oA 22 (.mv (.t 192)) [9, 7, 6, 5, 4, 3, 2, 1, 0, 10, 8]]) (.seq (.ops false [oP 194 (.ld 6 true (.t 8)), oP 195 (.ld 3 true (.t 9)), oP 196 (.mv (.t 11)), oP 197 (.mv (.t 14)), oP 198 (.call 41 [(.t 194), (.t 195), (.t 196),
  (.t 197)]), oP 193 (.mv (.t 198)), oP 199 (.ext (.t 193) 0), oP 200 (.ext (.t 193) 1), oP 23 (.mv (.t 199)), oP 24 (.mv (.t 200))]) (.seq (.ops false [oP 202 (.ld 6 true (.t 8)), oP 203 (.ld 3 true (.t 9)), oP 204 (.mv (.t 11)), oP 205 (.mv (.t 14)), oP 206 (.call 42 [(.t 202), (.t 203), (.t 204), (.t 205)]), oP 201 (.mv (.t 206)), oP 207 (.ext (.t 201) 0), oP 208 (.ext (.t 201) 1),
  oP 25 (.mv (.t 207)), oP 26 (.mv (.t 208))]) (.seq (.ops true [oP 210 (.ld 6 true (.t 8)), oP 211 (.mv (.t 11)), oA 212 (.iaS 3 (.t 211) (cI 0)) [1], oA 213 (.ld 3 true (.t 212)) [1, 2], oP 214 (.mv (.t 11)), oP 215 (.mv (.t 11)), oA 216 (.len (.t 215)) [5], oA 217 (.bin .sub (.t 216) (cI 1)) [5, 6], oA 218 (.iaS 3 (.t 214) (.t 217)) [6, 5, 7, 4], oA 219 (.ld 3 true (.t 218)) [4, 7, 5, 6, 8],
  oE 220 (.call 43 [(.t 210), (.t 213), (.t 219)]) [8, 6, 5, 7, 4, 2, 1, 9, 3, 0], oA 209 (.mv (.t 220)) [0, 3, 9, 1, 2, 4, 7, 5, 6, 8, 10], oA 221 (.ext (.t 209) 0) [10, 8, 6, 5, 7, 4, 2, 1, 9, 3, 0, 11], oA 222 (.ext (.t 209) 1) [10, 8, 6, 5, 7, 4, 2, 1, 9, 3, 0, 11], oA 27 (.mv (.t 221)) [11, 9, 8, 7, 6, 5, 4, 3, 2, 1, 0, 10, 12], oA 28 (.mv (.t 222)) [12, 11, 10, 9, 8, 7, 6, 5, 4, 3, 2, 1, 0,
  14, 13]]) (.seq (.ops true [oP 224 (.ld 6 true (.t 8)), oP 225 (.mv (.t 11)), oA 226 (.iaS 3 (.t 225) (cI 0)) [1], oA 227 (.ld 3 true (.t 226)) [1, 2], oP 228 (.mv (.t 11)), oP 229 (.mv (.t 11)), oA 230 (.len (.t 229)) [5], oA 231 (.bin .sub (.t 230) (cI 1)) [5, 6], oA 232 (.iaS 3 (.t 228) (.t 231)) [6, 5, 7, 4], oA 233 (.ld 3 true (.t 232)) [4, 7, 5, 6, 8], oE 234 (.call 44 [(.t 224), (.t 227),
  (.t 233)]) [8, 6, 5, 7, 4, 2, 1, 9, 3, 0], oA 223 (.mv (.t 234)) [0, 3, 9, 1, 2, 4, 7, 5, 6, 8, 10], oA 235 (.ext (.t 223) 0) [10, 8, 6, 5, 7, 4, 2, 1, 9, 3, 0, 11], oA 236 (.ext (.t 223) 1) [10, 8, 6, 5, 7, 4, 2, 1, 9, 3, 0, 11], oA 29 (.mv (.t 235)) [11, 9, 8, 7, 6, 5, 4, 3, 2, 1, 0, 10, 12], oA 30 (.mv (.t 236)) [12, 11, 10, 9, 8, 7, 6, 5, 4, 3, 2, 1, 0, 14, 13]])
  (.seq (.ops true [oP 237 (.mv (.t 16)), oP 238 (.mv (.t 18)), oA 239 (.bin .eql (.t 237) (.t 238)) [1, 0], oA 240 (.mv (.t 239)) [0, 1, 2], oH 241 240 true (.mv (.t 20)) [2, 1, 0, 3], oH 242 240 true (.mv (.t 22)) [2, 1, 0, 3], oH 243 240 true (.bin .eql (.t 241) (.t 242)) [0, 1, 2, 3, 5, 4], oA 244 (.pick (.t 240) (.t 243) (cB false)) [4, 5, 2, 1, 0, 6, 3], oA 245 (.mv (.t 244)) [6, 0, 1, 2, 5,
  4, 3, 7], oH 246 245 true (.mv (.t 24)) [7, 3, 4, 5, 2, 1, 0, 6, 8], oH 247 245 true (.mv (.t 26)) [7, 3, 4, 5, 2, 1, 0, 6, 8], oH 248 245 true (.bin .eql (.t 246) (.t 247)) [6, 0, 1, 2, 5, 4, 3, 7, 8, 10, 9], oA 249 (.pick (.t 245) (.t 248) (cB false)) [9, 10, 7, 3, 4, 5, 2, 1, 0, 6, 11, 8], oA 250 (.mv (.t 249)) [11, 6, 0, 1, 2, 5, 4, 3, 7, 10, 9, 8, 12], oH 251 250 true (.mv (.t 28)) [12, 8, 9,
  10, 7, 3, 4, 5, 2, 1, 0, 6, 11, 13], oH 252 250 true (.mv (.t 30)) [12, 8, 9, 10, 7, 3, 4, 5, 2, 1, 0, 6, 11, 13], oH 253 250 true (.bin .eql (.t 251) (.t 252)) [11, 6, 0, 1, 2, 5, 4, 3, 7, 10, 9, 8, 12, 13, 15, 14], oA 254 (.pick (.t 250) (.t 253) (cB false)) [14, 15, 12, 8, 9, 10, 7, 3, 4, 5, 2, 1, 0, 6, 11, 16, 13], oA 255 (.mv (.t 254)) [16, 11, 6, 0, 1, 2, 5, 4, 3, 7, 10, 9, 8, 12, 15, 14,
  13, 17], oH 256 255 true (.mv (.t 27)) [17, 13, 14, 15, 12, 8, 9, 10, 7, 3, 4, 5, 2, 1, 0, 6, 11, 16, 18], oH 257 255 true (.mv (.t 29)) [17, 13, 14, 15, 12, 8, 9, 10, 7, 3, 4, 5, 2, 1, 0, 6, 11, 16, 18], oH 258 255 true (.beq false (.t 256) (.t 257)) [16, 11, 6, 0, 1, 2, 5, 4, 3, 7, 10, 9, 8, 12, 15, 14, 13, 17, 18, 20, 19], oA 259 (.pick (.t 255) (.t 258) (cB false)) [19, 20, 17, 13, 14, 15, 12,
  8, 9, 10, 7, 3, 4, 5, 2, 1, 0, 6, 11, 16, 21, 18], oA 260 (.mv (.t 259)) [21, 16, 11, 6, 0, 1, 2, 5, 4, 3, 7, 10, 9, 8, 12, 15, 14, 13, 17, 20, 19, 18, 22], oH 261 260 true (.ld 3 true (.t 15)) [22, 18, 19, 20, 17, 13, 14, 15, 12, 8, 9, 10, 7, 3, 4, 5, 2, 1, 0, 6, 11, 16, 21, 23], oH 262 260 true (.ld 3 true (.t 19)) [22, 18, 19, 20, 17, 13, 14, 15, 12, 8, 9, 10, 7, 3, 4, 5, 2, 1, 0, 6, 11, 16,
  21, 23], oH 263 260 true (.bsl 3 2 [.mt, (.v (.int .i64 0)), (.v (.int .i64 0))] [(0, (.t 261)), (1, (.t 262))]) [21, 16, 11, 6, 0, 1, 2, 5, 4, 3, 7, 10, 9, 8, 12, 15, 14, 13, 17, 20, 19, 18, 22, 23, 25, 24], oH 264 260 true (.ld 3 true (.t 17)) [22, 18, 19, 20, 17, 13, 14, 15, 12, 8, 9, 10, 7, 3, 4, 5, 2, 1, 0, 6, 11, 16, 21, 23], oH 265 260 true (.ld 3 true (.t 21)) [22, 18, 19, 20, 17, 13, 14,
  15, 12, 8, 9, 10, 7, 3, 4, 5, 2, 1, 0, 6, 11, 16, 21, 23], oH 266 260 true (.bsl 3 2 [.mt, (.v (.int .i64 0)), (.v (.int .i64 0))] [(0, (.t 264)), (1, (.t 265))]) [21, 16, 11, 6, 0, 1, 2, 5, 4, 3, 7, 10, 9, 8, 12, 15, 14, 13, 17, 20, 19, 18, 22, 23, 28, 27], oD 267 260 true (.call 45 [(.t 263), (.t 266)]) [27, 28, 24, 25, 22, 18, 19, 20, 17, 13, 14, 15, 12, 8, 9, 10, 7, 3, 4, 5, 2, 1, 0, 6, 11,
  16, 21, 23, 29, 26], oA 268 (.pick (.t 260) (.t 267) (cB false)) [26, 29, 25, 24, 28, 27, 22, 18, 19, 20, 17, 13, 14, 15, 12, 8, 9, 10, 7, 3, 4, 5, 2, 1, 0, 6, 11, 16, 21, 30, 23], oA 269 (.mv (.t 268)) [23, 21, 16, 11, 6, 0, 1, 2, 5, 4, 3, 7, 10, 9, 8, 12, 15, 14, 13, 17, 20, 19, 18, 22, 27, 28, 24, 25, 29, 26, 30, 31], oH 270 269 true (.mv (.t 23)) [31, 30, 26, 29, 25, 24, 28, 27, 22, 18, 19,
  20, 17, 13, 14, 15, 12, 8, 9, 10, 7, 3, 4, 5, 2, 1, 0, 6, 11, 16, 21, 23, 32], oH 271 269 true (.mv (.t 25)) [31, 30, 26, 29, 25, 24, 28, 27, 22, 18, 19, 20, 17, 13, 14, 15, 12, 8, 9, 10, 7, 3, 4, 5, 2, 1, 0, 6, 11, 16, 21, 23, 32], oD 272 269 true (.call 45 [(.t 270), (.t 271)]) [23, 21, 16, 11, 6, 0, 1, 2, 5, 4, 3, 7, 10, 9, 8, 12, 15, 14, 13, 17, 20, 19, 18, 22, 27, 28, 24, 25, 29, 26, 30, 31,
  32, 34, 33], oA 273 (.pick (.t 269) (.t 272) (cB false)) [33, 34, 31, 30, 26, 29, 25, 24, 28, 27, 22, 18, 19, 20, 17, 13, 14, 15, 12, 8, 9, 10, 7, 3, 4, 5, 2, 1, 0, 6, 11, 16, 21, 23, 35, 32], oA 274 (.mv (.t 273)) [32, 23, 21, 16, 11, 6, 0, 1, 2, 5, 4, 3, 7, 10, 9, 8, 12, 15, 14, 13, 17, 20, 19, 18, 22, 27, 28, 24, 25, 29, 26, 30, 31, 34, 33, 35, 36], oH 275 274 true (.ld 6 true (.t 8)) [36, 35,
  33, 34, 31, 30, 26, 29, 25, 24, 28, 27, 22, 18, 19, 20, 17, 13, 14, 15, 12, 8, 9, 10, 7, 3, 4, 5, 2, 1, 0, 6, 11, 16, 21, 23, 32, 37], oH 276 274 true (.mv (.t 11)) [36, 35, 33, 34, 31, 30, 26, 29, 25, 24, 28, 27, 22, 18, 19, 20, 17, 13, 14, 15, 12, 8, 9, 10, 7, 3, 4, 5, 2, 1, 0, 6, 11, 16, 21, 23, 32, 37], oH 277 274 true (.iaS 3 (.t 276) (cI 0)) [32, 23, 21, 16, 11, 6, 0, 1, 2, 5, 4, 3, 7, 10,
  9, 8, 12, 15, 14, 13, 17, 20, 19, 18, 22, 27, 28, 24, 25, 29, 26, 30, 31, 34, 33, 35, 36, 37, 39], oH 278 274 true (.ld 3 true (.t 277)) [39, 36, 35, 33, 34, 31, 30, 26, 29, 25, 24, 28, 27, 22, 18, 19, 20, 17, 13, 14, 15, 12, 8, 9, 10, 7, 3, 4, 5, 2, 1, 0, 6, 11, 16, 21, 23, 32, 37, 40], oD 279 274 true (.call 46 [(.t 275), (.t 278)]) [40, 39, 32, 23, 21, 16, 11, 6, 0, 1, 2, 5, 4, 3, 7, 10, 9, 8,
  12, 15, 14, 13, 17, 20, 19, 18, 22, 27, 28, 24, 25, 29, 26, 30, 31, 34, 33, 35, 36, 37, 41, 38], oH 280 274 true (.ld 6 true (.t 8)) [36, 35, 33, 34, 31, 30, 26, 29, 25, 24, 28, 27, 22, 18, 19, 20, 17, 13, 14, 15, 12, 8, 9, 10, 7, 3, 4, 5, 2, 1, 0, 6, 11, 16, 21, 23, 32, 37], oH 281 274 true (.mv (.t 11)) [36, 35, 33, 34, 31, 30, 26, 29, 25, 24, 28, 27, 22, 18, 19, 20, 17, 13, 14, 15, 12, 8, 9,
  10, 7, 3, 4, 5, 2, 1, 0, 6, 11, 16, 21, 23, 32, 37], oH 282 274 true (.iaS 3 (.t 281) (cI 0)) [32, 23, 21, 16, 11, 6, 0, 1, 2, 5, 4, 3, 7, 10, 9, 8, 12, 15, 14, 13, 17, 20, 19, 18, 22, 27, 28, 24, 25, 29, 26, 30, 31, 34, 33, 35, 36, 37, 44], oH 283 274 true (.ld 3 true (.t 282)) [44, 36, 35, 33, 34, 31, 30, 26, 29, 25, 24, 28, 27, 22, 18, 19, 20, 17, 13, 14, 15, 12, 8, 9, 10, 7, 3, 4, 5, 2, 1, 0,
  6, 11, 16, 21, 23, 32, 37, 45], oD 284 274 true (.call 47 [(.t 280), (.t 283)]) [38, 41, 39, 40, 45, 44, 32, 23, 21, 16, 11, 6, 0, 1, 2, 5, 4, 3, 7, 10, 9, 8, 12, 15, 14, 13, 17, 20, 19, 18, 22, 27, 28, 24, 25, 29, 26, 30, 31, 34, 33, 35, 36, 37, 42, 46, 43], oH 285 274 true (.beq false (.t 279) (.t 284)) [43, 46, 44, 45, 38, 41, 36, 35, 33, 34, 31, 30, 26, 29, 25, 24, 28, 27, 22, 18, 19, 20, 17,
  13, 14, 15, 12, 8, 9, 10, 7, 3, 4, 5, 2, 1, 0, 6, 11, 16, 21, 23, 32, 39, 40, 37, 47, 42], oA 286 (.pick (.t 274) (.t 285) (cB false)) [42, 47, 40, 39, 41, 38, 45, 44, 46, 43, 36, 35, 33, 34, 31, 30, 26, 29, 25, 24, 28, 27, 22, 18, 19, 20, 17, 13, 14, 15, 12, 8, 9, 10, 7, 3, 4, 5, 2, 1, 0, 6, 11, 16, 21, 23, 32, 48, 37], oA 287 (.mv (.t 286)) [37, 48, 32, 23, 21, 16, 11, 6, 0, 1, 2, 5, 4, 3, 7,
  10, 9, 8, 12, 15, 14, 13, 17, 20, 19, 18, 22, 27, 28, 24, 25, 29, 26, 30, 31, 34, 33, 35, 36, 43, 46, 44, 45, 38, 41, 39, 40, 42, 47, 49], oH 288 287 true (.mv (.t 11)) [49, 47, 42, 40, 39, 41, 38, 45, 44, 46, 43, 36, 35, 33, 34, 31, 30, 26, 29, 25, 24, 28, 27, 22, 18, 19, 20, 17, 13, 14, 15, 12, 8, 9, 10, 7, 3, 4, 5, 2, 1, 0, 6, 11, 16, 21, 23, 32, 48, 37, 50], oH 289 287 true (.iaS 3 (.t 288)
  (cI 0)) [37, 48, 32, 23, 21, 16, 11, 6, 0, 1, 2, 5, 4, 3, 7, 10, 9, 8, 12, 15, 14, 13, 17, 20, 19, 18, 22, 27, 28, 24, 25, 29, 26, 30, 31, 34, 33, 35, 36, 43, 46, 44, 45, 38, 41, 39, 40, 42, 47, 49, 50, 51], oH 290 287 true (.ld 3 true (.t 289)) [51, 49, 47, 42, 40, 39, 41, 38, 45, 44, 46, 43, 36, 35, 33, 34, 31, 30, 26, 29, 25, 24, 28, 27, 22, 18, 19, 20, 17, 13, 14, 15, 12, 8, 9, 10, 7, 3, 4, 5,
  2, 1, 0, 6, 11, 16, 21, 23, 32, 48, 37, 50, 52], oD 291 287 true (.call 30 [(.t 290)]) [52, 37, 48, 32, 23, 21, 16, 11, 6, 0, 1, 2, 5, 4, 3, 7, 10, 9, 8, 12, 15, 14, 13, 17, 20, 19, 18, 22, 27, 28, 24, 25, 29, 26, 30, 31, 34, 33, 35, 36, 43, 46, 44, 45, 38, 41, 39, 40, 42, 47, 49, 51, 50, 53], oH 292 287 true (.mv (.t 11)) [49, 47, 42, 40, 39, 41, 38, 45, 44, 46, 43, 36, 35, 33, 34, 31, 30, 26,
  29, 25, 24, 28, 27, 22, 18, 19, 20, 17, 13, 14, 15, 12, 8, 9, 10, 7, 3, 4, 5, 2, 1, 0, 6, 11, 16, 21, 23, 32, 48, 37, 50], oH 293 287 true (.iaS 3 (.t 292) (cI 0)) [37, 48, 32, 23, 21, 16, 11, 6, 0, 1, 2, 5, 4, 3, 7, 10, 9, 8, 12, 15, 14, 13, 17, 20, 19, 18, 22, 27, 28, 24, 25, 29, 26, 30, 31, 34, 33, 35, 36, 43, 46, 44, 45, 38, 41, 39, 40, 42, 47, 49, 50, 55],
  oH 294 287 true (.ld 3 true (.t 293)) [55, 49, 47, 42, 40, 39, 41, 38, 45, 44, 46, 43, 36, 35, 33, 34, 31, 30, 26, 29, 25, 24, 28, 27, 22, 18, 19, 20, 17, 13, 14, 15, 12, 8, 9, 10, 7, 3, 4, 5, 2, 1, 0, 6, 11, 16, 21, 23, 32, 48, 37, 50, 56], oD 295 287 true (.call 48 [(.t 294)]) [53, 51, 52, 56, 37, 48, 32, 23, 21, 16, 11, 6, 0, 1, 2, 5, 4, 3, 7, 10, 9, 8, 12, 15, 14, 13, 17, 20, 19, 18, 22, 27,
  28, 24, 25, 29, 26, 30, 31, 34, 33, 35, 36, 43, 46, 44, 45, 38, 41, 39, 40, 42, 47, 49, 55, 50, 54, 57], oH 296 287 true (.beq false (.t 291) (.t 295)) [57, 55, 56, 53, 51, 49, 47, 42, 40, 39, 41, 38, 45, 44, 46, 43, 36, 35, 33, 34, 31, 30, 26, 29, 25, 24, 28, 27, 22, 18, 19, 20, 17, 13, 14, 15, 12, 8, 9, 10, 7, 3, 4, 5, 2, 1, 0, 6, 11, 16, 21, 23, 32, 48, 37, 52, 50, 58, 54],
  oA 297 (.pick (.t 287) (.t 296) (cB false)) [54, 58, 52, 51, 53, 56, 55, 57, 49, 47, 42, 40, 39, 41, 38, 45, 44, 46, 43, 36, 35, 33, 34, 31, 30, 26, 29, 25, 24, 28, 27, 22, 18, 19, 20, 17, 13, 14, 15, 12, 8, 9, 10, 7, 3, 4, 5, 2, 1, 0, 6, 11, 16, 21, 23, 32, 48, 37, 59, 50], oA 298 (.mv (.t 297)) [50, 59, 37, 48, 32, 23, 21, 16, 11, 6, 0, 1, 2, 5, 4, 3, 7, 10, 9, 8, 12, 15, 14, 13, 17, 20, 19, 18,
  22, 27, 28, 24, 25, 29, 26, 30, 31, 34, 33, 35, 36, 43, 46, 44, 45, 38, 41, 39, 40, 42, 47, 49, 57, 55, 56, 53, 51, 52, 54, 58, 60], oD 299 298 true (.call 23 []) [60, 58, 54, 52, 51, 53, 56, 55, 57, 49, 47, 42, 40, 39, 41, 38, 45, 44, 46, 43, 36, 35, 33, 34, 31, 30, 26, 29, 25, 24, 28, 27, 22, 18, 19, 20, 17, 13, 14, 15, 12, 8, 9, 10, 7, 3, 4, 5, 2, 1, 0, 6, 11, 16, 21, 23, 32, 48, 37, 59, 50,
  61], oA 300 (.pick (.t 298) (.t 299) (cB false)) [60, 58, 54, 52, 51, 53, 56, 55, 57, 49, 47, 42, 40, 39, 41, 38, 45, 44, 46, 43, 36, 35, 33, 34, 31, 30, 26, 29, 25, 24, 28, 27, 22, 18, 19, 20, 17, 13, 14, 15, 12, 8, 9, 10, 7, 3, 4, 5, 2, 1, 0, 6, 11, 16, 21, 23, 32, 48, 37, 59, 50, 62, 61], oA 6 (.mv (.t 300)) [61, 60, 59, 58, 57, 56, 55, 54, 53, 52, 51, 50, 49, 48, 47, 46, 45, 44, 43, 42, 41,
  40, 39, 38, 37, 36, 35, 34, 33, 32, 31, 30, 29, 28, 27, 26, 25, 24, 23, 22, 21, 20, 19, 18, 17, 16, 15, 14, 13, 12, 11, 10, 9, 8, 7, 6, 5, 4, 3, 2, 1, 0, 62, 63]]) .ret)))))))))
def c5_6 : C := (.seq (.ops false [oP 85 (.mv (.t 7)), oB 86 (.call 13 [(.t 85), (cI 30)]), oP 14 (.mv (.t 86))]) (.seq (.seq (.ops false [oP 87 (.mv (.t 1)), oB 88 (.call 35 [(.t 87), (cI 14)])]) (.block 2 (.seq (.ops false [oP 90 (.bin .eql (.t 88) (cI 0)), oP 89 (.mv (.t 90))]) (.cond (.t 89) (.ops false [oP 91 (.mv (.t 7)), oP 92 (.ld 6 true (.t 8)), oP 93 (.call 36 [(.t 91), (.t 92)]), oS (.st 6 (.t 8)
  (.t 93))]) (.seq (.ops false [oP 95 (.bin .eql (.t 88) (cI 1)), oP 94 (.mv (.t 95))]) (.cond (.t 94) (.ops false [oP 96 (.mv (.t 7)), oP 97 (.ld 3 true (.t 9)), oP 98 (.call 37 [(.t 96), (.t 97)]), oS (.st 3 (.t 9) (.t 98))]) (.seq (.ops false [oP 100 (.bin .eql (.t 88) (cI 2)), oP 99 (.mv (.t 100))]) (.cond (.t 99) (.ops false [oP 101 (.mv (.t 11)), oP 102 (.mv (.t 2)),
  oB 103 (.call 35 [(.t 102), (cI 9)]), oP 104 (.bin .sub (.t 103) (cI 1)), oP 105 (.iaS 3 (.t 101) (cI 0)), oP 106 (.fa 1 (.t 105)), oS (.st 1 (.t 106) (.t 104))]) (.seq (.ops false [oP 108 (.bin .eql (.t 88) (cI 3)), oP 107 (.mv (.t 108))]) (.cond (.t 107) (.ops false [oP 109 (.mv (.t 11)), oP 110 (.mv (.t 2)), oP 111 (.iaS 3 (.t 109) (cI 0)), oP 112 (.fa 2 (.t 111)), oS (.st 1 (.t 112)
  (.t 110))]) (.seq (.ops false [oP 114 (.bin .eql (.t 88) (cI 4)), oP 113 (.mv (.t 114))]) (.cond (.t 113) (.seq (.ops false [oP 115 (.mv (.t 10)), oP 116 (.len (.t 115)), oP 117 (.bin .gtr (.t 116) (cI 0))]) (.cond (.t 117) (.ops true [oP 118 (.mv (.t 11)), oA 119 (.iaS 3 (.t 118) (cI 0)) [0], oA 120 (.fa 0 (.t 119)) [0, 1], oA 121 (.ld 1 false (.t 120)) [1, 0, 2], oP 122 (.mv (.t 11)),
  oA 123 (.iaS 3 (.t 122) (cI 0)) [4], oA 124 (.fa 0 (.t 123)) [4, 5], oA 125 (.ld 1 false (.t 124)) [5, 4, 6], oA 126 (.iaS 2 (.t 125) (cI 0)) [6, 4, 5, 7], oA 127 (.fa 1 (.t 126)) [7, 5, 4, 6, 8], oA 128 (.ld 1 false (.t 127)) [8, 6, 4, 5, 7, 9], oA 129 (.not (.t 128)) [9, 7, 5, 4, 6, 8, 10], oA 130 (.iaS 2 (.t 121) (cI 0)) [11, 10, 9, 8, 7, 6, 5, 4, 2, 1, 0, 3], oA 131 (.fa 1 (.t 130)) [11, 10,
  9, 8, 7, 6, 5, 4, 3, 2, 1, 0, 12], oT (.st 1 (.t 131) (.t 129)) [12, 10, 9, 8, 7, 6, 5, 4, 3, 2, 1, 0, 11, 13]]) .skip)) (.seq (.ops false [oP 133 (.bin .eql (.t 88) (cI 5)), oP 132 (.mv (.t 133))]) (.cond (.t 132) (.ops true [oP 134 (.mv (.t 11)), oP 135 (.mv (.t 11)), oA 136 (.iaS 3 (.t 135) (cI 0)) [1], oA 137 (.fa 0 (.t 136)) [1, 2], oA 138 (.ld 1 false (.t 137)) [2, 1, 3],
  oP 139 (.mv (.t 2)), oE 140 (.call 35 [(.t 139), (cI 9)]) [5], oA 141 (.bin .sub (.t 140) (cI 1)) [5, 6], oA 142 (.bld [(.v (.int .i64 0)), (.v (.bool false))] [(0, (1, (.t 141)))]) [6, 5, 7], oA 143 (.bsl 2 1 [(.v (.int .i64 0)), (.v (.bool false))] [(0, (.t 142))]) [7, 5, 6, 8], oA 144 (.app 2 16 (.t 138) (.t 143)) [8, 5, 7, 3, 1, 2, 6, 9, 4], oA 145 (.iaS 3 (.t 134) (cI 0)) [10, 9, 8, 7, 6, 5,
  4, 3, 2, 1, 0], oA 146 (.fa 0 (.t 145)) [10, 9, 8, 7, 6, 5, 4, 3, 2, 1, 0, 11], oT (.st 1 (.t 146) (.t 144)) [11, 9, 8, 7, 6, 5, 4, 3, 2, 1, 0, 10, 12]]) (.seq (.ops false [oP 148 (.bin .eql (.t 88) (cI 6)), oP 147 (.mv (.t 148))]) (.cond (.t 147) (.ops false [oP 149 (.mv (.t 2)), oB 150 (.call 35 [(.t 149), (cI 403)]), oP 151 (.bin .sub (.t 150) (cI 1)), oP 14 (.mv (.t 151))])
  (.seq (.ops false [oP 153 (.bin .eql (.t 88) (cI 7)), oP 152 (.mv (.t 153))]) (.cond (.t 152) (.ops false [oP 154 (.mv (.t 11)), oP 155 (.iaS 3 (.t 154) (cI 0)), oP 156 (.fa 0 (.t 155)), oS (.st 1 (.t 156) (.c .mt))]) .skip)))))))))))))))))) (.weak c5_5)))
def c5_7 : C := (.seq (.ops false [oP 35 (.mv (.t 0)), oP 36 (.call 8 [(.t 35)]), oP 7 (.mv (.t 36))]) (.seq (.ops false [oP 37 (.mv (.t 7)), oP 38 (.call 32 [(.t 37)]), oP 8 (.new [.mt, .mt, .mt, .mt, (.v (.int .i64 0)), (.v (.int .i64 0))]), oS (.st 6 (.t 8) (.t 38))]) (.seq (.ops false [oP 39 (.mv (.t 7)), oP 40 (.ld 6 true (.t 8)), oP 41 (.call 33 [(.t 39), (.t 40)]), oP 9 (.new [.mt, .mt, .mt]),
  oS (.st 3 (.t 9) (.t 41))]) (.seq (.ops false [oP 42 (.mv (.t 7)), oP 43 (.ld 6 true (.t 8)), oP 44 (.call 34 [(.t 42), (.t 43)]), oP 10 (.mv (.t 44))]) (.seq (.ops false [oP 11 (.mv (.c .mt))]) (.seq (.seq (.ops false [oP 45 (.mv (.t 7)), oB 46 (.call 13 [(.t 45), (cI 3)]), oP 47 (.bin .add (cI 1) (.t 46)), oP 12 (.mv (.t 47))]) (.block 0 (.loop c5_4))) c5_6))))))
def c5 : C := (.seq (.ops false [oP 6 (.mv (cB false))]) (.seq (.seq (.ops false [oP 31 (.mv (.t 0)), oB 32 (.call 22 [(.t 31)]), oP 33 (.not (.t 32))]) (.cond (.t 33) (.seq (.ops false [oB 34 (.call 23 []), oP 6 (.mv (.t 34))]) .ret) .skip)) c5_7))
def r5 : List RV := [(.tmp 6)]
theorem c5_ok : ∃ code, Try.f5.body = some code ∧ compC Try.prog Try.f5.ntmps code = some (C.strip c5) := ⟨_, rfl, by kernel_rfl⟩
theorem r5_ok : compRes Try.prog Try.f5.results.toList = some r5 := by kernel_rfl
def c28_1 : C := (.seq (.ops false [oP 19 (.ld 6 true (.t 3)), oP 20 (.ld 3 true (.t 4)), oP 21 (.ld 3 true (.t 5)), oP 22 (.call 80 [(.t 19), (.t 20), (.t 21)]), oS (.st 3 (.t 6) (.t 22)), oP 7 (.mv (cI 0))]) .ret)
def c28 : C := (.seq (.ops false [oP 3 (.box 6 (.t 0)), oP 4 (.box 3 (.t 1)), oP 5 (.box 3 (.t 2)), oP 6 (.new [.mt, (.v (.int .i64 0)), (.v (.int .i64 0))]), oP 7 (.mv (cI 0))]) (.seq (.seq (.ops false [oP 9 (.ld 6 true (.t 3)), oP 10 (.ld 3 true (.t 4)), oP 11 (.ld 3 true (.t 5)), oP 12 (.bsl 3 1 [.mt, (.v (.int .i64 0)), (.v (.int .i64 0))] [(0, (.t 11))]), oB 13 (.call 78 [(.t 9), (.t 10), (.t 12)]),
  oP 8 (.mv (.t 13))]) (.seq (.ops false [oP 14 (.mv (.t 8)), oP 15 (.bin .neq (.t 14) (cI 0))]) (.cond (.t 15) (.seq (.ops false [oP 16 (.ld 3 true (.t 5)), oP 17 (.call 79 [(.t 16)]), oP 18 (.mv (.t 8)), oS (.st 3 (.t 6) (.t 17)), oP 7 (.mv (.t 18))]) .ret) .skip))) c28_1))
def r28 : List RV := [(.cell 6 3 true), (.tmp 7)]
theorem c28_ok : ∃ code, Try.f28.body = some code ∧ compC Try.prog Try.f28.ntmps code = some (C.strip c28) := ⟨_, rfl, by kernel_rfl⟩
theorem r28_ok : compRes Try.prog Try.f28.results.toList = some r28 := by kernel_rfl
theorem f28_ok : fnOk Try.prog 28 = true := by kernel_rfl
def c39_1 : C := (.seq (.ops false [oP 21 (.ld 3 true (.t 7)), oP 22 (.call 99 [(.t 21)]), oS (.st 3 (.t 4) (.t 22)), oP 5 (.mv (cI 0))]) .ret)
def c39_2 : C := (.seq (.ops false [oP 14 (.mv (.t 1)), oP 15 (.bld [.mt, (.v (.int .i64 0)), (.v (.int .i64 0))] [(0, (1, (.t 14)))]), oP 7 (.new [.mt, (.v (.int .i64 0)), (.v (.int .i64 0))]), oS (.st 3 (.t 7) (.t 15))]) (.seq (.seq (.ops false [oP 16 (.ld 6 true (.t 2)), oP 17 (.ld 3 true (.t 7)), oB 18 (.call 98 [(.t 16), (.t 17)]), oP 19 (.not (.t 18))]) (.cond (.t 19) (.seq (.ops false [oP 20 (.bld [.mt,
  (.v (.int .i64 0)), (.v (.int .i64 0))] []), oS (.st 3 (.t 4) (.t 20)), oP 5 (.mv (cI 24))]) .ret) .skip)) c39_1))
def c39 : C := (.seq (.ops false [oP 2 (.box 6 (.t 0)), oP 4 (.new [.mt, (.v (.int .i64 0)), (.v (.int .i64 0))]), oP 5 (.mv (cI 0))]) (.seq (.seq (.ops false [oP 8 (.ld 6 true (.t 2)), oB 9 (.call 97 [(.t 8)]), oP 6 (.mv (.t 9))]) (.seq (.ops false [oP 10 (.mv (.t 6)), oP 11 (.bin .neq (.t 10) (cI 0))]) (.cond (.t 11) (.seq (.ops false [oP 12 (.bld [.mt, (.v (.int .i64 0)), (.v (.int .i64 0))] []),
  oP 13 (.mv (.t 6)), oS (.st 3 (.t 4) (.t 12)), oP 5 (.mv (.t 13))]) .ret) .skip))) c39_2))
def r39 : List RV := [(.cell 4 3 true), (.tmp 5)]
theorem c39_ok : ∃ code, Try.f39.body = some code ∧ compC Try.prog Try.f39.ntmps code = some (C.strip c39) := ⟨_, rfl, by kernel_rfl⟩
theorem r39_ok : compRes Try.prog Try.f39.results.toList = some r39 := by kernel_rfl
theorem f39_ok : fnOk Try.prog 39 = true := by kernel_rfl
def c40_1 : C := (.seq (.ops true [oP 28 (.ld 6 true (.t 3)), oP 29 (.ld 3 true (.t 4)), oP 30 (.ld 3 true (.t 5)), oA 31 (.call 99 [(.t 30)]) [2], oA 32 (.call 101 [(.t 28), (.t 29), (.t 31)]) [2, 3, 1, 0], oT (.st 3 (.t 6) (.t 32)) [3, 2, 1, 0, 4], oA 7 (.mv (cI 0)) [4, 3, 2, 1, 0, 5]]) .ret)
def c40_2 : C := (.seq (.seq (.ops false [oP 23 (.ld 6 true (.t 3)), oP 24 (.ld 3 true (.t 5)), oB 25 (.call 98 [(.t 23), (.t 24)]), oP 26 (.not (.t 25))]) (.cond (.t 26) (.seq (.ops false [oP 27 (.ld 3 true (.t 5)), oS (.st 3 (.t 6) (.t 27)), oP 7 (.mv (cI 24))]) .ret) .skip)) c40_1)
def c40_3 : C := (.seq (.seq (.ops false [oP 16 (.ld 6 true (.t 3)), oP 17 (.ld 3 true (.t 4)), oB 18 (.call 100 [(.t 16), (.t 17)]), oP 9 (.mv (.t 18))]) (.seq (.ops false [oP 19 (.mv (.t 9)), oP 20 (.bin .neq (.t 19) (cI 0))]) (.cond (.t 20) (.seq (.ops false [oP 21 (.ld 3 true (.t 5)), oP 22 (.mv (.t 9)), oS (.st 3 (.t 6) (.t 21)), oP 7 (.mv (.t 22))]) .ret) .skip))) c40_2)
def c40 : C := (.seq (.ops false [oP 3 (.box 6 (.t 0)), oP 4 (.box 3 (.t 1)), oP 5 (.box 3 (.t 2)), oP 6 (.new [.mt, (.v (.int .i64 0)), (.v (.int .i64 0))]), oP 7 (.mv (cI 0))]) (.seq (.seq (.ops false [oP 10 (.ld 6 true (.t 3)), oB 11 (.call 97 [(.t 10)]), oP 8 (.mv (.t 11))]) (.seq (.ops false [oP 12 (.mv (.t 8)), oP 13 (.bin .neq (.t 12) (cI 0))]) (.cond (.t 13) (.seq (.ops false [oP 14 (.ld 3 true (.t 5)),
  oP 15 (.mv (.t 8)), oS (.st 3 (.t 6) (.t 14)), oP 7 (.mv (.t 15))]) .ret) .skip))) c40_3))
def r40 : List RV := [(.cell 6 3 true), (.tmp 7)]
theorem c40_ok : ∃ code, Try.f40.body = some code ∧ compC Try.prog Try.f40.ntmps code = some (C.strip c40) := ⟨_, rfl, by kernel_rfl⟩
theorem r40_ok : compRes Try.prog Try.f40.results.toList = some r40 := by kernel_rfl
theorem f40_ok : fnOk Try.prog 40 = true := by kernel_rfl
def c42_1 : C := (.ops false [oP 34 (.mv (.t 12)), oP 35 (.bin .add (.t 34) (cI 1)), oP 12 (.mv (.t 35))])
def c42_2 : C := (.seq (.block 1 (.seq (.ops true [oP 36 (.ld 6 true (.t 4)), oP 37 (.mv (.t 2)), oP 38 (.mv (.t 12)), oA 39 (.iaS 3 (.t 37) (.t 38)) [2, 1], oA 40 (.ld 3 true (.t 39)) [1, 2, 3], oE 41 (.call 98 [(.t 36), (.t 40)]) [3, 2, 1, 4, 0], oA 42 (.not (.t 41)) [0, 4, 1, 2, 3, 5]]) (.cond (.t 42) (.seq (.ops false [oP 43 (.mv (.t 2)), oP 8 (.mv (.t 43)), oP 9 (.mv (cI 24))]) .ret) .skip))) c42_1)
def c42_3 : C := (.seq (.seq (.ops false [oP 30 (.mv (.t 12)), oP 31 (.mv (.t 2)), oP 32 (.len (.t 31)), oP 33 (.bin .lss (.t 30) (.t 32))]) (.cond (.t 33) .skip (.exit 0))) c42_2)
def c42_4 : C := (.seq (.block 5 (.ops false [oP 71 (.ld 6 true (.t 4)), oP 72 (.ld 3 true (.t 5)), oP 73 (.ld 3 true (.t 15)), oP 74 (.call 101 [(.t 71), (.t 72), (.t 73)]), oS (.st 3 (.t 15) (.t 74))])) (.ops false [oP 69 (.mv (.t 16)), oP 70 (.bin .add (.t 69) (cI 1)), oP 16 (.mv (.t 70))]))
def c42_5 : C := (.seq (.seq (.ops false [oP 66 (.mv (.t 16)), oP 67 (.mv (.t 3)), oP 68 (.bin .lss (.t 66) (.t 67))]) (.cond (.t 68) .skip (.exit 4))) c42_4)
def c42_6 : C := (.ops false [oP 75 (.mv (.t 13)), oP 76 (.ld 3 true (.t 15)), oP 77 (.bsl 3 1 [.mt, (.v (.int .i64 0)), (.v (.int .i64 0))] [(0, (.t 76))]), oP 78 (.app 3 40 (.t 75) (.t 77)), oP 13 (.mv (.t 78))])
def c42_7 : C := (.ops false [oP 59 (.mv (.t 14)), oP 60 (.bin .add (.t 59) (cI 1)), oP 14 (.mv (.t 60))])
def c42_8 : C := (.seq (.block 3 (.seq (.ops false [oP 61 (.mv (.t 2)), oP 62 (.mv (.t 14)), oP 63 (.iaS 3 (.t 61) (.t 62)), oP 64 (.ld 3 true (.t 63)), oP 65 (.call 99 [(.t 64)]), oP 15 (.new [.mt, (.v (.int .i64 0)), (.v (.int .i64 0))]), oS (.st 3 (.t 15) (.t 65))]) (.seq (.seq (.ops false [oP 16 (.mv (cI 0))]) (.block 4 (.loop c42_5))) c42_6))) c42_7)
def c42_9 : C := (.seq (.seq (.ops false [oP 55 (.mv (.t 14)), oP 56 (.mv (.t 2)), oP 57 (.len (.t 56)), oP 58 (.bin .lss (.t 55) (.t 57))]) (.cond (.t 58) .skip (.exit 2))) c42_8)
def c42_10 : C := (.seq (.ops false [oP 79 (.mv (.t 13)), oP 8 (.mv (.t 79)), oP 9 (.mv (cI 0))]) .ret)
def c42_11 : C := (.seq (.ops false [oP 13 (.mv (.c .mt))]) (.seq (.seq (.ops false [oP 14 (.mv (cI 0))]) (.block 2 (.loop c42_9))) c42_10))
def c42_12 : C := (.seq (.seq (.ops false [oP 48 (.mv (.t 3)), oP 49 (.bin .lss (.t 48) (cI 0)), oP 50 (.mv (.t 49)), oG 51 50 false (.mv (.t 3)), oG 52 50 false (.bin .gtr (.t 51) (cI 400)), oP 53 (.pick (.t 50) (cB true) (.t 52))]) (.cond (.t 53) (.seq (.ops false [oP 54 (.mv (.t 2)), oP 8 (.mv (.t 54)), oP 9 (.mv (cI 1))]) .ret) .skip)) c42_11)
def c42_13 : C := (.seq (.seq (.ops false [oP 44 (.mv (.t 2)), oP 45 (.len (.t 44)), oP 46 (.bin .gtr (.t 45) (cI 16))]) (.cond (.t 46) (.seq (.ops false [oP 47 (.mv (.t 2)), oP 8 (.mv (.t 47)), oP 9 (.mv (cI 4))]) .ret) .skip)) c42_12)
def c42_14 : C := (.seq (.seq (.ops false [oP 12 (.mv (cI 0))]) (.block 0 (.loop c42_3))) c42_13)
def c42_15 : C := (.seq (.seq (.ops false [oP 23 (.ld 6 true (.t 4)), oP 24 (.ld 3 true (.t 5)), oB 25 (.call 100 [(.t 23), (.t 24)]), oP 11 (.mv (.t 25))]) (.seq (.ops false [oP 26 (.mv (.t 11)), oP 27 (.bin .neq (.t 26) (cI 0))]) (.cond (.t 27) (.seq (.ops false [oP 28 (.mv (.t 2)), oP 29 (.mv (.t 11)), oP 8 (.mv (.t 28)), oP 9 (.mv (.t 29))]) .ret) .skip))) c42_14)
def c42 : C := (.seq (.ops false [oP 4 (.box 6 (.t 0)), oP 5 (.box 3 (.t 1)), oP 8 (.mv (.c .mt)), oP 9 (.mv (cI 0))]) (.seq (.seq (.ops false [oP 17 (.ld 6 true (.t 4)), oB 18 (.call 97 [(.t 17)]), oP 10 (.mv (.t 18))]) (.seq (.ops false [oP 19 (.mv (.t 10)), oP 20 (.bin .neq (.t 19) (cI 0))]) (.cond (.t 20) (.seq (.ops false [oP 21 (.mv (.t 2)), oP 22 (.mv (.t 10)), oP 8 (.mv (.t 21)), oP 9 (.mv (.t 22))])
  .ret) .skip))) c42_15))
def r42 : List RV := [(.tmp 8), (.tmp 9)]
theorem c42_ok : ∃ code, Try.f42.body = some code ∧ compC Try.prog Try.f42.ntmps code = some (C.strip c42) := ⟨_, rfl, by kernel_rfl⟩
theorem r42_ok : compRes Try.prog Try.f42.results.toList = some r42 := by kernel_rfl
theorem f42_ok : fnOk Try.prog 42 = true := by kernel_rfl
def c44_1 : C := (.seq (.ops false [oP 32 (.fa 1 (.t 4)), oP 33 (.ld 1 false (.t 32)), oP 34 (.fa 1 (.t 5)), oP 35 (.ld 1 false (.t 34)), oP 36 (.bin .lss (.t 33) (.t 35)), oP 37 (.mv (.t 36)), oG 38 37 false (.fa 1 (.t 4)), oG 39 37 false (.ld 1 false (.t 38)), oG 40 37 false (.fa 1 (.t 5)), oG 41 37 false (.ld 1 false (.t 40)), oG 42 37 false (.bin .eql (.t 39) (.t 41)), oG 43 37 false (.mv (.t 42)),
  oG 44 43 true (.fa 2 (.t 4)), oG 45 43 true (.ld 1 false (.t 44)), oG 46 43 true (.fa 2 (.t 5)), oG 47 43 true (.ld 1 false (.t 46)), oG 48 43 true (.bin .lss (.t 45) (.t 47)), oG 49 37 false (.pick (.t 43) (.t 48) (cB false)), oP 50 (.pick (.t 37) (cB true) (.t 49)), oP 6 (.mv (.t 50)), oP 7 (.mv (cI 0))]) .ret)
def c44_2 : C := (.seq (.seq (.ops false [oP 14 (.ld 6 true (.t 3)), oP 15 (.ld 3 true (.t 4)), oB 16 (.call 98 [(.t 14), (.t 15)]), oP 17 (.not (.t 16)), oP 18 (.mv (.t 17)), oG 19 18 false (.ld 6 true (.t 3)), oG 20 18 false (.ld 3 true (.t 5)), oD 21 18 false (.call 98 [(.t 19), (.t 20)]) [], oG 22 18 false (.not (.t 21)), oP 23 (.pick (.t 18) (cB true) (.t 22)), oP 24 (.mv (.t 23)),
  oG 25 24 false (.fa 0 (.t 4)), oG 26 24 false (.ld 1 false (.t 25)), oG 27 24 false (.fa 0 (.t 5)), oG 28 24 false (.ld 1 false (.t 27)), oD 29 24 false (.call 103 [(.t 26), (.t 28)]) [], oG 30 24 false (.not (.t 29)), oP 31 (.pick (.t 24) (cB true) (.t 30))]) (.cond (.t 31) (.seq (.ops false [oP 6 (.mv (cB false)), oP 7 (.mv (cI 24))]) .ret) .skip)) c44_1)
def c44 : C := (.seq (.ops false [oP 3 (.box 6 (.t 0)), oP 4 (.box 3 (.t 1)), oP 5 (.box 3 (.t 2)), oP 6 (.mv (cB false)), oP 7 (.mv (cI 0))]) (.seq (.seq (.ops false [oP 9 (.ld 6 true (.t 3)), oB 10 (.call 97 [(.t 9)]), oP 8 (.mv (.t 10))]) (.seq (.ops false [oP 11 (.mv (.t 8)), oP 12 (.bin .neq (.t 11) (cI 0))]) (.cond (.t 12) (.seq (.ops false [oP 13 (.mv (.t 8)), oP 6 (.mv (cB false)), oP 7 (.mv (.t 13))])
  .ret) .skip))) c44_2))
def r44 : List RV := [(.tmp 6), (.tmp 7)]
theorem c44_ok : ∃ code, Try.f44.body = some code ∧ compC Try.prog Try.f44.ntmps code = some (C.strip c44) := ⟨_, rfl, by kernel_rfl⟩
theorem r44_ok : compRes Try.prog Try.f44.results.toList = some r44 := by kernel_rfl
theorem f44_ok : fnOk Try.prog 44 = true := by kernel_rfl
def c47 : C := (.seq (.ops false [oP 2 (.box 6 (.t 0)), oP 3 (.box 3 (.t 1)), oP 4 (.mv (cB false))]) (.seq (.ops false [oP 5 (.ld 6 true (.t 2)), oB 6 (.call 97 [(.t 5)]), oP 7 (.bin .eql (.t 6) (cI 0)), oP 8 (.mv (.t 7)), oG 9 8 true (.ld 6 true (.t 2)), oG 10 8 true (.ld 3 true (.t 3)), oD 11 8 true (.call 98 [(.t 9), (.t 10)]) [], oP 12 (.pick (.t 8) (.t 11) (cB false)), oP 4 (.mv (.t 12))]) .ret))
def r47 : List RV := [(.tmp 4)]
theorem c47_ok : ∃ code, Try.f47.body = some code ∧ compC Try.prog Try.f47.ntmps code = some (C.strip c47) := ⟨_, rfl, by kernel_rfl⟩
theorem r47_ok : compRes Try.prog Try.f47.results.toList = some r47 := by kernel_rfl
theorem f47_ok : fnOk Try.prog 47 = true := by kernel_rfl
def c48 : C := (.seq (.ops false [oP 1 (.box 3 (.t 0)), oP 2 (.mv (cB false))]) (.seq (.ops false [oP 3 (.fa 0 (.t 1)), oP 4 (.ld 1 false (.t 3)), oP 5 (.len (.t 4)), oP 6 (.bin .gtr (.t 5) (cI 0)), oP 7 (.mv (.t 6)), oG 8 7 true (.fa 1 (.t 1)), oG 9 7 true (.ld 1 false (.t 8)), oG 10 7 true (.fa 0 (.t 1)), oG 11 7 true (.ld 1 false (.t 10)), oG 12 7 true (.len (.t 11)), oG 13 7 true (.bin .eql (.t 9) (.t 12)),
  oP 14 (.pick (.t 7) (.t 13) (cB false)), oP 2 (.mv (.t 14))]) .ret))
def r48 : List RV := [(.tmp 2)]
theorem c48_ok : ∃ code, Try.f48.body = some code ∧ compC Try.prog Try.f48.ntmps code = some (C.strip c48) := ⟨_, rfl, by kernel_rfl⟩
theorem r48_ok : compRes Try.prog Try.f48.results.toList = some r48 := by kernel_rfl
theorem f48_ok : fnOk Try.prog 48 = true := by kernel_rfl
def c98_1 : C := (.seq (.ops true [oP 38 (.fa 2 (.t 3)), oA 39 (.ld 1 false (.t 38)) [0], oA 40 (.bin .geq (.t 39) (cI 0)) [0, 1], oA 41 (.mv (.t 40)) [1, 0, 2], oH 42 41 true (.fa 2 (.t 3)) [2, 0, 1, 3], oH 43 41 true (.ld 1 false (.t 42)) [1, 0, 2, 3, 4], oH 44 41 true (.fa 1 (.t 2)) [2, 0, 1, 3], oH 45 41 true (.ld 1 false (.t 44)) [1, 0, 2, 3, 6], oH 46 41 true (.fa 0 (.t 3)) [2, 0, 1, 3],
  oH 47 41 true (.ld 1 false (.t 46)) [1, 0, 2, 3, 8], oH 48 41 true (.fa 1 (.t 3)) [2, 0, 1, 3], oH 49 41 true (.ld 1 false (.t 48)) [1, 0, 2, 3, 10], oH 50 41 true (.iaS 2 (.t 47) (.t 49)) [10, 8, 2, 0, 1, 3, 11, 9], oH 51 41 true (.fa 0 (.t 50)) [9, 11, 1, 0, 2, 8, 10, 3, 12], oH 52 41 true (.ld 1 false (.t 51)) [12, 10, 8, 2, 0, 1, 11, 9, 3, 13], oH 53 41 true (.iaS 7 (.t 45) (.t 52)) [13, 9,
  11, 8, 10, 12, 6, 2, 0, 1, 3, 14, 7], oH 54 41 true (.fa 3 (.t 53)) [7, 14, 1, 0, 2, 6, 12, 10, 8, 11, 9, 13, 3, 15], oH 55 41 true (.ld 1 false (.t 54)) [15, 13, 9, 11, 8, 10, 12, 6, 2, 0, 1, 14, 7, 3, 16], oH 56 41 true (.bin .leq (.t 43) (.t 55)) [16, 7, 14, 6, 12, 10, 8, 11, 9, 13, 15, 4, 2, 0, 1, 3, 17, 5], oA 57 (.pick (.t 41) (.t 56) (cB false)) [5, 17, 4, 15, 13, 9, 11, 8, 10, 12, 6, 14,
  7, 16, 2, 0, 1, 18, 3], oA 4 (.mv (.t 57)) [18, 17, 16, 15, 14, 13, 12, 11, 10, 9, 8, 7, 6, 5, 4, 2, 1, 0, 3, 19]]) .ret)
def c98_2 : C := (.seq (.seq (.ops false [oP 29 (.fa 1 (.t 3)), oP 30 (.ld 1 false (.t 29)), oP 31 (.fa 0 (.t 3)), oP 32 (.ld 1 false (.t 31)), oP 33 (.len (.t 32)), oP 34 (.bin .eql (.t 30) (.t 33))]) (.cond (.t 34) (.seq (.ops false [oP 35 (.fa 2 (.t 3)), oP 36 (.ld 1 false (.t 35)), oP 37 (.bin .eql (.t 36) (cI 0)), oP 4 (.mv (.t 37))]) .ret) .skip)) c98_1)
def c98 : C := (.seq (.ops false [oP 2 (.box 6 (.t 0)), oP 3 (.box 3 (.t 1)), oP 4 (.mv (cB false))]) (.seq (.seq (.ops false [oP 5 (.fa 0 (.t 3)), oP 6 (.ld 1 false (.t 5)), oP 7 (.len (.t 6)), oP 8 (.bin .lss (.t 7) (cI 1)), oP 9 (.mv (.t 8)), oG 10 9 false (.ld 6 true (.t 2)), oG 11 9 false (.fa 0 (.t 3)), oG 12 9 false (.ld 1 false (.t 11)), oD 13 9 false (.call 143 [(.t 10), (.t 12)]) [],
  oG 14 9 false (.bin .neq (.t 13) (cI 0)), oP 15 (.pick (.t 9) (cB true) (.t 14)), oP 16 (.mv (.t 15)), oG 17 16 false (.fa 1 (.t 3)), oG 18 16 false (.ld 1 false (.t 17)), oG 19 16 false (.bin .lss (.t 18) (cI 0)), oP 20 (.pick (.t 16) (cB true) (.t 19)), oP 21 (.mv (.t 20)), oG 22 21 false (.fa 1 (.t 3)), oG 23 21 false (.ld 1 false (.t 22)), oG 24 21 false (.fa 0 (.t 3)),
  oG 25 21 false (.ld 1 false (.t 24)), oG 26 21 false (.len (.t 25)), oG 27 21 false (.bin .gtr (.t 23) (.t 26)), oP 28 (.pick (.t 21) (cB true) (.t 27))]) (.cond (.t 28) (.seq (.ops false [oP 4 (.mv (cB false))]) .ret) .skip)) c98_2))
def r98 : List RV := [(.tmp 4)]
theorem c98_ok : ∃ code, Try.f98.body = some code ∧ compC Try.prog Try.f98.ntmps code = some (C.strip c98) := ⟨_, rfl, by kernel_rfl⟩
theorem r98_ok : compRes Try.prog Try.f98.results.toList = some r98 := by kernel_rfl
theorem f98_ok : fnOk Try.prog 98 = true := by kernel_rfl
def c101_1 : C := (.seq (.ops false [oP 53 (.ld 3 true (.t 5)), oS (.st 3 (.t 6) (.t 53))]) .ret)
def c101_2 : C := (.seq (.ops false [oP 32 (.fa 2 (.t 5)), oP 33 (.ld 1 false (.t 32)), oP 34 (.mv (.t 8)), oP 35 (.bin .add (.t 33) (.t 34)), oP 36 (.mnx true (cI 0) (.t 35)), oP 37 (.fa 2 (.t 5)), oS (.st 1 (.t 37) (.t 36))]) (.seq (.seq (.ops true [oP 38 (.fa 2 (.t 5)), oA 39 (.ld 1 false (.t 38)) [0], oP 40 (.fa 1 (.t 3)), oA 41 (.ld 1 false (.t 40)) [2], oP 42 (.fa 0 (.t 7)), oA 43 (.ld 1 false (.t 42)) [4],
  oA 44 (.iaS 7 (.t 41) (.t 43)) [4, 2, 5, 3], oA 45 (.fa 3 (.t 44)) [3, 5, 2, 4, 6], oA 46 (.ld 1 false (.t 45)) [6, 4, 2, 5, 3, 7], oA 47 (.bin .gtr (.t 39) (.t 46)) [7, 3, 5, 2, 4, 6, 0, 8, 1]]) (.cond (.t 47) (.seq (.ops false [oP 48 (.fa 2 (.t 5)), oS (.st 1 (.t 48) (cI 0))]) (.ops false [oP 49 (.fa 1 (.t 5)), oP 50 (.ld 1 false (.t 49)), oP 51 (.bin .add (.t 50) (cI 1)), oP 52 (.fa 1 (.t 5)),
  oS (.st 1 (.t 52) (.t 51))])) .skip)) c101_1))
def c101_3 : C := (.seq (.ops false [oP 16 (.fa 0 (.t 5)), oP 17 (.ld 1 false (.t 16)), oP 18 (.fa 1 (.t 5)), oP 19 (.ld 1 false (.t 18)), oP 20 (.iaS 2 (.t 17) (.t 19)), oP 21 (.ld 2 true (.t 20)), oP 7 (.new [(.v (.int .i64 0)), (.v (.bool false))]), oS (.st 2 (.t 7) (.t 21))]) (.seq (.ops false [oP 22 (.fa 0 (.t 4)), oP 23 (.ld 1 false (.t 22)), oP 24 (.fa 0 (.t 7)), oP 25 (.ld 1 false (.t 24)),
  oP 26 (.iaS 1 (.t 23) (.t 25)), oP 27 (.ld 1 false (.t 26)), oP 8 (.mv (.t 27))]) (.seq (.seq (.ops false [oP 28 (.fa 1 (.t 7)), oP 29 (.ld 1 false (.t 28))]) (.cond (.t 29) (.ops false [oP 30 (.mv (.t 8)), oP 31 (.neg (.t 30)), oP 8 (.mv (.t 31))]) .skip)) c101_2)))
def c101 : C := (.seq (.ops false [oP 3 (.box 6 (.t 0)), oP 4 (.box 3 (.t 1)), oP 5 (.box 3 (.t 2)), oP 6 (.new [.mt, (.v (.int .i64 0)), (.v (.int .i64 0))])]) (.seq (.seq (.ops false [oP 9 (.fa 1 (.t 5)), oP 10 (.ld 1 false (.t 9)), oP 11 (.fa 0 (.t 5)), oP 12 (.ld 1 false (.t 11)), oP 13 (.len (.t 12)), oP 14 (.bin .eql (.t 10) (.t 13))]) (.cond (.t 14) (.seq (.ops false [oP 15 (.ld 3 true (.t 5)),
  oS (.st 3 (.t 6) (.t 15))]) .ret) .skip)) c101_3))
def r101 : List RV := [(.cell 6 3 true)]
theorem c101_ok : ∃ code, Try.f101.body = some code ∧ compC Try.prog Try.f101.ntmps code = some (C.strip c101) := ⟨_, rfl, by kernel_rfl⟩
theorem r101_ok : compRes Try.prog Try.f101.results.toList = some r101 := by kernel_rfl
theorem f101_ok : fnOk Try.prog 101 = true := by kernel_rfl
def c143_1 : C := (.ops false [oP 18 (.mv (.t 5)), oP 19 (.bin .add (.t 18) (cI 1)), oP 5 (.mv (.t 19))])
def c143_2 : C := (.seq (.block 1 (.seq (.ops true [oP 20 (.mv (.t 1)), oP 21 (.mv (.t 5)), oA 22 (.iaS 2 (.t 20) (.t 21)) [1, 0], oA 23 (.fa 0 (.t 22)) [0, 1, 2], oA 24 (.ld 1 false (.t 23)) [2, 1, 0, 3], oA 25 (.bin .lss (.t 24) (cI 0)) [3, 0, 1, 2, 4], oA 26 (.mv (.t 25)) [4, 2, 1, 0, 3, 5], oH 27 26 false (.mv (.t 1)) [5, 3, 0, 1, 2, 4, 6], oH 28 26 false (.mv (.t 5)) [5, 3, 0, 1, 2, 4, 6],
  oH 29 26 false (.iaS 2 (.t 27) (.t 28)) [4, 2, 1, 0, 3, 5, 6, 8, 7], oH 30 26 false (.fa 0 (.t 29)) [7, 8, 5, 3, 0, 1, 2, 4, 6, 9], oH 31 26 false (.ld 1 false (.t 30)) [9, 4, 2, 1, 0, 3, 5, 8, 7, 6, 10], oH 32 26 false (.fa 1 (.t 2)) [5, 3, 0, 1, 2, 4, 6], oH 33 26 false (.ld 1 false (.t 32)) [4, 2, 1, 0, 3, 5, 6, 12], oH 34 26 false (.len (.t 33)) [12, 5, 3, 0, 1, 2, 4, 6, 13],
  oH 35 26 false (.bin .geq (.t 31) (.t 34)) [13, 12, 10, 7, 8, 5, 3, 0, 1, 2, 4, 9, 6, 14, 11], oA 36 (.pick (.t 26) (cB true) (.t 35)) [11, 14, 9, 8, 7, 10, 12, 13, 5, 3, 0, 1, 2, 4, 15, 6]]) (.cond (.t 36) (.seq (.ops false [oP 4 (.mv (cI 11))]) .ret) .skip))) c143_1)
def c143_3 : C := (.seq (.seq (.ops false [oP 14 (.mv (.t 5)), oP 15 (.mv (.t 1)), oP 16 (.len (.t 15)), oP 17 (.bin .lss (.t 14) (.t 16))]) (.cond (.t 17) .skip (.exit 0))) c143_2)
def c143_4 : C := (.ops false [oP 41 (.mv (.t 6)), oP 42 (.bin .add (.t 41) (cI 1)), oP 6 (.mv (.t 42))])
def c143_5 : C := (.seq (.block 3 (.seq (.ops true [oP 44 (.ld 6 true (.t 2)), oP 45 (.mv (.t 1)), oP 46 (.mv (.t 6)), oA 47 (.bin .sub (.t 46) (cI 1)) [2], oA 48 (.iaS 2 (.t 45) (.t 47)) [2, 3, 1], oA 49 (.ld 2 true (.t 48)) [1, 3, 2, 4], oE 50 (.call 158 [(.t 44), (.t 49)]) [4, 2, 3, 1, 5, 0], oA 43 (.mv (.t 50)) [0, 5, 1, 3, 2, 4, 6], oA 51 (.ext (.t 43) 0) [6, 4, 2, 3, 1, 5, 0, 7], oA 52 (.ext (.t 43) 1) [6, 4,
  2, 3, 1, 5, 0, 7], oA 7 (.mv (.t 51)) [7, 5, 4, 3, 2, 1, 0, 6, 8], oA 8 (.mv (.t 52)) [8, 7, 6, 5, 4, 3, 2, 1, 0, 10, 9]]) (.seq (.ops true [oP 54 (.ld 6 true (.t 2)), oP 55 (.mv (.t 1)), oP 56 (.mv (.t 6)), oA 57 (.iaS 2 (.t 55) (.t 56)) [2, 1], oA 58 (.ld 2 true (.t 57)) [1, 2, 3], oE 59 (.call 158 [(.t 54), (.t 58)]) [3, 2, 1, 4, 0], oA 53 (.mv (.t 59)) [0, 4, 1, 2, 3, 5], oA 60 (.ext (.t 53)
  0) [5, 3, 2, 1, 4, 0, 6], oA 61 (.ext (.t 53) 1) [5, 3, 2, 1, 4, 0, 6], oA 9 (.mv (.t 60)) [6, 4, 3, 2, 1, 0, 5, 7], oA 10 (.mv (.t 61)) [7, 6, 5, 4, 3, 2, 1, 0, 9, 8]]) (.seq (.ops false [oP 62 (.mv (.t 8)), oP 63 (.mv (.t 9)), oP 64 (.bin .neq (.t 62) (.t 63))]) (.cond (.t 64) (.seq (.ops false [oP 4 (.mv (cI 11))]) .ret) .skip))))) c143_4)
def c143_6 : C := (.seq (.seq (.ops false [oP 37 (.mv (.t 6)), oP 38 (.mv (.t 1)), oP 39 (.len (.t 38)), oP 40 (.bin .lss (.t 37) (.t 39))]) (.cond (.t 40) .skip (.exit 2))) c143_5)
def c143_7 : C := (.seq (.ops false [oP 4 (.mv (cI 0))]) .ret)
def c143_8 : C := (.seq (.seq (.ops false [oP 6 (.mv (cI 1))]) (.block 2 (.loop c143_6))) c143_7)
def c143_9 : C := (.seq (.seq (.ops false [oP 5 (.mv (cI 0))]) (.block 0 (.loop c143_3))) c143_8)
def c143 : C := (.seq (.ops false [oP 2 (.box 6 (.t 0)), oP 4 (.mv (cI 0))]) (.seq (.seq (.ops false [oP 11 (.mv (.t 1)), oP 12 (.len (.t 11)), oP 13 (.bin .gtr (.t 12) (cI 32))]) (.cond (.t 13) (.seq (.ops false [oP 4 (.mv (cI 11))]) .ret) .skip)) c143_9))
def r143 : List RV := [(.tmp 4)]
theorem c143_ok : ∃ code, Try.f143.body = some code ∧ compC Try.prog Try.f143.ntmps code = some (C.strip c143) := ⟨_, rfl, by kernel_rfl⟩
theorem r143_ok : compRes Try.prog Try.f143.results.toList = some r143 := by kernel_rfl
theorem f143_ok : fnOk Try.prog 143 = true := by kernel_rfl
structure ChnOk (n : Net) (w : List (Int × Bool)) : Prop where
  kn : ∀ h ∈ w, 0 ≤ h.1 ∧ h.1 < n.segs.length
  nx : ∀ (j : Nat) (x y : Int × Bool), w[j]? = some x → w[j + 1]? = some y → (tEnds n x).2 = (tEnds n y).1
theorem tEnds_nn {n : Net} (hv : NetV n) {h : Int × Bool} (h1 : 0 ≤ h.1 ∧ h.1 < n.segs.length) : 0 ≤ (tEnds n h).1 ∧ 0 ≤ (tEnds n h).2 := by
  obtain ⟨s, _, e, _, a, b, _⟩ := seg_at hv h1
  rw [e]
  split <;> exact ⟨by dsimp only; omega, by dsimp only; omega⟩
theorem chn_iff {n : Net} (hv : NetV n) : ∀ (w : List (Int × Bool)) (a : Int), chnB n a w = true ↔ ChnOk n w ∧ (0 ≤ a → ∀ h, w.head? = some h → (tEnds n h).1 = a)
  | [], a => ⟨fun _ => ⟨⟨fun h hh => (by cases hh), fun j x y hx => by simp at hx⟩, fun _ h hh => by simp at hh⟩, fun _ => rfl⟩
  | h :: l, a => by
    have ih := chn_iff hv l (tEnds n h).2
    unfold chnB
    cases c1 : tUnk n h with
    | true =>
      rw [if_pos rfl]
      refine ⟨fun k => (by cases k), fun k => ?_⟩
      have := unk_f (k.1.kn h (List.mem_cons_self ..))
      rw [c1] at this; cases this
    | false =>
      rw [if_neg Bool.false_ne_true]
      have hk : 0 ≤ h.1 ∧ h.1 < n.segs.length := by
        unfold tUnk at c1
        cases d1 : decide (h.1 < 0) with
        | true => rw [d1, if_pos rfl] at c1; cases c1
        | false =>
          rw [d1, if_neg Bool.false_ne_true] at c1
          have := of_decide_eq_false d1
          have := of_decide_eq_false c1
          omega
      have nn := tEnds_nn hv hk
      cases c2 : (if decide (0 ≤ a) = true then a != (tEnds n h).1 else false) with
      | true =>
        rw [if_pos rfl]
        refine ⟨fun k => (by cases k), fun k => ?_⟩
        cases d1 : decide (0 ≤ a) with
        | false => rw [d1, if_neg Bool.false_ne_true] at c2; cases c2
        | true =>
          rw [d1, if_pos rfl] at c2
          have := k.2 (of_decide_eq_true d1) h rfl
          rw [this] at c2
          simp at c2
      | false =>
        rw [if_neg Bool.false_ne_true, ih]
        constructor
        · rintro ⟨⟨k1, k2⟩, k3⟩
          refine ⟨⟨fun x hx => ?_, fun j x y hx hy => ?_⟩, fun ha x hx => ?_⟩
          · rcases List.mem_cons.1 hx with rfl | hx
            · exact hk
            · exact k1 x hx
          · cases j with
            | zero =>
              simp at hx; subst hx
              refine (k3 nn.2 y ?_).symm
              rw [List.head?_eq_getElem?]
              simpa using hy
            | succ j => exact k2 j x y (by simpa using hx) (by simpa using hy)
          · simp at hx; subst hx
            rw [decide_eq_true ha, if_pos rfl] at c2
            exact (show a = (tEnds n h).1 by simpa using c2).symm
        · rintro ⟨⟨k1, k2⟩, k3⟩
          refine ⟨⟨fun x hx => k1 x (List.mem_cons_of_mem _ hx), fun j x y hx hy => k2 (j + 1) x y (by simpa using hx) (by simpa using hy)⟩, fun _ x hx => ?_⟩
          refine (k2 0 h x rfl ?_).symm
          rw [List.head?_eq_getElem?] at hx
          simpa using hx
def wyE (n : Net) (w : List (Int × Bool)) : Int := if decide ((32 : Int) < w.length) = true then 11 else if chnB n (-1) w = true then 0 else 11
def TWy : Tbl := tc 158 (rowPu selE25) T0
theorem TWy_ok : TblOk Try.prog TWy := tc_pu f158_ok (fun args pre d hs hp nn => by
  unfold selE25 at hs
  split at hs
  · split at hs
    · rename_i e1 e2
      cases hs
      rw [netOf1_eq e1, tHopOf1_eq e2]
      exact ends25_c _ _ hp nn
    · cases hs
  · cases hs) (T0_ok _)
def WyF (w : List (Int × Bool)) (l : List (Nat × D)) : List (Nat × D) := (1, .sl (w.map tHop)) :: (2, .ptr (0, 2) 0 0 0) :: l
def WyH (n : Net) : Hp := Hp.none.put (0, 2) ⟨0, 6, [netD n]⟩
set_option maxHeartbeats 8000000 in
theorem rway_c (n : Net) (hv : NetV n) (w : List (Int × Bool)) (hw : w.length ≤ 1000000) (nn : Nm) : CallsA Try.prog 143 [n.enc, .sl (w.map tHop)] Hp.none nn (Pu (di (wyE n w)) Hp.none) := by
  obtain ⟨code, h1, h2⟩ := c143_ok
  refine callsA_of TWy_ok mixed (N := fun t => (0, t)) Try.func143 h1 h2 r143_ok [] false js_nil js_nil' (by simp [Try.f143]) ?_
  have hn1 := netOf1_x n
  unfold wyE
  cases c1 : decide ((32 : Int) < w.length) with
  | true =>
    rw [if_pos rfl]
    simp (maxSteps:=500000) only [↓vp, vv, ↓reduceIte, simprocAttr, c143, r143, Net.enc, netD, c1, Pu]
  | false =>
    rw [if_neg Bool.false_ne_true]
    have hbad : ¬ ChnOk n w → (if chnB n (-1) w = true then (0 : Int) else 11) = 11 := fun k => by
      cases e : chnB n (-1) w with
      | true => exact absurd ((chn_iff hv w (-1)).1 e).1 k
      | false => rfl
    simp (maxSteps:=500000) only [↓vp, vv, ↓reduceIte, simprocAttr, c143, c143_9, Net.enc, netD, c1]
    have hl : w.length ≤ 32 := by have := of_decide_eq_false c1; omega
    refine rng_loop w.length (fun j => ⟨fr (WyF w [(5, di (j : Nat))]), WyH n⟩) (fun j => ∀ (i : Nat) (x : Int × Bool), i < j → w[i]? = some x → 0 ≤ x.1 ∧ x.1 < n.segs.length) (weak_eq [] [(0, 2)] (WyF w [(5, di 0)]) (by simp (maxSteps:=500000) only [↓vp, vv, ↓reduceIte, simprocAttr, coverS, WyF, WyH, netD]) (by simp (maxSteps:=500000) only [↓vp, vv, ↓reduceIte, simprocAttr, refsF, WyF, WyH, netD]) (by simp (maxSteps:=500000) only [↓vp, vv, ↓reduceIte, simprocAttr, WyF, WyH, netD]) (by simp) (by simp (maxSteps:=500000) only [↓vp, vv, ↓reduceIte, simprocAttr, WyF, WyH, netD]; try rfl)) (fun i x h => absurd h (by omega)) (fun j hj hP => ?_) (fun hP => ?_)
    · have hj' : (j : Int) < w.length := by omega
      have w1 := idx_next (j := j) (by omega)
      have g := tHop_g w j hj
      have hx : w[j]? = some w[j] := List.getElem?_eq_getElem hj
      have hm := List.getElem_mem hj
      generalize w[j] = y at g hx hm
      obtain ⟨q, b⟩ := y
      cases d1 : decide (q < 0) with
      | true =>
        have hb := hbad fun k => by have := (k.kn _ hm).1; have := of_decide_eq_true d1; dsimp only at *; omega
        rw [hb]
        simp (maxSteps:=500000) only [↓vp, vv, ↓reduceIte, simprocAttr, c143_3, c143_2, r143, WyF, WyH, netD, hj', idx_nn, g, tHop, Int.toNat_natCast, d1, Pu]
      | false =>
        cases d2 : decide ((n.segs.length : Int) ≤ q) with
        | true =>
          have hb := hbad fun k => by have := (k.kn _ hm).2; have := of_decide_eq_true d2; dsimp only at *; omega
          rw [hb]
          simp (maxSteps:=500000) only [↓vp, vv, ↓reduceIte, simprocAttr, c143_3, c143_2, r143, WyF, WyH, netD, hj', idx_nn, g, tHop, Int.toNat_natCast, d1, d2, Pu]
        | false =>
          simp (maxSteps:=500000) only [↓vp, vv, ↓reduceIte, simprocAttr, c143_3, c143_2, c143_1, WyF, WyH, netD, hj', idx_nn, g, tHop, Int.toNat_natCast, d1, d2, w1]
          exact rng_next hj (weak_eq [] [(0, 2)] (WyF w [(5, di (j + 1 : Nat))]) (by simp (maxSteps:=500000) only [↓vp, vv, ↓reduceIte, simprocAttr, coverS, WyF, WyH, netD, w1]) (by simp (maxSteps:=500000) only [↓vp, vv, ↓reduceIte, simprocAttr, refsF, WyF, WyH, netD, w1]) (by simp (maxSteps:=500000) only [↓vp, vv, ↓reduceIte, simprocAttr, WyF, WyH, netD, w1]) (by simp) (by simp (maxSteps:=500000) only [↓vp, vv, ↓reduceIte, simprocAttr, WyF, WyH, netD, w1]; try rfl)) (fun i x hi hx' => by
            rcases Nat.lt_or_eq_of_le (Nat.lt_succ_iff.1 hi) with h | rfl
            · exact hP i x h hx'
            · rw [hx] at hx'; cases hx'
              have := of_decide_eq_false d1; have := of_decide_eq_false d2
              exact ⟨by dsimp only; omega, by dsimp only; omega⟩)
    · have hkn : ∀ h ∈ w, 0 ≤ h.1 ∧ h.1 < n.segs.length := fun h hh => by
        obtain ⟨i, hi⟩ := List.getElem?_of_mem hh
        exact hP i h (List.getElem?_eq_some_iff.1 hi).1 hi
      simp (maxSteps:=500000) only [↓vp, vv, ↓reduceIte, simprocAttr, c143_3, c143_8, WyF, WyH, netD, Int.lt_irrefl]
      refine rng_loop (w.length - 1) (fun j => ⟨fr (WyF w [(6, di (j + 1 : Nat))]), WyH n⟩) (fun j => ∀ (i : Nat) (x y : Int × Bool), i < j → w[i]? = some x → w[i + 1]? = some y → (tEnds n x).2 = (tEnds n y).1) (weak_eq [] [(0, 2)] (WyF w [(6, di (0 + 1 : Nat))]) (by simp (maxSteps:=500000) only [↓vp, vv, ↓reduceIte, simprocAttr, coverS, WyF, WyH, netD]) (by simp (maxSteps:=500000) only [↓vp, vv, ↓reduceIte, simprocAttr, refsF, WyF, WyH, netD]) (by simp (maxSteps:=500000) only [↓vp, vv, ↓reduceIte, simprocAttr, WyF, WyH, netD]) (by simp) (by simp (maxSteps:=500000) only [↓vp, vv, ↓reduceIte, simprocAttr, WyF, WyH, netD]; try rfl)) (fun i x y h => absurd h (by omega)) (fun j hj hQ => ?_) (fun hQ => ?_)
      · have hj' : ((j + 1 : Nat) : Int) < w.length := by omega
        have hj0 : (j : Int) < w.length := by omega
        have w0 : IntKind.i64.wrap (((j + 1 : Nat) : Int) - 1) = (j : Nat) := by rw [wrap_i (by omega)]; omega
        have w1 := idx_next (j := j + 1) (by omega)
        have g0 := tHop_g w j (by omega)
        have g1 := tHop_g w (j + 1) (by omega)
        have hx0 : w[j]? = some w[j] := List.getElem?_eq_getElem (by omega)
        have hx1 : w[j + 1]? = some w[j + 1] := List.getElem?_eq_getElem (by omega)
        have k0 := hkn _ (List.getElem_mem (show j < w.length by omega))
        have k1 := hkn _ (List.getElem_mem (show j + 1 < w.length by omega))
        generalize w[j] = x at g0 hx0 k0
        generalize w[j + 1] = y at g1 hx1 k1
        have t0 : tHopOf1 [di x.1, db x.2] = some x := rfl
        have t1 : tHopOf1 [di y.1, db y.2] = some y := rfl
        cases d1 : ((tEnds n x).2 != (tEnds n y).1) with
        | true =>
          have hb := hbad fun k => by have := k.nx j x y hx0 hx1; rw [this] at d1; simp at d1
          rw [hb]
          simp (maxSteps:=500000) only [↓vp, vv, ↓reduceIte, simprocAttr, c143_6, c143_5, r143, TWy, selE25, WyF, WyH, netD, hj', hj0, idx_nn, g0, g1, tHop, Int.toNat_natCast, w0, t0, t1, hn1, k0, k1, d1, Pu]
        | false =>
          simp (maxSteps:=500000) only [↓vp, vv, ↓reduceIte, simprocAttr, c143_6, c143_5, c143_4, TWy, selE25, WyF, WyH, netD, hj', hj0, idx_nn, g0, g1, tHop, Int.toNat_natCast, w0, t0, t1, hn1, k0, k1, d1, w1]
          exact rng_next hj (weak_eq [] [(0, 2)] (WyF w [(6, di (j + 1 + 1 : Nat))]) (by simp (maxSteps:=500000) only [↓vp, vv, ↓reduceIte, simprocAttr, coverS, WyF, WyH, netD, w1]) (by simp (maxSteps:=500000) only [↓vp, vv, ↓reduceIte, simprocAttr, refsF, WyF, WyH, netD, w1]) (by simp (maxSteps:=500000) only [↓vp, vv, ↓reduceIte, simprocAttr, WyF, WyH, netD, w1]) (by simp) (by simp (maxSteps:=500000) only [↓vp, vv, ↓reduceIte, simprocAttr, WyF, WyH, netD, w1]; try rfl)) (fun i a b hi ha hb => by
            rcases Nat.lt_or_eq_of_le (Nat.lt_succ_iff.1 hi) with h | rfl
            · exact hQ i a b h ha hb
            · rw [hx0] at ha; rw [hx1] at hb; cases ha; cases hb
              simpa using d1)
      · have hok : ChnOk n w := ⟨hkn, fun j x y hx hy => hQ j x y (by have := (List.getElem?_eq_some_iff.1 hy).1; omega) hx hy⟩
        have hc : chnB n (-1) w = true := (chn_iff hv w (-1)).2 ⟨hok, fun h => absurd h (by decide)⟩
        rw [hc, if_pos rfl]
        have hj' : ¬ ((w.length - 1 + 1 : Nat) : Int) < w.length := by omega
        simp (maxSteps:=500000) only [↓vp, vv, ↓reduceIte, simprocAttr, c143_6, c143_7, r143, WyF, WyH, netD, hj', Pu]
def selWy : List D → Option (Prop × D)
  | [.agg a, .sl r] => match netOf1 a, lsOf tHopOf1 r with
    | some n, some w => some (NetV n ∧ w.length ≤ 1000000, di (wyE n w))
    | _, _ => Option.none
  | _ => Option.none
theorem tc_wy {T : Tbl} (hT : TblOk Try.prog T) : TblOk Try.prog (tc 143 (rowPu selWy) T) := tc_pu f143_ok (fun args pre d hs hp nn => by
  unfold selWy at hs
  split at hs
  · split at hs
    · rename_i e1 e2
      cases hs
      rw [netOf1_eq e1, lsOf_eq (fun r x => tHopOf1_eq) e2]
      exact rway_c _ hp.1 _ hp.2 nn
    · cases hs
  · cases hs) hT
set_option maxHeartbeats 8000000 in
theorem rval32_c (n : Net) (hv : NetV n) (t : Tol) (hw : t.way.length ≤ 1000000) (nn : Nm) : CallsA Try.prog 98 [n.enc, t.enc] Hp.none nn (Pu (db (tolV n t)) Hp.none) := by
  obtain ⟨code, h1, h2⟩ := c98_ok
  refine callsA_of (tc_wy (T0_ok _)) mixed (N := fun t => (0, t)) Try.func98 h1 h2 r98_ok [] false js_nil js_nil' (by simp [Try.f98]) ?_
  have hn1 := netOf1_x n
  have hh1 : lsOf tHopOf1 (t.way.map tHop) = some t.way := lsOf_map tHopOf1_row t.way
  have hsl := hv.sl
  cases c1 : decide ((t.way.length : Int) < 1) with
  | true =>
    have hV : tolV n t = false := by unfold tolV; rw [c1, if_pos rfl, if_pos rfl]
    simp (maxSteps:=500000) only [↓vp, vv, ↓reduceIte, simprocAttr, c98, r98, c98_1, c98_2, Net.enc, netD, Tol.enc, Tol.row, c1, hV, Pu]
  | false =>
  cases c2 : decide ((32 : Int) < t.way.length) with
  | true =>
    have hV : tolV n t = false := by unfold tolV; rw [c1, if_neg Bool.false_ne_true, c2, if_pos rfl]
    have hE : wyE n t.way = 11 := by unfold wyE; rw [c2, if_pos rfl]
    have b1 : ((11 : Int) != 0) = true := rfl
    simp (maxSteps:=500000) only [↓vp, vv, ↓reduceIte, simprocAttr, c98, r98, c98_1, c98_2, selWy, Net.enc, netD, Tol.enc, Tol.row, c1, hn1, hh1, hv, hw, hE, b1, hV, Pu]
  | false =>
  cases c3 : chnB n (-1) t.way with
  | false =>
    have hV : tolV n t = false := by unfold tolV; rw [c1, if_neg Bool.false_ne_true, c2, if_neg Bool.false_ne_true, c3, if_neg Bool.false_ne_true]
    have hE : wyE n t.way = 11 := by unfold wyE; rw [c2, if_neg Bool.false_ne_true, c3, if_neg Bool.false_ne_true]
    have b1 : ((11 : Int) != 0) = true := rfl
    simp (maxSteps:=500000) only [↓vp, vv, ↓reduceIte, simprocAttr, c98, r98, c98_1, c98_2, selWy, Net.enc, netD, Tol.enc, Tol.row, c1, hn1, hh1, hv, hw, hE, b1, hV, Pu]
  | true =>
    have hV : tolV n t = posB n t := by unfold tolV; rw [c1, if_neg Bool.false_ne_true, c2, if_neg Bool.false_ne_true, c3, if_pos rfl]
    have hE : wyE n t.way = 0 := by unfold wyE; rw [c2, if_neg Bool.false_ne_true, c3, if_pos rfl]
    have b1 : ((0 : Int) != 0) = false := rfl
    rw [hV]
    have hin := chn_in c3
    have hl0 : ¬ (t.way.length : Int) < 1 := of_decide_eq_false c1
    cases d1 : decide (t.hop < 0) with
    | true =>
      have hd := of_decide_eq_true d1
      have hp : posB n t = false := by
        unfold posB
        rw [if_neg (by simp; omega), decide_eq_false (show ¬ 0 ≤ t.hop by omega), if_neg Bool.false_ne_true]
      simp (maxSteps:=500000) only [↓vp, vv, ↓reduceIte, simprocAttr, c98, r98, c98_1, c98_2, selWy, Net.enc, netD, Tol.enc, Tol.row, c1, hn1, hh1, hv, hw, hE, b1, d1, hp, Pu]
    | false =>
    cases d2 : decide ((t.way.length : Int) < t.hop) with
    | true =>
      have hd := of_decide_eq_true d2
      have hp : posB n t = false := by
        unfold posB
        rw [if_neg (by simp; omega), decide_eq_true (show 0 ≤ t.hop by omega), if_pos rfl, decide_eq_false (show ¬ t.hop < t.way.length by omega), if_neg Bool.false_ne_true]
      simp (maxSteps:=500000) only [↓vp, vv, ↓reduceIte, simprocAttr, c98, r98, c98_1, c98_2, selWy, Net.enc, netD, Tol.enc, Tol.row, c1, hn1, hh1, hv, hw, hE, b1, d1, d2, hp, Pu]
    | false =>
    have e1 := of_decide_eq_false d1
    have e2 := of_decide_eq_false d2
    cases d3 : (t.hop == (t.way.length : Int)) with
    | true =>
      have hp : posB n t = (t.pos == 0) := by unfold posB; rw [d3, if_pos rfl]
      simp (maxSteps:=500000) only [↓vp, vv, ↓reduceIte, simprocAttr, c98, r98, c98_1, c98_2, selWy, Net.enc, netD, Tol.enc, Tol.row, c1, hn1, hh1, hv, hw, hE, b1, d1, d2, d3, hp, Pu]
    | false =>
    have e3 : t.hop ≠ (t.way.length : Int) := by simpa using d3
    have q2 : 0 ≤ t.hop := by omega
    have q3 : t.hop < (t.way.length : Int) := by omega
    have q4 : t.hop.toNat < t.way.length := by omega
    have hp : posB n t = (if decide (0 ≤ t.pos) = true then decide (t.pos ≤ tCap n (t.way.getD t.hop.toNat (0, false))) else false) := by
      unfold posB
      rw [d3, if_neg Bool.false_ne_true, decide_eq_true q2, if_pos rfl, decide_eq_true q3, if_pos rfl]
    rw [way_get q4] at hp
    have gw := tHop_g t.way t.hop.toNat q4
    obtain ⟨sg, gs, _, hcap, _⟩ := seg_at hv (hin _ (List.getElem_mem q4))
    have hi := hin _ (List.getElem_mem q4)
    rw [hcap] at hp
    generalize t.way[t.hop.toNat] = y at gw gs hi
    obtain ⟨k, b⟩ := y
    obtain ⟨u1, u2⟩ := hi
    dsimp only at u1 u2 gs
    cases d4 : decide (0 ≤ t.pos) with
    | false =>
      rw [d4, if_neg Bool.false_ne_true] at hp
      simp (maxSteps:=500000) only [↓vp, vv, ↓reduceIte, simprocAttr, c98, r98, c98_1, c98_2, selWy, Net.enc, netD, Tol.enc, Tol.row, c1, hn1, hh1, hv, hw, hE, b1, d1, d2, d3, d4, hp, Pu]
    | true =>
      rw [d4, if_pos rfl] at hp
      simp (maxSteps:=500000) only [↓vp, vv, ↓reduceIte, simprocAttr, c98, r98, c98_1, c98_2, selWy, Net.enc, netD, Tol.enc, Tol.row, c1, hn1, hh1, hv, hw, hE, b1, d1, d2, d3, d4, hp, q2, q3, gw, tHop, gs, Seg.row, u1, u2, Pu]
theorem tc_rval {T : Tbl} (hT : TblOk Try.prog T) : TblOk Try.prog (tc 98 (rowPu selVal) T) :=
  tc_pu f98_ok (fun args pre d hs hp nn => by
    unfold selVal at hs
    split at hs
    · split at hs
      · rename_i e1 e2
        cases hs
        rw [netOf1_eq e1, tolOf1_eq e2]
        exact rval32_c _ hp.1 _ hp.2 nn
      · cases hs
    · cases hs) hT
set_option maxHeartbeats 8000000 in
theorem rmove_c (n : Net) (p : Pln) (t : Tol) (h : MvPre n p t) (nn : Nm) : CallsA Try.prog 101 [n.enc, p.enc, t.enc] Hp.none nn (Pu (mov1 n p t).enc Hp.none) := by
  obtain ⟨code, h1, h2⟩ := c101_ok
  refine callsA_of (T0_ok _) mixed (N := fun t => (0, t)) Try.func101 h1 h2 r101_ok [] false js_nil js_nil' (by simp [Try.f101]) ?_
  unfold mov1
  cases c1 : (t.hop == (t.way.length : Int)) with
  | true =>
    rw [if_pos rfl]
    simp (maxSteps:=500000) only [↓vp, vv, ↓reduceIte, simprocAttr, c101, r101, c101_1, c101_2, c101_3, Net.enc, Pln.enc, Tol.enc, netD, plnD, Tol.row, c1, Pu]
  | false =>
    rw [if_neg Bool.false_ne_true]
    have h1' : ¬ t.hop = (t.way.length : Int) := by simpa using c1
    have hl := h.t.l
    obtain ⟨q1, q2, q3, q4⟩ := h.t.at' h1'
    have q5 : t.hop.toNat < t.way.length := by omega
    have gw := tHop_g t.way t.hop.toNat q5
    rw [way_get q5] at q4 ⊢
    have hin := chn_in h.t.ch _ (List.getElem_mem q5)
    obtain ⟨sg, gs, _, hcap, _, _, hc1, hc2⟩ := seg_at h.v hin
    rw [hcap] at q4 ⊢
    have hrl := h.rl
    have hrb := h.rb
    have hsl := h.v.sl
    generalize hy : t.way[t.hop.toNat] = y at *
    obtain ⟨k, b⟩ := y
    obtain ⟨u1, u2⟩ := hin
    dsimp only at u1 u2 gs
    have k1 : k.toNat < p.rates.length := by omega
    have k2 : k < (p.rates.length : Int) := by omega
    have gr : (p.rates.map iRow).getD k.toNat [] = [di (p.rates.getD k.toNat 0)] := by rw [List.getD_eq_getElem?_getD (l := p.rates), List.getElem?_eq_getElem k1]; exact iRow_at p.rates k.toNat k1
    have hr : -1000000 ≤ p.rates.getD k.toNat 0 ∧ p.rates.getD k.toNat 0 ≤ 1000000 := by
      rw [List.getD_eq_getElem?_getD, List.getElem?_eq_getElem k1]
      exact hrb _ (List.getElem_mem k1)
    unfold tRate
    dsimp only
    generalize p.rates.getD k.toNat 0 = r at *
    have wh : IntKind.i64.wrap (t.hop + 1) = t.hop + 1 := wrap_i (by omega)
    cases b
    · rw [if_neg Bool.false_ne_true]
      have wr : IntKind.i64.wrap (t.pos + r) = t.pos + r := wrap_i (by omega)
      have em : (if 0 < t.pos + r then t.pos + r else 0) = pos0 (t.pos + r) := rfl
      cases d1 : decide (sg.cap < pos0 (t.pos + r)) with
      | true =>
        rw [if_pos rfl]
        simp (maxSteps:=500000) only [↓vp, vv, ↓reduceIte, simprocAttr, c101, r101, c101_1, c101_2, c101_3, Net.enc, Pln.enc, Tol.enc, netD, plnD, Tol.row, c1, q1, q2, gw, tHop, u1, u2, k2, gr, gs, Seg.row, wr, em, d1, wh, Pu]
      | false =>
        rw [if_neg Bool.false_ne_true]
        simp (maxSteps:=500000) only [↓vp, vv, ↓reduceIte, simprocAttr, c101, r101, c101_1, c101_2, c101_3, Net.enc, Pln.enc, Tol.enc, netD, plnD, Tol.row, c1, q1, q2, gw, tHop, u1, u2, k2, gr, gs, Seg.row, wr, em, d1, wh, Pu]
    · rw [if_pos rfl]
      have wn : IntKind.i64.wrap (0 - r) = -r := by rw [wrap_i (by omega)]; omega
      have wr : IntKind.i64.wrap (t.pos + -r) = t.pos + -r := wrap_i (by omega)
      have em : (if 0 < t.pos + -r then t.pos + -r else 0) = pos0 (t.pos + -r) := rfl
      cases d1 : decide (sg.cap < pos0 (t.pos + -r)) with
      | true =>
        rw [if_pos rfl]
        simp (maxSteps:=500000) only [↓vp, vv, ↓reduceIte, simprocAttr, c101, r101, c101_1, c101_2, c101_3, Net.enc, Pln.enc, Tol.enc, netD, plnD, Tol.row, c1, q1, q2, gw, tHop, u1, u2, k2, gr, gs, Seg.row, wn, wr, em, d1, wh, Pu]
      | false =>
        rw [if_neg Bool.false_ne_true]
        simp (maxSteps:=500000) only [↓vp, vv, ↓reduceIte, simprocAttr, c101, r101, c101_1, c101_2, c101_3, Net.enc, Pln.enc, Tol.enc, netD, plnD, Tol.row, c1, q1, q2, gw, tHop, u1, u2, k2, gr, gs, Seg.row, wn, wr, em, d1, wh, Pu]
theorem tc_rmv {T : Tbl} (hT : TblOk Try.prog T) : TblOk Try.prog (tc 101 (rowPu selMv) T) := tc_pu f101_ok (fun args pre d hs hp nn => by
  unfold selMv at hs
  split at hs
  · split at hs
    · rename_i e1 e2 e3
      cases hs
      rw [netOf1_eq e1, plnOf1_eq e2, tolOf1_eq e3]
      exact rmove_c _ _ _ hp nn
    · cases hs
  · cases hs) hT
theorem rrec_c (t : Tol) (nn : Nm) : CallsA Try.prog 48 [t.enc] Hp.none nn (Pu (db (recB t)) Hp.none) := by
  obtain ⟨code, h1, h2⟩ := c48_ok
  refine callsA_of (T0_ok _) mixed (N := fun t => (0, t)) Try.func48 h1 h2 r48_ok [] false js_nil js_nil' (by simp [Try.f48]) ?_
  cases c1 : decide ((0 : Int) < t.way.length) <;> simp (maxSteps:=500000) only [↓vp, vv, ↓reduceIte, simprocAttr, c48, r48, Tol.enc, Tol.row, recB, c1, Pu]
end Go.Proofs.Ytadjhfjiimgddaa
