/- RouteAnswers: CodeWR Wr Rb7 CodeRB. -/
import Derived.Test.YtadjhfjiimgddaaYr3
import Derived.Test.YtadjhfjiimgddaaProg
import Derived.Test.YtadjhfjiimgddaaYr10
import Derived.Test.YtadjhfjiimgddaaYr8
import Derived.Test.YtadjhfjiimgddaaYr9
import Derived.Test.YtadjhfjiimgddaaYr18
import Derived.Test.YtadjhfjiimgddaaYr16
set_option linter.unusedSimpArgs false
set_option linter.unusedVariables false
set_option maxRecDepth 100000
/- Compiled code of some functions (printed by a program), each checked by the kernel. -/
namespace Go.Proofs.Ytadjhfjiimgddaa
open Go
def c36_1 : C := (.block 2 (.ops true [oP 51 (.fa 0 (.t 3)), oA 52 (.ld 1 false (.t 51)) [0], oP 53 (.fa 0 (.t 3)), oA 54 (.ld 1 false (.t 53)) [2], oA 55 (.len (.t 54)) [2, 3], oE 56 (.call 65 [(.c (.v (.string ({ data := #[121] })))), (.t 55)]) [3, 2, 4], oP 57 (.fa 0 (.t 3)), oA 58 (.ld 1 false (.t 57)) [6], oA 59 (.len (.t 58)) [6, 7], oA 60 (.bin .quo (.t 59) (cI 26)) [7, 6, 8],
 oE 61 (.call 65 [(.c (.v (.string ({ data := #[] })))), (.t 60)]) [4, 2, 3, 8, 6, 7, 5, 9], oA 62 (.bin .add (.t 56) (.t 61)) [9, 7, 6, 8, 4, 2, 3, 10, 5], oA 63 (.bsl 1 1 [(.v (.string ({ data := #[] })))] [(0, (.t 62))]) [5, 10, 3, 2, 4, 8, 6, 7, 9, 11], oA 64 (.app 1 16 (.t 52) (.t 63)) [11, 9, 7, 6, 8, 4, 2, 3, 5, 0, 10, 12, 1], oA 65 (.fa 0 (.t 3)) [13, 12, 11, 10, 9, 8, 7, 6, 5, 4, 3, 2, 1,
 0], oT (.st 1 (.t 65) (.t 64)) [12, 11, 10, 9, 8, 7, 6, 5, 4, 3, 2, 1, 0, 13, 14]]))
def c36_2 : C := (.seq (.seq (.ops true [oP 44 (.fa 0 (.t 3)), oA 45 (.ld 1 false (.t 44)) [0], oA 46 (.len (.t 45)) [0, 1], oM 47 0, oE 48 (.call 13 [(.t 47), (cI 2)]) [3], oA 49 (.bin .add (cI 23) (.t 48)) [3, 4], oA 50 (.bin .leq (.t 46) (.t 49)) [4, 3, 1, 0, 5, 2]]) (.cond (.t 50) .skip (.exit 1))) c36_1)
def c36_3 : C := (.block 0 (.seq (.ops false [oP 67 (.bin .eql (.t 43) (cI 0)), oM 66 67]) (.cond (.t 66) (.ops true [oP 68 (.fa 0 (.t 3)), oA 69 (.ld 1 false (.t 68)) [0], oM 70 0, oP 71 (.fa 0 (.t 3)), oA 72 (.ld 1 false (.t 71)) [3], oA 73 (.len (.t 72)) [3, 4], oE 74 (.call 13 [(.t 70), (.t 73)]) [4, 3, 5, 2], oM 75 0, oP 76 (.bsl 1 4 [(.v (.string ({ data := #[] })))] [(0,
 (.c (.v (.string ({ data := #[] }))))), (1, (.c (.v (.string ({ data := #[110, 97] }))))), (2, (.c (.v (.string ({ data := #[65] }))))), (3, (.c (.v (.string ({ data := #[120, 45, 57] })))))]), oE 77 (.call 94 [(.t 75), (.t 76)]) [2, 5, 3, 4, 6, 8, 7], oA 78 (.iaS 1 (.t 69) (.t 74)) [9, 8, 7, 5, 4, 3, 2, 0, 6, 1], oT (.st 1 (.t 78) (.t 77)) [8, 7, 6, 5, 4, 3, 2, 1, 0, 9, 10]])
 (.seq (.ops false [oP 80 (.bin .eql (.t 43) (cI 1)), oM 79 80]) (.cond (.t 79) (.ops false [oM 81 0, oP 82 (.fa 2 (.t 6)), oP 83 (.ld 1 false (.t 82)), oP 84 (.fa 0 (.t 3)), oP 85 (.ld 1 false (.t 84)), oP 86 (.len (.t 85)), oP 87 (.bsl 1 4 [(.v (.int .i64 0))] [(0, (cI (-1))), (1, (.t 83)), (2, (.t 86)), (3, (cI 0))]), oB 88 (.call 66 [(.t 81), (.t 87)]),
 oP 89 (.fa 1 (.t 6)), oS (.st 1 (.t 89) (.t 88))]) (.seq (.ops false [oP 91 (.bin .eql (.t 43) (cI 2)), oM 90 91]) (.cond (.t 90) (.ops false [oM 92 0, oP 93 (.fa 3 (.t 6)), oP 94 (.ld 1 false (.t 93)), oP 95 (.bin .add (.t 94) (cI 1)), oP 96 (.bsl 1 4 [(.v (.int .i64 0))] [(0, (cI 0)), (1, (cI (-1))), (2, (.t 95)), (3, (cI 1000001))]), oB 97 (.call 66 [(.t 92), (.t 96)]),
 oP 98 (.fa 3 (.t 6)), oS (.st 1 (.t 98) (.t 97))]) (.seq (.ops false [oP 100 (.bin .eql (.t 43) (cI 3)), oM 99 100]) (.cond (.t 99) (.ops false [oM 101 0, oP 102 (.bsl 1 3 [(.v (.int .i64 0))] [(0, (cI (-1))), (1, (cI 1000)), (2, (cI 1001))]), oB 103 (.call 66 [(.t 101), (.t 102)]), oP 104 (.fa 4 (.t 6)), oS (.st 1 (.t 104) (.t 103))])
 (.seq (.ops false [oP 106 (.bin .eql (.t 43) (cI 4)), oM 105 106]) (.cond (.t 105) (.ops false [oM 107 0, oP 108 (.bsl 1 3 [(.v (.int .i64 0))] [(0, (cI (-1))), (1, (cI 100000)), (2, (cI 100001))]), oB 109 (.call 66 [(.t 107), (.t 108)]), oP 110 (.fa 5 (.t 6)), oS (.st 1 (.t 110) (.t 109))]) (.seq (.ops false [oP 112 (.bin .eql (.t 43) (cI 5)), oM 111 112])
 (.cond (.t 111) (.seq (.ops false [oP 113 (.fa 6 (.t 6)), oP 114 (.ld 1 false (.t 113)), oP 115 (.len (.t 114)), oP 116 (.bin .gtr (.t 115) (cI 0))]) (.cond (.t 116) (.ops true [oP 117 (.fa 6 (.t 6)), oA 118 (.ld 1 false (.t 117)) [0], oM 119 0, oP 120 (.fa 6 (.t 6)), oA 121 (.ld 1 false (.t 120)) [3], oA 122 (.len (.t 121)) [3, 4], oE 123 (.call 13 [(.t 119), (.t 122)]) [4, 3, 5, 2],
 oM 124 0, oP 125 (.fa 3 (.t 6)), oA 126 (.ld 1 false (.t 125)) [8], oA 127 (.bsl 1 4 [(.v (.int .i64 0))] [(0, (cI (-1))), (1, (cI 0)), (2, (cI 1)), (3, (.t 126))]) [8, 9], oE 128 (.call 66 [(.t 124), (.t 127)]) [2, 5, 3, 4, 9, 8, 6, 10, 7], oA 129 (.iaS 3 (.t 118) (.t 123)) [11, 10, 9, 8, 7, 5, 4, 3, 2, 0, 6, 1], oA 130 (.fa 0 (.t 129)) [11, 10, 9, 8, 7, 6, 5, 4, 3, 2, 1, 0, 12],
 oT (.st 1 (.t 130) (.t 128)) [12, 10, 9, 8, 7, 6, 5, 4, 3, 2, 1, 0, 11, 13]]) .skip)) (.seq (.ops false [oP 132 (.bin .eql (.t 43) (cI 6)), oM 131 132]) (.cond (.t 131) (.ops true [oP 133 (.fa 6 (.t 6)), oA 134 (.ld 1 false (.t 133)) [0], oM 135 0, oP 136 (.fa 6 (.t 6)), oA 137 (.ld 1 false (.t 136)) [3], oA 138 (.len (.t 137)) [3, 4], oA 139 (.bin .add (.t 138) (cI 1)) [4,
 3, 5], oA 140 (.mnx false (cI 3) (.t 139)) [5, 3, 4, 6], oE 141 (.call 13 [(.t 135), (.t 140)]) [6, 4, 3, 5, 7, 2], oA 142 (.slc 3 (.t 134) Option.none (.some (.t 141))) [2, 7, 5, 3, 4, 6, 0, 8, 1], oA 143 (.fa 6 (.t 6)) [9, 8, 7, 6, 5, 4, 3, 2, 1, 0], oT (.st 1 (.t 143) (.t 142)) [7, 6, 5, 4, 3, 2, 1, 0, 8, 9, 10]]) (.seq (.ops false [oP 145 (.bin .eql (.t 43) (cI 7)), oM 144 145])
 (.cond (.t 144) (.seq (.ops false [oP 146 (.fa 6 (.t 6)), oP 147 (.ld 1 false (.t 146)), oP 148 (.len (.t 147)), oP 149 (.bin .gtr (.t 148) (cI 0))]) (.cond (.t 149) (.ops true [oP 150 (.fa 6 (.t 6)), oA 151 (.ld 1 false (.t 150)) [0], oM 152 0, oP 153 (.fa 6 (.t 6)), oA 154 (.ld 1 false (.t 153)) [3], oA 155 (.len (.t 154)) [3, 4], oE 156 (.call 13 [(.t 152), (.t 155)]) [4, 3, 5, 2],
 oM 157 0, oP 158 (.bsl 1 4 [(.v (.int .i64 0))] [(0, (cI (-501))), (1, (cI (-500))), (2, (cI 5000)), (3, (cI 5001))]), oE 159 (.call 66 [(.t 157), (.t 158)]) [2, 5, 3, 4, 6, 8, 7], oA 160 (.iaS 3 (.t 151) (.t 156)) [9, 8, 7, 5, 4, 3, 2, 0, 6, 1], oA 161 (.fa 1 (.t 160)) [9, 8, 7, 6, 5, 4, 3, 2, 1, 0, 10], oT (.st 1 (.t 161) (.t 159)) [10, 8, 7, 6, 5, 4, 3, 2, 1, 0, 9, 11]]) .skip))
 (.seq (.ops false [oP 163 (.bin .eql (.t 43) (cI 8)), oM 162 163]) (.cond (.t 162) (.seq (.ops false [oP 164 (.fa 2 (.t 3)), oP 165 (.ld 1 false (.t 164)), oP 166 (.len (.t 165)), oP 167 (.bin .gtr (.t 166) (cI 0))]) (.cond (.t 167) (.ops true [oP 168 (.fa 2 (.t 3)), oA 169 (.ld 1 false (.t 168)) [0], oM 170 0, oP 171 (.fa 2 (.t 3)), oA 172 (.ld 1 false (.t 171)) [3],
 oA 173 (.len (.t 172)) [3, 4], oE 174 (.call 13 [(.t 170), (.t 173)]) [4, 3, 5, 2], oM 175 0, oP 176 (.bsl 1 4 [(.v (.string ({ data := #[] })))] [(0, (.c (.v (.string ({ data := #[113, 97] }))))), (1, (.c (.v (.string ({ data := #[113, 98] }))))), (2, (.c (.v (.string ({ data := #[] }))))), (3, (.c (.v (.string ({ data := #[122] })))))]), oE 177 (.call 94 [(.t 175), (.t 176)]) [2, 5,
 3, 4, 6, 8, 7], oM 178 0, oP 179 (.fa 0 (.t 3)), oA 180 (.ld 1 false (.t 179)) [11], oA 181 (.len (.t 180)) [11, 12], oA 182 (.bsl 1 4 [(.v (.int .i64 0))] [(0, (cI (-1))), (1, (cI 0)), (2, (cI 1)), (3, (.t 181))]) [12, 11, 13], oE 183 (.call 66 [(.t 178), (.t 182)]) [7, 8, 6, 4, 3, 5, 2, 13, 11, 12, 9, 14, 10], oM 184 0, oP 185 (.bsl 1 4 [(.v (.int .i64 0))] [(0, (cI 0)),
 (1, (cI (-1))), (2, (cI 100000000)), (3, (cI 100000001))]), oE 186 (.call 66 [(.t 184), (.t 185)]) [10, 14, 9, 12, 11, 13, 2, 5, 3, 4, 6, 8, 7, 15, 17, 16], oA 187 (.bld [(.v (.string ({ data := #[] }))), (.v (.int .i64 0)), (.v (.int .i64 0))] [(0, (1, (.t 177))), (1, (1, (.t 183))), (2, (1, (.t 186)))]) [16, 17, 10, 14, 12, 11, 13, 7, 8, 6, 4, 3, 5, 2, 18, 15, 9], oA 188 (.iaS 3 (.t 169)
 (.t 174)) [19, 18, 17, 16, 15, 14, 13, 12, 11, 10, 9, 8, 7, 5, 4, 3, 2, 0, 6, 1], oT (.st 3 (.t 188) (.t 187)) [17, 16, 15, 14, 13, 12, 11, 10, 9, 8, 7, 6, 5, 4, 3, 2, 1, 0, 18, 19, 20]]) .skip)) (.seq (.ops false [oP 190 (.bin .eql (.t 43) (cI 9)), oM 189 190]) (.cond (.t 189) (.ops true [oP 191 (.fa 3 (.t 3)), oA 192 (.ld 1 false (.t 191)) [0], oM 193 0,
 oP 194 (.bsl 1 3 [(.v (.string ({ data := #[] })))] [(0, (.c (.v (.string ({ data := #[115, 97] }))))), (1, (.c (.v (.string ({ data := #[115, 122] }))))), (2, (.c (.v (.string ({ data := #[] })))))]), oE 195 (.call 94 [(.t 193), (.t 194)]) [3, 2], oM 196 0, oP 197 (.bsl 1 5 [(.v (.int .i64 0))] [(0, (cI (-1))), (1, (cI 0)), (2, (cI 0)), (3, (cI 1)), (4, (cI 99))]),
 oE 198 (.call 66 [(.t 196), (.t 197)]) [2, 3, 4, 6, 5], oM 199 0, oP 200 (.bsl 1 2 [(.v (.int .i64 0))] [(0, (cI 0)), (1, (cI (-1)))]), oE 201 (.call 66 [(.t 199), (.t 200)]) [5, 6, 4, 3, 2, 7, 9, 8], oM 202 0, oP 203 (.bsl 1 2 [(.v (.int .i64 0))] [(0, (cI 0)), (1, (cI 100001))]), oE 204 (.call 66 [(.t 202), (.t 203)]) [8, 9, 7, 2, 3, 4, 6, 5, 10, 12, 11],
 oM 205 0, oP 206 (.bsl 1 2 [(.v (.int .i64 0))] [(0, (cI 0)), (1, (cI (-1)))]), oE 207 (.call 66 [(.t 205), (.t 206)]) [11, 12, 10, 5, 6, 4, 3, 2, 7, 9, 8, 13, 15, 14], oA 208 (.bld [(.v (.string ({ data := #[] }))), (.v (.int .i64 0)), (.v (.int .i64 0)), (.v (.int .i64 0)), (.v (.int .i64 0))] [(0, (1, (.t 195))), (1, (1, (.t 198))), (2, (1, (.t 201))), (3, (1, (.t 204))), (4, (1,
 (.t 207)))]) [14, 15, 11, 12, 8, 9, 5, 6, 2, 3, 16, 13, 10, 7, 4], oA 209 (.bsl 5 1 [(.v (.string ({ data := #[] }))), (.v (.int .i64 0)), (.v (.int .i64 0)), (.v (.int .i64 0)), (.v (.int .i64 0))] [(0, (.t 208))]) [4, 7, 10, 13, 16, 3, 2, 6, 5, 9, 8, 12, 11, 15, 14, 17], oA 210 (.app 5 48 (.t 192) (.t 209)) [17, 14, 15, 11, 12, 8, 9, 5, 6, 2, 3, 13, 10, 7, 4, 0, 16, 18, 1], oA 211 (.fa 3 (.t 3))
 [19, 18, 17, 16, 15, 14, 13, 12, 11, 10, 9, 8, 7, 6, 5, 4, 3, 2, 1, 0], oT (.st 1 (.t 211) (.t 210)) [18, 17, 16, 15, 14, 13, 12, 11, 10, 9, 8, 7, 6, 5, 4, 3, 2, 1, 0, 19, 20]]) (.seq (.ops false [oP 213 (.bin .eql (.t 43) (cI 10)), oM 212 213]) (.cond (.t 212) (.ops false [oM 214 0, oP 215 (.bsl 1 3 [(.v (.int .i64 0))] [(0, (cI 0)), (1, (cI (-100001))), (2,
 (cI 100000001))]), oB 216 (.call 66 [(.t 214), (.t 215)]), oM 217 0, oP 218 (.bsl 1 3 [(.v (.int .i64 0))] [(0, (cI 0)), (1, (cI (-1))), (2, (cI 101))]), oB 219 (.call 66 [(.t 217), (.t 218)]), oP 220 (.fa 4 (.t 3)), oS (.st 1 (.t 220) (.t 216)), oP 221 (.fa 5 (.t 3)), oS (.st 1 (.t 221) (.t 219))]) (.block 1 (.loop c36_2)))))))))))))))))))))))))
def c36_4 : C := (.seq (.ops false [oP 222 (.fa 1 (.t 3)), oP 223 (.ld 1 false (.t 222)), oM 224 5, oP 225 (.ld 7 true (.t 6)), oP 226 (.iaS 7 (.t 223) (.t 224)), oS (.st 7 (.t 226) (.t 225))]) (.seq (.ops false [oP 227 (.ld 6 true (.t 3)), oS (.st 6 (.t 4) (.t 227))]) .ret))
def c36 : C := (.seq (.ops false [oP 3 (.box 6 (.t 1)), oP 4 (.new [.mt, .mt, .mt, .mt, (.v (.int .i64 0)), (.v (.int .i64 0))])]) (.seq (.ops false [oP 7 (.bsl 1 0 [(.v (.string ({ data := #[] })))] []), oP 8 (.fa 0 (.t 3)), oP 9 (.ld 1 false (.t 8)), oP 10 (.app 1 16 (.t 7) (.t 9)), oP 11 (.fa 0 (.t 3)), oS (.st 1 (.t 11) (.t 10))]) (.seq (.ops false [oP 12 (.bsl 7 0 [(.v (.string ({ data := #[] }))),
 (.v (.int .i64 0)), (.v (.int .i64 0)), (.v (.int .i64 0)), (.v (.int .i64 0)), (.v (.int .i64 0)), .mt] []), oP 13 (.fa 1 (.t 3)), oP 14 (.ld 1 false (.t 13)), oP 15 (.app 7 80 (.t 12) (.t 14)), oP 16 (.fa 1 (.t 3)), oS (.st 1 (.t 16) (.t 15))]) (.seq (.ops false [oP 17 (.bsl 3 0 [(.v (.string ({ data := #[] }))), (.v (.int .i64 0)), (.v (.int .i64 0))] []), oP 18 (.fa 2 (.t 3)),
 oP 19 (.ld 1 false (.t 18)), oP 20 (.app 3 32 (.t 17) (.t 19)), oP 21 (.fa 2 (.t 3)), oS (.st 1 (.t 21) (.t 20))]) (.seq (.ops false [oP 22 (.bsl 5 0 [(.v (.string ({ data := #[] }))), (.v (.int .i64 0)), (.v (.int .i64 0)), (.v (.int .i64 0)), (.v (.int .i64 0))] []), oP 23 (.fa 3 (.t 3)), oP 24 (.ld 1 false (.t 23)), oP 25 (.app 5 48 (.t 22) (.t 24)), oP 26 (.fa 3 (.t 3)), oS (.st 1 (.t 26)
 (.t 25))]) (.seq (.ops false [oM 27 0, oP 28 (.fa 1 (.t 3)), oP 29 (.ld 1 false (.t 28)), oP 30 (.len (.t 29)), oB 31 (.call 13 [(.t 27), (.t 30)]), oM 5 31]) (.seq (.ops false [oP 32 (.fa 1 (.t 3)), oP 33 (.ld 1 false (.t 32)), oM 34 5, oP 35 (.iaS 7 (.t 33) (.t 34)), oP 36 (.ld 7 true (.t 35)), oP 6 (.new [(.v (.string ({ data := #[] }))), (.v (.int .i64 0)),
 (.v (.int .i64 0)), (.v (.int .i64 0)), (.v (.int .i64 0)), (.v (.int .i64 0)), .mt]), oS (.st 7 (.t 6) (.t 36))]) (.seq (.ops false [oP 37 (.bsl 3 0 [(.v (.int .i64 0)), (.v (.int .i64 0)), (.v (.int .i64 0))] []), oP 38 (.fa 6 (.t 6)), oP 39 (.ld 1 false (.t 38)), oP 40 (.app 3 24 (.t 37) (.t 39)), oP 41 (.fa 6 (.t 6)), oS (.st 1 (.t 41) (.t 40))]) (.seq (.seq (.ops false [oM 42 0,
 oB 43 (.call 13 [(.t 42), (cI 12)])]) (.weak c36_3)) (.weak c36_4))))))))))
def r36 : List RV := [(.cell 4 6 true)]
theorem c36_ok : ∃ code, Try.f36.body = some code ∧ compC Try.prog Try.f36.ntmps code = some (C.strip c36) := ⟨_, rfl, by kernel_rfl⟩
theorem r36_ok : compRes Try.prog Try.f36.results.toList = some r36 := by kernel_rfl
theorem f36_ok : fnOk Try.prog 36 = true := by kernel_rfl
structure WrOk (n n' : Net) : Prop where
 nodes : n'.nodes.length ≤ 60
 segs : n'.segs.length = n.segs.length
 ports : n'.ports.length = n.ports.length
 sts : n'.sts.length ≤ n.sts.length + 1
 pts : ∀ s ∈ n'.segs, s.points.length ≤ 8
def WrH (i : Nm) (L : List (List D)) (at' : Int) (gn : Nat) (nodes : List ByteArray) (segs : List Seg) (ports : List Port) (gt : Nat) (sts : List Stn) (vap set : Int) (x : Seg) (pl : Nat) : Hp :=
 ((((((((Hp.none.put (i.1 + 1, 37) ⟨1, 3, x.points.map Pt.row⟩).put (i.1 + 1, 22) ⟨gt, 5, sts.map Stn.row⟩).put (i.1 + 1, 17) ⟨1, 3, ports.map Port.row⟩).put (i.1 + 1, 12) ⟨1, 7, segs.map Seg.row⟩).put (i.1 + 1, 7) ⟨gn, 1, nodes.map nmRow⟩).put (i.1 + 1, 6) ⟨0, 7, [[ds x.name, di x.fr, di x.to, di x.cap, di x.resist, di x.wave, .own (i.1 + 1, 37) 1 0 pl]]⟩).put (i.1 + 1, 4) ⟨0, 6, [[.mt, .mt, .mt, .mt, di 0, di 0]]⟩).put (i.1 + 1, 3) ⟨0, 6, [[.own (i.1 + 1, 7) gn 0 nodes.length, .own (i.1 + 1, 12) 1 0 segs.length, .own (i.1 + 1, 17) 1 0 ports.length, .own (i.1 + 1, 22) gt 0 sts.length, di vap, di set]]⟩).put i (sE L at')
def WrF (i : Nm) (k : Int) (l : List (Nat × D)) : List (Nat × D) := (0, .ptr i 0 0 0) :: (3, .ptr (i.1 + 1, 3) 0 0 0) :: (4, .ptr (i.1 + 1, 4) 0 0 0) :: (5, di k) :: (6, .ptr (i.1 + 1, 6) 0 0 0) :: l
def WrG (i : Nm) (L : List (List D)) (at' : Int) (nodes : List ByteArray) (segs : List Seg) (ports : List Port) (sts : List Stn) (vap set : Int) (x : Seg) : Hp :=
 ((((Hp.none.put (i.1 + 1, 12) ⟨1, 7, segs.map Seg.row⟩).put (i.1 + 1, 6) ⟨0, 7, [Seg.row x]⟩).put (i.1 + 1, 4) ⟨0, 6, [[.mt, .mt, .mt, .mt, di 0, di 0]]⟩).put (i.1 + 1, 3) ⟨0, 6, [[.sl (nodes.map nmRow), .own (i.1 + 1, 12) 1 0 segs.length, .sl (ports.map Port.row), .sl (sts.map Stn.row), di vap, di set]]⟩).put i (sE L at')
theorem nm_len (x : ByteArray) : (nmRow x).length = 1 := rfl
theorem seg_len (x : Seg) : (Seg.row x).length = 7 := rfl
theorem port_len (x : Port) : (Port.row x).length = 3 := rfl
theorem stn_len (x : Stn) : (Stn.row x).length = 5 := rfl
theorem pt_len (x : Pt) : (Pt.row x).length = 3 := rfl
theorem rows_le {α : Type} (f : α → List D) (h : ∀ x, rowV (f x) = true) (ks : List Nm) (H : Hp) (l : List α) : (l.map f).map (fun r => r.map (lendK ks H)) = l.map f := by
 rw [List.map_map]
 exact List.map_congr_left fun x _ => (rowV_ok (h x) ks H).2.2
def cutPts (x : Seg) (pl : Nat) : Seg := ⟨x.name, x.fr, x.to, x.cap, x.resist, x.wave, x.points.take pl⟩
set_option maxHeartbeats 16000000 in
theorem wr_end (i : Nm) (L : List (List D)) (at' : Int) (ho : SrcOk L at') (n : Net) (gn : Nat) (nodes : List ByteArray) (segs : List Seg) (ports : List Port) (gt : Nat) (sts : List Stn) (vap set : Int) (x : Seg) (pl : Nat) (hpl : pl ≤ x.points.length) (k : Nat) (hk : k < segs.length)
  (hpost : WrOk n ⟨nodes, segs.set k (cutPts x pl), ports, sts, vap, set⟩) (s : St) (hw : Weak [i] s ⟨fr (WrF i k []), WrH i L at' gn nodes segs ports gt sts vap set x pl⟩) :
  vc T2 (fun t => (i.1 + 1, t)) [i] (.weak c36_4) (finQ r36 [i] false (SrcR i L (WrOk n) Net.enc)) s := by
 have ra := rows_pl nmRow (fun _ => rfl) nodes
 have rb := rows_pl Port.row (fun _ => rfl) ports
 have rc := rows_pl Stn.row (fun _ => rfl) sts
 have rd := rows_pl Pt.row (fun _ => rfl) x.points
 have re := fun ks H => rows_ok Seg.row (fun _ => rfl) ks H segs
 have rf := fun ks H => rows_ok nmRow (fun _ => rfl) ks H nodes
 have rg := fun ks H => rows_ok Port.row (fun _ => rfl) ks H ports
 have rh := fun ks H => rows_ok Stn.row (fun _ => rfl) ks H sts
 have ri := fun ks H => rows_ok Pt.row (fun _ => rfl) ks H x.points
 have rj := fun ks H => rows_le Seg.row (fun _ => rfl) ks H segs
 have t1 : (nodes.map nmRow).take nodes.length = nodes.map nmRow := List.take_of_length_le (by simp)
 have t2 : (ports.map Port.row).take ports.length = ports.map Port.row := List.take_of_length_le (by simp)
 have t3 : (sts.map Stn.row).take sts.length = sts.map Stn.row := List.take_of_length_le (by simp)
 have t4 : (x.points.map Pt.row).take pl = (x.points.take pl).map Pt.row := (List.map_take ..).symm
 refine vc_wk (hw.trans ((weak_eq [] [i, (i.1 + 1, 3), (i.1 + 1, 4), (i.1 + 1, 6), (i.1 + 1, 7), (i.1 + 1, 12), (i.1 + 1, 17), (i.1 + 1, 22), (i.1 + 1, 37)] (WrF i k [])
   (H' := hp [(i, sE L at'), ((i.1 + 1, 3), ⟨0, 6, [[.own (i.1 + 1, 7) gn 0 nodes.length, .own (i.1 + 1, 12) 1 0 segs.length, .own (i.1 + 1, 17) 1 0 ports.length, .own (i.1 + 1, 22) gt 0 sts.length, di vap, di set]]⟩), ((i.1 + 1, 4), ⟨0, 6, [[.mt, .mt, .mt, .mt, di 0, di 0]]⟩), ((i.1 + 1, 6), ⟨0, 7, [[ds x.name, di x.fr, di x.to, di x.cap, di x.resist, di x.wave, .own (i.1 + 1, 37) 1 0 pl]]⟩), ((i.1 + 1, 7), ⟨gn, 1, nodes.map nmRow⟩), ((i.1 + 1, 12), ⟨1, 7, segs.map Seg.row⟩), ((i.1 + 1, 17), ⟨1, 3, ports.map Port.row⟩), ((i.1 + 1, 22), ⟨gt, 5, sts.map Stn.row⟩), ((i.1 + 1, 37), ⟨1, 3, x.points.map Pt.row⟩)])
   (by simp only [↓vp, vv, ↓reduceIte, simprocAttr, coverS, WrF]) (by simp only [↓vp, vv, ↓reduceIte, simprocAttr, refsF, WrF]) (by simp only [↓vp, vv, ↓reduceIte, simprocAttr, WrH, sE, nmRow, Seg.row, Port.row, Stn.row, Pt.row]) (by simp) (by simp only [↓vp, vv, ↓reduceIte, simprocAttr, hp_cons, hp_nil, WrH, sE]; try rfl)).trans
   (weak_fz [(i.1 + 1, 7), (i.1 + 1, 17), (i.1 + 1, 22), (i.1 + 1, 37)] [i, (i.1 + 1, 3), (i.1 + 1, 4), (i.1 + 1, 6), (i.1 + 1, 12)] (l := (WrF i k [])) (h := _) (l' := (WrF i k [])) (H' := (WrG i L at' nodes segs ports sts vap set (cutPts x pl))) (by simp only [↓vp, vv, ↓reduceIte, simprocAttr, vz, listB, okKd, okK, lendKd, lendK, lendOk1B, frzF, Option.map_some, cond_true, cond_false, decide_true, decide_false, Bool.and_self, WrF, WrG, sE, cutPts, Seg.row, ra, rb, rc, rd, re, rf, rg, rh, ri, rj, t1, t2, t3, t4, hpl]) (by simp only [↓vp, vv, ↓reduceIte, simprocAttr, vz, listB, okKd, okK, lendKd, lendK, lendOk1B, frzF, Option.map_some, cond_true, cond_false, decide_true, decide_false, Bool.and_self, WrF, WrG, sE, cutPts, Seg.row, ra, rb, rc, rd, re, rf, rg, rh, ri, rj, t1, t2, t3, t4, hpl]) (by simp only [↓vp, vv, ↓reduceIte, simprocAttr, vz, listB, okKd, okK, lendKd, lendK, lendOk1B, frzF, Option.map_some, cond_true, cond_false, decide_true, decide_false, Bool.and_self, WrF, WrG, sE, cutPts, Seg.row, ra, rb, rc, rd, re, rf, rg, rh, ri, rj, t1, t2, t3, t4, hpl]; try rfl) (by simp only [↓vp, vv, ↓reduceIte, simprocAttr, vz, listB, okKd, okK, lendKd, lendK, lendOk1B, frzF, Option.map_some, cond_true, cond_false, decide_true, decide_false, Bool.and_self, WrF, WrG, sE, cutPts, Seg.row, ra, rb, rc, rd, re, rf, rg, rh, ri, rj, t1, t2, t3, t4, hpl]; try rfl) (by simp only [↓vp, vv, ↓reduceIte, simprocAttr, vz, listB, okKd, okK, lendKd, lendK, lendOk1B, frzF, Option.map_some, cond_true, cond_false, decide_true, decide_false, Bool.and_self, refsF, WrF, WrG, sE, cutPts, Seg.row, ra, rb, rc, rd, re, rf, rg, rh, ri, rj, t1, t2, t3, t4, hpl]) (by simp only [↓vp, vv, ↓reduceIte, simprocAttr, vz, listB, okKd, okK, lendKd, lendK, lendOk1B, frzF, Option.map_some, cond_true, cond_false, decide_true, decide_false, Bool.and_self, WrF, WrG, sE, cutPts, Seg.row, ra, rb, rc, rd, re, rf, rg, rh, ri, rj, t1, t2, t3, t4, hpl]) (by simp)))) ?_
 have k0 := idx_nn k
 have k1 : (k : Int) < segs.length := by omega
 have hg : (segs.map Seg.row).getD k [] = Seg.row segs[k] := getD_map Seg.row segs k hk
 have hd : List.drop 7 (Seg.row segs[k]) = [] := rfl
 have hl7 := seg_len segs[k]
 generalize cutPts x pl = y at hpost
 have e1 : (segs.map Seg.row).set k [ds y.name, di y.fr, di y.to, di y.cap, di y.resist, di y.wave, .sl (y.points.map Pt.row)] = (segs.set k y).map Seg.row := (List.map_set ..).symm
 generalize segs[k] = z at hg hd hl7
 generalize hzz : Seg.row z = zz at hg hd hl7
 have hpl2 := rows_pl Seg.row (fun _ => rfl) (segs.set k y)
 have e2 : ((segs.set k y).map Seg.row).take segs.length = (segs.set k y).map Seg.row := List.take_of_length_le (by simp)
 simp (maxSteps:=500000) only [↓vp, vv, ↓reduceIte, simprocAttr, c36_4, r36, WrF, WrG, k0, k1, hk, Int.toNat_natCast, Seg.row, hg, hd, hl7, e1, e2, List.length_set, List.length_map]
 exact ⟨at', _, ho, hpost, rfl, rfl⟩
theorem nm1B_size (f : ByteArray) (n : Int) : (nm1B f n).size = f.size + 1 := by
 unfold nm1B
 rw [ByteArray.size_append]
 rfl
theorem at7 (k : Nat) (l : List Seg) (h : k < l.length) : ((l.map Seg.row).getD k []) = Seg.row l[k] := getD_map Seg.row l k h
set_option maxHeartbeats 16000000 in
theorem wr_sw (n : Net) (hn : NetOk n) (i : Nm) (L : List (List D)) (at' : Int) (ho : SrcOk L at') (kn : Nat) (hkn : kn < n.segs.length) (s : Seg) (hpt : s.points.length ≤ 8) (c : Int) (hc : 0 ≤ c ∧ c < 12) :
  vc T2 (fun t => (i.1 + 1, t)) [i] c36_3 (thenQ (vc T2 (fun t => (i.1 + 1, t)) [i] (.weak c36_4) (finQ r36 [i] false (SrcR i L (WrOk n) Net.enc))) (finQ r36 [i] false (SrcR i L (WrOk n) Net.enc))) ⟨fr (WrF i kn [(43, di c)]), WrH i L at' 1 n.nodes n.segs n.ports 1 n.sts n.vap n.set s s.points.length⟩ := by
 have hsl := hn.slen
 have hnl := hn.nlen
 have hql := hn.ports.len
 have htl := hn.sts.len
 have : c = 0 ∨ c = 1 ∨ c = 2 ∨ c = 3 ∨ c = 4 ∨ c = 5 ∨ c = 6 ∨ c = 7 ∨ c = 8 ∨ c = 9 ∨ c = 10 ∨ c = 11 := by omega
 have npt : ∀ s ∈ n.segs, s.points.length ≤ 8 := fun s hsm => by
  obtain ⟨j, a, b, _, _, _, hk, _⟩ := hn.segs.mem hsm
  have := hk.len
  omega
 have fin : ∀ (at1 : SA L) (gn : Nat) (nodes : List ByteArray) (ports : List Port) (gt : Nat) (sts : List Stn) (vap set : Int) (x : Seg) (pl : Nat), pl ≤ x.points.length → x.points.length ≤ 8 → nodes.length ≤ 60 → ports.length = n.ports.length → sts.length ≤ n.sts.length + 1 →
   ∀ st, Weak [i] st ⟨fr (WrF i kn []), WrH i L at1.1 gn nodes n.segs ports gt sts vap set x pl⟩ → vc T2 (fun t => (i.1 + 1, t)) [i] (.weak c36_4) (finQ r36 [i] false (SrcR i L (WrOk n) Net.enc)) st :=
  fun at1 gn nodes ports gt sts vap set x pl h1 h2 h3 h4 h5 st hw => wr_end i L at1.1 at1.2 n gn nodes n.segs ports gt sts vap set x pl h1 kn hkn ⟨h3, by simp, h4, h5, fun y hy => by
   rcases List.mem_or_eq_of_mem_set hy with hy | rfl
   ·exact npt y hy
   ·unfold cutPts; dsimp only; rw [List.length_take]; omega⟩ st hw
 have hm : ∀ j (h : j < n.nodes.length), (n.nodes.map nmRow).getD j [] = [ds n.nodes[j]] := fun j h => getD_map nmRow n.nodes j h
 rcases this with rfl | rfl | rfl | rfl | rfl | rfl | rfl | rfl | rfl | rfl | rfl | rfl
 ·simp (maxSteps:=500000) only [↓vp, vv, ↓reduceIte, simprocAttr, c36_3, T2, T1, selI, selText, selPick, selName, ho, WrF, WrH]
  refine ⟨⟨by omega, by omega⟩, fun a1 j hj a2 t ht => ?_⟩
  unfold NPost at hj
  obtain ⟨jn, rfl⟩ : ∃ jn : Nat, j = jn := ⟨j.toNat, by omega⟩
  have hjn : jn < n.nodes.length := by omega
  have j0 := idx_nn jn
  have j1 : (jn : Int) < n.nodes.length := by omega
  have hg := hm jn hjn
  have e1 : (n.nodes.map nmRow).set jn [ds t] = (n.nodes.set jn t).map nmRow := (List.map_set ..).symm
  simp (maxSteps:=500000) only [↓vp, vv, ↓reduceIte, simprocAttr, Int.toNat_natCast, hjn, j0, j1, hg, e1]
  exact fin a2 1 (n.nodes.set jn t) n.ports 1 n.sts n.vap n.set s s.points.length (Nat.le_refl _) hpt (by rw [List.length_set]; omega) rfl (by omega) _ (weak_eqA [] [i, (i.1 + 1, 3), (i.1 + 1, 4), (i.1 + 1, 6), (i.1 + 1, 7), (i.1 + 1, 12), (i.1 + 1, 17), (i.1 + 1, 22), (i.1 + 1, 37)] (WrF i kn []) (by refine ⟨?_, ?_, ?_, by simp, ?_⟩ <;> (simp only [↓vp, vv, ↓reduceIte, simprocAttr, coverS, refsF, WrF, WrH, sE, nmRow, Seg.row, Port.row, Stn.row, Pt.row, List.length_set] <;> try rfl)))
 ·simp (maxSteps:=500000) only [↓vp, vv, ↓reduceIte, simprocAttr, c36_3, T2, T1, selI, selText, selPick, selName, ho, WrF, WrH]
  intro a1 v hv
  exact fin a1 1 n.nodes n.ports 1 n.sts n.vap n.set ⟨s.name, v, s.to, s.cap, s.resist, s.wave, s.points⟩ s.points.length (Nat.le_refl _) hpt (by omega) rfl (by omega) _ (weak_eqA [] [i, (i.1 + 1, 3), (i.1 + 1, 4), (i.1 + 1, 6), (i.1 + 1, 7), (i.1 + 1, 12), (i.1 + 1, 17), (i.1 + 1, 22), (i.1 + 1, 37)] (WrF i kn []) (by refine ⟨?_, ?_, ?_, by simp, ?_⟩ <;> (simp only [↓vp, vv, ↓reduceIte, simprocAttr, coverS, refsF, WrF, WrH, sE, nmRow, Seg.row, Port.row, Stn.row, Pt.row] <;> try rfl)))
 ·simp (maxSteps:=500000) only [↓vp, vv, ↓reduceIte, simprocAttr, c36_3, T2, T1, selI, selText, selPick, selName, ho, WrF, WrH]
  intro a1 v hv
  exact fin a1 1 n.nodes n.ports 1 n.sts n.vap n.set ⟨s.name, s.fr, s.to, v, s.resist, s.wave, s.points⟩ s.points.length (Nat.le_refl _) hpt (by omega) rfl (by omega) _ (weak_eqA [] [i, (i.1 + 1, 3), (i.1 + 1, 4), (i.1 + 1, 6), (i.1 + 1, 7), (i.1 + 1, 12), (i.1 + 1, 17), (i.1 + 1, 22), (i.1 + 1, 37)] (WrF i kn []) (by refine ⟨?_, ?_, ?_, by simp, ?_⟩ <;> (simp only [↓vp, vv, ↓reduceIte, simprocAttr, coverS, refsF, WrF, WrH, sE, nmRow, Seg.row, Port.row, Stn.row, Pt.row] <;> try rfl)))
 ·simp (maxSteps:=500000) only [↓vp, vv, ↓reduceIte, simprocAttr, c36_3, T2, T1, selI, selText, selPick, selName, ho, WrF, WrH]
  intro a1 v hv
  exact fin a1 1 n.nodes n.ports 1 n.sts n.vap n.set ⟨s.name, s.fr, s.to, s.cap, v, s.wave, s.points⟩ s.points.length (Nat.le_refl _) hpt (by omega) rfl (by omega) _ (weak_eqA [] [i, (i.1 + 1, 3), (i.1 + 1, 4), (i.1 + 1, 6), (i.1 + 1, 7), (i.1 + 1, 12), (i.1 + 1, 17), (i.1 + 1, 22), (i.1 + 1, 37)] (WrF i kn []) (by refine ⟨?_, ?_, ?_, by simp, ?_⟩ <;> (simp only [↓vp, vv, ↓reduceIte, simprocAttr, coverS, refsF, WrF, WrH, sE, nmRow, Seg.row, Port.row, Stn.row, Pt.row] <;> try rfl)))
 ·simp (maxSteps:=500000) only [↓vp, vv, ↓reduceIte, simprocAttr, c36_3, T2, T1, selI, selText, selPick, selName, ho, WrF, WrH]
  intro a1 v hv
  exact fin a1 1 n.nodes n.ports 1 n.sts n.vap n.set ⟨s.name, s.fr, s.to, s.cap, s.resist, v, s.points⟩ s.points.length (Nat.le_refl _) hpt (by omega) rfl (by omega) _ (weak_eqA [] [i, (i.1 + 1, 3), (i.1 + 1, 4), (i.1 + 1, 6), (i.1 + 1, 7), (i.1 + 1, 12), (i.1 + 1, 17), (i.1 + 1, 22), (i.1 + 1, 37)] (WrF i kn []) (by refine ⟨?_, ?_, ?_, by simp, ?_⟩ <;> (simp only [↓vp, vv, ↓reduceIte, simprocAttr, coverS, refsF, WrF, WrH, sE, nmRow, Seg.row, Port.row, Stn.row, Pt.row] <;> try rfl)))
 ·simp (maxSteps:=500000) only [↓vp, vv, ↓reduceIte, simprocAttr, c36_3, T2, T1, selI, selText, selPick, selName, ho, WrF, WrH]
  split
  ·refine ⟨⟨by omega, by omega⟩, fun a1 j hj a2 v hv => ?_⟩
   unfold NPost at hj
   obtain ⟨jn, rfl⟩ : ∃ jn : Nat, j = jn := ⟨j.toNat, by omega⟩
   have hjn : jn < s.points.length := by omega
   have j0 := idx_nn jn
   have j1 : (jn : Int) < s.points.length := by omega
   have hg : (s.points.map Pt.row).getD jn [] = Pt.row s.points[jn] := getD_map Pt.row s.points jn hjn
   generalize s.points[jn] = p0 at hg
   have e1 : (s.points.map Pt.row).set jn [di v, di p0.height, di p0.limit] = (s.points.set jn ⟨v, p0.height, p0.limit⟩).map Pt.row := by rw [List.map_set]; rfl
   simp (maxSteps:=500000) only [↓vp, vv, ↓reduceIte, simprocAttr, Int.toNat_natCast, hjn, j0, j1, hg, Pt.row, e1]
   exact fin a2 1 n.nodes n.ports 1 n.sts n.vap n.set ⟨s.name, s.fr, s.to, s.cap, s.resist, s.wave, s.points.set jn ⟨v, p0.height, p0.limit⟩⟩ s.points.length (by simp) (by simpa using hpt) (by omega) rfl (by omega) _ (weak_eqA [] [i, (i.1 + 1, 3), (i.1 + 1, 4), (i.1 + 1, 6), (i.1 + 1, 7), (i.1 + 1, 12), (i.1 + 1, 17), (i.1 + 1, 22), (i.1 + 1, 37)] (WrF i kn []) (by refine ⟨?_, ?_, ?_, by simp, ?_⟩ <;> (simp only [↓vp, vv, ↓reduceIte, simprocAttr, coverS, refsF, WrF, WrH, sE, nmRow, Seg.row, Port.row, Stn.row, Pt.row, e1, List.length_set] <;> try rfl)))
  ·exact fin ⟨at', ho⟩ 1 n.nodes n.ports 1 n.sts n.vap n.set s s.points.length (Nat.le_refl _) hpt (by omega) rfl (by omega) _ (weak_eqA [] [i, (i.1 + 1, 3), (i.1 + 1, 4), (i.1 + 1, 6), (i.1 + 1, 7), (i.1 + 1, 12), (i.1 + 1, 17), (i.1 + 1, 22), (i.1 + 1, 37)] (WrF i kn []) (by refine ⟨?_, ?_, ?_, by simp, ?_⟩ <;> (simp only [↓vp, vv, ↓reduceIte, simprocAttr, coverS, refsF, WrF, WrH, sE, nmRow, Seg.row, Port.row, Stn.row, Pt.row] <;> try rfl)))
 ·simp (maxSteps:=500000) only [↓vp, vv, ↓reduceIte, simprocAttr, c36_3, T2, T1, selI, selText, selPick, selName, ho, WrF, WrH]
  have w1 : IntKind.i64.wrap ((s.points.length : Int) + 1) = s.points.length + 1 := wrap_i (by omega)
  obtain ⟨q, hq, q1, q2⟩ : ∃ q : Int, (if (s.points.length : Int) + 1 < 3 then (s.points.length : Int) + 1 else 3) = q ∧ 1 ≤ q ∧ q ≤ s.points.length + 1 := ⟨_, rfl, by split <;> omega, by split <;> omega⟩
  simp only [w1, hq]
  refine ⟨⟨by omega, by omega⟩, fun a1 j hj => ?_⟩
  unfold NPost at hj
  obtain ⟨jn, rfl⟩ : ∃ jn : Nat, j = jn := ⟨j.toNat, by omega⟩
  refine ⟨by omega, ?_⟩
  exact fin a1 1 n.nodes n.ports 1 n.sts n.vap n.set s jn (by omega) hpt (by omega) rfl (by omega) _ (weak_eqA [] [i, (i.1 + 1, 3), (i.1 + 1, 4), (i.1 + 1, 6), (i.1 + 1, 7), (i.1 + 1, 12), (i.1 + 1, 17), (i.1 + 1, 22), (i.1 + 1, 37)] (WrF i kn []) (by refine ⟨?_, ?_, ?_, by simp, ?_⟩ <;> (simp only [↓vp, vv, ↓reduceIte, simprocAttr, coverS, refsF, WrF, WrH, sE, nmRow, Seg.row, Port.row, Stn.row, Pt.row, Int.toNat_natCast, Nat.sub_zero] <;> try rfl)))
 ·simp (maxSteps:=500000) only [↓vp, vv, ↓reduceIte, simprocAttr, c36_3, T2, T1, selI, selText, selPick, selName, ho, WrF, WrH]
  split
  ·refine ⟨⟨by omega, by omega⟩, fun a1 j hj a2 v hv => ?_⟩
   unfold NPost at hj
   obtain ⟨jn, rfl⟩ : ∃ jn : Nat, j = jn := ⟨j.toNat, by omega⟩
   have hjn : jn < s.points.length := by omega
   have j0 := idx_nn jn
   have j1 : (jn : Int) < s.points.length := by omega
   have hg : (s.points.map Pt.row).getD jn [] = Pt.row s.points[jn] := getD_map Pt.row s.points jn hjn
   generalize s.points[jn] = p0 at hg
   have e1 : (s.points.map Pt.row).set jn [di p0.at', di v, di p0.limit] = (s.points.set jn ⟨p0.at', v, p0.limit⟩).map Pt.row := by rw [List.map_set]; rfl
   simp (maxSteps:=500000) only [↓vp, vv, ↓reduceIte, simprocAttr, Int.toNat_natCast, hjn, j0, j1, hg, Pt.row, e1]
   exact fin a2 1 n.nodes n.ports 1 n.sts n.vap n.set ⟨s.name, s.fr, s.to, s.cap, s.resist, s.wave, s.points.set jn ⟨p0.at', v, p0.limit⟩⟩ s.points.length (by simp) (by simpa using hpt) (by omega) rfl (by omega) _ (weak_eqA [] [i, (i.1 + 1, 3), (i.1 + 1, 4), (i.1 + 1, 6), (i.1 + 1, 7), (i.1 + 1, 12), (i.1 + 1, 17), (i.1 + 1, 22), (i.1 + 1, 37)] (WrF i kn []) (by refine ⟨?_, ?_, ?_, by simp, ?_⟩ <;> (simp only [↓vp, vv, ↓reduceIte, simprocAttr, coverS, refsF, WrF, WrH, sE, nmRow, Seg.row, Port.row, Stn.row, Pt.row, e1, List.length_set] <;> try rfl)))
  ·exact fin ⟨at', ho⟩ 1 n.nodes n.ports 1 n.sts n.vap n.set s s.points.length (Nat.le_refl _) hpt (by omega) rfl (by omega) _ (weak_eqA [] [i, (i.1 + 1, 3), (i.1 + 1, 4), (i.1 + 1, 6), (i.1 + 1, 7), (i.1 + 1, 12), (i.1 + 1, 17), (i.1 + 1, 22), (i.1 + 1, 37)] (WrF i kn []) (by refine ⟨?_, ?_, ?_, by simp, ?_⟩ <;> (simp only [↓vp, vv, ↓reduceIte, simprocAttr, coverS, refsF, WrF, WrH, sE, nmRow, Seg.row, Port.row, Stn.row, Pt.row] <;> try rfl)))
 ·simp (maxSteps:=500000) only [↓vp, vv, ↓reduceIte, simprocAttr, c36_3, T2, T1, selI, selText, selPick, selName, ho, WrF, WrH]
  split
  ·refine ⟨⟨by omega, by omega⟩, fun a1 j hj a2 t ht a3 v hv a4 u hu => ?_⟩
   unfold NPost at hj
   obtain ⟨jn, rfl⟩ : ∃ jn : Nat, j = jn := ⟨j.toNat, by omega⟩
   have hjn : jn < n.ports.length := by omega
   have j0 := idx_nn jn
   have j1 : (jn : Int) < n.ports.length := by omega
   have hg : (n.ports.map Port.row).getD jn [] = Port.row n.ports[jn] := getD_map Port.row n.ports jn hjn
   generalize n.ports[jn] = p0 at hg
   have e1 : (n.ports.map Port.row).set jn [ds t, di v, di u] = (n.ports.set jn ⟨t, v, u⟩).map Port.row := by rw [List.map_set]; rfl
   simp (maxSteps:=500000) only [↓vp, vv, ↓reduceIte, simprocAttr, Int.toNat_natCast, hjn, j0, j1, hg, Port.row, e1]
   exact fin a4 1 n.nodes (n.ports.set jn ⟨t, v, u⟩) 1 n.sts n.vap n.set s s.points.length (Nat.le_refl _) hpt (by omega) (by simp) (by omega) _ (weak_eqA [] [i, (i.1 + 1, 3), (i.1 + 1, 4), (i.1 + 1, 6), (i.1 + 1, 7), (i.1 + 1, 12), (i.1 + 1, 17), (i.1 + 1, 22), (i.1 + 1, 37)] (WrF i kn []) (by refine ⟨?_, ?_, ?_, by simp, ?_⟩ <;> (simp only [↓vp, vv, ↓reduceIte, simprocAttr, coverS, refsF, WrF, WrH, sE, nmRow, Seg.row, Port.row, Stn.row, Pt.row, e1, List.length_set] <;> try rfl)))
  ·exact fin ⟨at', ho⟩ 1 n.nodes n.ports 1 n.sts n.vap n.set s s.points.length (Nat.le_refl _) hpt (by omega) rfl (by omega) _ (weak_eqA [] [i, (i.1 + 1, 3), (i.1 + 1, 4), (i.1 + 1, 6), (i.1 + 1, 7), (i.1 + 1, 12), (i.1 + 1, 17), (i.1 + 1, 22), (i.1 + 1, 37)] (WrF i kn []) (by refine ⟨?_, ?_, ?_, by simp, ?_⟩ <;> (simp only [↓vp, vv, ↓reduceIte, simprocAttr, coverS, refsF, WrF, WrH, sE, nmRow, Seg.row, Port.row, Stn.row, Pt.row] <;> try rfl)))
 ·simp (maxSteps:=500000) only [↓vp, vv, ↓reduceIte, simprocAttr, c36_3, T2, T1, selI, selText, selPick, selName, ho, WrF, WrH]
  intro a1 t ht a2 v1 hv1 a3 v2 hv2 a4 v3 hv3 a5 v4 hv4
  refine ⟨⟨by omega, by omega⟩, ?_⟩
  have e1 : n.sts.map Stn.row ++ [[ds t, di v1, di v2, di v3, di v4]] = (n.sts ++ [(⟨t, v1, v2, v3, v4⟩ : Stn)]).map Stn.row := by rw [List.map_append]; rfl
  exact fin a5 1 n.nodes n.ports 2 (n.sts ++ [⟨t, v1, v2, v3, v4⟩]) n.vap n.set s s.points.length (Nat.le_refl _) hpt (by omega) rfl (by simp) _ (weak_eqA [] [i, (i.1 + 1, 3), (i.1 + 1, 4), (i.1 + 1, 6), (i.1 + 1, 7), (i.1 + 1, 12), (i.1 + 1, 17), (i.1 + 1, 22), (i.1 + 1, 37)] (WrF i kn []) (by refine ⟨?_, ?_, ?_, by simp, ?_⟩ <;> (simp only [↓vp, vv, ↓reduceIte, simprocAttr, coverS, refsF, WrF, WrH, sE, nmRow, Seg.row, Port.row, Stn.row, Pt.row, e1, List.length_append, List.length_cons, List.length_nil] <;> try rfl)))
 ·simp (maxSteps:=500000) only [↓vp, vv, ↓reduceIte, simprocAttr, c36_3, T2, T1, selI, selText, selPick, selName, ho, WrF, WrH]
  intro a1 v hv a2 t ht
  exact fin a2 1 n.nodes n.ports 1 n.sts v t s s.points.length (Nat.le_refl _) hpt (by omega) rfl (by omega) _ (weak_eqA [] [i, (i.1 + 1, 3), (i.1 + 1, 4), (i.1 + 1, 6), (i.1 + 1, 7), (i.1 + 1, 12), (i.1 + 1, 17), (i.1 + 1, 22), (i.1 + 1, 37)] (WrF i kn []) (by refine ⟨?_, ?_, ?_, by simp, ?_⟩ <;> (simp only [↓vp, vv, ↓reduceIte, simprocAttr, coverS, refsF, WrF, WrH, sE, nmRow, Seg.row, Port.row, Stn.row, Pt.row] <;> try rfl)))
 ·simp (maxSteps:=500000) only [↓vp, vv, ↓reduceIte, simprocAttr, c36_3, T2, T1, selI, selText, selPick, selName, ho, WrF, WrH]
  rw [vc_loop]
  refine ⟨fun k st => ∃ (a : SA L) (g : Nat) (nodes : List ByteArray), nodes.length + k = 26 ∧ st = ⟨fr (WrF i kn []), WrH i L a.1 g nodes n.segs n.ports 1 n.sts n.vap n.set s s.points.length⟩, ⟨26 - n.nodes.length, _, (weak_eqA [] [i, (i.1 + 1, 3), (i.1 + 1, 4), (i.1 + 1, 6), (i.1 + 1, 7), (i.1 + 1, 12), (i.1 + 1, 17), (i.1 + 1, 22), (i.1 + 1, 37)] (WrF i kn []) (by refine ⟨?_, ?_, ?_, by simp, ?_⟩ <;> (simp only [↓vp, vv, ↓reduceIte, simprocAttr, coverS, refsF, WrF, WrH, sE, nmRow, Seg.row, Port.row, Stn.row, Pt.row] <;> try rfl))), ⟨at', ho⟩, 1, n.nodes, by omega, rfl⟩, ?_⟩
  rintro m st ⟨a, g, nodes, hm, rfl⟩
  have o1 := a.2
  simp (maxSteps:=500000) only [↓vp, vv, ↓reduceIte, simprocAttr, c36_2, c36_1, T2, T1, selI, selText, selPick, selName, o1, WrF, WrH]
  intro a1 b hb
  unfold NPost at hb
  have w1 : IntKind.i64.wrap (23 + b) = 23 + b := wrap_i (by omega)
  simp only [w1]
  split
  ·have e1 : nodes.map nmRow ++ [[ds (nm1B ⟨#[121]⟩ nodes.length ++ nm1B ⟨#[]⟩ (IntKind.i64.wrap ((nodes.length : Int).tdiv 26)))]] = (nodes ++ [nm1B ⟨#[121]⟩ nodes.length ++ nm1B ⟨#[]⟩ (IntKind.i64.wrap ((nodes.length : Int).tdiv 26))]).map nmRow := by rw [List.map_append]; rfl
   refine ⟨by decide, by decide, ?_, ⟨by omega, by omega⟩, m - 1, _, by omega, (weak_eqA [] [i, (i.1 + 1, 3), (i.1 + 1, 4), (i.1 + 1, 6), (i.1 + 1, 7), (i.1 + 1, 12), (i.1 + 1, 17), (i.1 + 1, 22), (i.1 + 1, 37)] (WrF i kn []) (by refine ⟨?_, ?_, ?_, by simp, ?_⟩ <;> (simp only [↓vp, vv, ↓reduceIte, simprocAttr, coverS, refsF, WrF, WrH, sE, nmRow, Seg.row, Port.row, Stn.row, Pt.row, e1, List.length_append, List.length_cons, List.length_nil] <;> try rfl))), a1, g + 1, nodes ++ [nm1B ⟨#[121]⟩ nodes.length ++ nm1B ⟨#[]⟩ (IntKind.i64.wrap ((nodes.length : Int).tdiv 26))], by simp; omega, rfl⟩
   rw [nm1B_size, nm1B_size]
   decide
  ·exact fin a1 g nodes n.ports 1 n.sts n.vap n.set s s.points.length (Nat.le_refl _) hpt (by omega) rfl (by omega) _ (weak_eqA [] [i, (i.1 + 1, 3), (i.1 + 1, 4), (i.1 + 1, 6), (i.1 + 1, 7), (i.1 + 1, 12), (i.1 + 1, 17), (i.1 + 1, 22), (i.1 + 1, 37)] (WrF i kn []) (by refine ⟨?_, ?_, ?_, by simp, ?_⟩ <;> (simp only [↓vp, vv, ↓reduceIte, simprocAttr, coverS, refsF, WrF, WrH, sE, nmRow, Seg.row, Port.row, Stn.row, Pt.row] <;> try rfl)))
set_option maxHeartbeats 16000000 in
theorem Wrong_c (n : Net) (hn : NetOk n) : SrcC Try.prog 36 [n.enc] (WrOk n) Net.enc := by
 intro i L at' nn ho
 obtain ⟨code, h1, h2⟩ := c36_ok
 refine callsA_of T2_ok mixed (N := fun t => (i.1 + 1, t)) Try.func36 h1 h2 r36_ok [i] false js_one js_one' (by simp [Try.f36]) ?_
 have hsl := hn.slen
 have hnl := hn.nlen
 have hql := hn.ports.len
 have htl := hn.sts.len
 have y1 : n.nodes.length * 16 ≤ 140737488355328 := by omega
 have y2 : n.nodes.length ≤ 4611686018427387904 := by omega
 have y3 : n.segs.length * 80 ≤ 140737488355328 := by omega
 have y4 : n.segs.length ≤ 4611686018427387904 := by omega
 have y5 : n.ports.length * 32 ≤ 140737488355328 := by omega
 have y6 : n.ports.length ≤ 4611686018427387904 := by omega
 have y7 : n.sts.length * 48 ≤ 140737488355328 := by omega
 have y8 : n.sts.length ≤ 4611686018427387904 := by omega
 simp (maxSteps:=500000) only [↓vp, vv, ↓reduceIte, simprocAttr, c36, T2, T1, selI, ho, Net.enc, nm_len, seg_len, port_len, stn_len, pt_len, y1, y2, y3, y4, y5, y6, y7, y8]
 refine ⟨⟨by omega, by omega⟩, fun a1 k hk => ?_⟩
 unfold NPost at hk
 obtain ⟨kn, rfl⟩ : ∃ kn : Nat, k = kn := ⟨k.toNat, by omega⟩
 have hkn : kn < n.segs.length := by omega
 have k0 := idx_nn kn
 have k1 : (kn : Int) < n.segs.length := by omega
 obtain ⟨s, hs⟩ : ∃ s, n.segs[kn] = s := ⟨_, rfl⟩
 have hsm : s ∈ n.segs := hs ▸ List.getElem_mem hkn
 have hg := at7 kn n.segs hkn
 rw [hs] at hg
 have hpt : s.points.length ≤ 8 := by
  obtain ⟨j, a, b, _, _, _, hk, _⟩ := hn.segs.mem hsm
  have := hk.len
  omega
 have z1 : s.points.length * 24 ≤ 140737488355328 := by omega
 have z2 : s.points.length ≤ 4611686018427387904 := by omega
 simp (maxSteps:=500000) only [↓vp, vv, ↓reduceIte, simprocAttr, T2, T1, selI, a1.2, Int.toNat_natCast, hkn, k0, k1, hg, seg_len, Seg.row, pt_len, z1, z2]
 intro a2 c hc
 unfold NPost at hc
 refine vc_wk (weak_eqA [] [i, (i.1 + 1, 3), (i.1 + 1, 4), (i.1 + 1, 6), (i.1 + 1, 7), (i.1 + 1, 12), (i.1 + 1, 17), (i.1 + 1, 22), (i.1 + 1, 37)] (WrF i kn [(43, di c)]) (by refine ⟨?_, ?_, ?_, by simp, ?_⟩ <;> (simp only [↓vp, vv, ↓reduceIte, simprocAttr, coverS, refsF, WrF, WrH, sE, nmRow, Seg.row, Port.row, Stn.row, Pt.row] <;> try rfl))) ?_
 exact wr_sw n hn i L a2.1 a2.2 kn hkn s hpt c (by omega)
end Go.Proofs.Ytadjhfjiimgddaa

/- Routes: what the functions return, as lists and codes; the law's table. -/
namespace Go.Proofs.Ytadjhfjiimgddaa
open Go Go.ChangeShapes Go.WideShapes Go.Deep
def wayF (n : Net) (c : List Bool) (a t : Int) : List (Int × Bool) × Int := if gchk n c [a, t] = 0 then (if (hopsL n c t.toNat).getD a.toNat 0 < 0 then ([], 11) else (wayW n c a.toNat t.toNat, 0)) else ([], gchk n c [a, t])
def reachF (n : Net) (c : List Bool) (k : Int) : List Nat × Int := if gchk n c [k] = 0 then (rL n c k.toNat, 0) else ([], gchk n c [k])
def cutsF (n : Net) (c : List Bool) (k : Int) : Bool × Int := if rchk n c = 0 then (if unkS n k = true then (false, 8) else (cutB n c k.toNat, 0)) else (false, rchk n c)
def partsF (n : Net) (c : List Bool) : List (List Nat) × Int := if rchk n c = 0 then (partsL n c, 0) else ([], rchk n c)
def wayT (n : Net) (c : List Bool) (a t : Int) : D := .tup [.sl ((wayF n c a t).1.map hRow), di (wayF n c a t).2]
def reachT (n : Net) (c : List Bool) (k : Int) : D := .tup [.sl ((reachF n c k).1.map nRow), di (reachF n c k).2]
def cutsT (n : Net) (c : List Bool) (k : Int) : D := .tup [db (cutsF n c k).1, di (cutsF n c k).2]
def partsT (n : Net) (c : List Bool) : D := .tup [.sl ((partsF n c).1.map pRow), di (partsF n c).2]
theorem wayA_f (n : Net) (c : List Bool) (a t : Int) : wayA n c a t = wayT n c a t := by
 unfold wayA wayT wayF wayD
 split
 ·split <;> rfl
 ·rfl
theorem reachA_f (n : Net) (c : List Bool) (k : Int) : reachA n c k = reachT n c k := by
 unfold reachA reachT reachF
 split <;> rfl
theorem cutsA_f (n : Net) (c : List Bool) (k : Int) : cutsA n c k = cutsT n c k := by
 unfold cutsA cutsT cutsF
 split
 ·split <;> rfl
 ·rfl
theorem partsA_f (n : Net) (c : List Bool) : partsA n c = partsT n c := by
 unfold partsA partsT partsF
 split <;> rfl
theorem wayF_l (n : Net) (c : List Bool) (a t : Int) : (wayF n c a t).1.length ≤ 24 := by
 unfold wayF
 split
 ·rename_i h
  obtain ⟨hv, hk⟩ := gchk_in h
  have ha := hk a (List.mem_cons_self ..)
  have ht := hk t (List.mem_cons_of_mem _ (List.mem_cons_self ..))
  split
  ·exact Nat.zero_le _
  ·have hnl := hv.v.nl
   have hD := hv.ok.isD (t := t.toNat) (by omega)
   have l1 := hD.lt_N hv.ok.s (show a.toNat < n.nodes.length by omega)
   have l2 := (hv.ok.way (a := a.toNat) (t := t.toNat) (by omega) (by omega) (by omega)).2
   show (wayW n c a.toNat t.toNat).length ≤ 24
   omega
 ·exact Nat.zero_le _
theorem reachF_l (n : Net) (c : List Bool) (k : Int) : (reachF n c k).1.length ≤ 1000000 := by
 unfold reachF
 split
 ·rename_i h
  obtain ⟨hv, hk⟩ := gchk_in h
  have hnl := hv.v.nl
  have h1 : (rL n c k.toNat).length ≤ (List.range n.nodes.length).length := List.length_filter_le _ _
  rw [List.length_range] at h1
  show (rL n c k.toNat).length ≤ 1000000
  omega
 ·exact Nat.zero_le _
def LsOk (a : List (List D)) : Prop := ∃ x : List (List Nat), a = x.map pRow ∧ x.length ≤ 1000000 ∧ ∀ l, l ∈ x → l.length ≤ 1000000
theorem partsF_ok (n : Net) (c : List Bool) : LsOk ((partsF n c).1.map pRow) := by
 refine ⟨_, rfl, ?_⟩
 unfold partsF
 split
 ·rename_i h
  have hnl := (rtv_of h).v.nl
  have hr : ∀ k, (rL n c k).length ≤ 1000000 := fun k => by
   have h1 : (rL n c k).length ≤ (List.range n.nodes.length).length := List.length_filter_le _ _
   rw [List.length_range] at h1
   omega
  refine ⟨?_, fun l hl => ?_⟩
  ·show (partsL n c).length ≤ 1000000
   unfold partsL
   rw [List.length_map]
   have h1 := List.length_filter_le (rootB n c) (List.range n.nodes.length)
   rw [List.length_range] at h1
   omega
  ·have hl : l ∈ partsL n c := hl
   unfold partsL at hl
   obtain ⟨k, _, rfl⟩ := List.mem_map.1 hl
   exact hr k
 ·exact ⟨Nat.zero_le _, fun l hl => by cases hl⟩
def selLsE : List D → Option (Prop × D)
 | [.sl a, .sl b] => some (b = a ∧ LsOk a, db true)
 | _ => Option.none
theorem tc_lsE {T : Tbl} (hT : TblOk Try.prog T) : TblOk Try.prog (tc 63 (rowPu selLsE) T) :=
 tc_pu f63_ok (fun args pre d hs hp nn => by
  unfold selLsE at hs
  split at hs
  ·cases hs
   obtain ⟨rfl, x, rfl, h1, h2⟩ := hp
   exact lists13_same x h1 h2 nn
  ·cases hs) hT
theorem natsI : ∀ l : List Nat, intsOf (l.map nRow) = some (l.map fun x : Nat => (x : Int)) := fun l => by rw [nRow_i]; exact intsOf_map _
def selLw : List D → Option (Prop × D)
 | [.agg a, .sl rows] => match netOf1 a, lsOf hopOf1 rows with
  | some n, some w => some (w.length ≤ 1000, .tup [di (lenR n w).1, di (lenR n w).2])
  | _, _ => Option.none
 | _ => Option.none
theorem tc_lw {f : FuncId} {T : Tbl} (hf : fnOk Try.prog f = true) (h : ∀ n w, w.length ≤ 1000 → ∀ nn, CallsA Try.prog f [n.enc, .sl (w.map hRow)] Hp.none nn (Pu (.tup [di (lenR n w).1, di (lenR n w).2]) Hp.none)) (hT : TblOk Try.prog T) : TblOk Try.prog (tc f (rowPu selLw) T) :=
 tc_pu hf (fun args pre d hs hp nn => by
  unfold selLw at hs
  split at hs
  ·split at hs
   ·rename_i e1 e2
    cases hs
    rw [netOf1_eq e1, lsOf_eq (fun r x => hopOf1_eq) e2]
    exact h _ _ hp nn
   ·cases hs
  ·cases hs) hT
def preL2 (n : Net) (c : List Bool) (a t : Int) : Prop := c.length ≤ 1000000
def preL1 (n : Net) (c : List Bool) (k : Int) : Prop := c.length ≤ 1000000
def preL0 (n : Net) (c : List Bool) : Prop := c.length ≤ 1000000
def TRz1 : Tbl := tc 51 (rowPu (selN2 preL2 wayT)) (tc 52 (rowPu (selN2 preL2 wayT)) (tc 53 (rowPu (selN1 preL1 reachT)) (tc 54 (rowPu (selN1 preL1 reachT)) (tc 55 (rowPu (selN1 preL1 cutsT)) (tc 56 (rowPu (selN1 preL1 cutsT)) (tc 61 (rowPu (selN0 preL0 partsT)) (tc 62 (rowPu (selN0 preL0 partsT)) (tc 59 (rowPu selLw) (tc 60 (rowPu selLw) (tc 57 (rowPu selSm) (tc 58 (rowPu selInts) (tc 63 (rowPu selLsE) T2))))))))))))
theorem TRz1_ok : TblOk Try.prog TRz1 :=
 tc_n2 f51_ok (fun n c a t h nn => wayA_f n c a t ▸ wayA_c n c a t nn) <|
 tc_n2 f52_ok (fun n c a t h nn => wayA_f n c a t ▸ rway_c n c h a t nn) <|
 tc_n1 f53_ok (fun n c a h nn => reachA_f n c a ▸ reachA_c n c a nn) <|
 tc_n1 f54_ok (fun n c a h nn => reachA_f n c a ▸ rreachA_c n c h a nn) <|
 tc_n1 f55_ok (fun n c a h nn => cutsA_f n c a ▸ cutsA_c n c h a nn) <|
 tc_n1 f56_ok (fun n c a h nn => cutsA_f n c a ▸ rcutsA_c n c h a nn) <|
 tc_n0 f61_ok (fun n c h nn => partsA_f n c ▸ partsA_c n c nn) <|
 tc_n0 f62_ok (fun n c h nn => partsA_f n c ▸ rpartsA_c n c h nn) <|
 tc_lw f59_ok (fun n w h nn => Length_w n w h nn) <|
 tc_lw f60_ok (fun n w h nn => rlen_c n w h nn) <|
 tc_sm <| tc_ints <| tc_lsE T2_ok
def selWrR : List D → Option (Prop × (Net → Prop))
 | [.agg a] => match netOf1 a with
  | some n => some (NetOk n, WrOk n)
  | Option.none => Option.none
 | _ => Option.none
theorem wrR_ex (n : Net) : WrOk n ⟨[], n.segs.map fun s => ⟨s.name, s.fr, s.to, s.cap, s.resist, s.wave, []⟩, n.ports, [], 0, 0⟩ := ⟨by simp, by simp, rfl, by simp, fun s hs => by
 obtain ⟨t, _, rfl⟩ := List.mem_map.1 hs
 simp⟩
def TRz : Tbl := tc 49 (rowPu selAw) (tc 8 rowNew (tc 32 (rowSrc (sel0 NetOk) Net.enc) (tc 50 (rowSrc selClo (fun c => .sl (c.map bRow))) (tc 36 (rowSrc selWrR Net.enc) TRz1))))
theorem TRz_ok : TblOk Try.prog TRz := by
 refine tc_pu f49_ok (fun args pre d h hp nn => ?_) (tc_new (tc_net (tc_clo (tc_src f36_ok (fun args pre post h hp => ?_) TRz1_ok))))
 ·unfold selAw at h
  split at h <;> cases h
  exact awake13_c nn
 ·unfold selWrR at h
  split at h
  ·split at h
   ·rename_i e1
    cases h
    rw [netOf1_eq e1]
    exact ⟨⟨_, wrR_ex _⟩, Wrong_c _ hp⟩
   ·cases h
  ·cases h
/-! ### hops that came in -/
variable {H : Type} {enc : TypeId × Value → H} {w : World} {base : Nat} {spare : Nat → Bool} {held : Bool}
theorem dec_hop : Dec enc Try.prog w base spare held 57 hRow 2 := fun n us y h => by
 obtain ⟨hl, m, hf⟩ := dec_fields Try.underlying57 (by kernel_rfl) h
 rw [show Try.prog.cellsOf 57 = 2 by kernel_rfl] at hl
 obtain ⟨u0, u1, rfl⟩ := lst2 hl
 obtain ⟨_, q0⟩ := hf 0 _ u0 rfl rfl
 obtain ⟨_, q1⟩ := hf 1 _ u1 rfl rfl
 obtain ⟨k0, r0⟩ := rw_int q0
 obtain ⟨k1, _, _, r1⟩ := dec_bool _ _ _ q1
 exact ⟨(k0, k1), rfl, rfl, .cons r0 (.cons (r1 0 _ _ rfl rfl) .nil)⟩
theorem dec_hops : Dec enc Try.prog w base spare held 58 (fun l : List (Int × Bool) => [D.sl (l.map hRow)]) 1 := dec_slice Try.underlying58 (by kernel_rfl) (by omega) dec_hop
def c6_1 : C := (.ops false [oP 241 (.bin .add (.t 217) (cI 1)), oM 217 241])
def c6_2 : C := (.seq (.block 7 (.seq (.ops false [oP 219 (.iaS 1 (.t 215) (.t 217)), oP 220 (.ld 1 false (.t 219)), oM 36 220]) (.seq (.ops false [oP 222 (.ld 6 true (.t 17)), oM 223 36, oB 224 (.call 59 [(.t 222), (.t 223)]), oM 221 224, oP 225 (.ext (.t 221) 0), oP 226 (.ext (.t 221) 1), oM 37 225, oM 38 226])
 (.seq (.ops false [oP 228 (.ld 6 true (.t 17)), oM 229 36, oB 230 (.call 60 [(.t 228), (.t 229)]), oM 227 230, oP 231 (.ext (.t 227) 0), oP 232 (.ext (.t 227) 1), oM 39 231, oM 40 232]) (.seq (.ops false [oM 233 37, oM 234 39, oP 235 (.bin .neq (.t 233) (.t 234)), oM 236 235, oG 237 236 false (.mv (.t 38)),
 oG 238 236 false (.mv (.t 40)), oG 239 236 false (.bin .neq (.t 237) (.t 238)), oP 240 (.pick (.t 236) (cB true) (.t 239))]) (.cond (.t 240) (.seq (.ops false [oP 12 (.mv (cB false))]) .ret) .skip)))))) c6_1)
def c6_3 : C := (.seq (.ops false [oP 218 (.bin .lss (.t 217) (.t 216))]) (.seq (.cond (.t 218) .skip (.exit 6)) c6_2))
def c6_4 : C := (.seq (.opsF false [(false, oM 209 2), (false, oM 210 24), (false, oM 211 34), (false, oM 212 34), (false, oM 213 24), (true, oP 214 (.app 2 16 (.t 212) (.t 213))), (false, oP 215 (.bsl 1 4 [.mt] [(0, (.t 209)), (1, (.t 210)), (2, (.t 211)), (3, (.t 214))])), (false, oP 216 (.len (.t 215))), (false, oP 217 (.mv (cI 0)))])
 (.block 6 (.loop c6_3)))
def c6_5 : C := (.seq (.ops false [oP 193 (.bsl 2 0 [(.v (.int .i64 0)), (.v (.bool false))] []), oM 194 24, oP 195 (.app 2 16 (.t 193) (.t 194)), oM 34 195]) (.seq (.seq (.ops false [oM 196 34, oP 197 (.len (.t 196)), oP 198 (.bin .gtr (.t 197) (cI 0))]) (.cond (.t 198) (.ops false [oM 199 34, oM 200 13, oM 201 34, oP 202 (.len (.t 201)),
 oB 203 (.call 13 [(.t 200), (.t 202)]), oM 204 13, oB 205 (.call 13 [(.t 204), (cI 2)]), oP 206 (.bin .eql (.t 205) (cI 0)), oP 207 (.iaS 2 (.t 199) (.t 203)), oP 208 (.fa 1 (.t 207)), oS (.st 1 (.t 208) (.t 206))]) .skip)) c6_4))
def c6_6 : C := (.ops false [oP 242 (.bin .add (.t 107) (cI 1)), oM 107 242])
def c6_7 : C := (.seq (.block 5 (.seq (.ops false [oP 109 (.iaS 2 (.t 105) (.t 107)), oP 110 (.ld 2 true (.t 109)), oP 21 (.new [(.v (.int .i64 0)), (.v (.int .i64 0))]), oS (.st 2 (.t 21) (.t 110))]) (.seq (.ops false [oP 112 (.ld 6 true (.t 17)), oM 113 19, oP 114 (.iaA 2 1 (.t 21) (cI 0)), oP 115 (.ld 1 false (.t 114)), oP 116 (.iaA 2 1 (.t 21) (cI 1)), oP 117 (.ld 1 false (.t 116)),
 oP 118 (.call 51 [(.t 112), (.t 113), (.t 115), (.t 117)]), oM 111 118, oP 119 (.ext (.t 111) 0), oP 120 (.ext (.t 111) 1), oM 22 119, oM 23 120]) (.seq (.ops false [oP 122 (.ld 6 true (.t 17)), oM 123 19, oP 124 (.iaA 2 1 (.t 21) (cI 0)), oP 125 (.ld 1 false (.t 124)), oP 126 (.iaA 2 1 (.t 21) (cI 1)), oP 127 (.ld 1 false (.t 126)),
 oP 128 (.call 52 [(.t 122), (.t 123), (.t 125), (.t 127)]), oM 121 128, oP 129 (.ext (.t 121) 0), oP 130 (.ext (.t 121) 1), oM 24 129, oM 25 130]) (.seq (.ops false [oP 132 (.ld 6 true (.t 17)), oM 133 19, oP 134 (.iaA 2 1 (.t 21) (cI 0)), oP 135 (.ld 1 false (.t 134)), oP 136 (.call 53 [(.t 132), (.t 133), (.t 135)]), oM 131 136,
 oP 137 (.ext (.t 131) 0), oP 138 (.ext (.t 131) 1), oM 26 137, oM 27 138]) (.seq (.ops false [oP 140 (.ld 6 true (.t 17)), oM 141 19, oP 142 (.iaA 2 1 (.t 21) (cI 0)), oP 143 (.ld 1 false (.t 142)), oP 144 (.call 54 [(.t 140), (.t 141), (.t 143)]), oM 139 144, oP 145 (.ext (.t 139) 0), oP 146 (.ext (.t 139) 1), oM 28 145,
 oM 29 146]) (.seq (.ops false [oP 148 (.ld 6 true (.t 17)), oM 149 19, oP 150 (.iaA 2 1 (.t 21) (cI 1)), oP 151 (.ld 1 false (.t 150)), oB 152 (.call 55 [(.t 148), (.t 149), (.t 151)]), oM 147 152, oP 153 (.ext (.t 147) 0), oP 154 (.ext (.t 147) 1), oM 30 153, oM 31 154]) (.seq (.ops false [oP 156 (.ld 6 true (.t 17)), oM 157 19,
 oP 158 (.iaA 2 1 (.t 21) (cI 1)), oP 159 (.ld 1 false (.t 158)), oB 160 (.call 56 [(.t 156), (.t 157), (.t 159)]), oM 155 160, oP 161 (.ext (.t 155) 0), oP 162 (.ext (.t 155) 1), oM 32 161, oM 33 162]) (.seq (.seq (.ops false [oM 163 22, oM 164 24, oB 165 (.call 57 [(.t 163), (.t 164)]), oP 166 (.not (.t 165)), oM 167 166,
 oG 168 167 false (.mv (.t 23)), oG 169 167 false (.mv (.t 25)), oG 170 167 false (.bin .neq (.t 168) (.t 169)), oP 171 (.pick (.t 167) (cB true) (.t 170)), oM 172 171, oG 173 172 false (.mv (.t 26)), oG 174 172 false (.mv (.t 28)), oD 175 172 false (.call 58 [(.t 173), (.t 174)]) [], oG 176 172 false (.not (.t 175)), oP 177 (.pick (.t 172) (cB true) (.t 176)), oM 178 177,
 oG 179 178 false (.mv (.t 27)), oG 180 178 false (.mv (.t 29)), oG 181 178 false (.bin .neq (.t 179) (.t 180)), oP 182 (.pick (.t 178) (cB true) (.t 181)), oM 183 182, oG 184 183 false (.mv (.t 30)), oG 185 183 false (.mv (.t 32)), oG 186 183 false (.beq true (.t 184) (.t 185)), oP 187 (.pick (.t 183) (cB true) (.t 186)), oM 188 187, oG 189 188 false (.mv (.t 31)),
 oG 190 188 false (.mv (.t 33)), oG 191 188 false (.bin .neq (.t 189) (.t 190)), oP 192 (.pick (.t 188) (cB true) (.t 191))]) (.cond (.t 192) (.seq (.ops false [oP 12 (.mv (cB false))]) .ret) .skip)) c6_5))))))))) c6_6)
def c6_8 : C := (.seq (.ops false [oP 108 (.bin .lss (.t 107) (.t 106))]) (.seq (.cond (.t 108) .skip (.exit 4)) c6_7))
def c6_9 : C := (.seq (.ops false [oP 244 (.ld 6 true (.t 17)), oM 245 19, oP 246 (.call 61 [(.t 244), (.t 245)]), oM 243 246, oP 247 (.ext (.t 243) 0), oP 248 (.ext (.t 243) 1), oM 41 247, oM 42 248]) (.seq (.ops false [oP 250 (.ld 6 true (.t 17)), oM 251 19, oP 252 (.call 62 [(.t 250), (.t 251)]), oM 249 252, oP 253 (.ext (.t 249) 0),
 oP 254 (.ext (.t 249) 1), oM 43 253, oM 44 254]) (.seq (.ops false [oM 255 41, oM 256 43, oB 257 (.call 63 [(.t 255), (.t 256)]), oP 258 (.not (.t 257)), oM 259 258, oG 260 259 false (.mv (.t 42)), oG 261 259 false (.mv (.t 44)), oG 262 259 false (.bin .neq (.t 260) (.t 261)), oP 263 (.pick (.t 259) (cB true) (.t 262))]) (.cond (.t 263)
 (.seq (.ops false [oP 12 (.mv (cB false))]) .ret) .skip))))
def c6_10 : C := (.ops false [oP 264 (.bin .add (.t 88) (cI 1)), oM 88 264])
def c6_11 : C := (.seq (.block 3 (.seq (.ops false [oP 90 (.iaS 1 (.t 86) (.t 88)), oP 91 (.ld 1 false (.t 90)), oM 19 91]) (.seq (.seq (.ops true [oM 92 3, oM 93 4, oA 94 (.bld [(.v (.int .i64 0)), (.v (.int .i64 0))] [(0, (1, (.t 92))), (1, (1, (.t 93)))]) [1, 0], oM 95 13, oE 96 (.call 25 [(.t 95), (cI (-1)), (cI 6)]) [3], oM 97 13,
 oE 98 (.call 25 [(.t 97), (cI (-1)), (cI 6)]) [3, 4, 5], oA 99 (.bld [(.v (.int .i64 0)), (.v (.int .i64 0))] [(0, (1, (.t 96))), (1, (1, (.t 98)))]) [5, 3, 6, 4], oP 100 (.fa 0 (.t 14)), oA 101 (.ld 1 false (.t 100)) [8], oA 102 (.len (.t 101)) [8, 9], oA 103 (.bin .sub (.t 102) (cI 1)) [9, 8, 10], oA 104 (.bld [(.v (.int .i64 0)), (.v (.int .i64 0))] [(0, (1, (cI 0))), (1, (1, (.t 103)))]) [10,
 8, 9, 11], oA 105 (.bsl 2 3 [(.v (.int .i64 0)), (.v (.int .i64 0))] [(0, (.t 94)), (1, (.t 99)), (2, (.t 104))]) [11, 9, 8, 10, 4, 6, 3, 5, 0, 1, 12, 7, 2], oA 106 (.len (.t 105)) [2, 7, 12, 1, 0, 5, 3, 6, 4, 10, 8, 9, 11, 13], oP 107 (.mv (cI 0))]) (.block 4 (.loop c6_8))) c6_9))) c6_10)
def c6_12 : C := (.seq (.ops false [oP 89 (.bin .lss (.t 88) (.t 87))]) (.seq (.cond (.t 89) .skip (.exit 2)) c6_11))
def c6_13 : C := (.ops false [oP 265 (.bin .add (.t 80) (cI 1)), oM 80 265])
def c6_14 : C := (.seq (.block 1 (.seq (.ops false [oP 82 (.iaS 6 (.t 78) (.t 80)), oP 83 (.ld 6 true (.t 82)), oP 17 (.new [.mt, .mt, .mt, .mt, (.v (.int .i64 0)), (.v (.int .i64 0))]), oS (.st 6 (.t 17) (.t 83))]) (.seq (.ops false [oM 84 1, oM 85 15, oP 86 (.bsl 1 2 [.mt] [(0, (.t 84)), (1, (.t 85))]), oP 87 (.len (.t 86)), oP 88 (.mv (cI 0))]) (.block 2 (.loop c6_12))))) c6_13)
def c6_15 : C := (.seq (.ops false [oP 81 (.bin .lss (.t 80) (.t 79))]) (.seq (.cond (.t 81) .skip (.exit 0)) c6_14))
def c6_16 : C := (.seq (.ops false [oB 266 (.call 49 []), oM 12 266]) .ret)
def c6_17 : C := (.seq (.ops false [oM 66 5, oP 67 (.call 8 [(.t 66)]), oM 13 67]) (.seq (.ops false [oM 68 13, oP 69 (.call 32 [(.t 68)]), oP 14 (.new [.mt, .mt, .mt, .mt, (.v (.int .i64 0)), (.v (.int .i64 0))]), oS (.st 6 (.t 14) (.t 69))]) (.seq (.ops false [oM 70 13, oP 71 (.ld 6 true (.t 14)), oP 72 (.call 50 [(.t 70), (.t 71)]), oM 15 72])
 (.seq (.seq (.ops true [oP 73 (.ld 6 true (.t 6)), oP 74 (.ld 6 true (.t 14)), oM 75 13, oP 76 (.ld 6 true (.t 14)), oA 77 (.call 36 [(.t 75), (.t 76)]) [3, 2], oA 78 (.bsl 6 3 [.mt, .mt, .mt, .mt, (.v (.int .i64 0)), (.v (.int .i64 0))] [(0, (.t 73)), (1, (.t 74)), (2, (.t 77))]) [2, 3, 4, 1, 0], oA 79 (.len (.t 78)) [0, 1, 4, 3, 2, 5], oP 80 (.mv (cI 0))]) (.block 0 (.loop c6_15)))
 c6_16))))
def c6 : C := (.seq (.ops false [oP 6 (.box 6 (.t 0)), oP 12 (.mv (cB false))]) (.seq (.seq (.ops false [oP 45 (.fa 0 (.t 6)), oP 46 (.ld 1 false (.t 45)), oP 47 (.len (.t 46)), oP 48 (.bin .gtr (.t 47) (cI 40)), oM 49 48, oG 50 49 false (.fa 1 (.t 6)), oG 51 49 false (.ld 1 false (.t 50)), oG 52 49 false (.len (.t 51)), oG 53 49 false (.bin .gtr (.t 52) (cI 50)), oP 54 (.pick (.t 49) (cB true)
 (.t 53)), oM 55 54, oG 56 55 false (.mv (.t 1)), oG 57 55 false (.len (.t 56)), oG 58 55 false (.bin .gtr (.t 57) (cI 60)), oP 59 (.pick (.t 55) (cB true) (.t 58)), oM 60 59, oG 61 60 false (.mv (.t 2)), oG 62 60 false (.len (.t 61)), oG 63 60 false (.bin .gtr (.t 62) (cI 60)), oP 64 (.pick (.t 60) (cB true) (.t 63))]) (.cond (.t 64) (.seq (.ops false [oB 65 (.call 49 []),
 oM 12 65]) .ret) .skip)) c6_17))
def r6 : List RV := [(.tmp 12)]
theorem c6_ok : ∃ code, Try.f6.body = some code ∧ compC Try.prog Try.f6.ntmps code = some (C.strip c6) := ⟨_, rfl, by kernel_rfl⟩
theorem r6_ok : compRes Try.prog Try.f6.results.toList = some r6 := by kernel_rfl
end Go.Proofs.Ytadjhfjiimgddaa
