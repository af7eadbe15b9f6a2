/- FlowAnswers: CodeFA CodeLU LuZ CodeLM Vz CodeWR. -/
import Derived.Test.YtkjibmfggeibjaaFaG3
import Derived.Test.YtkjibmfggeibjaaProg
import Derived.Test.YtkjibmfggeibjaaFaG12
import Derived.Test.YtkjibmfggeibjaaFaG7
import Derived.Test.YtkjibmfggeibjaaFaG16
import Derived.Test.YtkjibmfggeibjaaFaG17
import Derived.Test.YtkjibmfggeibjaaFaG5

/- Compiled code of some functions (printed by a program), each checked by the kernel. -/
namespace Go.Proofs.Ytkjibmfggeibjaa
open Go
set_option maxRecDepth 100000
def c9_1 : C := (.ops false [oP 193 (.bin .add (.t 167) (cI 1)), oP 167 (.mv (.t 193))])
def c9_2 : C := (.seq (.block 5 (.seq (.ops false [oP 169 (.iaS 1 (.t 165) (.t 167)), oP 170 (.ld 1 false (.t 169)), oP 27 (.mv (.t 170))]) (.seq (.ops false [oP 172 (.ld 6 true (.t 13)), oP 173 (.ld 3 true (.t 15)), oP 174 (.mv (.t 27)), oB 175 (.call 58 [(.t 172), (.t 173), (.t 174)]), oP 171 (.mv (.t 175)), oP 176 (.ext (.t 171) 0), oP 177 (.ext (.t 171) 1), oP 28 (.mv (.t 176)), oP 29 (.mv (.t 177))])
  (.seq (.ops false [oP 179 (.ld 6 true (.t 13)), oP 180 (.ld 3 true (.t 15)), oP 181 (.mv (.t 27)), oB 182 (.call 59 [(.t 179), (.t 180), (.t 181)]), oP 178 (.mv (.t 182)), oP 183 (.ext (.t 178) 0), oP 184 (.ext (.t 178) 1), oP 30 (.mv (.t 183)), oP 31 (.mv (.t 184))]) (.seq (.ops false [oP 185 (.mv (.t 28)), oP 186 (.mv (.t 30)), oP 187 (.bin .neq (.t 185) (.t 186)), oP 188 (.mv (.t 187)),
  oG 189 188 false (.mv (.t 29)), oG 190 188 false (.mv (.t 31)), oG 191 188 false (.bin .neq (.t 189) (.t 190)), oP 192 (.pick (.t 188) (cB true) (.t 191))]) (.cond (.t 192) (.seq (.ops false [oP 8 (.mv (cB false))]) .ret) .skip)))))) c9_1)
def c9_3 : C := (.seq (.ops false [oP 168 (.bin .lss (.t 167) (.t 166))]) (.seq (.cond (.t 168) .skip (.exit 4)) c9_2))
def c9_4 : C := (.seq (.ops false [oP 162 (.mv (.t 2)), oP 163 (.mv (.t 9)), oB 164 (.call 27 [(.t 163), (cI (-1)), (cI 6)]), oP 165 (.bsl 1 2 [(.v (.int .i64 0))] [(0, (.t 162)), (1, (.t 164))]), oP 166 (.len (.t 165)), oP 167 (.mv (cI 0))]) (.block 4 (.loop c9_3)))
def c9_5 : C := (.ops false [oP 194 (.bin .add (.t 99) (cI 1)), oP 99 (.mv (.t 194))])
def c9_6 : C := (.seq (.block 3 (.seq (.ops false [oP 101 (.iaS 3 (.t 97) (.t 99)), oP 102 (.ld 3 true (.t 101)), oP 15 (.new [.mt, .mt, .mt]), oS (.st 3 (.t 15) (.t 102))]) (.seq (.ops false [oP 104 (.ld 6 true (.t 13)), oP 105 (.ld 3 true (.t 15)), oP 106 (.call 51 [(.t 104), (.t 105)]), oP 103 (.mv (.t 106)), oP 107 (.ext (.t 103) 0), oP 108 (.ext (.t 103) 1), oP 16 (.mv (.t 107)), oP 17 (.mv (.t 108))])
  (.seq (.ops false [oP 110 (.ld 6 true (.t 13)), oP 111 (.ld 3 true (.t 15)), oP 112 (.call 52 [(.t 110), (.t 111)]), oP 109 (.mv (.t 112)), oP 113 (.ext (.t 109) 0), oP 114 (.ext (.t 109) 1), oP 18 (.mv (.t 113)), oP 19 (.mv (.t 114))]) (.seq (.ops false [oP 116 (.ld 6 true (.t 13)), oP 117 (.ld 3 true (.t 15)), oB 118 (.call 53 [(.t 116), (.t 117)]), oP 115 (.mv (.t 118)), oP 119 (.ext (.t 115)
  0), oP 120 (.ext (.t 115) 1), oP 121 (.ext (.t 115) 2), oP 20 (.mv (.t 119)), oP 21 (.mv (.t 120)), oP 22 (.mv (.t 121))]) (.seq (.ops false [oP 123 (.ld 6 true (.t 13)), oP 124 (.ld 3 true (.t 15)), oB 125 (.call 54 [(.t 123), (.t 124)]), oP 122 (.mv (.t 125)), oP 126 (.ext (.t 122) 0), oP 127 (.ext (.t 122) 1), oP 128 (.ext (.t 122) 2), oP 23 (.mv (.t 126)), oP 24 (.mv (.t 127)),
  oP 25 (.mv (.t 128))]) (.seq (.seq (.ops true [oP 129 (.ld 6 true (.t 13)), oP 130 (.ld 3 true (.t 15)), ⟨(.some 131), Option.none, (.call 55 [(.t 129), (.t 130)]), 131, [1, 0], true⟩, oP 132 (.ld 6 true (.t 13)), oP 133 (.ld 3 true (.t 15)), ⟨(.some 134), Option.none, (.call 56 [(.t 132), (.t 133)]), 134, [0, 1, 2, 4, 3], true⟩, oA 135 (.bin .neq (.t 131) (.t 134)) [3, 4, 0, 1, 5, 2],
  oA 136 (.mv (.t 135)) [2, 1, 0, 4, 3, 5, 6], ⟨(.some 137), (.some (136, false)), (.mv (.t 16)), 137, [6, 5, 3, 4, 0, 1, 2, 7], false⟩, ⟨(.some 138), (.some (136, false)), (.mv (.t 18)), 138, [6, 5, 3, 4, 0, 1, 2, 7], false⟩, ⟨(.some 139), (.some (136, false)), (.call 57 [(.t 137), (.t 138)]), 139, [2, 1, 0, 4, 3, 5, 6, 7, 9, 8], true⟩, ⟨(.some 140), (.some (136, false)), (.not (.t 139)), 140, [8,
  9, 6, 5, 3, 4, 0, 1, 2, 7, 10], false⟩, oA 141 (.pick (.t 136) (cB true) (.t 140)) [10, 9, 8, 6, 5, 3, 4, 0, 1, 2, 11, 7], oA 142 (.mv (.t 141)) [7, 11, 2, 1, 0, 4, 3, 5, 6, 8, 9, 10, 12], ⟨(.some 143), (.some (142, false)), (.mv (.t 17)), 143, [12, 10, 9, 8, 6, 5, 3, 4, 0, 1, 2, 11, 7, 13], false⟩, ⟨(.some 144), (.some (142, false)), (.mv (.t 19)), 144, [12, 10, 9, 8, 6, 5, 3, 4, 0, 1, 2, 11, 7,
  13], false⟩, ⟨(.some 145), (.some (142, false)), (.bin .neq (.t 143) (.t 144)), 145, [7, 11, 2, 1, 0, 4, 3, 5, 6, 8, 9, 10, 12, 13, 15, 14], false⟩, oA 146 (.pick (.t 142) (cB true) (.t 145)) [14, 15, 12, 10, 9, 8, 6, 5, 3, 4, 0, 1, 2, 11, 7, 16, 13], oA 147 (.mv (.t 146)) [16, 7, 11, 2, 1, 0, 4, 3, 5, 6, 8, 9, 10, 12, 15, 14, 13, 17], ⟨(.some 148), (.some (147, false)), (.mv (.t 20)), 148, [17,
  13, 14, 15, 12, 10, 9, 8, 6, 5, 3, 4, 0, 1, 2, 11, 7, 16, 18], false⟩, ⟨(.some 149), (.some (147, false)), (.mv (.t 23)), 149, [17, 13, 14, 15, 12, 10, 9, 8, 6, 5, 3, 4, 0, 1, 2, 11, 7, 16, 18], false⟩, ⟨(.some 150), (.some (147, false)), (.bin .neq (.t 148) (.t 149)), 150, [16, 7, 11, 2, 1, 0, 4, 3, 5, 6, 8, 9, 10, 12, 15, 14, 13, 17, 18, 20, 19], false⟩, oA 151 (.pick (.t 147) (cB true)
  (.t 150)) [19, 20, 17, 13, 14, 15, 12, 10, 9, 8, 6, 5, 3, 4, 0, 1, 2, 11, 7, 16, 21, 18], oA 152 (.mv (.t 151)) [21, 16, 7, 11, 2, 1, 0, 4, 3, 5, 6, 8, 9, 10, 12, 15, 14, 13, 17, 20, 19, 18, 22], ⟨(.some 153), (.some (152, false)), (.mv (.t 21)), 153, [22, 18, 19, 20, 17, 13, 14, 15, 12, 10, 9, 8, 6, 5, 3, 4, 0, 1, 2, 11, 7, 16, 21, 23], false⟩, ⟨(.some 154), (.some (152, false)), (.mv (.t 24)),
  154, [22, 18, 19, 20, 17, 13, 14, 15, 12, 10, 9, 8, 6, 5, 3, 4, 0, 1, 2, 11, 7, 16, 21, 23], false⟩, ⟨(.some 155), (.some (152, false)), (.bin .neq (.t 153) (.t 154)), 155, [21, 16, 7, 11, 2, 1, 0, 4, 3, 5, 6, 8, 9, 10, 12, 15, 14, 13, 17, 20, 19, 18, 22, 23, 25, 24], false⟩, oA 156 (.pick (.t 152) (cB true) (.t 155)) [24, 25, 22, 18, 19, 20, 17, 13, 14, 15, 12, 10, 9, 8, 6, 5, 3, 4, 0, 1, 2, 11,
  7, 16, 21, 26, 23], oA 157 (.mv (.t 156)) [26, 21, 16, 7, 11, 2, 1, 0, 4, 3, 5, 6, 8, 9, 10, 12, 15, 14, 13, 17, 20, 19, 18, 22, 25, 24, 23, 27], ⟨(.some 158), (.some (157, false)), (.mv (.t 22)), 158, [27, 23, 24, 25, 22, 18, 19, 20, 17, 13, 14, 15, 12, 10, 9, 8, 6, 5, 3, 4, 0, 1, 2, 11, 7, 16, 21, 26, 28], false⟩, ⟨(.some 159), (.some (157, false)), (.mv (.t 25)), 159, [27, 23, 24, 25, 22, 18,
  19, 20, 17, 13, 14, 15, 12, 10, 9, 8, 6, 5, 3, 4, 0, 1, 2, 11, 7, 16, 21, 26, 28], false⟩, ⟨(.some 160), (.some (157, false)), (.bin .neq (.t 158) (.t 159)), 160, [26, 21, 16, 7, 11, 2, 1, 0, 4, 3, 5, 6, 8, 9, 10, 12, 15, 14, 13, 17, 20, 19, 18, 22, 25, 24, 23, 27, 28, 30, 29], false⟩, oA 161 (.pick (.t 157) (cB true) (.t 160)) [29, 30, 27, 23, 24, 25, 22, 18, 19, 20, 17, 13, 14, 15, 12, 10, 9, 8,
  6, 5, 3, 4, 0, 1, 2, 11, 7, 16, 21, 26, 31, 28]]) (.cond (.t 161) (.seq (.ops false [oP 8 (.mv (cB false))]) .ret) .skip)) c9_4))))))) c9_5)
def c9_7 : C := (.seq (.ops false [oP 100 (.bin .lss (.t 99) (.t 98))]) (.seq (.cond (.t 100) .skip (.exit 2)) c9_6))
def c9_8 : C := (.ops false [oP 195 (.bin .add (.t 81) (cI 1)), oP 81 (.mv (.t 195))])
def c9_9 : C := (.seq (.block 1 (.seq (.ops false [oP 83 (.iaS 6 (.t 79) (.t 81)), oP 84 (.ld 6 true (.t 83)), oP 13 (.new [.mt, .mt, .mt, .mt, (.v (.int .i64 0)), (.v (.int .i64 0))]), oS (.st 6 (.t 13) (.t 84))]) (.seq (.ops true [oP 85 (.ld 3 true (.t 5)), oP 86 (.ld 3 true (.t 11)), oP 87 (.mv (.t 9)), oP 88 (.ld 3 true (.t 11)), oA 89 (.call 35 [(.t 87), (.t 88)]) [3, 2], oP 90 (.ld 3 true (.t 11)),
  oA 91 (.call 49 [(.t 90)]) [2, 3, 4, 5], oP 92 (.ld 3 true (.t 11)), oP 93 (.mv (.t 9)), oP 94 (.ld 6 true (.t 10)), oA 95 (.call 20 [(.t 93), (.t 94)]) [5, 4, 3, 2, 6, 9, 8], oA 96 (.call 50 [(.t 92), (.t 95)]) [8, 9, 6, 2, 3, 4, 5, 10, 7], oA 97 (.bsl 3 5 [.mt, .mt, .mt] [(0, (.t 85)), (1, (.t 86)), (2, (.t 89)), (3, (.t 91)), (4, (.t 96))]) [7, 10, 9, 8, 5, 2, 3, 11, 6, 4, 1, 0],
  oA 98 (.len (.t 97)) [0, 1, 4, 6, 11, 3, 2, 5, 8, 9, 10, 7, 12], oP 99 (.mv (cI 0))]) (.block 2 (.loop c9_7))))) c9_8)
def c9_10 : C := (.seq (.ops false [oP 82 (.bin .lss (.t 81) (.t 80))]) (.seq (.cond (.t 82) .skip (.exit 0)) c9_9))
def c9_11 : C := (.seq (.ops false [oB 196 (.call 48 []), oP 8 (.mv (.t 196))]) .ret)
def c9_12 : C := (.seq (.ops false [oP 67 (.mv (.t 3)), oP 68 (.call 18 [(.t 67)]), oP 9 (.mv (.t 68))]) (.seq (.ops false [oP 69 (.mv (.t 9)), oP 70 (.call 19 [(.t 69)]), oP 10 (.new [.mt, .mt, .mt, .mt, (.v (.int .i64 0)), (.v (.int .i64 0))]), oS (.st 6 (.t 10) (.t 70))]) (.seq (.ops false [oP 71 (.mv (.t 9)), oP 72 (.ld 6 true (.t 10)), oP 73 (.call 20 [(.t 71), (.t 72)]), oP 11 (.new [.mt, .mt, .mt]),
  oS (.st 3 (.t 11) (.t 73))]) (.seq (.seq (.ops true [oP 74 (.ld 6 true (.t 4)), oP 75 (.ld 6 true (.t 10)), oP 76 (.mv (.t 9)), oP 77 (.ld 6 true (.t 10)), oA 78 (.call 34 [(.t 76), (.t 77)]) [3, 2], oA 79 (.bsl 6 3 [.mt, .mt, .mt, .mt, (.v (.int .i64 0)), (.v (.int .i64 0))] [(0, (.t 74)), (1, (.t 75)), (2, (.t 78))]) [2, 3, 4, 1, 0], oA 80 (.len (.t 79)) [0, 1, 4, 3, 2, 5], oP 81 (.mv (cI 0))])
  (.block 0 (.loop c9_10))) c9_11))))
def c9 : C := (.seq (.ops false [oP 4 (.box 6 (.t 0)), oP 5 (.box 3 (.t 1)), oP 8 (.mv (cB false))]) (.seq (.seq (.ops false [oP 32 (.fa 0 (.t 4)), oP 33 (.ld 1 false (.t 32)), oP 34 (.len (.t 33)), oP 35 (.bin .gtr (.t 34) (cI 40)), oP 36 (.mv (.t 35)), oG 37 36 false (.fa 1 (.t 4)), oG 38 36 false (.ld 1 false (.t 37)), oG 39 36 false (.len (.t 38)), oG 40 36 false (.bin .gtr (.t 39) (cI 50)),
  oP 41 (.pick (.t 36) (cB true) (.t 40)), oP 42 (.mv (.t 41)), oG 43 42 false (.fa 2 (.t 4)), oG 44 42 false (.ld 1 false (.t 43)), oG 45 42 false (.len (.t 44)), oG 46 42 false (.bin .gtr (.t 45) (cI 40)), oP 47 (.pick (.t 42) (cB true) (.t 46)), oP 48 (.mv (.t 47)), oG 49 48 false (.fa 0 (.t 5)), oG 50 48 false (.ld 1 false (.t 49)), oG 51 48 false (.len (.t 50)),
  oG 52 48 false (.bin .gtr (.t 51) (cI 60)), oP 53 (.pick (.t 48) (cB true) (.t 52)), oP 54 (.mv (.t 53)), oG 55 54 false (.fa 1 (.t 5)), oG 56 54 false (.ld 1 false (.t 55)), oG 57 54 false (.len (.t 56)), oG 58 54 false (.bin .gtr (.t 57) (cI 60)), oP 59 (.pick (.t 54) (cB true) (.t 58)), oP 60 (.mv (.t 59)), oG 61 60 false (.fa 2 (.t 5)), oG 62 60 false (.ld 1 false (.t 61)),
  oG 63 60 false (.len (.t 62)), oG 64 60 false (.bin .gtr (.t 63) (cI 60)), oP 65 (.pick (.t 60) (cB true) (.t 64))]) (.cond (.t 65) (.seq (.ops false [oB 66 (.call 48 []), oP 8 (.mv (.t 66))]) .ret) .skip)) c9_12))
def r9 : List RV := [(.tmp 8)]
theorem c9_ok : ∃ code, Try.f9.body = some code ∧ compC Try.prog Try.f9.ntmps code = some (C.strip c9) := ⟨_, rfl, by kernel_rfl⟩
theorem r9_ok : compRes Try.prog Try.f9.results.toList = some r9 := by kernel_rfl
def c57_1 : C := (.ops false [oP 25 (.bin .add (.t 13) (cI 1)), oP 13 (.mv (.t 25))])
def c57_2 : C := (.seq (.block 1 (.seq (.ops false [oP 15 (.mv (.t 13)), oP 5 (.mv (.t 15))]) (.seq (.ops true [oP 16 (.mv (.t 0)), oP 17 (.mv (.t 5)), oA 18 (.iaS 1 (.t 16) (.t 17)) [1, 0], oA 19 (.ld 1 false (.t 18)) [0, 1, 2], oP 20 (.mv (.t 1)), oP 21 (.mv (.t 5)), oA 22 (.iaS 1 (.t 20) (.t 21)) [5, 4], oA 23 (.ld 1 false (.t 22)) [4, 5, 6], oA 24 (.bin .neq (.t 19) (.t 23)) [6, 5, 4, 2, 1, 0, 7, 3]])
  (.cond (.t 24) (.seq (.ops false [oP 4 (.mv (cB false))]) .ret) .skip)))) c57_1)
def c57_3 : C := (.seq (.ops false [oP 14 (.bin .lss (.t 13) (.t 12))]) (.seq (.cond (.t 14) .skip (.exit 0)) c57_2))
def c57_4 : C := (.seq (.ops false [oP 4 (.mv (cB true))]) .ret)
def c57_5 : C := (.seq (.seq (.ops false [oP 11 (.mv (.t 0)), oP 12 (.len (.t 11)), oP 13 (.mv (cI 0))]) (.block 0 (.loop c57_3))) c57_4)
def c57 : C := (.seq (.ops false [oP 4 (.mv (cB false))]) (.seq (.seq (.ops false [oP 6 (.mv (.t 0)), oP 7 (.len (.t 6)), oP 8 (.mv (.t 1)), oP 9 (.len (.t 8)), oP 10 (.bin .neq (.t 7) (.t 9))]) (.cond (.t 10) (.seq (.ops false [oP 4 (.mv (cB false))]) .ret) .skip)) c57_5))
def r57 : List RV := [(.tmp 4)]
theorem c57_ok : ∃ code, Try.f57.body = some code ∧ compC Try.prog Try.f57.ntmps code = some (C.strip c57) := ⟨_, rfl, by kernel_rfl⟩
theorem r57_ok : compRes Try.prog Try.f57.results.toList = some r57 := by kernel_rfl
theorem f57_ok : fnOk Try.prog 57 = true := by kernel_rfl
end Go.Proofs.Ytkjibmfggeibjaa

/- Compiled code of some functions (printed by a program), each checked by the kernel. -/
namespace Go.Proofs.Ytkjibmfggeibjaa
open Go
set_option maxRecDepth 100000
end Go.Proofs.Ytkjibmfggeibjaa

/- Lineups: Valid, flows, Numbers, Need, Permits. -/
/- Lineups: Valid, flows, Numbers, Need, Permits. -/
namespace Go.Proofs.Ytkjibmfggeibjaa
open Go
set_option linter.unusedVariables false
set_option linter.unusedSimpArgs false
set_option maxRecDepth 100000

structure Lnp where
  segs : List Bool
  ports : List Bool
def lnpD (l : Lnp) : List D := [.sl (l.segs.map bRow), .sl (l.ports.map bRow)]
def Lnp.enc (l : Lnp) : D := .agg (lnpD l)
end Go.Proofs.Ytkjibmfggeibjaa
/- Lineups: both, Changes, All; lists out of a source. -/
namespace Go.Proofs.Ytkjibmfggeibjaa
open Go
set_option linter.unusedVariables false
set_option linter.unusedSimpArgs false
set_option maxRecDepth 100000

end Go.Proofs.Ytkjibmfggeibjaa
/- Lineups: All as a list of one's own, comparisons; what LineupNeeds calls. -/
/- Lineups: All as a list of one's own, comparisons; what LineupNeeds calls. -/
namespace Go.Proofs.Ytkjibmfggeibjaa
open Go
set_option linter.unusedVariables false
set_option linter.unusedSimpArgs false
set_option maxRecDepth 100000

end Go.Proofs.Ytkjibmfggeibjaa
/- LineupNeeds: the plain law. -/
namespace Go.Proofs.Ytkjibmfggeibjaa
open Go
set_option linter.unusedVariables false
set_option linter.unusedSimpArgs false
set_option maxRecDepth 100000

end Go.Proofs.Ytkjibmfggeibjaa

/- Compiled code of some functions (printed by a program), each checked by the kernel. -/
namespace Go.Proofs.Ytkjibmfggeibjaa
open Go
set_option maxRecDepth 100000
def c8_1 : C := (.seq (.block 1 (.ops false [oP 35 (.mv (.t 10)), oP 36 (.mv (.t 5)), oB 37 (.call 45 [(.t 36)]), oP 38 (.bsl 4 1 [(.v (.int .i64 0)), (.v (.int .i64 0)), (.v (.bool false)), (.v (.bool false))] [(0, (.t 37))]), oP 39 (.app 4 24 (.t 35) (.t 38)), oP 10 (.mv (.t 39))])) (.ops false [oP 33 (.mv (.t 11)), oP 34 (.bin .add (.t 33) (cI 1)), oP 11 (.mv (.t 34))]))
def c8_2 : C := (.seq (.seq (.ops false [oP 29 (.mv (.t 11)), oP 30 (.ld 6 true (.t 6)), oB 31 (.call 44 [(.t 30)]), oP 32 (.bin .lss (.t 29) (.t 31))]) (.cond (.t 32) .skip (.exit 0))) c8_1)
def c8_3 : C := (.seq (.ops false [oP 86 (.ld 6 true (.t 6)), oP 87 (.ld 2 true (.t 8)), oP 88 (.ld 2 true (.t 9)), oP 89 (.ld 3 true (.t 7)), oP 90 (.mv (.t 10)), oB 91 (.call 47 [(.t 86), (.t 87), (.t 88), (.t 89), (.t 90)]), oP 92 (.mv (.t 91)), ⟨(.some 93), (.some (92, true)), (.call 42 []), 93, [], true⟩, oP 94 (.pick (.t 92) (.t 93) (cB false)), oP 4 (.mv (.t 94))]) .ret)
def c8_4 : C := (.seq (.seq (.ops false [oP 40 (.mv (.t 1)), oB 41 (.call 33 [(.t 40), (cI 10)])]) (.block 2 (.seq (.ops false [oP 43 (.bin .eql (.t 41) (cI 0)), oP 42 (.mv (.t 43))]) (.cond (.t 42) (.ops false [oP 44 (.mv (.t 5)), oP 45 (.ld 6 true (.t 6)), oP 46 (.call 34 [(.t 44), (.t 45)]), oS (.st 6 (.t 6) (.t 46))]) (.seq (.ops false [oP 48 (.bin .eql (.t 41) (cI 1)), oP 47 (.mv (.t 48))]) (.cond (.t 47)
  (.ops false [oP 49 (.mv (.t 5)), oP 50 (.ld 3 true (.t 7)), oP 51 (.call 35 [(.t 49), (.t 50)]), oS (.st 3 (.t 7) (.t 51))]) (.seq (.ops false [oP 53 (.bin .eql (.t 41) (cI 2)), oP 52 (.mv (.t 53))]) (.cond (.t 52) (.ops false [oP 54 (.fa 1 (.t 8)), oP 55 (.ld 1 false (.t 54)), oP 56 (.slc 1 (.t 55) (.some (cI 1)) Option.none), oP 57 (.fa 1 (.t 8)), oS (.st 1 (.t 57) (.t 56))])
  (.seq (.ops false [oP 59 (.bin .eql (.t 41) (cI 3)), oP 58 (.mv (.t 59))]) (.cond (.t 58) (.ops false [oP 60 (.fa 0 (.t 9)), oP 61 (.ld 1 false (.t 60)), oP 62 (.bsl 1 1 [(.v (.bool false))] [(0, (cB true))]), oP 63 (.app 1 1 (.t 61) (.t 62)), oP 64 (.fa 0 (.t 9)), oS (.st 1 (.t 64) (.t 63))]) (.seq (.ops false [oP 66 (.bin .eql (.t 41) (cI 4)), oP 65 (.mv (.t 66))]) (.cond (.t 65)
  (.ops false [oP 67 (.mv (.t 10)), oP 68 (.mv (.t 5)), oP 69 (.mv (.t 10)), oP 70 (.len (.t 69)), oB 71 (.call 24 [(.t 68), (.t 70)]), oP 72 (.iaS 4 (.t 67) (.t 71)), oP 73 (.fa 1 (.t 72)), oS (.st 1 (.t 73) (cI (-1)))]) (.seq (.ops false [oP 75 (.bin .eql (.t 41) (cI 5)), oP 74 (.mv (.t 75))]) (.cond (.t 74) (.ops false [oP 76 (.mv (.t 10)), oP 77 (.slc 4 (.t 76) (.some (cI 1)) Option.none),
  oP 10 (.mv (.t 77))]) (.seq (.ops false [oP 79 (.bin .eql (.t 41) (cI 6)), oP 78 (.mv (.t 79))]) (.cond (.t 78) (.ops false [oP 81 (.ld 6 true (.t 6)), oP 82 (.ld 3 true (.t 7)), oP 83 (.call 46 [(.t 81), (.t 82)]), oP 80 (.mv (.t 83)), oP 84 (.ext (.t 80) 0), oP 85 (.ext (.t 80) 1), oS (.st 2 (.t 8) (.t 84))]) .skip)))))))))))))))) c8_3)
def c8_5 : C := (.seq (.ops false [oP 16 (.mv (.t 0)), oP 17 (.call 18 [(.t 16)]), oP 5 (.mv (.t 17))]) (.seq (.ops false [oP 18 (.mv (.t 5)), oP 19 (.call 19 [(.t 18)]), oP 6 (.new [.mt, .mt, .mt, .mt, (.v (.int .i64 0)), (.v (.int .i64 0))]), oS (.st 6 (.t 6) (.t 19))]) (.seq (.ops false [oP 20 (.mv (.t 5)), oP 21 (.ld 6 true (.t 6)), oP 22 (.call 20 [(.t 20), (.t 21)]), oP 7 (.new [.mt, .mt, .mt]),
  oS (.st 3 (.t 7) (.t 22))]) (.seq (.ops true [oP 23 (.mv (.t 5)), oP 24 (.ld 6 true (.t 6)), oA 25 (.call 43 [(.t 23), (.t 24)]) [1, 0], oP 26 (.mv (.t 5)), oP 27 (.ld 6 true (.t 6)), oA 28 (.call 43 [(.t 26), (.t 27)]) [0, 1, 2, 4, 3], oP 8 (.new [.mt, .mt]), oP 9 (.new [.mt, .mt]), ⟨Option.none, Option.none, (.st 2 (.t 8) (.t 25)), 0, [3, 4, 7, 1, 0, 5, 2, 6], false⟩, ⟨Option.none, Option.none,
  (.st 2 (.t 9) (.t 28)), 0, [6, 4, 3, 2, 1, 0, 8, 5, 7], false⟩]) (.seq (.ops false [oP 10 (.mv (.c .mt))]) (.seq (.seq (.ops false [oP 11 (.mv (cI 0))]) (.block 0 (.loop c8_2))) (.weak c8_4)))))))
def c8 : C := (.seq (.ops false [oP 4 (.mv (cB false))]) (.seq (.seq (.ops false [oP 12 (.mv (.t 0)), oB 13 (.call 17 [(.t 12)]), oP 14 (.not (.t 13))]) (.cond (.t 14) (.seq (.ops false [oB 15 (.call 42 []), oP 4 (.mv (.t 15))]) .ret) .skip)) c8_5))
def c35_1 : C := (.seq (.ops false [oP 77 (.ld 3 true (.t 3)), oS (.st 3 (.t 4) (.t 77))]) .ret)
def c35 : C := (.seq (.ops false [oP 3 (.box 3 (.t 1)), oP 4 (.new [.mt, .mt, .mt])]) (.seq (.ops true [oP 5 (.bsl 1 0 [(.v (.int .i64 0))] []), oP 6 (.fa 0 (.t 3)), oA 7 (.ld 1 false (.t 6)) [1], oA 8 (.app 1 8 (.t 5) (.t 7)) [1, 2, 0], oP 9 (.bsl 1 0 [(.v (.int .i64 0))] []), oP 10 (.fa 1 (.t 3)), oA 11 (.ld 1 false (.t 10)) [5], oA 12 (.app 1 8 (.t 9) (.t 11)) [0, 2, 1, 5, 3, 6, 4],
  oP 13 (.bsl 1 0 [(.v (.bool false))] []), oP 14 (.fa 2 (.t 3)), oA 15 (.ld 1 false (.t 14)) [9], oA 16 (.app 1 1 (.t 13) (.t 15)) [4, 6, 3, 5, 1, 2, 0, 9, 7, 10, 8], oA 17 (.bld [.mt, .mt, .mt] [(0, (1, (.t 8))), (1, (1, (.t 12))), (2, (1, (.t 16)))]) [8, 10, 9, 4, 6, 5, 0, 2, 1, 11, 7, 3], ⟨Option.none, Option.none, (.st 3 (.t 3) (.t 17)), 0, [10, 9, 8, 7, 6, 5, 4, 3, 2, 1, 0, 11, 12], false⟩])
  (.seq (.seq (.ops false [oP 18 (.mv (.t 0)), oB 19 (.call 24 [(.t 18), (cI 5)])]) (.block 0 (.seq (.ops false [oP 39 (.bin .eql (.t 19) (cI 0)), oP 38 (.mv (.t 39))]) (.cond (.t 38) (.ops false [oP 40 (.fa 2 (.t 3)), oP 41 (.ld 1 false (.t 40)), oP 42 (.bsl 1 1 [(.v (.bool false))] [(0, (cB true))]), oP 43 (.app 1 1 (.t 41) (.t 42)), oP 44 (.fa 2 (.t 3)), oS (.st 1 (.t 44) (.t 43))])
  (.seq (.ops false [oP 46 (.bin .eql (.t 19) (cI 1)), oP 45 (.mv (.t 46))]) (.cond (.t 45) (.ops true [oP 47 (.fa 1 (.t 3)), oA 48 (.ld 1 false (.t 47)) [0], oP 49 (.mv (.t 0)), oP 50 (.fa 1 (.t 3)), oA 51 (.ld 1 false (.t 50)) [3], oA 52 (.len (.t 51)) [3, 4], oA 53 (.bin .add (.t 52) (cI 1)) [4, 3, 5], ⟨(.some 54), Option.none, (.call 24 [(.t 49), (.t 53)]), 54, [5, 3, 4, 6, 2], true⟩,
  oA 55 (.slc 1 (.t 48) Option.none (.some (.t 54))) [2, 6, 4, 3, 5, 0, 7, 1], oA 56 (.fa 1 (.t 3)) [8, 7, 6, 5, 4, 3, 2, 1, 0], ⟨Option.none, Option.none, (.st 1 (.t 56) (.t 55)), 0, [6, 5, 4, 3, 2, 1, 0, 7, 8, 9], false⟩]) (.seq (.ops false [oP 58 (.bin .eql (.t 19) (cI 2)), oP 57 (.mv (.t 58))]) (.cond (.t 57) (.seq (.ops false [oP 59 (.fa 1 (.t 3)), oP 60 (.ld 1 false (.t 59)),
  oP 61 (.len (.t 60)), oP 62 (.bin .gtr (.t 61) (cI 0))]) (.cond (.t 62) (.ops true [oP 63 (.fa 1 (.t 3)), oA 64 (.ld 1 false (.t 63)) [0], oP 65 (.mv (.t 0)), oP 66 (.fa 1 (.t 3)), oA 67 (.ld 1 false (.t 66)) [3], oA 68 (.len (.t 67)) [3, 4], ⟨(.some 69), Option.none, (.call 24 [(.t 65), (.t 68)]), 69, [4, 3, 5, 2], true⟩, oA 70 (.iaS 1 (.t 64) (.t 69)) [2, 5, 3, 4, 0, 6, 1],
  oA 71 (.ld 1 false (.t 70)) [1, 6, 0, 4, 3, 5, 2, 7], oP 72 (.mv (.t 0)), oP 73 (.bsl 1 4 [(.v (.int .i64 0))] [(0, (cI 1)), (1, (cI (-1))), (2, (cI 1001)), (3, (cI (-4611686018427387904)))]), ⟨(.some 74), Option.none, (.call 79 [(.t 72), (.t 73)]), 74, [2, 5, 3, 4, 6, 10, 9], true⟩, oA 75 (.bin .add (.t 71) (.t 74)) [9, 10, 7, 2, 5, 3, 4, 0, 6, 1, 11, 8], oA 76 (.iaS 1 (.t 64) (.t 69)) [12, 11,
  10, 9, 8, 7, 5, 4, 3, 2, 0, 6, 1], ⟨Option.none, Option.none, (.st 1 (.t 76) (.t 75)), 0, [10, 9, 8, 7, 6, 5, 4, 3, 2, 1, 0, 11, 12, 13], false⟩]) .skip)) (.seq (.ops false [oP 20 (.fa 0 (.t 3)), oP 21 (.ld 1 false (.t 20)), oP 22 (.len (.t 21)), oP 23 (.bin .gtr (.t 22) (cI 0))]) (.cond (.t 23) (.ops true [oP 24 (.fa 0 (.t 3)), oA 25 (.ld 1 false (.t 24)) [0], oP 26 (.mv (.t 0)),
  oP 27 (.fa 0 (.t 3)), oA 28 (.ld 1 false (.t 27)) [3], oA 29 (.len (.t 28)) [3, 4], ⟨(.some 30), Option.none, (.call 24 [(.t 26), (.t 29)]), 30, [4, 3, 5, 2], true⟩, oA 31 (.iaS 1 (.t 25) (.t 30)) [2, 5, 3, 4, 0, 6, 1], oA 32 (.ld 1 false (.t 31)) [1, 6, 0, 4, 3, 5, 2, 7], oP 33 (.mv (.t 0)), oP 34 (.bsl 1 6 [(.v (.int .i64 0))] [(0, (cI 1)), (1, (cI (-1))), (2, (cI 5)), (3, (cI 1001)), (4,
  (cI 4611686018427387904)), (5, (cI (-4611686018427387904)))]), ⟨(.some 35), Option.none, (.call 79 [(.t 33), (.t 34)]), 35, [2, 5, 3, 4, 6, 10, 9], true⟩, oA 36 (.bin .add (.t 32) (.t 35)) [9, 10, 7, 2, 5, 3, 4, 0, 6, 1, 11, 8], oA 37 (.iaS 1 (.t 25) (.t 30)) [12, 11, 10, 9, 8, 7, 5, 4, 3, 2, 0, 6, 1], ⟨Option.none, Option.none, (.st 1 (.t 37) (.t 36)), 0, [10, 9, 8, 7, 6, 5, 4, 3, 2, 1, 0, 11,
  12, 13], false⟩]) .skip)))))))))) c35_1)))
def r35 : List RV := [(.cell 4 3 true)]
theorem c35_ok : ∃ code, Try.f35.body = some code ∧ compC Try.prog Try.f35.ntmps code = some (C.strip c35) := ⟨_, rfl, by kernel_rfl⟩
theorem r35_ok : compRes Try.prog Try.f35.results.toList = some r35 := by kernel_rfl
theorem f35_ok : fnOk Try.prog 35 = true := by kernel_rfl
end Go.Proofs.Ytkjibmfggeibjaa

/- Slices of one's own become plain data, also in the cells of boxes. -/
namespace Go.Proofs.Ytkjibmfggeibjaa
open Go
set_option linter.unusedVariables false
set_option linter.unusedSimpArgs false

theorem hp_at (i : Nm) (e : En) (l : List (Nm × En)) (j : Nm) : hp ((i, e) :: l) j = if j = i then some e else hp l j := by rw [hp_cons]; rfl
theorem hp_no (j : Nm) : hp [] j = Option.none := rfl
theorem weak_restr {J : List Nm} {F : Fr} {H : Hp} (js : List Nm) (h2 : ∀ t, (F t).refsIn js = true) (h3 : ClosedH H js js) (h4 : ∀ i ∈ J, i ∈ js) : Weak J ⟨F, H⟩ ⟨F, H.restr js⟩ := by
  intro E hE Im p a w hR
  refine ⟨Im, p, hR.sz, fun t => (hR.fr t).restr (h2 t), hR.hp.restr h3, hR.en.restr js, ⟨hR.gr.im, hR.gr.blk, fun i e hi => ?_⟩, hR.df⟩
  dsimp only
  rw [restr_in (h4 i (hE i e hi))]
  exact hR.gr.ids i e hi
/-- What is owned where some slices have become plain data. -/
def frzP (ks : List Nm) (H : Hp) : Hp := fun i => (H.kills ks i).map (frzRows ks H)
theorem frzP_at (ks : List Nm) (H : Hp) (i : Nm) : frzP ks H i = (H.kills ks i).map (frzRows ks H) := rfl
theorem frzP_eq (ks : List Nm) (h : List (Nm × En)) : hp (frzH ks (hp h) (killsL h ks)) = frzP ks (hp h) := by
  funext i
  rw [frzP_at, ← killsL_eq]
  exact frzH_at ks (hp h) i _
theorem weak_fz {J : List Nm} (ks js : List Nm) {l l' : List (Nat × D)} {h : List (Nm × En)} {H' : Hp} (c1 : listB (fun q => okKd ks (hp h) q.2) l = true) (c2 : listB (fun q => listB (fun r => listB (okK ks (hp h)) r) q.2.rows) h = true) (c3 : frzF ks (hp h) l = l')
    (c4 : (frzP ks (hp h)).restr js = H') (c5 : refsF js l' = true) (c6 : ClosedH (frzP ks (hp h)) js js) (c7 : ∀ i ∈ J, i ∈ js) : Weak J ⟨fr l, hp h⟩ ⟨fr l', H'⟩ := by
  have w := freeze_weak J ks ⟨false, l, h⟩
  have e1 : (⟨false, l, h⟩ : SL).st = ⟨fr l, hp h⟩ := by simp only [SL.st, frB_fr]
  have e2 : (freeze ks ⟨false, l, h⟩).st = ⟨fr l', frzP ks (hp h)⟩ := by
    unfold freeze
    dsimp only
    rw [c1, c2]
    simp only [Bool.and_self, cond_true, SL.st, frB_fr, c3, frzP_eq]
  rw [e1, e2] at w
  refine w.trans ?_
  rw [← c4]
  exact weak_restr js (fun t => refsF_at c5 t) c6 c7
theorem listB_m {α β : Type} (p : β → Bool) (f : α → β) (h : ∀ x, p (f x) = true) : ∀ l : List α, listB p (l.map f) = true
  | [] => rfl
  | x :: l => by rw [List.map_cons, listB, h x, listB_m p f h l]; rfl
/-- A row of numbers, Booleans .. alone. -/
def rowV (r : List D) : Bool := r.all fun d => match d with | .v _ => true | .sl _ => true | _ => false
theorem rowV_ok {r : List D} (h : rowV r = true) (ks : List Nm) (H : Hp) : listB D.plain r = true ∧ listB (okK ks H) r = true ∧ r.map (lendK ks H) = r := by
  induction r with
  | nil => exact ⟨rfl, rfl, rfl⟩
  | cons d r ih =>
    unfold rowV at h
    rw [List.all_cons, Bool.and_eq_true] at h
    obtain ⟨a, b, c⟩ := ih h.2
    cases d with
    | v x => exact ⟨by rw [listB, a]; rfl, by rw [listB, b]; rfl, by rw [List.map_cons, c]; rfl⟩
    | sl x => exact ⟨by rw [listB, a]; rfl, by rw [listB, b]; rfl, by rw [List.map_cons, c]; rfl⟩
    | _ => cases h.1
theorem rows_pl {α : Type} (f : α → List D) (h : ∀ x, rowV (f x) = true) (l : List α) : listB (fun r => listB D.plain r) (l.map f) = true := listB_m _ _ (fun x => (rowV_ok (h x) [] Hp.none).1) l
theorem rows_ok {α : Type} (f : α → List D) (h : ∀ x, rowV (f x) = true) (ks : List Nm) (H : Hp) (l : List α) : listB (fun r => listB (okK ks H) r) (l.map f) = true := listB_m _ _ (fun x => (rowV_ok (h x) ks H).2.1) l
theorem frzRows_at (ks : List Nm) (H : Hp) (g sz : Nat) (rows : List (List D)) : frzRows ks H ⟨g, sz, rows⟩ = ⟨g, sz, rows.map fun r => r.map (lendK ks H)⟩ := rfl
set_option linter.defProp false
def vz := And.intro @hp_at (And.intro @hp_no (And.intro @frzP_at @frzRows_at))
end Go.Proofs.Ytkjibmfggeibjaa
/- Compiled code of some functions (printed by a program), each checked by the kernel. -/
namespace Go.Proofs.Ytkjibmfggeibjaa
open Go
set_option maxRecDepth 100000
def c34_1 : C := (.block 2 (.ops true [oP 51 (.fa 0 (.t 3)), oA 52 (.ld 1 false (.t 51)) [0], oP 53 (.fa 0 (.t 3)), oA 54 (.ld 1 false (.t 53)) [2], oA 55 (.len (.t 54)) [2, 3], ⟨(.some 56), Option.none, (.call 80 [(.c (.v (.string ({ data := #[121] })))), (.t 55)]), 56, [3, 2, 4], true⟩, oP 57 (.fa 0 (.t 3)), oA 58 (.ld 1 false (.t 57)) [6], oA 59 (.len (.t 58)) [6, 7], oA 60 (.bin .quo (.t 59) (cI 26)) [7, 6,
  8], ⟨(.some 61), Option.none, (.call 80 [(.c (.v (.string ({ data := #[] })))), (.t 60)]), 61, [4, 2, 3, 8, 6, 7, 5, 9], true⟩, oA 62 (.bin .add (.t 56) (.t 61)) [9, 7, 6, 8, 4, 2, 3, 10, 5], oA 63 (.bsl 1 1 [(.v (.string ({ data := #[] })))] [(0, (.t 62))]) [5, 10, 3, 2, 4, 8, 6, 7, 9, 11], oA 64 (.app 1 16 (.t 52) (.t 63)) [11, 9, 7, 6, 8, 4, 2, 3, 5, 0, 10, 12, 1], oA 65 (.fa 0 (.t 3)) [13, 12,
  11, 10, 9, 8, 7, 6, 5, 4, 3, 2, 1, 0], ⟨Option.none, Option.none, (.st 1 (.t 65) (.t 64)), 0, [12, 11, 10, 9, 8, 7, 6, 5, 4, 3, 2, 1, 0, 13, 14], false⟩]))
def c34_2 : C := (.seq (.seq (.ops true [oP 44 (.fa 0 (.t 3)), oA 45 (.ld 1 false (.t 44)) [0], oA 46 (.len (.t 45)) [0, 1], oP 47 (.mv (.t 0)), ⟨(.some 48), Option.none, (.call 24 [(.t 47), (cI 2)]), 48, [3], true⟩, oA 49 (.bin .add (cI 23) (.t 48)) [3, 4], oA 50 (.bin .leq (.t 46) (.t 49)) [4, 3, 1, 0, 5, 2]]) (.cond (.t 50) .skip (.exit 1))) c34_1)
def c34_3 : C := (.block 0 (.seq (.ops false [oP 67 (.bin .eql (.t 43) (cI 0)), oP 66 (.mv (.t 67))]) (.cond (.t 66) (.ops true [oP 68 (.fa 0 (.t 3)), oA 69 (.ld 1 false (.t 68)) [0], oP 70 (.mv (.t 0)), oP 71 (.fa 0 (.t 3)), oA 72 (.ld 1 false (.t 71)) [3], oA 73 (.len (.t 72)) [3, 4], ⟨(.some 74), Option.none, (.call 24 [(.t 70), (.t 73)]), 74, [4, 3, 5, 2], true⟩, oP 75 (.mv (.t 0)),
  oP 76 (.bsl 1 4 [(.v (.string ({ data := #[] })))] [(0, (.c (.v (.string ({ data := #[] }))))), (1, (.c (.v (.string ({ data := #[110, 97] }))))), (2, (.c (.v (.string ({ data := #[65] }))))), (3, (.c (.v (.string ({ data := #[120, 45, 57] })))))]), ⟨(.some 77), Option.none, (.call 98 [(.t 75), (.t 76)]), 77, [2, 5, 3, 4, 6, 8, 7], true⟩, oA 78 (.iaS 1 (.t 69) (.t 74)) [9, 8, 7, 5, 4, 3, 2, 0, 6,
  1], ⟨Option.none, Option.none, (.st 1 (.t 78) (.t 77)), 0, [8, 7, 6, 5, 4, 3, 2, 1, 0, 9, 10], false⟩]) (.seq (.ops false [oP 80 (.bin .eql (.t 43) (cI 1)), oP 79 (.mv (.t 80))]) (.cond (.t 79) (.ops false [oP 81 (.mv (.t 0)), oP 82 (.fa 2 (.t 6)), oP 83 (.ld 1 false (.t 82)), oP 84 (.fa 0 (.t 3)), oP 85 (.ld 1 false (.t 84)), oP 86 (.len (.t 85)), oP 87 (.bsl 1 4 [(.v (.int .i64 0))] [(0,
  (cI (-1))), (1, (.t 83)), (2, (.t 86)), (3, (cI 0))]), oB 88 (.call 79 [(.t 81), (.t 87)]), oP 89 (.fa 1 (.t 6)), oS (.st 1 (.t 89) (.t 88))]) (.seq (.ops false [oP 91 (.bin .eql (.t 43) (cI 2)), oP 90 (.mv (.t 91))]) (.cond (.t 90) (.ops false [oP 92 (.mv (.t 0)), oP 93 (.fa 3 (.t 6)), oP 94 (.ld 1 false (.t 93)), oP 95 (.bin .add (.t 94) (cI 1)), oP 96 (.bsl 1 4 [(.v (.int .i64 0))] [(0,
  (cI 0)), (1, (cI (-1))), (2, (.t 95)), (3, (cI 1000001))]), oB 97 (.call 79 [(.t 92), (.t 96)]), oP 98 (.fa 3 (.t 6)), oS (.st 1 (.t 98) (.t 97))]) (.seq (.ops false [oP 100 (.bin .eql (.t 43) (cI 3)), oP 99 (.mv (.t 100))]) (.cond (.t 99) (.ops false [oP 101 (.mv (.t 0)), oP 102 (.bsl 1 3 [(.v (.int .i64 0))] [(0, (cI (-1))), (1, (cI 1000)), (2, (cI 1001))]), oB 103 (.call 79 [(.t 101),
  (.t 102)]), oP 104 (.fa 4 (.t 6)), oS (.st 1 (.t 104) (.t 103))]) (.seq (.ops false [oP 106 (.bin .eql (.t 43) (cI 4)), oP 105 (.mv (.t 106))]) (.cond (.t 105) (.ops false [oP 107 (.mv (.t 0)), oP 108 (.bsl 1 3 [(.v (.int .i64 0))] [(0, (cI (-1))), (1, (cI 100000)), (2, (cI 100001))]), oB 109 (.call 79 [(.t 107), (.t 108)]), oP 110 (.fa 5 (.t 6)), oS (.st 1 (.t 110) (.t 109))])
  (.seq (.ops false [oP 112 (.bin .eql (.t 43) (cI 5)), oP 111 (.mv (.t 112))]) (.cond (.t 111) (.seq (.ops false [oP 113 (.fa 6 (.t 6)), oP 114 (.ld 1 false (.t 113)), oP 115 (.len (.t 114)), oP 116 (.bin .gtr (.t 115) (cI 0))]) (.cond (.t 116) (.ops true [oP 117 (.fa 6 (.t 6)), oA 118 (.ld 1 false (.t 117)) [0], oP 119 (.mv (.t 0)), oP 120 (.fa 6 (.t 6)), oA 121 (.ld 1 false (.t 120)) [3],
  oA 122 (.len (.t 121)) [3, 4], ⟨(.some 123), Option.none, (.call 24 [(.t 119), (.t 122)]), 123, [4, 3, 5, 2], true⟩, oP 124 (.mv (.t 0)), oP 125 (.fa 3 (.t 6)), oA 126 (.ld 1 false (.t 125)) [8], oA 127 (.bsl 1 4 [(.v (.int .i64 0))] [(0, (cI (-1))), (1, (cI 0)), (2, (cI 1)), (3, (.t 126))]) [8, 9], ⟨(.some 128), Option.none, (.call 79 [(.t 124), (.t 127)]), 128, [2, 5, 3, 4, 9, 8, 6, 10, 7],
  true⟩, oA 129 (.iaS 3 (.t 118) (.t 123)) [11, 10, 9, 8, 7, 5, 4, 3, 2, 0, 6, 1], oA 130 (.fa 0 (.t 129)) [11, 10, 9, 8, 7, 6, 5, 4, 3, 2, 1, 0, 12], ⟨Option.none, Option.none, (.st 1 (.t 130) (.t 128)), 0, [12, 10, 9, 8, 7, 6, 5, 4, 3, 2, 1, 0, 11, 13], false⟩]) .skip)) (.seq (.ops false [oP 132 (.bin .eql (.t 43) (cI 6)), oP 131 (.mv (.t 132))]) (.cond (.t 131) (.ops true [oP 133 (.fa 6 (.t 6)),
  oA 134 (.ld 1 false (.t 133)) [0], oP 135 (.mv (.t 0)), oP 136 (.fa 6 (.t 6)), oA 137 (.ld 1 false (.t 136)) [3], oA 138 (.len (.t 137)) [3, 4], oA 139 (.bin .add (.t 138) (cI 1)) [4, 3, 5], oA 140 (.mnx false (cI 3) (.t 139)) [5, 3, 4, 6], ⟨(.some 141), Option.none, (.call 24 [(.t 135), (.t 140)]), 141, [6, 4, 3, 5, 7, 2], true⟩, oA 142 (.slc 3 (.t 134) Option.none (.some (.t 141))) [2, 7, 5, 3,
  4, 6, 0, 8, 1], oA 143 (.fa 6 (.t 6)) [9, 8, 7, 6, 5, 4, 3, 2, 1, 0], ⟨Option.none, Option.none, (.st 1 (.t 143) (.t 142)), 0, [7, 6, 5, 4, 3, 2, 1, 0, 8, 9, 10], false⟩]) (.seq (.ops false [oP 145 (.bin .eql (.t 43) (cI 7)), oP 144 (.mv (.t 145))]) (.cond (.t 144) (.seq (.ops false [oP 146 (.fa 6 (.t 6)), oP 147 (.ld 1 false (.t 146)), oP 148 (.len (.t 147)), oP 149 (.bin .gtr (.t 148) (cI 0))])
  (.cond (.t 149) (.ops true [oP 150 (.fa 6 (.t 6)), oA 151 (.ld 1 false (.t 150)) [0], oP 152 (.mv (.t 0)), oP 153 (.fa 6 (.t 6)), oA 154 (.ld 1 false (.t 153)) [3], oA 155 (.len (.t 154)) [3, 4], ⟨(.some 156), Option.none, (.call 24 [(.t 152), (.t 155)]), 156, [4, 3, 5, 2], true⟩, oP 157 (.mv (.t 0)), oP 158 (.bsl 1 4 [(.v (.int .i64 0))] [(0, (cI (-501))), (1, (cI (-500))), (2, (cI 5000)), (3,
  (cI 5001))]), ⟨(.some 159), Option.none, (.call 79 [(.t 157), (.t 158)]), 159, [2, 5, 3, 4, 6, 8, 7], true⟩, oA 160 (.iaS 3 (.t 151) (.t 156)) [9, 8, 7, 5, 4, 3, 2, 0, 6, 1], oA 161 (.fa 1 (.t 160)) [9, 8, 7, 6, 5, 4, 3, 2, 1, 0, 10], ⟨Option.none, Option.none, (.st 1 (.t 161) (.t 159)), 0, [10, 8, 7, 6, 5, 4, 3, 2, 1, 0, 9, 11], false⟩]) .skip)) (.seq (.ops false [oP 163 (.bin .eql (.t 43)
  (cI 8)), oP 162 (.mv (.t 163))]) (.cond (.t 162) (.seq (.ops false [oP 164 (.fa 2 (.t 3)), oP 165 (.ld 1 false (.t 164)), oP 166 (.len (.t 165)), oP 167 (.bin .gtr (.t 166) (cI 0))]) (.cond (.t 167) (.ops true [oP 168 (.fa 2 (.t 3)), oA 169 (.ld 1 false (.t 168)) [0], oP 170 (.mv (.t 0)), oP 171 (.fa 2 (.t 3)), oA 172 (.ld 1 false (.t 171)) [3], oA 173 (.len (.t 172)) [3, 4], ⟨(.some 174),
  Option.none, (.call 24 [(.t 170), (.t 173)]), 174, [4, 3, 5, 2], true⟩, oP 175 (.mv (.t 0)), oP 176 (.bsl 1 4 [(.v (.string ({ data := #[] })))] [(0, (.c (.v (.string ({ data := #[113, 97] }))))), (1, (.c (.v (.string ({ data := #[113, 98] }))))), (2, (.c (.v (.string ({ data := #[] }))))), (3, (.c (.v (.string ({ data := #[122] })))))]), ⟨(.some 177), Option.none, (.call 98 [(.t 175), (.t 176)]),
  177, [2, 5, 3, 4, 6, 8, 7], true⟩, oP 178 (.mv (.t 0)), oP 179 (.fa 0 (.t 3)), oA 180 (.ld 1 false (.t 179)) [11], oA 181 (.len (.t 180)) [11, 12], oA 182 (.bsl 1 4 [(.v (.int .i64 0))] [(0, (cI (-1))), (1, (cI 0)), (2, (cI 1)), (3, (.t 181))]) [12, 11, 13], ⟨(.some 183), Option.none, (.call 79 [(.t 178), (.t 182)]), 183, [7, 8, 6, 4, 3, 5, 2, 13, 11, 12, 9, 14, 10], true⟩, oP 184 (.mv (.t 0)),
  oP 185 (.bsl 1 4 [(.v (.int .i64 0))] [(0, (cI 0)), (1, (cI (-1))), (2, (cI 100000000)), (3, (cI 100000001))]), ⟨(.some 186), Option.none, (.call 79 [(.t 184), (.t 185)]), 186, [10, 14, 9, 12, 11, 13, 2, 5, 3, 4, 6, 8, 7, 15, 17, 16], true⟩, oA 187 (.bld [(.v (.string ({ data := #[] }))), (.v (.int .i64 0)), (.v (.int .i64 0))] [(0, (1, (.t 177))), (1, (1, (.t 183))), (2, (1, (.t 186)))]) [16, 17,
  10, 14, 12, 11, 13, 7, 8, 6, 4, 3, 5, 2, 18, 15, 9], oA 188 (.iaS 3 (.t 169) (.t 174)) [19, 18, 17, 16, 15, 14, 13, 12, 11, 10, 9, 8, 7, 5, 4, 3, 2, 0, 6, 1], ⟨Option.none, Option.none, (.st 3 (.t 188) (.t 187)), 0, [17, 16, 15, 14, 13, 12, 11, 10, 9, 8, 7, 6, 5, 4, 3, 2, 1, 0, 18, 19, 20], false⟩]) .skip)) (.seq (.ops false [oP 190 (.bin .eql (.t 43) (cI 9)), oP 189 (.mv (.t 190))])
  (.cond (.t 189) (.ops true [oP 191 (.fa 3 (.t 3)), oA 192 (.ld 1 false (.t 191)) [0], oP 193 (.mv (.t 0)), oP 194 (.bsl 1 3 [(.v (.string ({ data := #[] })))] [(0, (.c (.v (.string ({ data := #[115, 97] }))))), (1, (.c (.v (.string ({ data := #[115, 122] }))))), (2, (.c (.v (.string ({ data := #[] })))))]), ⟨(.some 195), Option.none, (.call 98 [(.t 193), (.t 194)]), 195, [3, 2], true⟩,
  oP 196 (.mv (.t 0)), oP 197 (.bsl 1 5 [(.v (.int .i64 0))] [(0, (cI (-1))), (1, (cI 0)), (2, (cI 0)), (3, (cI 1)), (4, (cI 99))]), ⟨(.some 198), Option.none, (.call 79 [(.t 196), (.t 197)]), 198, [2, 3, 4, 6, 5], true⟩, oP 199 (.mv (.t 0)), oP 200 (.bsl 1 2 [(.v (.int .i64 0))] [(0, (cI 0)), (1, (cI (-1)))]), ⟨(.some 201), Option.none, (.call 79 [(.t 199), (.t 200)]), 201, [5, 6, 4, 3, 2, 7, 9,
  8], true⟩, oP 202 (.mv (.t 0)), oP 203 (.bsl 1 2 [(.v (.int .i64 0))] [(0, (cI 0)), (1, (cI 100001))]), ⟨(.some 204), Option.none, (.call 79 [(.t 202), (.t 203)]), 204, [8, 9, 7, 2, 3, 4, 6, 5, 10, 12, 11], true⟩, oP 205 (.mv (.t 0)), oP 206 (.bsl 1 2 [(.v (.int .i64 0))] [(0, (cI 0)), (1, (cI (-1)))]), ⟨(.some 207), Option.none, (.call 79 [(.t 205), (.t 206)]), 207, [11, 12, 10, 5, 6, 4, 3, 2, 7,
  9, 8, 13, 15, 14], true⟩, oA 208 (.bld [(.v (.string ({ data := #[] }))), (.v (.int .i64 0)), (.v (.int .i64 0)), (.v (.int .i64 0)), (.v (.int .i64 0))] [(0, (1, (.t 195))), (1, (1, (.t 198))), (2, (1, (.t 201))), (3, (1, (.t 204))), (4, (1, (.t 207)))]) [14, 15, 11, 12, 8, 9, 5, 6, 2, 3, 16, 13, 10, 7, 4], oA 209 (.bsl 5 1 [(.v (.string ({ data := #[] }))), (.v (.int .i64 0)),
  (.v (.int .i64 0)), (.v (.int .i64 0)), (.v (.int .i64 0))] [(0, (.t 208))]) [4, 7, 10, 13, 16, 3, 2, 6, 5, 9, 8, 12, 11, 15, 14, 17], oA 210 (.app 5 48 (.t 192) (.t 209)) [17, 14, 15, 11, 12, 8, 9, 5, 6, 2, 3, 13, 10, 7, 4, 0, 16, 18, 1], oA 211 (.fa 3 (.t 3)) [19, 18, 17, 16, 15, 14, 13, 12, 11, 10, 9, 8, 7, 6, 5, 4, 3, 2, 1, 0], ⟨Option.none, Option.none, (.st 1 (.t 211) (.t 210)), 0, [18, 17,
  16, 15, 14, 13, 12, 11, 10, 9, 8, 7, 6, 5, 4, 3, 2, 1, 0, 19, 20], false⟩]) (.seq (.ops false [oP 213 (.bin .eql (.t 43) (cI 10)), oP 212 (.mv (.t 213))]) (.cond (.t 212) (.ops false [oP 214 (.mv (.t 0)), oP 215 (.bsl 1 3 [(.v (.int .i64 0))] [(0, (cI 0)), (1, (cI (-100001))), (2, (cI 100000001))]), oB 216 (.call 79 [(.t 214), (.t 215)]), oP 217 (.mv (.t 0)), oP 218 (.bsl 1 3 [(.v (.int .i64 0))]
  [(0, (cI 0)), (1, (cI (-1))), (2, (cI 101))]), oB 219 (.call 79 [(.t 217), (.t 218)]), oP 220 (.fa 4 (.t 3)), oS (.st 1 (.t 220) (.t 216)), oP 221 (.fa 5 (.t 3)), oS (.st 1 (.t 221) (.t 219))]) (.block 1 (.loop c34_2)))))))))))))))))))))))))
def c34_4 : C := (.seq (.ops false [oP 222 (.fa 1 (.t 3)), oP 223 (.ld 1 false (.t 222)), oP 224 (.mv (.t 5)), oP 225 (.ld 7 true (.t 6)), oP 226 (.iaS 7 (.t 223) (.t 224)), oS (.st 7 (.t 226) (.t 225))]) (.seq (.ops false [oP 227 (.ld 6 true (.t 3)), oS (.st 6 (.t 4) (.t 227))]) .ret))
def c34 : C := (.seq (.ops false [oP 3 (.box 6 (.t 1)), oP 4 (.new [.mt, .mt, .mt, .mt, (.v (.int .i64 0)), (.v (.int .i64 0))])]) (.seq (.ops false [oP 7 (.bsl 1 0 [(.v (.string ({ data := #[] })))] []), oP 8 (.fa 0 (.t 3)), oP 9 (.ld 1 false (.t 8)), oP 10 (.app 1 16 (.t 7) (.t 9)), oP 11 (.fa 0 (.t 3)), oS (.st 1 (.t 11) (.t 10))]) (.seq (.ops false [oP 12 (.bsl 7 0 [(.v (.string ({ data := #[] }))),
  (.v (.int .i64 0)), (.v (.int .i64 0)), (.v (.int .i64 0)), (.v (.int .i64 0)), (.v (.int .i64 0)), .mt] []), oP 13 (.fa 1 (.t 3)), oP 14 (.ld 1 false (.t 13)), oP 15 (.app 7 80 (.t 12) (.t 14)), oP 16 (.fa 1 (.t 3)), oS (.st 1 (.t 16) (.t 15))]) (.seq (.ops false [oP 17 (.bsl 3 0 [(.v (.string ({ data := #[] }))), (.v (.int .i64 0)), (.v (.int .i64 0))] []), oP 18 (.fa 2 (.t 3)),
  oP 19 (.ld 1 false (.t 18)), oP 20 (.app 3 32 (.t 17) (.t 19)), oP 21 (.fa 2 (.t 3)), oS (.st 1 (.t 21) (.t 20))]) (.seq (.ops false [oP 22 (.bsl 5 0 [(.v (.string ({ data := #[] }))), (.v (.int .i64 0)), (.v (.int .i64 0)), (.v (.int .i64 0)), (.v (.int .i64 0))] []), oP 23 (.fa 3 (.t 3)), oP 24 (.ld 1 false (.t 23)), oP 25 (.app 5 48 (.t 22) (.t 24)), oP 26 (.fa 3 (.t 3)), oS (.st 1 (.t 26)
  (.t 25))]) (.seq (.ops false [oP 27 (.mv (.t 0)), oP 28 (.fa 1 (.t 3)), oP 29 (.ld 1 false (.t 28)), oP 30 (.len (.t 29)), oB 31 (.call 24 [(.t 27), (.t 30)]), oP 5 (.mv (.t 31))]) (.seq (.ops false [oP 32 (.fa 1 (.t 3)), oP 33 (.ld 1 false (.t 32)), oP 34 (.mv (.t 5)), oP 35 (.iaS 7 (.t 33) (.t 34)), oP 36 (.ld 7 true (.t 35)), oP 6 (.new [(.v (.string ({ data := #[] }))), (.v (.int .i64 0)),
  (.v (.int .i64 0)), (.v (.int .i64 0)), (.v (.int .i64 0)), (.v (.int .i64 0)), .mt]), oS (.st 7 (.t 6) (.t 36))]) (.seq (.ops false [oP 37 (.bsl 3 0 [(.v (.int .i64 0)), (.v (.int .i64 0)), (.v (.int .i64 0))] []), oP 38 (.fa 6 (.t 6)), oP 39 (.ld 1 false (.t 38)), oP 40 (.app 3 24 (.t 37) (.t 39)), oP 41 (.fa 6 (.t 6)), oS (.st 1 (.t 41) (.t 40))]) (.seq (.seq (.ops false [oP 42 (.mv (.t 0)),
  oB 43 (.call 24 [(.t 42), (cI 12)])]) (.weak c34_3)) (.weak c34_4))))))))))
def r34 : List RV := [(.cell 4 6 true)]
theorem c34_ok : ∃ code, Try.f34.body = some code ∧ compC Try.prog Try.f34.ntmps code = some (C.strip c34) := ⟨_, rfl, by kernel_rfl⟩
theorem r34_ok : compRes Try.prog Try.f34.results.toList = some r34 := by kernel_rfl
theorem f34_ok : fnOk Try.prog 34 = true := by kernel_rfl
end Go.Proofs.Ytkjibmfggeibjaa
