/- Compiled code of some functions (printed by a program), each checked by the kernel. -/
import Derived.Test.YtfkhjkkhdfcnjaaV3
import Derived.Test.YtfkhjkkhdfcnjaaProg
namespace Go.Proofs.Ytfkhjkkhdfcnjaa
open Go
set_option maxRecDepth 100000
def c7_1 : C := (.ops false [oP 165 (.mv (.t 14)), oP 166 (.mv (.t 17)), oP 167 (.mv (.t 20)), oP 168 (.iaS 1 (.t 166) (.t 167)), oP 169 (.ld 1 false (.t 168)), oP 170 (.iaS 1 (.t 165) (.t 169)), oS (.st 1 (.t 170) (cB true))])
def c7_2 : C := (.ops false [oP 140 (.mv (.t 20)), oP 141 (.bin .add (.t 140) (cI 1)), oP 20 (.mv (.t 141))])
def c7_3 : C := (.seq (.block 1 (.seq (.seq (.ops false [oP 142 (.mv (.t 17)), oP 143 (.mv (.t 20)), oP 144 (.iaS 1 (.t 142) (.t 143)), oP 145 (.ld 1 false (.t 144)), oP 146 (.bin .lss (.t 145) (cI 0)), oP 147 (.mv (.t 146)), oG 148 147 false (.mv (.t 17)), oG 149 147 false (.mv (.t 20)), oG 150 147 false (.iaS 1 (.t 148) (.t 149)), oG 151 147 false (.ld 1 false (.t 150)), oG 152 147 false (.mv (.t 14)),
  oG 153 147 false (.len (.t 152)), oG 154 147 false (.bin .geq (.t 151) (.t 153)), oP 155 (.pick (.t 147) (cB true) (.t 154)), oP 156 (.mv (.t 155)), oG 157 156 false (.mv (.t 14)), oG 158 156 false (.mv (.t 17)), oG 159 156 false (.mv (.t 20)), oG 160 156 false (.iaS 1 (.t 158) (.t 159)), oG 161 156 false (.ld 1 false (.t 160)), oG 162 156 false (.iaS 1 (.t 157) (.t 161)),
  oG 163 156 false (.ld 1 false (.t 162)), oP 164 (.pick (.t 156) (cB true) (.t 163))]) (.cond (.t 164) (.seq (.ops false [oP 4 (.mv (cB false))]) .ret) .skip)) c7_1)) c7_2)
def c7_4 : C := (.seq (.seq (.ops false [oP 136 (.mv (.t 20)), oP 137 (.mv (.t 17)), oP 138 (.len (.t 137)), oP 139 (.bin .lss (.t 136) (.t 138))]) (.cond (.t 139) .skip (.exit 0))) c7_3)
def c7_5 : C := (.ops false [oP 201 (.mv (.t 14)), oP 202 (.mv (.t 18)), oP 203 (.mv (.t 21)), oP 204 (.iaS 1 (.t 202) (.t 203)), oP 205 (.ld 1 false (.t 204)), oP 206 (.iaS 1 (.t 201) (.t 205)), oS (.st 1 (.t 206) (cB false))])
def c7_6 : C := (.ops false [oP 175 (.mv (.t 21)), oP 176 (.bin .add (.t 175) (cI 1)), oP 21 (.mv (.t 176))])
def c7_7 : C := (.seq (.block 3 (.seq (.seq (.ops false [oP 177 (.mv (.t 18)), oP 178 (.mv (.t 21)), oP 179 (.iaS 1 (.t 177) (.t 178)), oP 180 (.ld 1 false (.t 179)), oP 181 (.bin .lss (.t 180) (cI 0)), oP 182 (.mv (.t 181)), oG 183 182 false (.mv (.t 18)), oG 184 182 false (.mv (.t 21)), oG 185 182 false (.iaS 1 (.t 183) (.t 184)), oG 186 182 false (.ld 1 false (.t 185)), oG 187 182 false (.mv (.t 14)),
  oG 188 182 false (.len (.t 187)), oG 189 182 false (.bin .geq (.t 186) (.t 188)), oP 190 (.pick (.t 182) (cB true) (.t 189)), oP 191 (.mv (.t 190)), oG 192 191 false (.mv (.t 14)), oG 193 191 false (.mv (.t 18)), oG 194 191 false (.mv (.t 21)), oG 195 191 false (.iaS 1 (.t 193) (.t 194)), oG 196 191 false (.ld 1 false (.t 195)), oG 197 191 false (.iaS 1 (.t 192) (.t 196)),
  oG 198 191 false (.ld 1 false (.t 197)), oG 199 191 false (.not (.t 198)), oP 200 (.pick (.t 191) (cB true) (.t 199))]) (.cond (.t 200) (.seq (.ops false [oP 4 (.mv (cB false))]) .ret) .skip)) c7_5)) c7_6)
def c7_8 : C := (.seq (.seq (.ops false [oP 171 (.mv (.t 21)), oP 172 (.mv (.t 18)), oP 173 (.len (.t 172)), oP 174 (.bin .lss (.t 171) (.t 173))]) (.cond (.t 174) .skip (.exit 2))) c7_7)
def c7_9 : C := (.seq (.ops false [oP 207 (.mv (.t 14)), oP 208 (.mv (.t 15)), oB 209 (.call 49 [(.t 207), (.t 208)]), oP 210 (.mv (.t 209)), ⟨(.some 211), (.some (210, true)), (.call 43 []), 211, [], true⟩, oP 212 (.pick (.t 210) (.t 211) (cB false)), oP 4 (.mv (.t 212))]) .ret)
def c7_10 : C := (.seq (.seq (.ops false [oP 21 (.mv (cI 0))]) (.block 2 (.loop c7_8))) c7_9)
def c7_11 : C := (.seq (.seq (.ops false [oP 20 (.mv (cI 0))]) (.block 0 (.loop c7_4))) c7_10)
def c7_12 : C := (.seq (.ops true [oP 109 (.mv (.t 5)), oP 110 (.ld 6 true (.t 6)), oA 111 (.call 47 [(.t 109), (.t 110)]) [1, 0], oA 112 (.call 46 [(.t 111)]) [0, 1, 2], oP 113 (.ld 2 true (.t 8)), oA 114 (.call 46 [(.t 113)]) [2, 1, 0, 3, 4], oA 14 (.mv (.t 112)) [4, 2, 1, 0, 5, 3], oA 15 (.mv (.t 114)) [4, 3, 2, 1, 0, 6, 5]]) (.seq (.ops true [oP 115 (.mv (.t 14)), oP 116 (.fa 1 (.t 6)),
  oA 117 (.ld 1 false (.t 116)) [1], oA 118 (.len (.t 117)) [1, 2], oA 119 (.slc 1 (.t 115) Option.none (.some (.t 118))) [2, 1, 3, 0], oP 120 (.mv (.t 14)), oP 121 (.fa 1 (.t 6)), oA 122 (.ld 1 false (.t 121)) [6], oA 123 (.len (.t 122)) [6, 7], oA 124 (.slc 1 (.t 120) (.some (.t 123)) Option.none) [7, 6, 8, 5], oA 125 (.bld [.mt, .mt] [(0, (1, (.t 119))), (1, (1, (.t 124)))]) [5, 8, 6, 7, 0, 3, 1,
  2, 9, 4], oP 16 (.new [.mt, .mt]), ⟨Option.none, Option.none, (.st 2 (.t 16) (.t 125)), 0, [9, 8, 7, 6, 5, 4, 3, 2, 1, 0, 10, 11], false⟩]) (.seq (.opsF [(false, oP 127 (.ld 6 true (.t 6))), (false, oP 128 (.ld 2 true (.t 16))), (false, oP 129 (.ld 2 true (.t 8))), (true, oP 130 (.call 48 [(.t 127), (.t 128), (.t 129)])), (false, oP 126 (.mv (.t 130))), (false, oP 131 (.ext (.t 126) 0)), (false,
  oP 132 (.ext (.t 126) 1)), (false, oP 133 (.ext (.t 126) 2)), (false, oP 17 (.mv (.t 131))), (false, oP 18 (.mv (.t 132))), (false, oP 19 (.mv (.t 133)))]) (.seq (.seq (.ops false [oP 134 (.mv (.t 19)), oP 135 (.bin .neq (.t 134) (cI 0))]) (.cond (.t 135) (.seq (.ops false [oP 4 (.mv (cB false))]) .ret) .skip)) (.weak c7_11)))))
def c7_13 : C := (.seq (.ops false [oP 74 (.mv (.t 1)), oP 75 (.fa 1 (.t 6)), oP 76 (.ld 1 false (.t 75)), oP 77 (.len (.t 76)), oB 78 (.call 20 [(.t 74), (.t 77)]), oP 12 (.mv (.t 78))]) (.seq (.ops true [oP 79 (.bsl 1 0 [(.v (.bool false))] []), oP 80 (.fa 0 (.t 8)), oA 81 (.ld 1 false (.t 80)) [1], oA 82 (.app 1 1 (.t 79) (.t 81)) [1, 2, 0], oP 83 (.fa 1 (.t 8)), oA 84 (.ld 1 false (.t 83)) [4],
  oA 85 (.bld [.mt, .mt] [(0, (1, (.t 82))), (1, (1, (.t 84)))]) [4, 0, 2, 1, 5, 3], oP 13 (.new [.mt, .mt]), ⟨Option.none, Option.none, (.st 2 (.t 13) (.t 85)), 0, [5, 4, 2, 1, 0, 3, 6, 7], false⟩]) (.seq (.ops false [oP 86 (.fa 0 (.t 13)), oP 87 (.ld 1 false (.t 86)), oP 88 (.mv (.t 12)), oP 89 (.iaS 1 (.t 87) (.t 88)), oS (.st 1 (.t 89) (cB false))]) (.seq (.ops false [oP 91 (.ld 6 true (.t 6)),
  oP 92 (.ld 2 true (.t 13)), oP 93 (.ld 3 true (.t 7)), oB 94 (.call 45 [(.t 91), (.t 92), (.t 93)]), oP 90 (.mv (.t 94)), oP 95 (.ext (.t 90) 0), oP 96 (.ext (.t 90) 1), oP 10 (.mv (.t 95)), oP 11 (.mv (.t 96))]) (.seq (.seq (.ops false [oP 97 (.mv (.t 11)), oP 98 (.bin .neq (.t 97) (cI 0)), oP 99 (.mv (.t 98)), oG 100 99 false (.mv (.t 10)), oG 101 99 false (.fa 0 (.t 7)),
  oG 102 99 false (.ld 1 false (.t 101)), oG 103 99 false (.mv (.t 12)), oG 104 99 false (.iaS 1 (.t 102) (.t 103)), oG 105 99 false (.ld 1 false (.t 104)), oG 106 99 false (.bin .eql (.t 105) (cI 0)), oG 107 99 false (.beq true (.t 100) (.t 106)), oP 108 (.pick (.t 99) (cB true) (.t 107))]) (.cond (.t 108) (.seq (.ops false [oP 4 (.mv (cB false))]) .ret) .skip)) c7_12)))))
def c7_14 : C := (.seq (.ops false [oP 26 (.mv (.t 0)), oP 27 (.call 17 [(.t 26)]), oP 5 (.mv (.t 27))]) (.seq (.ops false [oP 28 (.mv (.t 5)), oP 29 (.call 18 [(.t 28)]), oP 6 (.new [.mt, .mt, .mt, .mt, (.v (.int .i64 0)), (.v (.int .i64 0))]), oS (.st 6 (.t 6) (.t 29))]) (.seq (.ops false [oP 30 (.mv (.t 5)), oP 31 (.ld 6 true (.t 6)), oP 32 (.call 25 [(.t 30), (.t 31)]), oP 7 (.new [.mt, .mt, .mt]),
  oS (.st 3 (.t 7) (.t 32))]) (.seq (.ops false [oP 34 (.ld 6 true (.t 6)), oP 35 (.ld 3 true (.t 7)), oP 36 (.call 44 [(.t 34), (.t 35)]), oP 33 (.mv (.t 36)), oP 37 (.ext (.t 33) 0), oP 38 (.ext (.t 33) 1), oP 8 (.new [.mt, .mt]), oS (.st 2 (.t 8) (.t 37)), oP 9 (.mv (.t 38))]) (.seq (.ops false [oP 40 (.ld 6 true (.t 6)), oP 41 (.ld 2 true (.t 8)), oP 42 (.ld 3 true (.t 7)),
  oB 43 (.call 45 [(.t 40), (.t 41), (.t 42)]), oP 39 (.mv (.t 43)), oP 44 (.ext (.t 39) 0), oP 45 (.ext (.t 39) 1), oP 10 (.mv (.t 44)), oP 11 (.mv (.t 45))]) (.seq (.seq (.ops false [oP 46 (.mv (.t 9)), oP 47 (.bin .neq (.t 46) (cI 0)), oP 48 (.mv (.t 47)), oG 49 48 false (.mv (.t 11)), oG 50 48 false (.bin .neq (.t 49) (cI 0)), oP 51 (.pick (.t 48) (cB true) (.t 50)), oP 52 (.mv (.t 51)),
  oG 53 52 false (.mv (.t 10)), oG 54 52 false (.not (.t 53)), oP 55 (.pick (.t 52) (cB true) (.t 54)), oP 56 (.mv (.t 55)), oG 57 56 false (.fa 0 (.t 8)), oG 58 56 false (.ld 1 false (.t 57)), oG 59 56 false (.len (.t 58)), oG 60 56 false (.fa 1 (.t 6)), oG 61 56 false (.ld 1 false (.t 60)), oG 62 56 false (.len (.t 61)), oG 63 56 false (.bin .neq (.t 59) (.t 62)), oP 64 (.pick (.t 56) (cB true)
  (.t 63)), oP 65 (.mv (.t 64)), oG 66 65 false (.fa 1 (.t 8)), oG 67 65 false (.ld 1 false (.t 66)), oG 68 65 false (.len (.t 67)), oG 69 65 false (.fa 2 (.t 6)), oG 70 65 false (.ld 1 false (.t 69)), oG 71 65 false (.len (.t 70)), oG 72 65 false (.bin .neq (.t 68) (.t 71)), oP 73 (.pick (.t 65) (cB true) (.t 72))]) (.cond (.t 73) (.seq (.ops false [oP 4 (.mv (cB false))]) .ret) .skip)) c7_13))))))
def c7 : C := (.seq (.ops false [oP 4 (.mv (cB false))]) (.seq (.seq (.ops false [oP 22 (.mv (.t 0)), oB 23 (.call 15 [(.t 22)]), oP 24 (.not (.t 23))]) (.cond (.t 24) (.seq (.ops false [oB 25 (.call 43 []), oP 4 (.mv (.t 25))]) .ret) .skip)) c7_14))
def r7 : List RV := [(.tmp 4)]
theorem c7_ok : ∃ code, Try.f7.body = some code ∧ compC Try.prog Try.f7.ntmps code = some (C.strip c7) := ⟨_, rfl, by kernel_rfl⟩
theorem r7_ok : compRes Try.prog Try.f7.results.toList = some r7 := by kernel_rfl
theorem f7_ok : fnOk Try.prog 7 = true := by kernel_rfl
def c15 : C := (.seq (.ops false [oP 2 (.mv (cB false))]) (.seq (.ops false [oP 3 (.mv (.t 0)), oP 4 (.len (.t 3)), oP 5 (.bin .leq (.t 4) (cI 400)), oP 2 (.mv (.t 5))]) .ret))
def r15 : List RV := [(.tmp 2)]
theorem c15_ok : ∃ code, Try.f15.body = some code ∧ compC Try.prog Try.f15.ntmps code = some (C.strip c15) := ⟨_, rfl, by kernel_rfl⟩
theorem r15_ok : compRes Try.prog Try.f15.results.toList = some r15 := by kernel_rfl
theorem f15_ok : fnOk Try.prog 15 = true := by kernel_rfl
def c20 : C := (.seq (.ops false [oP 4 (.mv (cI 0))]) (.seq (.ops false [oP 5 (.mv (.t 0)), oP 6 (.mv (.t 1)), oB 7 (.call 77 [(.t 5), (.t 6)]), oP 4 (.mv (.t 7))]) .ret))
def r20 : List RV := [(.tmp 4)]
theorem c20_ok : ∃ code, Try.f20.body = some code ∧ compC Try.prog Try.f20.ntmps code = some (C.strip c20) := ⟨_, rfl, by kernel_rfl⟩
theorem r20_ok : compRes Try.prog Try.f20.results.toList = some r20 := by kernel_rfl
theorem f20_ok : fnOk Try.prog 20 = true := by kernel_rfl
def c43_1 : C := (.seq (.ops false [oP 20 (.ld 6 true (.t 1)), oP 21 (.bsl 1 1 [(.v (.int .i64 0))] [(0, (cI 3))]), oP 22 (.bsl 1 2 [(.v (.int .i64 0))] [(0, (cI 3)), (1, (cI (-3)))]), oP 23 (.bld [.mt, .mt, .mt] [(0, (1, (.t 21))), (1, (1, (.t 22)))]), oP 24 (.call 44 [(.t 20), (.t 23)]), oP 19 (.mv (.t 24)), oP 25 (.ext (.t 19) 0), oP 26 (.ext (.t 19) 1), oP 2 (.new [.mt, .mt]), oS (.st 2 (.t 2) (.t 25)),
  oP 3 (.mv (.t 26))]) (.seq (.ops false [oP 28 (.ld 6 true (.t 1)), oP 29 (.bsl 1 1 [(.v (.int .i64 0))] [(0, (cI 0))]), oP 30 (.bsl 1 2 [(.v (.int .i64 0))] [(0, (cI 0)), (1, (cI 0))]), oP 31 (.bld [.mt, .mt, .mt] [(0, (1, (.t 29))), (1, (1, (.t 30)))]), oP 32 (.call 44 [(.t 28), (.t 31)]), oP 27 (.mv (.t 32)), oP 33 (.ext (.t 27) 0), oP 34 (.ext (.t 27) 1), oP 4 (.new [.mt, .mt]),
  oS (.st 2 (.t 4) (.t 33)), oP 5 (.mv (.t 34))]) (.seq (.ops false [oP 36 (.ld 6 true (.t 1)), oP 37 (.ld 2 true (.t 4)), oP 38 (.ld 2 true (.t 2)), oP 39 (.call 48 [(.t 36), (.t 37), (.t 38)]), oP 35 (.mv (.t 39)), oP 40 (.ext (.t 35) 0), oP 41 (.ext (.t 35) 1), oP 42 (.ext (.t 35) 2), oP 6 (.mv (.t 40)), oP 7 (.mv (.t 41)), oP 8 (.mv (.t 42))]) (.seq (.ops false [oP 43 (.mv (.t 3)),
  oP 44 (.bin .eql (.t 43) (cI 0)), oP 45 (.mv (.t 44)), oG 46 45 true (.mv (.t 5)), oG 47 45 true (.bin .eql (.t 46) (cI 0)), oP 48 (.pick (.t 45) (.t 47) (cB false)), oP 49 (.mv (.t 48)), oG 50 49 true (.mv (.t 8)), oG 51 49 true (.bin .eql (.t 50) (cI 0)), oP 52 (.pick (.t 49) (.t 51) (cB false)), oP 53 (.mv (.t 52)), oG 54 53 true (.mv (.t 6)), oG 55 53 true (.len (.t 54)),
  oG 56 53 true (.bin .eql (.t 55) (cI 3)), oP 57 (.pick (.t 53) (.t 56) (cB false)), oP 58 (.mv (.t 57)), oG 59 58 true (.mv (.t 6)), oG 60 58 true (.iaS 1 (.t 59) (cI 2)), oG 61 58 true (.ld 1 false (.t 60)), oG 62 58 true (.bin .eql (.t 61) (cI 2)), oP 63 (.pick (.t 58) (.t 62) (cB false)), oP 64 (.mv (.t 63)), oG 65 64 true (.mv (.t 7)), oG 66 64 true (.len (.t 65)),
  oG 67 64 true (.bin .eql (.t 66) (cI 0)), oP 68 (.pick (.t 64) (.t 67) (cB false)), oP 69 (.mv (.t 68)), oG 70 69 true (.fa 0 (.t 2)), oG 71 69 true (.ld 1 false (.t 70)), oG 72 69 true (.iaS 1 (.t 71) (cI 0)), oG 73 69 true (.ld 1 false (.t 72)), oP 74 (.pick (.t 69) (.t 73) (cB false)), oP 0 (.mv (.t 74))]) .ret))))
def c43 : C := (.seq (.ops false [oP 0 (.mv (cB false))]) (.seq (.ops false [oP 9 (.bsl 1 2 [(.v (.string ({ data := #[] })))] [(0, (.c (.v (.string ({ data := #[97] }))))), (1, (.c (.v (.string ({ data := #[98] })))))]), oP 10 (.bld [(.v (.int .i64 0)), (.v (.int .i64 0)), (.v (.int .i64 0))] [(2, (1, (cI 1000)))]), oP 11 (.bld [(.v (.int .i64 0)), (.v (.int .i64 0)), (.v (.int .i64 0))] [(0, (1, (cI 10))), (2,
  (1, (cI 1000)))]), oP 12 (.bsl 3 2 [(.v (.int .i64 0)), (.v (.int .i64 0)), (.v (.int .i64 0))] [(0, (.t 10)), (1, (.t 11))]), oP 13 (.bld [(.v (.string ({ data := #[] }))), (.v (.int .i64 0)), (.v (.int .i64 0)), (.v (.int .i64 0)), (.v (.int .i64 0)), (.v (.int .i64 0)), .mt] [(0, (1, (.c (.v (.string ({ data := #[103] })))))), (1, (1, (cI 0))), (2, (1, (cI 1))), (3, (1, (cI 10))), (6, (1,
  (.t 12)))]), oP 14 (.bsl 7 1 [(.v (.string ({ data := #[] }))), (.v (.int .i64 0)), (.v (.int .i64 0)), (.v (.int .i64 0)), (.v (.int .i64 0)), (.v (.int .i64 0)), .mt] [(0, (.t 13))]), oP 15 (.bld [(.v (.string ({ data := #[] }))), (.v (.int .i64 0)), (.v (.int .i64 0))] [(0, (1, (.c (.v (.string ({ data := #[112] })))))), (1, (1, (cI 0)))]), oP 16 (.bld [(.v (.string ({ data := #[] }))),
  (.v (.int .i64 0)), (.v (.int .i64 0))] [(0, (1, (.c (.v (.string ({ data := #[113] })))))), (1, (1, (cI 1)))]), oP 17 (.bsl 3 2 [(.v (.string ({ data := #[] }))), (.v (.int .i64 0)), (.v (.int .i64 0))] [(0, (.t 15)), (1, (.t 16))]), oP 18 (.bld [.mt, .mt, .mt, .mt, (.v (.int .i64 0)), (.v (.int .i64 0))] [(0, (1, (.t 9))), (1, (1, (.t 14))), (2, (1, (.t 17)))]), oP 1 (.new [.mt, .mt, .mt, .mt,
  (.v (.int .i64 0)), (.v (.int .i64 0))]), oS (.st 6 (.t 1) (.t 18))]) (.weak c43_1)))
def r43 : List RV := [(.tmp 0)]
theorem c43_ok : ∃ code, Try.f43.body = some code ∧ compC Try.prog Try.f43.ntmps code = some (C.strip c43) := ⟨_, rfl, by kernel_rfl⟩
theorem r43_ok : compRes Try.prog Try.f43.results.toList = some r43 := by kernel_rfl
theorem f43_ok : fnOk Try.prog 43 = true := by kernel_rfl
def c44_1 : C := (.seq (.ops true [oP 21 (.fa 0 (.t 3)), oA 22 (.ld 1 false (.t 21)) [0], oA 23 (.call 106 [(.t 22)]) [0, 1], oP 24 (.fa 1 (.t 3)), oA 25 (.ld 1 false (.t 24)) [3], oA 26 (.call 106 [(.t 25)]) [1, 0, 3, 2, 4], oA 27 (.bld [.mt, .mt] [(0, (1, (.t 23))), (1, (1, (.t 26)))]) [4, 3, 1, 0, 5, 2], ⟨Option.none, Option.none, (.st 2 (.t 4) (.t 27)), 0, [4, 3, 2, 1, 0, 5, 6], false⟩, oA 5 (.mv (cI 0)) [6,
  5, 4, 3, 2, 1, 0, 7]]) .ret)
def c44_2 : C := (.seq (.seq (.ops false [oP 14 (.ld 6 true (.t 2)), oP 15 (.ld 3 true (.t 3)), oB 16 (.call 32 [(.t 14), (.t 15)]), oP 7 (.mv (.t 16))]) (.seq (.ops false [oP 17 (.mv (.t 7)), oP 18 (.bin .neq (.t 17) (cI 0))]) (.cond (.t 18) (.seq (.ops false [oP 19 (.bld [.mt, .mt] []), oP 20 (.mv (.t 7)), oS (.st 2 (.t 4) (.t 19)), oP 5 (.mv (.t 20))]) .ret) .skip))) c44_1)
def c44 : C := (.seq (.ops false [oP 2 (.box 6 (.t 0)), oP 3 (.box 3 (.t 1)), oP 4 (.new [.mt, .mt]), oP 5 (.mv (cI 0))]) (.seq (.seq (.ops false [oP 8 (.ld 6 true (.t 2)), oB 9 (.call 79 [(.t 8)]), oP 6 (.mv (.t 9))]) (.seq (.ops false [oP 10 (.mv (.t 6)), oP 11 (.bin .neq (.t 10) (cI 0))]) (.cond (.t 11) (.seq (.ops false [oP 12 (.bld [.mt, .mt] []), oP 13 (.mv (.t 6)), oS (.st 2 (.t 4) (.t 12)),
  oP 5 (.mv (.t 13))]) .ret) .skip))) c44_2))
def r44 : List RV := [(.cell 4 2 true), (.tmp 5)]
theorem c44_ok : ∃ code, Try.f44.body = some code ∧ compC Try.prog Try.f44.ntmps code = some (C.strip c44) := ⟨_, rfl, by kernel_rfl⟩
theorem r44_ok : compRes Try.prog Try.f44.results.toList = some r44 := by kernel_rfl
theorem f44_ok : fnOk Try.prog 44 = true := by kernel_rfl
def c45_1 : C := (.ops false [oP 50 (.bin .add (.t 37) (cI 1)), oP 37 (.mv (.t 50))])
def c45_2 : C := (.seq (.block 1 (.seq (.ops false [oP 39 (.mv (.t 37)), oP 40 (.iaS 1 (.t 35) (.t 37)), oP 41 (.ld 1 false (.t 40)), oP 12 (.mv (.t 39)), oP 13 (.mv (.t 41))]) (.seq (.ops false [oP 42 (.mv (.t 13)), oP 43 (.mv (.t 42)), oG 44 43 true (.mv (.t 11)), oG 45 43 true (.mv (.t 12)), oG 46 43 true (.iaS 1 (.t 44) (.t 45)), oG 47 43 true (.ld 1 false (.t 46)), oG 48 43 true (.not (.t 47)),
  oP 49 (.pick (.t 43) (.t 48) (cB false))]) (.cond (.t 49) (.seq (.ops false [oP 6 (.mv (cB false)), oP 7 (.mv (cI 0))]) .ret) .skip)))) c45_1)
def c45_3 : C := (.seq (.ops false [oP 38 (.bin .lss (.t 37) (.t 36))]) (.seq (.cond (.t 38) .skip (.exit 0)) c45_2))
def c45_4 : C := (.seq (.ops false [oP 6 (.mv (cB true)), oP 7 (.mv (cI 0))]) .ret)
def c45_5 : C := (.seq (.ops false [oP 32 (.ld 2 true (.t 4)), oP 33 (.call 108 [(.t 32)]), oP 11 (.mv (.t 33))]) (.seq (.seq (.ops false [oP 34 (.ld 2 true (.t 9)), oP 35 (.call 108 [(.t 34)]), oP 36 (.len (.t 35)), oP 37 (.mv (cI 0))]) (.block 0 (.loop c45_3))) c45_4))
def c45_6 : C := (.seq (.ops false [oP 24 (.ld 6 true (.t 3)), oP 25 (.ld 3 true (.t 5)), oP 26 (.call 44 [(.t 24), (.t 25)]), oP 23 (.mv (.t 26)), oP 27 (.ext (.t 23) 0), oP 28 (.ext (.t 23) 1), oP 9 (.new [.mt, .mt]), oS (.st 2 (.t 9) (.t 27)), oP 10 (.mv (.t 28))]) (.seq (.seq (.ops false [oP 29 (.mv (.t 10)), oP 30 (.bin .neq (.t 29) (cI 0))]) (.cond (.t 30) (.seq (.ops false [oP 31 (.mv (.t 10)),
  oP 6 (.mv (cB false)), oP 7 (.mv (.t 31))]) .ret) .skip)) c45_5))
def c45_7 : C := (.seq (.seq (.ops false [oP 19 (.ld 6 true (.t 3)), oP 20 (.ld 2 true (.t 4)), oB 21 (.call 107 [(.t 19), (.t 20)]), oP 22 (.not (.t 21))]) (.cond (.t 22) (.seq (.ops false [oP 6 (.mv (cB false)), oP 7 (.mv (cI 9))]) .ret) .skip)) c45_6)
def c45 : C := (.seq (.ops false [oP 3 (.box 6 (.t 0)), oP 4 (.box 2 (.t 1)), oP 5 (.box 3 (.t 2)), oP 6 (.mv (cB false)), oP 7 (.mv (cI 0))]) (.seq (.seq (.ops false [oP 14 (.ld 6 true (.t 3)), oB 15 (.call 79 [(.t 14)]), oP 8 (.mv (.t 15))]) (.seq (.ops false [oP 16 (.mv (.t 8)), oP 17 (.bin .neq (.t 16) (cI 0))]) (.cond (.t 17) (.seq (.ops false [oP 18 (.mv (.t 8)), oP 6 (.mv (cB false)), oP 7 (.mv (.t 18))])
  .ret) .skip))) c45_7))
def r45 : List RV := [(.tmp 6), (.tmp 7)]
theorem c45_ok : ∃ code, Try.f45.body = some code ∧ compC Try.prog Try.f45.ntmps code = some (C.strip c45) := ⟨_, rfl, by kernel_rfl⟩
theorem r45_ok : compRes Try.prog Try.f45.results.toList = some r45 := by kernel_rfl
theorem f45_ok : fnOk Try.prog 45 = true := by kernel_rfl
def c46 : C := (.seq (.ops false [oP 1 (.box 2 (.t 0)), oP 2 (.mv (.c .mt))]) (.seq (.ops true [oP 3 (.bsl 1 0 [(.v (.bool false))] []), oP 4 (.fa 0 (.t 1)), oA 5 (.ld 1 false (.t 4)) [1], oA 6 (.app 1 1 (.t 3) (.t 5)) [1, 2, 0], oP 7 (.fa 1 (.t 1)), oA 8 (.ld 1 false (.t 7)) [4], oA 9 (.app 1 1 (.t 6) (.t 8)) [4, 0, 2, 1, 5, 3], oA 2 (.mv (.t 9)) [5, 4, 3, 2, 1, 0, 6]]) .ret))
def r46 : List RV := [(.tmp 2)]
theorem c46_ok : ∃ code, Try.f46.body = some code ∧ compC Try.prog Try.f46.ntmps code = some (C.strip c46) := ⟨_, rfl, by kernel_rfl⟩
theorem r46_ok : compRes Try.prog Try.f46.results.toList = some r46 := by kernel_rfl
theorem f46_ok : fnOk Try.prog 46 = true := by kernel_rfl
def c47_1 : C := (.seq (.block 1 (.ops true [oP 15 (.fa 0 (.t 5)), oA 16 (.ld 1 false (.t 15)) [0], oP 17 (.mv (.t 0)), ⟨(.some 18), Option.none, (.call 59 [(.t 17), (cI 2)]), 18, [2], true⟩, oA 19 (.bin .eql (.t 18) (cI 0)) [2, 3], oA 20 (.bsl 1 1 [(.v (.bool false))] [(0, (.t 19))]) [3, 2, 4], oA 21 (.app 1 1 (.t 16) (.t 20)) [4, 2, 0, 3, 5, 1], oA 22 (.fa 0 (.t 5)) [6, 5, 4, 3, 2, 1, 0], ⟨Option.none,
  Option.none, (.st 1 (.t 22) (.t 21)), 0, [5, 4, 3, 2, 1, 0, 6, 7], false⟩])) (.ops false [oP 13 (.mv (.t 6)), oP 14 (.bin .add (.t 13) (cI 1)), oP 6 (.mv (.t 14))]))
def c47_2 : C := (.seq (.seq (.ops false [oP 8 (.mv (.t 6)), oP 9 (.fa 1 (.t 3)), oP 10 (.ld 1 false (.t 9)), oP 11 (.len (.t 10)), oP 12 (.bin .lss (.t 8) (.t 11))]) (.cond (.t 12) .skip (.exit 0))) c47_1)
def c47_3 : C := (.seq (.block 3 (.ops true [oP 30 (.fa 1 (.t 5)), oA 31 (.ld 1 false (.t 30)) [0], oP 32 (.mv (.t 0)), ⟨(.some 33), Option.none, (.call 59 [(.t 32), (cI 2)]), 33, [2], true⟩, oA 34 (.bin .eql (.t 33) (cI 0)) [2, 3], oA 35 (.bsl 1 1 [(.v (.bool false))] [(0, (.t 34))]) [3, 2, 4], oA 36 (.app 1 1 (.t 31) (.t 35)) [4, 2, 0, 3, 5, 1], oA 37 (.fa 1 (.t 5)) [6, 5, 4, 3, 2, 1, 0], ⟨Option.none,
  Option.none, (.st 1 (.t 37) (.t 36)), 0, [5, 4, 3, 2, 1, 0, 6, 7], false⟩])) (.ops false [oP 28 (.mv (.t 7)), oP 29 (.bin .add (.t 28) (cI 1)), oP 7 (.mv (.t 29))]))
def c47_4 : C := (.seq (.seq (.ops false [oP 23 (.mv (.t 7)), oP 24 (.fa 2 (.t 3)), oP 25 (.ld 1 false (.t 24)), oP 26 (.len (.t 25)), oP 27 (.bin .lss (.t 23) (.t 26))]) (.cond (.t 27) .skip (.exit 2))) c47_3)
def c47_5 : C := (.seq (.ops false [oP 38 (.ld 2 true (.t 5)), oS (.st 2 (.t 4) (.t 38))]) .ret)
def c47_6 : C := (.seq (.seq (.ops false [oP 7 (.mv (cI 0))]) (.block 2 (.loop c47_4))) c47_5)
def c47 : C := (.seq (.ops false [oP 3 (.box 6 (.t 1)), oP 4 (.new [.mt, .mt])]) (.seq (.ops false [oP 5 (.new [.mt, .mt])]) (.seq (.seq (.ops false [oP 6 (.mv (cI 0))]) (.block 0 (.loop c47_2))) c47_6)))
def r47 : List RV := [(.cell 4 2 true)]
theorem c47_ok : ∃ code, Try.f47.body = some code ∧ compC Try.prog Try.f47.ntmps code = some (C.strip c47) := ⟨_, rfl, by kernel_rfl⟩
theorem r47_ok : compRes Try.prog Try.f47.results.toList = some r47 := by kernel_rfl
theorem f47_ok : fnOk Try.prog 47 = true := by kernel_rfl
def c48_1 : C := (.ops false [oP 57 (.bin .add (.t 26) (cI 1)), oP 26 (.mv (.t 57))])
def c48_2 : C := (.seq (.block 1 (.seq (.ops false [oP 28 (.mv (.t 26)), oP 29 (.iaS 1 (.t 24) (.t 26)), oP 30 (.ld 1 false (.t 29)), oP 11 (.mv (.t 28)), oP 12 (.mv (.t 30))]) (.block 2 (.seq (.ops false [oP 32 (.mv (.t 10)), oP 33 (.mv (.t 11)), oP 34 (.iaS 1 (.t 32) (.t 33)), oP 35 (.ld 1 false (.t 34)), oP 36 (.mv (.t 35)), oG 37 36 true (.mv (.t 12)), oG 38 36 true (.not (.t 37)), oP 39 (.pick (.t 36) (.t 38)
  (cB false)), oP 31 (.mv (.t 39))]) (.cond (.t 31) (.ops false [oP 40 (.mv (.t 6)), oP 41 (.mv (.t 11)), oP 42 (.bsl 1 1 [(.v (.int .i64 0))] [(0, (.t 41))]), oP 43 (.app 1 8 (.t 40) (.t 42)), oP 6 (.mv (.t 43))]) (.seq (.ops false [oP 45 (.mv (.t 12)), oP 46 (.mv (.t 45)), oG 47 46 true (.mv (.t 10)), oG 48 46 true (.mv (.t 11)), oG 49 46 true (.iaS 1 (.t 47) (.t 48)),
  oG 50 46 true (.ld 1 false (.t 49)), oG 51 46 true (.not (.t 50)), oP 52 (.pick (.t 46) (.t 51) (cB false)), oP 44 (.mv (.t 52))]) (.cond (.t 44) (.ops false [oP 53 (.mv (.t 7)), oP 54 (.mv (.t 11)), oP 55 (.bsl 1 1 [(.v (.int .i64 0))] [(0, (.t 54))]), oP 56 (.app 1 8 (.t 53) (.t 55)), oP 7 (.mv (.t 56))]) .skip))))))) c48_1)
def c48_3 : C := (.seq (.ops false [oP 27 (.bin .lss (.t 26) (.t 25))]) (.seq (.cond (.t 27) .skip (.exit 0)) c48_2))
def c48_4 : C := (.seq (.ops false [oP 58 (.mv (.t 6)), oP 59 (.mv (.t 7)), oP 6 (.mv (.t 58)), oP 7 (.mv (.t 59)), oP 8 (.mv (cI 0))]) .ret)
def c48_5 : C := (.seq (.ops false [oP 21 (.ld 2 true (.t 5)), oP 22 (.call 108 [(.t 21)]), oP 10 (.mv (.t 22))]) (.seq (.seq (.ops false [oP 23 (.ld 2 true (.t 4)), oP 24 (.call 108 [(.t 23)]), oP 25 (.len (.t 24)), oP 26 (.mv (cI 0))]) (.block 0 (.loop c48_3))) c48_4))
def c48 : C := (.seq (.ops false [oP 3 (.box 6 (.t 0)), oP 4 (.box 2 (.t 1)), oP 5 (.box 2 (.t 2)), oP 6 (.mv (.c .mt)), oP 7 (.mv (.c .mt)), oP 8 (.mv (cI 0))]) (.seq (.seq (.ops false [oP 13 (.ld 6 true (.t 3)), oP 14 (.ld 2 true (.t 4)), oP 15 (.ld 2 true (.t 5)), oP 16 (.bsl 2 2 [.mt, .mt] [(0, (.t 14)), (1, (.t 15))]), oB 17 (.call 109 [(.t 13), (.t 16)]), oP 9 (.mv (.t 17))])
  (.seq (.ops false [oP 18 (.mv (.t 9)), oP 19 (.bin .neq (.t 18) (cI 0))]) (.cond (.t 19) (.seq (.ops false [oP 20 (.mv (.t 9)), oP 6 (.mv (.c .mt)), oP 7 (.mv (.c .mt)), oP 8 (.mv (.t 20))]) .ret) .skip))) c48_5))
def r48 : List RV := [(.tmp 6), (.tmp 7), (.tmp 8)]
theorem c48_ok : ∃ code, Try.f48.body = some code ∧ compC Try.prog Try.f48.ntmps code = some (C.strip c48) := ⟨_, rfl, by kernel_rfl⟩
theorem r48_ok : compRes Try.prog Try.f48.results.toList = some r48 := by kernel_rfl
theorem f48_ok : fnOk Try.prog 48 = true := by kernel_rfl
def c49_1 : C := (.ops false [oP 15 (.mv (.t 5)), oP 16 (.bin .add (.t 15) (cI 1)), oP 5 (.mv (.t 16))])
def c49_2 : C := (.seq (.block 1 (.seq (.ops true [oP 17 (.mv (.t 0)), oP 18 (.mv (.t 5)), oA 19 (.iaS 1 (.t 17) (.t 18)) [1, 0], oA 20 (.ld 1 false (.t 19)) [0, 1, 2], oP 21 (.mv (.t 1)), oP 22 (.mv (.t 5)), oA 23 (.iaS 1 (.t 21) (.t 22)) [5, 4], oA 24 (.ld 1 false (.t 23)) [4, 5, 6], oA 25 (.beq true (.t 20) (.t 24)) [6, 5, 4, 2, 1, 0, 7, 3]]) (.cond (.t 25) (.seq (.ops false [oP 4 (.mv (cB false))]) .ret)
  .skip))) c49_1)
def c49_3 : C := (.seq (.seq (.ops false [oP 11 (.mv (.t 5)), oP 12 (.mv (.t 0)), oP 13 (.len (.t 12)), oP 14 (.bin .lss (.t 11) (.t 13))]) (.cond (.t 14) .skip (.exit 0))) c49_2)
def c49_4 : C := (.seq (.ops false [oP 4 (.mv (cB true))]) .ret)
def c49_5 : C := (.seq (.seq (.ops false [oP 5 (.mv (cI 0))]) (.block 0 (.loop c49_3))) c49_4)
def c49 : C := (.seq (.ops false [oP 4 (.mv (cB false))]) (.seq (.seq (.ops false [oP 6 (.mv (.t 0)), oP 7 (.len (.t 6)), oP 8 (.mv (.t 1)), oP 9 (.len (.t 8)), oP 10 (.bin .neq (.t 7) (.t 9))]) (.cond (.t 10) (.seq (.ops false [oP 4 (.mv (cB false))]) .ret) .skip)) c49_5))
def r49 : List RV := [(.tmp 4)]
theorem c49_ok : ∃ code, Try.f49.body = some code ∧ compC Try.prog Try.f49.ntmps code = some (C.strip c49) := ⟨_, rfl, by kernel_rfl⟩
theorem r49_ok : compRes Try.prog Try.f49.results.toList = some r49 := by kernel_rfl
theorem f49_ok : fnOk Try.prog 49 = true := by kernel_rfl
def c50_1 : C := (.seq (.block 1 (.seq (.ops false [oP 22 (.iaS 1 (.t 18) (.t 20)), oP 23 (.ld 1 false (.t 22)), oP 9 (.mv (.t 23))]) (.ops false [oP 24 (.mv (.t 7)), oP 25 (.mv (.t 9)), oP 26 (.not (.t 25)), oP 27 (.bsl 1 1 [(.v (.bool false))] [(0, (.t 26))]), oP 28 (.app 1 1 (.t 24) (.t 27)), oP 7 (.mv (.t 28))]))) (.ops false [oP 29 (.bin .add (.t 20) (cI 1)), oP 20 (.mv (.t 29))]))
def c50_2 : C := (.seq (.ops false [oP 21 (.bin .lss (.t 20) (.t 19))]) (.seq (.cond (.t 21) .skip (.exit 0)) c50_1))
def c50_3 : C := (.seq (.ops false [oP 30 (.mv (.t 7)), oP 4 (.mv (.t 30)), oP 5 (.mv (cI 0))]) .ret)
def c50_4 : C := (.seq (.ops false [oP 7 (.mv (.c .mt))]) (.seq (.seq (.ops false [oP 17 (.fa 0 (.t 3)), oP 18 (.ld 1 false (.t 17)), oP 19 (.len (.t 18)), oP 20 (.mv (cI 0))]) (.block 0 (.loop c50_2))) c50_3))
def c50 : C := (.seq (.ops false [oP 2 (.box 6 (.t 0)), oP 3 (.box 2 (.t 1)), oP 4 (.mv (.c .mt)), oP 5 (.mv (cI 0))]) (.seq (.seq (.ops false [oP 10 (.ld 6 true (.t 2)), oP 11 (.ld 2 true (.t 3)), oP 12 (.bsl 2 1 [.mt, .mt] [(0, (.t 11))]), oB 13 (.call 109 [(.t 10), (.t 12)]), oP 6 (.mv (.t 13))]) (.seq (.ops false [oP 14 (.mv (.t 6)), oP 15 (.bin .neq (.t 14) (cI 0))]) (.cond (.t 15)
  (.seq (.ops false [oP 16 (.mv (.t 6)), oP 4 (.mv (.c .mt)), oP 5 (.mv (.t 16))]) .ret) .skip))) c50_4))
def r50 : List RV := [(.tmp 4), (.tmp 5)]
theorem c50_ok : ∃ code, Try.f50.body = some code ∧ compC Try.prog Try.f50.ntmps code = some (C.strip c50) := ⟨_, rfl, by kernel_rfl⟩
theorem r50_ok : compRes Try.prog Try.f50.results.toList = some r50 := by kernel_rfl
theorem f50_ok : fnOk Try.prog 50 = true := by kernel_rfl
def c57 : C := (.seq (.ops false [oP 1 (.box 6 (.t 0)), oP 2 (.mv (cI 0))]) (.seq (.ops false [oP 3 (.fa 1 (.t 1)), oP 4 (.ld 1 false (.t 3)), oP 5 (.len (.t 4)), oP 6 (.fa 2 (.t 1)), oP 7 (.ld 1 false (.t 6)), oP 8 (.len (.t 7)), oP 9 (.bin .add (.t 5) (.t 8)), oP 2 (.mv (.t 9))]) .ret))
def r57 : List RV := [(.tmp 2)]
theorem c57_ok : ∃ code, Try.f57.body = some code ∧ compC Try.prog Try.f57.ntmps code = some (C.strip c57) := ⟨_, rfl, by kernel_rfl⟩
theorem r57_ok : compRes Try.prog Try.f57.results.toList = some r57 := by kernel_rfl
theorem f57_ok : fnOk Try.prog 57 = true := by kernel_rfl
def c106_1 : C := (.seq (.block 1 (.seq (.ops false [oP 10 (.iaS 1 (.t 6) (.t 8)), oP 11 (.ld 1 false (.t 10)), oP 5 (.mv (.t 11))]) (.ops false [oP 12 (.mv (.t 3)), oP 13 (.mv (.t 5)), oP 14 (.bin .neq (.t 13) (cI 0)), oP 15 (.bsl 1 1 [(.v (.bool false))] [(0, (.t 14))]), oP 16 (.app 1 1 (.t 12) (.t 15)), oP 3 (.mv (.t 16))]))) (.ops false [oP 17 (.bin .add (.t 8) (cI 1)), oP 8 (.mv (.t 17))]))
def c106_2 : C := (.seq (.ops false [oP 9 (.bin .lss (.t 8) (.t 7))]) (.seq (.cond (.t 9) .skip (.exit 0)) c106_1))
def c106_3 : C := (.seq (.ops false [oP 18 (.mv (.t 3)), oP 2 (.mv (.t 18))]) .ret)
def c106 : C := (.seq (.ops false [oP 2 (.mv (.c .mt))]) (.seq (.ops false [oP 3 (.mv (.c .mt))]) (.seq (.seq (.ops false [oP 6 (.mv (.t 0)), oP 7 (.len (.t 6)), oP 8 (.mv (cI 0))]) (.block 0 (.loop c106_2))) c106_3)))
def r106 : List RV := [(.tmp 2)]
theorem c106_ok : ∃ code, Try.f106.body = some code ∧ compC Try.prog Try.f106.ntmps code = some (C.strip c106) := ⟨_, rfl, by kernel_rfl⟩
theorem r106_ok : compRes Try.prog Try.f106.results.toList = some r106 := by kernel_rfl
theorem f106_ok : fnOk Try.prog 106 = true := by kernel_rfl
def c107 : C := (.seq (.ops false [oP 2 (.box 6 (.t 0)), oP 3 (.box 2 (.t 1)), oP 4 (.mv (cB false))]) (.seq (.ops false [oP 5 (.fa 0 (.t 3)), oP 6 (.ld 1 false (.t 5)), oP 7 (.len (.t 6)), oP 8 (.fa 1 (.t 2)), oP 9 (.ld 1 false (.t 8)), oP 10 (.len (.t 9)), oP 11 (.bin .eql (.t 7) (.t 10)), oP 12 (.mv (.t 11)), oG 13 12 true (.fa 1 (.t 3)), oG 14 12 true (.ld 1 false (.t 13)), oG 15 12 true (.len (.t 14)),
  oG 16 12 true (.fa 2 (.t 2)), oG 17 12 true (.ld 1 false (.t 16)), oG 18 12 true (.len (.t 17)), oG 19 12 true (.bin .eql (.t 15) (.t 18)), oP 20 (.pick (.t 12) (.t 19) (cB false)), oP 4 (.mv (.t 20))]) .ret))
def r107 : List RV := [(.tmp 4)]
theorem c107_ok : ∃ code, Try.f107.body = some code ∧ compC Try.prog Try.f107.ntmps code = some (C.strip c107) := ⟨_, rfl, by kernel_rfl⟩
theorem r107_ok : compRes Try.prog Try.f107.results.toList = some r107 := by kernel_rfl
theorem f107_ok : fnOk Try.prog 107 = true := by kernel_rfl
def c108 : C := (.seq (.ops false [oP 1 (.box 2 (.t 0)), oP 2 (.mv (.c .mt))]) (.seq (.ops false [oP 4 (.fa 0 (.t 1)), oP 5 (.ld 1 false (.t 4)), oP 6 (.app 1 1 (.c .mt) (.t 5)), oP 3 (.mv (.t 6))]) (.seq (.ops false [oP 7 (.mv (.t 3)), oP 8 (.fa 1 (.t 1)), oP 9 (.ld 1 false (.t 8)), oP 10 (.app 1 1 (.t 7) (.t 9)), oP 2 (.mv (.t 10))]) .ret)))
def r108 : List RV := [(.tmp 2)]
theorem c108_ok : ∃ code, Try.f108.body = some code ∧ compC Try.prog Try.f108.ntmps code = some (C.strip c108) := ⟨_, rfl, by kernel_rfl⟩
theorem r108_ok : compRes Try.prog Try.f108.results.toList = some r108 := by kernel_rfl
theorem f108_ok : fnOk Try.prog 108 = true := by kernel_rfl
def c109_1 : C := (.ops false [oP 23 (.bin .add (.t 15) (cI 1)), oP 15 (.mv (.t 23))])
def c109_2 : C := (.seq (.block 1 (.seq (.ops false [oP 17 (.iaS 2 (.t 13) (.t 15)), oP 18 (.ld 2 true (.t 17)), oP 7 (.new [.mt, .mt]), oS (.st 2 (.t 7) (.t 18))]) (.seq (.ops false [oP 19 (.ld 6 true (.t 2)), oP 20 (.ld 2 true (.t 7)), oB 21 (.call 107 [(.t 19), (.t 20)]), oP 22 (.not (.t 21))]) (.cond (.t 22) (.seq (.ops false [oP 4 (.mv (cI 9))]) .ret) .skip)))) c109_1)
def c109_3 : C := (.seq (.ops false [oP 16 (.bin .lss (.t 15) (.t 14))]) (.seq (.cond (.t 16) .skip (.exit 0)) c109_2))
def c109_4 : C := (.seq (.ops false [oP 4 (.mv (cI 0))]) .ret)
def c109_5 : C := (.seq (.seq (.ops false [oP 13 (.mv (.t 1)), oP 14 (.len (.t 13)), oP 15 (.mv (cI 0))]) (.block 0 (.loop c109_3))) c109_4)
def c109 : C := (.seq (.ops false [oP 2 (.box 6 (.t 0)), oP 4 (.mv (cI 0))]) (.seq (.seq (.ops false [oP 8 (.ld 6 true (.t 2)), oB 9 (.call 79 [(.t 8)]), oP 5 (.mv (.t 9))]) (.seq (.ops false [oP 10 (.mv (.t 5)), oP 11 (.bin .neq (.t 10) (cI 0))]) (.cond (.t 11) (.seq (.ops false [oP 12 (.mv (.t 5)), oP 4 (.mv (.t 12))]) .ret) .skip))) c109_5))
def r109 : List RV := [(.tmp 4)]
theorem c109_ok : ∃ code, Try.f109.body = some code ∧ compC Try.prog Try.f109.ntmps code = some (C.strip c109) := ⟨_, rfl, by kernel_rfl⟩
theorem r109_ok : compRes Try.prog Try.f109.results.toList = some r109 := by kernel_rfl
theorem f109_ok : fnOk Try.prog 109 = true := by kernel_rfl
def c122_1 : C := (.seq (.block 1 (.ops true [oP 13 (.fa 0 (.t 3)), oA 14 (.ld 1 false (.t 13)) [0], oP 15 (.fa 0 (.t 1)), oA 16 (.ld 1 false (.t 15)) [2], oP 17 (.mv (.t 4)), oA 18 (.iaS 1 (.t 16) (.t 17)) [2, 4, 3], oA 19 (.ld 1 false (.t 18)) [3, 4, 2, 5], oA 20 (.bin .neq (.t 19) (cI 0)) [5, 2, 4, 3, 6], oA 21 (.bsl 1 1 [(.v (.bool false))] [(0, (.t 20))]) [6, 3, 4, 2, 5, 7], oA 22 (.app 1 1 (.t 14) (.t 21))
  [7, 5, 2, 4, 3, 6, 0, 8, 1], oA 23 (.fa 0 (.t 3)) [9, 8, 7, 6, 5, 4, 3, 2, 1, 0], ⟨Option.none, Option.none, (.st 1 (.t 23) (.t 22)), 0, [8, 7, 6, 5, 4, 3, 2, 1, 0, 9, 10], false⟩])) (.ops false [oP 11 (.mv (.t 4)), oP 12 (.bin .add (.t 11) (cI 1)), oP 4 (.mv (.t 12))]))
def c122_2 : C := (.seq (.seq (.ops false [oP 6 (.mv (.t 4)), oP 7 (.fa 0 (.t 1)), oP 8 (.ld 1 false (.t 7)), oP 9 (.len (.t 8)), oP 10 (.bin .lss (.t 6) (.t 9))]) (.cond (.t 10) .skip (.exit 0))) c122_1)
def c122_3 : C := (.seq (.block 3 (.ops true [oP 31 (.fa 1 (.t 3)), oA 32 (.ld 1 false (.t 31)) [0], oP 33 (.fa 1 (.t 1)), oA 34 (.ld 1 false (.t 33)) [2], oP 35 (.mv (.t 5)), oA 36 (.iaS 1 (.t 34) (.t 35)) [2, 4, 3], oA 37 (.ld 1 false (.t 36)) [3, 4, 2, 5], oA 38 (.bin .neq (.t 37) (cI 0)) [5, 2, 4, 3, 6], oA 39 (.bsl 1 1 [(.v (.bool false))] [(0, (.t 38))]) [6, 3, 4, 2, 5, 7], oA 40 (.app 1 1 (.t 32) (.t 39))
  [7, 5, 2, 4, 3, 6, 0, 8, 1], oA 41 (.fa 1 (.t 3)) [9, 8, 7, 6, 5, 4, 3, 2, 1, 0], ⟨Option.none, Option.none, (.st 1 (.t 41) (.t 40)), 0, [8, 7, 6, 5, 4, 3, 2, 1, 0, 9, 10], false⟩])) (.ops false [oP 29 (.mv (.t 5)), oP 30 (.bin .add (.t 29) (cI 1)), oP 5 (.mv (.t 30))]))
def c122_4 : C := (.seq (.seq (.ops false [oP 24 (.mv (.t 5)), oP 25 (.fa 1 (.t 1)), oP 26 (.ld 1 false (.t 25)), oP 27 (.len (.t 26)), oP 28 (.bin .lss (.t 24) (.t 27))]) (.cond (.t 28) .skip (.exit 2))) c122_3)
def c122_5 : C := (.seq (.ops false [oP 42 (.ld 2 true (.t 3)), oS (.st 2 (.t 2) (.t 42))]) .ret)
def c122_6 : C := (.seq (.seq (.ops false [oP 5 (.mv (cI 0))]) (.block 2 (.loop c122_4))) c122_5)
def c122 : C := (.seq (.ops false [oP 1 (.box 3 (.t 0)), oP 2 (.new [.mt, .mt])]) (.seq (.ops false [oP 3 (.new [.mt, .mt])]) (.seq (.seq (.ops false [oP 4 (.mv (cI 0))]) (.block 0 (.loop c122_2))) c122_6)))
def r122 : List RV := [(.cell 2 2 true)]
theorem c122_ok : ∃ code, Try.f122.body = some code ∧ compC Try.prog Try.f122.ntmps code = some (C.strip c122) := ⟨_, rfl, by kernel_rfl⟩
theorem r122_ok : compRes Try.prog Try.f122.results.toList = some r122 := by kernel_rfl
theorem f122_ok : fnOk Try.prog 122 = true := by kernel_rfl
def c123_1 : C := (.ops false [oP 33 (.mv (.t 7)), oP 34 (.ld 4 true (.t 9)), oB 35 (.call 157 [(.t 34)]), oP 36 (.bsl 1 1 [(.v (.bool false))] [(0, (.t 35))]), oP 37 (.app 1 1 (.t 33) (.t 36)), oP 7 (.mv (.t 37))])
def c123_2 : C := (.ops false [oP 38 (.bin .add (.t 25) (cI 1)), oP 25 (.mv (.t 38))])
def c123_3 : C := (.seq (.block 1 (.seq (.ops false [oP 27 (.iaS 4 (.t 23) (.t 25)), oP 28 (.ld 4 true (.t 27)), oP 9 (.new [(.v (.int .i64 0)), (.v (.int .i64 0)), (.v (.bool false)), (.v (.bool false))]), oS (.st 4 (.t 9) (.t 28))]) (.seq (.seq (.ops false [oP 29 (.ld 4 true (.t 9)), oB 30 (.call 156 [(.t 29)]), oP 31 (.not (.t 30))]) (.cond (.t 31) (.seq (.ops false [oP 32 (.bld [.mt, .mt] []), oS (.st 2 (.t 4)
  (.t 32)), oP 5 (.mv (cI 20))]) .ret) .skip)) c123_1))) c123_2)
def c123_4 : C := (.seq (.ops false [oP 26 (.bin .lss (.t 25) (.t 24))]) (.seq (.cond (.t 26) .skip (.exit 0)) c123_3))
def c123_5 : C := (.seq (.ops false [oP 39 (.fa 1 (.t 2)), oP 40 (.ld 1 false (.t 39)), oP 41 (.len (.t 40)), oP 10 (.mv (.t 41))]) (.seq (.ops true [oP 42 (.mv (.t 7)), oP 43 (.mv (.t 10)), oP 44 (.mv (.t 10)), oA 45 (.slc3 1 (.t 42) Option.none (.t 43) (.t 44)) [2, 1, 0], oP 46 (.mv (.t 7)), oP 47 (.mv (.t 10)), oA 48 (.slc 1 (.t 46) (.some (.t 47)) Option.none) [5, 4], oA 49 (.bld [.mt, .mt] [(0, (1, (.t 45))),
  (1, (1, (.t 48)))]) [4, 5, 0, 1, 2, 6, 3], ⟨Option.none, Option.none, (.st 2 (.t 4) (.t 49)), 0, [6, 5, 4, 3, 2, 1, 0, 7], false⟩, oA 5 (.mv (cI 0)) [7, 6, 5, 4, 3, 2, 1, 0, 8]]) .ret))
def c123_6 : C := (.seq (.ops false [oP 7 (.mv (.c .mt))]) (.seq (.seq (.ops false [oP 23 (.mv (.t 1)), oP 24 (.len (.t 23)), oP 25 (.mv (cI 0))]) (.block 0 (.loop c123_4))) c123_5))
def c123_7 : C := (.seq (.seq (.ops false [oP 17 (.mv (.t 1)), oP 18 (.len (.t 17)), oP 19 (.ld 6 true (.t 2)), oB 20 (.call 155 [(.t 19)]), oP 21 (.bin .neq (.t 18) (.t 20))]) (.cond (.t 21) (.seq (.ops false [oP 22 (.bld [.mt, .mt] []), oS (.st 2 (.t 4) (.t 22)), oP 5 (.mv (cI 20))]) .ret) .skip)) c123_6)
def c123 : C := (.seq (.ops false [oP 2 (.box 6 (.t 0)), oP 4 (.new [.mt, .mt]), oP 5 (.mv (cI 0))]) (.seq (.seq (.ops false [oP 11 (.ld 6 true (.t 2)), oB 12 (.call 79 [(.t 11)]), oP 6 (.mv (.t 12))]) (.seq (.ops false [oP 13 (.mv (.t 6)), oP 14 (.bin .neq (.t 13) (cI 0))]) (.cond (.t 14) (.seq (.ops false [oP 15 (.bld [.mt, .mt] []), oP 16 (.mv (.t 6)), oS (.st 2 (.t 4) (.t 15)), oP 5 (.mv (.t 16))]) .ret)
  .skip))) c123_7))
def r123 : List RV := [(.cell 4 2 true), (.tmp 5)]
theorem c123_ok : ∃ code, Try.f123.body = some code ∧ compC Try.prog Try.f123.ntmps code = some (C.strip c123) := ⟨_, rfl, by kernel_rfl⟩
theorem r123_ok : compRes Try.prog Try.f123.results.toList = some r123 := by kernel_rfl
theorem f123_ok : fnOk Try.prog 123 = true := by kernel_rfl
def c126 : C := (.seq (.ops false [oP 2 (.box 6 (.t 0)), oP 3 (.box 2 (.t 1)), oP 4 (.mv (cB false))]) (.seq (.ops false [oP 5 (.fa 0 (.t 3)), oP 6 (.ld 1 false (.t 5)), oP 7 (.len (.t 6)), oP 8 (.fa 1 (.t 2)), oP 9 (.ld 1 false (.t 8)), oP 10 (.len (.t 9)), oP 11 (.bin .eql (.t 7) (.t 10)), oP 12 (.mv (.t 11)), oG 13 12 true (.fa 1 (.t 3)), oG 14 12 true (.ld 1 false (.t 13)), oG 15 12 true (.len (.t 14)),
  oG 16 12 true (.fa 2 (.t 2)), oG 17 12 true (.ld 1 false (.t 16)), oG 18 12 true (.len (.t 17)), oG 19 12 true (.bin .eql (.t 15) (.t 18)), oP 20 (.pick (.t 12) (.t 19) (cB false)), oP 4 (.mv (.t 20))]) .ret))
def r126 : List RV := [(.tmp 4)]
theorem c126_ok : ∃ code, Try.f126.body = some code ∧ compC Try.prog Try.f126.ntmps code = some (C.strip c126) := ⟨_, rfl, by kernel_rfl⟩
theorem r126_ok : compRes Try.prog Try.f126.results.toList = some r126 := by kernel_rfl
theorem f126_ok : fnOk Try.prog 126 = true := by kernel_rfl
def c130_1 : C := (.ops false [oP 15 (.mv (.t 5)), oP 16 (.bin .add (.t 15) (cI 1)), oP 5 (.mv (.t 16))])
def c130_2 : C := (.seq (.block 1 (.seq (.ops true [oP 17 (.mv (.t 0)), oP 18 (.mv (.t 5)), oA 19 (.iaS 1 (.t 17) (.t 18)) [1, 0], oA 20 (.ld 1 false (.t 19)) [0, 1, 2], oP 21 (.mv (.t 1)), oP 22 (.mv (.t 5)), oA 23 (.iaS 1 (.t 21) (.t 22)) [5, 4], oA 24 (.ld 1 false (.t 23)) [4, 5, 6], oA 25 (.bin .neq (.t 20) (.t 24)) [6, 5, 4, 2, 1, 0, 7, 3]]) (.cond (.t 25) (.seq (.ops false [oP 4 (.mv (cB false))]) .ret)
  .skip))) c130_1)
def c130_3 : C := (.seq (.seq (.ops false [oP 11 (.mv (.t 5)), oP 12 (.mv (.t 0)), oP 13 (.len (.t 12)), oP 14 (.bin .lss (.t 11) (.t 13))]) (.cond (.t 14) .skip (.exit 0))) c130_2)
def c130_4 : C := (.seq (.ops false [oP 4 (.mv (cB true))]) .ret)
def c130_5 : C := (.seq (.seq (.ops false [oP 5 (.mv (cI 0))]) (.block 0 (.loop c130_3))) c130_4)
def c130 : C := (.seq (.ops false [oP 4 (.mv (cB false))]) (.seq (.seq (.ops false [oP 6 (.mv (.t 0)), oP 7 (.len (.t 6)), oP 8 (.mv (.t 1)), oP 9 (.len (.t 8)), oP 10 (.bin .neq (.t 7) (.t 9))]) (.cond (.t 10) (.seq (.ops false [oP 4 (.mv (cB false))]) .ret) .skip)) c130_5))
def r130 : List RV := [(.tmp 4)]
theorem c130_ok : ∃ code, Try.f130.body = some code ∧ compC Try.prog Try.f130.ntmps code = some (C.strip c130) := ⟨_, rfl, by kernel_rfl⟩
theorem r130_ok : compRes Try.prog Try.f130.results.toList = some r130 := by kernel_rfl
theorem f130_ok : fnOk Try.prog 130 = true := by kernel_rfl
def c155 : C := (.seq (.ops false [oP 1 (.box 6 (.t 0)), oP 2 (.mv (cI 0))]) (.seq (.ops false [oP 3 (.fa 1 (.t 1)), oP 4 (.ld 1 false (.t 3)), oP 5 (.len (.t 4)), oP 6 (.fa 2 (.t 1)), oP 7 (.ld 1 false (.t 6)), oP 8 (.len (.t 7)), oP 9 (.bin .add (.t 5) (.t 8)), oP 2 (.mv (.t 9))]) .ret))
def r155 : List RV := [(.tmp 2)]
theorem c155_ok : ∃ code, Try.f155.body = some code ∧ compC Try.prog Try.f155.ntmps code = some (C.strip c155) := ⟨_, rfl, by kernel_rfl⟩
theorem r155_ok : compRes Try.prog Try.f155.results.toList = some r155 := by kernel_rfl
theorem f155_ok : fnOk Try.prog 155 = true := by kernel_rfl
def c156 : C := (.seq (.ops false [oP 1 (.box 4 (.t 0)), oP 2 (.mv (cB false))]) (.seq (.ops false [oP 3 (.fa 0 (.t 1)), oP 4 (.ld 1 false (.t 3)), oP 5 (.bin .geq (.t 4) (cI 1)), oP 6 (.mv (.t 5)), oG 7 6 true (.fa 0 (.t 1)), oG 8 6 true (.ld 1 false (.t 7)), oG 9 6 true (.bin .leq (.t 8) (cI 60)), oP 10 (.pick (.t 6) (.t 9) (cB false)), oP 11 (.mv (.t 10)), oG 12 11 true (.fa 1 (.t 1)),
  oG 13 11 true (.ld 1 false (.t 12)), oG 14 11 true (.bin .geq (.t 13) (cI 0)), oP 15 (.pick (.t 11) (.t 14) (cB false)), oP 16 (.mv (.t 15)), oG 17 16 true (.fa 1 (.t 1)), oG 18 16 true (.ld 1 false (.t 17)), oG 19 16 true (.fa 0 (.t 1)), oG 20 16 true (.ld 1 false (.t 19)), oG 21 16 true (.bin .leq (.t 18) (.t 20)), oP 22 (.pick (.t 16) (.t 21) (cB false)), oP 2 (.mv (.t 22))]) .ret))
def r156 : List RV := [(.tmp 2)]
theorem c156_ok : ∃ code, Try.f156.body = some code ∧ compC Try.prog Try.f156.ntmps code = some (C.strip c156) := ⟨_, rfl, by kernel_rfl⟩
theorem r156_ok : compRes Try.prog Try.f156.results.toList = some r156 := by kernel_rfl
theorem f156_ok : fnOk Try.prog 156 = true := by kernel_rfl
def c157 : C := (.seq (.ops false [oP 1 (.box 4 (.t 0)), oP 2 (.mv (cB false))]) (.seq (.ops false [oP 3 (.ld 4 true (.t 1)), oB 4 (.call 156 [(.t 3)]), oP 5 (.mv (.t 4)), oG 6 5 true (.fa 1 (.t 1)), oG 7 5 true (.ld 1 false (.t 6)), oG 8 5 true (.fa 0 (.t 1)), oG 9 5 true (.ld 1 false (.t 8)), oG 10 5 true (.bin .eql (.t 7) (.t 9)), oP 11 (.pick (.t 5) (.t 10) (cB false)), oP 2 (.mv (.t 11))]) .ret))
def r157 : List RV := [(.tmp 2)]
theorem c157_ok : ∃ code, Try.f157.body = some code ∧ compC Try.prog Try.f157.ntmps code = some (C.strip c157) := ⟨_, rfl, by kernel_rfl⟩
theorem r157_ok : compRes Try.prog Try.f157.results.toList = some r157 := by kernel_rfl
theorem f157_ok : fnOk Try.prog 157 = true := by kernel_rfl
def c159 : C := (.seq (.ops false [oP 1 (.box 4 (.t 0)), oP 2 (.mv (cB false))]) (.seq (.ops false [oP 3 (.ld 4 true (.t 1)), oB 4 (.call 178 [(.t 3)]), oP 5 (.mv (.t 4)), oG 6 5 true (.fa 1 (.t 1)), oG 7 5 true (.ld 1 false (.t 6)), oG 8 5 true (.fa 0 (.t 1)), oG 9 5 true (.ld 1 false (.t 8)), oG 10 5 true (.bin .eql (.t 7) (.t 9)), oP 11 (.pick (.t 5) (.t 10) (cB false)), oP 2 (.mv (.t 11))]) .ret))
def r159 : List RV := [(.tmp 2)]
theorem c159_ok : ∃ code, Try.f159.body = some code ∧ compC Try.prog Try.f159.ntmps code = some (C.strip c159) := ⟨_, rfl, by kernel_rfl⟩
theorem r159_ok : compRes Try.prog Try.f159.results.toList = some r159 := by kernel_rfl
theorem f159_ok : fnOk Try.prog 159 = true := by kernel_rfl
def c178 : C := (.seq (.ops false [oP 1 (.box 4 (.t 0)), oP 2 (.mv (cB false))]) (.seq (.ops false [oP 3 (.fa 0 (.t 1)), oP 4 (.ld 1 false (.t 3)), oP 5 (.bin .geq (.t 4) (cI 1)), oP 6 (.mv (.t 5)), oG 7 6 true (.fa 0 (.t 1)), oG 8 6 true (.ld 1 false (.t 7)), oG 9 6 true (.bin .leq (.t 8) (cI 60)), oP 10 (.pick (.t 6) (.t 9) (cB false)), oP 11 (.mv (.t 10)), oG 12 11 true (.fa 1 (.t 1)),
  oG 13 11 true (.ld 1 false (.t 12)), oG 14 11 true (.bin .geq (.t 13) (cI 0)), oP 15 (.pick (.t 11) (.t 14) (cB false)), oP 16 (.mv (.t 15)), oG 17 16 true (.fa 1 (.t 1)), oG 18 16 true (.ld 1 false (.t 17)), oG 19 16 true (.fa 0 (.t 1)), oG 20 16 true (.ld 1 false (.t 19)), oG 21 16 true (.bin .leq (.t 18) (.t 20)), oP 22 (.pick (.t 16) (.t 21) (cB false)), oP 2 (.mv (.t 22))]) .ret))
def r178 : List RV := [(.tmp 2)]
theorem c178_ok : ∃ code, Try.f178.body = some code ∧ compC Try.prog Try.f178.ntmps code = some (C.strip c178) := ⟨_, rfl, by kernel_rfl⟩
theorem r178_ok : compRes Try.prog Try.f178.results.toList = some r178 := by kernel_rfl
theorem f178_ok : fnOk Try.prog 178 = true := by kernel_rfl
end Go.Proofs.Ytfkhjkkhdfcnjaa
