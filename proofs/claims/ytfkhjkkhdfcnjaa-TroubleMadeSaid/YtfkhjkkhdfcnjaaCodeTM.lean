/- Compiled code of some functions (printed by a program), each checked by the kernel. -/
import Derived.Test.YtfkhjkkhdfcnjaaV3
import Derived.Test.YtfkhjkkhdfcnjaaProg
namespace Go.Proofs.Ytfkhjkkhdfcnjaa
open Go
set_option maxRecDepth 100000
def c3_1 : C := (.block 2 (.ops false [oP 97 (.mv (.t 13)), oP 98 (.mv (.t 13)), oP 99 (.iaS 5 (.t 98) (cI 0)), oP 100 (.ld 5 true (.t 99)), oP 101 (.bsl 5 1 [(.v (.int .i64 0)), (.v (.int .i64 0)), (.v (.int .i64 0)), (.v (.int .i64 0)), (.v (.int .i64 0))] [(0, (.t 100))]), oP 102 (.app 5 40 (.t 97) (.t 101)), oP 13 (.mv (.t 102))]))
def c3_2 : C := (.seq (.seq (.ops false [oP 91 (.mv (.t 13)), oP 92 (.len (.t 91)), oP 93 (.mv (.t 2)), oB 94 (.call 20 [(.t 93), (cI 3)]), oP 95 (.bin .add (cI 31) (.t 94)), oP 96 (.bin .leq (.t 92) (.t 95))]) (.cond (.t 96) .skip (.exit 1))) c3_1)
def c3_3 : C := (.block 0 (.seq (.ops false [oP 39 (.bin .eql (.t 37) (cI 0)), oP 38 (.mv (.t 39))]) (.cond (.t 38) (.ops false [oP 40 (.mv (.t 14)), oP 41 (.mv (.t 2)), oB 42 (.call 20 [(.t 41), (cI 7)]), oP 43 (.bin .sub (.t 42) (cI 1)), oP 44 (.nck (.t 40)), oP 45 (.fa 0 (.t 44)), oS (.st 1 (.t 45) (.t 43))]) (.seq (.ops false [oP 47 (.bin .eql (.t 37) (cI 1)), oP 46 (.mv (.t 47))]) (.cond (.t 46)
  (.ops false [oP 48 (.mv (.t 14)), oP 49 (.mv (.t 2)), oB 50 (.call 20 [(.t 49), (cI 60)]), oP 51 (.bin .sub (.t 50) (cI 2)), oP 52 (.nck (.t 48)), oP 53 (.fa 1 (.t 52)), oS (.st 1 (.t 53) (.t 51))]) (.seq (.ops false [oP 55 (.bin .eql (.t 37) (cI 2)), oP 54 (.mv (.t 55))]) (.cond (.t 54) (.ops false [oP 56 (.mv (.t 14)), oP 57 (.mv (.t 2)), oP 58 (.nck (.t 56)), oP 59 (.fa 2 (.t 58)),
  oS (.st 1 (.t 59) (.t 57))]) (.seq (.ops false [oP 61 (.bin .eql (.t 37) (cI 3)), oP 60 (.mv (.t 61))]) (.cond (.t 60) (.ops false [oP 62 (.mv (.t 14)), oP 63 (.mv (.t 14)), oP 64 (.nck (.t 63)), oP 65 (.fa 3 (.t 64)), oP 66 (.ld 1 false (.t 65)), oP 67 (.bin .sub (.t 66) (cI 1)), oP 68 (.nck (.t 62)), oP 69 (.fa 4 (.t 68)), oS (.st 1 (.t 69) (.t 67))]) (.seq (.ops false [oP 71 (.bin .eql (.t 37)
  (cI 4)), oP 70 (.mv (.t 71))]) (.cond (.t 70) (.ops false [oP 72 (.mv (.t 14)), oP 73 (.nck (.t 72)), oP 74 (.fa 3 (.t 73)), oS (.st 1 (.t 74) (cI (-1)))]) (.seq (.ops false [oP 76 (.bin .eql (.t 37) (cI 5)), oP 75 (.mv (.t 76))]) (.cond (.t 75) (.ops false [oP 77 (.mv (.t 14)), oP 78 (.mv (.t 2)), oB 79 (.call 20 [(.t 78), (cI 3)]), oP 80 (.bin .add (cI 1099511627776) (.t 79)),
  oP 81 (.bin .sub (.t 80) (cI 1)), oP 82 (.nck (.t 77)), oP 83 (.fa 4 (.t 82)), oS (.st 1 (.t 83) (.t 81))]) (.seq (.ops false [oP 85 (.bin .eql (.t 37) (cI 6)), oP 84 (.mv (.t 85))]) (.cond (.t 84) (.ops false [oP 86 (.mv (.t 11)), oP 87 (.ld 6 true (.t 12)), oP 88 (.call 21 [(.t 86), (.t 87)]), oS (.st 6 (.t 12) (.t 88))]) (.seq (.ops false [oP 90 (.bin .eql (.t 37) (cI 7)), oP 89 (.mv (.t 90))])
  (.cond (.t 89) (.block 1 (.loop c3_2)) .skip)))))))))))))))))
def c3_4 : C := (.seq (.block 4 (.ops false [oP 116 (.mv (.t 13)), oP 117 (.mv (.t 15)), oP 118 (.mv (.t 13)), oP 119 (.mv (.t 15)), oP 120 (.iaS 5 (.t 118) (.t 119)), oP 121 (.fa 2 (.t 120)), oP 122 (.ld 1 false (.t 121)), oP 123 (.mnx false (cI 1099511627776) (.t 122)), oP 124 (.mnx true (cI (-1099511627776)) (.t 123)), oP 125 (.iaS 5 (.t 116) (.t 117)), oP 126 (.fa 2 (.t 125)), oS (.st 1 (.t 126) (.t 124))]))
  (.ops false [oP 114 (.mv (.t 15)), oP 115 (.bin .add (.t 114) (cI 1)), oP 15 (.mv (.t 115))]))
def c3_5 : C := (.seq (.seq (.ops false [oP 110 (.mv (.t 15)), oP 111 (.mv (.t 13)), oP 112 (.len (.t 111)), oP 113 (.bin .lss (.t 110) (.t 112))]) (.cond (.t 113) .skip (.exit 3))) c3_4)
def c3_6 : C := (.seq (.ops false [oP 127 (.mv (.t 13)), oP 128 (.len (.t 127)), oP 129 (.bin .gtr (.t 128) (cI 32)), oP 130 (.mv (.t 129)), oG 131 130 false (.mv (.t 13)), oG 132 130 false (.mv (.t 3)), ⟨(.some 133), (.some (130, false)), (.call 20 [(.t 132), (cI 12)]), 133, [], true⟩, oG 134 130 false (.mv (.t 4)), ⟨(.some 135), (.some (130, false)), (.call 20 [(.t 134), (cI 120)]), 135, [], true⟩,
  oG 136 130 false (.bin .sub (.t 135) (cI 3)), ⟨(.some 137), (.some (130, false)), (.call 24 [(.t 131), (.t 133), (.t 136)]), 137, [], true⟩, oG 138 130 false (.mv (.t 137)), oG 139 138 true (.mv (.t 13)), oG 140 138 true (.mv (.t 3)), ⟨(.some 141), (.some (138, true)), (.call 20 [(.t 140), (cI 40)]), 141, [], true⟩, oG 142 138 true (.bin .sub (.t 141) (cI 1)), oG 143 138 true (.mv (.t 4)),
  ⟨(.some 144), (.some (138, true)), (.call 24 [(.t 139), (.t 142), (.t 143)]), 144, [], true⟩, oG 145 130 false (.pick (.t 138) (.t 144) (cB false)), oP 146 (.pick (.t 130) (cB true) (.t 145)), oP 147 (.mv (.t 146)), ⟨(.some 148), (.some (147, true)), (.call 16 []), 148, [], true⟩, oP 149 (.pick (.t 147) (.t 148) (cB false)), oP 10 (.mv (.t 149))]) .ret)
def c3_7 : C := (.seq (.seq (.ops false [oP 15 (.mv (cI 0))]) (.block 3 (.loop c3_5))) c3_6)
def c3_8 : C := (.seq (.seq (.ops true [oP 103 (.ld 6 true (.t 12)), oP 104 (.mv (.t 13)), ⟨(.some 105), Option.none, (.call 22 [(.t 103), (.t 104)]), 105, [1, 0], true⟩, oP 106 (.ld 6 true (.t 12)), oP 107 (.mv (.t 13)), ⟨(.some 108), Option.none, (.call 23 [(.t 106), (.t 107)]), 108, [0, 1, 2, 4, 3], true⟩, oA 109 (.bin .neq (.t 105) (.t 108)) [3, 4, 0, 1, 5, 2]]) (.cond (.t 109)
  (.seq (.ops false [oP 10 (.mv (cB false))]) .ret) .skip)) c3_7)
def c3_9 : C := (.seq (.ops false [oP 20 (.mv (.t 0)), oP 21 (.call 17 [(.t 20)]), oP 11 (.mv (.t 21))]) (.seq (.ops false [oP 22 (.mv (.t 11)), oP 23 (.call 18 [(.t 22)]), oP 12 (.new [.mt, .mt, .mt, .mt, (.v (.int .i64 0)), (.v (.int .i64 0))]), oS (.st 6 (.t 12) (.t 23))]) (.seq (.ops false [oP 24 (.mv (.t 11)), oP 25 (.ld 6 true (.t 12)), oP 26 (.call 19 [(.t 24), (.t 25), (cI 12)]), oP 13 (.mv (.t 26))])
  (.seq (.seq (.ops false [oP 27 (.mv (.t 13)), oP 28 (.len (.t 27)), oP 29 (.bin .gtr (.t 28) (cI 0))]) (.cond (.t 29) (.seq (.ops false [oP 30 (.mv (.t 13)), oP 31 (.mv (.t 2)), oP 32 (.mv (.t 13)), oP 33 (.len (.t 32)), oB 34 (.call 20 [(.t 31), (.t 33)]), oP 35 (.iaS 5 (.t 30) (.t 34)), oP 14 (.mv (.t 35))]) (.seq (.ops false [oP 36 (.mv (.t 1)), oB 37 (.call 20 [(.t 36), (cI 14)])])
  (.weak c3_3))) .skip)) (.weak c3_8)))))
def c3 : C := (.seq (.ops false [oP 10 (.mv (cB false))]) (.seq (.seq (.ops false [oP 16 (.mv (.t 0)), oB 17 (.call 15 [(.t 16)]), oP 18 (.not (.t 17))]) (.cond (.t 18) (.seq (.ops false [oB 19 (.call 16 []), oP 10 (.mv (.t 19))]) .ret) .skip)) c3_9))
def r3 : List RV := [(.tmp 10)]
theorem c3_ok : ∃ code, Try.f3.body = some code ∧ compC Try.prog Try.f3.ntmps code = some (C.strip c3) := ⟨_, rfl, by kernel_rfl⟩
theorem r3_ok : compRes Try.prog Try.f3.results.toList = some r3 := by kernel_rfl
theorem f3_ok : fnOk Try.prog 3 = true := by kernel_rfl
def c20 : C := (.seq (.ops false [oP 4 (.mv (cI 0))]) (.seq (.ops false [oP 5 (.mv (.t 0)), oP 6 (.mv (.t 1)), oB 7 (.call 77 [(.t 5), (.t 6)]), oP 4 (.mv (.t 7))]) .ret))
def r20 : List RV := [(.tmp 4)]
theorem c20_ok : ∃ code, Try.f20.body = some code ∧ compC Try.prog Try.f20.ntmps code = some (C.strip c20) := ⟨_, rfl, by kernel_rfl⟩
theorem r20_ok : compRes Try.prog Try.f20.results.toList = some r20 := by kernel_rfl
theorem f20_ok : fnOk Try.prog 20 = true := by kernel_rfl
def c23_1 : C := (.ops false [oP 19 (.mv (.t 6)), oP 20 (.bin .add (.t 19) (cI 1)), oP 6 (.mv (.t 20))])
def c23_2 : C := (.seq (.block 1 (.seq (.ops true [oP 21 (.ld 6 true (.t 2)), oP 22 (.mv (.t 1)), oP 23 (.mv (.t 6)), oA 24 (.iaS 5 (.t 22) (.t 23)) [2, 1], oA 25 (.ld 5 true (.t 24)) [1, 2, 3], ⟨(.some 26), Option.none, (.call 83 [(.t 21), (.t 25)]), 26, [3, 2, 1, 4, 0], true⟩, oA 27 (.not (.t 26)) [0, 4, 1, 2, 3, 5]]) (.cond (.t 27) (.seq (.ops false [oP 4 (.mv (cI 30))]) .ret) .skip))) c23_1)
def c23_3 : C := (.seq (.seq (.ops false [oP 15 (.mv (.t 6)), oP 16 (.mv (.t 1)), oP 17 (.len (.t 16)), oP 18 (.bin .lss (.t 15) (.t 17))]) (.cond (.t 18) .skip (.exit 0))) c23_2)
def c23_4 : C := (.seq (.ops false [oP 4 (.mv (cI 0))]) .ret)
def c23_5 : C := (.seq (.seq (.ops false [oP 6 (.mv (cI 0))]) (.block 0 (.loop c23_3))) c23_4)
def c23_6 : C := (.seq (.seq (.ops false [oP 12 (.mv (.t 1)), oP 13 (.len (.t 12)), oP 14 (.bin .gtr (.t 13) (cI 32))]) (.cond (.t 14) (.seq (.ops false [oP 4 (.mv (cI 4))]) .ret) .skip)) c23_5)
def c23 : C := (.seq (.ops false [oP 2 (.box 6 (.t 0)), oP 4 (.mv (cI 0))]) (.seq (.seq (.ops false [oP 7 (.ld 6 true (.t 2)), oB 8 (.call 34 [(.t 7)]), oP 5 (.mv (.t 8))]) (.seq (.ops false [oP 9 (.mv (.t 5)), oP 10 (.bin .neq (.t 9) (cI 0))]) (.cond (.t 10) (.seq (.ops false [oP 11 (.mv (.t 5)), oP 4 (.mv (.t 11))]) .ret) .skip))) c23_6))
def r23 : List RV := [(.tmp 4)]
theorem c23_ok : ∃ code, Try.f23.body = some code ∧ compC Try.prog Try.f23.ntmps code = some (C.strip c23) := ⟨_, rfl, by kernel_rfl⟩
theorem r23_ok : compRes Try.prog Try.f23.results.toList = some r23 := by kernel_rfl
theorem f23_ok : fnOk Try.prog 23 = true := by kernel_rfl
def c24 : C := (.seq (.ops false [oP 6 (.mv (cB false))]) (.seq (.ops false [oP 12 (.mv (.t 0)), oP 13 (.mv (.t 2)), oB 14 (.call 72 [(.t 12), (.t 13)]), oP 11 (.mv (.t 14)), oP 15 (.ext (.t 11) 0), oP 16 (.ext (.t 11) 1), oP 7 (.mv (.t 15)), oP 8 (.mv (.t 16))]) (.seq (.ops false [oP 18 (.mv (.t 0)), oP 19 (.mv (.t 2)), oB 20 (.call 84 [(.t 18), (.t 19)]), oP 17 (.mv (.t 20)), oP 21 (.ext (.t 17) 0),
  oP 22 (.ext (.t 17) 1), oP 9 (.mv (.t 21)), oP 10 (.mv (.t 22))]) (.seq (.ops false [oP 23 (.mv (.t 7)), oP 24 (.mv (.t 9)), oP 25 (.bin .eql (.t 23) (.t 24)), oP 26 (.mv (.t 25)), oG 27 26 true (.mv (.t 8)), oG 28 26 true (.mv (.t 10)), oG 29 26 true (.beq false (.t 27) (.t 28)), oP 30 (.pick (.t 26) (.t 29) (cB false)), oP 31 (.mv (.t 30)), oG 32 31 true (.mv (.t 0)), oG 33 31 true (.mv (.t 1)),
  oG 34 31 true (.mv (.t 2)), ⟨(.some 35), (.some (31, true)), (.call 73 [(.t 32), (.t 33), (.t 34)]), 35, [], true⟩, oG 36 31 true (.mv (.t 0)), oG 37 31 true (.mv (.t 1)), oG 38 31 true (.mv (.t 2)), ⟨(.some 39), (.some (31, true)), (.call 85 [(.t 36), (.t 37), (.t 38)]), 39, [], true⟩, oG 40 31 true (.bin .eql (.t 35) (.t 39)), oP 41 (.pick (.t 31) (.t 40) (cB false)), oP 42 (.mv (.t 41)),
  oG 43 42 true (.mv (.t 0)), oG 44 42 true (.mv (.t 1)), oG 45 42 true (.mv (.t 2)), ⟨(.some 46), (.some (42, true)), (.call 86 [(.t 43), (.t 44), (.t 45)]), 46, [], true⟩, oG 47 42 true (.mv (.t 0)), oG 48 42 true (.mv (.t 1)), oG 49 42 true (.mv (.t 2)), ⟨(.some 50), (.some (42, true)), (.call 87 [(.t 47), (.t 48), (.t 49)]), 50, [], true⟩, oG 51 42 true (.bin .eql (.t 46) (.t 50)),
  oP 52 (.pick (.t 42) (.t 51) (cB false)), oP 53 (.mv (.t 52)), oG 54 53 true (.mv (.t 0)), oG 55 53 true (.mv (.t 1)), oG 56 53 true (.mv (.t 2)), ⟨(.some 57), (.some (53, true)), (.call 88 [(.t 54), (.t 55), (.t 56)]), 57, [], true⟩, oG 58 53 true (.mv (.t 0)), oG 59 53 true (.mv (.t 1)), oG 60 53 true (.mv (.t 2)), ⟨(.some 61), (.some (53, true)), (.call 89 [(.t 58), (.t 59), (.t 60)]), 61, [],
  true⟩, oG 62 53 true (.beq false (.t 57) (.t 61)), oP 63 (.pick (.t 53) (.t 62) (cB false)), oP 64 (.mv (.t 63)), oG 65 64 true (.mv (.t 0)), oG 66 64 true (.mv (.t 1)), oG 67 64 true (.mv (.t 2)), ⟨(.some 68), (.some (64, true)), (.call 90 [(.t 65), (.t 66), (.t 67)]), 68, [], true⟩, oG 69 64 true (.mv (.t 0)), oG 70 64 true (.mv (.t 1)), oG 71 64 true (.mv (.t 2)), ⟨(.some 72), (.some (64,
  true)), (.call 91 [(.t 69), (.t 70), (.t 71)]), 72, [], true⟩, oG 73 64 true (.beq false (.t 68) (.t 72)), oP 74 (.pick (.t 64) (.t 73) (cB false)), oP 6 (.mv (.t 74))]) .ret))))
def r24 : List RV := [(.tmp 6)]
theorem c24_ok : ∃ code, Try.f24.body = some code ∧ compC Try.prog Try.f24.ntmps code = some (C.strip c24) := ⟨_, rfl, by kernel_rfl⟩
theorem r24_ok : compRes Try.prog Try.f24.results.toList = some r24 := by kernel_rfl
theorem f24_ok : fnOk Try.prog 24 = true := by kernel_rfl
def c83_1 : C := (.seq (.ops false [oP 4 (.mv (cB false))]) .ret)
def c83_2 : C := (.seq (.seq (.ops false [oP 25 (.fa 0 (.t 3)), oP 26 (.ld 1 false (.t 25))]) (.block 0 (.seq (.ops false [oP 28 (.bin .eql (.t 26) (cI 1)), oP 27 (.mv (.t 28))]) (.cond (.t 27) (.seq (.ops false [oP 29 (.fa 1 (.t 3)), oP 30 (.ld 1 false (.t 29)), oP 31 (.fa 1 (.t 2)), oP 32 (.ld 1 false (.t 31)), oP 33 (.len (.t 32)), oP 34 (.bin .lss (.t 30) (.t 33)), oP 35 (.mv (.t 34)),
  oG 36 35 true (.fa 2 (.t 3)), oG 37 35 true (.ld 1 false (.t 36)), oG 38 35 true (.bin .geq (.t 37) (cI 1)), oP 39 (.pick (.t 35) (.t 38) (cB false)), oP 40 (.mv (.t 39)), oG 41 40 true (.fa 2 (.t 3)), oG 42 40 true (.ld 1 false (.t 41)), oG 43 40 true (.bin .leq (.t 42) (cI 1000)), oP 44 (.pick (.t 40) (.t 43) (cB false)), oP 4 (.mv (.t 44))]) .ret) (.seq (.ops false [oP 46 (.bin .eql (.t 26)
  (cI 2)), oP 45 (.mv (.t 46))]) (.cond (.t 45) (.seq (.ops false [oP 47 (.fa 1 (.t 3)), oP 48 (.ld 1 false (.t 47)), oP 49 (.fa 2 (.t 2)), oP 50 (.ld 1 false (.t 49)), oP 51 (.len (.t 50)), oP 52 (.bin .lss (.t 48) (.t 51)), oP 53 (.mv (.t 52)), oG 54 53 true (.fa 2 (.t 3)), oG 55 53 true (.ld 1 false (.t 54)), oG 56 53 true (.bin .geq (.t 55) (cI (-100000))), oP 57 (.pick (.t 53) (.t 56)
  (cB false)), oP 58 (.mv (.t 57)), oG 59 58 true (.fa 2 (.t 3)), oG 60 58 true (.ld 1 false (.t 59)), oG 61 58 true (.bin .leq (.t 60) (cI 100000)), oP 62 (.pick (.t 58) (.t 61) (cB false)), oP 4 (.mv (.t 62))]) .ret) (.seq (.ops false [oP 64 (.bin .eql (.t 26) (cI 3)), oP 63 (.mv (.t 64))]) (.cond (.t 63) (.seq (.ops false [oP 65 (.fa 1 (.t 3)), oP 66 (.ld 1 false (.t 65)), oP 67 (.fa 2 (.t 2)),
  oP 68 (.ld 1 false (.t 67)), oP 69 (.len (.t 68)), oP 70 (.bin .lss (.t 66) (.t 69)), oP 71 (.mv (.t 70)), oG 72 71 true (.fa 2 (.t 3)), oG 73 71 true (.ld 1 false (.t 72)), oG 74 71 true (.bin .eql (.t 73) (cI 0)), oP 75 (.pick (.t 71) (.t 74) (cB false)), oP 4 (.mv (.t 75))]) .ret) (.seq (.ops false [oP 77 (.bin .eql (.t 26) (cI 4)), oP 76 (.mv (.t 77))]) (.cond (.t 76)
  (.seq (.ops true [oP 78 (.fa 1 (.t 3)), oA 79 (.ld 1 false (.t 78)) [0], oP 80 (.ld 6 true (.t 2)), ⟨(.some 81), Option.none, (.call 57 [(.t 80)]), 81, [2], true⟩, oA 82 (.bin .lss (.t 79) (.t 81)) [2, 0, 3, 1], oA 83 (.mv (.t 82)) [1, 0, 2, 3, 4], ⟨(.some 84), (.some (83, true)), (.fa 2 (.t 3)), 84, [4, 3, 2, 0, 1, 5], false⟩, ⟨(.some 85), (.some (83, true)), (.ld 1 false (.t 84)), 85, [1, 0, 2,
  3, 4, 5, 6], false⟩, ⟨(.some 86), (.some (83, true)), (.bin .eql (.t 85) (cI 0)), 86, [6, 4, 3, 2, 0, 1, 5, 7], false⟩, oA 87 (.pick (.t 83) (.t 86) (cB false)) [7, 6, 4, 3, 2, 0, 1, 8, 5], oA 4 (.mv (.t 87)) [8, 7, 6, 4, 3, 2, 1, 0, 5, 9]]) .ret) .skip)))))))))) c83_1)
def c83 : C := (.seq (.ops false [oP 2 (.box 6 (.t 0)), oP 3 (.box 5 (.t 1)), oP 4 (.mv (cB false))]) (.seq (.seq (.ops false [oP 5 (.fa 1 (.t 3)), oP 6 (.ld 1 false (.t 5)), oP 7 (.bin .lss (.t 6) (cI 0)), oP 8 (.mv (.t 7)), oG 9 8 false (.fa 3 (.t 3)), oG 10 8 false (.ld 1 false (.t 9)), oG 11 8 false (.bin .lss (.t 10) (cI 0)), oP 12 (.pick (.t 8) (cB true) (.t 11)), oP 13 (.mv (.t 12)),
  oG 14 13 false (.fa 4 (.t 3)), oG 15 13 false (.ld 1 false (.t 14)), oG 16 13 false (.fa 3 (.t 3)), oG 17 13 false (.ld 1 false (.t 16)), oG 18 13 false (.bin .lss (.t 15) (.t 17)), oP 19 (.pick (.t 13) (cB true) (.t 18)), oP 20 (.mv (.t 19)), oG 21 20 false (.fa 4 (.t 3)), oG 22 20 false (.ld 1 false (.t 21)), oG 23 20 false (.bin .gtr (.t 22) (cI 1099511627776)), oP 24 (.pick (.t 20) (cB true)
  (.t 23))]) (.cond (.t 24) (.seq (.ops false [oP 4 (.mv (cB false))]) .ret) .skip)) c83_2))
def r83 : List RV := [(.tmp 4)]
theorem c83_ok : ∃ code, Try.f83.body = some code ∧ compC Try.prog Try.f83.ntmps code = some (C.strip c83) := ⟨_, rfl, by kernel_rfl⟩
theorem r83_ok : compRes Try.prog Try.f83.results.toList = some r83 := by kernel_rfl
theorem f83_ok : fnOk Try.prog 83 = true := by kernel_rfl
def c84_1 : C := (.ops false [oP 43 (.mv (.t 10)), oP 44 (.bin .add (.t 43) (cI 1)), oP 10 (.mv (.t 44))])
def c84_2 : C := (.seq (.block 3 (.seq (.ops false [oP 45 (.mv (.t 9)), oP 46 (.mv (.t 10)), oP 47 (.iaS 1 (.t 45) (.t 46)), oP 48 (.ld 1 false (.t 47)), oP 49 (.mv (.t 1)), oP 50 (.bin .gtr (.t 48) (.t 49)), oP 51 (.mv (.t 50)), oG 52 51 true (.mv (.t 7)), oG 53 51 true (.not (.t 52)), oG 54 51 true (.mv (.t 53)), oG 55 54 false (.mv (.t 9)), oG 56 54 false (.mv (.t 10)), oG 57 54 false (.iaS 1 (.t 55) (.t 56)),
  oG 58 54 false (.ld 1 false (.t 57)), oG 59 54 false (.mv (.t 6)), oG 60 54 false (.bin .lss (.t 58) (.t 59)), oG 61 51 true (.pick (.t 54) (cB true) (.t 60)), oP 62 (.pick (.t 51) (.t 61) (cB false))]) (.cond (.t 62) (.ops false [oP 63 (.mv (.t 9)), oP 64 (.mv (.t 10)), oP 65 (.iaS 1 (.t 63) (.t 64)), oP 66 (.ld 1 false (.t 65)), oP 6 (.mv (.t 66)), oP 7 (.mv (cB true))]) .skip))) c84_1)
def c84_3 : C := (.seq (.seq (.ops false [oP 39 (.mv (.t 10)), oP 40 (.mv (.t 9)), oP 41 (.len (.t 40)), oP 42 (.bin .lss (.t 39) (.t 41))]) (.cond (.t 42) .skip (.exit 2))) c84_2)
def c84_4 : C := (.seq (.ops true [oP 28 (.mv (.t 0)), oP 29 (.mv (.t 8)), oA 30 (.iaS 5 (.t 28) (.t 29)) [1, 0], oA 31 (.fa 3 (.t 30)) [0, 1, 2], oA 32 (.ld 1 false (.t 31)) [2, 1, 0, 3], oP 33 (.mv (.t 0)), oP 34 (.mv (.t 8)), oA 35 (.iaS 5 (.t 33) (.t 34)) [6, 5], oA 36 (.fa 4 (.t 35)) [5, 6, 7], oA 37 (.ld 1 false (.t 36)) [7, 6, 5, 8], oA 38 (.bsl 1 2 [(.v (.int .i64 0))] [(0, (.t 32)), (1, (.t 37))]) [8, 5,
  6, 7, 3, 0, 1, 2, 9, 4], oA 9 (.mv (.t 38)) [9, 8, 7, 6, 5, 4, 3, 2, 1, 0, 10]]) (.seq (.ops false [oP 10 (.mv (cI 0))]) (.block 2 (.loop c84_3))))
def c84_5 : C := (.ops false [oP 15 (.mv (.t 8)), oP 16 (.bin .add (.t 15) (cI 1)), oP 8 (.mv (.t 16))])
def c84_6 : C := (.seq (.block 1 (.seq (.seq (.ops true [oP 17 (.mv (.t 0)), oP 18 (.mv (.t 8)), oA 19 (.iaS 5 (.t 17) (.t 18)) [1, 0], oA 20 (.fa 3 (.t 19)) [0, 1, 2], oA 21 (.ld 1 false (.t 20)) [2, 1, 0, 3], oP 22 (.mv (.t 0)), oP 23 (.mv (.t 8)), oA 24 (.iaS 5 (.t 22) (.t 23)) [6, 5], oA 25 (.fa 4 (.t 24)) [5, 6, 7], oA 26 (.ld 1 false (.t 25)) [7, 6, 5, 8], oA 27 (.bin .geq (.t 21) (.t 26)) [8, 5, 6, 7, 3, 0,
  1, 2, 9, 4]]) (.cond (.t 27) (.exit 1) .skip)) c84_4)) c84_5)
def c84_7 : C := (.seq (.seq (.ops false [oP 11 (.mv (.t 8)), oP 12 (.mv (.t 0)), oP 13 (.len (.t 12)), oP 14 (.bin .lss (.t 11) (.t 13))]) (.cond (.t 14) .skip (.exit 0))) c84_6)
def c84_8 : C := (.seq (.ops false [oP 67 (.mv (.t 6)), oP 68 (.mv (.t 7)), oP 4 (.mv (.t 67)), oP 5 (.mv (.t 68))]) .ret)
def c84 : C := (.seq (.ops false [oP 4 (.mv (cI 0)), oP 5 (.mv (cB false))]) (.seq (.ops false [oP 6 (.mv (cI 0)), oP 7 (.mv (cB false))]) (.seq (.seq (.ops false [oP 8 (.mv (cI 0))]) (.block 0 (.loop c84_7))) c84_8)))
def r84 : List RV := [(.tmp 4), (.tmp 5)]
theorem c84_ok : ∃ code, Try.f84.body = some code ∧ compC Try.prog Try.f84.ntmps code = some (C.strip c84) := ⟨_, rfl, by kernel_rfl⟩
theorem r84_ok : compRes Try.prog Try.f84.results.toList = some r84 := by kernel_rfl
theorem f84_ok : fnOk Try.prog 84 = true := by kernel_rfl
def c85 : C := (.seq (.ops false [oP 6 (.mv (cI 0))]) (.seq (.ops false [oP 10 (.mv (.t 0)), oP 11 (.mv (.t 1)), oP 12 (.mv (.t 2)), oB 13 (.call 146 [(.t 10), (cI 1), (.t 11), (.t 12)]), oP 9 (.mv (.t 13)), oP 14 (.ext (.t 9) 0), oP 15 (.ext (.t 9) 1), oP 7 (.mv (.t 14)), oP 8 (.mv (.t 15))]) (.seq (.ops false [oP 16 (.mv (.t 7)), oP 6 (.mv (.t 16))]) .ret)))
def r85 : List RV := [(.tmp 6)]
theorem c85_ok : ∃ code, Try.f85.body = some code ∧ compC Try.prog Try.f85.ntmps code = some (C.strip c85) := ⟨_, rfl, by kernel_rfl⟩
theorem r85_ok : compRes Try.prog Try.f85.results.toList = some r85 := by kernel_rfl
theorem f85_ok : fnOk Try.prog 85 = true := by kernel_rfl
def c87 : C := (.seq (.ops false [oP 6 (.mv (cI 0))]) (.seq (.ops false [oP 10 (.mv (.t 0)), oP 11 (.mv (.t 1)), oP 12 (.mv (.t 2)), oB 13 (.call 146 [(.t 10), (cI 2), (.t 11), (.t 12)]), oP 9 (.mv (.t 13)), oP 14 (.ext (.t 9) 0), oP 15 (.ext (.t 9) 1), oP 7 (.mv (.t 14)), oP 8 (.mv (.t 15))]) (.seq (.ops false [oP 16 (.mv (.t 7)), oP 6 (.mv (.t 16))]) .ret)))
def r87 : List RV := [(.tmp 6)]
theorem c87_ok : ∃ code, Try.f87.body = some code ∧ compC Try.prog Try.f87.ntmps code = some (C.strip c87) := ⟨_, rfl, by kernel_rfl⟩
theorem r87_ok : compRes Try.prog Try.f87.results.toList = some r87 := by kernel_rfl
theorem f87_ok : fnOk Try.prog 87 = true := by kernel_rfl
def c89 : C := (.seq (.ops false [oP 6 (.mv (cB false))]) (.seq (.ops false [oP 10 (.mv (.t 0)), oP 11 (.mv (.t 1)), oP 12 (.mv (.t 2)), oB 13 (.call 146 [(.t 10), (cI 3), (.t 11), (.t 12)]), oP 9 (.mv (.t 13)), oP 14 (.ext (.t 9) 0), oP 15 (.ext (.t 9) 1), oP 7 (.mv (.t 14)), oP 8 (.mv (.t 15))]) (.seq (.ops false [oP 16 (.mv (.t 8)), oP 17 (.bin .gtr (.t 16) (cI 0)), oP 6 (.mv (.t 17))]) .ret)))
def r89 : List RV := [(.tmp 6)]
theorem c89_ok : ∃ code, Try.f89.body = some code ∧ compC Try.prog Try.f89.ntmps code = some (C.strip c89) := ⟨_, rfl, by kernel_rfl⟩
theorem r89_ok : compRes Try.prog Try.f89.results.toList = some r89 := by kernel_rfl
theorem f89_ok : fnOk Try.prog 89 = true := by kernel_rfl
def c91 : C := (.seq (.ops false [oP 6 (.mv (cB false))]) (.seq (.ops false [oP 10 (.mv (.t 0)), oP 11 (.mv (.t 1)), oP 12 (.mv (.t 2)), oB 13 (.call 146 [(.t 10), (cI 4), (.t 11), (.t 12)]), oP 9 (.mv (.t 13)), oP 14 (.ext (.t 9) 0), oP 15 (.ext (.t 9) 1), oP 7 (.mv (.t 14)), oP 8 (.mv (.t 15))]) (.seq (.ops false [oP 16 (.mv (.t 8)), oP 17 (.bin .gtr (.t 16) (cI 0)), oP 6 (.mv (.t 17))]) .ret)))
def r91 : List RV := [(.tmp 6)]
theorem c91_ok : ∃ code, Try.f91.body = some code ∧ compC Try.prog Try.f91.ntmps code = some (C.strip c91) := ⟨_, rfl, by kernel_rfl⟩
theorem r91_ok : compRes Try.prog Try.f91.results.toList = some r91 := by kernel_rfl
theorem f91_ok : fnOk Try.prog 91 = true := by kernel_rfl
def c146_1 : C := (.ops false [oP 18 (.mv (.t 12)), oP 19 (.bin .add (.t 18) (cI 1)), oP 12 (.mv (.t 19))])
def c146_2 : C := (.seq (.block 1 (.seq (.ops false [oP 20 (.mv (.t 0)), oP 21 (.mv (.t 12)), oP 22 (.iaS 5 (.t 20) (.t 21)), oP 23 (.ld 5 true (.t 22)), oP 13 (.new [(.v (.int .i64 0)), (.v (.int .i64 0)), (.v (.int .i64 0)), (.v (.int .i64 0)), (.v (.int .i64 0))]), oS (.st 5 (.t 13) (.t 23))]) (.seq (.ops false [oP 24 (.fa 0 (.t 13)), oP 25 (.ld 1 false (.t 24)), oP 26 (.mv (.t 1)), oP 27 (.bin .eql (.t 25)
  (.t 26)), oP 28 (.mv (.t 27)), oG 29 28 true (.fa 1 (.t 13)), oG 30 28 true (.ld 1 false (.t 29)), oG 31 28 true (.mv (.t 2)), oG 32 28 true (.bin .eql (.t 30) (.t 31)), oP 33 (.pick (.t 28) (.t 32) (cB false)), oP 34 (.mv (.t 33)), oG 35 34 true (.mv (.t 3)), oG 36 34 true (.fa 3 (.t 13)), oG 37 34 true (.ld 1 false (.t 36)), oG 38 34 true (.bin .geq (.t 35) (.t 37)), oP 39 (.pick (.t 34) (.t 38)
  (cB false)), oP 40 (.mv (.t 39)), oG 41 40 true (.mv (.t 3)), oG 42 40 true (.fa 4 (.t 13)), oG 43 40 true (.ld 1 false (.t 42)), oG 44 40 true (.bin .lss (.t 41) (.t 43)), oP 45 (.pick (.t 40) (.t 44) (cB false))]) (.cond (.t 45) (.ops false [oP 46 (.mv (.t 10)), oP 47 (.fa 2 (.t 13)), oP 48 (.ld 1 false (.t 47)), oP 49 (.bin .add (.t 46) (.t 48)), oP 50 (.mv (.t 11)), oP 51 (.bin .add (.t 50)
  (cI 1)), oP 10 (.mv (.t 49)), oP 11 (.mv (.t 51))]) .skip)))) c146_1)
def c146_3 : C := (.seq (.seq (.ops false [oP 14 (.mv (.t 12)), oP 15 (.mv (.t 0)), oP 16 (.len (.t 15)), oP 17 (.bin .lss (.t 14) (.t 16))]) (.cond (.t 17) .skip (.exit 0))) c146_2)
def c146_4 : C := (.seq (.ops false [oP 52 (.mv (.t 10)), oP 53 (.mv (.t 11)), oP 8 (.mv (.t 52)), oP 9 (.mv (.t 53))]) .ret)
def c146 : C := (.seq (.ops false [oP 8 (.mv (cI 0)), oP 9 (.mv (cI 0))]) (.seq (.ops false [oP 10 (.mv (cI 0)), oP 11 (.mv (cI 0))]) (.seq (.seq (.ops false [oP 12 (.mv (cI 0))]) (.block 0 (.loop c146_3))) c146_4)))
def r146 : List RV := [(.tmp 8), (.tmp 9)]
theorem c146_ok : ∃ code, Try.f146.body = some code ∧ compC Try.prog Try.f146.ntmps code = some (C.strip c146) := ⟨_, rfl, by kernel_rfl⟩
theorem r146_ok : compRes Try.prog Try.f146.results.toList = some r146 := by kernel_rfl
theorem f146_ok : fnOk Try.prog 146 = true := by kernel_rfl
end Go.Proofs.Ytfkhjkkhdfcnjaa
