/- Compiled code of some functions (printed by a program), each checked by the kernel. -/
import Derived.Test.YtemkjjlpggmolaaV3
import Derived.Test.YtemkjjlpggmolaaProg
namespace Go.Proofs.Ytemkjjlpggmolaa
open Go
set_option maxRecDepth 100000
def c57_1 : C := (.ops false [oP 76 (.bin .add (.t 45) (cI 1)), oP 45 (.mv (.t 76))])
def c57_2 : C := (.seq (.block 3 (.seq (.ops false [oP 47 (.mv (.t 45)), oP 15 (.mv (.t 47))]) (.seq (.ops false [oP 49 (.ld 7 true (.t 10)), oP 50 (.mv (.t 15)), oP 51 (.mv (.t 14)), oB 52 (.call 125 [(.t 49), (.t 50), (.t 51)]), oP 48 (.mv (.t 52)), oP 53 (.ext (.t 48) 0), oP 54 (.ext (.t 48) 1), oP 55 (.ext (.t 48) 2), oP 16 (.mv (.t 53)), oP 17 (.mv (.t 54)), oP 18 (.mv (.t 55))])
  (.seq (.ops true [oP 56 (.mv (.t 18)), oA 57 (.mv (.t 56)) [0], ⟨(.some 58), (.some (57, true)), (.mv (.t 12)), 58, [0, 1], false⟩, ⟨(.some 59), (.some (57, true)), (.mv (.t 16)), 59, [0, 1], false⟩, ⟨(.some 60), (.some (57, true)), (.iaS 1 (.t 58) (.t 59)), 60, [0, 1, 3, 2], false⟩, ⟨(.some 61), (.some (57, true)), (.ld 1 false (.t 60)), 61, [2, 3, 0, 1, 4], false⟩, ⟨(.some 62), (.some (57,
  true)), (.mv (.t 12)), 62, [0, 1], false⟩, ⟨(.some 63), (.some (57, true)), (.mv (.t 14)), 63, [0, 1], false⟩, ⟨(.some 64), (.some (57, true)), (.iaS 1 (.t 62) (.t 63)), 64, [0, 1, 7, 6], false⟩, ⟨(.some 65), (.some (57, true)), (.ld 1 false (.t 64)), 65, [6, 7, 0, 1, 8], false⟩, ⟨(.some 66), (.some (57, true)), (.bin .sub (.t 65) (cI 1)), 66, [8, 0, 7, 6, 1, 9], false⟩, ⟨(.some 67), (.some (57,
  true)), (.bin .eql (.t 61) (.t 66)), 67, [9, 6, 7, 8, 4, 0, 3, 2, 1, 10, 5], false⟩, oA 68 (.pick (.t 57) (.t 67) (cB false)) [5, 10, 2, 3, 4, 8, 7, 6, 9, 0, 11, 1]]) (.cond (.t 68) (.seq (.ops false [oP 69 (.mv (.t 13)), oP 70 (.mv (.t 15)), oP 71 (.mv (.t 17)), oP 72 (.bld [(.v (.int .i64 0)), (.v (.bool false))] [(0, (1, (.t 70))), (1, (1, (.t 71)))]), oP 73 (.bsl 2 1 [(.v (.int .i64 0)),
  (.v (.bool false))] [(0, (.t 72))]), oP 74 (.app 2 16 (.t 69) (.t 73)), oP 13 (.mv (.t 74))]) (.seq (.ops false [oP 75 (.mv (.t 16)), oP 14 (.mv (.t 75))]) (.exit 2))) .skip))))) c57_1)
def c57_3 : C := (.seq (.ops false [oP 46 (.bin .lss (.t 45) (.t 44))]) (.seq (.cond (.t 46) .skip (.exit 2)) c57_2))
def c57_4 : C := (.block 1 (.seq (.ops false [oP 42 (.fa 1 (.t 4)), oP 43 (.ld 1 false (.t 42)), oP 44 (.len (.t 43)), oP 45 (.mv (cI 0))]) (.block 2 (.loop c57_3))))
def c57_5 : C := (.seq (.seq (.ops false [oP 39 (.mv (.t 14)), oP 40 (.mv (.t 3)), oP 41 (.bin .neq (.t 39) (.t 40))]) (.cond (.t 41) .skip (.exit 0))) c57_4)
def c57_6 : C := (.seq (.ops false [oP 77 (.mv (.t 13)), oP 8 (.mv (.t 77)), oP 9 (.mv (cI 0))]) .ret)
def c57_7 : C := (.seq (.ops false [oP 13 (.mv (.c .mt))]) (.seq (.seq (.ops false [oP 38 (.mv (.t 2)), oP 14 (.mv (.t 38))]) (.block 0 (.loop c57_5))) c57_6))
def c57_8 : C := (.seq (.ops false [oP 30 (.ld 7 true (.t 10)), oP 31 (.mv (.t 3)), oP 32 (.call 124 [(.t 30), (.t 31)]), oP 12 (.mv (.t 32))]) (.seq (.seq (.ops false [oP 33 (.mv (.t 12)), oP 34 (.mv (.t 2)), oP 35 (.iaS 1 (.t 33) (.t 34)), oP 36 (.ld 1 false (.t 35)), oP 37 (.bin .lss (.t 36) (cI 0))]) (.cond (.t 37) (.seq (.ops false [oP 8 (.mv (.c .mt)), oP 9 (.mv (cI 11))]) .ret) .skip)) c57_7))
def c57 : C := (.seq (.ops false [oP 4 (.box 6 (.t 0)), oP 8 (.mv (.c .mt)), oP 9 (.mv (cI 0))]) (.seq (.ops false [oP 19 (.ld 6 true (.t 4)), oP 20 (.mv (.t 1)), oP 21 (.bld [.mt, .mt, .mt, .mt, (.v (.int .i64 0)), (.v (.int .i64 0)), .mt] [(0, (6, (.t 19))), (6, (1, (.t 20)))]), oP 10 (.new [.mt, .mt, .mt, .mt, (.v (.int .i64 0)), (.v (.int .i64 0)), .mt]), oS (.st 7 (.t 10) (.t 21))])
  (.seq (.seq (.ops false [oP 22 (.ld 7 true (.t 10)), oP 23 (.mv (.t 2)), oP 24 (.mv (.t 3)), oP 25 (.bsl 1 2 [(.v (.int .i64 0))] [(0, (.t 23)), (1, (.t 24))]), oB 26 (.call 123 [(.t 22), (.t 25)]), oP 11 (.mv (.t 26))]) (.seq (.ops false [oP 27 (.mv (.t 11)), oP 28 (.bin .neq (.t 27) (cI 0))]) (.cond (.t 28) (.seq (.ops false [oP 29 (.mv (.t 11)), oP 8 (.mv (.c .mt)), oP 9 (.mv (.t 29))]) .ret)
  .skip))) c57_8)))
def r57 : List RV := [(.tmp 8), (.tmp 9)]
theorem c57_ok : ∃ code, Try.f57.body = some code ∧ compC Try.prog Try.f57.ntmps code = some (C.strip c57) := ⟨_, rfl, by kernel_rfl⟩
theorem r57_ok : compRes Try.prog Try.f57.results.toList = some r57 := by kernel_rfl
theorem f57_ok : fnOk Try.prog 57 = true := by kernel_rfl
def c58_1 : C := (.seq (.ops false [oP 51 (.mv (.t 8)), oP 52 (.mv (.t 12)), oP 53 (.bsl 1 1 [(.v (.int .i64 0))] [(0, (.t 52))]), oP 54 (.app 1 8 (.t 51) (.t 53)), oP 8 (.mv (.t 54))]) (.ops false [oP 55 (.mv (.t 7)), oP 56 (.fa 1 (.t 2)), oP 57 (.ld 1 false (.t 56)), oP 58 (.fa 0 (.t 10)), oP 59 (.ld 1 false (.t 58)), oP 60 (.iaS 7 (.t 57) (.t 59)), oP 61 (.fa 3 (.t 60)), oP 62 (.ld 1 false (.t 61)),
  oP 63 (.bin .add (.t 55) (.t 62)), oP 7 (.mv (.t 63))]))
def c58_2 : C := (.seq (.seq (.ops false [oP 40 (.mv (.t 8)), oP 41 (.mv (.t 9)), oP 42 (.iaS 1 (.t 40) (.t 41)), oP 43 (.ld 1 false (.t 42)), oP 44 (.mv (.t 11)), oP 45 (.bin .neq (.t 43) (.t 44)), oP 46 (.mv (.t 45)), oG 47 46 false (.mv (.t 8)), oG 48 46 false (.mv (.t 12)), ⟨(.some 49), (.some (46, false)), (.call 129 [(.t 47), (.t 48)]), 49, [], true⟩, oP 50 (.pick (.t 46) (cB true) (.t 49))]) (.cond (.t 50)
  (.seq (.ops false [oP 4 (.mv (cI 0)), oP 5 (.mv (cI 11))]) .ret) .skip)) c58_1)
def c58_3 : C := (.ops false [oP 64 (.bin .add (.t 23) (cI 1)), oP 23 (.mv (.t 64))])
def c58_4 : C := (.seq (.block 1 (.seq (.ops false [oP 25 (.mv (.t 23)), oP 26 (.iaS 2 (.t 21) (.t 23)), oP 27 (.ld 2 true (.t 26)), oP 10 (.new [(.v (.int .i64 0)), (.v (.bool false))]), oP 9 (.mv (.t 25)), oS (.st 2 (.t 10) (.t 27))]) (.seq (.ops false [oP 29 (.ld 6 true (.t 2)), oP 30 (.ld 2 true (.t 10)), oB 31 (.call 128 [(.t 29), (.t 30)]), oP 28 (.mv (.t 31)), oP 32 (.ext (.t 28) 0), oP 33 (.ext (.t 28) 1),
  oP 11 (.mv (.t 32)), oP 12 (.mv (.t 33))]) (.seq (.seq (.ops false [oP 34 (.mv (.t 9)), oP 35 (.bin .eql (.t 34) (cI 0))]) (.cond (.t 35) (.ops false [oP 36 (.mv (.t 8)), oP 37 (.mv (.t 11)), oP 38 (.bsl 1 1 [(.v (.int .i64 0))] [(0, (.t 37))]), oP 39 (.app 1 8 (.t 36) (.t 38)), oP 8 (.mv (.t 39))]) .skip)) (.weak c58_2))))) c58_3)
def c58_5 : C := (.seq (.ops false [oP 24 (.bin .lss (.t 23) (.t 22))]) (.seq (.cond (.t 24) .skip (.exit 0)) c58_4))
def c58_6 : C := (.seq (.ops false [oP 65 (.mv (.t 7)), oP 4 (.mv (.t 65)), oP 5 (.mv (cI 0))]) .ret)
def c58_7 : C := (.seq (.ops false [oP 7 (.mv (cI 0))]) (.seq (.ops false [oP 8 (.mv (.c .mt))]) (.seq (.seq (.ops false [oP 21 (.mv (.t 1)), oP 22 (.len (.t 21)), oP 23 (.mv (cI 0))]) (.block 0 (.loop c58_5))) c58_6)))
def c58_8 : C := (.seq (.seq (.ops false [oP 18 (.mv (.t 1)), oP 19 (.mkf 127 [] [(.t 2)]), oB 20 (.call 126 [(.t 18), (.t 19)])]) (.cond (.t 20) (.seq (.ops false [oP 4 (.mv (cI 0)), oP 5 (.mv (cI 8))]) .ret) .skip)) c58_7)
def c58 : C := (.seq (.ops false [oP 2 (.box 6 (.t 0)), oP 4 (.mv (cI 0)), oP 5 (.mv (cI 0))]) (.seq (.seq (.ops false [oP 13 (.ld 6 true (.t 2)), oB 14 (.call 78 [(.t 13)]), oP 6 (.mv (.t 14))]) (.seq (.ops false [oP 15 (.mv (.t 6)), oP 16 (.bin .neq (.t 15) (cI 0))]) (.cond (.t 16) (.seq (.ops false [oP 17 (.mv (.t 6)), oP 4 (.mv (cI 0)), oP 5 (.mv (.t 17))]) .ret) .skip))) (.weak c58_8)))
def r58 : List RV := [(.tmp 4), (.tmp 5)]
theorem c58_ok : ∃ code, Try.f58.body = some code ∧ compC Try.prog Try.f58.ntmps code = some (C.strip c58) := ⟨_, rfl, by kernel_rfl⟩
theorem r58_ok : compRes Try.prog Try.f58.results.toList = some r58 := by kernel_rfl
theorem f58_ok : fnOk Try.prog 58 = true := by kernel_rfl
def c60_1 : C := (.seq (.block 1 (.ops false [oP 14 (.mv (.t 5)), oP 15 (.mv (.t 0)), oB 16 (.call 54 [(.t 15), (cI 4)]), oP 17 (.bin .eql (.t 16) (cI 1)), oP 18 (.bsl 1 1 [(.v (.bool false))] [(0, (.t 17))]), oP 19 (.app 1 1 (.t 14) (.t 18)), oP 5 (.mv (.t 19))])) (.ops false [oP 12 (.mv (.t 6)), oP 13 (.bin .add (.t 12) (cI 1)), oP 6 (.mv (.t 13))]))
def c60_2 : C := (.seq (.seq (.ops false [oP 7 (.mv (.t 6)), oP 8 (.fa 1 (.t 3)), oP 9 (.ld 1 false (.t 8)), oP 10 (.len (.t 9)), oP 11 (.bin .lss (.t 7) (.t 10))]) (.cond (.t 11) .skip (.exit 0))) c60_1)
def c60_3 : C := (.seq (.ops false [oP 20 (.mv (.t 5)), oP 4 (.mv (.t 20))]) .ret)
def c60 : C := (.seq (.ops false [oP 3 (.box 6 (.t 1)), oP 4 (.mv (.c .mt))]) (.seq (.ops false [oP 5 (.mv (.c .mt))]) (.seq (.seq (.ops false [oP 6 (.mv (cI 0))]) (.block 0 (.loop c60_2))) c60_3)))
def r60 : List RV := [(.tmp 4)]
theorem c60_ok : ∃ code, Try.f60.body = some code ∧ compC Try.prog Try.f60.ntmps code = some (C.strip c60) := ⟨_, rfl, by kernel_rfl⟩
theorem r60_ok : compRes Try.prog Try.f60.results.toList = some r60 := by kernel_rfl
theorem f60_ok : fnOk Try.prog 60 = true := by kernel_rfl
def c61_1 : C := (.ops false [oP 25 (.bin .add (.t 13) (cI 1)), oP 13 (.mv (.t 25))])
def c61_2 : C := (.seq (.block 1 (.seq (.ops false [oP 15 (.mv (.t 13)), oP 5 (.mv (.t 15))]) (.seq (.ops true [oP 16 (.mv (.t 0)), oP 17 (.mv (.t 5)), oA 18 (.iaS 2 (.t 16) (.t 17)) [1, 0], oA 19 (.ld 2 true (.t 18)) [0, 1, 2], oP 20 (.mv (.t 1)), oP 21 (.mv (.t 5)), oA 22 (.iaS 2 (.t 20) (.t 21)) [5, 4], oA 23 (.ld 2 true (.t 22)) [4, 5, 6], oA 24 (.eqa true [0, 1] (.t 19) (.t 23)) [6, 5, 4, 2, 1, 0, 7, 3]])
  (.cond (.t 24) (.seq (.ops false [oP 4 (.mv (cB false))]) .ret) .skip)))) c61_1)
def c61_3 : C := (.seq (.ops false [oP 14 (.bin .lss (.t 13) (.t 12))]) (.seq (.cond (.t 14) .skip (.exit 0)) c61_2))
def c61_4 : C := (.seq (.ops false [oP 4 (.mv (cB true))]) .ret)
def c61_5 : C := (.seq (.seq (.ops false [oP 11 (.mv (.t 0)), oP 12 (.len (.t 11)), oP 13 (.mv (cI 0))]) (.block 0 (.loop c61_3))) c61_4)
def c61 : C := (.seq (.ops false [oP 4 (.mv (cB false))]) (.seq (.seq (.ops false [oP 6 (.mv (.t 0)), oP 7 (.len (.t 6)), oP 8 (.mv (.t 1)), oP 9 (.len (.t 8)), oP 10 (.bin .neq (.t 7) (.t 9))]) (.cond (.t 10) (.seq (.ops false [oP 4 (.mv (cB false))]) .ret) .skip)) c61_5))
def r61 : List RV := [(.tmp 4)]
theorem c61_ok : ∃ code, Try.f61.body = some code ∧ compC Try.prog Try.f61.ntmps code = some (C.strip c61) := ⟨_, rfl, by kernel_rfl⟩
theorem r61_ok : compRes Try.prog Try.f61.results.toList = some r61 := by kernel_rfl
theorem f61_ok : fnOk Try.prog 61 = true := by kernel_rfl
def c62_1 : C := (.seq (.ops false [oP 20 (.ld 7 true (.t 8)), oP 21 (.mv (.t 2)), oP 22 (.call 131 [(.t 20), (.t 21)]), oP 6 (.mv (.t 22)), oP 7 (.mv (cI 0))]) .ret)
def c62 : C := (.seq (.ops false [oP 3 (.box 6 (.t 0)), oP 6 (.mv (.c .mt)), oP 7 (.mv (cI 0))]) (.seq (.ops false [oP 10 (.ld 6 true (.t 3)), oP 11 (.mv (.t 1)), oP 12 (.bld [.mt, .mt, .mt, .mt, (.v (.int .i64 0)), (.v (.int .i64 0)), .mt] [(0, (6, (.t 10))), (6, (1, (.t 11)))]), oP 8 (.new [.mt, .mt, .mt, .mt, (.v (.int .i64 0)), (.v (.int .i64 0)), .mt]), oS (.st 7 (.t 8) (.t 12))])
  (.seq (.seq (.ops false [oP 13 (.ld 7 true (.t 8)), oP 14 (.mv (.t 2)), oP 15 (.bsl 1 1 [(.v (.int .i64 0))] [(0, (.t 14))]), oB 16 (.call 123 [(.t 13), (.t 15)]), oP 9 (.mv (.t 16))]) (.seq (.ops false [oP 17 (.mv (.t 9)), oP 18 (.bin .neq (.t 17) (cI 0))]) (.cond (.t 18) (.seq (.ops false [oP 19 (.mv (.t 9)), oP 6 (.mv (.c .mt)), oP 7 (.mv (.t 19))]) .ret) .skip))) c62_1)))
def r62 : List RV := [(.tmp 6), (.tmp 7)]
theorem c62_ok : ∃ code, Try.f62.body = some code ∧ compC Try.prog Try.f62.ntmps code = some (C.strip c62) := ⟨_, rfl, by kernel_rfl⟩
theorem r62_ok : compRes Try.prog Try.f62.results.toList = some r62 := by kernel_rfl
theorem f62_ok : fnOk Try.prog 62 = true := by kernel_rfl
def c63_1 : C := (.ops false [oP 17 (.bin .add (.t 8) (cI 1)), oP 8 (.mv (.t 17))])
def c63_2 : C := (.seq (.block 1 (.seq (.ops false [oP 10 (.mv (.t 8)), oP 5 (.mv (.t 10))]) (.seq (.ops false [oP 11 (.mv (.t 0)), oP 12 (.mv (.t 5)), oP 13 (.iaS 1 (.t 11) (.t 12)), oP 14 (.ld 1 false (.t 13)), oP 15 (.mv (.t 1)), oP 16 (.bin .eql (.t 14) (.t 15))]) (.cond (.t 16) (.seq (.ops false [oP 4 (.mv (cB true))]) .ret) .skip)))) c63_1)
def c63_3 : C := (.seq (.ops false [oP 9 (.bin .lss (.t 8) (.t 7))]) (.seq (.cond (.t 9) .skip (.exit 0)) c63_2))
def c63_4 : C := (.seq (.ops false [oP 4 (.mv (cB false))]) .ret)
def c63 : C := (.seq (.ops false [oP 4 (.mv (cB false))]) (.seq (.seq (.ops false [oP 6 (.mv (.t 0)), oP 7 (.len (.t 6)), oP 8 (.mv (cI 0))]) (.block 0 (.loop c63_3))) c63_4))
def r63 : List RV := [(.tmp 4)]
theorem c63_ok : ∃ code, Try.f63.body = some code ∧ compC Try.prog Try.f63.ntmps code = some (C.strip c63) := ⟨_, rfl, by kernel_rfl⟩
theorem r63_ok : compRes Try.prog Try.f63.results.toList = some r63 := by kernel_rfl
theorem f63_ok : fnOk Try.prog 63 = true := by kernel_rfl
def c64_1 : C := (.seq (.ops true [oP 19 (.fa 1 (.t 6)), oA 20 (.ld 1 false (.t 19)) [0], oP 21 (.fa 2 (.t 6)), oA 22 (.ld 1 false (.t 21)) [2], oA 4 (.mv (.t 20)) [0, 1], oA 5 (.mv (.t 22)) [2, 1, 0, 4, 3]]) .ret)
def c64 : C := (.seq (.ops false [oP 2 (.box 6 (.t 0)), oP 3 (.box 2 (.t 1)), oP 4 (.mv (cI 0)), oP 5 (.mv (cI 0))]) (.seq (.ops false [oP 7 (.fa 1 (.t 2)), oP 8 (.ld 1 false (.t 7)), oP 9 (.fa 0 (.t 3)), oP 10 (.ld 1 false (.t 9)), oP 11 (.iaS 7 (.t 8) (.t 10)), oP 12 (.ld 7 true (.t 11)), oP 6 (.new [(.v (.string ({ data := #[] }))), (.v (.int .i64 0)), (.v (.int .i64 0)), (.v (.int .i64 0)),
  (.v (.int .i64 0)), (.v (.int .i64 0)), .mt]), oS (.st 7 (.t 6) (.t 12))]) (.seq (.seq (.ops false [oP 13 (.fa 1 (.t 3)), oP 14 (.ld 1 false (.t 13))]) (.cond (.t 14) (.seq (.ops true [oP 15 (.fa 2 (.t 6)), oA 16 (.ld 1 false (.t 15)) [0], oP 17 (.fa 1 (.t 6)), oA 18 (.ld 1 false (.t 17)) [2], oA 4 (.mv (.t 16)) [0, 1], oA 5 (.mv (.t 18)) [2, 1, 0, 4, 3]]) .ret) .skip)) c64_1)))
def r64 : List RV := [(.tmp 4), (.tmp 5)]
theorem c64_ok : ∃ code, Try.f64.body = some code ∧ compC Try.prog Try.f64.ntmps code = some (C.strip c64) := ⟨_, rfl, by kernel_rfl⟩
theorem r64_ok : compRes Try.prog Try.f64.results.toList = some r64 := by kernel_rfl
theorem f64_ok : fnOk Try.prog 64 = true := by kernel_rfl
def c65_1 : C := (.ops false [oP 37 (.bin .add (.t 22) (cI 1)), oP 22 (.mv (.t 37))])
def c65_2 : C := (.seq (.block 1 (.seq (.ops false [oP 24 (.mv (.t 22)), oP 9 (.mv (.t 24))]) (.seq (.ops false [oP 25 (.ld 7 true (.t 6)), oP 26 (.mv (.t 9)), oP 27 (.call 131 [(.t 25), (.t 26)]), oP 10 (.mv (.t 27))]) (.seq (.ops false [oP 28 (.mv (.t 10)), oP 29 (.iaS 1 (.t 28) (cI 0)), oP 30 (.ld 1 false (.t 29)), oP 31 (.mv (.t 9)), oP 32 (.bin .eql (.t 30) (.t 31))]) (.cond (.t 32)
  (.ops false [oP 33 (.mv (.t 8)), oP 34 (.mv (.t 10)), oP 35 (.bsl 1 1 [.mt] [(0, (.t 34))]), oP 36 (.app 1 24 (.t 33) (.t 35)), oP 8 (.mv (.t 36))]) .skip))))) c65_1)
def c65_3 : C := (.seq (.ops false [oP 23 (.bin .lss (.t 22) (.t 21))]) (.seq (.cond (.t 23) .skip (.exit 0)) c65_2))
def c65_4 : C := (.seq (.ops false [oP 38 (.mv (.t 8)), oP 4 (.mv (.t 38)), oP 5 (.mv (cI 0))]) .ret)
def c65_5 : C := (.seq (.ops false [oP 8 (.mv (.c .mt))]) (.seq (.seq (.ops false [oP 19 (.fa 0 (.t 2)), oP 20 (.ld 1 false (.t 19)), oP 21 (.len (.t 20)), oP 22 (.mv (cI 0))]) (.block 0 (.loop c65_3))) c65_4))
def c65 : C := (.seq (.ops false [oP 2 (.box 6 (.t 0)), oP 4 (.mv (.c .mt)), oP 5 (.mv (cI 0))]) (.seq (.ops false [oP 11 (.ld 6 true (.t 2)), oP 12 (.mv (.t 1)), oP 13 (.bld [.mt, .mt, .mt, .mt, (.v (.int .i64 0)), (.v (.int .i64 0)), .mt] [(0, (6, (.t 11))), (6, (1, (.t 12)))]), oP 6 (.new [.mt, .mt, .mt, .mt, (.v (.int .i64 0)), (.v (.int .i64 0)), .mt]), oS (.st 7 (.t 6) (.t 13))])
  (.seq (.seq (.ops false [oP 14 (.ld 7 true (.t 6)), oB 15 (.call 123 [(.t 14), (.c .mt)]), oP 7 (.mv (.t 15))]) (.seq (.ops false [oP 16 (.mv (.t 7)), oP 17 (.bin .neq (.t 16) (cI 0))]) (.cond (.t 17) (.seq (.ops false [oP 18 (.mv (.t 7)), oP 4 (.mv (.c .mt)), oP 5 (.mv (.t 18))]) .ret) .skip))) c65_5)))
def r65 : List RV := [(.tmp 4), (.tmp 5)]
theorem c65_ok : ∃ code, Try.f65.body = some code ∧ compC Try.prog Try.f65.ntmps code = some (C.strip c65) := ⟨_, rfl, by kernel_rfl⟩
theorem r65_ok : compRes Try.prog Try.f65.results.toList = some r65 := by kernel_rfl
theorem f65_ok : fnOk Try.prog 65 = true := by kernel_rfl
def c66_1 : C := (.seq (.ops false [oP 33 (.fa 6 (.t 8)), oP 34 (.ld 1 false (.t 33)), oP 35 (.mv (.t 2)), oP 36 (.iaS 1 (.t 34) (.t 35)), oS (.st 1 (.t 36) (cB true))]) (.seq (.ops false [oP 37 (.fa 1 (.t 3)), oP 38 (.ld 1 false (.t 37)), oP 39 (.mv (.t 2)), oP 40 (.iaS 7 (.t 38) (.t 39)), oP 41 (.ld 7 true (.t 40)), oP 10 (.new [(.v (.string ({ data := #[] }))), (.v (.int .i64 0)), (.v (.int .i64 0)),
  (.v (.int .i64 0)), (.v (.int .i64 0)), (.v (.int .i64 0)), .mt]), oS (.st 7 (.t 10) (.t 41))]) (.seq (.ops true [oP 42 (.ld 7 true (.t 8)), oP 43 (.fa 1 (.t 10)), oA 44 (.ld 1 false (.t 43)) [1], oA 45 (.call 124 [(.t 42), (.t 44)]) [1, 2, 0], oP 46 (.fa 2 (.t 10)), oA 47 (.ld 1 false (.t 46)) [4], oA 48 (.iaS 1 (.t 45) (.t 47)) [4, 0, 2, 1, 5, 3], oA 49 (.ld 1 false (.t 48)) [3, 5, 1, 2, 0, 4,
  6], oA 50 (.bin .lss (.t 49) (cI 0)) [6, 4, 0, 2, 1, 5, 3, 7], oA 6 (.mv (.t 50)) [7, 6, 5, 4, 2, 1, 0, 3, 8], oA 7 (.mv (cI 0)) [8, 7, 6, 5, 4, 3, 2, 1, 0, 9]]) .ret)))
def c66_2 : C := (.seq (.seq (.ops false [oP 29 (.mv (.t 1)), oP 30 (.mv (.t 2)), oP 31 (.iaS 1 (.t 29) (.t 30)), oP 32 (.ld 1 false (.t 31))]) (.cond (.t 32) (.seq (.ops false [oP 6 (.mv (cB false)), oP 7 (.mv (cI 0))]) .ret) .skip)) c66_1)
def c66_3 : C := (.seq (.seq (.ops false [oP 20 (.mv (.t 2)), oP 21 (.bin .lss (.t 20) (cI 0)), oP 22 (.mv (.t 21)), oG 23 22 false (.mv (.t 2)), oG 24 22 false (.fa 1 (.t 3)), oG 25 22 false (.ld 1 false (.t 24)), oG 26 22 false (.len (.t 25)), oG 27 22 false (.bin .geq (.t 23) (.t 26)), oP 28 (.pick (.t 22) (cB true) (.t 27))]) (.cond (.t 28) (.seq (.ops false [oP 6 (.mv (cB false)), oP 7 (.mv (cI 8))]) .ret)
  .skip)) c66_2)
def c66 : C := (.seq (.ops false [oP 3 (.box 6 (.t 0)), oP 6 (.mv (cB false)), oP 7 (.mv (cI 0))]) (.seq (.ops true [oP 11 (.ld 6 true (.t 3)), oP 12 (.mv (.t 1)), oA 13 (.call 132 [(.t 12)]) [1], oA 14 (.bld [.mt, .mt, .mt, .mt, (.v (.int .i64 0)), (.v (.int .i64 0)), .mt] [(0, (6, (.t 11))), (6, (1, (.t 13)))]) [1, 2, 0], oP 8 (.new [.mt, .mt, .mt, .mt, (.v (.int .i64 0)), (.v (.int .i64 0)), .mt]),
  ⟨Option.none, Option.none, (.st 7 (.t 8) (.t 14)), 0, [1, 0, 2, 3, 4], false⟩]) (.seq (.seq (.ops false [oP 15 (.ld 7 true (.t 8)), oB 16 (.call 123 [(.t 15), (.c .mt)]), oP 9 (.mv (.t 16))]) (.seq (.ops false [oP 17 (.mv (.t 9)), oP 18 (.bin .neq (.t 17) (cI 0))]) (.cond (.t 18) (.seq (.ops false [oP 19 (.mv (.t 9)), oP 6 (.mv (cB false)), oP 7 (.mv (.t 19))]) .ret) .skip))) c66_3)))
def r66 : List RV := [(.tmp 6), (.tmp 7)]
theorem c66_ok : ∃ code, Try.f66.body = some code ∧ compC Try.prog Try.f66.ntmps code = some (C.strip c66) := ⟨_, rfl, by kernel_rfl⟩
theorem r66_ok : compRes Try.prog Try.f66.results.toList = some r66 := by kernel_rfl
theorem f66_ok : fnOk Try.prog 66 = true := by kernel_rfl
def c123_1 : C := (.seq (.ops false [oP 4 (.mv (cI 0))]) .ret)
def c123_2 : C := (.seq (.seq (.ops false [oP 20 (.mv (.t 1)), oP 21 (.mkf 156 [] [(.t 2)]), oB 22 (.call 80 [(.t 20), (.t 21)])]) (.cond (.t 22) (.seq (.ops false [oP 4 (.mv (cI 8))]) .ret) .skip)) c123_1)
def c123_3 : C := (.seq (.seq (.ops false [oP 12 (.fa 6 (.t 2)), oP 13 (.ld 1 false (.t 12)), oP 14 (.len (.t 13)), oP 15 (.fa 0 (.t 2)), oP 16 (.fa 1 (.t 15)), oP 17 (.ld 1 false (.t 16)), oP 18 (.len (.t 17)), oP 19 (.bin .neq (.t 14) (.t 18))]) (.cond (.t 19) (.seq (.ops false [oP 4 (.mv (cI 9))]) .ret) .skip)) (.weak c123_2))
def c123 : C := (.seq (.ops false [oP 2 (.box 7 (.t 0)), oP 4 (.mv (cI 0))]) (.seq (.seq (.ops false [oP 6 (.fa 0 (.t 2)), oP 7 (.ld 6 true (.t 6)), oB 8 (.call 78 [(.t 7)]), oP 5 (.mv (.t 8))]) (.seq (.ops false [oP 9 (.mv (.t 5)), oP 10 (.bin .neq (.t 9) (cI 0))]) (.cond (.t 10) (.seq (.ops false [oP 11 (.mv (.t 5)), oP 4 (.mv (.t 11))]) .ret) .skip))) c123_3))
def r123 : List RV := [(.tmp 4)]
theorem c123_ok : ∃ code, Try.f123.body = some code ∧ compC Try.prog Try.f123.ntmps code = some (C.strip c123) := ⟨_, rfl, by kernel_rfl⟩
theorem r123_ok : compRes Try.prog Try.f123.results.toList = some r123 := by kernel_rfl
theorem f123_ok : fnOk Try.prog 123 = true := by kernel_rfl
def c124_1 : C := (.ops false [oP 70 (.bin .add (.t 39) (cI 1)), oP 39 (.mv (.t 70))])
def c124_2 : C := (.seq (.block 3 (.seq (.ops false [oP 41 (.mv (.t 39)), oP 8 (.mv (.t 41))]) (.seq (.ops false [oP 43 (.ld 7 true (.t 2)), oP 44 (.mv (.t 8)), oP 45 (.mv (.t 7)), oB 46 (.call 125 [(.t 43), (.t 44), (.t 45)]), oP 42 (.mv (.t 46)), oP 47 (.ext (.t 42) 0), oP 48 (.ext (.t 42) 1), oP 49 (.ext (.t 42) 2), oP 9 (.mv (.t 47)), oP 10 (.mv (.t 48)), oP 11 (.mv (.t 49))])
  (.seq (.ops false [oP 50 (.mv (.t 11)), oP 51 (.mv (.t 50)), oG 52 51 true (.mv (.t 5)), oG 53 51 true (.mv (.t 9)), oG 54 51 true (.iaS 1 (.t 52) (.t 53)), oG 55 51 true (.ld 1 false (.t 54)), oG 56 51 true (.bin .lss (.t 55) (cI 0)), oP 57 (.pick (.t 51) (.t 56) (cB false))]) (.cond (.t 57) (.seq (.ops false [oP 58 (.mv (.t 5)), oP 59 (.mv (.t 9)), oP 60 (.mv (.t 5)), oP 61 (.mv (.t 7)),
  oP 62 (.iaS 1 (.t 60) (.t 61)), oP 63 (.ld 1 false (.t 62)), oP 64 (.bin .add (.t 63) (cI 1)), oP 65 (.iaS 1 (.t 58) (.t 59)), oS (.st 1 (.t 65) (.t 64))]) (.ops false [oP 66 (.mv (.t 6)), oP 67 (.mv (.t 9)), oP 68 (.bsl 1 1 [(.v (.int .i64 0))] [(0, (.t 67))]), oP 69 (.app 1 8 (.t 66) (.t 68)), oP 6 (.mv (.t 69))])) .skip))))) c124_1)
def c124_3 : C := (.seq (.ops false [oP 40 (.bin .lss (.t 39) (.t 38))]) (.seq (.cond (.t 40) .skip (.exit 2)) c124_2))
def c124_4 : C := (.block 1 (.seq (.ops false [oP 26 (.mv (.t 6)), oP 27 (.iaS 1 (.t 26) (cI 0)), oP 28 (.ld 1 false (.t 27)), oP 7 (.mv (.t 28))]) (.seq (.ops false [oP 29 (.mv (.t 6)), oP 30 (.mv (.t 6)), oP 31 (.len (.t 30)), oP 32 (.mv (.t 6)), oP 33 (.len (.t 32)), oP 34 (.slc3 1 (.t 29) (.some (cI 1)) (.t 31) (.t 33)), oP 6 (.mv (.t 34))]) (.seq (.ops false [oP 35 (.fa 0 (.t 2)), oP 36 (.fa 1 (.t 35)),
  oP 37 (.ld 1 false (.t 36)), oP 38 (.len (.t 37)), oP 39 (.mv (cI 0))]) (.block 2 (.loop c124_3))))))
def c124_5 : C := (.seq (.seq (.ops false [oP 23 (.mv (.t 6)), oP 24 (.len (.t 23)), oP 25 (.bin .gtr (.t 24) (cI 0))]) (.cond (.t 25) .skip (.exit 0))) c124_4)
def c124_6 : C := (.seq (.ops false [oP 71 (.mv (.t 5)), oP 4 (.mv (.t 71))]) .ret)
def c124 : C := (.seq (.ops false [oP 2 (.box 7 (.t 0)), oP 4 (.mv (.c .mt))]) (.seq (.ops false [oP 12 (.bsl 1 1 [(.v (.int .i64 0))] [(0, (cI (-1)))]), oP 13 (.fa 0 (.t 2)), oP 14 (.fa 0 (.t 13)), oP 15 (.ld 1 false (.t 14)), oP 16 (.len (.t 15)), oP 17 (.call 157 [(.t 12), (.t 16)]), oP 5 (.mv (.t 17))]) (.seq (.ops false [oP 18 (.mv (.t 5)), oP 19 (.mv (.t 1)), oP 20 (.iaS 1 (.t 18) (.t 19)),
  oS (.st 1 (.t 20) (cI 0))]) (.seq (.ops false [oP 21 (.mv (.t 1)), oP 22 (.bsl 1 1 [(.v (.int .i64 0))] [(0, (.t 21))]), oP 6 (.mv (.t 22))]) (.seq (.block 0 (.loop c124_5)) c124_6)))))
def r124 : List RV := [(.tmp 4)]
theorem c124_ok : ∃ code, Try.f124.body = some code ∧ compC Try.prog Try.f124.ntmps code = some (C.strip c124) := ⟨_, rfl, by kernel_rfl⟩
theorem r124_ok : compRes Try.prog Try.f124.results.toList = some r124 := by kernel_rfl
theorem f124_ok : fnOk Try.prog 124 = true := by kernel_rfl
def c125_1 : C := (.seq (.ops false [oP 6 (.mv (cI 0)), oP 7 (.mv (cB false)), oP 8 (.mv (cB false))]) .ret)
def c125 : C := (.seq (.ops false [oP 3 (.box 7 (.t 0)), oP 6 (.mv (cI 0)), oP 7 (.mv (cB false)), oP 8 (.mv (cB false))]) (.seq (.ops false [oP 10 (.fa 0 (.t 3)), oP 11 (.fa 1 (.t 10)), oP 12 (.ld 1 false (.t 11)), oP 13 (.mv (.t 1)), oP 14 (.iaS 7 (.t 12) (.t 13)), oP 15 (.ld 7 true (.t 14)), oP 9 (.new [(.v (.string ({ data := #[] }))), (.v (.int .i64 0)), (.v (.int .i64 0)), (.v (.int .i64 0)),
  (.v (.int .i64 0)), (.v (.int .i64 0)), .mt]), oS (.st 7 (.t 9) (.t 15))]) (.seq (.block 0 (.seq (.ops false [oP 17 (.fa 6 (.t 3)), oP 18 (.ld 1 false (.t 17)), oP 19 (.mv (.t 1)), oP 20 (.iaS 1 (.t 18) (.t 19)), oP 21 (.ld 1 false (.t 20)), oP 16 (.mv (.t 21))]) (.cond (.t 16) (.seq (.ops false [oP 6 (.mv (cI 0)), oP 7 (.mv (cB false)), oP 8 (.mv (cB false))]) .ret)
  (.seq (.ops false [oP 23 (.fa 1 (.t 9)), oP 24 (.ld 1 false (.t 23)), oP 25 (.mv (.t 2)), oP 26 (.bin .eql (.t 24) (.t 25)), oP 22 (.mv (.t 26))]) (.cond (.t 22) (.seq (.ops false [oP 27 (.fa 2 (.t 9)), oP 28 (.ld 1 false (.t 27)), oP 6 (.mv (.t 28)), oP 7 (.mv (cB false)), oP 8 (.mv (cB true))]) .ret) (.seq (.ops false [oP 30 (.fa 2 (.t 9)), oP 31 (.ld 1 false (.t 30)), oP 32 (.mv (.t 2)),
  oP 33 (.bin .eql (.t 31) (.t 32)), oP 29 (.mv (.t 33))]) (.cond (.t 29) (.seq (.ops false [oP 34 (.fa 1 (.t 9)), oP 35 (.ld 1 false (.t 34)), oP 6 (.mv (.t 35)), oP 7 (.mv (cB true)), oP 8 (.mv (cB true))]) .ret) .skip))))))) c125_1)))
def r125 : List RV := [(.tmp 6), (.tmp 7), (.tmp 8)]
theorem c125_ok : ∃ code, Try.f125.body = some code ∧ compC Try.prog Try.f125.ntmps code = some (C.strip c125) := ⟨_, rfl, by kernel_rfl⟩
theorem r125_ok : compRes Try.prog Try.f125.results.toList = some r125 := by kernel_rfl
theorem f125_ok : fnOk Try.prog 125 = true := by kernel_rfl
def c126 : C := (.seq (.ops false [oP 4 (.mv (cB false))]) (.seq (.ops false [oP 5 (.mv (.t 0)), oP 6 (.mv (.t 1)), oB 7 (.call 158 [(.t 5), (.t 6)]), oP 8 (.bin .geq (.t 7) (cI 0)), oP 4 (.mv (.t 8))]) .ret))
def r126 : List RV := [(.tmp 4)]
theorem c126_ok : ∃ code, Try.f126.body = some code ∧ compC Try.prog Try.f126.ntmps code = some (C.strip c126) := ⟨_, rfl, by kernel_rfl⟩
theorem r126_ok : compRes Try.prog Try.f126.results.toList = some r126 := by kernel_rfl
theorem f126_ok : fnOk Try.prog 126 = true := by kernel_rfl
def c127 : C := (.seq (.ops false [oP 2 (.box 2 (.t 0)), oP 3 (.mv (cB false))]) (.seq (.ops false [oP 4 (.fa 0 (.t 2)), oP 5 (.ld 1 false (.t 4)), oP 6 (.bin .lss (.t 5) (cI 0)), oP 7 (.mv (.t 6)), oG 8 7 false (.fa 0 (.t 2)), oG 9 7 false (.ld 1 false (.t 8)), oG 10 7 false (.fa 1 (.t 1)), oG 11 7 false (.ld 1 false (.t 10)), oG 12 7 false (.len (.t 11)), oG 13 7 false (.bin .geq (.t 9) (.t 12)),
  oP 14 (.pick (.t 7) (cB true) (.t 13)), oP 3 (.mv (.t 14))]) .ret))
def r127 : List RV := [(.tmp 3)]
theorem c127_ok : ∃ code, Try.f127.body = some code ∧ compC Try.prog Try.f127.ntmps code = some (C.strip c127) := ⟨_, rfl, by kernel_rfl⟩
theorem r127_ok : compRes Try.prog Try.f127.results.toList = some r127 := by kernel_rfl
theorem f127_ok : fnOk Try.prog 127 = true := by kernel_rfl
def c128_1 : C := (.seq (.ops true [oP 19 (.fa 1 (.t 6)), oA 20 (.ld 1 false (.t 19)) [0], oP 21 (.fa 2 (.t 6)), oA 22 (.ld 1 false (.t 21)) [2], oA 4 (.mv (.t 20)) [0, 1], oA 5 (.mv (.t 22)) [2, 1, 0, 4, 3]]) .ret)
def c128 : C := (.seq (.ops false [oP 2 (.box 6 (.t 0)), oP 3 (.box 2 (.t 1)), oP 4 (.mv (cI 0)), oP 5 (.mv (cI 0))]) (.seq (.ops false [oP 7 (.fa 1 (.t 2)), oP 8 (.ld 1 false (.t 7)), oP 9 (.fa 0 (.t 3)), oP 10 (.ld 1 false (.t 9)), oP 11 (.iaS 7 (.t 8) (.t 10)), oP 12 (.ld 7 true (.t 11)), oP 6 (.new [(.v (.string ({ data := #[] }))), (.v (.int .i64 0)), (.v (.int .i64 0)), (.v (.int .i64 0)),
  (.v (.int .i64 0)), (.v (.int .i64 0)), .mt]), oS (.st 7 (.t 6) (.t 12))]) (.seq (.seq (.ops false [oP 13 (.fa 1 (.t 3)), oP 14 (.ld 1 false (.t 13))]) (.cond (.t 14) (.seq (.ops true [oP 15 (.fa 2 (.t 6)), oA 16 (.ld 1 false (.t 15)) [0], oP 17 (.fa 1 (.t 6)), oA 18 (.ld 1 false (.t 17)) [2], oA 4 (.mv (.t 16)) [0, 1], oA 5 (.mv (.t 18)) [2, 1, 0, 4, 3]]) .ret) .skip)) c128_1)))
def r128 : List RV := [(.tmp 4), (.tmp 5)]
theorem c128_ok : ∃ code, Try.f128.body = some code ∧ compC Try.prog Try.f128.ntmps code = some (C.strip c128) := ⟨_, rfl, by kernel_rfl⟩
theorem r128_ok : compRes Try.prog Try.f128.results.toList = some r128 := by kernel_rfl
theorem f128_ok : fnOk Try.prog 128 = true := by kernel_rfl
def c129 : C := (.seq (.ops false [oP 4 (.mv (cB false))]) (.seq (.ops false [oP 5 (.mv (.t 0)), oP 6 (.mv (.t 1)), oB 7 (.call 159 [(.t 5), (.t 6)]), oP 8 (.bin .geq (.t 7) (cI 0)), oP 4 (.mv (.t 8))]) .ret))
def r129 : List RV := [(.tmp 4)]
theorem c129_ok : ∃ code, Try.f129.body = some code ∧ compC Try.prog Try.f129.ntmps code = some (C.strip c129) := ⟨_, rfl, by kernel_rfl⟩
theorem r129_ok : compRes Try.prog Try.f129.results.toList = some r129 := by kernel_rfl
theorem f129_ok : fnOk Try.prog 129 = true := by kernel_rfl
def c131_1 : C := (.ops false [oP 23 (.bin .add (.t 12) (cI 1)), oP 12 (.mv (.t 23))])
def c131_2 : C := (.seq (.block 1 (.seq (.ops false [oP 14 (.mv (.t 12)), oP 15 (.iaS 1 (.t 10) (.t 12)), oP 16 (.ld 1 false (.t 15)), oP 6 (.mv (.t 14)), oP 7 (.mv (.t 16))]) (.seq (.ops false [oP 17 (.mv (.t 7)), oP 18 (.bin .geq (.t 17) (cI 0))]) (.cond (.t 18) (.ops false [oP 19 (.mv (.t 5)), oP 20 (.mv (.t 6)), oP 21 (.bsl 1 1 [(.v (.int .i64 0))] [(0, (.t 20))]), oP 22 (.app 1 8 (.t 19) (.t 21)),
  oP 5 (.mv (.t 22))]) .skip)))) c131_1)
def c131_3 : C := (.seq (.ops false [oP 13 (.bin .lss (.t 12) (.t 11))]) (.seq (.cond (.t 13) .skip (.exit 0)) c131_2))
def c131_4 : C := (.seq (.ops false [oP 24 (.mv (.t 5)), oP 4 (.mv (.t 24))]) .ret)
def c131 : C := (.seq (.ops false [oP 2 (.box 7 (.t 0)), oP 4 (.mv (.c .mt))]) (.seq (.ops false [oP 5 (.mv (.c .mt))]) (.seq (.seq (.ops false [oP 8 (.ld 7 true (.t 2)), oP 9 (.mv (.t 1)), oP 10 (.call 124 [(.t 8), (.t 9)]), oP 11 (.len (.t 10)), oP 12 (.mv (cI 0))]) (.block 0 (.loop c131_3))) c131_4)))
def r131 : List RV := [(.tmp 4)]
theorem c131_ok : ∃ code, Try.f131.body = some code ∧ compC Try.prog Try.f131.ntmps code = some (C.strip c131) := ⟨_, rfl, by kernel_rfl⟩
theorem r131_ok : compRes Try.prog Try.f131.results.toList = some r131 := by kernel_rfl
theorem f131_ok : fnOk Try.prog 131 = true := by kernel_rfl
def c132_1 : C := (.seq (.ops false [oP 5 (.bsl 1 0 [(.v (.bool false))] []), oP 6 (.mv (.t 0)), oP 7 (.app 1 1 (.t 5) (.t 6)), oP 2 (.mv (.t 7))]) .ret)
def c132 : C := (.seq (.ops false [oP 2 (.mv (.c .mt))]) (.seq (.seq (.ops false [oP 3 (.mv (.t 0)), oP 4 (.isn false (.t 3))]) (.cond (.t 4) (.seq (.ops false [oP 2 (.mv (.c .mt))]) .ret) .skip)) c132_1))
def r132 : List RV := [(.tmp 2)]
theorem c132_ok : ∃ code, Try.f132.body = some code ∧ compC Try.prog Try.f132.ntmps code = some (C.strip c132) := ⟨_, rfl, by kernel_rfl⟩
theorem r132_ok : compRes Try.prog Try.f132.results.toList = some r132 := by kernel_rfl
theorem f132_ok : fnOk Try.prog 132 = true := by kernel_rfl
def c156 : C := (.seq (.ops false [oP 3 (.mv (cB false))]) (.seq (.ops false [oP 4 (.mv (.t 0)), oP 5 (.bin .lss (.t 4) (cI 0)), oP 6 (.mv (.t 5)), oG 7 6 false (.mv (.t 0)), oG 8 6 false (.fa 0 (.t 1)), oG 9 6 false (.fa 0 (.t 8)), oG 10 6 false (.ld 1 false (.t 9)), oG 11 6 false (.len (.t 10)), oG 12 6 false (.bin .geq (.t 7) (.t 11)), oP 13 (.pick (.t 6) (cB true) (.t 12)), oP 3 (.mv (.t 13))]) .ret))
def r156 : List RV := [(.tmp 3)]
theorem c156_ok : ∃ code, Try.f156.body = some code ∧ compC Try.prog Try.f156.ntmps code = some (C.strip c156) := ⟨_, rfl, by kernel_rfl⟩
theorem r156_ok : compRes Try.prog Try.f156.results.toList = some r156 := by kernel_rfl
theorem f156_ok : fnOk Try.prog 156 = true := by kernel_rfl
def c157_1 : C := (.block 1 (.ops true [oP 38 (.mv (.t 8)), oP 39 (.mv (.t 7)), oP 40 (.mv (.t 8)), oA 41 (.slc 1 (.t 39) (.some (.t 40)) Option.none) [2, 1], oP 42 (.mv (.t 7)), oP 43 (.mv (.t 8)), oA 44 (.slc 1 (.t 42) Option.none (.some (.t 43))) [5, 4], oA 45 (.cpy (.t 41) (.t 44)) [4, 5, 1, 2, 6, 3], oA 46 (.bin .add (.t 38) (.t 45)) [3, 6, 2, 1, 5, 4, 7, 0], oA 8 (.mv (.t 46)) [6, 5, 4, 3, 2, 1, 0, 7, 8]]))
def c157_2 : C := (.seq (.seq (.ops false [oP 34 (.mv (.t 8)), oP 35 (.mv (.t 7)), oP 36 (.len (.t 35)), oP 37 (.bin .lss (.t 34) (.t 36))]) (.cond (.t 37) .skip (.exit 0))) c157_1)
def c157_3 : C := (.seq (.ops false [oP 47 (.mv (.t 7)), oP 4 (.mv (.t 47))]) .ret)
def c157_4 : C := (.seq (.ops false [oP 28 (.mv (.t 6)), oP 29 (.cvi .i64 (.t 28)), oP 30 (.mks 1 8 [(.v (.int .i64 0))] (.t 29)), oP 7 (.mv (.t 30))]) (.seq (.ops false [oP 31 (.mv (.t 7)), oP 32 (.mv (.t 0)), oP 33 (.cpy (.t 31) (.t 32)), oP 8 (.mv (.t 33))]) (.seq (.block 0 (.loop c157_2)) c157_3)))
def c157_5 : C := (.seq (.ops false [oP 13 (.mv (.t 0)), oP 14 (.len (.t 13)), oP 15 (.cvi .u64 (.t 14)), oP 16 (.mv (.t 1)), oP 17 (.cvi .u64 (.t 16)), oB 18 (.call 178 [(.t 15), (.t 17)]), oP 12 (.mv (.t 18)), oP 19 (.ext (.t 12) 0), oP 20 (.ext (.t 12) 1), oP 5 (.mv (.t 19)), oP 6 (.mv (.t 20))]) (.seq (.seq (.ops false [oP 21 (.mv (.t 5)), oP 22 (.bin .gtr (.t 21) (.c (.v (.int .u64 0)))), oP 23 (.mv (.t 22)),
  oG 24 23 false (.mv (.t 6)), oG 25 23 false (.bin .gtr (.t 24) (.c (.v (.int .u64 9223372036854775807)))), oP 26 (.pick (.t 23) (cB true) (.t 25))]) (.cond (.t 26) (.ops false [oP 27 .stk, oS .stk]) .skip)) c157_4))
def c157 : C := (.seq (.ops false [oP 4 (.mv (.c .mt))]) (.seq (.seq (.ops false [oP 9 (.mv (.t 1)), oP 10 (.bin .lss (.t 9) (cI 0))]) (.cond (.t 10) (.ops false [oP 11 .stk, oS .stk]) .skip)) c157_5))
def r157 : List RV := [(.tmp 4)]
theorem c157_ok : ∃ code, Try.f157.body = some code ∧ compC Try.prog Try.f157.ntmps code = some (C.strip c157) := ⟨_, rfl, by kernel_rfl⟩
theorem r157_ok : compRes Try.prog Try.f157.results.toList = some r157 := by kernel_rfl
theorem f157_ok : fnOk Try.prog 157 = true := by kernel_rfl
def c158_1 : C := (.ops false [oP 18 (.bin .add (.t 8) (cI 1)), oP 8 (.mv (.t 18))])
def c158_2 : C := (.seq (.block 1 (.seq (.ops false [oP 10 (.mv (.t 8)), oP 5 (.mv (.t 10))]) (.seq (.ops false [oP 11 (.mv (.t 1)), oP 12 (.mv (.t 0)), oP 13 (.mv (.t 5)), oP 14 (.iaS 2 (.t 12) (.t 13)), oP 15 (.ld 2 true (.t 14)), oP 16 (.callv (.t 11) [(.t 15)])]) (.cond (.t 16) (.seq (.ops false [oP 17 (.mv (.t 5)), oP 4 (.mv (.t 17))]) .ret) .skip)))) c158_1)
def c158_3 : C := (.seq (.ops false [oP 9 (.bin .lss (.t 8) (.t 7))]) (.seq (.cond (.t 9) .skip (.exit 0)) c158_2))
def c158_4 : C := (.seq (.ops false [oP 4 (.mv (cI (-1)))]) .ret)
def c158 : C := (.seq (.ops false [oP 4 (.mv (cI 0))]) (.seq (.seq (.ops false [oP 6 (.mv (.t 0)), oP 7 (.len (.t 6)), oP 8 (.mv (cI 0))]) (.block 0 (.loop c158_3))) c158_4))
def r158 : List RV := [(.tmp 4)]
theorem c158_ok : ∃ code, Try.f158.body = some code ∧ compC Try.prog Try.f158.ntmps code = some (C.strip c158) := ⟨_, rfl, by kernel_rfl⟩
theorem r158_ok : compRes Try.prog Try.f158.results.toList = some r158 := by kernel_rfl
theorem f158_ok : fnOk Try.prog 158 = true := by kernel_rfl
def c159_1 : C := (.ops false [oP 18 (.bin .add (.t 8) (cI 1)), oP 8 (.mv (.t 18))])
def c159_2 : C := (.seq (.block 1 (.seq (.ops false [oP 10 (.mv (.t 8)), oP 5 (.mv (.t 10))]) (.seq (.ops false [oP 11 (.mv (.t 1)), oP 12 (.mv (.t 0)), oP 13 (.mv (.t 5)), oP 14 (.iaS 1 (.t 12) (.t 13)), oP 15 (.ld 1 false (.t 14)), oP 16 (.bin .eql (.t 11) (.t 15))]) (.cond (.t 16) (.seq (.ops false [oP 17 (.mv (.t 5)), oP 4 (.mv (.t 17))]) .ret) .skip)))) c159_1)
def c159_3 : C := (.seq (.ops false [oP 9 (.bin .lss (.t 8) (.t 7))]) (.seq (.cond (.t 9) .skip (.exit 0)) c159_2))
def c159_4 : C := (.seq (.ops false [oP 4 (.mv (cI (-1)))]) .ret)
def c159 : C := (.seq (.ops false [oP 4 (.mv (cI 0))]) (.seq (.seq (.ops false [oP 6 (.mv (.t 0)), oP 7 (.len (.t 6)), oP 8 (.mv (cI 0))]) (.block 0 (.loop c159_3))) c159_4))
def r159 : List RV := [(.tmp 4)]
theorem c159_ok : ∃ code, Try.f159.body = some code ∧ compC Try.prog Try.f159.ntmps code = some (C.strip c159) := ⟨_, rfl, by kernel_rfl⟩
theorem r159_ok : compRes Try.prog Try.f159.results.toList = some r159 := by kernel_rfl
theorem f159_ok : fnOk Try.prog 159 = true := by kernel_rfl
def c178_1 : C := (.seq (.ops false [oP 23 (.mv (.t 0)), oP 24 (.mv (.t 1)), oB 25 (.call 182 [(.t 23), (.t 24)]), oP 22 (.mv (.t 25)), oP 26 (.ext (.t 22) 0), oP 27 (.ext (.t 22) 1), oP 8 (.mv (.t 26)), oP 9 (.mv (.t 27))]) (.seq (.ops false [oP 28 (.mv (.t 8)), oP 29 (.mv (.t 9)), oP 4 (.mv (.t 28)), oP 5 (.mv (.t 29))]) .ret))
def c178 : C := (.seq (.ops false [oP 4 (.mv (.c (.v (.int .u64 0)))), oP 5 (.mv (.c (.v (.int .u64 0))))]) (.seq (.cond (cB false) (.seq (.ops false [oP 11 (.mv (.t 0)), oP 12 (.cvi .u32 (.t 11)), oP 13 (.mv (.t 1)), oP 14 (.cvi .u32 (.t 13)), oB 15 (.call 181 [(.t 12), (.t 14)]), oP 10 (.mv (.t 15)), oP 16 (.ext (.t 10) 0), oP 17 (.ext (.t 10) 1), oP 6 (.mv (.t 16)), oP 7 (.mv (.t 17))])
  (.seq (.ops false [oP 18 (.mv (.t 6)), oP 19 (.cvi .u64 (.t 18)), oP 20 (.mv (.t 7)), oP 21 (.cvi .u64 (.t 20)), oP 4 (.mv (.t 19)), oP 5 (.mv (.t 21))]) .ret)) .skip) c178_1))
def r178 : List RV := [(.tmp 4), (.tmp 5)]
theorem c178_ok : ∃ code, Try.f178.body = some code ∧ compC Try.prog Try.f178.ntmps code = some (C.strip c178) := ⟨_, rfl, by kernel_rfl⟩
theorem r178_ok : compRes Try.prog Try.f178.results.toList = some r178 := by kernel_rfl
theorem f178_ok : fnOk Try.prog 178 = true := by kernel_rfl
def c182 : C := (.seq (.ops false [oP 4 (.mv (.c (.v (.int .u64 0)))), oP 5 (.mv (.c (.v (.int .u64 0))))]) (.seq (.ops false [oP 14 (.mv (.t 0)), oP 15 (.bin .and (.t 14) (.c (.v (.int .u64 4294967295)))), oP 6 (.mv (.t 15))]) (.seq (.ops false [oP 16 (.mv (.t 0)), oP 17 (.bin .shr (.t 16) (.c (.v (.int .u64 32)))), oP 7 (.mv (.t 17))]) (.seq (.ops false [oP 18 (.mv (.t 1)), oP 19 (.bin .and (.t 18)
  (.c (.v (.int .u64 4294967295)))), oP 8 (.mv (.t 19))]) (.seq (.ops false [oP 20 (.mv (.t 1)), oP 21 (.bin .shr (.t 20) (.c (.v (.int .u64 32)))), oP 9 (.mv (.t 21))]) (.seq (.ops false [oP 22 (.mv (.t 6)), oP 23 (.mv (.t 8)), oP 24 (.bin .mul (.t 22) (.t 23)), oP 10 (.mv (.t 24))]) (.seq (.ops false [oP 25 (.mv (.t 7)), oP 26 (.mv (.t 8)), oP 27 (.bin .mul (.t 25) (.t 26)), oP 28 (.mv (.t 10)),
  oP 29 (.bin .shr (.t 28) (.c (.v (.int .u64 32)))), oP 30 (.bin .add (.t 27) (.t 29)), oP 11 (.mv (.t 30))]) (.seq (.ops false [oP 31 (.mv (.t 11)), oP 32 (.bin .and (.t 31) (.c (.v (.int .u64 4294967295)))), oP 12 (.mv (.t 32))]) (.seq (.ops false [oP 33 (.mv (.t 11)), oP 34 (.bin .shr (.t 33) (.c (.v (.int .u64 32)))), oP 13 (.mv (.t 34))]) (.seq (.ops false [oP 35 (.mv (.t 12)),
  oP 36 (.mv (.t 6)), oP 37 (.mv (.t 9)), oP 38 (.bin .mul (.t 36) (.t 37)), oP 39 (.bin .add (.t 35) (.t 38)), oP 12 (.mv (.t 39))]) (.seq (.ops false [oP 40 (.mv (.t 7)), oP 41 (.mv (.t 9)), oP 42 (.bin .mul (.t 40) (.t 41)), oP 43 (.mv (.t 13)), oP 44 (.bin .add (.t 42) (.t 43)), oP 45 (.mv (.t 12)), oP 46 (.bin .shr (.t 45) (.c (.v (.int .u64 32)))), oP 47 (.bin .add (.t 44) (.t 46)),
  oP 4 (.mv (.t 47))]) (.seq (.ops false [oP 48 (.mv (.t 0)), oP 49 (.mv (.t 1)), oP 50 (.bin .mul (.t 48) (.t 49)), oP 5 (.mv (.t 50))]) .ret))))))))))))
def r182 : List RV := [(.tmp 4), (.tmp 5)]
theorem c182_ok : ∃ code, Try.f182.body = some code ∧ compC Try.prog Try.f182.ntmps code = some (C.strip c182) := ⟨_, rfl, by kernel_rfl⟩
theorem r182_ok : compRes Try.prog Try.f182.results.toList = some r182 := by kernel_rfl
theorem f182_ok : fnOk Try.prog 182 = true := by kernel_rfl
end Go.Proofs.Ytemkjjlpggmolaa
