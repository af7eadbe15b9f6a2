/- Compiled code of some functions (printed by a program), each checked by the kernel. -/
import Derived.Test.YtfkhjkkhdfcnjaaV3
import Derived.Test.YtfkhjkkhdfcnjaaProg
namespace Go.Proofs.Ytfkhjkkhdfcnjaa
open Go
set_option maxRecDepth 100000
def c15 : C := (.seq (.ops false [oP 2 (.mv (cB false))]) (.seq (.ops false [oP 3 (.mv (.t 0)), oP 4 (.len (.t 3)), oP 5 (.bin .leq (.t 4) (cI 400)), oP 2 (.mv (.t 5))]) .ret))
def r15 : List RV := [(.tmp 2)]
theorem c15_ok : ∃ code, Try.f15.body = some code ∧ compC Try.prog Try.f15.ntmps code = some (C.strip c15) := ⟨_, rfl, by kernel_rfl⟩
theorem r15_ok : compRes Try.prog Try.f15.results.toList = some r15 := by kernel_rfl
theorem f15_ok : fnOk Try.prog 15 = true := by kernel_rfl
def c16 : C := (.seq (.ops false [oP 0 (.mv (cB false))]) (.seq (.ops false [oP 4 (.bld [(.v (.int .i64 0)), (.v (.int .i64 0)), (.v (.int .i64 0)), (.v (.int .i64 0)), (.v (.int .i64 0))] [(0, (1, (cI 1))), (2, (1, (cI 5))), (3, (1, (cI 10))), (4, (1, (cI 12)))]), oP 5 (.bsl 5 1 [(.v (.int .i64 0)), (.v (.int .i64 0)), (.v (.int .i64 0)), (.v (.int .i64 0)), (.v (.int .i64 0))] [(0, (.t 4))]),
  oP 1 (.mv (.t 5))]) (.seq (.ops false [oP 7 (.mv (.t 1)), oB 8 (.call 72 [(.t 7), (cI 10)]), oP 6 (.mv (.t 8)), oP 9 (.ext (.t 6) 0), oP 10 (.ext (.t 6) 1), oP 2 (.mv (.t 9)), oP 3 (.mv (.t 10))]) (.seq (.ops false [oP 11 (.mv (.t 1)), oB 12 (.call 73 [(.t 11), (cI 0), (cI 9)]), oP 13 (.bin .eql (.t 12) (cI 0)), oP 14 (.mv (.t 13)), oG 15 14 true (.mv (.t 1)), ⟨(.some 16), (.some (14, true)),
  (.call 73 [(.t 15), (cI 0), (cI 10)]), 16, [], true⟩, oG 17 14 true (.bin .eql (.t 16) (cI 5)), oP 18 (.pick (.t 14) (.t 17) (cB false)), oP 19 (.mv (.t 18)), oG 20 19 true (.mv (.t 1)), ⟨(.some 21), (.some (19, true)), (.call 73 [(.t 20), (cI 0), (cI 11)]), 21, [], true⟩, oG 22 19 true (.bin .eql (.t 21) (cI 5)), oP 23 (.pick (.t 19) (.t 22) (cB false)), oP 24 (.mv (.t 23)),
  oG 25 24 true (.mv (.t 1)), ⟨(.some 26), (.some (24, true)), (.call 73 [(.t 25), (cI 0), (cI 12)]), 26, [], true⟩, oG 27 24 true (.bin .eql (.t 26) (cI 0)), oP 28 (.pick (.t 24) (.t 27) (cB false)), oP 29 (.mv (.t 28)), oG 30 29 true (.mv (.t 3)), oP 31 (.pick (.t 29) (.t 30) (cB false)), oP 32 (.mv (.t 31)), oG 33 32 true (.mv (.t 2)), oG 34 32 true (.bin .eql (.t 33) (cI 12)),
  oP 35 (.pick (.t 32) (.t 34) (cB false)), oP 0 (.mv (.t 35))]) .ret))))
def r16 : List RV := [(.tmp 0)]
theorem c16_ok : ∃ code, Try.f16.body = some code ∧ compC Try.prog Try.f16.ntmps code = some (C.strip c16) := ⟨_, rfl, by kernel_rfl⟩
theorem r16_ok : compRes Try.prog Try.f16.results.toList = some r16 := by kernel_rfl
theorem f16_ok : fnOk Try.prog 16 = true := by kernel_rfl
def c19_1 : C := (.ops false [oP 70 (.mv (.t 7)), oP 71 (.ld 5 true (.t 9)), oP 72 (.bsl 5 1 [(.v (.int .i64 0)), (.v (.int .i64 0)), (.v (.int .i64 0)), (.v (.int .i64 0)), (.v (.int .i64 0))] [(0, (.t 71))]), oP 73 (.app 5 40 (.t 70) (.t 72)), oP 7 (.mv (.t 73))])
def c19_2 : C := (.ops false [oP 16 (.mv (.t 8)), oP 17 (.bin .sub (.t 16) (cI 1)), oP 8 (.mv (.t 17))])
def c19_3 : C := (.seq (.block 1 (.seq (.ops false [oP 18 (.mv (.t 0)), oB 19 (.call 59 [(.t 18), (cI 4)]), oP 20 (.bin .add (cI 1) (.t 19)), oP 21 (.mv (.t 0)), oB 22 (.call 59 [(.t 21), (cI 8)]), oP 23 (.bld [(.v (.int .i64 0)), (.v (.int .i64 0)), (.v (.int .i64 0)), (.v (.int .i64 0)), (.v (.int .i64 0))] [(0, (1, (.t 20))), (3, (1, (.t 22)))]), oP 9 (.new [(.v (.int .i64 0)), (.v (.int .i64 0)),
  (.v (.int .i64 0)), (.v (.int .i64 0)), (.v (.int .i64 0))]), oS (.st 5 (.t 9) (.t 23))]) (.seq (.ops true [oP 24 (.fa 3 (.t 9)), oA 25 (.ld 1 false (.t 24)) [0], oP 26 (.mv (.t 0)), oP 27 (.bsl 1 4 [(.v (.int .i64 0))] [(0, (cI 0)), (1, (cI 1)), (2, (cI 5)), (3, (cI 100))]), ⟨(.some 28), Option.none, (.call 74 [(.t 26), (.t 27)]), 28, [3, 2], true⟩, oA 29 (.bin .add (.t 25) (.t 28)) [2, 3, 0, 4,
  1], oA 30 (.fa 4 (.t 9)) [5, 4, 3, 2, 1, 0], ⟨Option.none, Option.none, (.st 1 (.t 30) (.t 29)), 0, [3, 2, 1, 0, 4, 5, 6], false⟩]) (.seq (.seq (.ops false [oP 31 (.fa 0 (.t 9)), oP 32 (.ld 1 false (.t 31))]) (.block 2 (.seq (.ops false [oP 39 (.bin .eql (.t 32) (cI 1)), oP 38 (.mv (.t 39))]) (.cond (.t 38) (.ops false [oP 40 (.mv (.t 0)), oP 41 (.fa 1 (.t 4)), oP 42 (.ld 1 false (.t 41)),
  oP 43 (.len (.t 42)), oB 44 (.call 59 [(.t 40), (.t 43)]), oP 45 (.mv (.t 0)), oP 46 (.bsl 1 4 [(.v (.int .i64 0))] [(0, (cI 1)), (1, (cI 2)), (2, (cI 5)), (3, (cI 300))]), oB 47 (.call 74 [(.t 45), (.t 46)]), oP 48 (.fa 1 (.t 9)), oS (.st 1 (.t 48) (.t 44)), oP 49 (.fa 2 (.t 9)), oS (.st 1 (.t 49) (.t 47))]) (.seq (.ops false [oP 51 (.bin .eql (.t 32) (cI 2)), oP 50 (.mv (.t 51))]) (.cond (.t 50)
  (.ops false [oP 52 (.mv (.t 0)), oP 53 (.fa 2 (.t 4)), oP 54 (.ld 1 false (.t 53)), oP 55 (.len (.t 54)), oB 56 (.call 59 [(.t 52), (.t 55)]), oP 57 (.mv (.t 0)), oP 58 (.bsl 1 5 [(.v (.int .i64 0))] [(0, (cI 0)), (1, (cI 1000)), (2, (cI (-1000))), (3, (cI 100000)), (4, (cI (-100000)))]), oB 59 (.call 74 [(.t 57), (.t 58)]), oP 60 (.fa 1 (.t 9)), oS (.st 1 (.t 60) (.t 56)), oP 61 (.fa 2 (.t 9)),
  oS (.st 1 (.t 61) (.t 59))]) (.seq (.ops false [oP 63 (.bin .eql (.t 32) (cI 3)), oP 62 (.mv (.t 63))]) (.cond (.t 62) (.ops false [oP 64 (.mv (.t 0)), oP 65 (.fa 2 (.t 4)), oP 66 (.ld 1 false (.t 65)), oP 67 (.len (.t 66)), oB 68 (.call 59 [(.t 64), (.t 67)]), oP 69 (.fa 1 (.t 9)), oS (.st 1 (.t 69) (.t 68))]) (.ops false [oP 33 (.mv (.t 0)), oP 34 (.ld 6 true (.t 4)), oB 35 (.call 57 [(.t 34)]),
  oB 36 (.call 59 [(.t 33), (.t 35)]), oP 37 (.fa 1 (.t 9)), oS (.st 1 (.t 37) (.t 36))]))))))))) c19_1)))) c19_2)
def c19_4 : C := (.seq (.seq (.ops false [oP 14 (.mv (.t 8)), oP 15 (.bin .gtr (.t 14) (cI 0))]) (.cond (.t 15) .skip (.exit 0))) c19_3)
def c19_5 : C := (.seq (.ops false [oP 74 (.mv (.t 7)), oP 6 (.mv (.t 74))]) .ret)
def c19 : C := (.seq (.ops false [oP 4 (.box 6 (.t 1)), oP 6 (.mv (.c .mt))]) (.seq (.ops false [oP 7 (.mv (.c .mt))]) (.seq (.seq (.ops false [oP 10 (.mv (.t 0)), oP 11 (.mv (.t 2)), oP 12 (.bin .add (.t 11) (cI 1)), oB 13 (.call 59 [(.t 10), (.t 12)]), oP 8 (.mv (.t 13))]) (.block 0 (.loop c19_4))) c19_5)))
def r19 : List RV := [(.tmp 6)]
theorem c19_ok : ∃ code, Try.f19.body = some code ∧ compC Try.prog Try.f19.ntmps code = some (C.strip c19) := ⟨_, rfl, by kernel_rfl⟩
theorem r19_ok : compRes Try.prog Try.f19.results.toList = some r19 := by kernel_rfl
theorem f19_ok : fnOk Try.prog 19 = true := by kernel_rfl
def c57 : C := (.seq (.ops false [oP 1 (.box 6 (.t 0)), oP 2 (.mv (cI 0))]) (.seq (.ops false [oP 3 (.fa 1 (.t 1)), oP 4 (.ld 1 false (.t 3)), oP 5 (.len (.t 4)), oP 6 (.fa 2 (.t 1)), oP 7 (.ld 1 false (.t 6)), oP 8 (.len (.t 7)), oP 9 (.bin .add (.t 5) (.t 8)), oP 2 (.mv (.t 9))]) .ret))
def r57 : List RV := [(.tmp 2)]
theorem c57_ok : ∃ code, Try.f57.body = some code ∧ compC Try.prog Try.f57.ntmps code = some (C.strip c57) := ⟨_, rfl, by kernel_rfl⟩
theorem r57_ok : compRes Try.prog Try.f57.results.toList = some r57 := by kernel_rfl
theorem f57_ok : fnOk Try.prog 57 = true := by kernel_rfl
def c72_1 : C := (.ops false [oP 46 (.bin .add (.t 29) (cI 1)), oP 29 (.mv (.t 46))])
def c72_2 : C := (.seq (.block 3 (.seq (.ops false [oP 31 (.iaS 1 (.t 27) (.t 29)), oP 32 (.ld 1 false (.t 31)), oP 11 (.mv (.t 32))]) (.seq (.ops false [oP 33 (.mv (.t 11)), oP 34 (.mv (.t 1)), oP 35 (.bin .gtr (.t 33) (.t 34)), oP 36 (.mv (.t 35)), oG 37 36 true (.mv (.t 7)), oG 38 36 true (.not (.t 37)), oG 39 36 true (.mv (.t 38)), oG 40 39 false (.mv (.t 11)), oG 41 39 false (.mv (.t 6)),
  oG 42 39 false (.bin .lss (.t 40) (.t 41)), oG 43 36 true (.pick (.t 39) (cB true) (.t 42)), oP 44 (.pick (.t 36) (.t 43) (cB false))]) (.cond (.t 44) (.ops false [oP 45 (.mv (.t 11)), oP 6 (.mv (.t 45)), oP 7 (.mv (cB true))]) .skip)))) c72_1)
def c72_3 : C := (.seq (.ops false [oP 30 (.bin .lss (.t 29) (.t 28))]) (.seq (.cond (.t 30) .skip (.exit 2)) c72_2))
def c72_4 : C := (.seq (.ops false [oP 23 (.fa 3 (.t 9)), oP 24 (.ld 1 false (.t 23)), oP 25 (.fa 4 (.t 9)), oP 26 (.ld 1 false (.t 25)), oP 27 (.bsl 1 2 [(.v (.int .i64 0))] [(0, (.t 24)), (1, (.t 26))]), oP 28 (.len (.t 27)), oP 29 (.mv (cI 0))]) (.block 2 (.loop c72_3)))
def c72_5 : C := (.ops false [oP 47 (.bin .add (.t 14) (cI 1)), oP 14 (.mv (.t 47))])
def c72_6 : C := (.seq (.block 1 (.seq (.ops false [oP 16 (.iaS 5 (.t 12) (.t 14)), oP 17 (.ld 5 true (.t 16)), oP 9 (.new [(.v (.int .i64 0)), (.v (.int .i64 0)), (.v (.int .i64 0)), (.v (.int .i64 0)), (.v (.int .i64 0))]), oS (.st 5 (.t 9) (.t 17))]) (.seq (.seq (.ops false [oP 18 (.fa 3 (.t 9)), oP 19 (.ld 1 false (.t 18)), oP 20 (.fa 4 (.t 9)), oP 21 (.ld 1 false (.t 20)), oP 22 (.bin .geq (.t 19) (.t 21))])
  (.cond (.t 22) (.exit 1) .skip)) c72_4))) c72_5)
def c72_7 : C := (.seq (.ops false [oP 15 (.bin .lss (.t 14) (.t 13))]) (.seq (.cond (.t 15) .skip (.exit 0)) c72_6))
def c72_8 : C := (.seq (.ops false [oP 48 (.mv (.t 6)), oP 49 (.mv (.t 7)), oP 4 (.mv (.t 48)), oP 5 (.mv (.t 49))]) .ret)
def c72 : C := (.seq (.ops false [oP 4 (.mv (cI 0)), oP 5 (.mv (cB false))]) (.seq (.ops false [oP 6 (.mv (cI 0)), oP 7 (.mv (cB false))]) (.seq (.seq (.ops false [oP 12 (.mv (.t 0)), oP 13 (.len (.t 12)), oP 14 (.mv (cI 0))]) (.block 0 (.loop c72_7))) c72_8)))
def r72 : List RV := [(.tmp 4), (.tmp 5)]
theorem c72_ok : ∃ code, Try.f72.body = some code ∧ compC Try.prog Try.f72.ntmps code = some (C.strip c72) := ⟨_, rfl, by kernel_rfl⟩
theorem r72_ok : compRes Try.prog Try.f72.results.toList = some r72 := by kernel_rfl
theorem f72_ok : fnOk Try.prog 72 = true := by kernel_rfl
def c73 : C := (.seq (.ops false [oP 6 (.mv (cI 0))]) (.seq (.ops false [oP 7 (.mv (.t 0)), oP 8 (.mv (.t 1)), oP 9 (.mv (.t 2)), oB 10 (.call 135 [(.t 7), (cI 1), (.t 8), (.t 9)]), oP 6 (.mv (.t 10))]) .ret))
def r73 : List RV := [(.tmp 6)]
theorem c73_ok : ∃ code, Try.f73.body = some code ∧ compC Try.prog Try.f73.ntmps code = some (C.strip c73) := ⟨_, rfl, by kernel_rfl⟩
theorem r73_ok : compRes Try.prog Try.f73.results.toList = some r73 := by kernel_rfl
theorem f73_ok : fnOk Try.prog 73 = true := by kernel_rfl
def c86 : C := (.seq (.ops false [oP 6 (.mv (cI 0))]) (.seq (.ops false [oP 7 (.mv (.t 0)), oP 8 (.mv (.t 1)), oP 9 (.mv (.t 2)), oB 10 (.call 135 [(.t 7), (cI 2), (.t 8), (.t 9)]), oP 6 (.mv (.t 10))]) .ret))
def r86 : List RV := [(.tmp 6)]
theorem c86_ok : ∃ code, Try.f86.body = some code ∧ compC Try.prog Try.f86.ntmps code = some (C.strip c86) := ⟨_, rfl, by kernel_rfl⟩
theorem r86_ok : compRes Try.prog Try.f86.results.toList = some r86 := by kernel_rfl
theorem f86_ok : fnOk Try.prog 86 = true := by kernel_rfl
def c88 : C := (.seq (.ops false [oP 6 (.mv (cB false))]) (.seq (.ops false [oP 7 (.mv (.t 0)), oP 8 (.mv (.t 1)), oP 9 (.mv (.t 2)), oB 10 (.call 147 [(.t 7), (cI 3), (.t 8), (.t 9)]), oP 6 (.mv (.t 10))]) .ret))
def r88 : List RV := [(.tmp 6)]
theorem c88_ok : ∃ code, Try.f88.body = some code ∧ compC Try.prog Try.f88.ntmps code = some (C.strip c88) := ⟨_, rfl, by kernel_rfl⟩
theorem r88_ok : compRes Try.prog Try.f88.results.toList = some r88 := by kernel_rfl
theorem f88_ok : fnOk Try.prog 88 = true := by kernel_rfl
def c90 : C := (.seq (.ops false [oP 6 (.mv (cB false))]) (.seq (.ops false [oP 7 (.mv (.t 0)), oP 8 (.mv (.t 1)), oP 9 (.mv (.t 2)), oB 10 (.call 147 [(.t 7), (cI 4), (.t 8), (.t 9)]), oP 6 (.mv (.t 10))]) .ret))
def r90 : List RV := [(.tmp 6)]
theorem c90_ok : ∃ code, Try.f90.body = some code ∧ compC Try.prog Try.f90.ntmps code = some (C.strip c90) := ⟨_, rfl, by kernel_rfl⟩
theorem r90_ok : compRes Try.prog Try.f90.results.toList = some r90 := by kernel_rfl
theorem f90_ok : fnOk Try.prog 90 = true := by kernel_rfl
def c135_1 : C := (.ops false [oP 37 (.bin .add (.t 14) (cI 1)), oP 14 (.mv (.t 37))])
def c135_2 : C := (.seq (.block 1 (.seq (.ops false [oP 16 (.iaS 5 (.t 12) (.t 14)), oP 17 (.ld 5 true (.t 16)), oP 11 (.new [(.v (.int .i64 0)), (.v (.int .i64 0)), (.v (.int .i64 0)), (.v (.int .i64 0)), (.v (.int .i64 0))]), oS (.st 5 (.t 11) (.t 17))]) (.seq (.ops false [oP 18 (.fa 0 (.t 11)), oP 19 (.ld 1 false (.t 18)), oP 20 (.mv (.t 1)), oP 21 (.bin .eql (.t 19) (.t 20)), oP 22 (.mv (.t 21)),
  oG 23 22 true (.fa 1 (.t 11)), oG 24 22 true (.ld 1 false (.t 23)), oG 25 22 true (.mv (.t 2)), oG 26 22 true (.bin .eql (.t 24) (.t 25)), oP 27 (.pick (.t 22) (.t 26) (cB false)), oP 28 (.mv (.t 27)), oG 29 28 true (.ld 5 true (.t 11)), oG 30 28 true (.mv (.t 3)), ⟨(.some 31), (.some (28, true)), (.call 160 [(.t 29), (.t 30)]), 31, [], true⟩, oP 32 (.pick (.t 28) (.t 31) (cB false))])
  (.cond (.t 32) (.ops false [oP 33 (.mv (.t 9)), oP 34 (.fa 2 (.t 11)), oP 35 (.ld 1 false (.t 34)), oP 36 (.bin .add (.t 33) (.t 35)), oP 9 (.mv (.t 36))]) .skip)))) c135_1)
def c135_3 : C := (.seq (.ops false [oP 15 (.bin .lss (.t 14) (.t 13))]) (.seq (.cond (.t 15) .skip (.exit 0)) c135_2))
def c135_4 : C := (.seq (.ops false [oP 38 (.mv (.t 9)), oP 8 (.mv (.t 38))]) .ret)
def c135 : C := (.seq (.ops false [oP 8 (.mv (cI 0))]) (.seq (.ops false [oP 9 (.mv (cI 0))]) (.seq (.seq (.ops false [oP 12 (.mv (.t 0)), oP 13 (.len (.t 12)), oP 14 (.mv (cI 0))]) (.block 0 (.loop c135_3))) c135_4)))
def r135 : List RV := [(.tmp 8)]
theorem c135_ok : ∃ code, Try.f135.body = some code ∧ compC Try.prog Try.f135.ntmps code = some (C.strip c135) := ⟨_, rfl, by kernel_rfl⟩
theorem r135_ok : compRes Try.prog Try.f135.results.toList = some r135 := by kernel_rfl
theorem f135_ok : fnOk Try.prog 135 = true := by kernel_rfl
def c147_1 : C := (.seq (.ops false [oP 9 (.mv (.t 0)), oP 10 (.mkf 176 [] [(.t 5), (.t 6), (.t 7)]), oB 11 (.call 80 [(.t 9), (.t 10)]), oP 8 (.mv (.t 11))]) .ret)
def c147 : C := (.seq (.ops false [oP 5 (.box 1 (.t 1)), oP 6 (.box 1 (.t 2)), oP 7 (.box 1 (.t 3)), oP 8 (.mv (cB false))]) (.weak c147_1))
def r147 : List RV := [(.tmp 8)]
theorem c147_ok : ∃ code, Try.f147.body = some code ∧ compC Try.prog Try.f147.ntmps code = some (C.strip c147) := ⟨_, rfl, by kernel_rfl⟩
theorem r147_ok : compRes Try.prog Try.f147.results.toList = some r147 := by kernel_rfl
theorem f147_ok : fnOk Try.prog 147 = true := by kernel_rfl
def c160 : C := (.seq (.ops false [oP 2 (.box 5 (.t 0)), oP 4 (.mv (cB false))]) (.seq (.ops false [oP 5 (.fa 3 (.t 2)), oP 6 (.ld 1 false (.t 5)), oP 7 (.mv (.t 1)), oP 8 (.bin .leq (.t 6) (.t 7)), oP 9 (.mv (.t 8)), oG 10 9 true (.mv (.t 1)), oG 11 9 true (.fa 4 (.t 2)), oG 12 9 true (.ld 1 false (.t 11)), oG 13 9 true (.bin .lss (.t 10) (.t 12)), oP 14 (.pick (.t 9) (.t 13) (cB false)), oP 4 (.mv (.t 14))])
  .ret))
def r160 : List RV := [(.tmp 4)]
theorem c160_ok : ∃ code, Try.f160.body = some code ∧ compC Try.prog Try.f160.ntmps code = some (C.strip c160) := ⟨_, rfl, by kernel_rfl⟩
theorem r160_ok : compRes Try.prog Try.f160.results.toList = some r160 := by kernel_rfl
theorem f160_ok : fnOk Try.prog 160 = true := by kernel_rfl
def c176 : C := (.seq (.ops false [oP 4 (.box 5 (.t 0)), oP 5 (.mv (cB false))]) (.seq (.ops false [oP 6 (.fa 0 (.t 4)), oP 7 (.ld 1 false (.t 6)), oP 8 (.ld 1 false (.t 1)), oP 9 (.bin .eql (.t 7) (.t 8)), oP 10 (.mv (.t 9)), oG 11 10 true (.fa 1 (.t 4)), oG 12 10 true (.ld 1 false (.t 11)), oG 13 10 true (.ld 1 false (.t 2)), oG 14 10 true (.bin .eql (.t 12) (.t 13)), oP 15 (.pick (.t 10) (.t 14) (cB false)),
  oP 16 (.mv (.t 15)), oG 17 16 true (.ld 5 true (.t 4)), oG 18 16 true (.ld 1 false (.t 3)), ⟨(.some 19), (.some (16, true)), (.call 160 [(.t 17), (.t 18)]), 19, [], true⟩, oP 20 (.pick (.t 16) (.t 19) (cB false)), oP 5 (.mv (.t 20))]) .ret))
def r176 : List RV := [(.tmp 5)]
theorem c176_ok : ∃ code, Try.f176.body = some code ∧ compC Try.prog Try.f176.ntmps code = some (C.strip c176) := ⟨_, rfl, by kernel_rfl⟩
theorem r176_ok : compRes Try.prog Try.f176.results.toList = some r176 := by kernel_rfl
theorem f176_ok : fnOk Try.prog 176 = true := by kernel_rfl
end Go.Proofs.Ytfkhjkkhdfcnjaa
