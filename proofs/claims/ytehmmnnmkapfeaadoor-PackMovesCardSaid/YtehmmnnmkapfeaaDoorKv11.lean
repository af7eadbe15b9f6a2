/- PackMoves: CodePK Pk2 GFd CtC CtD Pk3 Pk4. -/
import Derived.Test.YtehmmnnmkapfeaaDoorKv3
import Derived.Test.YtehmmnnmkapfeaaDoorProg
import Derived.Test.YtehmmnnmkapfeaaDoorKv4
import Derived.Test.YtehmmnnmkapfeaaDoorKv9
import Derived.Test.YtehmmnnmkapfeaaDoorKv5
import Derived.Test.YtehmmnnmkapfeaaDoorKv10
import Derived.Test.YtehmmnnmkapfeaaDoorKv8
set_option linter.unusedSimpArgs false
set_option linter.unusedVariables false
set_option maxRecDepth 100000

/- Compiled code of some functions (printed by a program), each checked by the kernel. -/
namespace Go.Proofs.YtehmmnnmkapfeaaDoor
open Go
def c28 : C := (.seq (.ops false [oP 0 (.mv (cB false))]) (.seq (.ops false [oP 6 (.bld [(.v (.string ({ data := #[] }))), (.v (.int .i64 0)), (.v (.int .i64 0)), (.v (.int .i64 0)), (.v (.int .i64 0))] [(0, (1, (.c (.v (.string ({ data := #[112] })))))), (1, (1, (cI 800))), (2, (1, (cI 800))), (4, (1, (cI 1000)))]), oP 7 (.bsl 5 1 [(.v (.string ({ data := #[] }))), (.v (.int .i64 0)), (.v (.int .i64 0)),
 (.v (.int .i64 0)), (.v (.int .i64 0))] [(0, (.t 6))]), oP 8 (.bld [(.v (.int .i64 0)), (.v (.string ({ data := #[] }))), (.v (.int .i64 0)), (.v (.int .i64 0))] [(1, (1, (.c (.v (.string ({ data := #[115] }))))))]), oP 9 (.bsl 4 1 [(.v (.int .i64 0)), (.v (.string ({ data := #[] }))), (.v (.int .i64 0)), (.v (.int .i64 0))] [(0, (.t 8))]), oP 10 (.bld [(.v (.int .i64 0)), (.v (.int .i64 0))] [(1,
 (1, (cI 100)))]), oP 11 (.bsl 2 1 [(.v (.int .i64 0)), (.v (.int .i64 0))] [(0, (.t 10))]), oP 12 (.bld [(.v (.int .i64 0)), (.v (.int .i64 0))] [(0, (1, (cI 150)))]), oB 13 (.call 34 [(.t 7), (.t 9), (.t 11), (.t 12)]), oM 5 13, oP 14 (.ext (.t 5) 0), oP 15 (.ext (.t 5) 1), oM 1 14, oM 2 15]) (.seq (.ops false [oP 17 (.bsl 1 2 [(.v (.int .i64 0))] [(0, (cI 5)),
 (1, (cI 7))]), oP 18 (.bsl 1 2 [(.v (.int .i64 0))] [(0, (cI 6)), (1, (cI 9))]), oP 19 (.bsl 1 1 [(.v (.int .i64 0))] [(0, (cI 1))]), oB 20 (.call 38 [(.t 17), (.t 18), (.t 19)]), oM 16 20, oP 21 (.ext (.t 16) 0), oP 22 (.ext (.t 16) 1), oM 3 21, oM 4 22]) (.seq (.ops false [oM 23 2, oP 24 (.bin .eql (.t 23) (cI 0)), oM 25 24,
 oG 26 25 true (.mv (.t 4)), oG 27 25 true (.bin .eql (.t 26) (cI 0)), oP 28 (.pick (.t 25) (.t 27) (cB false)), oM 29 28, oG 30 29 true (.mv (.t 1)), oG 31 29 true (.bin .eql (.t 30) (cI 100)), oP 32 (.pick (.t 29) (.t 31) (cB false)), oM 33 32, oG 34 33 true (.mv (.t 3)), oG 35 33 true (.bin .eql (.t 34) (cI 2)), oP 36 (.pick (.t 33) (.t 35) (cB false)), oM 0 36])
 .ret))))
def r28 : List RV := [(.tmp 0)]
theorem c28_ok : ∃ code, Tryd.f28.body = some code ∧ compC Tryd.prog Tryd.f28.ntmps code = some (C.strip c28) := ⟨_, rfl, by kernel_rfl⟩
theorem r28_ok : compRes Tryd.prog Tryd.f28.results.toList = some r28 := by kernel_rfl
theorem f28_ok : fnOk Tryd.prog 28 = true := by kernel_rfl
def c34_1 : C := (.ops false [oP 58 (.bin .add (.t 29) (cI 1)), oM 29 58])
def c34_2 : C := (.seq (.block 1 (.seq (.ops false [oP 31 (.iaS 2 (.t 27) (.t 29)), oP 32 (.ld 2 true (.t 31)), oP 12 (.new [(.v (.int .i64 0)), (.v (.int .i64 0))]), oS (.st 2 (.t 12) (.t 32))]) (.seq (.ops false [oP 33 (.fa 0 (.t 12)), oP 34 (.ld 1 false (.t 33)), oM 35 1, oP 36 (.len (.t 35)), oP 37 (.bin .geq (.t 34) (.t 36)), oM 38 37, oG 39 38 false (.mv (.t 1)),
 oG 40 38 false (.fa 0 (.t 12)), oG 41 38 false (.ld 1 false (.t 40)), oG 42 38 false (.iaS 4 (.t 39) (.t 41)), oG 43 38 false (.fa 0 (.t 42)), oG 44 38 false (.ld 1 false (.t 43)), oG 45 38 false (.bin .lss (.t 44) (cI 0)), oP 46 (.pick (.t 38) (cB true) (.t 45)), oM 47 46, oG 48 47 false (.mv (.t 1)), oG 49 47 false (.fa 0 (.t 12)), oG 50 47 false (.ld 1 false (.t 49)),
 oG 51 47 false (.iaS 4 (.t 48) (.t 50)), oG 52 47 false (.fa 0 (.t 51)), oG 53 47 false (.ld 1 false (.t 52)), oG 54 47 false (.mv (.t 0)), oG 55 47 false (.len (.t 54)), oG 56 47 false (.bin .geq (.t 53) (.t 55)), oP 57 (.pick (.t 47) (cB true) (.t 56))]) (.cond (.t 57) (.seq (.ops false [oP 8 (.mv (cI 0)), oP 9 (.mv (cI 8))]) .ret) .skip)))) c34_1)
def c34_3 : C := (.seq (.ops false [oP 30 (.bin .lss (.t 29) (.t 28))]) (.seq (.cond (.t 30) .skip (.exit 0)) c34_2))
def c34_4 : C := (.ops false [oM 92 13, oM 93 18, oP 94 (.bsl 1 1 [(.v (.int .i64 0))] [(0, (.t 93))]), oP 95 (.app 1 8 (.t 92) (.t 94)), oM 13 95])
def c34_5 : C := (.seq (.ops false [oP 83 (.fa 1 (.t 15)), oP 84 (.ld 1 false (.t 83)), oM 85 16, oB 86 (.call 58 [(.t 84), (.t 85)]), oM 82 86, oP 87 (.ext (.t 82) 0), oP 88 (.ext (.t 82) 1), oM 18 87, oM 17 88]) (.seq (.seq (.ops false [oM 89 17, oP 90 (.bin .neq (.t 89) (cI 0))]) (.cond (.t 90) (.seq (.ops false [oM 91 17, oP 8 (.mv (cI 0)),
 oM 9 91]) .ret) .skip)) c34_4))
def c34_6 : C := (.ops false [oP 96 (.bin .add (.t 61) (cI 1)), oM 61 96])
def c34_7 : C := (.seq (.block 3 (.seq (.ops false [oP 63 (.iaS 2 (.t 59) (.t 61)), oP 64 (.ld 2 true (.t 63)), oP 15 (.new [(.v (.int .i64 0)), (.v (.int .i64 0))]), oS (.st 2 (.t 15) (.t 64))]) (.seq (.ops true [oM 66 0, oM 67 1, oP 68 (.fa 0 (.t 15)), oA 69 (.ld 1 false (.t 68)) [2], oA 70 (.iaS 4 (.t 67) (.t 69)) [2, 3, 1], oA 71 (.fa 0 (.t 70)) [1, 3, 2, 4], oA 72 (.ld 1 false (.t 71))
 [4, 2, 3, 1, 5], oA 73 (.iaS 5 (.t 66) (.t 72)) [5, 1, 3, 2, 4, 6, 0], oA 74 (.ld 5 true (.t 73)) [0, 6, 4, 2, 3, 1, 5, 7], oP 75 (.ld 2 true (.t 7)), oE 76 (.call 57 [(.t 74), (.t 75)]) [7, 5, 1, 3, 2, 4, 6, 0, 9, 8], oA 65 (.mv (.t 76)) [8, 9, 0, 6, 4, 2, 3, 1, 5, 7, 10], oA 77 (.ext (.t 65) 0) [10, 7, 5, 1, 3, 2, 4, 6, 0, 9, 8, 11], oA 78 (.ext (.t 65) 1) [10, 7, 5, 1, 3, 2, 4, 6, 0, 9, 8, 11],
 oA 16 (.mv (.t 77)) [11, 9, 8, 7, 6, 5, 4, 3, 2, 1, 0, 10, 12], oA 17 (.mv (.t 78)) [12, 11, 10, 9, 8, 7, 6, 5, 4, 3, 2, 1, 0, 14, 13]]) (.seq (.seq (.ops false [oM 79 17, oP 80 (.bin .neq (.t 79) (cI 0))]) (.cond (.t 80) (.seq (.ops false [oM 81 17, oP 8 (.mv (cI 0)), oM 9 81]) .ret) .skip)) c34_5)))) c34_6)
def c34_8 : C := (.seq (.ops false [oP 62 (.bin .lss (.t 61) (.t 60))]) (.seq (.cond (.t 62) .skip (.exit 2)) c34_7))
def c34_9 : C := (.seq (.ops false [oM 97 13, oB 98 (.call 68 [(.t 97)]), oM 8 98, oP 9 (.mv (cI 0))]) .ret)
def c34_10 : C := (.seq (.ops false [oP 13 (.mv (.c .mt))]) (.seq (.seq (.ops false [oM 59 2, oP 60 (.len (.t 59)), oP 61 (.mv (cI 0))]) (.block 2 (.loop c34_8))) c34_9))
def c34_11 : C := (.seq (.seq (.ops false [oM 27 2, oP 28 (.len (.t 27)), oP 29 (.mv (cI 0))]) (.block 0 (.loop c34_3))) c34_10)
def c34_12 : C := (.seq (.seq (.ops false [oM 24 2, oB 25 (.call 67 [(.t 24)]), oP 26 (.not (.t 25))]) (.cond (.t 26) (.seq (.ops false [oP 8 (.mv (cI 0)), oP 9 (.mv (cI 14))]) .ret) .skip)) c34_11)
def c34 : C := (.seq (.ops false [oP 7 (.box 2 (.t 3)), oP 8 (.mv (cI 0)), oP 9 (.mv (cI 0))]) (.seq (.seq (.ops false [oM 19 0, oB 20 (.call 66 [(.t 19)]), oM 10 20]) (.seq (.ops false [oM 21 10, oP 22 (.bin .neq (.t 21) (cI 0))]) (.cond (.t 22) (.seq (.ops false [oM 23 10, oP 8 (.mv (cI 0)), oM 9 23]) .ret) .skip))) c34_12))
def r34 : List RV := [(.tmp 8), (.tmp 9)]
theorem c34_ok : ∃ code, Tryd.f34.body = some code ∧ compC Tryd.prog Tryd.f34.ntmps code = some (C.strip c34) := ⟨_, rfl, by kernel_rfl⟩
theorem r34_ok : compRes Tryd.prog Tryd.f34.results.toList = some r34 := by kernel_rfl
theorem f34_ok : fnOk Tryd.prog 34 = true := by kernel_rfl
def c37_1 : C := (.seq (.block 2 (.seq (.ops false [oP 24 (.iaS 1 (.t 20) (.t 22)), oP 25 (.ld 1 false (.t 24)), oM 9 25]) (.ops false [oM 26 7, oP 27 (.ld 1 false (.t 2)), oM 28 9, oP 29 (.iaS 1 (.t 27) (.t 28)), oP 30 (.ld 1 false (.t 29)), oP 31 (.bsl 1 1 [(.v (.int .i64 0))] [(0, (.t 30))]), oP 32 (.app 1 8 (.t 26) (.t 31)), oM 7 32])))
 (.ops false [oP 33 (.bin .add (.t 22) (cI 1)), oM 22 33]))
def c37_2 : C := (.seq (.ops false [oP 23 (.bin .lss (.t 22) (.t 21))]) (.seq (.cond (.t 23) .skip (.exit 1)) c37_1))
def c37_3 : C := (.seq (.ops false [oM 34 7, oB 35 (.call 68 [(.t 34)]), oM 4 35, oP 5 (.mv (cI 0))]) .ret)
def c37_4 : C := (.seq (.seq (.ops false [oM 20 1, oP 21 (.len (.t 20)), oP 22 (.mv (cI 0))]) (.block 1 (.loop c37_2))) c37_3)
def c37_5 : C := (.seq (.ops false [oP 7 (.mv (.c .mt))]) (.seq (.seq (.ops false [oP 18 (.ld 1 false (.t 2)), oB 19 (.call 73 [(.t 18), (.c (.clo 75 [] []))])]) (.cond (.t 19) (.seq (.ops false [oP 4 (.mv (cI 0)), oP 5 (.mv (cI 1))]) .ret) .skip)) c37_4))
def c37_6 : C := (.seq (.ops false [oP 10 (.mkf 72 [] [(.t 2)]), oM 6 10]) (.seq (.block 0 (.seq (.ops false [oM 12 1, oM 13 6, oB 14 (.call 73 [(.t 12), (.t 13)]), oM 11 14]) (.cond (.t 11) (.seq (.ops false [oP 4 (.mv (cI 0)), oP 5 (.mv (cI 8))]) .ret) (.seq (.ops false [oM 16 1, oB 17 (.call 74 [(.t 16)]), oM 15 17]) (.cond (.t 15)
 (.seq (.ops false [oP 4 (.mv (cI 0)), oP 5 (.mv (cI 7))]) .ret) .skip))))) (.weak c37_5)))
def c37 : C := (.seq (.ops false [oP 2 (.box 1 (.t 0)), oP 4 (.mv (cI 0)), oP 5 (.mv (cI 0))]) (.weak c37_6))
def r37 : List RV := [(.tmp 4), (.tmp 5)]
theorem c37_ok : ∃ code, Tryd.f37.body = some code ∧ compC Tryd.prog Tryd.f37.ntmps code = some (C.strip c37) := ⟨_, rfl, by kernel_rfl⟩
theorem r37_ok : compRes Tryd.prog Tryd.f37.results.toList = some r37 := by kernel_rfl
theorem f37_ok : fnOk Tryd.prog 37 = true := by kernel_rfl
def c38_1 : C := (.seq (.ops false [oM 29 10, oM 30 8, oP 31 (.bin .sub (.t 29) (.t 30)), oM 6 31, oP 7 (.mv (cI 0))]) .ret)
def c38_2 : C := (.seq (.ops false [oM 21 1, oM 22 2, oB 23 (.call 37 [(.t 21), (.t 22)]), oM 20 23, oP 24 (.ext (.t 20) 0), oP 25 (.ext (.t 20) 1), oM 10 24, oM 9 25]) (.seq (.seq (.ops false [oM 26 9, oP 27 (.bin .neq (.t 26) (cI 0))]) (.cond (.t 27) (.seq (.ops false [oM 28 9, oP 6 (.mv (cI 0)), oM 7 28]) .ret) .skip))
 c38_1))
def c38 : C := (.seq (.ops false [oP 6 (.mv (cI 0)), oP 7 (.mv (cI 0))]) (.seq (.ops false [oM 12 0, oM 13 2, oB 14 (.call 37 [(.t 12), (.t 13)]), oM 11 14, oP 15 (.ext (.t 11) 0), oP 16 (.ext (.t 11) 1), oM 8 15, oM 9 16]) (.seq (.seq (.ops false [oM 17 9, oP 18 (.bin .neq (.t 17) (cI 0))]) (.cond (.t 18) (.seq (.ops false [oM 19 9,
 oP 6 (.mv (cI 0)), oM 7 19]) .ret) .skip)) c38_2)))
def r38 : List RV := [(.tmp 6), (.tmp 7)]
theorem c38_ok : ∃ code, Tryd.f38.body = some code ∧ compC Tryd.prog Tryd.f38.ntmps code = some (C.strip c38) := ⟨_, rfl, by kernel_rfl⟩
theorem r38_ok : compRes Tryd.prog Tryd.f38.results.toList = some r38 := by kernel_rfl
theorem f38_ok : fnOk Tryd.prog 38 = true := by kernel_rfl
def c42_1 : C := (.ops false [oM 58 13, oM 59 16, oP 60 (.bsl 1 1 [(.v (.int .i64 0))] [(0, (.t 59))]), oP 61 (.app 1 8 (.t 58) (.t 60)), oM 13 61])
def c42_2 : C := (.ops false [oP 62 (.bin .add (.t 39) (cI 1)), oM 39 62])
def c42_3 : C := (.seq (.block 2 (.seq (.ops false [oM 41 39, oP 42 (.iaS 1 (.t 37) (.t 39)), oP 43 (.ld 1 false (.t 42)), oM 14 41, oM 15 43]) (.seq (.ops false [oM 45 1, oM 46 2, oM 47 15, oM 48 4, oM 49 14, oP 50 (.iaS 2 (.t 48) (.t 49)), oP 51 (.ld 2 true (.t 50)), oB 52 (.call 34 [(.t 45), (.t 46), (.t 47), (.t 51)]),
 oM 44 52, oP 53 (.ext (.t 44) 0), oP 54 (.ext (.t 44) 1), oM 16 53, oM 17 54]) (.seq (.seq (.ops false [oM 55 17, oP 56 (.bin .neq (.t 55) (cI 0))]) (.cond (.t 56) (.seq (.ops false [oM 57 17, oP 10 (.mv (.c .mt)), oM 11 57]) .ret) .skip)) c42_1)))) c42_2)
def c42_4 : C := (.seq (.ops false [oP 40 (.bin .lss (.t 39) (.t 38))]) (.seq (.cond (.t 40) .skip (.exit 1)) c42_3))
def c42_5 : C := (.seq (.ops false [oM 63 13, oM 10 63, oP 11 (.mv (cI 0))]) .ret)
def c42_6 : C := (.seq (.ops false [oP 13 (.mv (.c .mt))]) (.seq (.seq (.ops false [oM 37 3, oP 38 (.len (.t 37)), oP 39 (.mv (cI 0))]) (.block 1 (.loop c42_4))) c42_5))
def c42_7 : C := (.seq (.block 0 (.seq (.ops false [oM 24 3, oP 25 (.len (.t 24)), oP 26 (.fa 1 (.t 5)), oP 27 (.ld 1 false (.t 26)), oP 28 (.len (.t 27)), oP 29 (.bin .neq (.t 25) (.t 28)), oM 23 29]) (.cond (.t 23) (.seq (.ops false [oP 10 (.mv (.c .mt)), oP 11 (.mv (cI 14))]) .ret) (.seq (.ops false [oM 31 4, oP 32 (.len (.t 31)), oP 33 (.fa 1 (.t 5)),
 oP 34 (.ld 1 false (.t 33)), oP 35 (.len (.t 34)), oP 36 (.bin .neq (.t 32) (.t 35)), oM 30 36]) (.cond (.t 30) (.seq (.ops false [oP 10 (.mv (.c .mt)), oP 11 (.mv (cI 9))]) .ret) .skip))))) c42_6)
def c42 : C := (.seq (.ops false [oP 5 (.box 6 (.t 0)), oP 10 (.mv (.c .mt)), oP 11 (.mv (cI 0))]) (.seq (.seq (.ops false [oP 18 (.ld 6 true (.t 5)), oB 19 (.call 77 [(.t 18)]), oM 12 19]) (.seq (.ops false [oM 20 12, oP 21 (.bin .neq (.t 20) (cI 0))]) (.cond (.t 21) (.seq (.ops false [oM 22 12, oP 10 (.mv (.c .mt)), oM 11 22]) .ret) .skip))) c42_7))
def r42 : List RV := [(.tmp 10), (.tmp 11)]
theorem c42_ok : ∃ code, Tryd.f42.body = some code ∧ compC Tryd.prog Tryd.f42.ntmps code = some (C.strip c42) := ⟨_, rfl, by kernel_rfl⟩
theorem r42_ok : compRes Tryd.prog Tryd.f42.results.toList = some r42 := by kernel_rfl
theorem f42_ok : fnOk Tryd.prog 42 = true := by kernel_rfl
def c66_1 : C := (.ops false [oP 19 (.bin .add (.t 12) (cI 1)), oM 12 19])
def c66_2 : C := (.seq (.block 1 (.seq (.ops false [oP 14 (.iaS 5 (.t 10) (.t 12)), oP 15 (.ld 5 true (.t 14)), oP 4 (.new [(.v (.string ({ data := #[] }))), (.v (.int .i64 0)), (.v (.int .i64 0)), (.v (.int .i64 0)), (.v (.int .i64 0))]), oS (.st 5 (.t 4) (.t 15))]) (.seq (.ops false [oP 16 (.ld 5 true (.t 4)), oB 17 (.call 91 [(.t 16)]), oP 18 (.not (.t 17))]) (.cond (.t 18)
 (.seq (.ops false [oP 2 (.mv (cI 9))]) .ret) .skip)))) c66_1)
def c66_3 : C := (.seq (.ops false [oP 13 (.bin .lss (.t 12) (.t 11))]) (.seq (.cond (.t 13) .skip (.exit 0)) c66_2))
def c66_4 : C := (.ops false [oP 33 (.bin .add (.t 22) (cI 1)), oM 22 33])
def c66_5 : C := (.seq (.block 3 (.seq (.ops false [oM 24 22, oP 25 (.iaS 5 (.t 20) (.t 22)), oP 26 (.ld 5 true (.t 25)), oP 6 (.new [(.v (.string ({ data := #[] }))), (.v (.int .i64 0)), (.v (.int .i64 0)), (.v (.int .i64 0)), (.v (.int .i64 0))]), oM 5 24, oS (.st 5 (.t 6) (.t 26))]) (.seq (.ops false [oM 27 0, oP 28 (.fa 0 (.t 6)), oP 29 (.ld 1 false (.t 28)),
 oB 30 (.call 102 [(.t 27), (.t 29)]), oM 31 5, oP 32 (.bin .lss (.t 30) (.t 31))]) (.cond (.t 32) (.seq (.ops false [oP 2 (.mv (cI 7))]) .ret) .skip)))) c66_4)
def c66_6 : C := (.seq (.ops false [oP 23 (.bin .lss (.t 22) (.t 21))]) (.seq (.cond (.t 23) .skip (.exit 2)) c66_5))
def c66_7 : C := (.seq (.ops false [oP 2 (.mv (cI 0))]) .ret)
def c66_8 : C := (.seq (.seq (.ops false [oM 20 0, oP 21 (.len (.t 20)), oP 22 (.mv (cI 0))]) (.block 2 (.loop c66_6))) c66_7)
def c66_9 : C := (.seq (.seq (.ops false [oM 10 0, oP 11 (.len (.t 10)), oP 12 (.mv (cI 0))]) (.block 0 (.loop c66_3))) c66_8)
def c66 : C := (.seq (.ops false [oP 2 (.mv (cI 0))]) (.seq (.seq (.ops false [oM 7 0, oP 8 (.len (.t 7)), oP 9 (.bin .gtr (.t 8) (cI 16))]) (.cond (.t 9) (.seq (.ops false [oP 2 (.mv (cI 4))]) .ret) .skip)) c66_9))
def r66 : List RV := [(.tmp 2)]
theorem c66_ok : ∃ code, Tryd.f66.body = some code ∧ compC Tryd.prog Tryd.f66.ntmps code = some (C.strip c66) := ⟨_, rfl, by kernel_rfl⟩
theorem r66_ok : compRes Tryd.prog Tryd.f66.results.toList = some r66 := by kernel_rfl
theorem f66_ok : fnOk Tryd.prog 66 = true := by kernel_rfl
def c67_1 : C := (.ops false [oP 38 (.bin .add (.t 10) (cI 1)), oM 10 38])
def c67_2 : C := (.seq (.block 1 (.seq (.ops false [oM 12 10, oP 13 (.iaS 2 (.t 8) (.t 10)), oP 14 (.ld 2 true (.t 13)), oP 4 (.new [(.v (.int .i64 0)), (.v (.int .i64 0))]), oM 3 12, oS (.st 2 (.t 4) (.t 14))]) (.seq (.ops true [oP 15 (.ld 2 true (.t 4)), oE 16 (.call 103 [(.t 15)]) [0], oA 17 (.not (.t 16)) [0, 1], oA 18 (.mv (.t 17)) [0, 1, 2], oH 19 18 false (.fa 1 (.t 4)) [2, 1, 0, 3],
 oH 20 18 false (.ld 1 false (.t 19)) [0, 1, 2, 3, 4], oH 21 18 false (.bin .eql (.t 20) (cI 0)) [4, 2, 1, 0, 3, 5], oA 22 (.pick (.t 18) (cB true) (.t 21)) [5, 4, 2, 1, 0, 6, 3], oA 23 (.mv (.t 22)) [6, 0, 1, 2, 4, 5, 3, 7], oH 24 23 false (.mv (.t 3)) [7, 3, 5, 4, 2, 1, 0, 6, 8], oH 25 23 false (.bin .gtr (.t 24) (cI 0)) [6, 0, 1, 2, 4, 5, 3, 7, 8, 9], oH 26 23 false (.mv (.t 25)) [9, 7, 3, 5, 4,
 2, 1, 0, 6, 8, 10], oH 27 26 true (.mv (.t 0)) [10, 8, 6, 0, 1, 2, 4, 5, 3, 7, 9, 11], oH 28 26 true (.mv (.t 3)) [10, 8, 6, 0, 1, 2, 4, 5, 3, 7, 9, 11], oH 29 26 true (.bin .sub (.t 28) (cI 1)) [9, 7, 3, 5, 4, 2, 1, 0, 6, 8, 10, 11, 13], oH 30 26 true (.iaS 2 (.t 27) (.t 29)) [13, 9, 7, 3, 5, 4, 2, 1, 0, 6, 8, 10, 11, 14, 12], oH 31 26 true (.fa 0 (.t 30)) [12, 14, 10, 8, 6, 0, 1, 2, 4, 5, 3, 7,
 9, 13, 11, 15], oH 32 26 true (.ld 1 false (.t 31)) [15, 13, 9, 7, 3, 5, 4, 2, 1, 0, 6, 8, 10, 14, 12, 11, 16], oH 33 26 true (.fa 0 (.t 4)) [10, 8, 6, 0, 1, 2, 4, 5, 3, 7, 9, 11], oH 34 26 true (.ld 1 false (.t 33)) [9, 7, 3, 5, 4, 2, 1, 0, 6, 8, 10, 11, 18], oH 35 26 true (.bin .eql (.t 32) (.t 34)) [18, 16, 12, 14, 10, 8, 6, 0, 1, 2, 4, 5, 3, 7, 9, 13, 15, 11, 19, 17],
 oH 36 23 false (.pick (.t 26) (.t 35) (cB false)) [17, 19, 15, 13, 14, 12, 16, 18, 10, 6, 0, 1, 2, 4, 5, 3, 7, 9, 8, 20, 11], oA 37 (.pick (.t 23) (cB true) (.t 36)) [11, 20, 9, 10, 18, 16, 12, 14, 13, 15, 19, 17, 7, 3, 5, 4, 2, 1, 0, 6, 21, 8]]) (.cond (.t 37) (.seq (.ops false [oP 2 (.mv (cB false))]) .ret) .skip)))) c67_1)
def c67_3 : C := (.seq (.ops false [oP 11 (.bin .lss (.t 10) (.t 9))]) (.seq (.cond (.t 11) .skip (.exit 0)) c67_2))
def c67_4 : C := (.seq (.ops false [oM 39 0, oB 40 (.call 104 [(.t 39)]), oP 41 (.bin .leq (.t 40) (cI 1000000)), oM 2 41]) .ret)
def c67_5 : C := (.seq (.seq (.ops false [oM 8 0, oP 9 (.len (.t 8)), oP 10 (.mv (cI 0))]) (.block 0 (.loop c67_3))) c67_4)
def c67 : C := (.seq (.ops false [oP 2 (.mv (cB false))]) (.seq (.seq (.ops false [oM 5 0, oP 6 (.len (.t 5)), oP 7 (.bin .gtr (.t 6) (cI 200))]) (.cond (.t 7) (.seq (.ops false [oP 2 (.mv (cB false))]) .ret) .skip)) c67_5))
def r67 : List RV := [(.tmp 2)]
theorem c67_ok : ∃ code, Tryd.f67.body = some code ∧ compC Tryd.prog Tryd.f67.ntmps code = some (C.strip c67) := ⟨_, rfl, by kernel_rfl⟩
theorem r67_ok : compRes Tryd.prog Tryd.f67.results.toList = some r67 := by kernel_rfl
theorem f67_ok : fnOk Tryd.prog 67 = true := by kernel_rfl
def c68_1 : C := (.seq (.block 1 (.seq (.ops false [oP 10 (.iaS 1 (.t 6) (.t 8)), oP 11 (.ld 1 false (.t 10)), oM 5 11]) (.ops false [oM 12 3, oM 13 5, oP 14 (.bin .add (.t 12) (.t 13)), oM 3 14]))) (.ops false [oP 15 (.bin .add (.t 8) (cI 1)), oM 8 15]))
def c68_2 : C := (.seq (.ops false [oP 9 (.bin .lss (.t 8) (.t 7))]) (.seq (.cond (.t 9) .skip (.exit 0)) c68_1))
def c68_3 : C := (.seq (.ops false [oM 16 3, oM 2 16]) .ret)
def c68 : C := (.seq (.ops false [oP 2 (.mv (cI 0))]) (.seq (.ops false [oP 3 (.mv (cI 0))]) (.seq (.seq (.ops false [oM 6 0, oP 7 (.len (.t 6)), oP 8 (.mv (cI 0))]) (.block 0 (.loop c68_2))) c68_3)))
def r68 : List RV := [(.tmp 2)]
theorem c68_ok : ∃ code, Tryd.f68.body = some code ∧ compC Tryd.prog Tryd.f68.ntmps code = some (C.strip c68) := ⟨_, rfl, by kernel_rfl⟩
theorem r68_ok : compRes Tryd.prog Tryd.f68.results.toList = some r68 := by kernel_rfl
theorem f68_ok : fnOk Tryd.prog 68 = true := by kernel_rfl
def c70_1 : C := (.ops false [oM 45 3, oP 46 (.fa 1 (.t 5)), oP 47 (.ld 1 false (.t 46)), oP 48 (.bin .add (.t 45) (.t 47)), oM 3 48])
def c70_2 : C := (.ops false [oP 49 (.bin .add (.t 11) (cI 1)), oM 11 49])
def c70_3 : C := (.seq (.block 1 (.seq (.ops false [oM 13 11, oP 14 (.iaS 2 (.t 9) (.t 11)), oP 15 (.ld 2 true (.t 14)), oP 5 (.new [(.v (.int .i64 0)), (.v (.int .i64 0))]), oM 4 13, oS (.st 2 (.t 5) (.t 15))]) (.seq (.seq (.ops true [oP 16 (.fa 0 (.t 5)), oA 17 (.ld 1 false (.t 16)) [0], oE 18 (.call 107 [(.t 17)]) [0, 1], oA 19 (.not (.t 18)) [1, 0, 2], oA 20 (.mv (.t 19)) [0, 1, 2, 3],
 oH 21 20 false (.fa 1 (.t 5)) [3, 2, 1, 0, 4], oH 22 20 false (.ld 1 false (.t 21)) [0, 1, 2, 3, 4, 5], oH 23 20 false (.bin .lss (.t 22) (cI 1)) [5, 3, 2, 1, 0, 4, 6], oA 24 (.pick (.t 20) (cB true) (.t 23)) [6, 5, 3, 2, 1, 0, 7, 4], oA 25 (.mv (.t 24)) [7, 0, 1, 2, 3, 5, 6, 4, 8], oH 26 25 false (.fa 1 (.t 5)) [8, 4, 6, 5, 3, 2, 1, 0, 7, 9], oH 27 25 false (.ld 1 false (.t 26)) [7, 0, 1, 2, 3,
 5, 6, 4, 8, 9, 10], oH 28 25 false (.bin .gtr (.t 27) (cI 1000000)) [10, 8, 4, 6, 5, 3, 2, 1, 0, 7, 9, 11], oA 29 (.pick (.t 25) (cB true) (.t 28)) [11, 10, 8, 4, 6, 5, 3, 2, 1, 0, 7, 12, 9], oA 30 (.mv (.t 29)) [12, 7, 0, 1, 2, 3, 5, 6, 4, 8, 10, 11, 9, 13], oH 31 30 false (.mv (.t 4)) [13, 9, 11, 10, 8, 4, 6, 5, 3, 2, 1, 0, 7, 12, 14], oH 32 30 false (.bin .gtr (.t 31) (cI 0)) [12, 7, 0, 1, 2,
 3, 5, 6, 4, 8, 10, 11, 9, 13, 14, 15], oH 33 30 false (.mv (.t 32)) [15, 13, 9, 11, 10, 8, 4, 6, 5, 3, 2, 1, 0, 7, 12, 14, 16], oH 34 33 true (.fa 0 (.t 5)) [16, 14, 12, 7, 0, 1, 2, 3, 5, 6, 4, 8, 10, 11, 9, 13, 15, 17], oH 35 33 true (.ld 1 false (.t 34)) [15, 13, 9, 11, 10, 8, 4, 6, 5, 3, 2, 1, 0, 7, 12, 14, 16, 17, 18], oH 36 33 true (.mv (.t 0)) [16, 14, 12, 7, 0, 1, 2, 3, 5, 6, 4, 8, 10, 11,
 9, 13, 15, 17], oH 37 33 true (.mv (.t 4)) [16, 14, 12, 7, 0, 1, 2, 3, 5, 6, 4, 8, 10, 11, 9, 13, 15, 17], oH 38 33 true (.bin .sub (.t 37) (cI 1)) [15, 13, 9, 11, 10, 8, 4, 6, 5, 3, 2, 1, 0, 7, 12, 14, 16, 17, 21], oH 39 33 true (.iaS 2 (.t 36) (.t 38)) [21, 15, 13, 9, 11, 10, 8, 4, 6, 5, 3, 2, 1, 0, 7, 12, 14, 16, 17, 22, 20], oH 40 33 true (.fa 0 (.t 39)) [20, 22, 16, 14, 12, 7, 0, 1, 2, 3, 5,
 6, 4, 8, 10, 11, 9, 13, 15, 21, 17, 23], oH 41 33 true (.ld 1 false (.t 40)) [23, 21, 15, 13, 9, 11, 10, 8, 4, 6, 5, 3, 2, 1, 0, 7, 12, 14, 16, 22, 20, 17, 24], oH 42 33 true (.bin .eql (.t 35) (.t 41)) [24, 20, 22, 21, 23, 18, 16, 14, 12, 7, 0, 1, 2, 3, 5, 6, 4, 8, 10, 11, 9, 13, 15, 17, 25, 19], oH 43 30 false (.pick (.t 33) (.t 42) (cB false)) [19, 25, 18, 23, 21, 22, 20, 24, 16, 12, 7, 0, 1,
 2, 3, 5, 6, 4, 8, 10, 11, 9, 13, 15, 14, 26, 17], oA 44 (.pick (.t 30) (cB true) (.t 43)) [17, 26, 15, 16, 24, 20, 22, 21, 23, 18, 25, 19, 13, 9, 11, 10, 8, 4, 6, 5, 3, 2, 1, 0, 7, 12, 27, 14]]) (.cond (.t 44) (.seq (.ops false [oP 2 (.mv (cB false))]) .ret) .skip)) c70_1))) c70_2)
def c70_4 : C := (.seq (.ops false [oP 12 (.bin .lss (.t 11) (.t 10))]) (.seq (.cond (.t 12) .skip (.exit 0)) c70_3))
def c70_5 : C := (.seq (.ops false [oM 50 3, oP 51 (.bin .leq (.t 50) (cI 1000000)), oM 2 51]) .ret)
def c70_6 : C := (.seq (.ops false [oP 3 (.mv (cI 0))]) (.seq (.seq (.ops false [oM 9 0, oP 10 (.len (.t 9)), oP 11 (.mv (cI 0))]) (.block 0 (.loop c70_4))) c70_5))
def c70 : C := (.seq (.ops false [oP 2 (.mv (cB false))]) (.seq (.seq (.ops false [oM 6 0, oP 7 (.len (.t 6)), oP 8 (.bin .gtr (.t 7) (cI 200))]) (.cond (.t 8) (.seq (.ops false [oP 2 (.mv (cB false))]) .ret) .skip)) c70_6))
def r70 : List RV := [(.tmp 2)]
theorem c70_ok : ∃ code, Tryd.f70.body = some code ∧ compC Tryd.prog Tryd.f70.ntmps code = some (C.strip c70) := ⟨_, rfl, by kernel_rfl⟩
theorem r70_ok : compRes Tryd.prog Tryd.f70.results.toList = some r70 := by kernel_rfl
theorem f70_ok : fnOk Tryd.prog 70 = true := by kernel_rfl
def c71_1 : C := (.seq (.block 1 (.seq (.ops false [oM 9 7, oM 4 9]) (.ops false [oM 10 3, oM 11 0, oM 12 4, oP 13 (.iaS 2 (.t 11) (.t 12)), oP 14 (.fa 1 (.t 13)), oP 15 (.ld 1 false (.t 14)), oP 16 (.bin .add (.t 10) (.t 15)), oM 3 16]))) (.ops false [oP 17 (.bin .add (.t 7) (cI 1)), oM 7 17]))
def c71_2 : C := (.seq (.ops false [oP 8 (.bin .lss (.t 7) (.t 6))]) (.seq (.cond (.t 8) .skip (.exit 0)) c71_1))
def c71_3 : C := (.seq (.ops false [oM 18 3, oM 2 18]) .ret)
def c71 : C := (.seq (.ops false [oP 2 (.mv (cI 0))]) (.seq (.ops false [oP 3 (.mv (cI 0))]) (.seq (.seq (.ops false [oM 5 0, oP 6 (.len (.t 5)), oP 7 (.mv (cI 0))]) (.block 0 (.loop c71_2))) c71_3)))
def r71 : List RV := [(.tmp 2)]
theorem c71_ok : ∃ code, Tryd.f71.body = some code ∧ compC Tryd.prog Tryd.f71.ntmps code = some (C.strip c71) := ⟨_, rfl, by kernel_rfl⟩
theorem r71_ok : compRes Tryd.prog Tryd.f71.results.toList = some r71 := by kernel_rfl
theorem f71_ok : fnOk Tryd.prog 71 = true := by kernel_rfl
def c72 : C := (.seq (.ops false [oP 3 (.mv (cB false))]) (.seq (.ops false [oM 4 0, oP 5 (.bin .lss (.t 4) (cI 0)), oM 6 5, oG 7 6 false (.mv (.t 0)), oG 8 6 false (.ld 1 false (.t 1)), oG 9 6 false (.len (.t 8)), oG 10 6 false (.bin .geq (.t 7) (.t 9)), oP 11 (.pick (.t 6) (cB true) (.t 10)), oM 3 11]) .ret))
def r72 : List RV := [(.tmp 3)]
theorem c72_ok : ∃ code, Tryd.f72.body = some code ∧ compC Tryd.prog Tryd.f72.ntmps code = some (C.strip c72) := ⟨_, rfl, by kernel_rfl⟩
theorem r72_ok : compRes Tryd.prog Tryd.f72.results.toList = some r72 := by kernel_rfl
theorem f72_ok : fnOk Tryd.prog 72 = true := by kernel_rfl
def c75 : C := (.seq (.ops false [oP 2 (.mv (cB false))]) (.seq (.ops false [oM 3 0, oP 4 (.bin .lss (.t 3) (cI 0)), oM 5 4, oG 6 5 false (.mv (.t 0)), oG 7 5 false (.bin .gtr (.t 6) (cI 1099511627776)), oP 8 (.pick (.t 5) (cB true) (.t 7)), oM 2 8]) .ret))
def r75 : List RV := [(.tmp 2)]
theorem c75_ok : ∃ code, Tryd.f75.body = some code ∧ compC Tryd.prog Tryd.f75.ntmps code = some (C.strip c75) := ⟨_, rfl, by kernel_rfl⟩
theorem r75_ok : compRes Tryd.prog Tryd.f75.results.toList = some r75 := by kernel_rfl
theorem f75_ok : fnOk Tryd.prog 75 = true := by kernel_rfl
def c102_1 : C := (.seq (.ops false [oM 5 0, oP 6 (.mkf 133 [] [(.t 3)]), oB 7 (.call 132 [(.t 5), (.t 6)]), oM 4 7]) .ret)
def c102 : C := (.seq (.ops false [oP 3 (.box 1 (.t 1)), oP 4 (.mv (cI 0))]) (.weak c102_1))
def r102 : List RV := [(.tmp 4)]
theorem c102_ok : ∃ code, Tryd.f102.body = some code ∧ compC Tryd.prog Tryd.f102.ntmps code = some (C.strip c102) := ⟨_, rfl, by kernel_rfl⟩
theorem r102_ok : compRes Tryd.prog Tryd.f102.results.toList = some r102 := by kernel_rfl
theorem f102_ok : fnOk Tryd.prog 102 = true := by kernel_rfl
def c103 : C := (.seq (.ops false [oP 1 (.box 2 (.t 0)), oP 2 (.mv (cB false))]) (.seq (.ops false [oP 3 (.fa 0 (.t 1)), oP 4 (.ld 1 false (.t 3)), oP 5 (.bin .geq (.t 4) (cI 0)), oM 6 5, oG 7 6 true (.fa 0 (.t 1)), oG 8 6 true (.ld 1 false (.t 7)), oG 9 6 true (.bin .lss (.t 8) (cI 1000)), oP 10 (.pick (.t 6) (.t 9) (cB false)), oM 11 10, oG 12 11 true (.fa 1 (.t 1)),
 oG 13 11 true (.ld 1 false (.t 12)), oG 14 11 true (.bin .geq (.t 13) (cI 0)), oP 15 (.pick (.t 11) (.t 14) (cB false)), oM 16 15, oG 17 16 true (.fa 1 (.t 1)), oG 18 16 true (.ld 1 false (.t 17)), oG 19 16 true (.bin .leq (.t 18) (cI 1000000)), oP 20 (.pick (.t 16) (.t 19) (cB false)), oM 2 20]) .ret))
def r103 : List RV := [(.tmp 2)]
theorem c103_ok : ∃ code, Tryd.f103.body = some code ∧ compC Tryd.prog Tryd.f103.ntmps code = some (C.strip c103) := ⟨_, rfl, by kernel_rfl⟩
theorem r103_ok : compRes Tryd.prog Tryd.f103.results.toList = some r103 := by kernel_rfl
theorem f103_ok : fnOk Tryd.prog 103 = true := by kernel_rfl
def c104_1 : C := (.seq (.block 1 (.seq (.ops false [oP 10 (.iaS 2 (.t 6) (.t 8)), oP 11 (.ld 2 true (.t 10)), oP 5 (.new [(.v (.int .i64 0)), (.v (.int .i64 0))]), oS (.st 2 (.t 5) (.t 11))]) (.ops false [oM 12 3, oP 13 (.fa 1 (.t 5)), oP 14 (.ld 1 false (.t 13)), oP 15 (.bin .add (.t 12) (.t 14)), oM 3 15]))) (.ops false [oP 16 (.bin .add (.t 8) (cI 1)), oM 8 16]))
def c104_2 : C := (.seq (.ops false [oP 9 (.bin .lss (.t 8) (.t 7))]) (.seq (.cond (.t 9) .skip (.exit 0)) c104_1))
def c104_3 : C := (.seq (.ops false [oM 17 3, oM 2 17]) .ret)
def c104 : C := (.seq (.ops false [oP 2 (.mv (cI 0))]) (.seq (.ops false [oP 3 (.mv (cI 0))]) (.seq (.seq (.ops false [oM 6 0, oP 7 (.len (.t 6)), oP 8 (.mv (cI 0))]) (.block 0 (.loop c104_2))) c104_3)))
def r104 : List RV := [(.tmp 2)]
theorem c104_ok : ∃ code, Tryd.f104.body = some code ∧ compC Tryd.prog Tryd.f104.ntmps code = some (C.strip c104) := ⟨_, rfl, by kernel_rfl⟩
theorem r104_ok : compRes Tryd.prog Tryd.f104.results.toList = some r104 := by kernel_rfl
theorem f104_ok : fnOk Tryd.prog 104 = true := by kernel_rfl
def c107 : C := (.seq (.ops false [oP 2 (.mv (cB false))]) (.seq (.ops false [oM 3 0, oP 4 (.bin .geq (.t 3) (cI 0)), oM 5 4, oG 6 5 true (.mv (.t 0)), oG 7 5 true (.bin .lss (.t 6) (cI 1000)), oP 8 (.pick (.t 5) (.t 7) (cB false)), oM 2 8]) .ret))
def r107 : List RV := [(.tmp 2)]
theorem c107_ok : ∃ code, Tryd.f107.body = some code ∧ compC Tryd.prog Tryd.f107.ntmps code = some (C.strip c107) := ⟨_, rfl, by kernel_rfl⟩
theorem r107_ok : compRes Tryd.prog Tryd.f107.results.toList = some r107 := by kernel_rfl
theorem f107_ok : fnOk Tryd.prog 107 = true := by kernel_rfl
def c132_1 : C := (.ops false [oP 18 (.bin .add (.t 8) (cI 1)), oM 8 18])
def c132_2 : C := (.seq (.block 1 (.seq (.ops false [oM 10 8, oM 5 10]) (.seq (.ops false [oM 11 1, oM 12 0, oM 13 5, oP 14 (.iaS 5 (.t 12) (.t 13)), oP 15 (.ld 5 true (.t 14)), oP 16 (.callv (.t 11) [(.t 15)])]) (.cond (.t 16) (.seq (.ops false [oM 17 5, oM 4 17]) .ret) .skip)))) c132_1)
def c132_3 : C := (.seq (.ops false [oP 9 (.bin .lss (.t 8) (.t 7))]) (.seq (.cond (.t 9) .skip (.exit 0)) c132_2))
def c132_4 : C := (.seq (.ops false [oP 4 (.mv (cI (-1)))]) .ret)
def c132 : C := (.seq (.ops false [oP 4 (.mv (cI 0))]) (.seq (.seq (.ops false [oM 6 0, oP 7 (.len (.t 6)), oP 8 (.mv (cI 0))]) (.block 0 (.loop c132_3))) c132_4))
def r132 : List RV := [(.tmp 4)]
theorem c132_ok : ∃ code, Tryd.f132.body = some code ∧ compC Tryd.prog Tryd.f132.ntmps code = some (C.strip c132) := ⟨_, rfl, by kernel_rfl⟩
theorem r132_ok : compRes Tryd.prog Tryd.f132.results.toList = some r132 := by kernel_rfl
theorem f132_ok : fnOk Tryd.prog 132 = true := by kernel_rfl
def c133 : C := (.seq (.ops false [oP 2 (.box 5 (.t 0)), oP 3 (.mv (cB false))]) (.seq (.ops false [oP 4 (.fa 0 (.t 2)), oP 5 (.ld 1 false (.t 4)), oP 6 (.ld 1 false (.t 1)), oP 7 (.bin .eql (.t 5) (.t 6)), oM 3 7]) .ret))
def r133 : List RV := [(.tmp 3)]
theorem c133_ok : ∃ code, Tryd.f133.body = some code ∧ compC Tryd.prog Tryd.f133.ntmps code = some (C.strip c133) := ⟨_, rfl, by kernel_rfl⟩
theorem r133_ok : compRes Tryd.prog Tryd.f133.results.toList = some r133 := by kernel_rfl
theorem f133_ok : fnOk Tryd.prog 133 = true := by kernel_rfl
def iR (n : Int) : List D := [di n]
theorem intsOf_iR (l : List Int) : intsOf (l.map iR) = some l := intsOf_map l
theorem intsOf_eqR {l : List (List D)} {ns : List Int} (h : intsOf l = some ns) : l = ns.map iR := intsOf_eq h
def sumW : List Int → Int → Int
 | [], s => s
 | x :: l, s => sumW l (IntKind.i64.wrap (s + x))
def iA (l : List Int) (j : Nat) : Int := l.getD j 0
theorem i_get {l : List Int} {j : Nat} (h : j < l.length) : (l.map iR).getD j [] = [di (iA l j)] := by
 unfold iA
 rw [List.getD_eq_getElem?_getD, List.getElem?_map, List.getD_eq_getElem?_getD, List.getElem?_eq_getElem h]
 rfl
theorem i_drop {l : List Int} {j : Nat} (h : j < l.length) : l.drop j = iA l j :: l.drop (j + 1) := by
 rw [List.drop_eq_getElem_cons h]
 congr 1
 unfold iA
 rw [List.getD_eq_getElem?_getD, List.getElem?_eq_getElem h]
 rfl
theorem i_take {l : List Int} {j : Nat} (h : j < l.length) : l.take (j + 1) = l.take j ++ [iA l j] := by
 rw [List.take_add_one, List.getElem?_eq_getElem h]
 unfold iA
 rw [List.getD_eq_getElem?_getD, List.getElem?_eq_getElem h]
 rfl
theorem i_pl (l : List Int) : ∀ j : Int, j ∈ l → ∀ d : D, d ∈ iR j → d.plain = true := fun j _ d hd => by
 unfold iR at hd
 rw [List.mem_singleton.1 hd]
 rfl
def SuF (l : List Int) (s : Int) (j : Int) : List (Nat × D) := [(3, di s), (6, .sl (l.map iR)), (7, di l.length), (8, di j)]
set_option maxHeartbeats 4000000 in
theorem psum_c (l : List Int) (hl : l.length ≤ 1000000) (nn : Nm) : CallsA Tryd.prog 68 [.sl (l.map iR)] Hp.none nn (Pu (di (sumW l 0)) Hp.none) := by
 obtain ⟨code, h1, h2⟩ := c68_ok
 refine callsA_of (T0_ok _) mixed (N := fun t => (0, t)) Tryd.func68 h1 h2 r68_ok [] false js_nil js_nil' (by simp [Tryd.f68]) ?_
 generalize hX : sumW l 0 = X
 simp (maxSteps:=500000) only [↓vp, vv, ↓reduceIte, simprocAttr, c68, r68, c68_1, c68_2, c68_3]
 refine rng_loopP l.length (fun j (s : Int) => ⟨fr (SuF l s (j : Nat)), Hp.none⟩) (fun j s => sumW (l.drop j) s = X) (u0 := 0) (weak0 (by simp only [↓vp, vv, ↓reduceIte, simprocAttr, coverS, SuF]) (by simp only [↓vp, vv, ↓reduceIte, simprocAttr, refsF, SuF])) hX (fun j hj s hP => ?_) (fun s hP => ?_)
 ·have hj' : (j : Int) < l.length := by omega
  have w1 := idx_next (j := j) (by omega)
  have g1 := i_get hj
  have nx := hP
  rw [i_drop hj, sumW] at nx
  simp (maxSteps:=500000) only [↓vp, vv, ↓reduceIte, simprocAttr, c68, r68, c68_1, c68_2, c68_3, SuF, hj', hj, g1, Int.toNat_natCast, idx_nn]
  refine rng_nextP hj (IntKind.i64.wrap (s + iA l j)) ?_ nx
  exact (weak_eqA [] [] (SuF l (IntKind.i64.wrap (s + iA l j)) ((j + 1 : Nat) : Int)) (by refine ⟨?_, ?_, ?_, by simp, ?_⟩ <;> (simp only [↓vp, vv, ↓reduceIte, simprocAttr, coverS, refsF, SuF, w1] <;> try rfl)))
 ·rw [List.drop_of_length_le (Nat.le_refl _), sumW] at hP
  simp (maxSteps:=500000) only [↓vp, vv, ↓reduceIte, simprocAttr, c68, r68, c68_1, c68_2, c68_3, r68, Int.lt_irrefl, SuF, hP, Pu]
def decI1 : List D → Option (List Int)
 | [.sl x] => intsOf x
 | _ => Option.none
theorem decI1_eq : ∀ l a, decI1 l = some a → l = [.sl (a.map iR)] := fun l a h => by
 unfold decI1 at h
 split at h
 ·rw [intsOf_eqR h]
 ·cases h
def I1Ok (l : List Int) : Prop := l.length ≤ 1000000
def selSu := selX decI1 I1Ok fun l => di (sumW l 0)
theorem tc_su {T : Tbl} (hT : TblOk Tryd.prog T) : TblOk Tryd.prog (tc 68 (rowPu selSu) T) := tc_x f68_ok decI1_eq (fun a h nn => psum_c _ h nn) hT
def TwOk (l : List Int) : Prop := l.length ≤ 1000000 ∧ ∀ n, n ∈ l → InI n
def selTw := selX decI1 TwOk fun l => db (ptB l)
theorem f74_ok : fnOk Tryd.prog 74 = true := by kernel_rfl
theorem tc_tw {T : Tbl} (hT : TblOk Tryd.prog T) : TblOk Tryd.prog (tc 74 (rowPu selTw) T) := tc_x f74_ok decI1_eq (fun a h nn => ptwice_c _ h.1 h.2 nn) hT
def secBad (n : Nat) (i : Int) : Bool := decide (i < 0) || decide ((n : Int) ≤ i)
def pkBad (n : Int) : Bool := decide (n < 0) || decide (1099511627776 < n)
theorem sec1_c (p : List Int) (i : Int) (nn : Nm) : CallsA Tryd.prog 72 [di i, .ip [.sl (p.map iR)]] Hp.none nn (Pu (db (secBad p.length i)) Hp.none) := by
 obtain ⟨code, h1, h2⟩ := c72_ok
 refine callsA_of (T0_ok _) mixed (N := fun t => (0, t)) Tryd.func72 h1 h2 r72_ok [] false js_nil js_nil' (by simp [Tryd.f72]) ?_
 unfold secBad
 cases c1 : decide (i < 0) with
 | true => simp (maxSteps:=500000) only [↓vp, vv, ↓reduceIte, simprocAttr, c72, r72, r72, c1, Pu, Bool.true_or]
 | false => simp (maxSteps:=500000) only [↓vp, vv, ↓reduceIte, simprocAttr, c72, r72, r72, c1, Pu, Bool.false_or]
theorem sec2_c (n : Int) (nn : Nm) : CallsA Tryd.prog 75 [di n] Hp.none nn (Pu (db (pkBad n)) Hp.none) := by
 obtain ⟨code, h1, h2⟩ := c75_ok
 refine callsA_of (T0_ok _) mixed (N := fun t => (0, t)) Tryd.func75 h1 h2 r75_ok [] false js_nil js_nil' (by simp [Tryd.f75]) ?_
 unfold pkBad
 cases c1 : decide (n < 0) with
 | true => simp (maxSteps:=500000) only [↓vp, vv, ↓reduceIte, simprocAttr, c75, r75, r75, c1, Pu, Bool.true_or]
 | false => simp (maxSteps:=500000) only [↓vp, vv, ↓reduceIte, simprocAttr, c75, r75, r75, c1, Pu, Bool.false_or]
def pick (p s : List Int) : List Int := s.map fun i => iA p i.toNat
def secI (p s : List Int) : Int × Int := if s.any (secBad p.length) then (0, 8) else if ptB s then (0, 7) else if p.any pkBad then (0, 1) else (sumW (pick p s) 0, 0)
def chgI (a b s : List Int) : Int × Int := if (secI a s).2 = 0 then (if (secI b s).2 = 0 then (IntKind.i64.wrap ((secI b s).1 - (secI a s).1), 0) else (0, (secI b s).2)) else (0, (secI a s).2)
def qPk (l : List (List D)) : D → Bool := match l with
 | [[.sl r]] => qRow intOf (secBad r.length)
 | _ => qRow intOf pkBad
def PkT (P : Program) : Tbl := tc 73 (rowPu (selQ P false 1 (fun _ l => qPk l) outC)) (tc 74 (rowPu selTw) (tc 68 (rowPu selSu) T0))
theorem PkT_ok : TblOk Tryd.prog (PkT Tryd.prog) := tc_cf f73_ok (fun q g l rows h nn => hasF_I q g l rows h nn) (tc_tw (tc_su (T0_ok _)))
theorem outC_ints (q : Int → Bool) (l : List Int) : outC (fun r => qRow intOf q (elV false r)) (l.map iR) = db (l.any q) := by
 have e : ((fun r => qRow intOf q (elV false r)) ∘ iR) = q := funext fun x => rfl
 unfold outC
 rw [List.any_map, e]
structure SecPre (p s : List Int) : Prop where
 pl : p.length ≤ 1000000
 sl : s.length ≤ 1000000
 si : ∀ n, n ∈ s → InI n
def SecF (p s out : List Int) (g : Nat) (j : Int) : List (Nat × D) := [(2, .ip [.sl (p.map iR)]), (7, .own (0, 1000) g 0 out.length), (20, .sl (s.map iR)), (21, di s.length), (22, di j)]
def SecH (out : List Int) (g : Nat) : Hp := Hp.none.put (0, 1000) ⟨g, 1, out.map iR⟩
set_option maxHeartbeats 16000000 in
theorem psec_c (p s : List Int) (h : SecPre p s) (nn : Nm) : CallsA Tryd.prog 37 [.sl (p.map iR), .sl (s.map iR)] Hp.none nn (Pu (ie (secI p s)) Hp.none) := by
 obtain ⟨code, h1, h2⟩ := c37_ok
 refine callsA_of PkT_ok mixed (N := fun t => (0, t)) Tryd.func37 h1 h2 r37_ok [] false js_nil js_nil' (by simp [Tryd.f37]) ?_
 have q1 : QOk Tryd.prog false 1 (qRow intOf (secBad p.length)) 72 [[.sl (p.map iR)]] (s.map iR) := by
  refine ⟨f72_ok, by simp; have := h.sl; omega, fun r hr => ?_⟩
  obtain ⟨x, _, rfl⟩ := List.mem_map.1 hr
  exact ⟨rfl, rfl, fun _ => ⟨_, rfl⟩, fun nn => sec1_c p x nn⟩
 have q2 : QOk Tryd.prog false 1 (qRow intOf pkBad) 75 [] (p.map iR) := by
  refine ⟨f75_ok, by simp; have := h.pl; omega, fun r hr => ?_⟩
  obtain ⟨x, _, rfl⟩ := List.mem_map.1 hr
  exact ⟨rfl, rfl, fun _ => ⟨_, rfl⟩, fun nn => sec2_c x nn⟩
 have o1 := outC_ints (secBad p.length) s
 have o2 := outC_ints pkBad p
 have b1 : TwOk s := ⟨h.sl, h.si⟩
 have qe : qPk [[.sl (p.map iR)]] = qRow intOf (secBad p.length) := by unfold qPk; simp
 have qe2 : qPk [] = qRow intOf pkBad := rfl
 have e0 : secI p s = if s.any (secBad p.length) then (0, 8) else if ptB s then (0, 7) else if p.any pkBad then (0, 1) else (sumW (pick p s) 0, 0) := rfl
 simp (maxSteps:=500000) only [↓vp, vv, ↓reduceIte, simprocAttr, c37, r37, c37_1, c37_2, c37_3, c37_4, c37_5, c37_6, PkT, Pu]
 refine vc_wk ((weak_ip 2 (0, 2) 0 1 [.sl (p.map iR)] (by simp only [↓vp, vv, ↓reduceIte, simprocAttr, ]) (by simp only [↓vp, vv, ↓reduceIte, simprocAttr, ]) (by simp only [↓vp, vv, ↓reduceIte, simprocAttr, ]) (by simp)).trans (weak_eqA [] [] [(1, .sl (s.map iR)), (2, .ip [.sl (p.map iR)])] (by refine ⟨?_, ?_, ?_, by simp, ?_⟩ <;> (simp only [↓vp, vv, ↓reduceIte, simprocAttr, coverS, refsF, ] <;> try rfl)))) ?_
 cases a1 : s.any (secBad p.length) with
 | true =>
  rw [a1] at o1 e0
  simp (maxSteps:=500000) only [↓vp, vv, ↓reduceIte, simprocAttr, c37, r37, c37_1, c37_2, c37_3, c37_4, c37_5, c37_6, r37, PkT, selQ, ipsOf, qe, qe2, q1, o1, a1, e0, ie, Pu]
 | false =>
 rw [a1] at o1 e0
 cases a2 : ptB s with
 | true =>
  rw [a2] at e0
  simp (maxSteps:=500000) only [↓vp, vv, ↓reduceIte, simprocAttr, c37, r37, c37_1, c37_2, c37_3, c37_4, c37_5, c37_6, r37, PkT, selQ, ipsOf, qe, qe2, q1, o1, a1, selTw, selX, decI1, intsOf_iR, b1, a2, e0, ie, Pu]
 | false =>
 rw [a2] at e0
 simp (maxSteps:=500000) only [↓vp, vv, ↓reduceIte, simprocAttr, c37, r37, c37_1, c37_2, c37_3, c37_4, c37_5, c37_6, PkT, selQ, ipsOf, qe, qe2, q1, o1, a1, selTw, selX, decI1, intsOf_iR, b1, a2]
 refine vc_wk (weak_eqA [] [] [(1, .sl (s.map iR)), (2, .ip [.sl (p.map iR)])] (by refine ⟨?_, ?_, ?_, by simp, ?_⟩ <;> (simp only [↓vp, vv, ↓reduceIte, simprocAttr, coverS, refsF, ] <;> try rfl))) ?_
 cases a3 : p.any pkBad with
 | true =>
  rw [a3] at o2 e0
  simp (maxSteps:=500000) only [↓vp, vv, ↓reduceIte, simprocAttr, c37, r37, c37_1, c37_2, c37_3, c37_4, c37_5, c37_6, r37, PkT, selQ, ipsOf, qe, qe2, q2, o2, a3, e0, ie, Pu]
 | false =>
 rw [a3] at o2 e0
 have hin : ∀ j, j < s.length → 0 ≤ iA s j ∧ (iA s j).toNat < p.length := fun j hj => by
  have h1 : secBad p.length (iA s j) = false := by
   have : iA s j ∈ s := by
    unfold iA
    rw [List.getD_eq_getElem?_getD, List.getElem?_eq_getElem hj]
    exact List.getElem_mem hj
   have := List.any_eq_false.1 a1 _ this
   simpa using this
  unfold secBad at h1
  rw [Bool.or_eq_false_iff] at h1
  have k1 := of_decide_eq_false h1.1
  have k2 := of_decide_eq_false h1.2
  omega
 have hs := h.sl
 have hsu : ∀ l : List Int, l.length ≤ 1000000 → I1Ok l := fun l h => h
 simp (maxSteps:=500000) only [↓vp, vv, ↓reduceIte, simprocAttr, c37, r37, c37_1, c37_2, c37_3, c37_4, c37_5, c37_6, PkT, selQ, ipsOf, qe, qe2, q2, o2, a3]
 refine rng_loopP s.length (fun j (u : List Int × Nat) => ⟨fr (SecF p s u.1 u.2 (j : Nat)), SecH u.1 u.2⟩) (fun j u => u.1 = pick p (s.take j)) (u0 := ([], 0)) ((weak_own 7 (0, 1000) 1 (by simp only [↓vp, vv, ↓reduceIte, simprocAttr, ]) (by simp only [↓vp, vv, ↓reduceIte, simprocAttr, ])).trans (weak_eqA [] [(0, 1000)] (SecF p s [] 0 0) (by refine ⟨?_, ?_, ?_, by simp, ?_⟩ <;> (simp only [↓vp, vv, ↓reduceIte, simprocAttr, coverS, refsF, SecF, SecH] <;> try rfl)))) rfl (fun j hj u hP => ?_) (fun u hP => ?_)
 ·obtain ⟨out, g⟩ := u
  dsimp only at hP
  have ho : out.length = j := by rw [hP]; unfold pick; simp; omega
  have hj' : (j : Int) < s.length := by omega
  have w1 := idx_next (j := j) (by omega)
  have g1 := i_get hj
  obtain ⟨k1, k2⟩ := hin j hj
  have g2 := i_get k2
  have k3 : (iA s j) < p.length := by omega
  have y1 : (out.length + 1) * 8 ≤ 140737488355328 := by omega
  have y2 : out.length + 1 ≤ 4611686018427387904 := by omega
  have nx : out ++ [iA p (iA s j).toNat] = pick p (s.take (j + 1)) := by rw [hP, i_take hj]; unfold pick; rw [List.map_append]; rfl
  generalize iA s j = i at g1 k1 k2 k3 g2 nx
  generalize iA p i.toNat = v at g2 nx
  simp (maxSteps:=500000) only [↓vp, vv, ↓reduceIte, simprocAttr, c37, r37, c37_1, c37_2, c37_3, c37_4, c37_5, c37_6, PkT, SecF, SecH, hj', hj, g1, g2, k1, k2, k3, y1, y2, Int.toNat_natCast, idx_nn]
  refine rng_nextP hj (out ++ [v], g + 1) ?_ nx
  exact (weak_eqA [] [(0, 1000)] (SecF p s (out ++ [v]) (g + 1) ((j + 1 : Nat) : Int)) (by refine ⟨?_, ?_, ?_, by simp, ?_⟩ <;> (simp only [↓vp, vv, ↓reduceIte, simprocAttr, coverS, refsF, SecF, SecH, iR, w1, List.map_append, List.map_cons, List.map_nil, List.length_append, List.length_cons, List.length_nil] <;> try rfl)))
 ·obtain ⟨out, g⟩ := u
  dsimp only at hP
  rw [List.take_length] at hP
  have ho : out.length = s.length := by rw [hP]; unfold pick; simp
  have tk : (out.map iR).take out.length = out.map iR := List.take_of_length_le (by simp)
  have b2 := hsu out (by omega)
  rw [← hP] at e0
  simp (maxSteps:=500000) only [↓vp, vv, ↓reduceIte, simprocAttr, c37, r37, c37_1, c37_2, c37_3, c37_4, c37_5, c37_6, r37, PkT, selSu, selX, decI1, intsOf_iR, tk, b2, SecF, SecH, Int.lt_irrefl, eq_true (i_pl out), e0, ie, Pu]
set_option maxHeartbeats 4000000 in
theorem idxF_D (q : D → Bool) (g : FuncId) (l rows : List (List D)) (h : QOk Tryd.prog true 5 q g l rows) (nn : Nm) : CallsA Tryd.prog 132 [.sl rows, .clo g [] (ips l)] Hp.none nn (Pu (outI (fun r => q (elV true r)) rows) Hp.none) := by
 obtain ⟨hg, hl, hq⟩ := h
 obtain ⟨code, h1, h2⟩ := c132_ok
 refine callsA_of (tc_q (q := q) hg (T0_ok _)) mixed (N := fun t => (0, t)) Tryd.func132 h1 h2 r132_ok [] false js_nil js_nil' (by simp [Tryd.f132]) ?_
 unfold outI
 simp (maxSteps:=500000) only [↓vp, vv, ↓reduceIte, simprocAttr, c132]
 rw [vc_loop]
 refine ⟨fun m s => ∃ j : Nat, j + m = rows.length ∧ idxOf (fun r => q (elV true r)) 0 rows = idxOf (fun r => q (elV true r)) j (rows.drop j) ∧ s = ⟨fr [(0, .sl rows), (1, .clo g [] (ips l)), (7, di rows.length), (8, di j)], Hp.none⟩, ⟨rows.length, _, (weak_eq [] [] [(0, .sl rows), (1, .clo g [] (ips l)), (7, di rows.length), (8, di 0)] (by simp only [↓vp, vv, ↓reduceIte, simprocAttr, coverS]) (by simp only [↓vp, vv, ↓reduceIte, simprocAttr, refsF, ips_refs]) (by simp only [↓vp, vv, ↓reduceIte, simprocAttr, ]) (by simp) (by simp only [↓vp, vv, ↓reduceIte, simprocAttr, ]; try rfl)), ⟨0, by omega, rfl, rfl⟩⟩, ?_⟩
 rintro m s ⟨j, hj, he, rfl⟩
 by_cases hlt : j < rows.length
 ·have hlt' : (j : Int) < rows.length := by omega
  have h0 : (0 : Int) ≤ j := by omega
  obtain ⟨r, hr⟩ : ∃ r, rows[j]? = some r := ⟨_, get_lt hlt⟩
  have hg' : rows.getD j [] = r := by rw [List.getD_eq_getElem?_getD, hr]; rfl
  obtain ⟨hr1, hr2, hr0, hr3⟩ := hq r (List.mem_of_getElem? hr)
  rw [idxOf_drop _ _ _ _ hr] at he
  have w1 : IntKind.i64.wrap ((j : Int) + 1) = ((j + 1 : Nat) : Int) := by rw [wrap_i (by omega)]; rfl
  have ht : r.take 5 = r := List.take_of_length_le (by omega)
  have d1 := fun H => (doneR H [] hr2).1
  have d2 := fun H => (doneR H [] hr2).2.1
  have d3 := fun H => (doneR H [] hr2).2.2.1
  have d4 := (doneR Hp.none [] hr2).2.2.2.1
  have d5 := fun js => (doneR Hp.none js hr2).2.2.2.2
  have hc : ∀ nn, CallsA Tryd.prog g ((.agg r) :: ips l) Hp.none nn (Pu (db (q (.agg r))) Hp.none) := hr3
  have he2 : idxOf (fun r => q (elV true r)) 0 rows = if q (.agg r) = true then (j : Int) else idxOf (fun r => q (elV true r)) (j + 1 : Nat) (rows.drop (j + 1)) := he
  cases hb : q (.agg r) with
  | true =>
   rw [hb, if_pos rfl] at he2
   have hcT : ∀ nn, CallsA Tryd.prog g ((.agg r) :: ips l) Hp.none nn (Pu (db true) Hp.none) = True := fun nn => eq_true (by have := hc nn; rwa [hb] at this)
   simp (maxSteps:=500000) only [↓vp, vv, ↓reduceIte, simprocAttr, c132, r132, c132_1, c132_2, c132_3, c132_4, hlt', h0, Int.toNat_natCast, hg', hr1, ht, d1, d2, d3, d4, d5, ips_nms, ips_lend, ips_lendNm, ips_ok, ips_refs, rowQ, hb, he2, Pu, addNm, cellNms, hcT]
  | false =>
   rw [hb, if_neg (by simp)] at he2
   have hcT : ∀ nn, CallsA Tryd.prog g ((.agg r) :: ips l) Hp.none nn (Pu (db false) Hp.none) = True := fun nn => eq_true (by have := hc nn; rwa [hb] at this)
   simp (maxSteps:=500000) only [↓vp, vv, ↓reduceIte, simprocAttr, c132, r132, c132_1, c132_2, c132_3, c132_4, hlt', h0, Int.toNat_natCast, hg', hr1, ht, d1, d2, d3, d4, d5, ips_nms, ips_lend, ips_lendNm, ips_ok, ips_refs, rowQ, hb, addNm, cellNms, hcT]
   exact ⟨m - 1, _, by omega, weak_eq [] [] [(0, .sl rows), (1, .clo g [] (ips l)), (7, di rows.length), (8, di ((j + 1 : Nat) : Int))] (by simp only [↓vp, vv, ↓reduceIte, simprocAttr, coverS, w1]) (by simp only [↓vp, vv, ↓reduceIte, simprocAttr, refsF, ips_refs]) (by simp only [↓vp, vv, ↓reduceIte, simprocAttr, ]) (by simp) (by simp only [↓vp, vv, ↓reduceIte, simprocAttr, ]; try rfl), ⟨j + 1, by omega, he2, rfl⟩⟩
 ·have hlt' : ¬ (j : Int) < rows.length := by omega
  rw [List.drop_of_length_le (by omega)] at he
  have he2 : idxOf (fun r => q (elV true r)) 0 rows = -1 := he
  simp (maxSteps:=500000) only [↓vp, vv, ↓reduceIte, simprocAttr, c132, r132, c132_1, c132_2, c132_3, c132_4, hlt', he2, Pu]
end Go.Proofs.YtehmmnnmkapfeaaDoor

/- Meters, products, conditions out of a source. -/
namespace Go.Proofs.YtehmmnnmkapfeaaDoor
open Go
structure PrdIn (n : Int) (p : Prd) : Prop where
 nm : p.nm = nm1B ⟨#[112]⟩ n
 de : 400 ≤ p.de ∧ p.de ≤ 1200
 ex : 0 ≤ p.ex ∧ p.ex ≤ 2000
 co : 0 ≤ p.co ∧ p.co ≤ 5000
 fr : 1 ≤ p.fr ∧ p.fr ≤ 2000
set_option maxHeartbeats 8000000 in
theorem Product_s (n : Int) (hn : 0 ≤ n ∧ n < 26) : SrcC Tryd.prog 13 [di n] (PrdIn n) Prd.enc := by
 intro i L at' nn ho
 obtain ⟨code, h1, h2⟩ := c13_ok
 refine callsA_of T2_ok mixed (N := fun t => (i.1 + 1, t)) Tryd.func13 h1 h2 r13_ok [i] false js_one js_one' (by simp [Tryd.f13]) ?_
 simp (maxSteps:=500000) only [↓vp, vv, ↓reduceIte, simprocAttr, c13, r13, T2, T1, selI, selPick, selRange, selName, ho, hn, Prd.enc, Prd.row]
 refine ⟨by decide, ?_⟩
 intro a0 w hw a1 x hx a2 y hy a3 z hz
 simp only [IsMem, RPost, List.mem_cons, List.not_mem_nil, or_false] at hw hx hy hz
 refine ⟨a3.1, ⟨nm1B ⟨#[112]⟩ n, w, x, y, z⟩, a3.2, ⟨rfl, ?_, ?_, ?_, ?_⟩, rfl, rfl⟩ <;> dsimp only <;> omega
def eqPn (x y : Prd) : Bool := eqS y.nm x.nm
def pckI (l : List Prd) : Int := if 16 < l.length then 4 else if l.all pV then (if dupB eqPn l then 7 else 0) else 9
def pdA (l : List Prd) (j : Nat) : Prd := l.getD j ⟨⟨#[]⟩, 0, 0, 0, 0⟩
theorem pd_get {l : List Prd} {j : Nat} (h : j < l.length) : (l.map Prd.row).getD j [] = [ds (pdA l j).nm, di (pdA l j).de, di (pdA l j).ex, di (pdA l j).co, di (pdA l j).fr] := by
 unfold pdA
 rw [List.getD_eq_getElem?_getD, List.getElem?_map, List.getD_eq_getElem?_getD, List.getElem?_eq_getElem h]
 rfl
theorem pd_at {l : List Prd} {j : Nat} (h : j < l.length) : l[j] = pdA l j := by
 unfold pdA
 rw [List.getD_eq_getElem?_getD, List.getElem?_eq_getElem h]
 rfl
theorem pd_drop {l : List Prd} {j : Nat} (h : j < l.length) : l.drop j = pdA l j :: l.drop (j + 1) := by
 rw [List.drop_eq_getElem_cons h, pd_at h]
def prdsOf : List (List D) → Option (List Prd)
 | [] => some []
 | r :: l => match prdOf r, prdsOf l with
  | some c, some cs => some (c :: cs)
  | _, _ => Option.none
theorem prdsOf_map (l : List Prd) : prdsOf (l.map Prd.row) = some l := by
 induction l with
 | nil => rfl
 | cons c l ih => rw [List.map_cons, prdsOf, ih]; rfl
theorem prdsOf_eq : ∀ {l : List (List D)} {cs : List Prd}, prdsOf l = some cs → l = cs.map Prd.row
 | [], cs, h => by cases h; rfl
 | r :: l, cs, h => by
  rw [prdsOf] at h
  split at h
  ·rename_i e e'; cases h; rw [List.map_cons, prdOf_eq e, prdsOf_eq e']
  ·cases h
theorem prd_done (x : Prd) : doneL x.row = true := rfl
theorem pfind1_c (p : Prd) (s : ByteArray) (nn : Nm) : CallsA Tryd.prog 133 [.agg p.row, .ip [ds s]] Hp.none nn (Pu (db (eqS p.nm s)) Hp.none) := by
 obtain ⟨code, h1, h2⟩ := c133_ok
 refine callsA_of (T0_ok _) mixed (N := fun t => (0, t)) Tryd.func133 h1 h2 r133_ok [] false js_nil js_nil' (by simp [Tryd.f133]) ?_
 unfold eqS
 simp (maxSteps:=500000) only [↓vp, vv, ↓reduceIte, simprocAttr, c133, r133, r133, Prd.row, Pu]
def qFd (l : List (List D)) : D → Bool := match l with
 | [[.v (.string s)]] => qRow prdOf (fun y => eqS y.nm s)
 | _ => fun _ => false
def FdT (P : Program) : Tbl := tc 132 (rowPu (selQ P true 5 (fun _ l => qFd l) outI)) T0
theorem tc_ci {P : Program} {ag : Bool} {sz : Nat} {f : FuncId} {q : FuncId → List (List D) → D → Bool} {T : Tbl} (hf : fnOk P f = true) (h : ∀ (q : D → Bool) (g : FuncId) (l rows : List (List D)), QOk P ag sz q g l rows → ∀ nn, CallsA P f [.sl rows, .clo g [] (ips l)] Hp.none nn (Pu (outI (fun r => q (elV ag r)) rows) Hp.none)) (hT : TblOk P T) : TblOk P (tc f (rowPu (selQ P ag sz q outI)) T) :=
 tc_pu hf (fun args pre d hs hp nn => by
  unfold selQ at hs
  split at hs
  ·split at hs
   ·rename_i hi
    cases hs
    rw [ipsOf_eq hi]
    exact h _ _ _ _ hp nn
   ·cases hs
  ·cases hs) hT
theorem FdT_ok : TblOk Tryd.prog (FdT Tryd.prog) := tc_ci f132_ok (fun q g l rows h nn => idxF_D q g l rows h nn) (T0_ok _)
theorem pfind_c (l : List Prd) (hl : l.length ≤ 1000000) (s : ByteArray) (nn : Nm) : CallsA Tryd.prog 102 [.sl (l.map Prd.row), ds s] Hp.none nn (Pu (di (idxA (fun y => eqS y.nm s) 0 l)) Hp.none) := by
 obtain ⟨code, h1, h2⟩ := c102_ok
 refine callsA_of FdT_ok mixed (N := fun t => (0, t)) Tryd.func102 h1 h2 r102_ok [] false js_nil js_nil' (by simp [Tryd.f102]) ?_
 have hq : QOk Tryd.prog true 5 (qFd [[ds s]]) 133 [[ds s]] (l.map Prd.row) := by
  refine ⟨f133_ok, by simp; omega, fun r hr => ?_⟩
  obtain ⟨y, _, rfl⟩ := List.mem_map.1 hr
  exact ⟨rfl, prd_done y, fun h => Bool.noConfusion h, fun nn => pfind1_c y s nn⟩
 have ho : outI (fun r => qFd [[ds s]] (elV true r)) (l.map Prd.row) = di (idxA (fun y => eqS y.nm s) 0 l) := by
  unfold outI
  rw [idxOf_map Prd.row _ (fun y => eqS y.nm s) (fun y => rfl)]
 simp (maxSteps:=500000) only [↓vp, vv, ↓reduceIte, simprocAttr, c102, r102, c102_1, FdT, Pu]
 refine vc_wk ((weak_ip 3 (0, 3) 0 1 [ds s] (by simp only [↓vp, vv, ↓reduceIte, simprocAttr, ]) (by simp only [↓vp, vv, ↓reduceIte, simprocAttr, ]) (by simp only [↓vp, vv, ↓reduceIte, simprocAttr, ]) (by simp)).trans (weak_eqA [] [] [(0, .sl (l.map Prd.row)), (3, .ip [ds s])] (by refine ⟨?_, ?_, ?_, by simp, ?_⟩ <;> (simp only [↓vp, vv, ↓reduceIte, simprocAttr, coverS, refsF, ] <;> try rfl)))) ?_
 simp (maxSteps:=500000) only [↓vp, vv, ↓reduceIte, simprocAttr, r102, FdT, selQ, ipsOf, hq, ho, Pu]
def decFd : List D → Option (List Prd × ByteArray)
 | [.sl x, .v (.string s)] => match prdsOf x with
  | some l => some (l, s)
  | Option.none => Option.none
 | _ => Option.none
theorem decFd_eq : ∀ l a, decFd l = some a → l = [.sl (a.1.map Prd.row), ds a.2] := fun l a h => by
 unfold decFd at h
 split at h
 ·split at h
  ·rename_i e; cases h; rw [prdsOf_eq e]
  ·cases h
 ·cases h
def FdOk (a : List Prd × ByteArray) : Prop := a.1.length ≤ 1000000
def selFd := selX decFd FdOk fun a => di (idxA (fun y => eqS y.nm a.2) 0 a.1)
theorem tc_fd {T : Tbl} (hT : TblOk Tryd.prog T) : TblOk Tryd.prog (tc 102 (rowPu selFd) T) := tc_x f102_ok decFd_eq (fun a h nn => pfind_c _ h _ nn) hT
def CkT : Tbl := tc 91 (rowPu selPV) (tc 102 (rowPu selFd) T0)
theorem CkT_ok : TblOk Tryd.prog CkT := tc_pv (tc_fd (T0_ok _))
theorem all_drop {l : List Prd} {j : Nat} (h : j < l.length) {b : Bool} (he : (l.drop j).all pV = b) : (pV (pdA l j) = false → b = false) ∧ (pV (pdA l j) = true → (l.drop (j + 1)).all pV = b) := by
 rw [pd_drop h, List.all_cons] at he
 exact ⟨fun k => by rw [k] at he; simpa using he.symm, fun k => by rw [k] at he; simpa using he⟩
def CkF (l : List Prd) (a b c : Nat) (j : Int) : List (Nat × D) := [(0, .sl (l.map Prd.row)), (a, .sl (l.map Prd.row)), (b, di l.length), (c, di j)]
theorem dup_step {l : List Prd} {i : Nat} (hi : i < l.length) {b : Bool} (he : ((List.range l.length).drop i).any (dupAt eqPn l) = b) :
  (idxA (fun y => eqS y.nm (pdA l i).nm) 0 l ≤ (i : Int)) ∧ (idxA (fun y => eqS y.nm (pdA l i).nm) 0 l < (i : Int) → b = true) ∧ (¬ idxA (fun y => eqS y.nm (pdA l i).nm) 0 l < (i : Int) → ((List.range l.length).drop (i + 1)).any (dupAt eqPn l) = b) := by
 have hil : i < (List.range l.length).length := by simpa using hi
 obtain ⟨hf, ht⟩ := drop_any hil he
 rw [range_at, dup_at hi, pd_at hi] at hf ht
 have hix := idxA_lt (fun y => eqS y.nm (pdA l i).nm) l 0 i hi (Int.le_refl _) (by rw [pd_at hi]; exact eqS_self _)
 have hix1 := idxA_lt (fun y => eqS y.nm (pdA l i).nm) l 0
 rw [Int.zero_add] at hix
 refine ⟨?_, fun h => hf (hix.1 h), fun h => ht ?_⟩
 ·have : ∀ (m : List Prd) (k : Int) (i : Nat) (h : i < m.length) (q : Prd → Bool), q m[i] = true → idxA q k m ≤ k + i := by
   intro m
   induction m with
   | nil => intro k i h; simp at h
   | cons r m ih =>
    intro k i h q hq
    rw [idxA]
    split
    ·omega
    ·rename_i hr
     match i, h with
     | 0, _ => exact absurd hq hr
     | i + 1, h =>
      have := ih (k + 1) i (by simpa using h) q (by simpa using hq)
      omega
  have := this l 0 i hi (fun y => eqS y.nm (pdA l i).nm) (by rw [pd_at hi]; exact eqS_self _)
  omega
 ·cases hd : (l.take i).any (eqPn (pdA l i)) with
  | false => rfl
  | true => exact absurd (hix.2 hd) h
set_option maxHeartbeats 8000000 in
theorem pcheck_c (l : List Prd) (hl : l.length ≤ 1000000) (nn : Nm) : CallsA Tryd.prog 66 [.sl (l.map Prd.row)] Hp.none nn (Pu (di (pckI l)) Hp.none) := by
 obtain ⟨code, h1, h2⟩ := c66_ok
 refine callsA_of CkT_ok mixed (N := fun t => (0, t)) Tryd.func66 h1 h2 r66_ok [] false js_nil js_nil' (by simp [Tryd.f66]) ?_
 cases c0 : decide ((16 : Int) < (l.length : Int)) with
 | true =>
  have e : pckI l = 4 := by unfold pckI; rw [if_pos (by have := of_decide_eq_true c0; omega)]
  simp (maxSteps:=500000) only [↓vp, vv, ↓reduceIte, simprocAttr, c66, r66, c66_1, c66_2, c66_3, c66_4, c66_5, c66_6, c66_7, c66_8, c66_9, r66, CkT, c0, e, Pu]
 | false =>
 have e0 : pckI l = if l.all pV then (if dupB eqPn l then 7 else 0) else 9 := by unfold pckI; rw [if_neg (by have := of_decide_eq_false c0; omega)]
 generalize hb : l.all pV = b at e0
 generalize hc : dupB eqPn l = d at e0
 simp (maxSteps:=500000) only [↓vp, vv, ↓reduceIte, simprocAttr, c66, r66, c66_1, c66_2, c66_3, c66_4, c66_5, c66_6, c66_7, c66_8, c66_9, CkT, c0]
 refine rng_loop l.length (fun j => ⟨fr (CkF l 10 11 12 (j : Nat)), Hp.none⟩) (fun j => (l.drop j).all pV = b) (weak0 (by simp only [↓vp, vv, ↓reduceIte, simprocAttr, coverS, CkF]) (by simp only [↓vp, vv, ↓reduceIte, simprocAttr, refsF, CkF])) hb (fun j hj hP => ?_) (fun hP => ?_)
 ·have hj' : (j : Int) < l.length := by omega
  have w1 := idx_next (j := j) (by omega)
  have g1 := pd_get hj
  obtain ⟨n1, n2⟩ := all_drop hj hP
  generalize pdA l j = p at g1 n1 n2
  cases c1 : pV p with
  | false =>
   have := n1 c1
   subst this
   simp (maxSteps:=500000) only [↓vp, vv, ↓reduceIte, simprocAttr, c66, r66, c66_1, c66_2, c66_3, c66_4, c66_5, c66_6, c66_7, c66_8, c66_9, r66, CkT, selPV, selX, decP, tt, prdOf_x, CkF, hj', hj, g1, Int.toNat_natCast, idx_nn, c1, e0, Pu]
  | true =>
   simp (maxSteps:=500000) only [↓vp, vv, ↓reduceIte, simprocAttr, c66, r66, c66_1, c66_2, c66_3, c66_4, c66_5, c66_6, c66_7, c66_8, c66_9, r66, CkT, selPV, selX, decP, tt, prdOf_x, CkF, hj', hj, g1, Int.toNat_natCast, idx_nn, c1]
   refine rng_next hj ?_ (n2 c1)
   exact (weak_eqA [] [] (CkF l 10 11 12 ((j + 1 : Nat) : Int)) (by refine ⟨?_, ?_, ?_, by simp, ?_⟩ <;> (simp only [↓vp, vv, ↓reduceIte, simprocAttr, coverS, refsF, CkF, w1] <;> try rfl)))
 ·rw [List.drop_of_length_le (Nat.le_refl _)] at hP
  have : b = true := hP.symm
  subst this
  simp (maxSteps:=500000) only [↓vp, vv, ↓reduceIte, simprocAttr, c66, r66, c66_1, c66_2, c66_3, c66_4, c66_5, c66_6, c66_7, c66_8, c66_9, CkT, CkF, Int.lt_irrefl]
  refine rng_loop l.length (fun j => ⟨fr (CkF l 20 21 22 (j : Nat)), Hp.none⟩) (fun j => ((List.range l.length).drop j).any (dupAt eqPn l) = d) (weak0 (by simp only [↓vp, vv, ↓reduceIte, simprocAttr, coverS, CkF]) (by simp only [↓vp, vv, ↓reduceIte, simprocAttr, refsF, CkF])) hc (fun j hj hP => ?_) (fun hP => ?_)
  ·have hj' : (j : Int) < l.length := by omega
   have w1 := idx_next (j := j) (by omega)
   have g1 := pd_get hj
   obtain ⟨_, n1, n2⟩ := dup_step hj hP
   have ep := prdsOf_map l
   have hl' : FdOk (l, (pdA l j).nm) := hl
   generalize pdA l j = p at g1 n1 n2 hl'
   by_cases c1 : idxA (fun y => eqS y.nm p.nm) 0 l < (j : Int)
   ·have := n1 c1
    subst this
    simp (maxSteps:=500000) only [↓vp, vv, ↓reduceIte, simprocAttr, c66, r66, c66_1, c66_2, c66_3, c66_4, c66_5, c66_6, c66_7, c66_8, c66_9, r66, CkT, selFd, selX, decFd, ep, hl', CkF, hj', hj, g1, Int.toNat_natCast, idx_nn, c1, e0, Pu]
   ·simp (maxSteps:=500000) only [↓vp, vv, ↓reduceIte, simprocAttr, c66, r66, c66_1, c66_2, c66_3, c66_4, c66_5, c66_6, c66_7, c66_8, c66_9, r66, CkT, selFd, selX, decFd, ep, hl', CkF, hj', hj, g1, Int.toNat_natCast, idx_nn, c1]
    refine rng_next hj ?_ (n2 c1)
    exact (weak_eqA [] [] (CkF l 20 21 22 ((j + 1 : Nat) : Int)) (by refine ⟨?_, ?_, ?_, by simp, ?_⟩ <;> (simp only [↓vp, vv, ↓reduceIte, simprocAttr, coverS, refsF, CkF, w1] <;> try rfl)))
  ·have : d = false := drop_any_end (by simp) hP
   subst this
   simp (maxSteps:=500000) only [↓vp, vv, ↓reduceIte, simprocAttr, c66, r66, c66_1, c66_2, c66_3, c66_4, c66_5, c66_6, c66_7, c66_8, c66_9, r66, CkT, CkF, Int.lt_irrefl, e0, Pu]
def decPs : List D → Option (List Prd)
 | [.sl x] => prdsOf x
 | _ => Option.none
theorem decPs_eq : ∀ l a, decPs l = some a → l = [.sl (a.map Prd.row)] := fun l a h => by
 unfold decPs at h
 split at h
 ·rw [prdsOf_eq h]
 ·cases h
def PsOk (a : List Prd) : Prop := a.length ≤ 1000000
def selPk := selX decPs PsOk fun a => di (pckI a)
theorem tc_pck {T : Tbl} (hT : TblOk Tryd.prog T) : TblOk Tryd.prog (tc 66 (rowPu selPk) T) := tc_x f66_ok decPs_eq (fun a h nn => pcheck_c _ h nn) hT
end Go.Proofs.YtehmmnnmkapfeaaDoor
