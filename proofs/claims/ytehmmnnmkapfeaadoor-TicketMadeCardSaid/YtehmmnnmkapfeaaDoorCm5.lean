/- TicketMade: CodeCM CmB. -/
import Derived.Test.YtehmmnnmkapfeaaDoorCm3
import Derived.Test.YtehmmnnmkapfeaaDoorProg
import Derived.Test.YtehmmnnmkapfeaaDoorCm4
set_option linter.unusedSimpArgs false
set_option linter.unusedVariables false
set_option maxRecDepth 100000
/- Compiled code of some functions (printed by a program), each checked by the kernel. -/
namespace Go.Proofs.YtehmmnnmkapfeaaDoor
open Go
def c35_1 : C := (.seq (.ops false [oP 29 (.fa 2 (.t 2)), oP 30 (.ld 1 false (.t 29)), oP 31 (.fa 0 (.t 3)), oP 32 (.ld 1 false (.t 31)), oP 33 (.bin .sub (.t 32) (cI 150)), oP 34 (.bin .mul (.t 30) (.t 33)), oB 35 (.call 69 [(.t 34), (cI 10)]), oP 36 (.bin .sub (cI 1000000) (.t 35)), oP 6 (.mv (.t 36))]) (.seq (.ops false [oP 37 (.fa 3 (.t 2)), oP 38 (.ld 1 false (.t 37)), oP 39 (.fa 1 (.t 3)),
  oP 40 (.ld 1 false (.t 39)), oP 41 (.bin .mul (.t 38) (.t 40)), oB 42 (.call 69 [(.t 41), (cI 1000)]), oP 43 (.bin .add (cI 1000000) (.t 42)), oP 7 (.mv (.t 43))]) (.seq (.ops false [oP 44 (.mv (.t 6)), oP 45 (.mv (.t 7)), oP 46 (.bin .mul (.t 44) (.t 45)), oB 47 (.call 69 [(.t 46), (cI 1000000)]), oP 4 (.mv (.t 47)), oP 5 (.mv (cI 0))]) .ret)))
def c35_2 : C := (.seq (.seq (.ops false [oP 11 (.fa 0 (.t 3)), oP 12 (.ld 1 false (.t 11)), oP 13 (.bin .lss (.t 12) (cI (-400))), oP 14 (.mv (.t 13)), oG 15 14 false (.fa 0 (.t 3)), oG 16 14 false (.ld 1 false (.t 15)), oG 17 14 false (.bin .gtr (.t 16) (cI 1000)), oP 18 (.pick (.t 14) (cB true) (.t 17)), oP 19 (.mv (.t 18)), oG 20 19 false (.fa 1 (.t 3)), oG 21 19 false (.ld 1 false (.t 20)),
  oG 22 19 false (.bin .lss (.t 21) (cI 0)), oP 23 (.pick (.t 19) (cB true) (.t 22)), oP 24 (.mv (.t 23)), oG 25 24 false (.fa 1 (.t 3)), oG 26 24 false (.ld 1 false (.t 25)), oG 27 24 false (.bin .gtr (.t 26) (cI 20000)), oP 28 (.pick (.t 24) (cB true) (.t 27))]) (.cond (.t 28) (.seq (.ops false [oP 4 (.mv (cI 0)), oP 5 (.mv (cI 1))]) .ret) .skip)) c35_1)
def c35 : C := (.seq (.ops false [oP 2 (.box 5 (.t 0)), oP 3 (.box 2 (.t 1)), oP 4 (.mv (cI 0)), oP 5 (.mv (cI 0))]) (.seq (.seq (.ops false [oP 8 (.ld 5 true (.t 2)), oB 9 (.call 64 [(.t 8)]), oP 10 (.not (.t 9))]) (.cond (.t 10) (.seq (.ops false [oP 4 (.mv (cI 0)), oP 5 (.mv (cI 9))]) .ret) .skip)) c35_2))
def r35 : List RV := [(.tmp 4), (.tmp 5)]
theorem c35_ok : ∃ code, Tryd.f35.body = some code ∧ compC Tryd.prog Tryd.f35.ntmps code = some (C.strip c35) := ⟨_, rfl, by kernel_rfl⟩
theorem r35_ok : compRes Tryd.prog Tryd.f35.results.toList = some r35 := by kernel_rfl
theorem f35_ok : fnOk Tryd.prog 35 = true := by kernel_rfl
def c56_1 : C := (.seq (.ops true [oP 31 (.ld 3 true (.t 3)), oP 32 (.fa 1 (.t 5)), oA 33 (.ld 1 false (.t 32)) [1], oE 34 (.call 93 [(.t 31), (.t 33)]) [1, 2, 0], oP 35 (.ld 3 true (.t 3)), oP 36 (.fa 1 (.t 4)), oA 37 (.ld 1 false (.t 36)) [5], oE 38 (.call 93 [(.t 35), (.t 37)]) [0, 2, 1, 5, 3, 6, 4], oA 39 (.bin .sub (.t 34) (.t 38)) [4, 6, 5, 0, 2, 1, 7, 3], oA 6 (.mv (.t 39)) [6, 5, 4, 3, 2, 1, 0, 7, 8],
  oA 7 (.mv (cI 0)) [8, 7, 6, 5, 4, 3, 2, 1, 0, 9]]) .ret)
def c56_2 : C := (.seq (.seq (.ops false [oP 26 (.fa 1 (.t 5)), oP 27 (.ld 1 false (.t 26)), oP 28 (.fa 1 (.t 4)), oP 29 (.ld 1 false (.t 28)), oP 30 (.bin .lss (.t 27) (.t 29))]) (.cond (.t 30) (.seq (.ops false [oP 6 (.mv (cI 0)), oP 7 (.mv (cI 6))]) .ret) .skip)) c56_1)
def c56_3 : C := (.seq (.seq (.ops false [oP 23 (.ld 2 true (.t 4)), oP 24 (.ld 2 true (.t 5)), oP 25 (.eqa false [0, 0] (.t 23) (.t 24))]) (.cond (.t 25) (.seq (.ops false [oP 6 (.mv (cI 0)), oP 7 (.mv (cI 0))]) .ret) .skip)) c56_2)
def c56 : C := (.seq (.ops false [oP 3 (.box 3 (.t 0)), oP 4 (.box 2 (.t 1)), oP 5 (.box 2 (.t 2)), oP 6 (.mv (cI 0)), oP 7 (.mv (cI 0))]) (.seq (.seq (.ops false [oP 8 (.ld 3 true (.t 3)), oB 9 (.call 90 [(.t 8)]), oP 10 (.not (.t 9)), oP 11 (.mv (.t 10)), oG 12 11 false (.ld 3 true (.t 3)), oG 13 11 false (.ld 2 true (.t 4)), oD 14 11 false (.call 92 [(.t 12), (.t 13)]) [], oG 15 11 false (.not (.t 14)),
  oP 16 (.pick (.t 11) (cB true) (.t 15)), oP 17 (.mv (.t 16)), oG 18 17 false (.ld 3 true (.t 3)), oG 19 17 false (.ld 2 true (.t 5)), oD 20 17 false (.call 92 [(.t 18), (.t 19)]) [], oG 21 17 false (.not (.t 20)), oP 22 (.pick (.t 17) (cB true) (.t 21))]) (.cond (.t 22) (.seq (.ops false [oP 6 (.mv (cI 0)), oP 7 (.mv (cI 9))]) .ret) .skip)) c56_3))
def r56 : List RV := [(.tmp 6), (.tmp 7)]
theorem c56_ok : ∃ code, Tryd.f56.body = some code ∧ compC Tryd.prog Tryd.f56.ntmps code = some (C.strip c56) := ⟨_, rfl, by kernel_rfl⟩
theorem r56_ok : compRes Tryd.prog Tryd.f56.results.toList = some r56 := by kernel_rfl
theorem f56_ok : fnOk Tryd.prog 56 = true := by kernel_rfl
def c57_1 : C := (.seq (.block 1 (.seq (.ops false [oP 38 (.iaS 1 (.t 34) (.t 36)), oP 39 (.ld 1 false (.t 38)), oP 8 (.mv (.t 39))]) (.ops false [oP 40 (.mv (.t 6)), oP 41 (.mv (.t 8)), oP 42 (.ld 2 true (.t 3)), oP 43 (.callv (.t 41) [(.t 42)]), oP 44 (.bin .mul (.t 40) (.t 43)), oP 6 (.mv (.t 44))]))) (.ops false [oP 45 (.bin .add (.t 36) (cI 1)), oP 36 (.mv (.t 45))]))
def c57_2 : C := (.seq (.ops false [oP 37 (.bin .lss (.t 36) (.t 35))]) (.seq (.cond (.t 37) .skip (.exit 0)) c57_1))
def c57_3 : C := (.seq (.ops false [oP 46 (.mv (.t 6)), oB 47 (.call 96 [(.t 46), (cI 1000000)]), oP 4 (.mv (.t 47)), oP 5 (.mv (cI 0))]) .ret)
def c57_4 : C := (.seq (.ops false [oP 6 (.mv (cI 1))]) (.seq (.seq (.ops false [oP 30 (.ld 5 true (.t 2)), oP 31 (.mkf 94 [(.t 30)] []), oP 32 (.ld 5 true (.t 2)), oP 33 (.mkf 95 [(.t 32)] []), oP 34 (.bsl 1 2 [(.v .nilFunc)] [(0, (.t 31)), (1, (.t 33))]), oP 35 (.len (.t 34)), oP 36 (.mv (cI 0))]) (.block 0 (.loop c57_2))) c57_3))
def c57_5 : C := (.seq (.seq (.ops false [oP 12 (.fa 0 (.t 3)), oP 13 (.ld 1 false (.t 12)), oP 14 (.bin .lss (.t 13) (cI (-400))), oP 15 (.mv (.t 14)), oG 16 15 false (.fa 0 (.t 3)), oG 17 15 false (.ld 1 false (.t 16)), oG 18 15 false (.bin .gtr (.t 17) (cI 1000)), oP 19 (.pick (.t 15) (cB true) (.t 18)), oP 20 (.mv (.t 19)), oG 21 20 false (.fa 1 (.t 3)), oG 22 20 false (.ld 1 false (.t 21)),
  oG 23 20 false (.bin .lss (.t 22) (cI 0)), oP 24 (.pick (.t 20) (cB true) (.t 23)), oP 25 (.mv (.t 24)), oG 26 25 false (.fa 1 (.t 3)), oG 27 25 false (.ld 1 false (.t 26)), oG 28 25 false (.bin .gtr (.t 27) (cI 20000)), oP 29 (.pick (.t 25) (cB true) (.t 28))]) (.cond (.t 29) (.seq (.ops false [oP 4 (.mv (cI 0)), oP 5 (.mv (cI 1))]) .ret) .skip)) c57_4)
def c57 : C := (.seq (.ops false [oP 2 (.box 5 (.t 0)), oP 3 (.box 2 (.t 1)), oP 4 (.mv (cI 0)), oP 5 (.mv (cI 0))]) (.seq (.seq (.ops false [oP 9 (.ld 5 true (.t 2)), oB 10 (.call 91 [(.t 9)]), oP 11 (.not (.t 10))]) (.cond (.t 11) (.seq (.ops false [oP 4 (.mv (cI 0)), oP 5 (.mv (cI 9))]) .ret) .skip)) c57_5))
def r57 : List RV := [(.tmp 4), (.tmp 5)]
theorem c57_ok : ∃ code, Tryd.f57.body = some code ∧ compC Tryd.prog Tryd.f57.ntmps code = some (C.strip c57) := ⟨_, rfl, by kernel_rfl⟩
theorem r57_ok : compRes Tryd.prog Tryd.f57.results.toList = some r57 := by kernel_rfl
theorem f57_ok : fnOk Tryd.prog 57 = true := by kernel_rfl
def c58_1 : C := (.seq (.ops false [oP 10 (.mv (.t 0)), oP 11 (.mv (.t 1)), oP 12 (.bin .mul (.t 10) (.t 11)), oB 13 (.call 96 [(.t 12), (cI 1000000)]), oP 4 (.mv (.t 13)), oP 5 (.mv (cI 0))]) .ret)
def c58 : C := (.seq (.ops false [oP 4 (.mv (cI 0)), oP 5 (.mv (cI 0))]) (.seq (.seq (.ops false [oP 6 (.mv (.t 0)), oP 7 (.mv (.t 1)), oB 8 (.call 97 [(.t 6), (.t 7)]), oP 9 (.not (.t 8))]) (.cond (.t 9) (.seq (.ops false [oP 4 (.mv (cI 0)), oP 5 (.mv (cI 1))]) .ret) .skip)) c58_1))
def r58 : List RV := [(.tmp 4), (.tmp 5)]
theorem c58_ok : ∃ code, Tryd.f58.body = some code ∧ compC Tryd.prog Tryd.f58.ntmps code = some (C.strip c58) := ⟨_, rfl, by kernel_rfl⟩
theorem r58_ok : compRes Tryd.prog Tryd.f58.results.toList = some r58 := by kernel_rfl
theorem f58_ok : fnOk Tryd.prog 58 = true := by kernel_rfl
def c60_1 : C := (.seq (.ops false [oP 33 (.ld 3 true (.t 3)), oP 34 (.fa 1 (.t 4)), oP 35 (.ld 1 false (.t 34)), oB 36 (.call 99 [(.t 33), (.t 35)]), oP 32 (.mv (.t 36)), oP 37 (.ext (.t 32) 0), oP 38 (.ext (.t 32) 1), oP 8 (.mv (.t 37)), oP 9 (.mv (.t 38))]) (.seq (.ops false [oP 40 (.ld 3 true (.t 3)), oP 41 (.fa 1 (.t 5)), oP 42 (.ld 1 false (.t 41)), oB 43 (.call 99 [(.t 40), (.t 42)]), oP 39 (.mv (.t 43)),
  oP 44 (.ext (.t 39) 0), oP 45 (.ext (.t 39) 1), oP 10 (.mv (.t 44)), oP 11 (.mv (.t 45))]) (.seq (.ops false [oP 46 (.mv (.t 10)), oP 47 (.mv (.t 8)), oP 48 (.bin .sub (.t 46) (.t 47)), oP 6 (.mv (.t 48)), oP 7 (.mv (cI 0))]) .ret)))
def c60_2 : C := (.seq (.seq (.ops false [oP 27 (.fa 1 (.t 5)), oP 28 (.ld 1 false (.t 27)), oP 29 (.fa 1 (.t 4)), oP 30 (.ld 1 false (.t 29)), oP 31 (.bin .lss (.t 28) (.t 30))]) (.cond (.t 31) (.seq (.ops false [oP 6 (.mv (cI 0)), oP 7 (.mv (cI 6))]) .ret) .skip)) c60_1)
def c60 : C := (.seq (.ops false [oP 3 (.box 3 (.t 0)), oP 4 (.box 2 (.t 1)), oP 5 (.box 2 (.t 2)), oP 6 (.mv (cI 0)), oP 7 (.mv (cI 0))]) (.seq (.seq (.ops false [oP 12 (.ld 3 true (.t 3)), oB 13 (.call 63 [(.t 12)]), oP 14 (.not (.t 13)), oP 15 (.mv (.t 14)), oG 16 15 false (.ld 3 true (.t 3)), oG 17 15 false (.ld 2 true (.t 4)), oD 18 15 false (.call 98 [(.t 16), (.t 17)]) [], oG 19 15 false (.not (.t 18)),
  oP 20 (.pick (.t 15) (cB true) (.t 19)), oP 21 (.mv (.t 20)), oG 22 21 false (.ld 3 true (.t 3)), oG 23 21 false (.ld 2 true (.t 5)), oD 24 21 false (.call 98 [(.t 22), (.t 23)]) [], oG 25 21 false (.not (.t 24)), oP 26 (.pick (.t 21) (cB true) (.t 25))]) (.cond (.t 26) (.seq (.ops false [oP 6 (.mv (cI 0)), oP 7 (.mv (cI 9))]) .ret) .skip)) c60_2))
def r60 : List RV := [(.tmp 6), (.tmp 7)]
theorem c60_ok : ∃ code, Tryd.f60.body = some code ∧ compC Tryd.prog Tryd.f60.ntmps code = some (C.strip c60) := ⟨_, rfl, by kernel_rfl⟩
theorem r60_ok : compRes Tryd.prog Tryd.f60.results.toList = some r60 := by kernel_rfl
theorem f60_ok : fnOk Tryd.prog 60 = true := by kernel_rfl
def c61_1 : C := (.seq (.ops false [oP 10 (.mv (.t 0)), oP 11 (.mv (.t 1)), oP 12 (.bin .mul (.t 10) (.t 11)), oB 13 (.call 69 [(.t 12), (cI 1000000)]), oP 4 (.mv (.t 13)), oP 5 (.mv (cI 0))]) .ret)
def c61 : C := (.seq (.ops false [oP 4 (.mv (cI 0)), oP 5 (.mv (cI 0))]) (.seq (.seq (.ops false [oP 6 (.mv (.t 0)), oP 7 (.mv (.t 1)), oB 8 (.call 100 [(.t 6), (.t 7)]), oP 9 (.not (.t 8))]) (.cond (.t 9) (.seq (.ops false [oP 4 (.mv (cI 0)), oP 5 (.mv (cI 1))]) .ret) .skip)) c61_1))
def r61 : List RV := [(.tmp 4), (.tmp 5)]
theorem c61_ok : ∃ code, Tryd.f61.body = some code ∧ compC Tryd.prog Tryd.f61.ntmps code = some (C.strip c61) := ⟨_, rfl, by kernel_rfl⟩
theorem r61_ok : compRes Tryd.prog Tryd.f61.results.toList = some r61 := by kernel_rfl
theorem f61_ok : fnOk Tryd.prog 61 = true := by kernel_rfl
def c62_1 : C := (.seq (.ops false [oP 52 (.ld 2 true (.t 9)), oS (.st 2 (.t 6) (.t 52)), oP 7 (.mv (cI 0))]) .ret)
def c62_2 : C := (.seq (.ops false [oP 34 (.mv (.t 1)), oP 35 (.mv (.t 2)), oP 36 (.bin .mul (.t 34) (.t 35)), oP 37 (.fa 1 (.t 3)), oP 38 (.ld 1 false (.t 37)), oP 39 (.bin .add (.t 36) (.t 38)), oP 8 (.mv (.t 39))]) (.seq (.ops false [oP 40 (.fa 0 (.t 3)), oP 41 (.ld 1 false (.t 40)), oP 42 (.mv (.t 8)), oP 43 (.bin .quo (.t 42) (cI 1000000)), oP 44 (.bin .add (.t 41) (.t 43)), oP 45 (.mv (.t 8)),
  oP 46 (.bin .rem (.t 45) (cI 1000000)), oP 47 (.bld [(.v (.int .i64 0)), (.v (.int .i64 0))] [(0, (1, (.t 44))), (1, (1, (.t 46)))]), oP 9 (.new [(.v (.int .i64 0)), (.v (.int .i64 0))]), oS (.st 2 (.t 9) (.t 47))]) (.seq (.seq (.ops false [oP 48 (.fa 0 (.t 9)), oP 49 (.ld 1 false (.t 48)), oP 50 (.bin .gtr (.t 49) (cI 1099511627776))]) (.cond (.t 50)
  (.seq (.ops false [oP 51 (.bld [(.v (.int .i64 0)), (.v (.int .i64 0))] []), oS (.st 2 (.t 6) (.t 51)), oP 7 (.mv (cI 4))]) .ret) .skip)) c62_1)))
def c62_3 : C := (.seq (.seq (.ops false [oP 29 (.mv (.t 1)), oP 30 (.mv (.t 2)), oB 31 (.call 97 [(.t 29), (.t 30)]), oP 32 (.not (.t 31))]) (.cond (.t 32) (.seq (.ops false [oP 33 (.bld [(.v (.int .i64 0)), (.v (.int .i64 0))] []), oS (.st 2 (.t 6) (.t 33)), oP 7 (.mv (cI 1))]) .ret) .skip)) c62_2)
def c62 : C := (.seq (.ops false [oP 3 (.box 2 (.t 0)), oP 6 (.new [(.v (.int .i64 0)), (.v (.int .i64 0))]), oP 7 (.mv (cI 0))]) (.seq (.seq (.ops false [oP 10 (.fa 0 (.t 3)), oP 11 (.ld 1 false (.t 10)), oP 12 (.bin .lss (.t 11) (cI 0)), oP 13 (.mv (.t 12)), oG 14 13 false (.fa 0 (.t 3)), oG 15 13 false (.ld 1 false (.t 14)), oG 16 13 false (.bin .gtr (.t 15) (cI 1099511627776)), oP 17 (.pick (.t 13) (cB true)
  (.t 16)), oP 18 (.mv (.t 17)), oG 19 18 false (.fa 1 (.t 3)), oG 20 18 false (.ld 1 false (.t 19)), oG 21 18 false (.bin .lss (.t 20) (cI 0)), oP 22 (.pick (.t 18) (cB true) (.t 21)), oP 23 (.mv (.t 22)), oG 24 23 false (.fa 1 (.t 3)), oG 25 23 false (.ld 1 false (.t 24)), oG 26 23 false (.bin .geq (.t 25) (cI 1000000)), oP 27 (.pick (.t 23) (cB true) (.t 26))]) (.cond (.t 27)
  (.seq (.ops false [oP 28 (.bld [(.v (.int .i64 0)), (.v (.int .i64 0))] []), oS (.st 2 (.t 6) (.t 28)), oP 7 (.mv (cI 9))]) .ret) .skip)) c62_3))
def r62 : List RV := [(.cell 6 2 true), (.tmp 7)]
theorem c62_ok : ∃ code, Tryd.f62.body = some code ∧ compC Tryd.prog Tryd.f62.ntmps code = some (C.strip c62) := ⟨_, rfl, by kernel_rfl⟩
theorem r62_ok : compRes Tryd.prog Tryd.f62.results.toList = some r62 := by kernel_rfl
theorem f62_ok : fnOk Tryd.prog 62 = true := by kernel_rfl
def c63 : C := (.seq (.ops false [oP 1 (.box 3 (.t 0)), oP 2 (.mv (cB false))]) (.seq (.ops false [oP 3 (.fa 0 (.t 1)), oP 4 (.ld 1 false (.t 3)), oP 5 (.bin .geq (.t 4) (cI 1)), oP 6 (.mv (.t 5)), oG 7 6 true (.fa 0 (.t 1)), oG 8 6 true (.ld 1 false (.t 7)), oG 9 6 true (.bin .leq (.t 8) (cI 1048576)), oP 10 (.pick (.t 6) (.t 9) (cB false)), oP 11 (.mv (.t 10)), oG 12 11 true (.fa 1 (.t 1)),
  oG 13 11 true (.ld 1 false (.t 12)), oG 14 11 true (.bin .eql (.t 13) (cI 16)), oG 15 11 true (.mv (.t 14)), oG 16 15 false (.fa 1 (.t 1)), oG 17 15 false (.ld 1 false (.t 16)), oG 18 15 false (.bin .eql (.t 17) (cI 32)), oG 19 11 true (.pick (.t 15) (cB true) (.t 18)), oP 20 (.pick (.t 11) (.t 19) (cB false)), oP 21 (.mv (.t 20)), oG 22 21 true (.fa 2 (.t 1)), oG 23 21 true (.ld 1 false (.t 22)),
  oG 24 21 true (.bin .geq (.t 23) (cI 50000)), oP 25 (.pick (.t 21) (.t 24) (cB false)), oP 26 (.mv (.t 25)), oG 27 26 true (.fa 2 (.t 1)), oG 28 26 true (.ld 1 false (.t 27)), oG 29 26 true (.bin .leq (.t 28) (cI 200000)), oP 30 (.pick (.t 26) (.t 29) (cB false)), oP 2 (.mv (.t 30))]) .ret))
def r63 : List RV := [(.tmp 2)]
theorem c63_ok : ∃ code, Tryd.f63.body = some code ∧ compC Tryd.prog Tryd.f63.ntmps code = some (C.strip c63) := ⟨_, rfl, by kernel_rfl⟩
theorem r63_ok : compRes Tryd.prog Tryd.f63.results.toList = some r63 := by kernel_rfl
theorem f63_ok : fnOk Tryd.prog 63 = true := by kernel_rfl
def c64 : C := (.seq (.ops false [oP 1 (.box 5 (.t 0)), oP 2 (.mv (cB false))]) (.seq (.ops false [oP 3 (.fa 0 (.t 1)), oP 4 (.ld 1 false (.t 3)), oB 5 (.call 101 [(.t 4)]), oP 6 (.mv (.t 5)), oG 7 6 true (.fa 1 (.t 1)), oG 8 6 true (.ld 1 false (.t 7)), oG 9 6 true (.bin .geq (.t 8) (cI 400)), oP 10 (.pick (.t 6) (.t 9) (cB false)), oP 11 (.mv (.t 10)), oG 12 11 true (.fa 1 (.t 1)),
  oG 13 11 true (.ld 1 false (.t 12)), oG 14 11 true (.bin .leq (.t 13) (cI 1200)), oP 15 (.pick (.t 11) (.t 14) (cB false)), oP 16 (.mv (.t 15)), oG 17 16 true (.fa 2 (.t 1)), oG 18 16 true (.ld 1 false (.t 17)), oG 19 16 true (.bin .geq (.t 18) (cI 0)), oP 20 (.pick (.t 16) (.t 19) (cB false)), oP 21 (.mv (.t 20)), oG 22 21 true (.fa 2 (.t 1)), oG 23 21 true (.ld 1 false (.t 22)),
  oG 24 21 true (.bin .leq (.t 23) (cI 2000)), oP 25 (.pick (.t 21) (.t 24) (cB false)), oP 26 (.mv (.t 25)), oG 27 26 true (.fa 3 (.t 1)), oG 28 26 true (.ld 1 false (.t 27)), oG 29 26 true (.bin .geq (.t 28) (cI 0)), oP 30 (.pick (.t 26) (.t 29) (cB false)), oP 31 (.mv (.t 30)), oG 32 31 true (.fa 3 (.t 1)), oG 33 31 true (.ld 1 false (.t 32)), oG 34 31 true (.bin .leq (.t 33) (cI 5000)),
  oP 35 (.pick (.t 31) (.t 34) (cB false)), oP 36 (.mv (.t 35)), oG 37 36 true (.fa 4 (.t 1)), oG 38 36 true (.ld 1 false (.t 37)), oG 39 36 true (.bin .geq (.t 38) (cI 1)), oP 40 (.pick (.t 36) (.t 39) (cB false)), oP 41 (.mv (.t 40)), oG 42 41 true (.fa 4 (.t 1)), oG 43 41 true (.ld 1 false (.t 42)), oG 44 41 true (.bin .leq (.t 43) (cI 2000)), oP 45 (.pick (.t 41) (.t 44) (cB false)),
  oP 2 (.mv (.t 45))]) .ret))
def r64 : List RV := [(.tmp 2)]
theorem c64_ok : ∃ code, Tryd.f64.body = some code ∧ compC Tryd.prog Tryd.f64.ntmps code = some (C.strip c64) := ⟨_, rfl, by kernel_rfl⟩
theorem r64_ok : compRes Tryd.prog Tryd.f64.results.toList = some r64 := by kernel_rfl
theorem f64_ok : fnOk Tryd.prog 64 = true := by kernel_rfl
def c65_1 : C := (.seq (.ops false [oP 52 (.ld 2 true (.t 9)), oS (.st 2 (.t 6) (.t 52)), oP 7 (.mv (cI 0))]) .ret)
def c65_2 : C := (.seq (.ops false [oP 34 (.mv (.t 1)), oP 35 (.mv (.t 2)), oP 36 (.bin .mul (.t 34) (.t 35)), oP 37 (.fa 1 (.t 3)), oP 38 (.ld 1 false (.t 37)), oP 39 (.bin .add (.t 36) (.t 38)), oP 8 (.mv (.t 39))]) (.seq (.ops false [oP 40 (.fa 0 (.t 3)), oP 41 (.ld 1 false (.t 40)), oP 42 (.mv (.t 8)), oP 43 (.bin .quo (.t 42) (cI 1000000)), oP 44 (.bin .add (.t 41) (.t 43)), oP 45 (.mv (.t 8)),
  oP 46 (.bin .rem (.t 45) (cI 1000000)), oP 47 (.bld [(.v (.int .i64 0)), (.v (.int .i64 0))] [(0, (1, (.t 44))), (1, (1, (.t 46)))]), oP 9 (.new [(.v (.int .i64 0)), (.v (.int .i64 0))]), oS (.st 2 (.t 9) (.t 47))]) (.seq (.seq (.ops false [oP 48 (.fa 0 (.t 9)), oP 49 (.ld 1 false (.t 48)), oP 50 (.bin .gtr (.t 49) (cI 1099511627776))]) (.cond (.t 50)
  (.seq (.ops false [oP 51 (.bld [(.v (.int .i64 0)), (.v (.int .i64 0))] []), oS (.st 2 (.t 6) (.t 51)), oP 7 (.mv (cI 4))]) .ret) .skip)) c65_1)))
def c65_3 : C := (.seq (.seq (.ops false [oP 29 (.mv (.t 1)), oP 30 (.mv (.t 2)), oB 31 (.call 100 [(.t 29), (.t 30)]), oP 32 (.not (.t 31))]) (.cond (.t 32) (.seq (.ops false [oP 33 (.bld [(.v (.int .i64 0)), (.v (.int .i64 0))] []), oS (.st 2 (.t 6) (.t 33)), oP 7 (.mv (cI 1))]) .ret) .skip)) c65_2)
def c65 : C := (.seq (.ops false [oP 3 (.box 2 (.t 0)), oP 6 (.new [(.v (.int .i64 0)), (.v (.int .i64 0))]), oP 7 (.mv (cI 0))]) (.seq (.seq (.ops false [oP 10 (.fa 0 (.t 3)), oP 11 (.ld 1 false (.t 10)), oP 12 (.bin .lss (.t 11) (cI 0)), oP 13 (.mv (.t 12)), oG 14 13 false (.fa 0 (.t 3)), oG 15 13 false (.ld 1 false (.t 14)), oG 16 13 false (.bin .gtr (.t 15) (cI 1099511627776)), oP 17 (.pick (.t 13) (cB true)
  (.t 16)), oP 18 (.mv (.t 17)), oG 19 18 false (.fa 1 (.t 3)), oG 20 18 false (.ld 1 false (.t 19)), oG 21 18 false (.bin .lss (.t 20) (cI 0)), oP 22 (.pick (.t 18) (cB true) (.t 21)), oP 23 (.mv (.t 22)), oG 24 23 false (.fa 1 (.t 3)), oG 25 23 false (.ld 1 false (.t 24)), oG 26 23 false (.bin .gtr (.t 25) (cI 999999)), oP 27 (.pick (.t 23) (cB true) (.t 26))]) (.cond (.t 27)
  (.seq (.ops false [oP 28 (.bld [(.v (.int .i64 0)), (.v (.int .i64 0))] []), oS (.st 2 (.t 6) (.t 28)), oP 7 (.mv (cI 9))]) .ret) .skip)) c65_3))
def r65 : List RV := [(.cell 6 2 true), (.tmp 7)]
theorem c65_ok : ∃ code, Tryd.f65.body = some code ∧ compC Tryd.prog Tryd.f65.ntmps code = some (C.strip c65) := ⟨_, rfl, by kernel_rfl⟩
theorem r65_ok : compRes Tryd.prog Tryd.f65.results.toList = some r65 := by kernel_rfl
theorem f65_ok : fnOk Tryd.prog 65 = true := by kernel_rfl
def c69_1 : C := (.seq (.ops false [oP 23 (.mv (.t 5)), oP 4 (.mv (.t 23))]) .ret)
def c69_2 : C := (.seq (.ops false [oP 10 (.mv (.t 0)), oP 11 (.mv (.t 1)), oB 12 (.call 106 [(.t 10), (.t 11)]), oP 5 (.mv (.t 12))]) (.seq (.seq (.ops false [oP 13 (.mv (.t 0)), oP 14 (.mv (.t 5)), oP 15 (.mv (.t 1)), oP 16 (.bin .mul (.t 14) (.t 15)), oP 17 (.bin .sub (.t 13) (.t 16)), oP 18 (.bin .mul (cI 2) (.t 17)), oP 19 (.mv (.t 1)), oP 20 (.bin .geq (.t 18) (.t 19))]) (.cond (.t 20)
  (.ops false [oP 21 (.mv (.t 5)), oP 22 (.bin .add (.t 21) (cI 1)), oP 5 (.mv (.t 22))]) .skip)) c69_1))
def c69 : C := (.seq (.ops false [oP 4 (.mv (cI 0))]) (.seq (.seq (.ops false [oP 6 (.mv (.t 0)), oP 7 (.mv (.t 1)), oB 8 (.call 105 [(.t 6), (.t 7)]), oP 9 (.not (.t 8))]) (.cond (.t 9) (.seq (.ops false [oP 4 (.mv (cI 0))]) .ret) .skip)) c69_2))
def r69 : List RV := [(.tmp 4)]
theorem c69_ok : ∃ code, Tryd.f69.body = some code ∧ compC Tryd.prog Tryd.f69.ntmps code = some (C.strip c69) := ⟨_, rfl, by kernel_rfl⟩
theorem r69_ok : compRes Tryd.prog Tryd.f69.results.toList = some r69 := by kernel_rfl
theorem f69_ok : fnOk Tryd.prog 69 = true := by kernel_rfl
def c90 : C := (.seq (.ops false [oP 1 (.box 3 (.t 0)), oP 2 (.mv (cB false))]) (.seq (.ops false [oP 3 (.fa 0 (.t 1)), oP 4 (.ld 1 false (.t 3)), oP 5 (.bin .geq (.t 4) (cI 1)), oP 6 (.mv (.t 5)), oG 7 6 true (.fa 0 (.t 1)), oG 8 6 true (.ld 1 false (.t 7)), oG 9 6 true (.bin .leq (.t 8) (cI 1048576)), oP 10 (.pick (.t 6) (.t 9) (cB false)), oP 11 (.mv (.t 10)), oG 12 11 true (.fa 1 (.t 1)),
  oG 13 11 true (.ld 1 false (.t 12)), oG 14 11 true (.bin .eql (.t 13) (cI 16)), oG 15 11 true (.mv (.t 14)), oG 16 15 false (.fa 1 (.t 1)), oG 17 15 false (.ld 1 false (.t 16)), oG 18 15 false (.bin .eql (.t 17) (cI 32)), oG 19 11 true (.pick (.t 15) (cB true) (.t 18)), oP 20 (.pick (.t 11) (.t 19) (cB false)), oP 21 (.mv (.t 20)), oG 22 21 true (.fa 2 (.t 1)), oG 23 21 true (.ld 1 false (.t 22)),
  oG 24 21 true (.bin .geq (.t 23) (cI 50000)), oP 25 (.pick (.t 21) (.t 24) (cB false)), oP 26 (.mv (.t 25)), oG 27 26 true (.fa 2 (.t 1)), oG 28 26 true (.ld 1 false (.t 27)), oG 29 26 true (.bin .leq (.t 28) (cI 200000)), oP 30 (.pick (.t 26) (.t 29) (cB false)), oP 2 (.mv (.t 30))]) .ret))
def r90 : List RV := [(.tmp 2)]
theorem c90_ok : ∃ code, Tryd.f90.body = some code ∧ compC Tryd.prog Tryd.f90.ntmps code = some (C.strip c90) := ⟨_, rfl, by kernel_rfl⟩
theorem r90_ok : compRes Tryd.prog Tryd.f90.results.toList = some r90 := by kernel_rfl
theorem f90_ok : fnOk Tryd.prog 90 = true := by kernel_rfl
def c91_1 : C := (.ops false [oP 27 (.bin .add (.t 9) (cI 1)), oP 9 (.mv (.t 27))])
def c91_2 : C := (.seq (.block 1 (.seq (.ops false [oP 11 (.mv (.t 9)), oP 12 (.ixA 4 2 true (.t 8) (.t 9)), oP 5 (.new [(.v (.int .i64 0)), (.v (.int .i64 0))]), oP 4 (.mv (.t 11)), oS (.st 2 (.t 5) (.t 12))]) (.seq (.ops true [oP 13 (.mv (.t 4)), oA 14 (.iaA 4 1 (.t 3) (.t 13)) [0], oA 15 (.ld 1 false (.t 14)) [0, 1], oP 16 (.fa 0 (.t 5)), oA 17 (.ld 1 false (.t 16)) [3], oA 18 (.bin .lss (.t 15) (.t 17)) [3, 1,
  0, 4, 2], oA 19 (.mv (.t 18)) [2, 4, 0, 1, 3, 5], oH 20 19 false (.mv (.t 4)) [5, 3, 1, 0, 4, 2, 6], oH 21 19 false (.iaA 4 1 (.t 3) (.t 20)) [2, 4, 0, 1, 3, 5, 6, 7], oH 22 19 false (.ld 1 false (.t 21)) [7, 5, 3, 1, 0, 4, 2, 6, 8], oH 23 19 false (.fa 1 (.t 5)) [5, 3, 1, 0, 4, 2, 6], oH 24 19 false (.ld 1 false (.t 23)) [2, 4, 0, 1, 3, 5, 6, 10], oH 25 19 false (.bin .gtr (.t 22) (.t 24)) [10,
  8, 2, 4, 0, 1, 3, 5, 7, 6, 11, 9], oA 26 (.pick (.t 19) (cB true) (.t 25)) [9, 11, 7, 8, 10, 5, 3, 1, 0, 4, 2, 12, 6]]) (.cond (.t 26) (.seq (.ops false [oP 2 (.mv (cB false))]) .ret) .skip)))) c91_1)
def c91_3 : C := (.seq (.ops false [oP 10 (.bin .lss (.t 9) (cI 4))]) (.seq (.cond (.t 10) .skip (.exit 0)) c91_2))
def c91_4 : C := (.seq (.ops false [oP 28 (.fa 0 (.t 1)), oP 29 (.ld 1 false (.t 28)), oB 30 (.call 113 [(.t 29)]), oP 2 (.mv (.t 30))]) .ret)
def c91 : C := (.seq (.ops false [oP 1 (.box 5 (.t 0)), oP 2 (.mv (cB false))]) (.seq (.ops false [oP 6 (.ld 5 true (.t 1)), oB 7 (.call 127 [(.t 6)]), oP 3 (.new [(.v (.int .i64 0)), (.v (.int .i64 0)), (.v (.int .i64 0)), (.v (.int .i64 0))]), oS (.st 4 (.t 3) (.t 7))]) (.seq (.seq (.ops false [oP 8 (.ld 8 true (.c (.ip [(.v (.int .i64 400)), (.v (.int .i64 1200)), (.v (.int .i64 0)), (.v (.int .i64 2000)),
  (.v (.int .i64 0)), (.v (.int .i64 5000)), (.v (.int .i64 1)), (.v (.int .i64 2000))]))), oP 9 (.mv (cI 0))]) (.block 0 (.loop c91_3))) c91_4)))
def r91 : List RV := [(.tmp 2)]
theorem c91_ok : ∃ code, Tryd.f91.body = some code ∧ compC Tryd.prog Tryd.f91.ntmps code = some (C.strip c91) := ⟨_, rfl, by kernel_rfl⟩
theorem r91_ok : compRes Tryd.prog Tryd.f91.results.toList = some r91 := by kernel_rfl
theorem f91_ok : fnOk Tryd.prog 91 = true := by kernel_rfl
def c92 : C := (.seq (.ops false [oP 2 (.box 3 (.t 0)), oP 3 (.box 2 (.t 1)), oP 4 (.mv (cB false))]) (.seq (.ops false [oP 5 (.ld 3 true (.t 2)), oP 6 (.fa 0 (.t 3)), oP 7 (.ld 1 false (.t 6)), oB 8 (.call 128 [(.t 5), (.t 7)]), oP 9 (.mv (.t 8)), oG 10 9 true (.fa 1 (.t 3)), oG 11 9 true (.ld 1 false (.t 10)), oG 12 9 true (.bin .geq (.t 11) (cI 0)), oP 13 (.pick (.t 9) (.t 12) (cB false)),
  oP 14 (.mv (.t 13)), oG 15 14 true (.fa 1 (.t 3)), oG 16 14 true (.ld 1 false (.t 15)), oG 17 14 true (.bin .leq (.t 16) (cI 1099511627776)), oP 18 (.pick (.t 14) (.t 17) (cB false)), oP 4 (.mv (.t 18))]) .ret))
def r92 : List RV := [(.tmp 4)]
theorem c92_ok : ∃ code, Tryd.f92.body = some code ∧ compC Tryd.prog Tryd.f92.ntmps code = some (C.strip c92) := ⟨_, rfl, by kernel_rfl⟩
theorem r92_ok : compRes Tryd.prog Tryd.f92.results.toList = some r92 := by kernel_rfl
theorem f92_ok : fnOk Tryd.prog 92 = true := by kernel_rfl
def c93 : C := (.seq (.ops false [oP 2 (.box 3 (.t 0)), oP 4 (.mv (cI 0))]) (.seq (.ops false [oP 5 (.mv (.t 1)), oP 6 (.fa 2 (.t 2)), oP 7 (.ld 1 false (.t 6)), oP 8 (.bin .mul (.t 5) (.t 7)), oP 9 (.fa 0 (.t 2)), oP 10 (.ld 1 false (.t 9)), oP 11 (.bin .mul (cI 100) (.t 10)), oB 12 (.call 129 [(.t 8), (.t 11)]), oP 4 (.mv (.t 12))]) .ret))
def r93 : List RV := [(.tmp 4)]
theorem c93_ok : ∃ code, Tryd.f93.body = some code ∧ compC Tryd.prog Tryd.f93.ntmps code = some (C.strip c93) := ⟨_, rfl, by kernel_rfl⟩
theorem r93_ok : compRes Tryd.prog Tryd.f93.results.toList = some r93 := by kernel_rfl
theorem f93_ok : fnOk Tryd.prog 93 = true := by kernel_rfl
def c94 : C := (.seq (.ops false [oP 2 (.box 5 (.t 0)), oP 3 (.box 2 (.t 1)), oP 4 (.mv (cI 0))]) (.seq (.ops false [oP 5 (.fa 2 (.t 2)), oP 6 (.ld 1 false (.t 5)), oP 7 (.fa 0 (.t 3)), oP 8 (.ld 1 false (.t 7)), oP 9 (.bin .sub (.t 8) (cI 150)), oP 10 (.bin .mul (.t 6) (.t 9)), oB 11 (.call 96 [(.t 10), (cI 10)]), oP 12 (.bin .sub (cI 1000000) (.t 11)), oP 4 (.mv (.t 12))]) .ret))
def r94 : List RV := [(.tmp 4)]
theorem c94_ok : ∃ code, Tryd.f94.body = some code ∧ compC Tryd.prog Tryd.f94.ntmps code = some (C.strip c94) := ⟨_, rfl, by kernel_rfl⟩
theorem r94_ok : compRes Tryd.prog Tryd.f94.results.toList = some r94 := by kernel_rfl
theorem f94_ok : fnOk Tryd.prog 94 = true := by kernel_rfl
def c95 : C := (.seq (.ops false [oP 2 (.box 5 (.t 0)), oP 3 (.box 2 (.t 1)), oP 4 (.mv (cI 0))]) (.seq (.ops false [oP 5 (.fa 3 (.t 2)), oP 6 (.ld 1 false (.t 5)), oP 7 (.fa 1 (.t 3)), oP 8 (.ld 1 false (.t 7)), oP 9 (.bin .mul (.t 6) (.t 8)), oB 10 (.call 96 [(.t 9), (cI 1000)]), oP 11 (.bin .add (cI 1000000) (.t 10)), oP 4 (.mv (.t 11))]) .ret))
def r95 : List RV := [(.tmp 4)]
theorem c95_ok : ∃ code, Tryd.f95.body = some code ∧ compC Tryd.prog Tryd.f95.ntmps code = some (C.strip c95) := ⟨_, rfl, by kernel_rfl⟩
theorem r95_ok : compRes Tryd.prog Tryd.f95.results.toList = some r95 := by kernel_rfl
theorem f95_ok : fnOk Tryd.prog 95 = true := by kernel_rfl
def c96_1 : C := (.seq (.ops false [oP 24 (.mv (.t 5)), oP 4 (.mv (.t 24))]) .ret)
def c96 : C := (.seq (.ops false [oP 4 (.mv (cI 0))]) (.seq (.ops false [oP 9 (.mv (.t 0)), oP 10 (.mv (.t 1)), oB 11 (.call 130 [(.t 9), (.t 10)]), oP 8 (.mv (.t 11)), oP 12 (.ext (.t 8) 0), oP 13 (.ext (.t 8) 1), oP 14 (.ext (.t 8) 2), oP 5 (.mv (.t 12)), oP 6 (.mv (.t 13)), oP 7 (.mv (.t 14))]) (.seq (.seq (.ops false [oP 15 (.mv (.t 7)), oP 16 (.mv (.t 15)), oG 17 16 true (.mv (.t 6)),
  oG 18 16 true (.bin .mul (cI 2) (.t 17)), oG 19 16 true (.mv (.t 1)), oG 20 16 true (.bin .geq (.t 18) (.t 19)), oP 21 (.pick (.t 16) (.t 20) (cB false))]) (.cond (.t 21) (.ops false [oP 22 (.mv (.t 5)), oP 23 (.bin .add (.t 22) (cI 1)), oP 5 (.mv (.t 23))]) .skip)) c96_1)))
def r96 : List RV := [(.tmp 4)]
theorem c96_ok : ∃ code, Tryd.f96.body = some code ∧ compC Tryd.prog Tryd.f96.ntmps code = some (C.strip c96) := ⟨_, rfl, by kernel_rfl⟩
theorem r96_ok : compRes Tryd.prog Tryd.f96.results.toList = some r96 := by kernel_rfl
theorem f96_ok : fnOk Tryd.prog 96 = true := by kernel_rfl
def c97 : C := (.seq (.ops false [oP 4 (.mv (cB false))]) (.seq (.ops false [oP 5 (.mv (.t 0)), oP 6 (.bin .geq (.t 5) (cI 0)), oP 7 (.mv (.t 6)), oG 8 7 true (.mv (.t 0)), oG 9 7 true (.bin .leq (.t 8) (cI 1099511627776)), oP 10 (.pick (.t 7) (.t 9) (cB false)), oP 11 (.mv (.t 10)), oG 12 11 true (.mv (.t 1)), oG 13 11 true (.bin .geq (.t 12) (cI 1)), oP 14 (.pick (.t 11) (.t 13) (cB false)),
  oP 15 (.mv (.t 14)), oG 16 15 true (.mv (.t 1)), oG 17 15 true (.bin .leq (.t 16) (cI 2000000)), oP 18 (.pick (.t 15) (.t 17) (cB false)), oP 4 (.mv (.t 18))]) .ret))
def r97 : List RV := [(.tmp 4)]
theorem c97_ok : ∃ code, Tryd.f97.body = some code ∧ compC Tryd.prog Tryd.f97.ntmps code = some (C.strip c97) := ⟨_, rfl, by kernel_rfl⟩
theorem r97_ok : compRes Tryd.prog Tryd.f97.results.toList = some r97 := by kernel_rfl
theorem f97_ok : fnOk Tryd.prog 97 = true := by kernel_rfl
def c98 : C := (.seq (.ops false [oP 2 (.box 3 (.t 0)), oP 3 (.box 2 (.t 1)), oP 4 (.mv (cB false))]) (.seq (.ops false [oP 5 (.ld 3 true (.t 2)), oP 6 (.fa 0 (.t 3)), oP 7 (.ld 1 false (.t 6)), oB 8 (.call 131 [(.t 5), (.t 7)]), oP 9 (.mv (.t 8)), oG 10 9 true (.fa 1 (.t 3)), oG 11 9 true (.ld 1 false (.t 10)), oG 12 9 true (.bin .geq (.t 11) (cI 0)), oP 13 (.pick (.t 9) (.t 12) (cB false)),
  oP 14 (.mv (.t 13)), oG 15 14 true (.fa 1 (.t 3)), oG 16 14 true (.ld 1 false (.t 15)), oG 17 14 true (.bin .leq (.t 16) (cI 1099511627776)), oP 18 (.pick (.t 14) (.t 17) (cB false)), oP 4 (.mv (.t 18))]) .ret))
def r98 : List RV := [(.tmp 4)]
theorem c98_ok : ∃ code, Tryd.f98.body = some code ∧ compC Tryd.prog Tryd.f98.ntmps code = some (C.strip c98) := ⟨_, rfl, by kernel_rfl⟩
theorem r98_ok : compRes Tryd.prog Tryd.f98.results.toList = some r98 := by kernel_rfl
theorem f98_ok : fnOk Tryd.prog 98 = true := by kernel_rfl
def c99_1 : C := (.seq (.ops false [oP 15 (.mv (.t 1)), oP 16 (.fa 2 (.t 2)), oP 17 (.ld 1 false (.t 16)), oP 18 (.bin .mul (.t 15) (.t 17)), oP 19 (.fa 0 (.t 2)), oP 20 (.ld 1 false (.t 19)), oP 21 (.bin .mul (cI 100) (.t 20)), oP 22 (.bin .quo (.t 18) (.t 21)), oP 4 (.mv (.t 22)), oP 5 (.mv (cI 0))]) .ret)
def c99_2 : C := (.seq (.seq (.ops false [oP 9 (.mv (.t 1)), oP 10 (.bin .lss (.t 9) (cI 0)), oP 11 (.mv (.t 10)), oG 12 11 false (.mv (.t 1)), oG 13 11 false (.bin .gtr (.t 12) (cI 1099511627776)), oP 14 (.pick (.t 11) (cB true) (.t 13))]) (.cond (.t 14) (.seq (.ops false [oP 4 (.mv (cI 0)), oP 5 (.mv (cI 1))]) .ret) .skip)) c99_1)
def c99 : C := (.seq (.ops false [oP 2 (.box 3 (.t 0)), oP 4 (.mv (cI 0)), oP 5 (.mv (cI 0))]) (.seq (.seq (.ops false [oP 6 (.ld 3 true (.t 2)), oB 7 (.call 63 [(.t 6)]), oP 8 (.not (.t 7))]) (.cond (.t 8) (.seq (.ops false [oP 4 (.mv (cI 0)), oP 5 (.mv (cI 9))]) .ret) .skip)) c99_2))
def r99 : List RV := [(.tmp 4), (.tmp 5)]
theorem c99_ok : ∃ code, Tryd.f99.body = some code ∧ compC Tryd.prog Tryd.f99.ntmps code = some (C.strip c99) := ⟨_, rfl, by kernel_rfl⟩
theorem r99_ok : compRes Tryd.prog Tryd.f99.results.toList = some r99 := by kernel_rfl
theorem f99_ok : fnOk Tryd.prog 99 = true := by kernel_rfl
def c100 : C := (.seq (.ops false [oP 4 (.mv (cB false))]) (.seq (.ops false [oP 5 (.mv (.t 0)), oP 6 (.bin .geq (.t 5) (cI 0)), oP 7 (.mv (.t 6)), oG 8 7 true (.mv (.t 0)), oG 9 7 true (.bin .leq (.t 8) (cI 1099511627776)), oP 10 (.pick (.t 7) (.t 9) (cB false)), oP 11 (.mv (.t 10)), oG 12 11 true (.mv (.t 1)), oG 13 11 true (.bin .geq (.t 12) (cI 1)), oP 14 (.pick (.t 11) (.t 13) (cB false)),
  oP 15 (.mv (.t 14)), oG 16 15 true (.mv (.t 1)), oG 17 15 true (.bin .leq (.t 16) (cI 2000000)), oP 18 (.pick (.t 15) (.t 17) (cB false)), oP 4 (.mv (.t 18))]) .ret))
def r100 : List RV := [(.tmp 4)]
theorem c100_ok : ∃ code, Tryd.f100.body = some code ∧ compC Tryd.prog Tryd.f100.ntmps code = some (C.strip c100) := ⟨_, rfl, by kernel_rfl⟩
theorem r100_ok : compRes Tryd.prog Tryd.f100.results.toList = some r100 := by kernel_rfl
theorem f100_ok : fnOk Tryd.prog 100 = true := by kernel_rfl
def c105 : C := (.seq (.ops false [oP 4 (.mv (cB false))]) (.seq (.ops false [oP 5 (.mv (.t 1)), oP 6 (.bin .geq (.t 5) (cI 1)), oP 7 (.mv (.t 6)), oG 8 7 true (.mv (.t 1)), oG 9 7 true (.bin .leq (.t 8) (cI 1099511627776)), oP 10 (.pick (.t 7) (.t 9) (cB false)), oP 11 (.mv (.t 10)), oG 12 11 true (.mv (.t 0)), oG 13 11 true (.bin .geq (.t 12) (cI (-2305843009213693952))), oP 14 (.pick (.t 11) (.t 13)
  (cB false)), oP 15 (.mv (.t 14)), oG 16 15 true (.mv (.t 0)), oG 17 15 true (.bin .leq (.t 16) (cI 2305843009213693952)), oP 18 (.pick (.t 15) (.t 17) (cB false)), oP 4 (.mv (.t 18))]) .ret))
def r105 : List RV := [(.tmp 4)]
theorem c105_ok : ∃ code, Tryd.f105.body = some code ∧ compC Tryd.prog Tryd.f105.ntmps code = some (C.strip c105) := ⟨_, rfl, by kernel_rfl⟩
theorem r105_ok : compRes Tryd.prog Tryd.f105.results.toList = some r105 := by kernel_rfl
theorem f105_ok : fnOk Tryd.prog 105 = true := by kernel_rfl
def c106_1 : C := (.seq (.ops false [oP 19 (.mv (.t 5)), oP 4 (.mv (.t 19))]) .ret)
def c106_2 : C := (.seq (.ops false [oP 10 (.mv (.t 0)), oP 11 (.mv (.t 1)), oP 12 (.bin .quo (.t 10) (.t 11)), oP 5 (.mv (.t 12))]) (.seq (.seq (.ops false [oP 13 (.mv (.t 0)), oP 14 (.mv (.t 1)), oP 15 (.bin .rem (.t 13) (.t 14)), oP 16 (.bin .lss (.t 15) (cI 0))]) (.cond (.t 16) (.ops false [oP 17 (.mv (.t 5)), oP 18 (.bin .sub (.t 17) (cI 1)), oP 5 (.mv (.t 18))]) .skip)) c106_1))
def c106 : C := (.seq (.ops false [oP 4 (.mv (cI 0))]) (.seq (.seq (.ops false [oP 6 (.mv (.t 0)), oP 7 (.mv (.t 1)), oB 8 (.call 105 [(.t 6), (.t 7)]), oP 9 (.not (.t 8))]) (.cond (.t 9) (.seq (.ops false [oP 4 (.mv (cI 0))]) .ret) .skip)) c106_2))
def r106 : List RV := [(.tmp 4)]
theorem c106_ok : ∃ code, Tryd.f106.body = some code ∧ compC Tryd.prog Tryd.f106.ntmps code = some (C.strip c106) := ⟨_, rfl, by kernel_rfl⟩
theorem r106_ok : compRes Tryd.prog Tryd.f106.results.toList = some r106 := by kernel_rfl
theorem f106_ok : fnOk Tryd.prog 106 = true := by kernel_rfl
def c127 : C := (.seq (.ops false [oP 1 (.box 5 (.t 0)), oP 2 (.new [(.v (.int .i64 0)), (.v (.int .i64 0)), (.v (.int .i64 0)), (.v (.int .i64 0))])]) (.seq (.ops false [oP 3 (.fa 1 (.t 1)), oP 4 (.ld 1 false (.t 3)), oP 5 (.fa 2 (.t 1)), oP 6 (.ld 1 false (.t 5)), oP 7 (.fa 3 (.t 1)), oP 8 (.ld 1 false (.t 7)), oP 9 (.fa 4 (.t 1)), oP 10 (.ld 1 false (.t 9)), oP 11 (.bld [(.v (.int .i64 0)), (.v (.int .i64 0)),
  (.v (.int .i64 0)), (.v (.int .i64 0))] [(0, (1, (.t 4))), (1, (1, (.t 6))), (2, (1, (.t 8))), (3, (1, (.t 10)))]), oS (.st 4 (.t 2) (.t 11))]) .ret))
def r127 : List RV := [(.cell 2 4 true)]
theorem c127_ok : ∃ code, Tryd.f127.body = some code ∧ compC Tryd.prog Tryd.f127.ntmps code = some (C.strip c127) := ⟨_, rfl, by kernel_rfl⟩
theorem r127_ok : compRes Tryd.prog Tryd.f127.results.toList = some r127 := by kernel_rfl
theorem f127_ok : fnOk Tryd.prog 127 = true := by kernel_rfl
def c128 : C := (.seq (.ops false [oP 2 (.box 3 (.t 0)), oP 4 (.mv (cB false))]) (.seq (.ops false [oP 5 (.mv (.t 1)), oP 6 (.bin .geq (.t 5) (cI 0)), oP 7 (.mv (.t 6)), oG 8 7 true (.mv (.t 1)), oG 9 7 true (.fa 1 (.t 2)), oG 10 7 true (.ld 1 false (.t 9)), oD 11 7 true (.call 150 [(.t 10)]) [], oG 12 7 true (.bin .lss (.t 8) (.t 11)), oP 13 (.pick (.t 7) (.t 12) (cB false)), oP 4 (.mv (.t 13))]) .ret))
def r128 : List RV := [(.tmp 4)]
theorem c128_ok : ∃ code, Tryd.f128.body = some code ∧ compC Tryd.prog Tryd.f128.ntmps code = some (C.strip c128) := ⟨_, rfl, by kernel_rfl⟩
theorem r128_ok : compRes Tryd.prog Tryd.f128.results.toList = some r128 := by kernel_rfl
theorem f128_ok : fnOk Tryd.prog 128 = true := by kernel_rfl
def c129 : C := (.seq (.ops false [oP 4 (.mv (cI 0))]) (.seq (.ops false [oP 9 (.mv (.t 0)), oP 10 (.mv (.t 1)), oB 11 (.call 130 [(.t 9), (.t 10)]), oP 8 (.mv (.t 11)), oP 12 (.ext (.t 8) 0), oP 13 (.ext (.t 8) 1), oP 14 (.ext (.t 8) 2), oP 5 (.mv (.t 12)), oP 6 (.mv (.t 13)), oP 7 (.mv (.t 14))]) (.seq (.ops false [oP 15 (.mv (.t 5)), oP 4 (.mv (.t 15))]) .ret)))
def r129 : List RV := [(.tmp 4)]
theorem c129_ok : ∃ code, Tryd.f129.body = some code ∧ compC Tryd.prog Tryd.f129.ntmps code = some (C.strip c129) := ⟨_, rfl, by kernel_rfl⟩
theorem r129_ok : compRes Tryd.prog Tryd.f129.results.toList = some r129 := by kernel_rfl
theorem f129_ok : fnOk Tryd.prog 129 = true := by kernel_rfl
def c130_1 : C := (.seq (.ops false [oP 36 (.mv (.t 7)), oP 37 (.mv (.t 8)), oP 4 (.mv (.t 36)), oP 5 (.mv (.t 37)), oP 6 (.mv (cB true))]) .ret)
def c130_2 : C := (.seq (.ops true [oP 23 (.mv (.t 0)), oP 24 (.mv (.t 1)), oA 25 (.bin .quo (.t 23) (.t 24)) [1, 0], oP 26 (.mv (.t 0)), oP 27 (.mv (.t 1)), oA 28 (.bin .rem (.t 26) (.t 27)) [4, 3], oA 7 (.mv (.t 25)) [1, 0, 2], oA 8 (.mv (.t 28)) [4, 3, 2, 1, 0, 6, 5]]) (.seq (.seq (.ops false [oP 29 (.mv (.t 8)), oP 30 (.bin .lss (.t 29) (cI 0))]) (.cond (.t 30) (.ops false [oP 31 (.mv (.t 7)),
  oP 32 (.bin .sub (.t 31) (cI 1)), oP 33 (.mv (.t 8)), oP 34 (.mv (.t 1)), oP 35 (.bin .add (.t 33) (.t 34)), oP 7 (.mv (.t 32)), oP 8 (.mv (.t 35))]) .skip)) c130_1))
def c130 : C := (.seq (.ops false [oP 4 (.mv (cI 0)), oP 5 (.mv (cI 0)), oP 6 (.mv (cB false))]) (.seq (.seq (.ops false [oP 9 (.mv (.t 1)), oP 10 (.bin .lss (.t 9) (cI 1)), oP 11 (.mv (.t 10)), oG 12 11 false (.mv (.t 1)), oG 13 11 false (.bin .gtr (.t 12) (cI 1099511627776)), oP 14 (.pick (.t 11) (cB true) (.t 13)), oP 15 (.mv (.t 14)), oG 16 15 false (.mv (.t 0)), oG 17 15 false (.bin .lss (.t 16)
  (cI (-2305843009213693952))), oP 18 (.pick (.t 15) (cB true) (.t 17)), oP 19 (.mv (.t 18)), oG 20 19 false (.mv (.t 0)), oG 21 19 false (.bin .gtr (.t 20) (cI 2305843009213693952)), oP 22 (.pick (.t 19) (cB true) (.t 21))]) (.cond (.t 22) (.seq (.ops false [oP 4 (.mv (cI 0)), oP 5 (.mv (cI 0)), oP 6 (.mv (cB false))]) .ret) .skip)) c130_2))
def r130 : List RV := [(.tmp 4), (.tmp 5), (.tmp 6)]
theorem c130_ok : ∃ code, Tryd.f130.body = some code ∧ compC Tryd.prog Tryd.f130.ntmps code = some (C.strip c130) := ⟨_, rfl, by kernel_rfl⟩
theorem r130_ok : compRes Tryd.prog Tryd.f130.results.toList = some r130 := by kernel_rfl
theorem f130_ok : fnOk Tryd.prog 130 = true := by kernel_rfl
def c131 : C := (.seq (.ops false [oP 2 (.box 3 (.t 0)), oP 4 (.mv (cB false))]) (.seq (.ops false [oP 5 (.mv (.t 1)), oP 6 (.bin .geq (.t 5) (cI 0)), oP 7 (.mv (.t 6)), oG 8 7 true (.mv (.t 1)), oG 9 7 true (.fa 1 (.t 2)), oG 10 7 true (.ld 1 false (.t 9)), oG 11 7 true (.bin .shl (cI 1) (.t 10)), oG 12 7 true (.bin .lss (.t 8) (.t 11)), oP 13 (.pick (.t 7) (.t 12) (cB false)), oP 4 (.mv (.t 13))]) .ret))
def r131 : List RV := [(.tmp 4)]
theorem c131_ok : ∃ code, Tryd.f131.body = some code ∧ compC Tryd.prog Tryd.f131.ntmps code = some (C.strip c131) := ⟨_, rfl, by kernel_rfl⟩
theorem r131_ok : compRes Tryd.prog Tryd.f131.results.toList = some r131 := by kernel_rfl
theorem f131_ok : fnOk Tryd.prog 131 = true := by kernel_rfl
def c150 : C := (.seq (.ops false [oP 2 (.mv (cI 0))]) (.seq (.ops false [oP 3 (.mv (.t 0)), oP 4 (.cvi .u64 (.t 3)), oP 5 (.bin .shl (.c (.v (.int .u64 1))) (.t 4)), oP 6 (.cvi .i64 (.t 5)), oP 2 (.mv (.t 6))]) .ret))
def r150 : List RV := [(.tmp 2)]
theorem c150_ok : ∃ code, Tryd.f150.body = some code ∧ compC Tryd.prog Tryd.f150.ntmps code = some (C.strip c150) := ⟨_, rfl, by kernel_rfl⟩
theorem r150_ok : compRes Tryd.prog Tryd.f150.results.toList = some r150 := by kernel_rfl
theorem f150_ok : fnOk Tryd.prog 150 = true := by kernel_rfl
def selX {α : Type} (dec : List D → Option α) (pre : α → Prop) (val : α → D) (args : List D) : Option (Prop × D) := match dec args with
  | some a => some (pre a, val a)
  | Option.none => Option.none
theorem tc_x {P : Program} {f : FuncId} {α : Type} {dec : List D → Option α} {pre : α → Prop} {val : α → D} {enc : α → List D} {T : Tbl} (hf : fnOk P f = true) (hd : ∀ l a, dec l = some a → l = enc a)
    (hc : ∀ a, pre a → ∀ nn, CallsA P f (enc a) Hp.none nn (Pu (val a) Hp.none)) (hT : TblOk P T) : TblOk P (tc f (rowPu (selX dec pre val)) T) :=
  tc_pu hf (fun args p d h hp nn => by
    unfold selX at h
    split at h
    · rename_i a e
      cases h
      rw [hd _ _ e]
      exact hc a hp nn
    · cases h) hT
def tt {α : Type} : α → Prop := fun _ => True
def ie (p : Int × Int) : D := .tup [di p.1, di p.2]
def decII : List D → Option (Int × Int)
  | [.v (.int .i64 a), .v (.int .i64 b)] => some (a, b)
  | _ => Option.none
theorem decII_eq : ∀ l a, decII l = some a → l = [di a.1, di a.2] := fun l a h => by unfold decII at h; split at h <;> cases h; rfl
def mtrOf : List D → Option Mtr
  | [.v (.int .i64 a), .v (.int .i64 b), .v (.int .i64 c)] => some ⟨a, b, c⟩
  | _ => Option.none
theorem mtrOf_x (m : Mtr) : mtrOf [di m.pl, di m.bits, di m.fac] = some m := rfl
theorem mtrOf_eq {l : List D} {m : Mtr} (h : mtrOf l = some m) : l = m.row := by unfold mtrOf at h; split at h <;> cases h; rfl
def cntOf : List D → Option Cnt
  | [.v (.int .i64 a), .v (.int .i64 b)] => some ⟨a, b⟩
  | _ => Option.none
theorem cntOf_x (m : Cnt) : cntOf [di m.last, di m.pul] = some m := rfl
theorem cntOf_eq {l : List D} {m : Cnt} (h : cntOf l = some m) : l = m.row := by unfold cntOf at h; split at h <;> cases h; rfl
def decM : List D → Option Mtr
  | [.agg a] => mtrOf a
  | _ => Option.none
theorem decM_eq : ∀ l a, decM l = some a → l = [a.enc] := fun l a h => by
  unfold decM at h
  split at h
  · rw [mtrOf_eq h]; rfl
  · cases h
def decMI : List D → Option (Mtr × Int)
  | [.agg a, .v (.int .i64 n)] => match mtrOf a with
    | some m => some (m, n)
    | _ => Option.none
  | _ => Option.none
theorem decMI_eq : ∀ l a, decMI l = some a → l = [a.1.enc, di a.2] := fun l a h => by
  unfold decMI at h
  split at h
  · split at h
    · rename_i e; cases h; rw [mtrOf_eq e]; rfl
    · cases h
  · cases h
def decMC : List D → Option (Mtr × Cnt)
  | [.agg a, .agg b] => match mtrOf a, cntOf b with
    | some m, some c => some (m, c)
    | _, _ => Option.none
  | _ => Option.none
theorem decMC_eq : ∀ l a, decMC l = some a → l = [a.1.enc, a.2.enc] := fun l a h => by
  unfold decMC at h
  split at h
  · split at h
    · rename_i e e'; cases h; rw [mtrOf_eq e, cntOf_eq e']; rfl
    · cases h
  · cases h
def decMCC : List D → Option (Mtr × Cnt × Cnt)
  | [.agg a, .agg b, .agg c] => match mtrOf a, cntOf b, cntOf c with
    | some m, some x, some y => some (m, x, y)
    | _, _, _ => Option.none
  | _ => Option.none
theorem decMCC_eq : ∀ l a, decMCC l = some a → l = [a.1.enc, a.2.1.enc, a.2.2.enc] := fun l a h => by
  unfold decMCC at h
  split at h
  · split at h
    · rename_i e e' e''; cases h; rw [mtrOf_eq e, cntOf_eq e', cntOf_eq e'']; rfl
    · cases h
  · cases h
def DvOk (p : Int × Int) : Prop := (-2305843009213693952 ≤ p.1 ∧ p.1 ≤ 2305843009213693952) ∧ (1 ≤ p.2 ∧ p.2 ≤ 1099511627776)
set_option maxHeartbeats 8000000 in
theorem divide_c (a b : Int) (h : DvOk (a, b)) (nn : Nm) : CallsA Tryd.prog 130 [di a, di b] Hp.none nn (Pu (.tup [di (a / b), di (a % b), db true]) Hp.none) := by
  obtain ⟨ha, hb⟩ := h
  dsimp only at ha hb
  obtain ⟨code, h1, h2⟩ := c130_ok
  refine callsA_of (T0_ok _) mixed (N := fun t => (0, t)) Tryd.func130 h1 h2 r130_ok [] false js_nil js_nil' (by simp [Tryd.f130]) ?_
  have d1 : decide (b < 1) = false := decide_eq_false (by omega)
  have d2 : decide ((1099511627776 : Int) < b) = false := decide_eq_false (by omega)
  have d3 : decide (a < (-2305843009213693952 : Int)) = false := decide_eq_false (by omega)
  have d4 : decide ((2305843009213693952 : Int) < a) = false := decide_eq_false (by omega)
  have tb := tdiv_bd a b ha.1 ha.2
  have w1 : IntKind.i64.wrap (a.tdiv b) = a.tdiv b := wrap_i (by omega)
  have w2 : IntKind.i64.wrap (a.tdiv b - 1) = a.tdiv b - 1 := wrap_i (by omega)
  have p1 := Int.emod_nonneg a (show b ≠ 0 by omega)
  have p2 := Int.emod_lt_of_pos a (show 0 < b by omega)
  have nb : b ≠ 0 := by omega
  cases d5 : decide (a.tmod b < 0) with
  | false =>
    obtain ⟨e1, e2⟩ := tdiv_pos a b hb.1 (by have := of_decide_eq_false d5; omega)
    simp (maxSteps:=500000) only [↓vp, vv, ↓reduceIte, simprocAttr, c130, r130, c130_1, c130_2, d1, d2, d3, d4, d5, w1, nb, Pu]
    rw [e1, e2]
  | true =>
    obtain ⟨e1, e2⟩ := tdiv_neg a b hb.1 (of_decide_eq_true d5)
    have w3 : IntKind.i64.wrap (a.tmod b + b) = a.tmod b + b := wrap_i (by omega)
    simp (maxSteps:=500000) only [↓vp, vv, ↓reduceIte, simprocAttr, c130, r130, c130_1, c130_2, d1, d2, d3, d4, d5, w1, w2, w3, nb, Pu]
    rw [e1, e2]
def selDv := selX decII DvOk fun p => .tup [di (p.1 / p.2), di (p.1 % p.2), db true]
theorem tc_dv {T : Tbl} (hT : TblOk Tryd.prog T) : TblOk Tryd.prog (tc 130 (rowPu selDv) T) := tc_x f130_ok decII_eq (fun a h nn => divide_c _ _ h nn) hT
set_option maxHeartbeats 8000000 in
theorem down_c (a b : Int) (h : DvOk (a, b)) (nn : Nm) : CallsA Tryd.prog 129 [di a, di b] Hp.none nn (Pu (di (a / b)) Hp.none) := by
  obtain ⟨code, h1, h2⟩ := c129_ok
  refine callsA_of (tc_dv (T0_ok _)) mixed (N := fun t => (0, t)) Tryd.func129 h1 h2 r129_ok [] false js_nil js_nil' (by simp [Tryd.f129]) ?_
  simp (maxSteps:=500000) only [↓vp, vv, ↓reduceIte, simprocAttr, c129, r129, selDv, selX, decII, h, Pu]
theorem dv_bd {a b : Int} (h : DvOk (a, b)) : -2305843009213693953 ≤ a / b ∧ a / b ≤ 2305843009213693952 := by
  obtain ⟨ha, hb⟩ := h
  dsimp only at ha hb
  have tb := tdiv_bd a b ha.1 ha.2
  by_cases hc : a.tmod b < 0
  · have := (tdiv_neg a b hb.1 hc).1; omega
  · have := (tdiv_pos a b hb.1 (by omega)).1; omega
set_option maxHeartbeats 8000000 in
theorem half_c (a b : Int) (h : DvOk (a, b)) (nn : Nm) : CallsA Tryd.prog 96 [di a, di b] Hp.none nn (Pu (di (hf a b)) Hp.none) := by
  obtain ⟨code, h1, h2⟩ := c96_ok
  refine callsA_of (tc_dv (T0_ok _)) mixed (N := fun t => (0, t)) Tryd.func96 h1 h2 r96_ok [] false js_nil js_nil' (by simp [Tryd.f96]) ?_
  have hb := h.2
  dsimp only at hb
  have p1 := Int.emod_nonneg a (show b ≠ 0 by omega)
  have p2 := Int.emod_lt_of_pos a (show 0 < b by omega)
  have q1 := dv_bd h
  have w1 : IntKind.i64.wrap (a / b + 1) = a / b + 1 := wrap_i (by omega)
  have w2 : IntKind.i64.wrap (2 * (a % b)) = 2 * (a % b) := wrap_i (by omega)
  cases d5 : decide (b ≤ 2 * (a % b)) with
  | false =>
    have e : hf a b = a / b := if_neg (of_decide_eq_false d5)
    simp (maxSteps:=500000) only [↓vp, vv, ↓reduceIte, simprocAttr, c96, r96, c96_1, selDv, selX, decII, h, Pu, d5, w1, w2, e]
  | true =>
    have e : hf a b = a / b + 1 := if_pos (of_decide_eq_true d5)
    simp (maxSteps:=500000) only [↓vp, vv, ↓reduceIte, simprocAttr, c96, r96, c96_1, selDv, selX, decII, h, Pu, d5, w1, w2, e]
set_option maxHeartbeats 8000000 in
theorem rproper_c (a b : Int) (h : DvOk (a, b)) (nn : Nm) : CallsA Tryd.prog 105 [di a, di b] Hp.none nn (Pu (db true) Hp.none) := by
  obtain ⟨ha, hb⟩ := h
  dsimp only at ha hb
  obtain ⟨code, h1, h2⟩ := c105_ok
  refine callsA_of (T0_ok _) mixed (N := fun t => (0, t)) Tryd.func105 h1 h2 r105_ok [] false js_nil js_nil' (by simp [Tryd.f105]) ?_
  have d1 : decide (1 ≤ b) = true := decide_eq_true (by omega)
  have d2 : decide (b ≤ 1099511627776) = true := decide_eq_true (by omega)
  have d3 : decide ((-2305843009213693952 : Int) ≤ a) = true := decide_eq_true (by omega)
  have d4 : decide (a ≤ (2305843009213693952 : Int)) = true := decide_eq_true (by omega)
  simp (maxSteps:=500000) only [↓vp, vv, ↓reduceIte, simprocAttr, c105, r105, d1, d2, d3, d4, Pu]
def selPr := selX decII DvOk fun _ => db true
theorem tc_rpr {T : Tbl} (hT : TblOk Tryd.prog T) : TblOk Tryd.prog (tc 105 (rowPu selPr) T) := tc_x f105_ok decII_eq (fun a h nn => rproper_c _ _ h nn) hT
set_option maxHeartbeats 8000000 in
theorem rdown_c (a b : Int) (h : DvOk (a, b)) (nn : Nm) : CallsA Tryd.prog 106 [di a, di b] Hp.none nn (Pu (di (a / b)) Hp.none) := by
  obtain ⟨code, h1, h2⟩ := c106_ok
  refine callsA_of (tc_rpr (T0_ok _)) mixed (N := fun t => (0, t)) Tryd.func106 h1 h2 r106_ok [] false js_nil js_nil' (by simp [Tryd.f106]) ?_
  have ha := h.1
  have hb := h.2
  dsimp only at ha hb
  have tb := tdiv_bd a b ha.1 ha.2
  have w1 : IntKind.i64.wrap (a.tdiv b) = a.tdiv b := wrap_i (by omega)
  have w2 : IntKind.i64.wrap (a.tdiv b - 1) = a.tdiv b - 1 := wrap_i (by omega)
  have nb : b ≠ 0 := by omega
  cases d5 : decide (a.tmod b < 0) with
  | false =>
    have e1 := (tdiv_pos a b hb.1 (by have := of_decide_eq_false d5; omega)).1
    simp (maxSteps:=500000) only [↓vp, vv, ↓reduceIte, simprocAttr, c106, r106, c106_1, c106_2, selPr, selX, decII, h, d5, w1, nb, Pu]
    rw [e1]
  | true =>
    have e1 := (tdiv_neg a b hb.1 (of_decide_eq_true d5)).1
    simp (maxSteps:=500000) only [↓vp, vv, ↓reduceIte, simprocAttr, c106, r106, c106_1, c106_2, selPr, selX, decII, h, d5, w1, w2, nb, Pu]
    rw [e1]
def selDw := selX decII DvOk fun p => di (p.1 / p.2)
theorem tc_rdw {T : Tbl} (hT : TblOk Tryd.prog T) : TblOk Tryd.prog (tc 106 (rowPu selDw) T) := tc_x f106_ok decII_eq (fun a h nn => rdown_c _ _ h nn) hT
theorem tc_dw {T : Tbl} (hT : TblOk Tryd.prog T) : TblOk Tryd.prog (tc 129 (rowPu selDw) T) := tc_x f129_ok decII_eq (fun a h nn => down_c _ _ h nn) hT
set_option maxHeartbeats 8000000 in
theorem rhalf_c (a b : Int) (h : DvOk (a, b)) (nn : Nm) : CallsA Tryd.prog 69 [di a, di b] Hp.none nn (Pu (di (hf a b)) Hp.none) := by
  obtain ⟨code, h1, h2⟩ := c69_ok
  refine callsA_of (tc_rdw (tc_rpr (T0_ok _))) mixed (N := fun t => (0, t)) Tryd.func69 h1 h2 r69_ok [] false js_nil js_nil' (by simp [Tryd.f69]) ?_
  have ha := h.1
  have hb := h.2
  dsimp only at ha hb
  have e0 := Int.mul_ediv_add_emod a b
  rw [Int.mul_comm] at e0
  have p1 := Int.emod_nonneg a (show b ≠ 0 by omega)
  have p2 := Int.emod_lt_of_pos a (show 0 < b by omega)
  have q1 := dv_bd h
  have w1 : IntKind.i64.wrap (a / b + 1) = a / b + 1 := wrap_i (by omega)
  have w3 : IntKind.i64.wrap (a / b * b) = a / b * b := wrap_i (by omega)
  have w4 : IntKind.i64.wrap (a - a / b * b) = a % b := by rw [wrap_i (by omega)]; omega
  have w2 : IntKind.i64.wrap (2 * (a % b)) = 2 * (a % b) := wrap_i (by omega)
  cases d5 : decide (b ≤ 2 * (a % b)) with
  | false =>
    have e : hf a b = a / b := if_neg (of_decide_eq_false d5)
    simp (maxSteps:=500000) only [↓vp, vv, ↓reduceIte, simprocAttr, c69, r69, c69_1, c69_2, selDw, selPr, selX, decII, h, Pu, d5, w1, w2, w3, w4, e]
  | true =>
    have e : hf a b = a / b + 1 := if_pos (of_decide_eq_true d5)
    simp (maxSteps:=500000) only [↓vp, vv, ↓reduceIte, simprocAttr, c69, r69, c69_1, c69_2, selDw, selPr, selX, decII, h, Pu, d5, w1, w2, w3, w4, e]
def selHf := selX decII DvOk fun p => di (hf p.1 p.2)
theorem tc_hf {T : Tbl} (hT : TblOk Tryd.prog T) : TblOk Tryd.prog (tc 96 (rowPu selHf) T) := tc_x f96_ok decII_eq (fun a h nn => half_c _ _ h nn) hT
theorem tc_rhf {T : Tbl} (hT : TblOk Tryd.prog T) : TblOk Tryd.prog (tc 69 (rowPu selHf) T) := tc_x f69_ok decII_eq (fun a h nn => rhalf_c _ _ h nn) hT
set_option maxHeartbeats 8000000 in
theorem mvalid_c (m : Mtr) (nn : Nm) : CallsA Tryd.prog 90 [m.enc] Hp.none nn (Pu (db (mV m)) Hp.none) := by
  obtain ⟨code, h1, h2⟩ := c90_ok
  refine callsA_of (T0_ok _) mixed (N := fun t => (0, t)) Tryd.func90 h1 h2 r90_ok [] false js_nil js_nil' (by simp [Tryd.f90]) ?_
  cases c1 : decide (1 ≤ m.pl) with
  | false => have hf := mV_f fun h : MtrOk m => of_decide_eq_false c1 h.pl.1; simp (maxSteps:=500000) only [↓vp, vv, ↓reduceIte, simprocAttr, c90, r90, Mtr.enc, Mtr.row, c1, hf, Pu]
  | true =>
  cases c2 : decide (m.pl ≤ 1048576) with
  | false => have hf := mV_f fun h : MtrOk m => of_decide_eq_false c2 h.pl.2; simp (maxSteps:=500000) only [↓vp, vv, ↓reduceIte, simprocAttr, c90, r90, Mtr.enc, Mtr.row, c1, c2, hf, Pu]
  | true =>
  cases c3 : (m.bits == 16) with
  | false =>
    cases c4 : (m.bits == 32) with
    | false => have hf := mV_f fun h : MtrOk m => (by rcases h.bits with h | h <;> rw [h] at c3 c4 <;> simp at c3 c4); simp (maxSteps:=500000) only [↓vp, vv, ↓reduceIte, simprocAttr, c90, r90, Mtr.enc, Mtr.row, c1, c2, c3, c4, hf, Pu]
    | true =>
    cases c5 : decide (50000 ≤ m.fac) with
    | false => have hf := mV_f fun h : MtrOk m => of_decide_eq_false c5 h.fac.1; simp (maxSteps:=500000) only [↓vp, vv, ↓reduceIte, simprocAttr, c90, r90, Mtr.enc, Mtr.row, c1, c2, c3, c4, c5, hf, Pu]
    | true =>
    cases c6 : decide (m.fac ≤ 200000) with
    | false => have hf := mV_f fun h : MtrOk m => of_decide_eq_false c6 h.fac.2; simp (maxSteps:=500000) only [↓vp, vv, ↓reduceIte, simprocAttr, c90, r90, Mtr.enc, Mtr.row, c1, c2, c3, c4, c5, c6, hf, Pu]
    | true =>
      have ht := mV_t ⟨⟨of_decide_eq_true c1, of_decide_eq_true c2⟩, .inr (by simpa using c4), of_decide_eq_true c5, of_decide_eq_true c6⟩
      simp (maxSteps:=500000) only [↓vp, vv, ↓reduceIte, simprocAttr, c90, r90, Mtr.enc, Mtr.row, c1, c2, c3, c4, c5, c6, ht, Pu]
  | true =>
    cases c5 : decide (50000 ≤ m.fac) with
    | false => have hf := mV_f fun h : MtrOk m => of_decide_eq_false c5 h.fac.1; simp (maxSteps:=500000) only [↓vp, vv, ↓reduceIte, simprocAttr, c90, r90, Mtr.enc, Mtr.row, c1, c2, c3, c5, hf, Pu]
    | true =>
    cases c6 : decide (m.fac ≤ 200000) with
    | false => have hf := mV_f fun h : MtrOk m => of_decide_eq_false c6 h.fac.2; simp (maxSteps:=500000) only [↓vp, vv, ↓reduceIte, simprocAttr, c90, r90, Mtr.enc, Mtr.row, c1, c2, c3, c5, c6, hf, Pu]
    | true =>
      have ht := mV_t ⟨⟨of_decide_eq_true c1, of_decide_eq_true c2⟩, .inl (by simpa using c3), of_decide_eq_true c5, of_decide_eq_true c6⟩
      simp (maxSteps:=500000) only [↓vp, vv, ↓reduceIte, simprocAttr, c90, r90, Mtr.enc, Mtr.row, c1, c2, c3, c5, c6, ht, Pu]
set_option maxHeartbeats 8000000 in
theorem mrvalid_c (m : Mtr) (nn : Nm) : CallsA Tryd.prog 63 [m.enc] Hp.none nn (Pu (db (mV m)) Hp.none) := by
  obtain ⟨code, h1, h2⟩ := c63_ok
  refine callsA_of (T0_ok _) mixed (N := fun t => (0, t)) Tryd.func63 h1 h2 r63_ok [] false js_nil js_nil' (by simp [Tryd.f63]) ?_
  cases c1 : decide (1 ≤ m.pl) with
  | false => have hf := mV_f fun h : MtrOk m => of_decide_eq_false c1 h.pl.1; simp (maxSteps:=500000) only [↓vp, vv, ↓reduceIte, simprocAttr, c63, r63, Mtr.enc, Mtr.row, c1, hf, Pu]
  | true =>
  cases c2 : decide (m.pl ≤ 1048576) with
  | false => have hf := mV_f fun h : MtrOk m => of_decide_eq_false c2 h.pl.2; simp (maxSteps:=500000) only [↓vp, vv, ↓reduceIte, simprocAttr, c63, r63, Mtr.enc, Mtr.row, c1, c2, hf, Pu]
  | true =>
  cases c3 : (m.bits == 16) with
  | false =>
    cases c4 : (m.bits == 32) with
    | false => have hf := mV_f fun h : MtrOk m => (by rcases h.bits with h | h <;> rw [h] at c3 c4 <;> simp at c3 c4); simp (maxSteps:=500000) only [↓vp, vv, ↓reduceIte, simprocAttr, c63, r63, Mtr.enc, Mtr.row, c1, c2, c3, c4, hf, Pu]
    | true =>
    cases c5 : decide (50000 ≤ m.fac) with
    | false => have hf := mV_f fun h : MtrOk m => of_decide_eq_false c5 h.fac.1; simp (maxSteps:=500000) only [↓vp, vv, ↓reduceIte, simprocAttr, c63, r63, Mtr.enc, Mtr.row, c1, c2, c3, c4, c5, hf, Pu]
    | true =>
    cases c6 : decide (m.fac ≤ 200000) with
    | false => have hf := mV_f fun h : MtrOk m => of_decide_eq_false c6 h.fac.2; simp (maxSteps:=500000) only [↓vp, vv, ↓reduceIte, simprocAttr, c63, r63, Mtr.enc, Mtr.row, c1, c2, c3, c4, c5, c6, hf, Pu]
    | true =>
      have ht := mV_t ⟨⟨of_decide_eq_true c1, of_decide_eq_true c2⟩, .inr (by simpa using c4), of_decide_eq_true c5, of_decide_eq_true c6⟩
      simp (maxSteps:=500000) only [↓vp, vv, ↓reduceIte, simprocAttr, c63, r63, Mtr.enc, Mtr.row, c1, c2, c3, c4, c5, c6, ht, Pu]
  | true =>
    cases c5 : decide (50000 ≤ m.fac) with
    | false => have hf := mV_f fun h : MtrOk m => of_decide_eq_false c5 h.fac.1; simp (maxSteps:=500000) only [↓vp, vv, ↓reduceIte, simprocAttr, c63, r63, Mtr.enc, Mtr.row, c1, c2, c3, c5, hf, Pu]
    | true =>
    cases c6 : decide (m.fac ≤ 200000) with
    | false => have hf := mV_f fun h : MtrOk m => of_decide_eq_false c6 h.fac.2; simp (maxSteps:=500000) only [↓vp, vv, ↓reduceIte, simprocAttr, c63, r63, Mtr.enc, Mtr.row, c1, c2, c3, c5, c6, hf, Pu]
    | true =>
      have ht := mV_t ⟨⟨of_decide_eq_true c1, of_decide_eq_true c2⟩, .inl (by simpa using c3), of_decide_eq_true c5, of_decide_eq_true c6⟩
      simp (maxSteps:=500000) only [↓vp, vv, ↓reduceIte, simprocAttr, c63, r63, Mtr.enc, Mtr.row, c1, c2, c3, c5, c6, ht, Pu]
def selMV := selX decM tt fun m => db (mV m)
theorem tc_mv {T : Tbl} (hT : TblOk Tryd.prog T) : TblOk Tryd.prog (tc 90 (rowPu selMV) T) := tc_x f90_ok decM_eq (fun a h nn => mvalid_c _ nn) hT
theorem tc_rmv {T : Tbl} (hT : TblOk Tryd.prog T) : TblOk Tryd.prog (tc 63 (rowPu selMV) T) := tc_x f63_ok decM_eq (fun a h nn => mrvalid_c _ nn) hT
end Go.Proofs.YtehmmnnmkapfeaaDoor
