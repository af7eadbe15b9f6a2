/- Compiled code of some functions (printed by a program), each checked by the kernel. -/
import Derived.Test.YtemkjjlpggmolaaV3
import Derived.Test.YtemkjjlpggmolaaProg
namespace Go.Proofs.Ytemkjjlpggmolaa
open Go
set_option maxRecDepth 100000
def c80 : C := (.seq (.ops false [oP 4 (.mv (cB false))]) (.seq (.ops false [oP 5 (.mv (.t 0)), oP 6 (.mv (.t 1)), oB 7 (.call 144 [(.t 5), (.t 6)]), oP 8 (.bin .geq (.t 7) (cI 0)), oP 4 (.mv (.t 8))]) .ret))
def r80 : List RV := [(.tmp 4)]
theorem c80_ok : ∃ code, Try.f80.body = some code ∧ compC Try.prog Try.f80.ntmps code = some (C.strip c80) := ⟨_, rfl, by kernel_rfl⟩
theorem r80_ok : compRes Try.prog Try.f80.results.toList = some r80 := by kernel_rfl
theorem f80_ok : fnOk Try.prog 80 = true := by kernel_rfl
def c94 : C := (.seq (.ops false [oP 4 (.mv (cB false))]) (.seq (.ops false [oP 5 (.mv (.t 0)), oP 6 (.mv (.t 1)), oB 7 (.call 147 [(.t 5), (.t 6)]), oP 8 (.bin .geq (.t 7) (cI 0)), oP 4 (.mv (.t 8))]) .ret))
def r94 : List RV := [(.tmp 4)]
theorem c94_ok : ∃ code, Try.f94.body = some code ∧ compC Try.prog Try.f94.ntmps code = some (C.strip c94) := ⟨_, rfl, by kernel_rfl⟩
theorem r94_ok : compRes Try.prog Try.f94.results.toList = some r94 := by kernel_rfl
theorem f94_ok : fnOk Try.prog 94 = true := by kernel_rfl
def c138 : C := (.seq (.ops false [oP 4 (.mv (cB false))]) (.seq (.ops false [oP 5 (.mv (.t 0)), oP 6 (.mv (.t 1)), oB 7 (.call 162 [(.t 5), (.t 6)]), oP 8 (.bin .geq (.t 7) (cI 0)), oP 4 (.mv (.t 8))]) .ret))
def r138 : List RV := [(.tmp 4)]
theorem c138_ok : ∃ code, Try.f138.body = some code ∧ compC Try.prog Try.f138.ntmps code = some (C.strip c138) := ⟨_, rfl, by kernel_rfl⟩
theorem r138_ok : compRes Try.prog Try.f138.results.toList = some r138 := by kernel_rfl
theorem f138_ok : fnOk Try.prog 138 = true := by kernel_rfl
def c144_1 : C := (.ops false [oP 18 (.bin .add (.t 8) (cI 1)), oP 8 (.mv (.t 18))])
def c144_2 : C := (.seq (.block 1 (.seq (.ops false [oP 10 (.mv (.t 8)), oP 5 (.mv (.t 10))]) (.seq (.ops false [oP 11 (.mv (.t 1)), oP 12 (.mv (.t 0)), oP 13 (.mv (.t 5)), oP 14 (.iaS 1 (.t 12) (.t 13)), oP 15 (.ld 1 false (.t 14)), oP 16 (.callv (.t 11) [(.t 15)])]) (.cond (.t 16) (.seq (.ops false [oP 17 (.mv (.t 5)), oP 4 (.mv (.t 17))]) .ret) .skip)))) c144_1)
def c144_3 : C := (.seq (.ops false [oP 9 (.bin .lss (.t 8) (.t 7))]) (.seq (.cond (.t 9) .skip (.exit 0)) c144_2))
def c144_4 : C := (.seq (.ops false [oP 4 (.mv (cI (-1)))]) .ret)
def c144 : C := (.seq (.ops false [oP 4 (.mv (cI 0))]) (.seq (.seq (.ops false [oP 6 (.mv (.t 0)), oP 7 (.len (.t 6)), oP 8 (.mv (cI 0))]) (.block 0 (.loop c144_3))) c144_4))
def r144 : List RV := [(.tmp 4)]
theorem c144_ok : ∃ code, Try.f144.body = some code ∧ compC Try.prog Try.f144.ntmps code = some (C.strip c144) := ⟨_, rfl, by kernel_rfl⟩
theorem r144_ok : compRes Try.prog Try.f144.results.toList = some r144 := by kernel_rfl
theorem f144_ok : fnOk Try.prog 144 = true := by kernel_rfl
def c147_1 : C := (.ops false [oP 18 (.bin .add (.t 8) (cI 1)), oP 8 (.mv (.t 18))])
def c147_2 : C := (.seq (.block 1 (.seq (.ops false [oP 10 (.mv (.t 8)), oP 5 (.mv (.t 10))]) (.seq (.ops false [oP 11 (.mv (.t 1)), oP 12 (.mv (.t 0)), oP 13 (.mv (.t 5)), oP 14 (.iaS 5 (.t 12) (.t 13)), oP 15 (.ld 5 true (.t 14)), oP 16 (.callv (.t 11) [(.t 15)])]) (.cond (.t 16) (.seq (.ops false [oP 17 (.mv (.t 5)), oP 4 (.mv (.t 17))]) .ret) .skip)))) c147_1)
def c147_3 : C := (.seq (.ops false [oP 9 (.bin .lss (.t 8) (.t 7))]) (.seq (.cond (.t 9) .skip (.exit 0)) c147_2))
def c147_4 : C := (.seq (.ops false [oP 4 (.mv (cI (-1)))]) .ret)
def c147 : C := (.seq (.ops false [oP 4 (.mv (cI 0))]) (.seq (.seq (.ops false [oP 6 (.mv (.t 0)), oP 7 (.len (.t 6)), oP 8 (.mv (cI 0))]) (.block 0 (.loop c147_3))) c147_4))
def r147 : List RV := [(.tmp 4)]
theorem c147_ok : ∃ code, Try.f147.body = some code ∧ compC Try.prog Try.f147.ntmps code = some (C.strip c147) := ⟨_, rfl, by kernel_rfl⟩
theorem r147_ok : compRes Try.prog Try.f147.results.toList = some r147 := by kernel_rfl
theorem f147_ok : fnOk Try.prog 147 = true := by kernel_rfl
def c160 : C := (.seq (.ops false [oP 4 (.mv (cB false))]) (.seq (.ops false [oP 5 (.mv (.t 0)), oP 6 (.mv (.t 1)), oB 7 (.call 179 [(.t 5), (.t 6)]), oP 8 (.bin .geq (.t 7) (cI 0)), oP 4 (.mv (.t 8))]) .ret))
def r160 : List RV := [(.tmp 4)]
theorem c160_ok : ∃ code, Try.f160.body = some code ∧ compC Try.prog Try.f160.ntmps code = some (C.strip c160) := ⟨_, rfl, by kernel_rfl⟩
theorem r160_ok : compRes Try.prog Try.f160.results.toList = some r160 := by kernel_rfl
theorem f160_ok : fnOk Try.prog 160 = true := by kernel_rfl
def c162_1 : C := (.ops false [oP 18 (.bin .add (.t 8) (cI 1)), oP 8 (.mv (.t 18))])
def c162_2 : C := (.seq (.block 1 (.seq (.ops false [oP 10 (.mv (.t 8)), oP 5 (.mv (.t 10))]) (.seq (.ops false [oP 11 (.mv (.t 1)), oP 12 (.mv (.t 0)), oP 13 (.mv (.t 5)), oP 14 (.iaS 1 (.t 12) (.t 13)), oP 15 (.ld 1 false (.t 14)), oP 16 (.callv (.t 11) [(.t 15)])]) (.cond (.t 16) (.seq (.ops false [oP 17 (.mv (.t 5)), oP 4 (.mv (.t 17))]) .ret) .skip)))) c162_1)
def c162_3 : C := (.seq (.ops false [oP 9 (.bin .lss (.t 8) (.t 7))]) (.seq (.cond (.t 9) .skip (.exit 0)) c162_2))
def c162_4 : C := (.seq (.ops false [oP 4 (.mv (cI (-1)))]) .ret)
def c162 : C := (.seq (.ops false [oP 4 (.mv (cI 0))]) (.seq (.seq (.ops false [oP 6 (.mv (.t 0)), oP 7 (.len (.t 6)), oP 8 (.mv (cI 0))]) (.block 0 (.loop c162_3))) c162_4))
def r162 : List RV := [(.tmp 4)]
theorem c162_ok : ∃ code, Try.f162.body = some code ∧ compC Try.prog Try.f162.ntmps code = some (C.strip c162) := ⟨_, rfl, by kernel_rfl⟩
theorem r162_ok : compRes Try.prog Try.f162.results.toList = some r162 := by kernel_rfl
theorem f162_ok : fnOk Try.prog 162 = true := by kernel_rfl
def c165_1 : C := (.ops false [oP 18 (.bin .add (.t 8) (cI 1)), oP 8 (.mv (.t 18))])
def c165_2 : C := (.seq (.block 1 (.seq (.ops false [oP 10 (.mv (.t 8)), oP 5 (.mv (.t 10))]) (.seq (.ops false [oP 11 (.mv (.t 1)), oP 12 (.mv (.t 0)), oP 13 (.mv (.t 5)), oP 14 (.iaS 5 (.t 12) (.t 13)), oP 15 (.ld 5 true (.t 14)), oP 16 (.callv (.t 11) [(.t 15)])]) (.cond (.t 16) (.seq (.ops false [oP 17 (.mv (.t 5)), oP 4 (.mv (.t 17))]) .ret) .skip)))) c165_1)
def c165_3 : C := (.seq (.ops false [oP 9 (.bin .lss (.t 8) (.t 7))]) (.seq (.cond (.t 9) .skip (.exit 0)) c165_2))
def c165_4 : C := (.seq (.ops false [oP 4 (.mv (cI (-1)))]) .ret)
def c165 : C := (.seq (.ops false [oP 4 (.mv (cI 0))]) (.seq (.seq (.ops false [oP 6 (.mv (.t 0)), oP 7 (.len (.t 6)), oP 8 (.mv (cI 0))]) (.block 0 (.loop c165_3))) c165_4))
def r165 : List RV := [(.tmp 4)]
theorem c165_ok : ∃ code, Try.f165.body = some code ∧ compC Try.prog Try.f165.ntmps code = some (C.strip c165) := ⟨_, rfl, by kernel_rfl⟩
theorem r165_ok : compRes Try.prog Try.f165.results.toList = some r165 := by kernel_rfl
theorem f165_ok : fnOk Try.prog 165 = true := by kernel_rfl
def c170 : C := (.seq (.ops false [oP 4 (.mv (cB false))]) (.seq (.ops false [oP 5 (.mv (.t 0)), oP 6 (.mv (.t 1)), oB 7 (.call 180 [(.t 5), (.t 6)]), oP 8 (.bin .geq (.t 7) (cI 0)), oP 4 (.mv (.t 8))]) .ret))
def r170 : List RV := [(.tmp 4)]
theorem c170_ok : ∃ code, Try.f170.body = some code ∧ compC Try.prog Try.f170.ntmps code = some (C.strip c170) := ⟨_, rfl, by kernel_rfl⟩
theorem r170_ok : compRes Try.prog Try.f170.results.toList = some r170 := by kernel_rfl
theorem f170_ok : fnOk Try.prog 170 = true := by kernel_rfl
def c173 : C := (.seq (.ops false [oP 4 (.mv (cB false))]) (.seq (.ops false [oP 5 (.mv (.t 0)), oP 6 (.mv (.t 1)), oB 7 (.call 165 [(.t 5), (.t 6)]), oP 8 (.bin .geq (.t 7) (cI 0)), oP 4 (.mv (.t 8))]) .ret))
def r173 : List RV := [(.tmp 4)]
theorem c173_ok : ∃ code, Try.f173.body = some code ∧ compC Try.prog Try.f173.ntmps code = some (C.strip c173) := ⟨_, rfl, by kernel_rfl⟩
theorem r173_ok : compRes Try.prog Try.f173.results.toList = some r173 := by kernel_rfl
theorem f173_ok : fnOk Try.prog 173 = true := by kernel_rfl
def c179_1 : C := (.ops false [oP 18 (.bin .add (.t 8) (cI 1)), oP 8 (.mv (.t 18))])
def c179_2 : C := (.seq (.block 1 (.seq (.ops false [oP 10 (.mv (.t 8)), oP 5 (.mv (.t 10))]) (.seq (.ops false [oP 11 (.mv (.t 1)), oP 12 (.mv (.t 0)), oP 13 (.mv (.t 5)), oP 14 (.iaS 7 (.t 12) (.t 13)), oP 15 (.ld 7 true (.t 14)), oP 16 (.callv (.t 11) [(.t 15)])]) (.cond (.t 16) (.seq (.ops false [oP 17 (.mv (.t 5)), oP 4 (.mv (.t 17))]) .ret) .skip)))) c179_1)
def c179_3 : C := (.seq (.ops false [oP 9 (.bin .lss (.t 8) (.t 7))]) (.seq (.cond (.t 9) .skip (.exit 0)) c179_2))
def c179_4 : C := (.seq (.ops false [oP 4 (.mv (cI (-1)))]) .ret)
def c179 : C := (.seq (.ops false [oP 4 (.mv (cI 0))]) (.seq (.seq (.ops false [oP 6 (.mv (.t 0)), oP 7 (.len (.t 6)), oP 8 (.mv (cI 0))]) (.block 0 (.loop c179_3))) c179_4))
def r179 : List RV := [(.tmp 4)]
theorem c179_ok : ∃ code, Try.f179.body = some code ∧ compC Try.prog Try.f179.ntmps code = some (C.strip c179) := ⟨_, rfl, by kernel_rfl⟩
theorem r179_ok : compRes Try.prog Try.f179.results.toList = some r179 := by kernel_rfl
theorem f179_ok : fnOk Try.prog 179 = true := by kernel_rfl
def c180_1 : C := (.ops false [oP 18 (.bin .add (.t 8) (cI 1)), oP 8 (.mv (.t 18))])
def c180_2 : C := (.seq (.block 1 (.seq (.ops false [oP 10 (.mv (.t 8)), oP 5 (.mv (.t 10))]) (.seq (.ops false [oP 11 (.mv (.t 1)), oP 12 (.mv (.t 0)), oP 13 (.mv (.t 5)), oP 14 (.iaS 3 (.t 12) (.t 13)), oP 15 (.ld 3 true (.t 14)), oP 16 (.callv (.t 11) [(.t 15)])]) (.cond (.t 16) (.seq (.ops false [oP 17 (.mv (.t 5)), oP 4 (.mv (.t 17))]) .ret) .skip)))) c180_1)
def c180_3 : C := (.seq (.ops false [oP 9 (.bin .lss (.t 8) (.t 7))]) (.seq (.cond (.t 9) .skip (.exit 0)) c180_2))
def c180_4 : C := (.seq (.ops false [oP 4 (.mv (cI (-1)))]) .ret)
def c180 : C := (.seq (.ops false [oP 4 (.mv (cI 0))]) (.seq (.seq (.ops false [oP 6 (.mv (.t 0)), oP 7 (.len (.t 6)), oP 8 (.mv (cI 0))]) (.block 0 (.loop c180_3))) c180_4))
def r180 : List RV := [(.tmp 4)]
theorem c180_ok : ∃ code, Try.f180.body = some code ∧ compC Try.prog Try.f180.ntmps code = some (C.strip c180) := ⟨_, rfl, by kernel_rfl⟩
theorem r180_ok : compRes Try.prog Try.f180.results.toList = some r180 := by kernel_rfl
theorem f180_ok : fnOk Try.prog 180 = true := by kernel_rfl
end Go.Proofs.Ytemkjjlpggmolaa
