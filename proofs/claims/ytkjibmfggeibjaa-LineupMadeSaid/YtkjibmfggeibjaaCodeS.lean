/- Compiled code of some functions (printed by a program), each checked by the kernel. -/
import Derived.Test.YtkjibmfggeibjaaV3
import Derived.Test.YtkjibmfggeibjaaProg
namespace Go.Proofs.Ytkjibmfggeibjaa
open Go
set_option maxRecDepth 100000
def c121 : C := (.seq (.ops false [oP 4 (.mv (cB false))]) (.seq (.ops false [oP 5 (.mv (.t 0)), oP 6 (.mv (.t 1)), oB 7 (.call 172 [(.t 5), (.t 6)]), oP 8 (.bin .geq (.t 7) (cI 0)), oP 4 (.mv (.t 8))]) .ret))
def r121 : List RV := [(.tmp 4)]
theorem c121_ok : ∃ code, Try.f121.body = some code ∧ compC Try.prog Try.f121.ntmps code = some (C.strip c121) := ⟨_, rfl, by kernel_rfl⟩
theorem r121_ok : compRes Try.prog Try.f121.results.toList = some r121 := by kernel_rfl
theorem f121_ok : fnOk Try.prog 121 = true := by kernel_rfl
def c143 : C := (.seq (.ops false [oP 4 (.mv (cB false))]) (.seq (.ops false [oP 5 (.mv (.t 0)), oP 6 (.mv (.t 1)), oB 7 (.call 180 [(.t 5), (.t 6)]), oP 8 (.bin .geq (.t 7) (cI 0)), oP 4 (.mv (.t 8))]) .ret))
def r143 : List RV := [(.tmp 4)]
theorem c143_ok : ∃ code, Try.f143.body = some code ∧ compC Try.prog Try.f143.ntmps code = some (C.strip c143) := ⟨_, rfl, by kernel_rfl⟩
theorem r143_ok : compRes Try.prog Try.f143.results.toList = some r143 := by kernel_rfl
theorem f143_ok : fnOk Try.prog 143 = true := by kernel_rfl
def c172_1 : C := (.ops false [oP 18 (.bin .add (.t 8) (cI 1)), oP 8 (.mv (.t 18))])
def c172_2 : C := (.seq (.block 1 (.seq (.ops false [oP 10 (.mv (.t 8)), oP 5 (.mv (.t 10))]) (.seq (.ops false [oP 11 (.mv (.t 1)), oP 12 (.mv (.t 0)), oP 13 (.mv (.t 5)), oP 14 (.iaS 1 (.t 12) (.t 13)), oP 15 (.ld 1 false (.t 14)), oP 16 (.callv (.t 11) [(.t 15)])]) (.cond (.t 16) (.seq (.ops false [oP 17 (.mv (.t 5)), oP 4 (.mv (.t 17))]) .ret) .skip)))) c172_1)
def c172_3 : C := (.seq (.ops false [oP 9 (.bin .lss (.t 8) (.t 7))]) (.seq (.cond (.t 9) .skip (.exit 0)) c172_2))
def c172_4 : C := (.seq (.ops false [oP 4 (.mv (cI (-1)))]) .ret)
def c172 : C := (.seq (.ops false [oP 4 (.mv (cI 0))]) (.seq (.seq (.ops false [oP 6 (.mv (.t 0)), oP 7 (.len (.t 6)), oP 8 (.mv (cI 0))]) (.block 0 (.loop c172_3))) c172_4))
def r172 : List RV := [(.tmp 4)]
theorem c172_ok : ∃ code, Try.f172.body = some code ∧ compC Try.prog Try.f172.ntmps code = some (C.strip c172) := ⟨_, rfl, by kernel_rfl⟩
theorem r172_ok : compRes Try.prog Try.f172.results.toList = some r172 := by kernel_rfl
theorem f172_ok : fnOk Try.prog 172 = true := by kernel_rfl
def c178 : C := (.seq (.ops false [oP 4 (.mv (cB false))]) (.seq (.ops false [oP 5 (.mv (.t 0)), oP 6 (.mv (.t 1)), oB 7 (.call 199 [(.t 5), (.t 6)]), oP 8 (.bin .geq (.t 7) (cI 0)), oP 4 (.mv (.t 8))]) .ret))
def r178 : List RV := [(.tmp 4)]
theorem c178_ok : ∃ code, Try.f178.body = some code ∧ compC Try.prog Try.f178.ntmps code = some (C.strip c178) := ⟨_, rfl, by kernel_rfl⟩
theorem r178_ok : compRes Try.prog Try.f178.results.toList = some r178 := by kernel_rfl
theorem f178_ok : fnOk Try.prog 178 = true := by kernel_rfl
def c180_1 : C := (.ops false [oP 18 (.bin .add (.t 8) (cI 1)), oP 8 (.mv (.t 18))])
def c180_2 : C := (.seq (.block 1 (.seq (.ops false [oP 10 (.mv (.t 8)), oP 5 (.mv (.t 10))]) (.seq (.ops false [oP 11 (.mv (.t 1)), oP 12 (.mv (.t 0)), oP 13 (.mv (.t 5)), oP 14 (.iaS 1 (.t 12) (.t 13)), oP 15 (.ld 1 false (.t 14)), oP 16 (.callv (.t 11) [(.t 15)])]) (.cond (.t 16) (.seq (.ops false [oP 17 (.mv (.t 5)), oP 4 (.mv (.t 17))]) .ret) .skip)))) c180_1)
def c180_3 : C := (.seq (.ops false [oP 9 (.bin .lss (.t 8) (.t 7))]) (.seq (.cond (.t 9) .skip (.exit 0)) c180_2))
def c180_4 : C := (.seq (.ops false [oP 4 (.mv (cI (-1)))]) .ret)
def c180 : C := (.seq (.ops false [oP 4 (.mv (cI 0))]) (.seq (.seq (.ops false [oP 6 (.mv (.t 0)), oP 7 (.len (.t 6)), oP 8 (.mv (cI 0))]) (.block 0 (.loop c180_3))) c180_4))
def r180 : List RV := [(.tmp 4)]
theorem c180_ok : ∃ code, Try.f180.body = some code ∧ compC Try.prog Try.f180.ntmps code = some (C.strip c180) := ⟨_, rfl, by kernel_rfl⟩
theorem r180_ok : compRes Try.prog Try.f180.results.toList = some r180 := by kernel_rfl
theorem f180_ok : fnOk Try.prog 180 = true := by kernel_rfl
def c183_1 : C := (.ops false [oP 18 (.bin .add (.t 8) (cI 1)), oP 8 (.mv (.t 18))])
def c183_2 : C := (.seq (.block 1 (.seq (.ops false [oP 10 (.mv (.t 8)), oP 5 (.mv (.t 10))]) (.seq (.ops false [oP 11 (.mv (.t 1)), oP 12 (.mv (.t 0)), oP 13 (.mv (.t 5)), oP 14 (.iaS 5 (.t 12) (.t 13)), oP 15 (.ld 5 true (.t 14)), oP 16 (.callv (.t 11) [(.t 15)])]) (.cond (.t 16) (.seq (.ops false [oP 17 (.mv (.t 5)), oP 4 (.mv (.t 17))]) .ret) .skip)))) c183_1)
def c183_3 : C := (.seq (.ops false [oP 9 (.bin .lss (.t 8) (.t 7))]) (.seq (.cond (.t 9) .skip (.exit 0)) c183_2))
def c183_4 : C := (.seq (.ops false [oP 4 (.mv (cI (-1)))]) .ret)
def c183 : C := (.seq (.ops false [oP 4 (.mv (cI 0))]) (.seq (.seq (.ops false [oP 6 (.mv (.t 0)), oP 7 (.len (.t 6)), oP 8 (.mv (cI 0))]) (.block 0 (.loop c183_3))) c183_4))
def r183 : List RV := [(.tmp 4)]
theorem c183_ok : ∃ code, Try.f183.body = some code ∧ compC Try.prog Try.f183.ntmps code = some (C.strip c183) := ⟨_, rfl, by kernel_rfl⟩
theorem r183_ok : compRes Try.prog Try.f183.results.toList = some r183 := by kernel_rfl
theorem f183_ok : fnOk Try.prog 183 = true := by kernel_rfl
def c188 : C := (.seq (.ops false [oP 4 (.mv (cB false))]) (.seq (.ops false [oP 5 (.mv (.t 0)), oP 6 (.mv (.t 1)), oB 7 (.call 200 [(.t 5), (.t 6)]), oP 8 (.bin .geq (.t 7) (cI 0)), oP 4 (.mv (.t 8))]) .ret))
def r188 : List RV := [(.tmp 4)]
theorem c188_ok : ∃ code, Try.f188.body = some code ∧ compC Try.prog Try.f188.ntmps code = some (C.strip c188) := ⟨_, rfl, by kernel_rfl⟩
theorem r188_ok : compRes Try.prog Try.f188.results.toList = some r188 := by kernel_rfl
theorem f188_ok : fnOk Try.prog 188 = true := by kernel_rfl
def c191 : C := (.seq (.ops false [oP 4 (.mv (cB false))]) (.seq (.ops false [oP 5 (.mv (.t 0)), oP 6 (.mv (.t 1)), oB 7 (.call 183 [(.t 5), (.t 6)]), oP 8 (.bin .geq (.t 7) (cI 0)), oP 4 (.mv (.t 8))]) .ret))
def r191 : List RV := [(.tmp 4)]
theorem c191_ok : ∃ code, Try.f191.body = some code ∧ compC Try.prog Try.f191.ntmps code = some (C.strip c191) := ⟨_, rfl, by kernel_rfl⟩
theorem r191_ok : compRes Try.prog Try.f191.results.toList = some r191 := by kernel_rfl
theorem f191_ok : fnOk Try.prog 191 = true := by kernel_rfl
def c199_1 : C := (.ops false [oP 18 (.bin .add (.t 8) (cI 1)), oP 8 (.mv (.t 18))])
def c199_2 : C := (.seq (.block 1 (.seq (.ops false [oP 10 (.mv (.t 8)), oP 5 (.mv (.t 10))]) (.seq (.ops false [oP 11 (.mv (.t 1)), oP 12 (.mv (.t 0)), oP 13 (.mv (.t 5)), oP 14 (.iaS 7 (.t 12) (.t 13)), oP 15 (.ld 7 true (.t 14)), oP 16 (.callv (.t 11) [(.t 15)])]) (.cond (.t 16) (.seq (.ops false [oP 17 (.mv (.t 5)), oP 4 (.mv (.t 17))]) .ret) .skip)))) c199_1)
def c199_3 : C := (.seq (.ops false [oP 9 (.bin .lss (.t 8) (.t 7))]) (.seq (.cond (.t 9) .skip (.exit 0)) c199_2))
def c199_4 : C := (.seq (.ops false [oP 4 (.mv (cI (-1)))]) .ret)
def c199 : C := (.seq (.ops false [oP 4 (.mv (cI 0))]) (.seq (.seq (.ops false [oP 6 (.mv (.t 0)), oP 7 (.len (.t 6)), oP 8 (.mv (cI 0))]) (.block 0 (.loop c199_3))) c199_4))
def r199 : List RV := [(.tmp 4)]
theorem c199_ok : ∃ code, Try.f199.body = some code ∧ compC Try.prog Try.f199.ntmps code = some (C.strip c199) := ⟨_, rfl, by kernel_rfl⟩
theorem r199_ok : compRes Try.prog Try.f199.results.toList = some r199 := by kernel_rfl
theorem f199_ok : fnOk Try.prog 199 = true := by kernel_rfl
def c200_1 : C := (.ops false [oP 18 (.bin .add (.t 8) (cI 1)), oP 8 (.mv (.t 18))])
def c200_2 : C := (.seq (.block 1 (.seq (.ops false [oP 10 (.mv (.t 8)), oP 5 (.mv (.t 10))]) (.seq (.ops false [oP 11 (.mv (.t 1)), oP 12 (.mv (.t 0)), oP 13 (.mv (.t 5)), oP 14 (.iaS 3 (.t 12) (.t 13)), oP 15 (.ld 3 true (.t 14)), oP 16 (.callv (.t 11) [(.t 15)])]) (.cond (.t 16) (.seq (.ops false [oP 17 (.mv (.t 5)), oP 4 (.mv (.t 17))]) .ret) .skip)))) c200_1)
def c200_3 : C := (.seq (.ops false [oP 9 (.bin .lss (.t 8) (.t 7))]) (.seq (.cond (.t 9) .skip (.exit 0)) c200_2))
def c200_4 : C := (.seq (.ops false [oP 4 (.mv (cI (-1)))]) .ret)
def c200 : C := (.seq (.ops false [oP 4 (.mv (cI 0))]) (.seq (.seq (.ops false [oP 6 (.mv (.t 0)), oP 7 (.len (.t 6)), oP 8 (.mv (cI 0))]) (.block 0 (.loop c200_3))) c200_4))
def r200 : List RV := [(.tmp 4)]
theorem c200_ok : ∃ code, Try.f200.body = some code ∧ compC Try.prog Try.f200.ntmps code = some (C.strip c200) := ⟨_, rfl, by kernel_rfl⟩
theorem r200_ok : compRes Try.prog Try.f200.results.toList = some r200 := by kernel_rfl
theorem f200_ok : fnOk Try.prog 200 = true := by kernel_rfl
end Go.Proofs.Ytkjibmfggeibjaa
