/- Compiled code of some functions (printed by a program), each checked by the kernel. -/
import Derived.Test.YtiaenojpbiahgaaV3
import Derived.Test.YtiaenojpbiahgaaProg
namespace Go.Proofs.Ytiaenojpbiahgaa
open Go
set_option maxRecDepth 100000
def c55 : C := (.seq (.ops false [oP 4 (.mv (cB false))]) (.seq (.ops false [oP 5 (.mv (.t 0)), oP 6 (.mv (.t 1)), oB 7 (.call 89 [(.t 5), (.t 6)]), oP 8 (.bin .geq (.t 7) (cI 0)), oP 4 (.mv (.t 8))]) .ret))
def r55 : List RV := [(.tmp 4)]
theorem c55_ok : ∃ code, Try.f55.body = some code ∧ compC Try.prog Try.f55.ntmps code = some (C.strip c55) := ⟨_, rfl, by kernel_rfl⟩
theorem r55_ok : compRes Try.prog Try.f55.results.toList = some r55 := by kernel_rfl
theorem f55_ok : fnOk Try.prog 55 = true := by kernel_rfl
def c68 : C := (.seq (.ops false [oP 4 (.mv (cB false))]) (.seq (.ops false [oP 5 (.mv (.t 0)), oP 6 (.mv (.t 1)), oB 7 (.call 93 [(.t 5), (.t 6)]), oP 8 (.bin .geq (.t 7) (cI 0)), oP 4 (.mv (.t 8))]) .ret))
def r68 : List RV := [(.tmp 4)]
theorem c68_ok : ∃ code, Try.f68.body = some code ∧ compC Try.prog Try.f68.ntmps code = some (C.strip c68) := ⟨_, rfl, by kernel_rfl⟩
theorem r68_ok : compRes Try.prog Try.f68.results.toList = some r68 := by kernel_rfl
theorem f68_ok : fnOk Try.prog 68 = true := by kernel_rfl
def c83 : C := (.seq (.ops false [oP 4 (.mv (cB false))]) (.seq (.ops false [oP 5 (.mv (.t 0)), oP 6 (.mv (.t 1)), oB 7 (.call 97 [(.t 5), (.t 6)]), oP 8 (.bin .geq (.t 7) (cI 0)), oP 4 (.mv (.t 8))]) .ret))
def r83 : List RV := [(.tmp 4)]
theorem c83_ok : ∃ code, Try.f83.body = some code ∧ compC Try.prog Try.f83.ntmps code = some (C.strip c83) := ⟨_, rfl, by kernel_rfl⟩
theorem r83_ok : compRes Try.prog Try.f83.results.toList = some r83 := by kernel_rfl
theorem f83_ok : fnOk Try.prog 83 = true := by kernel_rfl
def c89_1 : C := (.ops false [oP 18 (.bin .add (.t 8) (cI 1)), oP 8 (.mv (.t 18))])
def c89_2 : C := (.seq (.block 1 (.seq (.ops false [oP 10 (.mv (.t 8)), oP 5 (.mv (.t 10))]) (.seq (.ops false [oP 11 (.mv (.t 1)), oP 12 (.mv (.t 0)), oP 13 (.mv (.t 5)), oP 14 (.iaS 5 (.t 12) (.t 13)), oP 15 (.ld 5 true (.t 14)), oP 16 (.callv (.t 11) [(.t 15)])]) (.cond (.t 16) (.seq (.ops false [oP 17 (.mv (.t 5)), oP 4 (.mv (.t 17))]) .ret) .skip)))) c89_1)
def c89_3 : C := (.seq (.ops false [oP 9 (.bin .lss (.t 8) (.t 7))]) (.seq (.cond (.t 9) .skip (.exit 0)) c89_2))
def c89_4 : C := (.seq (.ops false [oP 4 (.mv (cI (-1)))]) .ret)
def c89 : C := (.seq (.ops false [oP 4 (.mv (cI 0))]) (.seq (.seq (.ops false [oP 6 (.mv (.t 0)), oP 7 (.len (.t 6)), oP 8 (.mv (cI 0))]) (.block 0 (.loop c89_3))) c89_4))
def r89 : List RV := [(.tmp 4)]
theorem c89_ok : ∃ code, Try.f89.body = some code ∧ compC Try.prog Try.f89.ntmps code = some (C.strip c89) := ⟨_, rfl, by kernel_rfl⟩
theorem r89_ok : compRes Try.prog Try.f89.results.toList = some r89 := by kernel_rfl
theorem f89_ok : fnOk Try.prog 89 = true := by kernel_rfl
def c93_1 : C := (.ops false [oP 18 (.bin .add (.t 8) (cI 1)), oP 8 (.mv (.t 18))])
def c93_2 : C := (.seq (.block 1 (.seq (.ops false [oP 10 (.mv (.t 8)), oP 5 (.mv (.t 10))]) (.seq (.ops false [oP 11 (.mv (.t 1)), oP 12 (.mv (.t 0)), oP 13 (.mv (.t 5)), oP 14 (.iaS 1 (.t 12) (.t 13)), oP 15 (.ld 1 false (.t 14)), oP 16 (.callv (.t 11) [(.t 15)])]) (.cond (.t 16) (.seq (.ops false [oP 17 (.mv (.t 5)), oP 4 (.mv (.t 17))]) .ret) .skip)))) c93_1)
def c93_3 : C := (.seq (.ops false [oP 9 (.bin .lss (.t 8) (.t 7))]) (.seq (.cond (.t 9) .skip (.exit 0)) c93_2))
def c93_4 : C := (.seq (.ops false [oP 4 (.mv (cI (-1)))]) .ret)
def c93 : C := (.seq (.ops false [oP 4 (.mv (cI 0))]) (.seq (.seq (.ops false [oP 6 (.mv (.t 0)), oP 7 (.len (.t 6)), oP 8 (.mv (cI 0))]) (.block 0 (.loop c93_3))) c93_4))
def r93 : List RV := [(.tmp 4)]
theorem c93_ok : ∃ code, Try.f93.body = some code ∧ compC Try.prog Try.f93.ntmps code = some (C.strip c93) := ⟨_, rfl, by kernel_rfl⟩
theorem r93_ok : compRes Try.prog Try.f93.results.toList = some r93 := by kernel_rfl
theorem f93_ok : fnOk Try.prog 93 = true := by kernel_rfl
def c95 : C := (.seq (.ops false [oP 4 (.mv (cB false))]) (.seq (.ops false [oP 5 (.mv (.t 0)), oP 6 (.mv (.t 1)), oB 7 (.call 110 [(.t 5), (.t 6)]), oP 8 (.bin .geq (.t 7) (cI 0)), oP 4 (.mv (.t 8))]) .ret))
def r95 : List RV := [(.tmp 4)]
theorem c95_ok : ∃ code, Try.f95.body = some code ∧ compC Try.prog Try.f95.ntmps code = some (C.strip c95) := ⟨_, rfl, by kernel_rfl⟩
theorem r95_ok : compRes Try.prog Try.f95.results.toList = some r95 := by kernel_rfl
theorem f95_ok : fnOk Try.prog 95 = true := by kernel_rfl
def c97_1 : C := (.ops false [oP 18 (.bin .add (.t 8) (cI 1)), oP 8 (.mv (.t 18))])
def c97_2 : C := (.seq (.block 1 (.seq (.ops false [oP 10 (.mv (.t 8)), oP 5 (.mv (.t 10))]) (.seq (.ops false [oP 11 (.mv (.t 1)), oP 12 (.mv (.t 0)), oP 13 (.mv (.t 5)), oP 14 (.iaS 1 (.t 12) (.t 13)), oP 15 (.ld 1 false (.t 14)), oP 16 (.callv (.t 11) [(.t 15)])]) (.cond (.t 16) (.seq (.ops false [oP 17 (.mv (.t 5)), oP 4 (.mv (.t 17))]) .ret) .skip)))) c97_1)
def c97_3 : C := (.seq (.ops false [oP 9 (.bin .lss (.t 8) (.t 7))]) (.seq (.cond (.t 9) .skip (.exit 0)) c97_2))
def c97_4 : C := (.seq (.ops false [oP 4 (.mv (cI (-1)))]) .ret)
def c97 : C := (.seq (.ops false [oP 4 (.mv (cI 0))]) (.seq (.seq (.ops false [oP 6 (.mv (.t 0)), oP 7 (.len (.t 6)), oP 8 (.mv (cI 0))]) (.block 0 (.loop c97_3))) c97_4))
def r97 : List RV := [(.tmp 4)]
theorem c97_ok : ∃ code, Try.f97.body = some code ∧ compC Try.prog Try.f97.ntmps code = some (C.strip c97) := ⟨_, rfl, by kernel_rfl⟩
theorem r97_ok : compRes Try.prog Try.f97.results.toList = some r97 := by kernel_rfl
theorem f97_ok : fnOk Try.prog 97 = true := by kernel_rfl
def c100_1 : C := (.ops false [oP 18 (.bin .add (.t 8) (cI 1)), oP 8 (.mv (.t 18))])
def c100_2 : C := (.seq (.block 1 (.seq (.ops false [oP 10 (.mv (.t 8)), oP 5 (.mv (.t 10))]) (.seq (.ops false [oP 11 (.mv (.t 1)), oP 12 (.mv (.t 0)), oP 13 (.mv (.t 5)), oP 14 (.iaS 5 (.t 12) (.t 13)), oP 15 (.ld 5 true (.t 14)), oP 16 (.callv (.t 11) [(.t 15)])]) (.cond (.t 16) (.seq (.ops false [oP 17 (.mv (.t 5)), oP 4 (.mv (.t 17))]) .ret) .skip)))) c100_1)
def c100_3 : C := (.seq (.ops false [oP 9 (.bin .lss (.t 8) (.t 7))]) (.seq (.cond (.t 9) .skip (.exit 0)) c100_2))
def c100_4 : C := (.seq (.ops false [oP 4 (.mv (cI (-1)))]) .ret)
def c100 : C := (.seq (.ops false [oP 4 (.mv (cI 0))]) (.seq (.seq (.ops false [oP 6 (.mv (.t 0)), oP 7 (.len (.t 6)), oP 8 (.mv (cI 0))]) (.block 0 (.loop c100_3))) c100_4))
def r100 : List RV := [(.tmp 4)]
theorem c100_ok : ∃ code, Try.f100.body = some code ∧ compC Try.prog Try.f100.ntmps code = some (C.strip c100) := ⟨_, rfl, by kernel_rfl⟩
theorem r100_ok : compRes Try.prog Try.f100.results.toList = some r100 := by kernel_rfl
theorem f100_ok : fnOk Try.prog 100 = true := by kernel_rfl
def c105 : C := (.seq (.ops false [oP 4 (.mv (cB false))]) (.seq (.ops false [oP 5 (.mv (.t 0)), oP 6 (.mv (.t 1)), oB 7 (.call 111 [(.t 5), (.t 6)]), oP 8 (.bin .geq (.t 7) (cI 0)), oP 4 (.mv (.t 8))]) .ret))
def r105 : List RV := [(.tmp 4)]
theorem c105_ok : ∃ code, Try.f105.body = some code ∧ compC Try.prog Try.f105.ntmps code = some (C.strip c105) := ⟨_, rfl, by kernel_rfl⟩
theorem r105_ok : compRes Try.prog Try.f105.results.toList = some r105 := by kernel_rfl
theorem f105_ok : fnOk Try.prog 105 = true := by kernel_rfl
def c108 : C := (.seq (.ops false [oP 4 (.mv (cB false))]) (.seq (.ops false [oP 5 (.mv (.t 0)), oP 6 (.mv (.t 1)), oB 7 (.call 100 [(.t 5), (.t 6)]), oP 8 (.bin .geq (.t 7) (cI 0)), oP 4 (.mv (.t 8))]) .ret))
def r108 : List RV := [(.tmp 4)]
theorem c108_ok : ∃ code, Try.f108.body = some code ∧ compC Try.prog Try.f108.ntmps code = some (C.strip c108) := ⟨_, rfl, by kernel_rfl⟩
theorem r108_ok : compRes Try.prog Try.f108.results.toList = some r108 := by kernel_rfl
theorem f108_ok : fnOk Try.prog 108 = true := by kernel_rfl
def c110_1 : C := (.ops false [oP 18 (.bin .add (.t 8) (cI 1)), oP 8 (.mv (.t 18))])
def c110_2 : C := (.seq (.block 1 (.seq (.ops false [oP 10 (.mv (.t 8)), oP 5 (.mv (.t 10))]) (.seq (.ops false [oP 11 (.mv (.t 1)), oP 12 (.mv (.t 0)), oP 13 (.mv (.t 5)), oP 14 (.iaS 7 (.t 12) (.t 13)), oP 15 (.ld 7 true (.t 14)), oP 16 (.callv (.t 11) [(.t 15)])]) (.cond (.t 16) (.seq (.ops false [oP 17 (.mv (.t 5)), oP 4 (.mv (.t 17))]) .ret) .skip)))) c110_1)
def c110_3 : C := (.seq (.ops false [oP 9 (.bin .lss (.t 8) (.t 7))]) (.seq (.cond (.t 9) .skip (.exit 0)) c110_2))
def c110_4 : C := (.seq (.ops false [oP 4 (.mv (cI (-1)))]) .ret)
def c110 : C := (.seq (.ops false [oP 4 (.mv (cI 0))]) (.seq (.seq (.ops false [oP 6 (.mv (.t 0)), oP 7 (.len (.t 6)), oP 8 (.mv (cI 0))]) (.block 0 (.loop c110_3))) c110_4))
def r110 : List RV := [(.tmp 4)]
theorem c110_ok : ∃ code, Try.f110.body = some code ∧ compC Try.prog Try.f110.ntmps code = some (C.strip c110) := ⟨_, rfl, by kernel_rfl⟩
theorem r110_ok : compRes Try.prog Try.f110.results.toList = some r110 := by kernel_rfl
theorem f110_ok : fnOk Try.prog 110 = true := by kernel_rfl
def c111_1 : C := (.ops false [oP 18 (.bin .add (.t 8) (cI 1)), oP 8 (.mv (.t 18))])
def c111_2 : C := (.seq (.block 1 (.seq (.ops false [oP 10 (.mv (.t 8)), oP 5 (.mv (.t 10))]) (.seq (.ops false [oP 11 (.mv (.t 1)), oP 12 (.mv (.t 0)), oP 13 (.mv (.t 5)), oP 14 (.iaS 3 (.t 12) (.t 13)), oP 15 (.ld 3 true (.t 14)), oP 16 (.callv (.t 11) [(.t 15)])]) (.cond (.t 16) (.seq (.ops false [oP 17 (.mv (.t 5)), oP 4 (.mv (.t 17))]) .ret) .skip)))) c111_1)
def c111_3 : C := (.seq (.ops false [oP 9 (.bin .lss (.t 8) (.t 7))]) (.seq (.cond (.t 9) .skip (.exit 0)) c111_2))
def c111_4 : C := (.seq (.ops false [oP 4 (.mv (cI (-1)))]) .ret)
def c111 : C := (.seq (.ops false [oP 4 (.mv (cI 0))]) (.seq (.seq (.ops false [oP 6 (.mv (.t 0)), oP 7 (.len (.t 6)), oP 8 (.mv (cI 0))]) (.block 0 (.loop c111_3))) c111_4))
def r111 : List RV := [(.tmp 4)]
theorem c111_ok : ∃ code, Try.f111.body = some code ∧ compC Try.prog Try.f111.ntmps code = some (C.strip c111) := ⟨_, rfl, by kernel_rfl⟩
theorem r111_ok : compRes Try.prog Try.f111.results.toList = some r111 := by kernel_rfl
theorem f111_ok : fnOk Try.prog 111 = true := by kernel_rfl
end Go.Proofs.Ytiaenojpbiahgaa
