/- Compiled code of some functions (printed by a program), each checked by the kernel. -/
import Derived.Test.YtkjibmfggeibjaaV3
import Derived.Test.YtkjibmfggeibjaaProg
namespace Go.Proofs.Ytkjibmfggeibjaa
open Go
set_option maxRecDepth 100000
def c92_1 : C := (.seq (.ops true [oP 12 (.fa 1 (.t 2)), oA 13 (.ld 1 false (.t 12)) [0], oP 14 (.fa 2 (.t 2)), oA 15 (.ld 1 false (.t 14)) [2], oA 4 (.mv (.t 13)) [0, 1], oA 5 (.mv (.t 15)) [2, 1, 0, 4, 3]]) .ret)
def c92 : C := (.seq (.ops false [oP 2 (.box 7 (.t 0)), oP 4 (.mv (cI 0)), oP 5 (.mv (cI 0))]) (.seq (.seq (.ops false [oP 6 (.mv (.t 1)), oP 7 (.bin .lss (.t 6) (cI 0))]) (.cond (.t 7) (.seq (.ops true [oP 8 (.fa 2 (.t 2)), oA 9 (.ld 1 false (.t 8)) [0], oP 10 (.fa 1 (.t 2)), oA 11 (.ld 1 false (.t 10)) [2], oA 4 (.mv (.t 9)) [0, 1], oA 5 (.mv (.t 11)) [2, 1, 0, 4, 3]]) .ret) .skip)) c92_1))
def r92 : List RV := [(.tmp 4), (.tmp 5)]
theorem c92_ok : ∃ code, Try.f92.body = some code ∧ compC Try.prog Try.f92.ntmps code = some (C.strip c92) := ⟨_, rfl, by kernel_rfl⟩
theorem r92_ok : compRes Try.prog Try.f92.results.toList = some r92 := by kernel_rfl
theorem f92_ok : fnOk Try.prog 92 = true := by kernel_rfl
def c93 : C := (.seq (.ops false [oP 2 (.mv (cI 0))]) (.seq (.ops false [oP 3 (.mv (.t 0)), oP 4 (.mv (.t 0)), oP 5 (.neg (.t 4)), oP 6 (.mnx true (.t 3) (.t 5)), oP 2 (.mv (.t 6))]) .ret))
def r93 : List RV := [(.tmp 2)]
theorem c93_ok : ∃ code, Try.f93.body = some code ∧ compC Try.prog Try.f93.ntmps code = some (C.strip c93) := ⟨_, rfl, by kernel_rfl⟩
theorem r93_ok : compRes Try.prog Try.f93.results.toList = some r93 := by kernel_rfl
theorem f93_ok : fnOk Try.prog 93 = true := by kernel_rfl
end Go.Proofs.Ytkjibmfggeibjaa
