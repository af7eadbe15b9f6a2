/- Compiled code of some functions (printed by a program), each checked by the kernel. -/
import Derived.Test.YtfkhjkkhdfcnjaaV3
import Derived.Test.YtfkhjkkhdfcnjaaProg
namespace Go.Proofs.Ytfkhjkkhdfcnjaa
open Go
set_option maxRecDepth 100000
def c80 : C := (.seq (.ops false [oP 4 (.mv (cB false))]) (.seq (.ops false [oP 5 (.mv (.t 0)), oP 6 (.mv (.t 1)), oB 7 (.call 144 [(.t 5), (.t 6)]), oP 8 (.bin .geq (.t 7) (cI 0)), oP 4 (.mv (.t 8))]) .ret))
def r80 : List RV := [(.tmp 4)]
theorem c80_ok : ∃ code, Try.f80.body = some code ∧ compC Try.prog Try.f80.ntmps code = some (C.strip c80) := ⟨_, rfl, by kernel_rfl⟩
theorem r80_ok : compRes Try.prog Try.f80.results.toList = some r80 := by kernel_rfl
theorem f80_ok : fnOk Try.prog 80 = true := by kernel_rfl
def c96 : C := (.seq (.ops false [oP 4 (.mv (cB false))]) (.seq (.ops false [oP 5 (.mv (.t 0)), oP 6 (.mv (.t 1)), oB 7 (.call 149 [(.t 5), (.t 6)]), oP 8 (.bin .geq (.t 7) (cI 0)), oP 4 (.mv (.t 8))]) .ret))
def r96 : List RV := [(.tmp 4)]
theorem c96_ok : ∃ code, Try.f96.body = some code ∧ compC Try.prog Try.f96.ntmps code = some (C.strip c96) := ⟨_, rfl, by kernel_rfl⟩
theorem r96_ok : compRes Try.prog Try.f96.results.toList = some r96 := by kernel_rfl
theorem f96_ok : fnOk Try.prog 96 = true := by kernel_rfl
def c138 : C := (.seq (.ops false [oP 4 (.mv (cB false))]) (.seq (.ops false [oP 5 (.mv (.t 0)), oP 6 (.mv (.t 1)), oB 7 (.call 163 [(.t 5), (.t 6)]), oP 8 (.bin .geq (.t 7) (cI 0)), oP 4 (.mv (.t 8))]) .ret))
def r138 : List RV := [(.tmp 4)]
theorem c138_ok : ∃ code, Try.f138.body = some code ∧ compC Try.prog Try.f138.ntmps code = some (C.strip c138) := ⟨_, rfl, by kernel_rfl⟩
theorem r138_ok : compRes Try.prog Try.f138.results.toList = some r138 := by kernel_rfl
theorem f138_ok : fnOk Try.prog 138 = true := by kernel_rfl
def c144_1 : C := (.ops false [oP 18 (.bin .add (.t 8) (cI 1)), oP 8 (.mv (.t 18))])
def c144_2 : C := (.seq (.block 1 (.seq (.ops false [oP 10 (.mv (.t 8)), oP 5 (.mv (.t 10))]) (.seq (.ops false [oP 11 (.mv (.t 1)), oP 12 (.mv (.t 0)), oP 13 (.mv (.t 5)), oP 14 (.iaS 5 (.t 12) (.t 13)), oP 15 (.ld 5 true (.t 14)), oP 16 (.callv (.t 11) [(.t 15)])]) (.cond (.t 16) (.seq (.ops false [oP 17 (.mv (.t 5)), oP 4 (.mv (.t 17))]) .ret) .skip)))) c144_1)
def c144_3 : C := (.seq (.ops false [oP 9 (.bin .lss (.t 8) (.t 7))]) (.seq (.cond (.t 9) .skip (.exit 0)) c144_2))
def c144_4 : C := (.seq (.ops false [oP 4 (.mv (cI (-1)))]) .ret)
def c144 : C := (.seq (.ops false [oP 4 (.mv (cI 0))]) (.seq (.seq (.ops false [oP 6 (.mv (.t 0)), oP 7 (.len (.t 6)), oP 8 (.mv (cI 0))]) (.block 0 (.loop c144_3))) c144_4))
def r144 : List RV := [(.tmp 4)]
theorem c144_ok : ∃ code, Try.f144.body = some code ∧ compC Try.prog Try.f144.ntmps code = some (C.strip c144) := ⟨_, rfl, by kernel_rfl⟩
theorem r144_ok : compRes Try.prog Try.f144.results.toList = some r144 := by kernel_rfl
theorem f144_ok : fnOk Try.prog 144 = true := by kernel_rfl
def c149_1 : C := (.ops false [oP 18 (.bin .add (.t 8) (cI 1)), oP 8 (.mv (.t 18))])
def c149_2 : C := (.seq (.block 1 (.seq (.ops false [oP 10 (.mv (.t 8)), oP 5 (.mv (.t 10))]) (.seq (.ops false [oP 11 (.mv (.t 1)), oP 12 (.mv (.t 0)), oP 13 (.mv (.t 5)), oP 14 (.iaS 1 (.t 12) (.t 13)), oP 15 (.ld 1 false (.t 14)), oP 16 (.callv (.t 11) [(.t 15)])]) (.cond (.t 16) (.seq (.ops false [oP 17 (.mv (.t 5)), oP 4 (.mv (.t 17))]) .ret) .skip)))) c149_1)
def c149_3 : C := (.seq (.ops false [oP 9 (.bin .lss (.t 8) (.t 7))]) (.seq (.cond (.t 9) .skip (.exit 0)) c149_2))
def c149_4 : C := (.seq (.ops false [oP 4 (.mv (cI (-1)))]) .ret)
def c149 : C := (.seq (.ops false [oP 4 (.mv (cI 0))]) (.seq (.seq (.ops false [oP 6 (.mv (.t 0)), oP 7 (.len (.t 6)), oP 8 (.mv (cI 0))]) (.block 0 (.loop c149_3))) c149_4))
def r149 : List RV := [(.tmp 4)]
theorem c149_ok : ∃ code, Try.f149.body = some code ∧ compC Try.prog Try.f149.ntmps code = some (C.strip c149) := ⟨_, rfl, by kernel_rfl⟩
theorem r149_ok : compRes Try.prog Try.f149.results.toList = some r149 := by kernel_rfl
theorem f149_ok : fnOk Try.prog 149 = true := by kernel_rfl
def c161 : C := (.seq (.ops false [oP 4 (.mv (cB false))]) (.seq (.ops false [oP 5 (.mv (.t 0)), oP 6 (.mv (.t 1)), oB 7 (.call 179 [(.t 5), (.t 6)]), oP 8 (.bin .geq (.t 7) (cI 0)), oP 4 (.mv (.t 8))]) .ret))
def r161 : List RV := [(.tmp 4)]
theorem c161_ok : ∃ code, Try.f161.body = some code ∧ compC Try.prog Try.f161.ntmps code = some (C.strip c161) := ⟨_, rfl, by kernel_rfl⟩
theorem r161_ok : compRes Try.prog Try.f161.results.toList = some r161 := by kernel_rfl
theorem f161_ok : fnOk Try.prog 161 = true := by kernel_rfl
def c163_1 : C := (.ops false [oP 18 (.bin .add (.t 8) (cI 1)), oP 8 (.mv (.t 18))])
def c163_2 : C := (.seq (.block 1 (.seq (.ops false [oP 10 (.mv (.t 8)), oP 5 (.mv (.t 10))]) (.seq (.ops false [oP 11 (.mv (.t 1)), oP 12 (.mv (.t 0)), oP 13 (.mv (.t 5)), oP 14 (.iaS 1 (.t 12) (.t 13)), oP 15 (.ld 1 false (.t 14)), oP 16 (.callv (.t 11) [(.t 15)])]) (.cond (.t 16) (.seq (.ops false [oP 17 (.mv (.t 5)), oP 4 (.mv (.t 17))]) .ret) .skip)))) c163_1)
def c163_3 : C := (.seq (.ops false [oP 9 (.bin .lss (.t 8) (.t 7))]) (.seq (.cond (.t 9) .skip (.exit 0)) c163_2))
def c163_4 : C := (.seq (.ops false [oP 4 (.mv (cI (-1)))]) .ret)
def c163 : C := (.seq (.ops false [oP 4 (.mv (cI 0))]) (.seq (.seq (.ops false [oP 6 (.mv (.t 0)), oP 7 (.len (.t 6)), oP 8 (.mv (cI 0))]) (.block 0 (.loop c163_3))) c163_4))
def r163 : List RV := [(.tmp 4)]
theorem c163_ok : ∃ code, Try.f163.body = some code ∧ compC Try.prog Try.f163.ntmps code = some (C.strip c163) := ⟨_, rfl, by kernel_rfl⟩
theorem r163_ok : compRes Try.prog Try.f163.results.toList = some r163 := by kernel_rfl
theorem f163_ok : fnOk Try.prog 163 = true := by kernel_rfl
def c166_1 : C := (.ops false [oP 18 (.bin .add (.t 8) (cI 1)), oP 8 (.mv (.t 18))])
def c166_2 : C := (.seq (.block 1 (.seq (.ops false [oP 10 (.mv (.t 8)), oP 5 (.mv (.t 10))]) (.seq (.ops false [oP 11 (.mv (.t 1)), oP 12 (.mv (.t 0)), oP 13 (.mv (.t 5)), oP 14 (.iaS 5 (.t 12) (.t 13)), oP 15 (.ld 5 true (.t 14)), oP 16 (.callv (.t 11) [(.t 15)])]) (.cond (.t 16) (.seq (.ops false [oP 17 (.mv (.t 5)), oP 4 (.mv (.t 17))]) .ret) .skip)))) c166_1)
def c166_3 : C := (.seq (.ops false [oP 9 (.bin .lss (.t 8) (.t 7))]) (.seq (.cond (.t 9) .skip (.exit 0)) c166_2))
def c166_4 : C := (.seq (.ops false [oP 4 (.mv (cI (-1)))]) .ret)
def c166 : C := (.seq (.ops false [oP 4 (.mv (cI 0))]) (.seq (.seq (.ops false [oP 6 (.mv (.t 0)), oP 7 (.len (.t 6)), oP 8 (.mv (cI 0))]) (.block 0 (.loop c166_3))) c166_4))
def r166 : List RV := [(.tmp 4)]
theorem c166_ok : ∃ code, Try.f166.body = some code ∧ compC Try.prog Try.f166.ntmps code = some (C.strip c166) := ⟨_, rfl, by kernel_rfl⟩
theorem r166_ok : compRes Try.prog Try.f166.results.toList = some r166 := by kernel_rfl
theorem f166_ok : fnOk Try.prog 166 = true := by kernel_rfl
def c171 : C := (.seq (.ops false [oP 4 (.mv (cB false))]) (.seq (.ops false [oP 5 (.mv (.t 0)), oP 6 (.mv (.t 1)), oB 7 (.call 180 [(.t 5), (.t 6)]), oP 8 (.bin .geq (.t 7) (cI 0)), oP 4 (.mv (.t 8))]) .ret))
def r171 : List RV := [(.tmp 4)]
theorem c171_ok : ∃ code, Try.f171.body = some code ∧ compC Try.prog Try.f171.ntmps code = some (C.strip c171) := ⟨_, rfl, by kernel_rfl⟩
theorem r171_ok : compRes Try.prog Try.f171.results.toList = some r171 := by kernel_rfl
theorem f171_ok : fnOk Try.prog 171 = true := by kernel_rfl
def c174 : C := (.seq (.ops false [oP 4 (.mv (cB false))]) (.seq (.ops false [oP 5 (.mv (.t 0)), oP 6 (.mv (.t 1)), oB 7 (.call 166 [(.t 5), (.t 6)]), oP 8 (.bin .geq (.t 7) (cI 0)), oP 4 (.mv (.t 8))]) .ret))
def r174 : List RV := [(.tmp 4)]
theorem c174_ok : ∃ code, Try.f174.body = some code ∧ compC Try.prog Try.f174.ntmps code = some (C.strip c174) := ⟨_, rfl, by kernel_rfl⟩
theorem r174_ok : compRes Try.prog Try.f174.results.toList = some r174 := by kernel_rfl
theorem f174_ok : fnOk Try.prog 174 = true := by kernel_rfl
def c179_1 : C := (.ops false [oP 18 (.bin .add (.t 8) (cI 1)), oP 8 (.mv (.t 18))])
def c179_2 : C := (.seq (.block 1 (.seq (.ops false [oP 10 (.mv (.t 8)), oP 5 (.mv (.t 10))]) (.seq (.ops false [oP 11 (.mv (.t 1)), oP 12 (.mv (.t 0)), oP 13 (.mv (.t 5)), oP 14 (.iaS 7 (.t 12) (.t 13)), oP 15 (.ld 7 true (.t 14)), oP 16 (.callv (.t 11) [(.t 15)])]) (.cond (.t 16) (.seq (.ops false [oP 17 (.mv (.t 5)), oP 4 (.mv (.t 17))]) .ret) .skip)))) c179_1)
def c179_3 : C := (.seq (.ops false [oP 9 (.bin .lss (.t 8) (.t 7))]) (.seq (.cond (.t 9) .skip (.exit 0)) c179_2))
def c179_4 : C := (.seq (.ops false [oP 4 (.mv (cI (-1)))]) .ret)
def c179 : C := (.seq (.ops false [oP 4 (.mv (cI 0))]) (.seq (.seq (.ops false [oP 6 (.mv (.t 0)), oP 7 (.len (.t 6)), oP 8 (.mv (cI 0))]) (.block 0 (.loop c179_3))) c179_4))
def r179 : List RV := [(.tmp 4)]
theorem c179_ok : ∃ code, Try.f179.body = some code ∧ compC Try.prog Try.f179.ntmps code = some (C.strip c179) := ⟨_, rfl, by kernel_rfl⟩
theorem r179_ok : compRes Try.prog Try.f179.results.toList = some r179 := by kernel_rfl
theorem f179_ok : fnOk Try.prog 179 = true := by kernel_rfl
def c180_1 : C := (.ops false [oP 18 (.bin .add (.t 8) (cI 1)), oP 8 (.mv (.t 18))])
def c180_2 : C := (.seq (.block 1 (.seq (.ops false [oP 10 (.mv (.t 8)), oP 5 (.mv (.t 10))]) (.seq (.ops false [oP 11 (.mv (.t 1)), oP 12 (.mv (.t 0)), oP 13 (.mv (.t 5)), oP 14 (.iaS 3 (.t 12) (.t 13)), oP 15 (.ld 3 true (.t 14)), oP 16 (.callv (.t 11) [(.t 15)])]) (.cond (.t 16) (.seq (.ops false [oP 17 (.mv (.t 5)), oP 4 (.mv (.t 17))]) .ret) .skip)))) c180_1)
def c180_3 : C := (.seq (.ops false [oP 9 (.bin .lss (.t 8) (.t 7))]) (.seq (.cond (.t 9) .skip (.exit 0)) c180_2))
def c180_4 : C := (.seq (.ops false [oP 4 (.mv (cI (-1)))]) .ret)
def c180 : C := (.seq (.ops false [oP 4 (.mv (cI 0))]) (.seq (.seq (.ops false [oP 6 (.mv (.t 0)), oP 7 (.len (.t 6)), oP 8 (.mv (cI 0))]) (.block 0 (.loop c180_3))) c180_4))
def r180 : List RV := [(.tmp 4)]
theorem c180_ok : ∃ code, Try.f180.body = some code ∧ compC Try.prog Try.f180.ntmps code = some (C.strip c180) := ⟨_, rfl, by kernel_rfl⟩
theorem r180_ok : compRes Try.prog Try.f180.results.toList = some r180 := by kernel_rfl
theorem f180_ok : fnOk Try.prog 180 = true := by kernel_rfl
end Go.Proofs.Ytfkhjkkhdfcnjaa
