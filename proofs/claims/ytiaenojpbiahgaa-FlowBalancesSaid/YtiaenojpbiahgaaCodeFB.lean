/- Compiled code of some functions (printed by a program), each checked by the kernel. -/
import Derived.Test.YtiaenojpbiahgaaV3
import Derived.Test.YtiaenojpbiahgaaProg
namespace Go.Proofs.Ytiaenojpbiahgaa
open Go
set_option maxRecDepth 100000
def c11_1 : C := (.ops false [oP 58 (.mv (.t 9)), oP 59 (.mv (.t 11)), oP 60 (.bin .add (.t 58) (.t 59)), oP 9 (.mv (.t 60))])
def c11_2 : C := (.ops false [oP 61 (.bin .add (.t 42) (cI 1)), oP 42 (.mv (.t 61))])
def c11_3 : C := (.seq (.block 1 (.seq (.ops false [oP 44 (.mv (.t 42)), oP 10 (.mv (.t 44))]) (.seq (.ops false [oP 46 (.ld 6 true (.t 4)), oP 47 (.ld 3 true (.t 5)), oP 48 (.mv (.t 10)), oB 49 (.call 33 [(.t 46), (.t 47), (.t 48)]), oP 45 (.mv (.t 49)), oP 50 (.ext (.t 45) 0), oP 51 (.ext (.t 45) 1), oP 11 (.mv (.t 50)), oP 12 (.mv (.t 51))]) (.seq (.seq (.ops false [oP 52 (.mv (.t 12)), oP 53 (.bin .neq (.t 52)
  (cI 0)), oP 54 (.mv (.t 53)), oG 55 54 false (.mv (.t 11)), oG 56 54 false (.bin .lss (.t 55) (cI 0)), oP 57 (.pick (.t 54) (cB true) (.t 56))]) (.cond (.t 57) (.seq (.ops false [oP 2 (.mv (cB false))]) .ret) .skip)) c11_1)))) c11_2)
def c11_4 : C := (.seq (.ops false [oP 43 (.bin .lss (.t 42) (.t 41))]) (.seq (.cond (.t 43) .skip (.exit 0)) c11_3))
def c11_5 : C := (.seq (.block 3 (.seq (.ops false [oP 67 (.mv (.t 65)), oP 13 (.mv (.t 67))]) (.ops false [oP 68 (.mv (.t 9)), oP 69 (.fa 0 (.t 5)), oP 70 (.ld 1 false (.t 69)), oP 71 (.mv (.t 13)), oP 72 (.iaS 1 (.t 70) (.t 71)), oP 73 (.ld 1 false (.t 72)), oB 74 (.call 32 [(.t 73)]), oP 75 (.bin .sub (.t 68) (.t 74)), oP 9 (.mv (.t 75))]))) (.ops false [oP 76 (.bin .add (.t 65) (cI 1)), oP 65 (.mv (.t 76))]))
def c11_6 : C := (.seq (.ops false [oP 66 (.bin .lss (.t 65) (.t 64))]) (.seq (.cond (.t 66) .skip (.exit 2)) c11_5))
def c11_7 : C := (.seq (.ops false [oP 77 (.mv (.t 9)), oP 78 (.mv (.t 6)), oP 79 (.bin .eql (.t 77) (.t 78)), oP 80 (.mv (.t 79)), ⟨(.some 81), (.some (80, true)), (.call 30 []), 81, [], true⟩, oP 82 (.pick (.t 80) (.t 81) (cB false)), oP 2 (.mv (.t 82))]) .ret)
def c11_8 : C := (.seq (.seq (.ops false [oP 62 (.fa 0 (.t 5)), oP 63 (.ld 1 false (.t 62)), oP 64 (.len (.t 63)), oP 65 (.mv (cI 0))]) (.block 2 (.loop c11_6))) c11_7)
def c11_9 : C := (.seq (.ops false [oP 9 (.mv (cI 0))]) (.seq (.seq (.ops false [oP 39 (.fa 0 (.t 4)), oP 40 (.ld 1 false (.t 39)), oP 41 (.len (.t 40)), oP 42 (.mv (cI 0))]) (.block 0 (.loop c11_4))) c11_8))
def c11 : C := (.seq (.ops false [oP 2 (.mv (cB false))]) (.seq (.ops false [oP 14 (.mv (.t 0)), oP 15 (.call 14 [(.t 14)]), oP 3 (.mv (.t 15))]) (.seq (.ops false [oP 16 (.mv (.t 3)), oP 17 (.call 15 [(.t 16)]), oP 4 (.new [.mt, .mt, .mt, .mt, (.v (.int .i64 0)), (.v (.int .i64 0))]), oS (.st 6 (.t 4) (.t 17))]) (.seq (.ops false [oP 18 (.mv (.t 3)), oP 19 (.ld 6 true (.t 4)), oP 20 (.call 27 [(.t 18),
  (.t 19)]), oP 5 (.new [.mt, .mt, .mt]), oS (.st 3 (.t 5) (.t 20))]) (.seq (.ops false [oP 22 (.ld 6 true (.t 4)), oP 23 (.ld 3 true (.t 5)), oB 24 (.call 34 [(.t 22), (.t 23)]), oP 21 (.mv (.t 24)), oP 25 (.ext (.t 21) 0), oP 26 (.ext (.t 21) 1), oP 27 (.ext (.t 21) 2), oP 6 (.mv (.t 25)), oP 7 (.mv (.t 26)), oP 8 (.mv (.t 27))]) (.seq (.seq (.ops false [oP 28 (.mv (.t 8)),
  oP 29 (.bin .neq (.t 28) (cI 0)), oP 30 (.mv (.t 29)), oG 31 30 false (.mv (.t 6)), oG 32 30 false (.mv (.t 7)), oG 33 30 false (.bin .neq (.t 31) (.t 32)), oP 34 (.pick (.t 30) (cB true) (.t 33)), oP 35 (.mv (.t 34)), oG 36 35 false (.mv (.t 6)), oG 37 35 false (.bin .lss (.t 36) (cI 0)), oP 38 (.pick (.t 35) (cB true) (.t 37))]) (.cond (.t 38) (.seq (.ops false [oP 2 (.mv (cB false))]) .ret)
  .skip)) c11_9))))))
def r11 : List RV := [(.tmp 2)]
theorem c11_ok : ∃ code, Try.f11.body = some code ∧ compC Try.prog Try.f11.ntmps code = some (C.strip c11) := ⟨_, rfl, by kernel_rfl⟩
theorem r11_ok : compRes Try.prog Try.f11.results.toList = some r11 := by kernel_rfl
theorem f11_ok : fnOk Try.prog 11 = true := by kernel_rfl
end Go.Proofs.Ytiaenojpbiahgaa
