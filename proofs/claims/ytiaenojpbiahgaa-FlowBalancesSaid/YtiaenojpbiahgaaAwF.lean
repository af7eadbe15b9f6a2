
/- Flow: the sanity check of the laws, run. -/
import Derived.Test.YtiaenojpbiahgaaHints
import Derived.Test.YtiaenojpbiahgaaVt
namespace Go.Proofs.Ytiaenojpbiahgaa
open Go
set_option linter.unusedVariables false
set_option linter.unusedSimpArgs false
set_option maxRecDepth 100000

theorem f30_ok : fnOk Try.prog 30 = true := by kernel_rfl
theorem awake16_c (nn : Nm) : CallsA Try.prog 30 [] Hp.none nn (Pu (db true) Hp.none) := run_c mixed hints 200 30 (by kernel_rfl)
end Go.Proofs.Ytiaenojpbiahgaa
