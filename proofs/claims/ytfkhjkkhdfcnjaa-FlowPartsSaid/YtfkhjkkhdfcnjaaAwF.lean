
/- Flow: the sanity check of the laws, run. -/
import Derived.Test.YtfkhjkkhdfcnjaaHints
import Derived.Test.YtfkhjkkhdfcnjaaVt
namespace Go.Proofs.Ytfkhjkkhdfcnjaa
open Go
set_option linter.unusedVariables false
set_option linter.unusedSimpArgs false
set_option maxRecDepth 100000

theorem f29_ok : fnOk Try.prog 29 = true := by kernel_rfl
theorem awake16_c (nn : Nm) : CallsA Try.prog 29 [] Hp.none nn (Pu (db true) Hp.none) := run_c mixed hints 200 30 (by kernel_rfl)
end Go.Proofs.Ytfkhjkkhdfcnjaa
