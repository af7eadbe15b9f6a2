/- The walk of TankRoom. -/
import Derived.Test.YtmhncojjpalmeaaTankLaws2
namespace Go.Proofs.Ytmhncojjpalmeaa
open Go.RowKit
set_option linter.unusedVariables false
set_option linter.unusedSimpArgs false

end Go.Proofs.Ytmhncojjpalmeaa
