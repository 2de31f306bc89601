/- calls.Reach. -/
import Derived.Test.YtokkngfgppikkaaGc
import Derived.Test.YtokkngfgppikkaaGh
namespace Go.Proofs.Ytokkngfgppikkaa
set_option linter.unusedVariables false
set_option linter.unusedSimpArgs false
open Go.RowKit

end Go.Proofs.Ytokkngfgppikkaa
