/- The document's Leaves. -/
import Derived.Test.YtokkngfgppikkaaGc
import Derived.Test.YtokkngfgppikkaaDe
namespace Go.Proofs.Ytokkngfgppikkaa
set_option linter.unusedVariables false
set_option linter.unusedSimpArgs false
open Go.RowKit

end Go.Proofs.Ytokkngfgppikkaa
