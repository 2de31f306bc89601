/- The document's Leaves. -/
import Derived.Test.YtokkngfgppikkabGc
import Derived.Test.YtokkngfgppikkabDe
namespace Go.Proofs.Ytokkngfgppikkab
set_option linter.unusedVariables false
set_option linter.unusedSimpArgs false
open Go.RowKit

end Go.Proofs.Ytokkngfgppikkab
