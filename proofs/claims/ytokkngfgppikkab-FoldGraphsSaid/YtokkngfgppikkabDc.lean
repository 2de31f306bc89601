/- Layer 23 (inline): what Tails does with one block. -/
import Derived.Test.YtokkngfgppikkabDb
namespace Go.Proofs.Ytokkngfgppikkab
set_option linter.unusedVariables false
set_option linter.unusedSimpArgs false
open Go.RowKit

end Go.Proofs.Ytokkngfgppikkab
