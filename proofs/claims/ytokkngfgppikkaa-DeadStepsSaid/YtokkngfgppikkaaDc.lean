/- Layer 23 (inline): what Tails does with one block. -/
import Derived.Test.YtokkngfgppikkaaDb
namespace Go.Proofs.Ytokkngfgppikkaa
set_option linter.unusedVariables false
set_option linter.unusedSimpArgs false
open Go.RowKit

end Go.Proofs.Ytokkngfgppikkaa
