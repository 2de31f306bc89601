/- The laws of layer 23: InlineKeeps returns true. -/
import Derived.Test.YtokkngfgppikkaaDi
import Derived.Test.YtokkngfgppikkaaDj
import Derived.Test.YtokkngfgppikkaaGc
namespace Go.Proofs.Ytokkngfgppikkaa
set_option linter.unusedVariables false
set_option linter.unusedSimpArgs false
open Go.RowKit

theorem blk_wf (os : List Op) : (⟨os, Term.zero⟩ : Block).wf := by
  have z : (Lit.int .i64 0).wf = true := Wf64 (by omega)
  exact ⟨z, z, z, z, z, z, z, z, z, z, z⟩
theorem op_wf0 : Op.zero.wf := by
  have z : (Lit.int .i64 0).wf = true := Wf64 (by omega)
  exact ⟨z, z, z, z, z, z, z, z⟩

end Go.Proofs.Ytokkngfgppikkaa
