/- Layer 23 (inline): what Leaves and Tails do with one block. -/
import Derived.Test.YtokkngfgppikkabDa
import Derived.Test.YtokkngfgppikkabCm
namespace Go.Proofs.Ytokkngfgppikkab
set_option linter.unusedVariables false
set_option linter.unusedSimpArgs false
open Go.RowKit

/-- A block of the call's own, or of F0. -/
def MadeB (w : World) (F0 : Nat → Prop) (b : Block) (e : Ending) (w' : World) : Prop :=
  ∃ A c F, e = .returned (.agg (blockCells (.slice A b.ops.length c) b).toArray) ∧ OwnF oOp 56 w' (.slice A b.ops.length c) b.ops F ∧ (∀ x, F x → F0 x ∨ w.heap.size ≤ x) ∧ Below w.heap.size w w'

end Go.Proofs.Ytokkngfgppikkab
