/- Layer 23 (inline): called, Lying; the library's Clone of instructions. -/
import Derived.Test.YtokkngfgppikkabGc
import Derived.WalkSpells
namespace Go.Proofs.Ytokkngfgppikkab
set_option linter.unusedVariables false
set_option linter.unusedSimpArgs false
open Go.RowKit

/-- Instructions of the call's own. -/
def OwnOps (w : World) (e : Ending) (w' : World) (os : List Op) : Prop :=
  ∃ A c F, e = .returned (.slice A os.length c) ∧ OwnF oOp 56 w' (.slice A os.length c) os F ∧ (∀ b, F b → w.heap.size ≤ b) ∧ Below w.heap.size w w'
end Go.Proofs.Ytokkngfgppikkab
