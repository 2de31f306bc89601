/- The laws of layer 23: InlineGraphs returns true. -/
import Derived.Test.YtokkngfgppikkaaDi
import Derived.Test.YtokkngfgppikkaaGd
namespace Go.Proofs.Ytokkngfgppikkaa
set_option linter.unusedVariables false
set_option linter.unusedSimpArgs false
open Go.RowKit

theorem own_gs_read {w : World} {A : Option Addr} {c n : Nat} {gs : List Graph} {F : Nat → Prop} (h : OwnF oGraph 33 w (.slice A n c) gs F) : kGraph.C w A gs := by
  obtain ⟨A', c', e, -, -, hC⟩ := h.read
  injection e with e1 e2 e3
  rw [e1]
  exact hC

end Go.Proofs.Ytokkngfgppikkaa
