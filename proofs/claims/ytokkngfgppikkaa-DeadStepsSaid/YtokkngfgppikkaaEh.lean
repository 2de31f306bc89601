/- LiveKeeps returns true. Printed by genEh.py of this repository. -/
import Derived.Test.YtokkngfgppikkaaEg
import Derived.Test.YtokkngfgppikkaaGd
namespace Go.Proofs.Ytokkngfgppikkaa
set_option linter.unusedVariables false
set_option linter.unusedSimpArgs false
open Go.RowKit

theorem own_bs_read {w : World} {A : Option Addr} {c n : Nat} {bs : List Block} {F : Nat → Prop} (h : OwnF oBlock 42 w (.slice A n c) bs F) : kBlock.C w A bs := by
  obtain ⟨A', c', e, -, -, hC⟩ := h.read
  injection e with e1 e2 e3
  rw [e1]
  exact hC
theorem yU {w : World} {A : Option Addr} {n c : Nat} {xs : List Nat} {F : Nat → Prop} (h : OwnF oU 83 w (.slice A n c) xs F) : kU.C w A xs := by
  obtain ⟨A', c', e, -, -, hC⟩ := h.read
  injection e with e1 e2 e3
  rw [e1]
  exact hC

end Go.Proofs.Ytokkngfgppikkaa
