/- The two ways to say what an instruction is agree. -/
import Derived.Test.YtobhjjbhlnbcpaaPc
namespace Go.Proofs.Ytobhjjbhlnbcpaa
set_option linter.unusedVariables false
set_option linter.unusedSimpArgs false

theorem Ins.right_a {op a b c imm : Int} (h : Ins.right ⟨op, a, b, c, imm⟩ = true) : 0 ≤ a ∧ a ≤ 15 := by
  unfold Ins.right three near branch far one reg at h
  repeat' split at h
  all_goals simp_all
  all_goals omega
theorem writes_eq {op a b c imm : Int} (h : Ins.right ⟨op, a, b, c, imm⟩ = true) : writes op a = refWrites op a := by
  have ha := Ins.right_a h
  unfold writes refWrites
  by_cases h1 : (1 ≤ op ∧ op ≤ 11 ∨ op = 13 ∨ op = 22) ∧ a ≠ 0
  · rw [if_pos h1, if_pos (by omega)]
  · rw [if_neg h1, if_neg (by omega)]
end Go.Proofs.Ytobhjjbhlnbcpaa
