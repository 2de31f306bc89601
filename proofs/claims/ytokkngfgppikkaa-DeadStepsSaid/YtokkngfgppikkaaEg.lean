/- LiveBefore returns true. Printed by genEg.py of this repository. -/
import Derived.Test.YtokkngfgppikkaaEf
import Derived.Test.YtokkngfgppikkaaGc
namespace Go.Proofs.Ytokkngfgppikkaa
set_option linter.unusedVariables false
set_option linter.unusedSimpArgs false
open Go.RowKit

theorem u8_bounds' {x : Int} (h : (Lit.int .u8 x).wf = true) : 0 ≤ x ∧ x ≤ 255 := by
  simp [Lit.wf] at h
  have h1 : IntKind.u8.min = 0 := by decide
  have h2 : IntKind.u8.max = 255 := by decide
  omega
theorem u16_nat {x : Int} (h : (Lit.int .u16 x).wf = true) : ∃ n : Nat, x = n ∧ n < 65536 := by
  simp [Lit.wf] at h
  have h1 : IntKind.u16.min = 0 := by decide
  have h2 : IntKind.u16.max = 65535 := by decide
  exact ⟨x.toNat, by omega, by omega⟩
theorem tmod_index' {x : Int} {n : Nat} (h0 : 0 ≤ x) (hn : 0 < n) : ∃ i : Nat, i < n ∧ x.tmod n = i := by
  refine ⟨(x.tmod n).toNat, ?_, ?_⟩
  · rw [Int.tmod_eq_emod_of_nonneg h0]
    have := Int.emod_lt_of_pos x (show (0 : Int) < n by omega)
    have := Int.emod_nonneg x (show (n : Int) ≠ 0 by omega)
    omega
  · rw [Int.tmod_eq_emod_of_nonneg h0]
    have := Int.emod_nonneg x (show (n : Int) ≠ 0 by omega)
    omega
theorem andNot_one {n : Nat} (h : n < 65536) : bits BinOp.andNot IntKind.u16 (n : Int) 1 = ((n &&& 65534 : Nat) : Int) := u16_andNot_nat n 1 h (by decide)
theorem even_bit (n : Nat) : (n &&& 65534).testBit 0 = false := by
  rw [Nat.testBit_and, show (65534 : Nat).testBit 0 = false from by decide, Bool.and_false]

end Go.Proofs.Ytokkngfgppikkaa
