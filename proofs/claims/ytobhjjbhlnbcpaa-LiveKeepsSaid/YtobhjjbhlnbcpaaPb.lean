/- What an instruction writes, reads, where it leads, as plain functions: the program's and the document's. -/
import Derived.Test.YtobhjjbhlnbcpaaPa
import Derived.Lib.RowBridge
namespace Go.Proofs.Ytobhjjbhlnbcpaa
set_option linter.unusedVariables false
set_option linter.unusedSimpArgs false

def fkind (op : Int) : Int :=
  if op = 11 ∨ op = 12 ∨ op = 13 ∨ op = 14 ∨ op = 22 ∨ op = 23 then 1 else if 15 ≤ op ∧ op ≤ 18 then 2 else if op = 19 then 3 else if op = 20 then 4 else if op = 0 ∨ op = 21 ∨ op = 25 then 5 else 0
theorem fkind_kindOf {op : Int} (h0 : 0 ≤ op) (h1 : op < 26) : fkind op = kindOf op := by
  have : op = 0 ∨ op = 1 ∨ op = 2 ∨ op = 3 ∨ op = 4 ∨ op = 5 ∨ op = 6 ∨ op = 7 ∨ op = 8 ∨ op = 9 ∨ op = 10 ∨ op = 11 ∨ op = 12 ∨ op = 13 ∨ op = 14 ∨ op = 15 ∨ op = 16 ∨ op = 17 ∨ op = 18 ∨ op = 19 ∨ op = 20 ∨ op = 21 ∨ op = 22 ∨ op = 23 ∨ op = 24 ∨ op = 25 := by omega
  rcases this with rfl | rfl | rfl | rfl | rfl | rfl | rfl | rfl | rfl | rfl | rfl | rfl | rfl | rfl | rfl | rfl | rfl | rfl | rfl | rfl | rfl | rfl | rfl | rfl | rfl | rfl <;> rfl
/-- The register that an instruction writes; -1: none. -/
def writes (op a : Int) : Int := if (1 ≤ op ∧ op ≤ 11 ∨ op = 13 ∨ op = 22) ∧ a ≠ 0 then a else -1
def refWrites (op a : Int) : Int := if 0 < a ∧ (0 < op ∧ op < 12 ∨ op = 13 ∨ op = 22) then a else -1
def flip (op : Int) : Int := if op = 15 ∨ op = 17 then op + 1 else if op = 16 ∨ op = 18 then op - 1 else -1
def falls (op : Int) : Bool := fkind op != 3 && fkind op != 5
def rawReads (op a b c : Int) : List Int :=
  if 1 ≤ op ∧ op ≤ 7 then [c, b] else if op = 8 ∨ op = 10 ∨ op = 11 ∨ op = 13 then [b] else if op = 12 ∨ 14 ≤ op ∧ op ≤ 18 then [b, a] else if op = 0 ∨ op = 23 then [a] else []
/-- Does an instruction read a register? -/
def refReads (op a b c r : Int) : Bool :=
  if r = 0 then false else
  (op == 0 || op == 12 || decide (14 ≤ op) && decide (op ≤ 18) || op == 23) && a == r || (decide (1 ≤ op) && decide (op ≤ 8) || decide (10 ≤ op) && decide (op ≤ 18)) && b == r || (decide (1 ≤ op) && decide (op ≤ 7)) && c == r
theorem refReads_iff {op a b c r : Int} : refReads op a b c r = true ↔ r ≠ 0 ∧ ((op = 0 ∨ op = 12 ∨ 14 ≤ op ∧ op ≤ 18 ∨ op = 23) ∧ a = r ∨ (1 ≤ op ∧ op ≤ 8 ∨ 10 ≤ op ∧ op ≤ 18) ∧ b = r ∨ (1 ≤ op ∧ op ≤ 7) ∧ c = r) := by
  unfold refReads
  by_cases h : r = 0
  · simp [h]
  · rw [if_neg h]
    simp [h]
    omega
def refList (op a b c : Int) : List Int := ((List.range 15).map fun (i : Nat) => ((i : Int) + 1)).filter fun r => refReads op a b c r
end Go.Proofs.Ytobhjjbhlnbcpaa
