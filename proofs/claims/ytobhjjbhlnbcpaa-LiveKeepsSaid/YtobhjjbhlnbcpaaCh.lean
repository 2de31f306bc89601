/- The reference's list of what an instruction reads; comparing lists of ints. -/
import Derived.Test.YtobhjjbhlnbcpaaCg
namespace Go.Proofs.Ytobhjjbhlnbcpaa
set_option linter.unusedVariables false
set_option linter.unusedSimpArgs false
open Go.RowKit

def refUpTo (op a b c : Int) (n : Nat) : List Int := ((List.range n).map fun (i : Nat) => ((i : Int) + 1)).filter fun r => refReads op a b c r
theorem refUpTo_succ (op a b c : Int) (n : Nat) : refUpTo op a b c (n + 1) = refUpTo op a b c n ++ (if refReads op a b c ((n : Int) + 1) = true then [(n : Int) + 1] else []) := by
  unfold refUpTo
  rw [List.range_succ, List.map_append, List.filter_append]
  congr 1
  by_cases h : refReads op a b c ((n : Int) + 1) = true <;> simp [h]
theorem refUpTo_len (op a b c : Int) (n : Nat) : (refUpTo op a b c n).length ≤ n := by
  unfold refUpTo
  exact Nat.le_trans (List.length_filter_le _ _) (by simp)

/-- The cells of a slice of ints. -/
def CellsI (w : World) (A : Option Addr) (xs : List Int) : Prop := ∀ i x, xs[i]? = some x → ∃ ad, A = some ad ∧ w.cell? (ad.add i) = some (.int .i64 x)
theorem CellsI.below {w w' : World} {A : Option Addr} {xs : List Int} (h : CellsI w A xs) (hb : Below w.heap.size w w') : CellsI w' A xs := by
  intro i x hx
  obtain ⟨ad, e, hc⟩ := h i x hx
  exact ⟨ad, e, (hb.cell (World.lt_of_cell hc)).trans hc⟩
theorem CellsI.of_C {w : World} {A : Option Addr} {xs : List Int} (h : (Kd.int .i64).C w A xs) : CellsI w A xs := by
  intro i x hx
  obtain ⟨ad, e, hc⟩ := ints_at h hx
  exact ⟨ad, e, hc⟩
theorem OwnI.read {w : World} {base : Nat} {v : Value} {xs : List Int} (h : OwnI w base v xs) : ∃ A c, v = .slice A xs.length c ∧ xs.length ≤ c ∧ c ≤ maxLen ∧ CellsI w A xs := by
  obtain ⟨A, c, e, h1, h2, h3⟩ := h.cells
  refine ⟨A, c, e, h1, h2, fun i x hx => ?_⟩
  obtain ⟨g, e1, h4, _⟩ := h3 i x hx
  refine ⟨_, e1, ?_⟩
  unfold Addr.add
  by_cases h0 : i = 0
  · rw [if_pos h0]; subst h0; exact h4
  · rw [if_neg h0]; simpa using h4

theorem take_eq_snoc {xs ys : List Int} {k : Nat} {x y : Int} (hx : xs[k]? = some x) (hy : ys[k]? = some y) (h : xs.take k = ys.take k) (e : x = y) : xs.take (k + 1) = ys.take (k + 1) := by
  rw [take_snoc hx, take_snoc hy, h, e]

end Go.Proofs.Ytobhjjbhlnbcpaa
