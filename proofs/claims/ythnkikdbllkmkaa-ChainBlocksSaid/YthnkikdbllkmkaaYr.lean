/- spliceref17.Ordered, of an order that has each block once. -/
import Derived.Test.YthnkikdbllkmkaaYq
namespace Go.Proofs.Ythnkikdbllkmkaa
set_option linter.unusedVariables false
set_option linter.unusedSimpArgs false
open Go.RowKit Go.Lib
attribute [local go_sem] run_store_float

theorem CellsN.belowAt {w w' : World} {A : Option Addr} {xs : List Nat} (h : CellsN w A xs) (hb : Below w.heap.size w w') : CellsN w' A xs := fun i x hx => by
  obtain ⟨g, e, hg, hc⟩ := h i x hx
  exact ⟨g, e, Nat.lt_of_lt_of_le hg hb.size, (Below.cell hb (World.lt_of_cell hc)).trans hc⟩
theorem count_nodup {l : List Nat} (h : l.Nodup) {j : Nat} (hj : j ∈ l) : l.count j = 1 := by
  induction l with
  | nil => cases hj
  | cons x r ih =>
    rw [List.nodup_cons] at h
    rw [List.count_cons]
    by_cases e : x = j
    · subst e
      rw [List.count_eq_zero_of_not_mem h.1]
      simp
    · rw [ih h.2 (by rcases List.mem_cons.1 hj with h | h; exact absurd h.symm e; exact h)]
      simp [e]
theorem count_take {l : List Nat} {k x : Nat} (h : l[k]? = some x) (j : Nat) : (l.take (k + 1)).count j = (l.take k).count j + (if x = j then 1 else 0) := by
  rw [take_snoc h, List.count_append, List.count_singleton]
  by_cases e : x = j
  · simp [e]
  · simp [e]
theorem count_take_le (l : List Nat) (k j : Nat) : (l.take k).count j ≤ l.length := by
  have h1 := List.count_le_length (a := j) (l := l.take k)
  simp at h1
  omega

def FC2 (b : Block) : List Value := finCells b.fin
end Go.Proofs.Ythnkikdbllkmkaa
