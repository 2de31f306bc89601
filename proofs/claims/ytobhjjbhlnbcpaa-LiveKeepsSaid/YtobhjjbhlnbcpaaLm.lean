/- Slices of the call's own, of whatever kind: how they grow, and what reads of them. -/
import Derived.Test.YtobhjjbhlnbcpaaWc
import Derived.Laws.AppendOwnNone
import Derived.Laws.OwnMore
import Derived.Maps.AppendAt
import Derived.Lib.RowBridge
namespace Go.Proofs.Ytobhjjbhlnbcpaa
set_option linter.unusedVariables false
set_option linter.unusedSimpArgs false
open Go.RowKit

/-- The world with some blocks emptied. -/
def hideW (w : World) (S : Nat → Bool) : World := { w with heap := w.heap.mapIdx (fun i o => if S i = true then .cells #[] 0 (0, 0) else o) }
theorem hide_cell {w : World} {S : Nat → Bool} {a : Addr} {v : Value} : (hideW w S).cell? a = some v ↔ S a.block = false ∧ w.cell? a = some v := by
  unfold hideW World.cell?
  simp only [Array.getElem?_mapIdx]
  cases hS : S a.block with
  | true => cases hh : w.heap[a.block]? <;> simp [hS]
  | false => cases hh : w.heap[a.block]? <;> simp [hS]
theorem hide_sub {w : World} {S : Nat → Bool} : Sub (hideW w S) w := fun a v h => (hide_cell.1 h).2
/-- What read in an elder world reads when blocks that it did not have are hid. -/
theorem sub_hide {w0 w : World} {S : Nat → Bool} (hb : Below w0.heap.size w0 w) (hr : ∀ g, S g = true → w0.heap.size ≤ g) : Sub w0 (hideW w S) := fun a v h =>
  hide_cell.2 ⟨by
    cases hS : S a.block with
    | false => rfl
    | true => have := hr _ hS; have := World.lt_of_cell h; omega, (hb.cell (World.lt_of_cell h)).trans h⟩
/-- The blocks of S, and v's own row. -/
def withRow (S : Nat → Bool) (v : Value) : Nat → Bool := fun g => S g || v.ownBlock == some g
theorem withRow_false {S : Nat → Bool} {v : Value} {g : Nat} : withRow S v g = false ↔ S g = false ∧ v.ownBlock ≠ some g := by
  unfold withRow
  rw [Bool.or_eq_false_iff, beq_eq_false_iff_ne]

theorem Sub.hide {w w' : World} {S : Nat → Bool} (hb : Below w.heap.size w w') : Sub (hideW w S) (hideW w' S) := fun a v h => by
  obtain ⟨h1, h2⟩ := hide_cell.1 h
  exact hide_cell.2 ⟨h1, (Sub.of_below hb) _ _ h2⟩
/-- A slice of the call's own, from block number base on; what its elements tell does not lie in its own row, nor in the blocks of S. -/
def OwnK {α : Type} (k : Kd α) (T : TypeId) (S : Nat → Bool) (w : World) (base : Nat) (v : Value) (xs : List α) : Prop :=
  ∃ css : List (List Value), css.length = xs.length ∧ (∀ (i : Nat) (x : α) (cs : List Value), xs[i]? = some x → css[i]? = some cs → k.K (hideW w (withRow S v)) x cs) ∧ w.ownsRow base T k.size v xs.length css.flatten
theorem OwnK.nil {α : Type} (k : Kd α) (T : TypeId) (S : Nat → Bool) (w : World) (base : Nat) : OwnK k T S w base (.slice none 0 0) [] :=
  ⟨[], rfl, fun i x cs h => by simp at h, World.ownsRow_nil w base T k.size⟩
theorem OwnK.empty {α : Type} (k : Kd α) (T : TypeId) (S : Nat → Bool) (w : World) (base : Nat) (hb : base ≤ w.heap.size) : OwnK k T S (w.alloc (.cells #[] T)) base (.slice (some ⟨w.heap.size, 0, none⟩) 0 0) [] :=
  ⟨[], rfl, fun i x cs h => by simp at h, World.ownsRow_lit w #[] 0 hb (Nat.zero_le _) (by simp)⟩
theorem OwnK.mono {α : Type} {k : Kd α} {T : TypeId} {S : Nat → Bool} {w : World} {base base' : Nat} {v : Value} {xs : List α} (h : OwnK k T S w base v xs) (hb : base' ≤ base) : OwnK k T S w base' v xs := by
  obtain ⟨css, h1, h2, h3, h4⟩ := h
  refine ⟨css, h1, h2, h3, ?_⟩
  rcases h4 with h4 | ⟨g, cap, cur, e, h5, h6⟩
  · exact .inl h4
  · exact .inr ⟨g, cap, cur, e, Nat.le_trans hb h5, h6⟩
theorem OwnK.block {α : Type} {k : Kd α} {T : TypeId} {S : Nat → Bool} {w : World} {base : Nat} {v : Value} {xs : List α} (h : OwnK k T S w base v xs) : ∀ g, v.ownBlock = some g → base ≤ g ∧ g < w.heap.size := by
  obtain ⟨css, h1, h2, h3⟩ := h
  exact h3.lt
theorem OwnK.below {α : Type} {k : Kd α} {T : TypeId} {S : Nat → Bool} {w w' : World} {base : Nat} {v : Value} {xs : List α} (h : OwnK k T S w base v xs) (hb : Below w.heap.size w w') : OwnK k T S w' base v xs := by
  obtain ⟨css, h1, h2, h3⟩ := h
  refine ⟨css, h1, fun i x cs hx hc => k.sub (fun a u hu => ?_) (h2 i x cs hx hc), h3.kept (row := none) ⟨hb.os, hb.tape, hb.output, hb.size, fun j hj _ => hb.block j hj⟩ (by cases v.ownBlock <;> simp)⟩
  obtain ⟨h4, h5⟩ := hide_cell.1 hu
  exact hide_cell.2 ⟨h4, (hb.cell (World.lt_of_cell h5)).trans h5⟩
theorem OwnK.read {α : Type} {k : Kd α} {T : TypeId} {S : Nat → Bool} {w : World} {base : Nat} {v : Value} {xs : List α} (h : OwnK k T S w base v xs) : ∃ A c, v = .slice A xs.length c ∧ xs.length ≤ c ∧ c ≤ maxLen ∧ k.C w A xs := by
  obtain ⟨css, h1, h2, h3⟩ := h
  have h4 := h3.2
  rcases h4 with ⟨rfl, h5⟩ | ⟨g, cap, cur, rfl, h5, h6, h7, h8, h9, h10⟩
  · have : xs = [] := List.eq_nil_of_length_eq_zero h5
    subst this
    exact ⟨none, 0, rfl, Nat.le_refl _, Nat.zero_le _, C_nil k w none⟩
  · refine ⟨_, _, rfl, h7, h8, fun i x hx => ?_⟩
    obtain ⟨cs, hcs⟩ := get_some css i (by rw [h1]; exact (List.getElem?_eq_some_iff.1 hx).1)
    have hall : ∀ cs ∈ css, cs.length = k.size := by
      intro cs hcs
      obtain ⟨i, hi⟩ := List.mem_iff_getElem?.1 hcs
      obtain ⟨x, hx⟩ := get_some xs i (by rw [← h1]; exact (List.getElem?_eq_some_iff.1 hi).1)
      exact k.len (h2 i x cs hx hi)
    exact ⟨_, cs, rfl, k.sub hide_sub (h2 i x cs hx hcs), fun j u hu => h3.cells rfl _ u (flatten_get hall hcs hu)⟩
/-- What reads of it when the blocks of S are hid. -/
theorem OwnK.readS {α : Type} {k : Kd α} {T : TypeId} {S : Nat → Bool} {w : World} {base : Nat} {v : Value} {xs : List α} (h : OwnK k T S w base v xs) (hv : ∀ g, v.ownBlock = some g → S g = false) : ∃ A c, v = .slice A xs.length c ∧ xs.length ≤ c ∧ c ≤ maxLen ∧ k.C (hideW w S) A xs := by
  obtain ⟨css, h1, h2, h3⟩ := h
  have h4 := h3.2
  rcases h4 with ⟨rfl, h5⟩ | ⟨g, cap, cur, rfl, h5, h6, h7, h8, h9, h10⟩
  · have : xs = [] := List.eq_nil_of_length_eq_zero h5
    subst this
    exact ⟨none, 0, rfl, Nat.le_refl _, Nat.zero_le _, C_nil k _ none⟩
  · refine ⟨_, _, rfl, h7, h8, fun i x hx => ?_⟩
    obtain ⟨cs, hcs⟩ := get_some css i (by rw [h1]; exact (List.getElem?_eq_some_iff.1 hx).1)
    have hall : ∀ cs ∈ css, cs.length = k.size := by
      intro cs hcs
      obtain ⟨i, hi⟩ := List.mem_iff_getElem?.1 hcs
      obtain ⟨x, hx⟩ := get_some xs i (by rw [← h1]; exact (List.getElem?_eq_some_iff.1 hi).1)
      exact k.len (h2 i x cs hx hi)
    refine ⟨_, cs, rfl, k.sub (fun a u hu => ?_) (h2 i x cs hx hcs), fun j u hu => ?_⟩
    · obtain ⟨h11, h12⟩ := hide_cell.1 hu
      exact hide_cell.2 ⟨(withRow_false.1 h11).1, h12⟩
    · refine hide_cell.2 ⟨?_, h3.cells rfl _ u (flatten_get hall hcs hu)⟩
      have : ((⟨g, 0, none⟩ : Addr).add (i * k.size + j)).block = g := by unfold Addr.add; split <;> rfl
      rw [this]
      exact hv g rfl
/-- What turns in the blocks of S alone leaves it. -/
theorem OwnK.turn {α : Type} {k : Kd α} {T : TypeId} {S : Nat → Bool} {w w' : World} {base : Nat} {v : Value} {xs : List α} (h : OwnK k T S w base v xs) (hh : ∀ b, b < w.heap.size → S b = false → w'.heap[b]? = w.heap[b]?) (hv : ∀ g, v.ownBlock = some g → S g = false) : OwnK k T S w' base v xs := by
  obtain ⟨css, h1, h2, h3, h4⟩ := h
  refine ⟨css, h1, fun i x cs hx hc => k.sub (fun a u hu => ?_) (h2 i x cs hx hc), h3, ?_⟩
  · obtain ⟨h5, h6⟩ := hide_cell.1 hu
    exact hide_cell.2 ⟨h5, (World.cell?_of_block (a := a) (hh a.block (World.lt_of_cell h6) (withRow_false.1 h5).1)).trans h6⟩
  · rcases h4 with h4 | ⟨g, cap, cur, rfl, h5, h6, h7⟩
    · exact .inl h4
    · exact .inr ⟨g, cap, cur, rfl, h5, (hh g (Array.getElem?_eq_some_iff.1 h6).1 (hv g rfl)).trans h6, h7⟩
def noS : Nat → Bool := fun _ => false
end Go.Proofs.Ytobhjjbhlnbcpaa
