/- A row of bools of the call's own; what turns in it alone. -/
import Derived.Test.YtobhjjbhlnbcpaaLb
import Derived.Laws.OwnMore
namespace Go.Proofs.Ytobhjjbhlnbcpaa
set_option linter.unusedVariables false
set_option linter.unusedSimpArgs false
open Go.RowKit

/-- Block number g is a row of these bools. -/
def RowB (w : World) (g : Nat) (bs : List Bool) : Prop := w.heap[g]? = some (.cells (bs.map Value.bool).toArray 4 (0, 0))
theorem RowB.lt {w : World} {g : Nat} {bs : List Bool} (h : RowB w g bs) : g < w.heap.size := (Array.getElem?_eq_some_iff.1 h).1
theorem RowB.cell {w : World} {g : Nat} {bs : List Bool} (h : RowB w g bs) {i : Nat} {b : Bool} (hi : bs[i]? = some b) : w.cell? ⟨g, i, none⟩ = some (.bool b) := by
  rw [cell_of_row w g i _ _ _ h]
  simp [hi]
theorem RowB.frozen {w : World} {g : Nat} {bs : List Bool} (h : RowB w g bs) (i : Nat) : w.frozen? ⟨g, i, none⟩ = false := frozen_of_row w g i _ _ h
theorem RowB.below {w w' : World} {g : Nat} {bs : List Bool} (h : RowB w g bs) (hb : Below w.heap.size w w') : RowB w' g bs := by
  unfold RowB
  rw [hb.block g h.lt]
  exact h
theorem RowB.apart {w w' : World} {g : Nat} {bs : List Bool} {r : Option Nat} (h : RowB w g bs) (hg : w.grownBy w' r) (hne : r ≠ some g) : RowB w' g bs := by
  unfold RowB
  rw [hg.block g h.lt (fun e => hne e.symm)]
  exact h
theorem RowB.set {w : World} {g : Nat} {bs : List Bool} (h : RowB w g bs) (i : Nat) (b : Bool) : RowB (w.setCell ⟨g, i, none⟩ (.bool b)) g (bs.set i b) ∧ w.grownBy (w.setCell ⟨g, i, none⟩ (.bool b)) (some g) := by
  refine ⟨?_, ⟨rfl, rfl, rfl, by simp, fun k _ hk => heap_setCell_other w ⟨g, i, none⟩ k _ (fun e => hk (by simp [e]))⟩⟩
  unfold RowB
  rw [heap_setCell_same w g i _ _ _ h]
  congr 1
  congr 1
  apply Array.toList_inj.1
  simp
theorem RowB.alloc {w : World} {g : Nat} {bs : List Bool} (h : RowB w g bs) (o : Obj) : RowB (w.alloc o) g bs := h.below ((Below.refl _ _).alloc (Nat.le_refl _) _)

theorem infoBool : (Try.prog.info? 4).map (fun i => (i.zero, i.size, i.bytes)) = some (some (.bool false), 1, 1) := by kernel_rfl
theorem make_bools (n : Nat) (hn : n ≤ 1000000) (w : World) : ∃ w', (Instr.makeSlice 48 (.int .i64 (n : Int)) (.int .i64 (n : Int))).run Try.prog w = .ok (.slice (some ⟨w.heap.size, 0, none⟩) n n) w' ∧ RowB w' w.heap.size (List.replicate n false) ∧ Below w.heap.size w w' ∧ w'.heap.size = w.heap.size + 1 := by
  obtain ⟨i0, hi, hz0, hz1, hz2⟩ := info_parts infoBool
  have h := run_make (P := Try.prog) w 48 4 i0 (.bool false) Try.underlying48 hi hz0 .i64 .i64 n n (by omega) (Int.le_refl _) (by rw [hz2]; omega) (by omega)
  refine ⟨_, h, ?_, (Below.refl _ _).alloc (Nat.le_refl _) _, by simp⟩
  unfold RowB
  rw [heap_alloc_new]
  congr 1
  congr 1
  apply Array.toList_inj.1
  rw [hz1]
  simp only [Int.toNat_natCast, Nat.mul_one]
  apply List.ext_getElem?
  intro j
  by_cases hj : j < n
  · simp [madeCells, hj, List.getElem?_replicate, Value.cells, Nat.mod_one]
  · simp [madeCells, hj, List.getElem?_replicate]

theorem grown_trans {w w1 w2 : World} {r : Option Nat} (h : w.grownBy w1 r) (k : w1.grownBy w2 r) : w.grownBy w2 r :=
  ⟨k.os.trans h.os, k.tape.trans h.tape, k.output.trans h.output, Nat.le_trans h.size k.size, fun i hi hn => (k.block i (Nat.lt_of_lt_of_le hi h.size) hn).trans (h.block i hi hn)⟩
theorem grown_refl (w : World) (r : Option Nat) : w.grownBy w r := ⟨rfl, rfl, rfl, Nat.le_refl _, fun _ _ _ => rfl⟩
theorem grown_below {w w1 : World} {r : Option Nat} (h : Below w.heap.size w w1) : w.grownBy w1 r := ⟨h.os, h.tape, h.output, h.size, fun k hk _ => h.block k hk⟩
end Go.Proofs.Ytobhjjbhlnbcpaa
