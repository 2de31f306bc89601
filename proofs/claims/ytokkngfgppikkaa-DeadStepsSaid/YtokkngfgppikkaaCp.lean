/- calls.Reach. -/
import Derived.Test.YtokkngfgppikkaaCo
import Derived.Laws.EntriesVeiled
namespace Go.Proofs.Ytokkngfgppikkaa
set_option linter.unusedVariables false
set_option linter.unusedSimpArgs false
open Go.RowKit

/-- A row of bools that a call has made: those that are reached. -/
def MadeReach (w : World) (gs : List Graph) (s : Nat) (e : Ending) (w' : World) : Prop := ∃ g ys, e = .returned (.slice (some ⟨g, 0, none⟩) gs.length gs.length) ∧ RowB w' g ys ∧ IsReach gs s ys ∧ w.heap.size ≤ g ∧ Below w.heap.size w w'

theorem cell_past {w : World} {o : Obj} {a : Addr} {v : Value} (h : w.cell? a = some v) : (w.alloc o).cell? a = some v := (((Below.refl _ _).alloc (Nat.le_refl _) o).cell (World.lt_of_cell h)).trans h

end Go.Proofs.Ytokkngfgppikkaa
