/- Loads and stores of what is known, as whole rows. -/
import Derived.Test.YtokkngfgppikkabKa
import Derived.Test.YtokkngfgppikkabKb
namespace Go.Proofs.Ytokkngfgppikkab
set_option linter.unusedVariables false
set_option linter.unusedSimpArgs false
open Go.RowKit

theorem infoKnown {k : Known} (h : k.wf) : (Try.prog.info? 77).map (·.size) = some (knownCells k).length := by
  rw [knownCells_len h]
  kernel_rfl
theorem infoKnown' {k : Known} (h : k.wf) : (Try.prog.info? 77).map (·.size) = some (knownCells k).toArray.size := by
  rw [infoKnown h]
  simp
section
variable {ops : Array Oper} {rest : List Oper} {o : Oper} {a : Act} {w : World} {K : Act → World → Prop} {Q : Exit → Act → World → Prop} {k : Known} {g : Nat}
theorem wpList_load_known (x : Operand) (k : Known) (g : Nat) (hw : k.wf) (hR : Row w g 77 (knownCells k)) (hgd : o.guard = none) (ho : o.op = .load 77 x) (hx : a.eval x = .pointer (some ⟨g, 0, none⟩))
    (h : wpList Try.prog ops Q rest (a.put o.dst (.agg (knownCells k).toArray)) w) : wpList Try.prog ops Q (o :: rest) a w :=
  wpList_load_row hgd _ x ho g hx 77 _ (0, 0) _ hR Try.underlying77 rfl (infoKnown' hw) h
theorem wpList_load_knownAt (x : Operand) (k : Known) (g off : Nat) (hw : k.wf) (hR : w.rangeAt g off (knownCells k)) (hgd : o.guard = none) (ho : o.op = .load 77 x) (hx : a.eval x = .pointer (some ⟨g, off, none⟩))
    (h : wpList Try.prog ops Q rest (a.put o.dst (.agg (knownCells k).toArray)) w) : wpList Try.prog ops Q (o :: rest) a w :=
  wpList_load_mid hgd _ x ho g off hx _ _ hR Try.underlying77 rfl (infoKnown hw) h
theorem wpList_put_known (x y : Operand) (k : Known) (g : Nat) {old : Known} (hw : k.wf) (hwo : old.wf) (hR : Row w g 77 (knownCells old)) (hgd : o.guard = none) (ho : o.op = .store 77 x y) (hx : a.eval x = .pointer (some ⟨g, 0, none⟩)) (hy : a.eval y = .agg (knownCells k).toArray)
    (h : ∀ w', Row w' g 77 (knownCells k) → w.grownBy w' (some g) → w'.heap.size = w.heap.size → wpList Try.prog ops Q rest (a.put o.dst undef) w') : wpList Try.prog ops Q (o :: rest) a w :=
  wpList_put_row hgd _ x y ho g _ hx hy hR (infoKnown hw) (by rw [knownCells_len hw, knownCells_len hwo]) (knownCells_one k) h
theorem wp_put_known (x y : Operand) (k : Known) (g : Nat) {old : Known} (hw : k.wf) (hwo : old.wf) (hR : Row w g 77 (knownCells old)) (ho : o.op = .store 77 x y) (hx : a.eval x = .pointer (some ⟨g, 0, none⟩)) (hy : a.eval y = .agg (knownCells k).toArray)
    (h : ∀ w', Row w' g 77 (knownCells k) → w.grownBy w' (some g) → w'.heap.size = w.heap.size → K (a.put o.dst undef) w') : Oper.wp Try.prog o a w K Q :=
  wp_put_row _ x y ho g _ hx hy hR (infoKnown hw) (by rw [knownCells_len hw, knownCells_len hwo]) (knownCells_one k) h
theorem results_known {fn : Func} {p : Tmp} (h : fn.results = #[.cell p 77]) (tmps : Array Value) (w : World) (g : Nat) (k : Known) (hp : tmps.getD p undef = .pointer (some ⟨g, 0, none⟩)) (hw : k.wf) (hR : Row w g 77 (knownCells k)) : (results fn tmps).run Try.prog w = .ok (.agg (knownCells k).toArray) w :=
  results_cell_row h tmps w g 77 _ (0, 0) _ hp hR Try.underlying77 rfl (infoKnown' hw)
theorem run_load_known (w : World) (g : Nat) (k : Known) (hw : k.wf) (hR : Row w g 77 (knownCells k)) : (loadVar 77 ⟨g, 0, none⟩).run Try.prog w = .ok (.agg (knownCells k).toArray) w :=
  run_loadVar_row w g 77 _ _ (0, 0) _ hR Try.underlying77 rfl (infoKnown' hw)
theorem run_load_knownAt (w : World) (g off : Nat) (k : Known) (hw : k.wf) (hR : w.rangeAt g off (knownCells k)) : (loadVar 77 ⟨g, off, none⟩).run Try.prog w = .ok (.agg (knownCells k).toArray) w :=
  run_loadVar_mid w g off _ _ _ hR Try.underlying77 rfl (infoKnown hw)
end
/-- What is known at the beginning. -/
def Known.none : Known := ⟨true, true :: List.replicate 15 false, List.replicate 16 0⟩
theorem Known.none_wf : Known.none.wf := ⟨rfl, rfl, fun x hx => by have := (List.mem_replicate.1 hx).2; omega⟩
def Known.some0 : Known := ⟨true, List.replicate 16 false, List.replicate 16 0⟩
theorem Known.some0_wf : Known.some0.wf := ⟨rfl, rfl, fun x hx => by have := (List.mem_replicate.1 hx).2; omega⟩
end Go.Proofs.Ytokkngfgppikkab
