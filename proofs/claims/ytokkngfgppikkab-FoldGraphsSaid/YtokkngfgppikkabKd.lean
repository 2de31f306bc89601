/- Layer 20 (value): none, and the document's Zero. Printed by genKd.py of this repository. -/
import Derived.Test.YtokkngfgppikkabKc
namespace Go.Proofs.Ytokkngfgppikkab
set_option linter.unusedVariables false
set_option linter.unusedSimpArgs false
open Go.RowKit

set_option maxHeartbeats 2000000 in
set_option maxRecDepth 100000 in
theorem none_calls (w : World) : Calls Try.prog 57 #[] w fun e w' => e = .returned (.agg (knownCells Known.none).toArray) ∧ Below w.heap.size w w' := by
  have b0 := below_alloc' w (.cells #[.bool false, .bool false, .bool false, .bool false, .bool false, .bool false, .bool false, .bool false, .bool false, .bool false, .bool false, .bool false, .bool false, .bool false, .bool false, .bool false, .bool false, .int .u32 0, .int .u32 0, .int .u32 0, .int .u32 0, .int .u32 0, .int .u32 0, .int .u32 0, .int .u32 0, .int .u32 0, .int .u32 0, .int .u32 0, .int .u32 0, .int .u32 0, .int .u32 0, .int .u32 0, .int .u32 0] 77)
  have r0 : Row (w.alloc (.cells #[.bool false, .bool false, .bool false, .bool false, .bool false, .bool false, .bool false, .bool false, .bool false, .bool false, .bool false, .bool false, .bool false, .bool false, .bool false, .bool false, .bool false, .int .u32 0, .int .u32 0, .int .u32 0, .int .u32 0, .int .u32 0, .int .u32 0, .int .u32 0, .int .u32 0, .int .u32 0, .int .u32 0, .int .u32 0, .int .u32 0, .int .u32 0, .int .u32 0, .int .u32 0, .int .u32 0] 77)) w.heap.size 77 (knownCells Known.zero) := Row.new w _ _
  go_enter Try.func57, Try.ntmps57
  go_upto_region 1 with fail
  generalize w.alloc (.cells #[.bool false, .bool false, .bool false, .bool false, .bool false, .bool false, .bool false, .bool false, .bool false, .bool false, .bool false, .bool false, .bool false, .bool false, .bool false, .bool false, .bool false, .int .u32 0, .int .u32 0, .int .u32 0, .int .u32 0, .int .u32 0, .int .u32 0, .int .u32 0, .int .u32 0, .int .u32 0, .int .u32 0, .int .u32 0, .int .u32 0, .int .u32 0, .int .u32 0, .int .u32 0, .int .u32 0] 77) = W at *
  have r1 : Row (W.alloc (.cells #[.bool false, .bool false, .bool false, .bool false, .bool false, .bool false, .bool false, .bool false, .bool false, .bool false, .bool false, .bool false, .bool false, .bool false, .bool false, .bool false, .bool false, .int .u32 0, .int .u32 0, .int .u32 0, .int .u32 0, .int .u32 0, .int .u32 0, .int .u32 0, .int .u32 0, .int .u32 0, .int .u32 0, .int .u32 0, .int .u32 0, .int .u32 0, .int .u32 0, .int .u32 0, .int .u32 0] 77)) W.heap.size 77 (knownCells Known.zero) := Row.new W _ _
  have b1 := below_alloc' W (.cells #[.bool false, .bool false, .bool false, .bool false, .bool false, .bool false, .bool false, .bool false, .bool false, .bool false, .bool false, .bool false, .bool false, .bool false, .bool false, .bool false, .bool false, .int .u32 0, .int .u32 0, .int .u32 0, .int .u32 0, .int .u32 0, .int .u32 0, .int .u32 0, .int .u32 0, .int .u32 0, .int .u32 0, .int .u32 0, .int .u32 0, .int .u32 0, .int .u32 0, .int .u32 0, .int .u32 0] 77)
  go_upto_region 2 with (refine wpList_put_known _ _ Known.some0 _ Known.some0_wf Known.zero_wf r1 rfl rfl rfl rfl ?_; intro w2 r2 g2 s2; clear s2; replace b1 := b1.grown g2 b1.size (fun j hj => by injection hj with hj; subst hj; exact Nat.le_refl _); clear g2)
  have hlt := r0.lt
  have r02 := r0.below b1
  have t1 := b0.trans (b1.mono b0.size)
  have hne : w.heap.size ≠ W.heap.size := fun e => by omega
  have hle := b0.size
  generalize hG : W.heap.size = G at *
  clear hG r0 r1 b0 b1
  have c1 := r2.cell (j := 1) rfl
  have f1 := r2.frozen 1
  have r3 := r2.set 1 (.bool true)
  have g3 := grown_set w2 G 1 (.bool true)
  have t3 := t1.grown g3 t1.size (fun j hj => by injection hj with hj; subst hj; omega)
  have r03 := r02.grown g3 (fun e => hne (by injection e with e; exact e.symm))
  go_upto_region 3 with fail
  generalize w2.setCell ⟨G, 1, none⟩ (.bool true) = X at *
  clear c1 f1 r2 r02 g3 t1
  have r3' : Row X G 77 (knownCells Known.none) := r3
  clear r3
  go_wp2_with (first | (refine wpList_load_known _ Known.none _ Known.none_wf r3' rfl rfl rfl ?_) | (refine wpList_put_known _ _ Known.none _ Known.none_wf Known.zero_wf r03 rfl rfl rfl rfl ?_; intro w4 r4 g4 s4))
  have t4 := t3.grown g4 t3.size (fun j hj => by injection hj with hj; subst hj; exact Nat.le_refl _)
  exact bodyPost_ret (results_known rfl _ _ _ _ rfl Known.none_wf r4) rfl ⟨rfl, t4⟩

set_option maxHeartbeats 2000000 in
set_option maxRecDepth 100000 in
theorem zero_calls (w : World) : Calls Try.prog 63 #[] w fun e w' => e = .returned (.agg (knownCells Known.none).toArray) ∧ Below w.heap.size w w' := by
  have b0 := below_alloc' w (.cells #[.bool false, .bool false, .bool false, .bool false, .bool false, .bool false, .bool false, .bool false, .bool false, .bool false, .bool false, .bool false, .bool false, .bool false, .bool false, .bool false, .bool false, .int .u32 0, .int .u32 0, .int .u32 0, .int .u32 0, .int .u32 0, .int .u32 0, .int .u32 0, .int .u32 0, .int .u32 0, .int .u32 0, .int .u32 0, .int .u32 0, .int .u32 0, .int .u32 0, .int .u32 0, .int .u32 0] 77)
  have r0 : Row (w.alloc (.cells #[.bool false, .bool false, .bool false, .bool false, .bool false, .bool false, .bool false, .bool false, .bool false, .bool false, .bool false, .bool false, .bool false, .bool false, .bool false, .bool false, .bool false, .int .u32 0, .int .u32 0, .int .u32 0, .int .u32 0, .int .u32 0, .int .u32 0, .int .u32 0, .int .u32 0, .int .u32 0, .int .u32 0, .int .u32 0, .int .u32 0, .int .u32 0, .int .u32 0, .int .u32 0, .int .u32 0] 77)) w.heap.size 77 (knownCells Known.zero) := Row.new w _ _
  go_enter Try.func63, Try.ntmps63
  go_upto_region 1 with fail
  generalize w.alloc (.cells #[.bool false, .bool false, .bool false, .bool false, .bool false, .bool false, .bool false, .bool false, .bool false, .bool false, .bool false, .bool false, .bool false, .bool false, .bool false, .bool false, .bool false, .int .u32 0, .int .u32 0, .int .u32 0, .int .u32 0, .int .u32 0, .int .u32 0, .int .u32 0, .int .u32 0, .int .u32 0, .int .u32 0, .int .u32 0, .int .u32 0, .int .u32 0, .int .u32 0, .int .u32 0, .int .u32 0] 77) = W at *
  have r1 : Row (W.alloc (.cells #[.bool false, .bool false, .bool false, .bool false, .bool false, .bool false, .bool false, .bool false, .bool false, .bool false, .bool false, .bool false, .bool false, .bool false, .bool false, .bool false, .bool false, .int .u32 0, .int .u32 0, .int .u32 0, .int .u32 0, .int .u32 0, .int .u32 0, .int .u32 0, .int .u32 0, .int .u32 0, .int .u32 0, .int .u32 0, .int .u32 0, .int .u32 0, .int .u32 0, .int .u32 0, .int .u32 0] 77)) W.heap.size 77 (knownCells Known.zero) := Row.new W _ _
  have b1 := below_alloc' W (.cells #[.bool false, .bool false, .bool false, .bool false, .bool false, .bool false, .bool false, .bool false, .bool false, .bool false, .bool false, .bool false, .bool false, .bool false, .bool false, .bool false, .bool false, .int .u32 0, .int .u32 0, .int .u32 0, .int .u32 0, .int .u32 0, .int .u32 0, .int .u32 0, .int .u32 0, .int .u32 0, .int .u32 0, .int .u32 0, .int .u32 0, .int .u32 0, .int .u32 0, .int .u32 0, .int .u32 0] 77)
  go_upto_region 2 with (refine wpList_put_known _ _ Known.some0 _ Known.some0_wf Known.zero_wf r1 rfl rfl rfl rfl ?_; intro w2 r2 g2 s2; clear s2; replace b1 := b1.grown g2 b1.size (fun j hj => by injection hj with hj; subst hj; exact Nat.le_refl _); clear g2)
  have hlt := r0.lt
  have r02 := r0.below b1
  have t1 := b0.trans (b1.mono b0.size)
  have hne : w.heap.size ≠ W.heap.size := fun e => by omega
  have hle := b0.size
  generalize hG : W.heap.size = G at *
  clear hG r0 r1 b0 b1
  have c1 := r2.cell (j := 1) rfl
  have f1 := r2.frozen 1
  have r3 := r2.set 1 (.bool true)
  have g3 := grown_set w2 G 1 (.bool true)
  have t3 := t1.grown g3 t1.size (fun j hj => by injection hj with hj; subst hj; omega)
  have r03 := r02.grown g3 (fun e => hne (by injection e with e; exact e.symm))
  go_upto_region 3 with fail
  generalize w2.setCell ⟨G, 1, none⟩ (.bool true) = X at *
  clear c1 f1 r2 r02 g3 t1
  have r3' : Row X G 77 (knownCells Known.none) := r3
  clear r3
  go_wp2_with (first | (refine wpList_load_known _ Known.none _ Known.none_wf r3' rfl rfl rfl ?_) | (refine wpList_put_known _ _ Known.none _ Known.none_wf Known.zero_wf r03 rfl rfl rfl rfl ?_; intro w4 r4 g4 s4))
  have t4 := t3.grown g4 t3.size (fun j hj => by injection hj with hj; subst hj; exact Nat.le_refl _)
  exact bodyPost_ret (results_known rfl _ _ _ _ rfl Known.none_wf r4) rfl ⟨rfl, t4⟩
end Go.Proofs.Ytokkngfgppikkab
