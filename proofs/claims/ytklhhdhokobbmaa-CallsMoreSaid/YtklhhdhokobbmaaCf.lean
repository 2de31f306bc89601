/- Layer 3 (flow) and its reference: what each function answers. -/
import Derived.Test.YtklhhdhokobbmaaLa
import Derived.Test.YtklhhdhokobbmaaPb
import Derived.Deep.CutBlock
import Derived.Deep.DeepCutAuto
namespace Go.Proofs.Ytklhhdhokobbmaa
set_option linter.unusedVariables false
set_option linter.unusedSimpArgs false
open Go.RowKit

set_option maxHeartbeats 1000000 in
theorem flowKind_calls (op a b c imm : Int) (w : World) : Calls Try.prog 28 #[.agg #[.int .i64 op, .int .i64 a, .int .i64 b, .int .i64 c, .int .i64 imm]] w fun e w' => e = .returned (.int .i64 (fkind op)) ∧ Below w.heap.size w w' := by
  go_enter Try.func28, Try.ntmps28
  go_wp2
  all_goals (go_ret; refine ⟨?_, (Below.refl _ _).alloc (Nat.le_refl _) _⟩; (try simp_all [fkind]); try omega)
set_option maxHeartbeats 1000000 in
theorem flowWrites_calls (op a b c imm : Int) (w : World) : Calls Try.prog 29 #[.agg #[.int .i64 op, .int .i64 a, .int .i64 b, .int .i64 c, .int .i64 imm]] w fun e w' => e = .returned (.int .i64 (writes op a)) ∧ Below w.heap.size w w' := by
  go_enter Try.func29, Try.ntmps29
  go_wp2
  all_goals (go_ret; refine ⟨ret_int ?_, (Below.refl _ _).alloc (Nat.le_refl _) _⟩; (try simp_all [writes]); try omega)
set_option maxHeartbeats 1000000 in
theorem refWrites_calls (op a b c imm : Int) (w : World) : Calls Try.prog 30 #[.agg #[.int .i64 op, .int .i64 a, .int .i64 b, .int .i64 c, .int .i64 imm]] w fun e w' => e = .returned (.int .i64 (refWrites op a)) ∧ Below w.heap.size w w' := by
  go_enter Try.func30, Try.ntmps30
  go_wp2
  all_goals (go_ret; refine ⟨ret_int ?_, (Below.refl _ _).alloc (Nat.le_refl _) _⟩; (try simp_all [refWrites]); try omega)
set_option maxHeartbeats 1000000 in
theorem flip_calls (op : Int) (w : World) : Calls Try.prog 34 #[.int .i64 op] w fun e w' => e = .returned (.int .i64 (flip op)) ∧ w' = w := by
  go_enter Try.func34, Try.ntmps34
  go_wp2
  all_goals (go_ret; refine ⟨?_, rfl⟩; (try simp_all [flip]); first | done | omega | (unfold wrap64; omega))
set_option maxHeartbeats 1000000 in
theorem falls_calls (op a b c imm : Int) (w : World) : Calls Try.prog 33 #[.agg #[.int .i64 op, .int .i64 a, .int .i64 b, .int .i64 c, .int .i64 imm]] w fun e w' => e = .returned (.bool (falls op)) ∧ Below w.heap.size w w' := by
  go_enter Try.func33, Try.ntmps33
  go_wp2_with (go_at_call 28; refine (flowKind_calls _ _ _ _ _ _).mono ?_; rintro e w1 ⟨rfl, hb1⟩)
  all_goals (go_ret; refine ⟨?_, ((Below.refl _ _).alloc (Nat.le_refl _) _).trans (hb1.mono (by simp))⟩; (try simp_all [falls]))
set_option maxHeartbeats 4000000 in
set_option maxRecDepth 100000 in
theorem refReads_calls (op a b c imm r : Int) (w : World) : Calls Try.prog 51 #[.agg #[.int .i64 op, .int .i64 a, .int .i64 b, .int .i64 c, .int .i64 imm], .int .i64 r] w fun e w' => e = .returned (.bool (refReads op a b c r)) ∧ Below w.heap.size w w' := by
  go_enter Try.func51, Try.ntmps51
  go_wp2
  all_goals (go_ret; refine ⟨?_, (Below.refl _ _).alloc (Nat.le_refl _) _⟩; refine ret_bool ?_; rw [Bool.eq_iff_iff, refReads_iff]; simp at *; omega)
end Go.Proofs.Ytklhhdhokobbmaa
