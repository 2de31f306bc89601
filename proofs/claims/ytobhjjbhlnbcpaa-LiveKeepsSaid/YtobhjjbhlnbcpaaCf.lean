/- Layer 3 (flow) and its reference: what each function answers. -/
import Derived.Test.YtobhjjbhlnbcpaaLa
import Derived.Test.YtobhjjbhlnbcpaaPb
import Derived.Deep.CutBlock
import Derived.Deep.DeepCutAuto
namespace Go.Proofs.Ytobhjjbhlnbcpaa
set_option linter.unusedVariables false
set_option linter.unusedSimpArgs false
open Go.RowKit

set_option maxHeartbeats 1000000 in
theorem flowKind_calls (op a b c imm : Int) (w : World) : Calls Try.prog 49 #[.agg #[.int .i64 op, .int .i64 a, .int .i64 b, .int .i64 c, .int .i64 imm]] w fun e w' => e = .returned (.int .i64 (fkind op)) ∧ Below w.heap.size w w' := by
  go_enter Try.func49, Try.ntmps49
  go_wp2
  all_goals (go_ret; refine ⟨?_, (Below.refl _ _).alloc (Nat.le_refl _) _⟩; (try simp_all [fkind]); try omega)
set_option maxHeartbeats 1000000 in
theorem flowWrites_calls (op a b c imm : Int) (w : World) : Calls Try.prog 50 #[.agg #[.int .i64 op, .int .i64 a, .int .i64 b, .int .i64 c, .int .i64 imm]] w fun e w' => e = .returned (.int .i64 (writes op a)) ∧ Below w.heap.size w w' := by
  go_enter Try.func50, Try.ntmps50
  go_wp2
  all_goals (go_ret; refine ⟨ret_int ?_, (Below.refl _ _).alloc (Nat.le_refl _) _⟩; (try simp_all [writes]); try omega)
set_option maxHeartbeats 1000000 in
theorem refWrites_calls (op a b c imm : Int) (w : World) : Calls Try.prog 34 #[.agg #[.int .i64 op, .int .i64 a, .int .i64 b, .int .i64 c, .int .i64 imm]] w fun e w' => e = .returned (.int .i64 (refWrites op a)) ∧ Below w.heap.size w w' := by
  go_enter Try.func34, Try.ntmps34
  go_wp2
  all_goals (go_ret; refine ⟨ret_int ?_, (Below.refl _ _).alloc (Nat.le_refl _) _⟩; (try simp_all [refWrites]); try omega)
set_option maxHeartbeats 4000000 in
set_option maxRecDepth 100000 in
theorem refReads_calls (op a b c imm r : Int) (w : World) : Calls Try.prog 35 #[.agg #[.int .i64 op, .int .i64 a, .int .i64 b, .int .i64 c, .int .i64 imm], .int .i64 r] w fun e w' => e = .returned (.bool (refReads op a b c r)) ∧ Below w.heap.size w w' := by
  go_enter Try.func35, Try.ntmps35
  go_wp2
  all_goals (go_ret; refine ⟨?_, (Below.refl _ _).alloc (Nat.le_refl _) _⟩; refine ret_bool ?_; rw [Bool.eq_iff_iff, refReads_iff]; simp at *; omega)
end Go.Proofs.Ytobhjjbhlnbcpaa
