/- The reference's predicates on instructions: what each answers. -/
import Derived.Test.YtobhjjbhlnbcpaaChecked
import Derived.Test.YtobhjjbhlnbcpaaPa
namespace Go.Proofs.Ytobhjjbhlnbcpaa
set_option linter.unusedVariables false
set_option linter.unusedSimpArgs false
open Go.RowKit

set_option maxHeartbeats 400000 in
theorem three_calls (n : Int) (w : World) : Calls Try.prog 61 #[.int .i64 n] w fun e w' => e = .returned (.bool (three n)) ∧ w' = w := by
  go_enter Try.func61, Try.ntmps61
  go_wp2
  all_goals (go_ret; refine ⟨?_, rfl⟩; simp [three]; omega)
set_option maxHeartbeats 400000 in
theorem reg_calls (n : Int) (w : World) : Calls Try.prog 62 #[.int .i64 n] w fun e w' => e = .returned (.bool (reg n)) ∧ w' = w := by
  go_enter Try.func62, Try.ntmps62
  go_wp2
  all_goals (go_ret; refine ⟨?_, rfl⟩; simp [reg]; omega)
set_option maxHeartbeats 400000 in
theorem near_calls (n : Int) (w : World) : Calls Try.prog 63 #[.int .i64 n] w fun e w' => e = .returned (.bool (near n)) ∧ w' = w := by
  go_enter Try.func63, Try.ntmps63
  go_wp2
  all_goals (go_ret; refine ⟨?_, rfl⟩; simp_all [near]; try omega)
set_option maxHeartbeats 400000 in
theorem branch_calls (n : Int) (w : World) : Calls Try.prog 64 #[.int .i64 n] w fun e w' => e = .returned (.bool (branch n)) ∧ w' = w := by
  go_enter Try.func64, Try.ntmps64
  go_wp2
  all_goals (go_ret; refine ⟨?_, rfl⟩; simp [branch]; omega)
set_option maxHeartbeats 400000 in
theorem one_calls (n : Int) (w : World) : Calls Try.prog 65 #[.int .i64 n] w fun e w' => e = .returned (.bool (one n)) ∧ w' = w := by
  go_enter Try.func65, Try.ntmps65
  go_wp2
  all_goals (go_ret; refine ⟨?_, rfl⟩; simp_all [one])
set_option maxHeartbeats 400000 in
theorem far_calls (n : Int) (w : World) : Calls Try.prog 66 #[.int .i64 n] w fun e w' => e = .returned (.bool (far n)) ∧ w' = w := by
  go_enter Try.func66, Try.ntmps66
  go_wp2
  all_goals (go_ret; refine ⟨?_, rfl⟩; simp_all [far])
set_option maxHeartbeats 2000000 in
set_option maxRecDepth 100000 in
theorem insRight_calls (op a b c imm : Int) (w : World) : Calls Try.prog 55 #[.agg #[.int .i64 op, .int .i64 a, .int .i64 b, .int .i64 c, .int .i64 imm]] w fun e w' => e = .returned (.bool (Ins.right ⟨op, a, b, c, imm⟩)) ∧ Below w.heap.size w w' := by
  go_enter Try.func55, Try.ntmps55
  go_wp2_with (first
    | (go_at_call 61; refine (three_calls _ _).mono ?_; rintro e w' ⟨rfl, rfl⟩)
    | (go_at_call 62; refine (reg_calls _ _).mono ?_; rintro e w' ⟨rfl, rfl⟩)
    | (go_at_call 63; refine (near_calls _ _).mono ?_; rintro e w' ⟨rfl, rfl⟩)
    | (go_at_call 64; refine (branch_calls _ _).mono ?_; rintro e w' ⟨rfl, rfl⟩)
    | (go_at_call 65; refine (one_calls _ _).mono ?_; rintro e w' ⟨rfl, rfl⟩)
    | (go_at_call 66; refine (far_calls _ _).mono ?_; rintro e w' ⟨rfl, rfl⟩))
  all_goals (go_ret; refine ⟨?_, (Below.refl _ _).alloc (Nat.le_refl _) _⟩; (try simp_all [Ins.right]); try omega)
set_option maxHeartbeats 2000000 in
set_option maxRecDepth 100000 in
theorem kind_calls (op a b c imm : Int) (w : World) (h0 : 0 ≤ op) (h1 : op < 26) : Calls Try.prog 56 #[.agg #[.int .i64 op, .int .i64 a, .int .i64 b, .int .i64 c, .int .i64 imm]] w fun e w' => e = .returned (.int .i64 (kindOf op)) ∧ Below w.heap.size w w' := by
  obtain ⟨n, rfl⟩ := Int.eq_ofNat_of_zero_le h0
  have hn : n < 26 := by omega
  go_enter Try.func56, Try.ntmps56
  go_wp2
  go_ret
  refine ⟨?_, ((Below.refl _ _).alloc (Nat.le_refl _) _).alloc (by simp) _⟩
  unfold kindOf
  rw [Int.toNat_natCast, List.getD_eq_getElem?_getD, List.getElem?_eq_getElem (by simpa using hn), Option.getD_some]
  show Ending.returned ((([5, 0, 0, 0, 0, 0, 0, 0, 0, 0, 0, 1, 1, 1, 1, 2, 2, 2, 2, 3, 4, 5, 1, 1, 0, 5] : List Int).map (Value.int .i64))[n]'(by simpa using hn)) = _
  rw [List.getElem_map]
end Go.Proofs.Ytobhjjbhlnbcpaa
