/- flow.Reads: the registers that an instruction reads, sorted, each once, in memory of the call's own. -/
import Derived.Test.YtobhjjbhlnbcpaaLb
import Derived.Test.YtobhjjbhlnbcpaaCf
namespace Go.Proofs.Ytobhjjbhlnbcpaa
set_option linter.unusedVariables false
set_option linter.unusedSimpArgs false
open Go.RowKit

def readsList (op a b c : Int) : List Int := noZero (compact (sorted (rawReads op a b c)))
theorem rawReads_len (op a b c : Int) : (rawReads op a b c).length ≤ 2 := by
  unfold rawReads
  (repeat' split) <;> simp
theorem compact_len (xs : List Int) : (compact xs).length ≤ xs.length := Go.Lib.compact_length_le xs
theorem readsList_len (op a b c : Int) : (readsList op a b c).length ≤ 2 :=
  Nat.le_trans (List.length_filter_le _ _) (Nat.le_trans (compact_len _) (by rw [sorted_length]; exact rawReads_len op a b c))

/-- A slice of ints that a call has made. -/
def MadeI (w : World) (xs : List Int) (e : Ending) (w' : World) : Prop := ∃ v, e = .returned v ∧ OwnI w' w.heap.size v xs ∧ Below w.heap.size w w'

set_option maxHeartbeats 4000000 in
set_option maxRecDepth 100000 in
theorem flowReads_calls (op a b c imm : Int) (w : World) : Calls Try.prog 52 #[.agg #[.int .i64 op, .int .i64 a, .int .i64 b, .int .i64 c, .int .i64 imm]] w (MadeI w (readsList op a b c)) := by
  have hraw := rawReads_len op a b c
  go_enter Try.func52, Try.ntmps52
  go_upto_block 0 with fail
  have hb0 : Below w.heap.size w (w.alloc (.cells #[.int .i64 op, .int .i64 a, .int .i64 b, .int .i64 c, .int .i64 imm] 39)) := (Below.refl _ _).alloc (Nat.le_refl _) _
  have hx1 : (w.alloc (.cells #[.int .i64 op, .int .i64 a, .int .i64 b, .int .i64 c, .int .i64 imm] 39)).cell? ⟨w.heap.size, 1, none⟩ = some (.int .i64 a) := by simp
  have hx2 : (w.alloc (.cells #[.int .i64 op, .int .i64 a, .int .i64 b, .int .i64 c, .int .i64 imm] 39)).cell? ⟨w.heap.size, 2, none⟩ = some (.int .i64 b) := by simp
  have hx3 : (w.alloc (.cells #[.int .i64 op, .int .i64 a, .int .i64 b, .int .i64 c, .int .i64 imm] 39)).cell? ⟨w.heap.size, 3, none⟩ = some (.int .i64 c) := by simp
  have hsz : w.heap.size < (w.alloc (.cells #[.int .i64 op, .int .i64 a, .int .i64 b, .int .i64 c, .int .i64 imm] 39)).heap.size := by simp
  generalize hW : w.alloc (.cells #[.int .i64 op, .int .i64 a, .int .i64 b, .int .i64 c, .int .i64 imm] 39) = W at *
  clear hW
  go_cut [3] (fun v wx => OwnI wx W.heap.size v (rawReads op a b c) ∧ Below W.heap.size W wx)
  case first =>
    clear hraw
    go_wp2_with (first
      | (at_builtin; refine wpList_append_one rfl _ _ rfl W.heap.size ho1 rfl rfl (by simp) hb1.size ?_; intro v2 w2 ho2 hb2)
      | (at_builtin; refine wpList_append_one rfl _ _ rfl W.heap.size (OwnI.nil _ _) rfl rfl (by simp) (Nat.le_refl _) ?_; intro v1 w1 ho1 hb1; obtain ⟨hc1, hf1⟩ := bcell hb1))
    all_goals (go_meet; refine ⟨?_, by first | exact hb1.trans hb2 | exact hb1 | exact Below.refl _ _⟩; first
      | (rw [show rawReads op a b c = [c, b] from by (unfold rawReads; rw [if_pos (by (try simp at *); omega)])]; exact ho2)
      | (rw [show rawReads op a b c = [b] from by (unfold rawReads; rw [if_neg (by (try simp at *); omega), if_pos (by (try simp at *); omega)])]; exact ho1)
      | (rw [show rawReads op a b c = [b, a] from by (unfold rawReads; rw [if_neg (by (try simp at *); omega), if_neg (by (try simp at *); omega), if_pos (by (try simp at *); omega)])]; exact ho2)
      | (rw [show rawReads op a b c = [a] from by (unfold rawReads; rw [if_neg (by (try simp at *); omega), if_neg (by (try simp at *); omega), if_neg (by (try simp at *); omega), if_pos (by (try simp at *); omega)])]; exact ho1)
      | (rw [show rawReads op a b c = [] from by (unfold rawReads; rw [if_neg (by (try simp at *); omega), if_neg (by (try simp at *); omega), if_neg (by (try simp at *); omega), if_neg (by (try simp at *); omega)])]; exact OwnI.nil _ _))
  case rest =>
    obtain ⟨ho, hb⟩ := hcut
    go_wp2_with (first
      | (go_at_call 57; refine (sort_calls ho (by omega)).mono ?_; rintro e w1 ⟨rfl, ho1, hg1⟩)
      | (go_at_call 58; refine (compact_calls ho1 (by rw [sorted_length]; omega)).mono ?_; rintro e w2 ⟨v2, rfl, ho2, hg2, hv2⟩)
      | (go_at_call 59; refine (delete_calls ho2 (by have := compact_len (sorted (rawReads op a b c)); rw [sorted_length] at this; omega)).mono ?_; rintro e w3 ⟨v3, rfl, ho3, hg3, hv3⟩))
    go_ret
    have b1 := ho.grown hb.size hg1
    have b2 := ho1.grown (Nat.le_trans hb.size b1.size) hg2
    have b3 := ho2.grown (Nat.le_trans hb.size (Nat.le_trans b1.size b2.size)) hg3
    exact ⟨v3, rfl, ho3.mono hb0.size, hb0.trans ((((hb.trans b1).trans b2).trans b3).mono hb0.size)⟩
end Go.Proofs.Ytobhjjbhlnbcpaa
