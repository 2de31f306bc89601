/- The reference's predicates on graphs: what each answers. -/
import Derived.Test.YtobhjjbhlnbcpaaCa
namespace Go.Proofs.Ytobhjjbhlnbcpaa
set_option linter.unusedVariables false
set_option linter.unusedSimpArgs false
open Go.RowKit

theorem beq_ins (i j : Ins) : (i == j) = (i.op == j.op && (i.a == j.a && (i.b == j.b && (i.c == j.c && i.imm == j.imm)))) := by
  obtain ⟨a, b, c, d, e⟩ := i
  obtain ⟨a', b', c', d', e'⟩ := j
  rw [Bool.eq_iff_iff]
  simp

theorem eqIns (d : Nat) (w : World) (x0 y0 x1 y1 x2 y2 x3 y3 x4 y4 : Int) :
    (Op.equalIn (d + 2) 39 (.agg #[.int .i64 x0, .int .i64 x1, .int .i64 x2, .int .i64 x3, .int .i64 x4]) (.agg #[.int .i64 y0, .int .i64 y1, .int .i64 y2, .int .i64 y3, .int .i64 y4])).run Try.prog w = .ok ((⟨x0, x1, x2, x3, x4⟩ : Ins) == ⟨y0, y1, y2, y3, y4⟩) w := by
  rw [beq_ins]
  have hu := Try.underlying39
  rw [run_equalIn_struct w (d + 1) 39 _ _ (by rfl) (by kernel_rfl)]
  simp [Try.underlying39, Program.fieldsOf, go_sem]
  (repeat' split) <;> simp_all
attribute [local go_sem high] eqIns

set_option maxHeartbeats 2000000 in
set_option maxRecDepth 100000 in
theorem op_calls (op a b c imm : Int) (rel : Bool) (kind to add funcs datas : Int) (w : World) : Calls Try.prog 43 #[.agg #[.int .i64 op, .int .i64 a, .int .i64 b, .int .i64 c, .int .i64 imm, .bool rel, .int .i64 kind, .int .i64 to, .int .i64 add], .int .i64 funcs, .int .i64 datas] w fun e w' => e = .returned (.bool (Op.right ⟨⟨op, a, b, c, imm⟩, rel, kind, to, add⟩ funcs datas)) ∧ Below w.heap.size w w' := by
  cases hr : Ins.right ⟨op, a, b, c, imm⟩ with
  | false =>
    go_enter Try.func43, Try.ntmps43
    go_wp2_with (go_at_call 55; refine (insRight_calls _ _ _ _ _ _).mono ?_; rintro e w1 ⟨rfl, hb1⟩; rw [hr])
    go_ret
    exact ⟨by simp [Op.right, hr], ((Below.refl _ _).alloc (Nat.le_refl _) _).trans (hb1.mono (by simp))⟩
  | true =>
    obtain ⟨h0, h1⟩ := Ins.right_op hr
    replace h0 : 0 ≤ op := h0
    replace h1 : op < 26 := h1
    have hop : Op.right ⟨⟨op, a, b, c, imm⟩, rel, kind, to, add⟩ funcs datas = (if !rel then decide (kindOf op ≤ 1) && kind == 0 && to == 0 && add == 0 else
      if imm ≠ 0 ∨ to < 0 then false else
      if kindOf op = 4 then kind == 1 && decide (to < funcs) && add == 0 else
      (kind == 2 && op == 9 || kind == 3 && op == 10) && decide (to < datas) && decide (-1048576 ≤ add) && decide (add ≤ 1048576)) := by
      unfold Op.right; rw [if_neg (by simp [hr])]; rfl
    rw [hop]
    have HR := Lib.hid hr
    clear hr hop
    go_enter Try.func43, Try.ntmps43
    go_wp2_with (first
      | (go_at_call 55; refine (insRight_calls _ _ _ _ _ _).mono ?_; rintro e w1 ⟨rfl, hb1⟩; rw [HR.out]; obtain ⟨hc1, hf1⟩ := bcell hb1; have hz1 : w.heap.size < w1.heap.size := by (have := hb1.size; simp at this; omega))
      | (go_at_call 56; refine (kind_calls _ _ _ _ _ _ h0 h1).mono ?_; rintro e w2 ⟨rfl, hb2⟩; obtain ⟨hc2, hf2⟩ := bcell hb2))
    all_goals (go_ret; refine ⟨?_, (((Below.refl _ _).alloc (Nat.le_refl _) _).trans (hb1.mono (by simp))).trans (hb2.mono (by have := hb1.size; simp at this; omega))⟩; (try simp_all); try omega)
end Go.Proofs.Ytobhjjbhlnbcpaa
