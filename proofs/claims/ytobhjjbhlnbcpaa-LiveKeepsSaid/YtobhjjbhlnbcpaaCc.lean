/- The reference's predicates on blocks' ends and graphs: what each answers. -/
import Derived.Test.YtobhjjbhlnbcpaaCb
namespace Go.Proofs.Ytobhjjbhlnbcpaa
set_option linter.unusedVariables false
set_option linter.unusedSimpArgs false
open Go.RowKit
attribute [local go_sem high] eqIns

set_option maxHeartbeats 4000000 in
set_option maxRecDepth 100000 in
theorem term_calls (kind op a b to els iop ia ib ic iimm blocks funcs : Int) (w : World) : Calls Try.prog 44 #[.agg #[.int .i64 kind, .int .i64 op, .int .i64 a, .int .i64 b, .int .i64 to, .int .i64 els, .int .i64 iop, .int .i64 ia, .int .i64 ib, .int .i64 ic, .int .i64 iimm], .int .i64 blocks, .int .i64 funcs] w fun e w' => e = .returned (.bool (Term.right ⟨kind, op, a, b, to, els, ⟨iop, ia, ib, ic, iimm⟩⟩ blocks funcs)) ∧ Below w.heap.size w w' := by
  by_cases h3 : kind = 3
  · subst h3
    cases hn : (op == 0 && a == 0 && b == 0 && els == 0 && to == 0) with
    | false =>
      have ht : Term.right ⟨3, op, a, b, to, els, ⟨iop, ia, ib, ic, iimm⟩⟩ blocks funcs = false := by
        simp [Term.right, Term.none]; intros; simp_all
      rw [ht]
      clear ht
      go_enter Try.func44, Try.ntmps44
      go_wp2_with fail
      all_goals first
        | (go_ret; refine ⟨?_, (Below.refl _ _).alloc (Nat.le_refl _) _⟩; (try simp_all); done)
        | (exfalso; simp_all; done)
    | true =>
      obtain ⟨⟨⟨⟨rfl, rfl⟩, rfl⟩, rfl⟩, rfl⟩ : (((op = 0 ∧ a = 0) ∧ b = 0) ∧ els = 0) ∧ to = 0 := by simpa using hn
      clear hn
      cases hr : Ins.right ⟨iop, ia, ib, ic, iimm⟩ with
      | false =>
        have ht : Term.right ⟨3, 0, 0, 0, 0, 0, ⟨iop, ia, ib, ic, iimm⟩⟩ blocks funcs = false := by simp [Term.right, Term.none, hr]
        rw [ht]
        have HR := Lib.hid hr
        clear hr ht
        go_enter Try.func44, Try.ntmps44
        go_wp2_with (go_at_call 55; refine (insRight_calls _ _ _ _ _ _).mono ?_; rintro e w1 ⟨rfl, hb1⟩; rw [HR.out])
        go_ret
        exact ⟨rfl, ((Below.refl _ _).alloc (Nat.le_refl _) _).trans (hb1.mono (by simp))⟩
      | true =>
        obtain ⟨h0, h1⟩ := Ins.right_op hr
        replace h0 : 0 ≤ iop := h0
        replace h1 : iop < 26 := h1
        have ht : Term.right ⟨3, 0, 0, 0, 0, 0, ⟨iop, ia, ib, ic, iimm⟩⟩ blocks funcs = (kindOf iop == 5) := by simp [Term.right, Term.none, hr, Ins.kind]
        rw [ht]
        have HR := Lib.hid hr
        clear hr ht
        go_enter Try.func44, Try.ntmps44
        go_wp2_with (first
          | (go_at_call 55; refine (insRight_calls _ _ _ _ _ _).mono ?_; rintro e w1 ⟨rfl, hb1⟩; rw [HR.out]; obtain ⟨hc1, hf1⟩ := bcell hb1; have hz1 : w.heap.size < w1.heap.size := by (have := hb1.size; simp at this; omega))
          | (go_at_call 56; refine (kind_calls _ _ _ _ _ _ h0 h1).mono ?_; rintro e w2 ⟨rfl, hb2⟩; obtain ⟨hc2, hf2⟩ := bcell hb2))
        go_ret
        exact ⟨rfl, (((Below.refl _ _).alloc (Nat.le_refl _) _).trans (hb1.mono (by simp))).trans (hb2.mono (by have := hb1.size; simp at this; omega))⟩
  · go_enter Try.func44, Try.ntmps44
    go_wp2_with fail
    all_goals (go_ret; refine ⟨?_, (Below.refl _ _).alloc (Nat.le_refl _) _⟩; (try simp_all [Term.right, Term.none, Ins.zero]); try omega)
end Go.Proofs.Ytobhjjbhlnbcpaa
