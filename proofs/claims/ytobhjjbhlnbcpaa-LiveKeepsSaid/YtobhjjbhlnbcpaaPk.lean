/- Plain: what right instructions call. -/
import Derived.Test.YtobhjjbhlnbcpaaFe
import Derived.Test.YtobhjjbhlnbcpaaCn
namespace Go.Proofs.Ytobhjjbhlnbcpaa
set_option linter.unusedVariables false
set_option linter.unusedSimpArgs false

theorem kindOf_four {op : Int} (h0 : 0 ≤ op) (h1 : op < 26) : kindOf op = 4 ↔ op = 20 := by
  have : op = 0 ∨ op = 1 ∨ op = 2 ∨ op = 3 ∨ op = 4 ∨ op = 5 ∨ op = 6 ∨ op = 7 ∨ op = 8 ∨ op = 9 ∨ op = 10 ∨ op = 11 ∨ op = 12 ∨ op = 13 ∨ op = 14 ∨ op = 15 ∨ op = 16 ∨ op = 17 ∨ op = 18 ∨ op = 19 ∨ op = 20 ∨ op = 21 ∨ op = 22 ∨ op = 23 ∨ op = 24 ∨ op = 25 := by omega
  rcases this with rfl | rfl | rfl | rfl | rfl | rfl | rfl | rfl | rfl | rfl | rfl | rfl | rfl | rfl | rfl | rfl | rfl | rfl | rfl | rfl | rfl | rfl | rfl | rfl | rfl | rfl <;> decide
theorem right_call {o : Op} {funcs datas : Int} (h : o.right funcs datas = true) : (o.ins.op = 20 → o.rel = true ∧ o.kind = 1 ∧ calledI o = o.to ∧ 0 ≤ o.to ∧ o.to < funcs) ∧ (o.ins.op ≠ 20 → calledI o = -1) := by
  unfold Op.right at h
  cases hr : o.ins.right with
  | false => simp [hr] at h
  | true =>
    obtain ⟨h0, h1⟩ := Ins.right_op hr
    have h4 := kindOf_four h0 h1
    rw [hr] at h
    cases hrel : o.rel with
    | false =>
      rw [hrel] at h
      simp at h
      refine ⟨fun e => ?_, fun _ => by unfold calledI; rw [if_neg (by simp [hrel])]⟩
      have := h4.2 e
      unfold Ins.kind at h
      omega
    | true =>
      rw [hrel] at h
      simp only [Bool.not_true, Bool.false_eq_true, if_false] at h
      split at h
      · simp at h
      · rename_i hi
        have hto : 0 ≤ o.to := by omega
        by_cases hk : o.ins.kind = 4
        · rw [if_pos hk] at h
          simp at h
          have e20 := h4.1 hk
          refine ⟨fun _ => ⟨rfl, h.1.1, by unfold calledI; rw [if_pos ⟨hrel, h.1.1⟩], hto, h.1.2⟩, fun hne => absurd e20 hne⟩
        · rw [if_neg hk] at h
          simp at h
          refine ⟨fun e => absurd (h4.2 e) hk, fun _ => by unfold calledI; rw [if_neg (fun hc => by have := hc.2; omega)]⟩
theorem blocksRight_ops {bs : List Block} {f d : Int} (h : blocksRight bs f d = true) {b : Block} (hb : b ∈ bs) {o : Op} (ho : o ∈ b.ops) : o.right f d = true := by
  unfold blocksRight at h
  rw [Bool.and_eq_true, List.all_eq_true] at h
  have := h.1 b hb
  unfold Block.right at this
  rw [Bool.and_eq_true, List.all_eq_true] at this
  exact this.1 o ho
theorem blocksRight_pos {bs : List Block} {f d : Int} (h : blocksRight bs f d = true) : 0 < bs.length := by
  unfold blocksRight at h
  rw [Bool.and_eq_true] at h
  simpa using h.2
theorem gsOk_few {gs : List Graph} {d : Int} (h : gsFew gs d = true) : GsOk gs := by
  obtain ⟨h1, h2⟩ := gsFew_parts h
  refine ⟨by omega, fun g hg => ⟨(h2 g hg).1, fun x hx => blocksRight_calls (h2 g hg).2 x (mem_ofList.1 hx)⟩⟩
end Go.Proofs.Ytobhjjbhlnbcpaa
