/- Layer 19's awake answers true. Printed in part by genEf.py of this repository. -/
import Derived.Test.YtokkngfgppikkaaGe
namespace Go.Proofs.Ytokkngfgppikkaa
set_option linter.unusedVariables false
set_option linter.unusedSimpArgs false
open Go.RowKit

def lAdd : Op := ⟨⟨1, 1, 2, 3, 0⟩, false, 0, 0, 0⟩
def lB0 : Block := ⟨[lAdd], ⟨3, 0, 0, 0, 0, 0, ⟨0, 1, 0, 0, 0⟩⟩⟩
def lB1 : Block := ⟨[], ⟨3, 0, 0, 0, 0, 0, ⟨21, 0, 0, 0, 0⟩⟩⟩
theorem lReads1 : readsList 1 1 2 3 = [2, 3] := by rw [readsList_eq (imm := 0) (by decide)]; decide
theorem lReads0 : readsList 0 1 0 0 = [1] := by rw [readsList_eq (imm := 0) (by decide)]; decide
theorem lEnd0 (X : List Nat) : endN lB0.fin X = 2 := by
  unfold endN
  rw [if_neg (by decide), if_neg (by decide), if_pos (by decide)]
  show setN (readsList 0 1 0 0) = 2
  rw [lReads0]
  decide
theorem lBefore : beforeN lAdd 2 = 12 := by
  unfold beforeN
  rw [if_neg (by decide), if_pos (by decide)]
  show (2 &&& (65535 - 2 ^ (writes 1 1).toNat)) ||| setN (readsList 1 1 2 3) = 12
  rw [lReads1]
  decide
theorem lAhead0 (X : List Nat) : aheadN lB0 X = 12 := by
  unfold aheadN
  rw [lEnd0]
  exact lBefore
theorem lAhead1 (X : List Nat) : aheadN lB1 X = 65534 := by
  unfold aheadN endN
  rw [if_neg (by decide), if_neg (by decide), if_neg (by decide)]
  rfl
theorem lOk : BsOk [lB0, lB1] := ⟨1000, 1000, by decide⟩
theorem lIns {ins : List Nat} (h : IsLive [lB0, lB1] ins) : ins = [12, 65534] := by
  have h0 := h.fix 0 lB0 rfl
  have h1 := h.fix 1 lB1 rfl
  rw [lAhead0] at h0
  rw [lAhead1] at h1
  have hl : ins.length = 2 := h.inv.len
  match ins, hl with
  | [x, y], _ => simp at h0 h1; rw [h0, h1]
theorem lAfter (X : List Nat) : afterL lB0.ops (endN lB0.fin X) = [2] := by
  rw [lEnd0]
  rfl

theorem awake19_mem (w : World) : ∃ W : World, W = ((((w.alloc (.cells #[.int .i64 1, .int .i64 1, .int .i64 2, .int .i64 3, .int .i64 0, .bool false, .int .i64 0, .int .i64 0, .int .i64 0] 44)).alloc (.cells #[.int .i64 1, .int .i64 1, .int .i64 2, .int .i64 3, .int .i64 0, .bool false, .int .i64 0, .int .i64 0, .int .i64 0] 44)).alloc (.cells #[.slice (some ⟨w.heap.size + 1, 0, none⟩) 1 1, .int .i64 3, .int .i64 0, .int .i64 0, .int .i64 0, .int .i64 0, .int .i64 0, .int .i64 0, .int .i64 1, .int .i64 0, .int .i64 0, .int .i64 0, .slice none 0 0, .int .i64 3, .int .i64 0, .int .i64 0, .int .i64 0, .int .i64 0, .int .i64 0, .int .i64 21, .int .i64 0, .int .i64 0, .int .i64 0, .int .i64 0] 42)).alloc (.cells #[.string (⟨#[]⟩ : ByteArray), .bool false, .bool false, .slice (some ⟨w.heap.size + 1 + 1, 0, none⟩) 2 2] 33)) ∧ Row W (w.heap.size) 44 [.int .i64 1, .int .i64 1, .int .i64 2, .int .i64 3, .int .i64 0, .bool false, .int .i64 0, .int .i64 0, .int .i64 0] ∧ kOp.C W (some ⟨w.heap.size + 1, 0, none⟩) [lAdd] ∧ kBlock.C W (some ⟨w.heap.size + 1 + 1, 0, none⟩) [lB0, lB1] ∧ Row W (w.heap.size + 1 + 1 + 1) 33 [.string (⟨#[]⟩ : ByteArray), .bool false, .bool false, .slice (some ⟨w.heap.size + 1 + 1, 0, none⟩) 2 2] ∧ Below w.heap.size w W ∧ W.heap.size = w.heap.size + 1 + 1 + 1 + 1 := by
  have e1 : (w.alloc (.cells #[.int .i64 1, .int .i64 1, .int .i64 2, .int .i64 3, .int .i64 0, .bool false, .int .i64 0, .int .i64 0, .int .i64 0] 44)).heap.size = w.heap.size + 1 := by simp
  have b1 := below_alloc' w (.cells #[.int .i64 1, .int .i64 1, .int .i64 2, .int .i64 3, .int .i64 0, .bool false, .int .i64 0, .int .i64 0, .int .i64 0] 44)
  have r0 : Row (w.alloc (.cells #[.int .i64 1, .int .i64 1, .int .i64 2, .int .i64 3, .int .i64 0, .bool false, .int .i64 0, .int .i64 0, .int .i64 0] 44)) (w.heap.size) 44 [.int .i64 1, .int .i64 1, .int .i64 2, .int .i64 3, .int .i64 0, .bool false, .int .i64 0, .int .i64 0, .int .i64 0] := Row.new w _ _
  generalize (w.alloc (.cells #[.int .i64 1, .int .i64 1, .int .i64 2, .int .i64 3, .int .i64 0, .bool false, .int .i64 0, .int .i64 0, .int .i64 0] 44)) = W1 at *
  have e2 : (W1.alloc (.cells #[.int .i64 1, .int .i64 1, .int .i64 2, .int .i64 3, .int .i64 0, .bool false, .int .i64 0, .int .i64 0, .int .i64 0] 44)).heap.size = w.heap.size + 1 + 1 := by simp [e1]
  have b2 := below_alloc' W1 (.cells #[.int .i64 1, .int .i64 1, .int .i64 2, .int .i64 3, .int .i64 0, .bool false, .int .i64 0, .int .i64 0, .int .i64 0] 44)
  have c1 : kOp.C (W1.alloc (.cells #[.int .i64 1, .int .i64 1, .int .i64 2, .int .i64 3, .int .i64 0, .bool false, .int .i64 0, .int .i64 0, .int .i64 0] 44)) (some ⟨w.heap.size + 1, 0, none⟩) [lAdd] := by
    exact C_one kOp W1 _ e1.symm _ _ _ (kOp_mk W1 lAdd (by unfold Op.wf; decide))
  replace r0 := r0.below b2
  generalize (W1.alloc (.cells #[.int .i64 1, .int .i64 1, .int .i64 2, .int .i64 3, .int .i64 0, .bool false, .int .i64 0, .int .i64 0, .int .i64 0] 44)) = W2 at *
  have e3 : (W2.alloc (.cells #[.slice (some ⟨w.heap.size + 1, 0, none⟩) 1 1, .int .i64 3, .int .i64 0, .int .i64 0, .int .i64 0, .int .i64 0, .int .i64 0, .int .i64 0, .int .i64 1, .int .i64 0, .int .i64 0, .int .i64 0, .slice none 0 0, .int .i64 3, .int .i64 0, .int .i64 0, .int .i64 0, .int .i64 0, .int .i64 0, .int .i64 21, .int .i64 0, .int .i64 0, .int .i64 0, .int .i64 0] 42)).heap.size = w.heap.size + 1 + 1 + 1 := by simp [e2]
  have b3 := below_alloc' W2 (.cells #[.slice (some ⟨w.heap.size + 1, 0, none⟩) 1 1, .int .i64 3, .int .i64 0, .int .i64 0, .int .i64 0, .int .i64 0, .int .i64 0, .int .i64 0, .int .i64 1, .int .i64 0, .int .i64 0, .int .i64 0, .slice none 0 0, .int .i64 3, .int .i64 0, .int .i64 0, .int .i64 0, .int .i64 0, .int .i64 0, .int .i64 21, .int .i64 0, .int .i64 0, .int .i64 0, .int .i64 0] 42)
  have c2 : kBlock.C (W2.alloc (.cells #[.slice (some ⟨w.heap.size + 1, 0, none⟩) 1 1, .int .i64 3, .int .i64 0, .int .i64 0, .int .i64 0, .int .i64 0, .int .i64 0, .int .i64 0, .int .i64 1, .int .i64 0, .int .i64 0, .int .i64 0, .slice none 0 0, .int .i64 3, .int .i64 0, .int .i64 0, .int .i64 0, .int .i64 0, .int .i64 0, .int .i64 21, .int .i64 0, .int .i64 0, .int .i64 0, .int .i64 0] 42)) (some ⟨w.heap.size + 1 + 1, 0, none⟩) [lB0, lB1] := by
    refine C_lit kBlock W2 _ e2.symm _ [lB0, lB1] [[.slice (some ⟨w.heap.size + 1, 0, none⟩) 1 1, .int .i64 3, .int .i64 0, .int .i64 0, .int .i64 0, .int .i64 0, .int .i64 0, .int .i64 0, .int .i64 1, .int .i64 0, .int .i64 0, .int .i64 0], [.slice none 0 0, .int .i64 3, .int .i64 0, .int .i64 0, .int .i64 0, .int .i64 0, .int .i64 0, .int .i64 21, .int .i64 0, .int .i64 0, .int .i64 0, .int .i64 0]] _ rfl rfl ?_
    intro i x cs hx hc
    match i with
    | 0 => simp at hx hc; subst hx hc; exact kBlock_mk W2 lB0 (c0 := 1) (by unfold Block.wf; decide) (by decide) (by decide) c1
    | 1 => simp at hx hc; subst hx hc; exact kBlock_mk W2 lB1 (c0 := 0) (by unfold Block.wf; decide) (by decide) (by decide) (C_nil kOp W2 none)
    | i + 2 => simp at hx
  replace r0 := r0.below b3
  replace c1 := Kd.C_mono b3 c1
  generalize (W2.alloc (.cells #[.slice (some ⟨w.heap.size + 1, 0, none⟩) 1 1, .int .i64 3, .int .i64 0, .int .i64 0, .int .i64 0, .int .i64 0, .int .i64 0, .int .i64 0, .int .i64 1, .int .i64 0, .int .i64 0, .int .i64 0, .slice none 0 0, .int .i64 3, .int .i64 0, .int .i64 0, .int .i64 0, .int .i64 0, .int .i64 0, .int .i64 21, .int .i64 0, .int .i64 0, .int .i64 0, .int .i64 0] 42)) = W3 at *
  have e4 : (W3.alloc (.cells #[.string (⟨#[]⟩ : ByteArray), .bool false, .bool false, .slice (some ⟨w.heap.size + 1 + 1, 0, none⟩) 2 2] 33)).heap.size = w.heap.size + 1 + 1 + 1 + 1 := by simp [e3]
  have b4 := below_alloc' W3 (.cells #[.string (⟨#[]⟩ : ByteArray), .bool false, .bool false, .slice (some ⟨w.heap.size + 1 + 1, 0, none⟩) 2 2] 33)
  have r3 : Row (W3.alloc (.cells #[.string (⟨#[]⟩ : ByteArray), .bool false, .bool false, .slice (some ⟨w.heap.size + 1 + 1, 0, none⟩) 2 2] 33)) (w.heap.size + 1 + 1 + 1) 33 [.string (⟨#[]⟩ : ByteArray), .bool false, .bool false, .slice (some ⟨w.heap.size + 1 + 1, 0, none⟩) 2 2] := by have := Row.new W3 33 #[.string (⟨#[]⟩ : ByteArray), .bool false, .bool false, .slice (some ⟨w.heap.size + 1 + 1, 0, none⟩) 2 2]; rw [e3] at this; exact this
  replace r0 := r0.below b4
  replace c1 := Kd.C_mono b4 c1
  replace c2 := Kd.C_mono b4 c2
  generalize (W3.alloc (.cells #[.string (⟨#[]⟩ : ByteArray), .bool false, .bool false, .slice (some ⟨w.heap.size + 1 + 1, 0, none⟩) 2 2] 33)) = W4 at *
  exact ⟨_, rfl, r0, c1, c2, r3, (b1.trans ((b2.trans ((b3.trans (b4.mono b3.size)).mono b2.size)).mono b1.size)), e4⟩

end Go.Proofs.Ytokkngfgppikkaa
