/- Layer 19's awake answers true. Printed in part by genEf.py of this repository. -/
import Derived.Test.YtobhjjbhlnbcpaaGe
namespace Go.Proofs.Ytobhjjbhlnbcpaa
set_option linter.unusedVariables false
set_option linter.unusedSimpArgs false
open Go.RowKit

def lAdd : Op := ⟨⟨1, 1, 2, 3, 0⟩, false, 0, 0, 0⟩
def lB0 : Block := ⟨[lAdd], ⟨3, 0, 0, 0, 0, 0, ⟨0, 1, 0, 0, 0⟩⟩⟩
def lB1 : Block := ⟨[], ⟨3, 0, 0, 0, 0, 0, ⟨21, 0, 0, 0, 0⟩⟩⟩
theorem lReads1 : readsList 1 1 2 3 = [2, 3] := by rw [readsList_eq (imm := 0) (by decide)]; decide
theorem lReads0 : readsList 0 1 0 0 = [1] := by rw [readsList_eq (imm := 0) (by decide)]; decide
theorem lEnd0 (X : List Nat) : endN lB0.fin X = 2 := by
  unfold endN
  rw [if_neg (by decide), if_neg (by decide), if_pos (by decide)]
  show setN (readsList 0 1 0 0) = 2
  rw [lReads0]
  decide
theorem lBefore : beforeN lAdd 2 = 12 := by
  unfold beforeN
  rw [if_neg (by decide), if_pos (by decide)]
  show (2 &&& (65535 - 2 ^ (writes 1 1).toNat)) ||| setN (readsList 1 1 2 3) = 12
  rw [lReads1]
  decide
theorem lAhead0 (X : List Nat) : aheadN lB0 X = 12 := by
  unfold aheadN
  rw [lEnd0]
  exact lBefore
theorem lAhead1 (X : List Nat) : aheadN lB1 X = 65534 := by
  unfold aheadN endN
  rw [if_neg (by decide), if_neg (by decide), if_neg (by decide)]
  rfl
theorem lOk : BsOk [lB0, lB1] := ⟨1000, 1000, by decide⟩
theorem lIns {ins : List Nat} (h : IsLive [lB0, lB1] ins) : ins = [12, 65534] := by
  have h0 := h.fix 0 lB0 rfl
  have h1 := h.fix 1 lB1 rfl
  rw [lAhead0] at h0
  rw [lAhead1] at h1
  have hl : ins.length = 2 := h.inv.len
  match ins, hl with
  | [x, y], _ => simp at h0 h1; rw [h0, h1]
theorem lAfter (X : List Nat) : afterL lB0.ops (endN lB0.fin X) = [2] := by
  rw [lEnd0]
  rfl

theorem awake19_mem (w : World) : ∃ W : World, W = ((((w.alloc (.cells #[.int .i64 1, .int .i64 1, .int .i64 2, .int .i64 3, .int .i64 0, .bool false, .int .i64 0, .int .i64 0, .int .i64 0] 45)).alloc (.cells #[.int .i64 1, .int .i64 1, .int .i64 2, .int .i64 3, .int .i64 0, .bool false, .int .i64 0, .int .i64 0, .int .i64 0] 45)).alloc (.cells #[.slice (some ⟨w.heap.size + 1, 0, none⟩) 1 1, .int .i64 3, .int .i64 0, .int .i64 0, .int .i64 0, .int .i64 0, .int .i64 0, .int .i64 0, .int .i64 1, .int .i64 0, .int .i64 0, .int .i64 0, .slice none 0 0, .int .i64 3, .int .i64 0, .int .i64 0, .int .i64 0, .int .i64 0, .int .i64 0, .int .i64 21, .int .i64 0, .int .i64 0, .int .i64 0, .int .i64 0] 43)).alloc (.cells #[.string (⟨#[]⟩ : ByteArray), .bool false, .bool false, .slice (some ⟨w.heap.size + 1 + 1, 0, none⟩) 2 2] 28)) ∧ Row W (w.heap.size) 45 [.int .i64 1, .int .i64 1, .int .i64 2, .int .i64 3, .int .i64 0, .bool false, .int .i64 0, .int .i64 0, .int .i64 0] ∧ kOp.C W (some ⟨w.heap.size + 1, 0, none⟩) [lAdd] ∧ kBlock.C W (some ⟨w.heap.size + 1 + 1, 0, none⟩) [lB0, lB1] ∧ Row W (w.heap.size + 1 + 1 + 1) 28 [.string (⟨#[]⟩ : ByteArray), .bool false, .bool false, .slice (some ⟨w.heap.size + 1 + 1, 0, none⟩) 2 2] ∧ Below w.heap.size w W ∧ W.heap.size = w.heap.size + 1 + 1 + 1 + 1 := by
  have e1 : (w.alloc (.cells #[.int .i64 1, .int .i64 1, .int .i64 2, .int .i64 3, .int .i64 0, .bool false, .int .i64 0, .int .i64 0, .int .i64 0] 45)).heap.size = w.heap.size + 1 := by simp
  have b1 := below_alloc' w (.cells #[.int .i64 1, .int .i64 1, .int .i64 2, .int .i64 3, .int .i64 0, .bool false, .int .i64 0, .int .i64 0, .int .i64 0] 45)
  have r0 : Row (w.alloc (.cells #[.int .i64 1, .int .i64 1, .int .i64 2, .int .i64 3, .int .i64 0, .bool false, .int .i64 0, .int .i64 0, .int .i64 0] 45)) (w.heap.size) 45 [.int .i64 1, .int .i64 1, .int .i64 2, .int .i64 3, .int .i64 0, .bool false, .int .i64 0, .int .i64 0, .int .i64 0] := Row.new w _ _
  generalize (w.alloc (.cells #[.int .i64 1, .int .i64 1, .int .i64 2, .int .i64 3, .int .i64 0, .bool false, .int .i64 0, .int .i64 0, .int .i64 0] 45)) = W1 at *
  have e2 : (W1.alloc (.cells #[.int .i64 1, .int .i64 1, .int .i64 2, .int .i64 3, .int .i64 0, .bool false, .int .i64 0, .int .i64 0, .int .i64 0] 45)).heap.size = w.heap.size + 1 + 1 := by simp [e1]
  have b2 := below_alloc' W1 (.cells #[.int .i64 1, .int .i64 1, .int .i64 2, .int .i64 3, .int .i64 0, .bool false, .int .i64 0, .int .i64 0, .int .i64 0] 45)
  have c1 : kOp.C (W1.alloc (.cells #[.int .i64 1, .int .i64 1, .int .i64 2, .int .i64 3, .int .i64 0, .bool false, .int .i64 0, .int .i64 0, .int .i64 0] 45)) (some ⟨w.heap.size + 1, 0, none⟩) [lAdd] := by
    exact C_one kOp W1 _ e1.symm _ _ _ (kOp_mk W1 lAdd (by unfold Op.wf; decide))
  replace r0 := r0.below b2
  generalize (W1.alloc (.cells #[.int .i64 1, .int .i64 1, .int .i64 2, .int .i64 3, .int .i64 0, .bool false, .int .i64 0, .int .i64 0, .int .i64 0] 45)) = W2 at *
  have e3 : (W2.alloc (.cells #[.slice (some ⟨w.heap.size + 1, 0, none⟩) 1 1, .int .i64 3, .int .i64 0, .int .i64 0, .int .i64 0, .int .i64 0, .int .i64 0, .int .i64 0, .int .i64 1, .int .i64 0, .int .i64 0, .int .i64 0, .slice none 0 0, .int .i64 3, .int .i64 0, .int .i64 0, .int .i64 0, .int .i64 0, .int .i64 0, .int .i64 21, .int .i64 0, .int .i64 0, .int .i64 0, .int .i64 0] 43)).heap.size = w.heap.size + 1 + 1 + 1 := by simp [e2]
  have b3 := below_alloc' W2 (.cells #[.slice (some ⟨w.heap.size + 1, 0, none⟩) 1 1, .int .i64 3, .int .i64 0, .int .i64 0, .int .i64 0, .int .i64 0, .int .i64 0, .int .i64 0, .int .i64 1, .int .i64 0, .int .i64 0, .int .i64 0, .slice none 0 0, .int .i64 3, .int .i64 0, .int .i64 0, .int .i64 0, .int .i64 0, .int .i64 0, .int .i64 21, .int .i64 0, .int .i64 0, .int .i64 0, .int .i64 0] 43)
  have c2 : kBlock.C (W2.alloc (.cells #[.slice (some ⟨w.heap.size + 1, 0, none⟩) 1 1, .int .i64 3, .int .i64 0, .int .i64 0, .int .i64 0, .int .i64 0, .int .i64 0, .int .i64 0, .int .i64 1, .int .i64 0, .int .i64 0, .int .i64 0, .slice none 0 0, .int .i64 3, .int .i64 0, .int .i64 0, .int .i64 0, .int .i64 0, .int .i64 0, .int .i64 21, .int .i64 0, .int .i64 0, .int .i64 0, .int .i64 0] 43)) (some ⟨w.heap.size + 1 + 1, 0, none⟩) [lB0, lB1] := by
    refine C_lit kBlock W2 _ e2.symm _ [lB0, lB1] [[.slice (some ⟨w.heap.size + 1, 0, none⟩) 1 1, .int .i64 3, .int .i64 0, .int .i64 0, .int .i64 0, .int .i64 0, .int .i64 0, .int .i64 0, .int .i64 1, .int .i64 0, .int .i64 0, .int .i64 0], [.slice none 0 0, .int .i64 3, .int .i64 0, .int .i64 0, .int .i64 0, .int .i64 0, .int .i64 0, .int .i64 21, .int .i64 0, .int .i64 0, .int .i64 0, .int .i64 0]] _ rfl rfl ?_
    intro i x cs hx hc
    match i with
    | 0 => simp at hx hc; subst hx hc; exact kBlock_mk W2 lB0 (c0 := 1) (by unfold Block.wf; decide) (by decide) (by decide) c1
    | 1 => simp at hx hc; subst hx hc; exact kBlock_mk W2 lB1 (c0 := 0) (by unfold Block.wf; decide) (by decide) (by decide) (C_nil kOp W2 none)
    | i + 2 => simp at hx
  replace r0 := r0.below b3
  replace c1 := Kd.C_mono b3 c1
  generalize (W2.alloc (.cells #[.slice (some ⟨w.heap.size + 1, 0, none⟩) 1 1, .int .i64 3, .int .i64 0, .int .i64 0, .int .i64 0, .int .i64 0, .int .i64 0, .int .i64 0, .int .i64 1, .int .i64 0, .int .i64 0, .int .i64 0, .slice none 0 0, .int .i64 3, .int .i64 0, .int .i64 0, .int .i64 0, .int .i64 0, .int .i64 0, .int .i64 21, .int .i64 0, .int .i64 0, .int .i64 0, .int .i64 0] 43)) = W3 at *
  have e4 : (W3.alloc (.cells #[.string (⟨#[]⟩ : ByteArray), .bool false, .bool false, .slice (some ⟨w.heap.size + 1 + 1, 0, none⟩) 2 2] 28)).heap.size = w.heap.size + 1 + 1 + 1 + 1 := by simp [e3]
  have b4 := below_alloc' W3 (.cells #[.string (⟨#[]⟩ : ByteArray), .bool false, .bool false, .slice (some ⟨w.heap.size + 1 + 1, 0, none⟩) 2 2] 28)
  have r3 : Row (W3.alloc (.cells #[.string (⟨#[]⟩ : ByteArray), .bool false, .bool false, .slice (some ⟨w.heap.size + 1 + 1, 0, none⟩) 2 2] 28)) (w.heap.size + 1 + 1 + 1) 28 [.string (⟨#[]⟩ : ByteArray), .bool false, .bool false, .slice (some ⟨w.heap.size + 1 + 1, 0, none⟩) 2 2] := by have := Row.new W3 28 #[.string (⟨#[]⟩ : ByteArray), .bool false, .bool false, .slice (some ⟨w.heap.size + 1 + 1, 0, none⟩) 2 2]; rw [e3] at this; exact this
  replace r0 := r0.below b4
  replace c1 := Kd.C_mono b4 c1
  replace c2 := Kd.C_mono b4 c2
  generalize (W3.alloc (.cells #[.string (⟨#[]⟩ : ByteArray), .bool false, .bool false, .slice (some ⟨w.heap.size + 1 + 1, 0, none⟩) 2 2] 28)) = W4 at *
  exact ⟨_, rfl, r0, c1, c2, r3, (b1.trans ((b2.trans ((b3.trans (b4.mono b3.size)).mono b2.size)).mono b1.size)), e4⟩

set_option maxHeartbeats 4000000 in
set_option maxRecDepth 100000 in
theorem awake19_calls (w : World) : Calls Try.prog 26 #[] w fun e w' => e = .returned (.bool true) ∧ Below w.heap.size w w' := by
  obtain ⟨W, hW, r0, c1, c2, r3, hbW, hsz⟩ := awake19_mem w
  have HW := Lib.hid hW
  clear hW hsz
  have h300 : ∀ b ∈ [lB0, lB1], b.ops.length ≤ 300 := by decide
  go_enter Try.func26, Try.ntmps26
  go_upto_region 3 with fail
  rw [← HW.out]
  have R0 := Lib.hid r0
  have R3 := Lib.hid r3
  have y0 := r3.cell (j := 0) rfl
  have y1 := r3.cell (j := 1) rfl
  have y2 := r3.cell (j := 2) rfl
  have y3 := r3.cell (j := 3) rfl
  clear r0 r3
  go_wp2_with fail
  refine (liveIn_calls _ _ _ _ 2 [lB0, lB1] _ c2 (by decide) lOk h300).mono ?_
  rintro e w1 ⟨g1, ins1, rfl, hl1, own1, hg1, hb1⟩
  have hi1 := lIns hl1
  subst hi1
  have r3b := R3.out.below hb1
  clear y0 y1 y2 y3 hl1
  have y0 := r3b.cell (j := 0) rfl
  have y1 := r3b.cell (j := 1) rfl
  have y2 := r3b.cell (j := 2) rfl
  have y3 := r3b.cell (j := 3) rfl
  have t1 := hbW.trans (hb1.mono hbW.size)
  go_wp2_with fail
  refine (liveAfter_calls _ _ _ _ 2 [lB0, lB1] 0 lB0 _ (Kd.C_mono hb1 c2) (by decide) lOk h300 rfl).mono ?_
  rintro e w2 ⟨g2, ins2, rfl, hl2, own2, hg2, hb2⟩
  rw [lAfter] at own2
  have t2 := t1.trans (hb2.mono t1.size)
  have o1 := own1.below hb2
  have q0 := o1.cellU (i := 0) (x := 12) rfl
  have q1 := o1.cellU (i := 1) (x := 65534) rfl
  have q2 := own2.cellU (i := 0) (x := 2) rfl
  have r0b := (R0.out.below hb1).below hb2
  have z0 := r0b.cell (j := 0) rfl
  have z1 := r0b.cell (j := 1) rfl
  have z2 := r0b.cell (j := 2) rfl
  have z3 := r0b.cell (j := 3) rfl
  have z4 := r0b.cell (j := 4) rfl
  have z5 := r0b.cell (j := 5) rfl
  have z6 := r0b.cell (j := 6) rfl
  have z7 := r0b.cell (j := 7) rfl
  have z8 := r0b.cell (j := 8) rfl
  have hbc : ∀ w : World, Calls Try.prog 33 #[.agg #[.int .i64 1, .int .i64 1, .int .i64 2, .int .i64 3, .int .i64 0, .bool false, .int .i64 0, .int .i64 0, .int .i64 0], .int .u16 2] w fun e w' => e = .returned (.int .u16 12) ∧ Below w.heap.size w w' := fun w => by
    have h := before_calls lAdd (by decide) 2 (by decide) w
    rw [lBefore] at h
    exact h
  clear y0 y1 y2 y3 hl2
  go_wp2_with fail
  refine (hbc _).mono ?_
  rintro e w3 ⟨rfl, hb3⟩
  go_wp2_with fail
  go_ret
  exact ⟨rfl, t2.trans (hb3.mono t2.size)⟩
end Go.Proofs.Ytobhjjbhlnbcpaa
