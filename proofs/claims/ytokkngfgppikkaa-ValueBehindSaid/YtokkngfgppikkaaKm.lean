/- Layer 20's awake answers true. Printed by genKm.py of this repository. -/
import Derived.Test.YtokkngfgppikkaaKl
namespace Go.Proofs.Ytokkngfgppikkaa
set_option linter.unusedVariables false
set_option linter.unusedSimpArgs false
open Go.RowKit
attribute [local go_sem high] eqKnown eqKnown_zero

def vFive : Op := ⟨⟨8, 1, 0, 0, 5⟩, false, 0, 0, 0⟩
def vB0 : Block := ⟨[vFive], ⟨2, 15, 1, 0, 1, 2, ⟨0, 0, 0, 0, 0⟩⟩⟩
def vB1 : Block := ⟨[], ⟨3, 0, 0, 0, 0, 0, ⟨21, 0, 0, 0, 0⟩⟩⟩
def vK : Known := ⟨true, true :: true :: List.replicate 14 false, 0 :: 5 :: List.replicate 14 0⟩
theorem vK_wf : vK.wf := ⟨rfl, rfl, by decide⟩
theorem vReads : readsList 8 1 0 0 = [] := by rw [readsList_eq (imm := 5) (by decide)]; decide
theorem vCan : canK Known.none vFive = true := by
  unfold canK
  show ((0 : Int) == 0 && (!false && allK Known.none (readsList 8 1 0 0))) = true
  rw [vReads]
  rfl
theorem vDone : doneK Known.none vFive = 5 := by decide
theorem vBehind : behindK Known.none vFive = vK := by
  rw [behindK_re rfl, if_neg (by decide), if_neg (by decide), if_pos vCan, vDone]
  rfl
theorem vTaken : takenK vK vB0.fin = (false, true) := by decide
theorem vWays : waysK vK vB0.fin = [2] := by
  unfold waysK
  rw [if_neg (by decide), if_pos (by decide), vTaken]
  rfl
theorem vJoin : joinK vK Known.none = Known.none := by decide
theorem vJoin0 : joinK Known.zero vK = vK := by unfold joinK; rw [if_pos (show Known.zero.reached = false from rfl)]
theorem vOk : BsOk [vB0, vB1, vB1] := ⟨1000, 1000, by decide⟩
theorem vAt {ins : List Known} (h : IsAt [vB0, vB1, vB1] ins) : ins = [Known.none, Known.zero, vK] := by
  have s0 : AtI [vB0, vB1, vB1] [Known.none, Known.zero, Known.zero] := AtI.start (bs := [vB0, vB1, vB1]) (by decide)
  have hh := s0.hand vOk (i := 0) (b := vB0) rfl rfl
  have e0 : behindOps vB0.ops (getK [Known.none, Known.zero, Known.zero] 0) = vK := vBehind
  rw [e0] at hh
  have s1 := s0.set vOk hh (d := 2) (by rw [vWays]; exact List.mem_cons_self ..) (by decide)
  have e1 : joinK (getK [Known.none, Known.zero, Known.zero] 2) vK = vK := vJoin0
  rw [e1] at s1
  have s1' : AtI [vB0, vB1, vB1] [Known.none, Known.zero, vK] := s1
  refine h.unique ⟨s1', s1'.good, s1'.zero, fun i b hb hr d hd => ?_⟩
  match i, hb with
  | 0, hb =>
    injection hb with hb
    subst hb
    have e2 : behindOps vB0.ops (getK [Known.none, Known.zero, vK] 0) = vK := vBehind
    rw [e2] at hd ⊢
    rw [vWays, List.mem_singleton] at hd
    subst hd
    exact LeK.refl _
  | 1, hb => cases hr
  | 2, hb =>
    injection hb with hb
    subst hb
    unfold waysK at hd
    rw [if_neg (by decide), if_neg (by decide)] at hd
    cases hd

theorem awake20_mem (w : World) : ∃ W : World, W = (((((w.alloc (.cells #[.int .i64 8, .int .i64 1, .int .i64 0, .int .i64 0, .int .i64 5, .bool false, .int .i64 0, .int .i64 0, .int .i64 0] 44)).alloc (.cells #[.int .i64 3, .int .i64 0, .int .i64 0, .int .i64 0, .int .i64 0, .int .i64 0, .int .i64 21, .int .i64 0, .int .i64 0, .int .i64 0, .int .i64 0] 40)).alloc (.cells #[.int .i64 8, .int .i64 1, .int .i64 0, .int .i64 0, .int .i64 5, .bool false, .int .i64 0, .int .i64 0, .int .i64 0] 44)).alloc (.cells #[.slice (some ⟨w.heap.size + 1 + 1, 0, none⟩) 1 1, .int .i64 2, .int .i64 15, .int .i64 1, .int .i64 0, .int .i64 1, .int .i64 2, .int .i64 0, .int .i64 0, .int .i64 0, .int .i64 0, .int .i64 0, .slice none 0 0, .int .i64 3, .int .i64 0, .int .i64 0, .int .i64 0, .int .i64 0, .int .i64 0, .int .i64 21, .int .i64 0, .int .i64 0, .int .i64 0, .int .i64 0, .slice none 0 0, .int .i64 3, .int .i64 0, .int .i64 0, .int .i64 0, .int .i64 0, .int .i64 0, .int .i64 21, .int .i64 0, .int .i64 0, .int .i64 0, .int .i64 0] 42)).alloc (.cells #[.string (⟨#[]⟩ : ByteArray), .bool false, .bool false, .slice (some ⟨w.heap.size + 1 + 1 + 1, 0, none⟩) 3 3] 33)) ∧ Row W (w.heap.size) 44 [.int .i64 8, .int .i64 1, .int .i64 0, .int .i64 0, .int .i64 5, .bool false, .int .i64 0, .int .i64 0, .int .i64 0] ∧ Row W (w.heap.size + 1) 40 [.int .i64 3, .int .i64 0, .int .i64 0, .int .i64 0, .int .i64 0, .int .i64 0, .int .i64 21, .int .i64 0, .int .i64 0, .int .i64 0, .int .i64 0] ∧ kOp.C W (some ⟨w.heap.size + 1 + 1, 0, none⟩) [vFive] ∧ Row W (w.heap.size + 1 + 1 + 1) 42 [.slice (some ⟨w.heap.size + 1 + 1, 0, none⟩) 1 1, .int .i64 2, .int .i64 15, .int .i64 1, .int .i64 0, .int .i64 1, .int .i64 2, .int .i64 0, .int .i64 0, .int .i64 0, .int .i64 0, .int .i64 0, .slice none 0 0, .int .i64 3, .int .i64 0, .int .i64 0, .int .i64 0, .int .i64 0, .int .i64 0, .int .i64 21, .int .i64 0, .int .i64 0, .int .i64 0, .int .i64 0, .slice none 0 0, .int .i64 3, .int .i64 0, .int .i64 0, .int .i64 0, .int .i64 0, .int .i64 0, .int .i64 21, .int .i64 0, .int .i64 0, .int .i64 0, .int .i64 0] ∧ kBlock.C W (some ⟨w.heap.size + 1 + 1 + 1, 0, none⟩) [vB0, vB1, vB1] ∧ Row W (w.heap.size + 1 + 1 + 1 + 1) 33 [.string (⟨#[]⟩ : ByteArray), .bool false, .bool false, .slice (some ⟨w.heap.size + 1 + 1 + 1, 0, none⟩) 3 3] ∧ Below w.heap.size w W ∧ W.heap.size = w.heap.size + 1 + 1 + 1 + 1 + 1 := by
  have e1 : (w.alloc (.cells #[.int .i64 8, .int .i64 1, .int .i64 0, .int .i64 0, .int .i64 5, .bool false, .int .i64 0, .int .i64 0, .int .i64 0] 44)).heap.size = w.heap.size + 1 := by simp
  have b1 := below_alloc' w (.cells #[.int .i64 8, .int .i64 1, .int .i64 0, .int .i64 0, .int .i64 5, .bool false, .int .i64 0, .int .i64 0, .int .i64 0] 44)
  have r0 : Row (w.alloc (.cells #[.int .i64 8, .int .i64 1, .int .i64 0, .int .i64 0, .int .i64 5, .bool false, .int .i64 0, .int .i64 0, .int .i64 0] 44)) (w.heap.size) 44 [.int .i64 8, .int .i64 1, .int .i64 0, .int .i64 0, .int .i64 5, .bool false, .int .i64 0, .int .i64 0, .int .i64 0] := Row.new w _ _
  generalize (w.alloc (.cells #[.int .i64 8, .int .i64 1, .int .i64 0, .int .i64 0, .int .i64 5, .bool false, .int .i64 0, .int .i64 0, .int .i64 0] 44)) = W1 at *
  have e2 : (W1.alloc (.cells #[.int .i64 3, .int .i64 0, .int .i64 0, .int .i64 0, .int .i64 0, .int .i64 0, .int .i64 21, .int .i64 0, .int .i64 0, .int .i64 0, .int .i64 0] 40)).heap.size = w.heap.size + 1 + 1 := by simp [e1]
  have b2 := below_alloc' W1 (.cells #[.int .i64 3, .int .i64 0, .int .i64 0, .int .i64 0, .int .i64 0, .int .i64 0, .int .i64 21, .int .i64 0, .int .i64 0, .int .i64 0, .int .i64 0] 40)
  have r1 : Row (W1.alloc (.cells #[.int .i64 3, .int .i64 0, .int .i64 0, .int .i64 0, .int .i64 0, .int .i64 0, .int .i64 21, .int .i64 0, .int .i64 0, .int .i64 0, .int .i64 0] 40)) (w.heap.size + 1) 40 [.int .i64 3, .int .i64 0, .int .i64 0, .int .i64 0, .int .i64 0, .int .i64 0, .int .i64 21, .int .i64 0, .int .i64 0, .int .i64 0, .int .i64 0] := by have := Row.new W1 40 #[.int .i64 3, .int .i64 0, .int .i64 0, .int .i64 0, .int .i64 0, .int .i64 0, .int .i64 21, .int .i64 0, .int .i64 0, .int .i64 0, .int .i64 0]; rw [e1] at this; exact this
  replace r0 := r0.below b2
  generalize (W1.alloc (.cells #[.int .i64 3, .int .i64 0, .int .i64 0, .int .i64 0, .int .i64 0, .int .i64 0, .int .i64 21, .int .i64 0, .int .i64 0, .int .i64 0, .int .i64 0] 40)) = W2 at *
  have e3 : (W2.alloc (.cells #[.int .i64 8, .int .i64 1, .int .i64 0, .int .i64 0, .int .i64 5, .bool false, .int .i64 0, .int .i64 0, .int .i64 0] 44)).heap.size = w.heap.size + 1 + 1 + 1 := by simp [e2]
  have b3 := below_alloc' W2 (.cells #[.int .i64 8, .int .i64 1, .int .i64 0, .int .i64 0, .int .i64 5, .bool false, .int .i64 0, .int .i64 0, .int .i64 0] 44)
  have c2 : kOp.C (W2.alloc (.cells #[.int .i64 8, .int .i64 1, .int .i64 0, .int .i64 0, .int .i64 5, .bool false, .int .i64 0, .int .i64 0, .int .i64 0] 44)) (some ⟨w.heap.size + 1 + 1, 0, none⟩) [vFive] := by
    exact C_one kOp W2 _ e2.symm _ _ _ (kOp_mk W2 vFive (by unfold Op.wf; decide))
  replace r0 := r0.below b3
  replace r1 := r1.below b3
  generalize (W2.alloc (.cells #[.int .i64 8, .int .i64 1, .int .i64 0, .int .i64 0, .int .i64 5, .bool false, .int .i64 0, .int .i64 0, .int .i64 0] 44)) = W3 at *
  have e4 : (W3.alloc (.cells #[.slice (some ⟨w.heap.size + 1 + 1, 0, none⟩) 1 1, .int .i64 2, .int .i64 15, .int .i64 1, .int .i64 0, .int .i64 1, .int .i64 2, .int .i64 0, .int .i64 0, .int .i64 0, .int .i64 0, .int .i64 0, .slice none 0 0, .int .i64 3, .int .i64 0, .int .i64 0, .int .i64 0, .int .i64 0, .int .i64 0, .int .i64 21, .int .i64 0, .int .i64 0, .int .i64 0, .int .i64 0, .slice none 0 0, .int .i64 3, .int .i64 0, .int .i64 0, .int .i64 0, .int .i64 0, .int .i64 0, .int .i64 21, .int .i64 0, .int .i64 0, .int .i64 0, .int .i64 0] 42)).heap.size = w.heap.size + 1 + 1 + 1 + 1 := by simp [e3]
  have b4 := below_alloc' W3 (.cells #[.slice (some ⟨w.heap.size + 1 + 1, 0, none⟩) 1 1, .int .i64 2, .int .i64 15, .int .i64 1, .int .i64 0, .int .i64 1, .int .i64 2, .int .i64 0, .int .i64 0, .int .i64 0, .int .i64 0, .int .i64 0, .slice none 0 0, .int .i64 3, .int .i64 0, .int .i64 0, .int .i64 0, .int .i64 0, .int .i64 0, .int .i64 21, .int .i64 0, .int .i64 0, .int .i64 0, .int .i64 0, .slice none 0 0, .int .i64 3, .int .i64 0, .int .i64 0, .int .i64 0, .int .i64 0, .int .i64 0, .int .i64 21, .int .i64 0, .int .i64 0, .int .i64 0, .int .i64 0] 42)
  have r3 : Row (W3.alloc (.cells #[.slice (some ⟨w.heap.size + 1 + 1, 0, none⟩) 1 1, .int .i64 2, .int .i64 15, .int .i64 1, .int .i64 0, .int .i64 1, .int .i64 2, .int .i64 0, .int .i64 0, .int .i64 0, .int .i64 0, .int .i64 0, .slice none 0 0, .int .i64 3, .int .i64 0, .int .i64 0, .int .i64 0, .int .i64 0, .int .i64 0, .int .i64 21, .int .i64 0, .int .i64 0, .int .i64 0, .int .i64 0, .slice none 0 0, .int .i64 3, .int .i64 0, .int .i64 0, .int .i64 0, .int .i64 0, .int .i64 0, .int .i64 21, .int .i64 0, .int .i64 0, .int .i64 0, .int .i64 0] 42)) (w.heap.size + 1 + 1 + 1) 42 [.slice (some ⟨w.heap.size + 1 + 1, 0, none⟩) 1 1, .int .i64 2, .int .i64 15, .int .i64 1, .int .i64 0, .int .i64 1, .int .i64 2, .int .i64 0, .int .i64 0, .int .i64 0, .int .i64 0, .int .i64 0, .slice none 0 0, .int .i64 3, .int .i64 0, .int .i64 0, .int .i64 0, .int .i64 0, .int .i64 0, .int .i64 21, .int .i64 0, .int .i64 0, .int .i64 0, .int .i64 0, .slice none 0 0, .int .i64 3, .int .i64 0, .int .i64 0, .int .i64 0, .int .i64 0, .int .i64 0, .int .i64 21, .int .i64 0, .int .i64 0, .int .i64 0, .int .i64 0] := by have := Row.new W3 42 #[.slice (some ⟨w.heap.size + 1 + 1, 0, none⟩) 1 1, .int .i64 2, .int .i64 15, .int .i64 1, .int .i64 0, .int .i64 1, .int .i64 2, .int .i64 0, .int .i64 0, .int .i64 0, .int .i64 0, .int .i64 0, .slice none 0 0, .int .i64 3, .int .i64 0, .int .i64 0, .int .i64 0, .int .i64 0, .int .i64 0, .int .i64 21, .int .i64 0, .int .i64 0, .int .i64 0, .int .i64 0, .slice none 0 0, .int .i64 3, .int .i64 0, .int .i64 0, .int .i64 0, .int .i64 0, .int .i64 0, .int .i64 21, .int .i64 0, .int .i64 0, .int .i64 0, .int .i64 0]; rw [e3] at this; exact this
  have c3 : kBlock.C (W3.alloc (.cells #[.slice (some ⟨w.heap.size + 1 + 1, 0, none⟩) 1 1, .int .i64 2, .int .i64 15, .int .i64 1, .int .i64 0, .int .i64 1, .int .i64 2, .int .i64 0, .int .i64 0, .int .i64 0, .int .i64 0, .int .i64 0, .slice none 0 0, .int .i64 3, .int .i64 0, .int .i64 0, .int .i64 0, .int .i64 0, .int .i64 0, .int .i64 21, .int .i64 0, .int .i64 0, .int .i64 0, .int .i64 0, .slice none 0 0, .int .i64 3, .int .i64 0, .int .i64 0, .int .i64 0, .int .i64 0, .int .i64 0, .int .i64 21, .int .i64 0, .int .i64 0, .int .i64 0, .int .i64 0] 42)) (some ⟨w.heap.size + 1 + 1 + 1, 0, none⟩) [vB0, vB1, vB1] := by
    refine C_lit kBlock W3 _ e3.symm _ [vB0, vB1, vB1] [[.slice (some ⟨w.heap.size + 1 + 1, 0, none⟩) 1 1, .int .i64 2, .int .i64 15, .int .i64 1, .int .i64 0, .int .i64 1, .int .i64 2, .int .i64 0, .int .i64 0, .int .i64 0, .int .i64 0, .int .i64 0], [.slice none 0 0, .int .i64 3, .int .i64 0, .int .i64 0, .int .i64 0, .int .i64 0, .int .i64 0, .int .i64 21, .int .i64 0, .int .i64 0, .int .i64 0, .int .i64 0], [.slice none 0 0, .int .i64 3, .int .i64 0, .int .i64 0, .int .i64 0, .int .i64 0, .int .i64 0, .int .i64 21, .int .i64 0, .int .i64 0, .int .i64 0, .int .i64 0]] _ rfl rfl ?_
    intro i x cs hx hc
    match i with
    | 0 => simp at hx hc; subst hx hc; exact kBlock_mk W3 vB0 (c0 := 1) (by unfold Block.wf; decide) (by decide) (by decide) c2
    | 1 => simp at hx hc; subst hx hc; exact kBlock_mk W3 vB1 (c0 := 0) (by unfold Block.wf; decide) (by decide) (by decide) (C_nil kOp W3 none)
    | 2 => simp at hx hc; subst hx hc; exact kBlock_mk W3 vB1 (c0 := 0) (by unfold Block.wf; decide) (by decide) (by decide) (C_nil kOp W3 none)
    | i + 3 => simp at hx
  replace r0 := r0.below b4
  replace r1 := r1.below b4
  replace c2 := Kd.C_mono b4 c2
  generalize (W3.alloc (.cells #[.slice (some ⟨w.heap.size + 1 + 1, 0, none⟩) 1 1, .int .i64 2, .int .i64 15, .int .i64 1, .int .i64 0, .int .i64 1, .int .i64 2, .int .i64 0, .int .i64 0, .int .i64 0, .int .i64 0, .int .i64 0, .slice none 0 0, .int .i64 3, .int .i64 0, .int .i64 0, .int .i64 0, .int .i64 0, .int .i64 0, .int .i64 21, .int .i64 0, .int .i64 0, .int .i64 0, .int .i64 0, .slice none 0 0, .int .i64 3, .int .i64 0, .int .i64 0, .int .i64 0, .int .i64 0, .int .i64 0, .int .i64 21, .int .i64 0, .int .i64 0, .int .i64 0, .int .i64 0] 42)) = W4 at *
  have e5 : (W4.alloc (.cells #[.string (⟨#[]⟩ : ByteArray), .bool false, .bool false, .slice (some ⟨w.heap.size + 1 + 1 + 1, 0, none⟩) 3 3] 33)).heap.size = w.heap.size + 1 + 1 + 1 + 1 + 1 := by simp [e4]
  have b5 := below_alloc' W4 (.cells #[.string (⟨#[]⟩ : ByteArray), .bool false, .bool false, .slice (some ⟨w.heap.size + 1 + 1 + 1, 0, none⟩) 3 3] 33)
  have r4 : Row (W4.alloc (.cells #[.string (⟨#[]⟩ : ByteArray), .bool false, .bool false, .slice (some ⟨w.heap.size + 1 + 1 + 1, 0, none⟩) 3 3] 33)) (w.heap.size + 1 + 1 + 1 + 1) 33 [.string (⟨#[]⟩ : ByteArray), .bool false, .bool false, .slice (some ⟨w.heap.size + 1 + 1 + 1, 0, none⟩) 3 3] := by have := Row.new W4 33 #[.string (⟨#[]⟩ : ByteArray), .bool false, .bool false, .slice (some ⟨w.heap.size + 1 + 1 + 1, 0, none⟩) 3 3]; rw [e4] at this; exact this
  replace r0 := r0.below b5
  replace r1 := r1.below b5
  replace c2 := Kd.C_mono b5 c2
  replace r3 := r3.below b5
  replace c3 := Kd.C_mono b5 c3
  generalize (W4.alloc (.cells #[.string (⟨#[]⟩ : ByteArray), .bool false, .bool false, .slice (some ⟨w.heap.size + 1 + 1 + 1, 0, none⟩) 3 3] 33)) = W5 at *
  exact ⟨_, rfl, r0, r1, c2, r3, c3, r4, (b1.trans ((b2.trans ((b3.trans ((b4.trans (b5.mono b4.size)).mono b3.size)).mono b2.size)).mono b1.size)), e5⟩

set_option maxHeartbeats 8000000 in
set_option maxRecDepth 100000 in
theorem awake20_calls (w : World) : Calls Try.prog 15 #[] w fun e w' => e = .returned (.bool true) ∧ Below w.heap.size w w' := by
  obtain ⟨W, hW, r0, r1, c2, r3, c3, r4, hbW, hsz⟩ := awake20_mem w
  have HW := Lib.hid hW
  clear hW hsz c2 r1
  have h300 : ∀ b ∈ [vB0, vB1, vB1], b.ops.length ≤ 300 := by decide
  have hbc : ∀ w : World, Calls Try.prog 21 #[.agg (knownCells Known.none).toArray, .agg #[.int .i64 8, .int .i64 1, .int .i64 0, .int .i64 0, .int .i64 5, .bool false, .int .i64 0, .int .i64 0, .int .i64 0]] w fun e w' => e = .returned (.agg (knownCells vK).toArray) ∧ Below w.heap.size w w' := fun w => by
    have h := behind_calls Known.none vFive w Known.none_wf (by decide)
    rw [vBehind] at h
    exact h
  have htc : ∀ w : World, Calls Try.prog 23 #[.agg (knownCells vK).toArray, .agg #[.int .i64 2, .int .i64 15, .int .i64 1, .int .i64 0, .int .i64 1, .int .i64 2, .int .i64 0, .int .i64 0, .int .i64 0, .int .i64 0, .int .i64 0]] w fun e w' => e = .returned (.tuple #[.bool false, .bool true]) ∧ Below w.heap.size w w' := fun w => by
    have h := taken_calls vK vB0.fin w vK_wf (by decide) (by decide)
    rw [vTaken] at h
    exact h
  have hjc : ∀ w : World, Calls Try.prog 17 #[.agg (knownCells vK).toArray, .agg (knownCells Known.none).toArray] w fun e w' => e = .returned (.agg (knownCells Known.none).toArray) ∧ Below w.heap.size w w' := fun w => by
    have h := join_calls vK Known.none w vK_wf Known.none_wf
    rw [vJoin] at h
    exact h
  go_enter Try.func15, Try.ntmps15
  go_upto_region 4 with fail
  rw [← HW.out]
  clear HW
  have y0 := r4.cell (j := 0) rfl
  have y1 := r4.cell (j := 1) rfl
  have y2 := r4.cell (j := 2) rfl
  have y3 := r4.cell (j := 3) rfl
  have R0 := Lib.hid r0
  have R3 := Lib.hid r3
  have R4 := Lib.hid r4
  clear r0 r3 r4
  go_wp2_with fail
  refine (at_calls _ _ _ _ 3 [vB0, vB1, vB1] _ c3 (by decide) vOk h300 (by decide)).mono ?_
  rintro e w1 ⟨g1, ins1, rfl, hat, own1, hg1, hb1⟩
  have hi1 := vAt hat
  subst hi1
  have t1 := hbW.trans (hb1.mono hbW.size)
  have r0 := R0.out.below hb1
  have r3 := R3.out.below hb1
  have r4 := R4.out.below hb1
  clear y0 y1 y2 y3 hat c3 hbW hb1 R0 R3 R4
  go_upto_region 5 with fail
  have bd1 := (Below.refl w1.heap.size w1).drew
  have hG0 := r0.lt
  go_cut [5] (fun v wx => ∃ g5, v = .pointer (some ⟨g5, 0, none⟩) ∧ Row wx g5 26 (knownCells vK) ∧ Below w1.heap.size w1 wx)
  case first =>
    refine wp_region_held_drew (S := (fun w' => Row w' w.heap.size 44 [.int .i64 8, .int .i64 1, .int .i64 0, .int .i64 0, .int .i64 5, .bool false, .int .i64 0, .int .i64 0, .int .i64 0])) (by kernel_rfl) (Row.below r0 bd1) (fun hHeld => ?_)
    refine wpAnyH_take (i := 1) (oi := _) (v := ?v5m1_1) rfl (by kernel_rfl) (by kernel_rfl) (by kernel_rfl) (fun _ _ _ h => h) (Or.inl ⟨by rfl, ?hy5m1_1⟩) hHeld ?_
    case hy5m1_1 => (intro wS hSw; (try dsimp only at hSw); have s0 := Row.cell hSw (j := 0) rfl; have s1 := Row.cell hSw (j := 1) rfl; have s2 := Row.cell hSw (j := 2) rfl; have s3 := Row.cell hSw (j := 3) rfl; have s4 := Row.cell hSw (j := 4) rfl; have s5 := Row.cell hSw (j := 5) rfl; have s6 := Row.cell hSw (j := 6) rfl; have s7 := Row.cell hSw (j := 7) rfl; have s8 := Row.cell hSw (j := 8) rfl; go_simp; try with_reducible rfl)
    try simp only [List.getElem_toArray, List.getElem_cons_succ, List.getElem_cons_zero, Act.put, List.setIfInBounds_toArray, List.set_cons_zero, List.set_cons_succ]
    refine wpAnyH_ready (rs := [0, 3]) (by kernel_rfl) (by simp) ?_
    refine (AllReadyH.cons (o := _) rfl (fun K hK => ?_) (AllReadyH.cons (o := _) rfl (fun K hK => ?_) AllReadyH.nil))
    · go_simp
      refine (zero_calls _).mono ?_
      rintro e w2 ⟨rfl, hb2⟩
      have u2 : Below w1.heap.size w1 w2 := bd1.trans (hb2.mono bd1.size)
      go_wp2_with fail
      refine hK.out _ _ (Row.below hHeld hb2) (fun hHeld2 => ?_)
      clear hK K hHeld
      try simp only [List.getElem_toArray, List.getElem_cons_succ, List.getElem_cons_zero, Act.put, List.setIfInBounds_toArray, List.set_cons_zero, List.set_cons_succ]
      refine wpAnyH_ready (rs := [2, 3]) (by kernel_rfl) (by simp) ?_
      refine (AllReadyH.cons (o := _) rfl (fun K hK => ?_) (AllReadyH.cons (o := _) rfl (fun K hK => ?_) AllReadyH.nil))
      · go_simp
        refine (hbc _).mono ?_
        rintro e w3 ⟨rfl, hb3⟩
        have u3 : Below w1.heap.size w1 w3 := u2.trans (hb3.mono u2.size)
        go_wp2_with fail
        refine hK.out _ _ (Row.below hHeld2 hb3) (fun hHeld3 => ?_)
        clear hK K hHeld2
        try simp only [List.getElem_toArray, List.getElem_cons_succ, List.getElem_cons_zero, Act.put, List.setIfInBounds_toArray, List.set_cons_zero, List.set_cons_succ]
        refine wpAnyH_ready (rs := [3]) (by kernel_rfl) (by simp) ?_
        refine (AllReadyH.cons (o := _) rfl (fun K hK => ?_) AllReadyH.nil)
        go_simp
        have bn := below_alloc' w3 (.cells #[.bool false, .bool false, .bool false, .bool false, .bool false, .bool false, .bool false, .bool false, .bool false, .bool false, .bool false, .bool false, .bool false, .bool false, .bool false, .bool false, .bool false, .int .u32 0, .int .u32 0, .int .u32 0, .int .u32 0, .int .u32 0, .int .u32 0, .int .u32 0, .int .u32 0, .int .u32 0, .int .u32 0, .int .u32 0, .int .u32 0, .int .u32 0, .int .u32 0, .int .u32 0, .int .u32 0] 26)
        have rn : Row (w3.alloc (.cells #[.bool false, .bool false, .bool false, .bool false, .bool false, .bool false, .bool false, .bool false, .bool false, .bool false, .bool false, .bool false, .bool false, .bool false, .bool false, .bool false, .bool false, .int .u32 0, .int .u32 0, .int .u32 0, .int .u32 0, .int .u32 0, .int .u32 0, .int .u32 0, .int .u32 0, .int .u32 0, .int .u32 0, .int .u32 0, .int .u32 0, .int .u32 0, .int .u32 0, .int .u32 0, .int .u32 0] 26)) w3.heap.size 26 (knownCells Known.zero) := Row.new _ _ _
        have un : Below w1.heap.size w1 (w3.alloc (.cells #[.bool false, .bool false, .bool false, .bool false, .bool false, .bool false, .bool false, .bool false, .bool false, .bool false, .bool false, .bool false, .bool false, .bool false, .bool false, .bool false, .bool false, .int .u32 0, .int .u32 0, .int .u32 0, .int .u32 0, .int .u32 0, .int .u32 0, .int .u32 0, .int .u32 0, .int .u32 0, .int .u32 0, .int .u32 0, .int .u32 0, .int .u32 0, .int .u32 0, .int .u32 0, .int .u32 0] 26)) := u3.trans (bn.mono u3.size)
        have hlN : w1.heap.size ≤ w3.heap.size := u3.size
        refine hK.out _ _ (Row.below hHeld3 bn) (fun hHeld4 => ?_)
        clear hK K hHeld3
        try simp only [List.getElem_toArray, List.getElem_cons_succ, List.getElem_cons_zero, Act.put, List.setIfInBounds_toArray, List.set_cons_zero, List.set_cons_succ]
        refine wpAnyH_ready (rs := [4]) (by kernel_rfl) (by simp) ?_
        refine (AllReadyH.cons (o := _) rfl (fun K hK => ?_) AllReadyH.nil)
        refine step_put_row rfl _ _ _ rfl (w3.heap.size) (knownCells vK) rfl rfl rn (infoKnown vK_wf) (by rw [knownCells_len vK_wf]; rfl) (knownCells_one _) ?_
        intro w7 r7 g7 s7
        clear s7
        have u7 : Below w1.heap.size w1 w7 := un.grown g7 un.size (fun j hj => by injection hj with hj; subst hj; exact hlN)
        refine hK.out _ _ (hHeld4.grown g7 (fun e => by injection e with e; have := hG0; have := hlN; omega)) (fun hHeld5 => ?_)
        clear hK K hHeld4
        try simp only [List.getElem_toArray, List.getElem_cons_succ, List.getElem_cons_zero, Act.put, List.setIfInBounds_toArray, List.set_cons_zero, List.set_cons_succ]
        refine wpAnyH_done (by kernel_rfl) ?_ _
        (go_wp2_with fail; go_meet; exact ⟨_, rfl, r7, u7⟩)
      · go_simp
        have bn := below_alloc' w2 (.cells #[.bool false, .bool false, .bool false, .bool false, .bool false, .bool false, .bool false, .bool false, .bool false, .bool false, .bool false, .bool false, .bool false, .bool false, .bool false, .bool false, .bool false, .int .u32 0, .int .u32 0, .int .u32 0, .int .u32 0, .int .u32 0, .int .u32 0, .int .u32 0, .int .u32 0, .int .u32 0, .int .u32 0, .int .u32 0, .int .u32 0, .int .u32 0, .int .u32 0, .int .u32 0, .int .u32 0] 26)
        have rn : Row (w2.alloc (.cells #[.bool false, .bool false, .bool false, .bool false, .bool false, .bool false, .bool false, .bool false, .bool false, .bool false, .bool false, .bool false, .bool false, .bool false, .bool false, .bool false, .bool false, .int .u32 0, .int .u32 0, .int .u32 0, .int .u32 0, .int .u32 0, .int .u32 0, .int .u32 0, .int .u32 0, .int .u32 0, .int .u32 0, .int .u32 0, .int .u32 0, .int .u32 0, .int .u32 0, .int .u32 0, .int .u32 0] 26)) w2.heap.size 26 (knownCells Known.zero) := Row.new _ _ _
        have un : Below w1.heap.size w1 (w2.alloc (.cells #[.bool false, .bool false, .bool false, .bool false, .bool false, .bool false, .bool false, .bool false, .bool false, .bool false, .bool false, .bool false, .bool false, .bool false, .bool false, .bool false, .bool false, .int .u32 0, .int .u32 0, .int .u32 0, .int .u32 0, .int .u32 0, .int .u32 0, .int .u32 0, .int .u32 0, .int .u32 0, .int .u32 0, .int .u32 0, .int .u32 0, .int .u32 0, .int .u32 0, .int .u32 0, .int .u32 0] 26)) := u2.trans (bn.mono u2.size)
        have hlN : w1.heap.size ≤ w2.heap.size := u2.size
        refine hK.out _ _ (Row.below hHeld2 bn) (fun hHeld6 => ?_)
        clear hK K hHeld2
        try simp only [List.getElem_toArray, List.getElem_cons_succ, List.getElem_cons_zero, Act.put, List.setIfInBounds_toArray, List.set_cons_zero, List.set_cons_succ]
        refine wpAnyH_ready (rs := [2]) (by kernel_rfl) (by simp) ?_
        refine (AllReadyH.cons (o := _) rfl (fun K hK => ?_) AllReadyH.nil)
        go_simp
        refine (hbc _).mono ?_
        rintro e w3 ⟨rfl, hb3⟩
        have u3 : Below w1.heap.size w1 w3 := un.trans (hb3.mono un.size)
        replace rn := rn.below hb3
        go_wp2_with fail
        refine hK.out _ _ (Row.below hHeld6 hb3) (fun hHeld7 => ?_)
        clear hK K hHeld6
        try simp only [List.getElem_toArray, List.getElem_cons_succ, List.getElem_cons_zero, Act.put, List.setIfInBounds_toArray, List.set_cons_zero, List.set_cons_succ]
        refine wpAnyH_ready (rs := [4]) (by kernel_rfl) (by simp) ?_
        refine (AllReadyH.cons (o := _) rfl (fun K hK => ?_) AllReadyH.nil)
        refine step_put_row rfl _ _ _ rfl (w2.heap.size) (knownCells vK) rfl rfl rn (infoKnown vK_wf) (by rw [knownCells_len vK_wf]; rfl) (knownCells_one _) ?_
        intro w7 r7 g7 s7
        clear s7
        have u7 : Below w1.heap.size w1 w7 := u3.grown g7 u3.size (fun j hj => by injection hj with hj; subst hj; exact hlN)
        refine hK.out _ _ (hHeld7.grown g7 (fun e => by injection e with e; have := hG0; have := hlN; omega)) (fun hHeld8 => ?_)
        clear hK K hHeld7
        try simp only [List.getElem_toArray, List.getElem_cons_succ, List.getElem_cons_zero, Act.put, List.setIfInBounds_toArray, List.set_cons_zero, List.set_cons_succ]
        refine wpAnyH_done (by kernel_rfl) ?_ _
        (go_wp2_with fail; go_meet; exact ⟨_, rfl, r7, u7⟩)
    · go_simp
      have bn := below_alloc' w1.drew (.cells #[.bool false, .bool false, .bool false, .bool false, .bool false, .bool false, .bool false, .bool false, .bool false, .bool false, .bool false, .bool false, .bool false, .bool false, .bool false, .bool false, .bool false, .int .u32 0, .int .u32 0, .int .u32 0, .int .u32 0, .int .u32 0, .int .u32 0, .int .u32 0, .int .u32 0, .int .u32 0, .int .u32 0, .int .u32 0, .int .u32 0, .int .u32 0, .int .u32 0, .int .u32 0, .int .u32 0] 26)
      have rn : Row (w1.drew.alloc (.cells #[.bool false, .bool false, .bool false, .bool false, .bool false, .bool false, .bool false, .bool false, .bool false, .bool false, .bool false, .bool false, .bool false, .bool false, .bool false, .bool false, .bool false, .int .u32 0, .int .u32 0, .int .u32 0, .int .u32 0, .int .u32 0, .int .u32 0, .int .u32 0, .int .u32 0, .int .u32 0, .int .u32 0, .int .u32 0, .int .u32 0, .int .u32 0, .int .u32 0, .int .u32 0, .int .u32 0] 26)) w1.drew.heap.size 26 (knownCells Known.zero) := Row.new _ _ _
      have un : Below w1.heap.size w1 (w1.drew.alloc (.cells #[.bool false, .bool false, .bool false, .bool false, .bool false, .bool false, .bool false, .bool false, .bool false, .bool false, .bool false, .bool false, .bool false, .bool false, .bool false, .bool false, .bool false, .int .u32 0, .int .u32 0, .int .u32 0, .int .u32 0, .int .u32 0, .int .u32 0, .int .u32 0, .int .u32 0, .int .u32 0, .int .u32 0, .int .u32 0, .int .u32 0, .int .u32 0, .int .u32 0, .int .u32 0, .int .u32 0] 26)) := bd1.trans (bn.mono bd1.size)
      have hlN : w1.heap.size ≤ w1.drew.heap.size := bd1.size
      refine hK.out _ _ (Row.below hHeld bn) (fun hHeld9 => ?_)
      clear hK K hHeld
      try simp only [List.getElem_toArray, List.getElem_cons_succ, List.getElem_cons_zero, Act.put, List.setIfInBounds_toArray, List.set_cons_zero, List.set_cons_succ]
      refine wpAnyH_ready (rs := [0]) (by kernel_rfl) (by simp) ?_
      refine (AllReadyH.cons (o := _) rfl (fun K hK => ?_) AllReadyH.nil)
      go_simp
      refine (zero_calls _).mono ?_
      rintro e w2 ⟨rfl, hb2⟩
      have u2 : Below w1.heap.size w1 w2 := un.trans (hb2.mono un.size)
      replace rn := rn.below hb2
      go_wp2_with fail
      refine hK.out _ _ (Row.below hHeld9 hb2) (fun hHeld10 => ?_)
      clear hK K hHeld9
      try simp only [List.getElem_toArray, List.getElem_cons_succ, List.getElem_cons_zero, Act.put, List.setIfInBounds_toArray, List.set_cons_zero, List.set_cons_succ]
      refine wpAnyH_ready (rs := [2]) (by kernel_rfl) (by simp) ?_
      refine (AllReadyH.cons (o := _) rfl (fun K hK => ?_) AllReadyH.nil)
      go_simp
      refine (hbc _).mono ?_
      rintro e w3 ⟨rfl, hb3⟩
      have u3 : Below w1.heap.size w1 w3 := u2.trans (hb3.mono u2.size)
      replace rn := rn.below hb3
      go_wp2_with fail
      refine hK.out _ _ (Row.below hHeld10 hb3) (fun hHeld11 => ?_)
      clear hK K hHeld10
      try simp only [List.getElem_toArray, List.getElem_cons_succ, List.getElem_cons_zero, Act.put, List.setIfInBounds_toArray, List.set_cons_zero, List.set_cons_succ]
      refine wpAnyH_ready (rs := [4]) (by kernel_rfl) (by simp) ?_
      refine (AllReadyH.cons (o := _) rfl (fun K hK => ?_) AllReadyH.nil)
      refine step_put_row rfl _ _ _ rfl (w1.heap.size) (knownCells vK) rfl rfl rn (infoKnown vK_wf) (by rw [knownCells_len vK_wf]; rfl) (knownCells_one _) ?_
      intro w7 r7 g7 s7
      clear s7
      have u7 : Below w1.heap.size w1 w7 := u3.grown g7 u3.size (fun j hj => by injection hj with hj; subst hj; exact hlN)
      refine hK.out _ _ (hHeld11.grown g7 (fun e => by injection e with e; have := hG0; have := hlN; omega)) (fun hHeld12 => ?_)
      clear hK K hHeld11
      try simp only [List.getElem_toArray, List.getElem_cons_succ, List.getElem_cons_zero, Act.put, List.setIfInBounds_toArray, List.set_cons_zero, List.set_cons_succ]
      refine wpAnyH_done (by kernel_rfl) ?_ _
      (go_wp2_with fail; go_meet; exact ⟨_, rfl, r7, u7⟩)
  case rest =>
    obtain ⟨g5, rfl, r5, u5⟩ := hcut
    replace r3 := r3.below u5
    replace r4 := r4.below u5
    have t5 := t1.trans (u5.mono t1.size)
    have o5 := own1.below u5
    clear r0 bd1 own1 u5 t1
    have bd5 := (Below.refl wc.heap.size wc).drew
    go_upto_region 6 with fail
    refine wp_region_held_drew (S := (fun w' => Row w' g5 26 (knownCells vK) ∧ Row w' (w.heap.size + 1 + 1 + 1) 42 [.slice (some ⟨w.heap.size + 1 + 1, 0, none⟩) 1 1, .int .i64 2, .int .i64 15, .int .i64 1, .int .i64 0, .int .i64 1, .int .i64 2, .int .i64 0, .int .i64 0, .int .i64 0, .int .i64 0, .int .i64 0, .slice none 0 0, .int .i64 3, .int .i64 0, .int .i64 0, .int .i64 0, .int .i64 0, .int .i64 0, .int .i64 21, .int .i64 0, .int .i64 0, .int .i64 0, .int .i64 0, .slice none 0 0, .int .i64 3, .int .i64 0, .int .i64 0, .int .i64 0, .int .i64 0, .int .i64 0, .int .i64 21, .int .i64 0, .int .i64 0, .int .i64 0, .int .i64 0] ∧ Row w' (w.heap.size + 1 + 1 + 1 + 1) 33 [.string (⟨#[]⟩ : ByteArray), .bool false, .bool false, .slice (some ⟨w.heap.size + 1 + 1 + 1, 0, none⟩) 3 3])) (by kernel_rfl) (⟨Row.below r5 bd5, Row.below r3 bd5, Row.below r4 bd5⟩) (fun hHeld => ?_)
    refine wpAnyH_take (i := 0) (oi := _) (v := .agg (knownCells vK).toArray) rfl (by kernel_rfl) (by kernel_rfl) (by kernel_rfl) (fun _ _ _ h => h) (yieldsIf_load_known _ vK g5 0 vK_wf (fun wS hS => Row.range hS.1) rfl rfl rfl) hHeld ?_
    try simp only [List.getElem_toArray, List.getElem_cons_succ, List.getElem_cons_zero, Act.put, List.setIfInBounds_toArray, List.set_cons_zero, List.set_cons_succ]
    refine wpAnyH_take (i := 1) (oi := _) (v := ?v6n1_1) rfl (by kernel_rfl) (by kernel_rfl) (by kernel_rfl) (fun _ _ _ h => h) (Or.inl ⟨by rfl, ?hy6n1_1⟩) hHeld ?_
    case hy6n1_1 => (intro wS hSw; (try dsimp only at hSw); obtain ⟨hS0, hS1, hS2⟩ := hSw; have y3 := Row.cell hS2 (j := 3) rfl; have s1 := Row.cell hS1 (j := 1) rfl; have s2 := Row.cell hS1 (j := 2) rfl; have s3 := Row.cell hS1 (j := 3) rfl; have s4 := Row.cell hS1 (j := 4) rfl; have s5 := Row.cell hS1 (j := 5) rfl; have s6 := Row.cell hS1 (j := 6) rfl; have s7 := Row.cell hS1 (j := 7) rfl; have s8 := Row.cell hS1 (j := 8) rfl; have s9 := Row.cell hS1 (j := 9) rfl; have s10 := Row.cell hS1 (j := 10) rfl; have s11 := Row.cell hS1 (j := 11) rfl; clear hS0 hS1 hS2; go_simp; try with_reducible rfl)
    try simp only [List.getElem_toArray, List.getElem_cons_succ, List.getElem_cons_zero, Act.put, List.setIfInBounds_toArray, List.set_cons_zero, List.set_cons_succ]
    refine wpAnyH_take (i := 2) (oi := _) (v := ?v6n1_2) rfl (by kernel_rfl) (by kernel_rfl) (by kernel_rfl) (fun _ _ _ h => h) (Or.inl ⟨by rfl, ?hy6n1_2⟩) hHeld ?_
    case hy6n1_2 => (intro wS hSw; (try dsimp only at hSw); obtain ⟨hS0, hS1, hS2⟩ := hSw; have y3 := Row.cell hS2 (j := 3) rfl; have s1 := Row.cell hS1 (j := 1) rfl; have s2 := Row.cell hS1 (j := 2) rfl; have s3 := Row.cell hS1 (j := 3) rfl; have s4 := Row.cell hS1 (j := 4) rfl; have s5 := Row.cell hS1 (j := 5) rfl; have s6 := Row.cell hS1 (j := 6) rfl; have s7 := Row.cell hS1 (j := 7) rfl; have s8 := Row.cell hS1 (j := 8) rfl; have s9 := Row.cell hS1 (j := 9) rfl; have s10 := Row.cell hS1 (j := 10) rfl; have s11 := Row.cell hS1 (j := 11) rfl; clear hS0 hS1 hS2; go_simp; try with_reducible rfl)
    try simp only [List.getElem_toArray, List.getElem_cons_succ, List.getElem_cons_zero, Act.put, List.setIfInBounds_toArray, List.set_cons_zero, List.set_cons_succ]
    refine wpAnyH_take (i := 3) (oi := _) (v := ?v6n1_3) rfl (by kernel_rfl) (by kernel_rfl) (by kernel_rfl) (fun _ _ _ h => h) (Or.inl ⟨by rfl, ?hy6n1_3⟩) hHeld ?_
    case hy6n1_3 => (intro wS hSw; (try dsimp only at hSw); obtain ⟨hS0, hS1, hS2⟩ := hSw; have y3 := Row.cell hS2 (j := 3) rfl; have s1 := Row.cell hS1 (j := 1) rfl; have s2 := Row.cell hS1 (j := 2) rfl; have s3 := Row.cell hS1 (j := 3) rfl; have s4 := Row.cell hS1 (j := 4) rfl; have s5 := Row.cell hS1 (j := 5) rfl; have s6 := Row.cell hS1 (j := 6) rfl; have s7 := Row.cell hS1 (j := 7) rfl; have s8 := Row.cell hS1 (j := 8) rfl; have s9 := Row.cell hS1 (j := 9) rfl; have s10 := Row.cell hS1 (j := 10) rfl; have s11 := Row.cell hS1 (j := 11) rfl; clear hS0 hS1 hS2; go_simp; try with_reducible rfl)
    try simp only [List.getElem_toArray, List.getElem_cons_succ, List.getElem_cons_zero, Act.put, List.setIfInBounds_toArray, List.set_cons_zero, List.set_cons_succ]
    refine wpAnyH_take (i := 4) (oi := _) (v := ?v6n1_4) rfl (by kernel_rfl) (by kernel_rfl) (by kernel_rfl) (fun _ _ _ h => h) (Or.inl ⟨by rfl, ?hy6n1_4⟩) hHeld ?_
    case hy6n1_4 => (intro wS hSw; (try dsimp only at hSw); obtain ⟨hS0, hS1, hS2⟩ := hSw; have y3 := Row.cell hS2 (j := 3) rfl; have s1 := Row.cell hS1 (j := 1) rfl; have s2 := Row.cell hS1 (j := 2) rfl; have s3 := Row.cell hS1 (j := 3) rfl; have s4 := Row.cell hS1 (j := 4) rfl; have s5 := Row.cell hS1 (j := 5) rfl; have s6 := Row.cell hS1 (j := 6) rfl; have s7 := Row.cell hS1 (j := 7) rfl; have s8 := Row.cell hS1 (j := 8) rfl; have s9 := Row.cell hS1 (j := 9) rfl; have s10 := Row.cell hS1 (j := 10) rfl; have s11 := Row.cell hS1 (j := 11) rfl; clear hS0 hS1 hS2; go_simp; try with_reducible rfl)
    try simp only [List.getElem_toArray, List.getElem_cons_succ, List.getElem_cons_zero, Act.put, List.setIfInBounds_toArray, List.set_cons_zero, List.set_cons_succ]
    refine wpAnyH_take (i := 5) (oi := _) (v := ?v6n1_5) rfl (by kernel_rfl) (by kernel_rfl) (by kernel_rfl) (fun _ _ _ h => h) (Or.inl ⟨by rfl, ?hy6n1_5⟩) hHeld ?_
    case hy6n1_5 => (intro wS hSw; (try dsimp only at hSw); obtain ⟨hS0, hS1, hS2⟩ := hSw; have y3 := Row.cell hS2 (j := 3) rfl; have s1 := Row.cell hS1 (j := 1) rfl; have s2 := Row.cell hS1 (j := 2) rfl; have s3 := Row.cell hS1 (j := 3) rfl; have s4 := Row.cell hS1 (j := 4) rfl; have s5 := Row.cell hS1 (j := 5) rfl; have s6 := Row.cell hS1 (j := 6) rfl; have s7 := Row.cell hS1 (j := 7) rfl; have s8 := Row.cell hS1 (j := 8) rfl; have s9 := Row.cell hS1 (j := 9) rfl; have s10 := Row.cell hS1 (j := 10) rfl; have s11 := Row.cell hS1 (j := 11) rfl; clear hS0 hS1 hS2; go_simp; try with_reducible rfl)
    try simp only [List.getElem_toArray, List.getElem_cons_succ, List.getElem_cons_zero, Act.put, List.setIfInBounds_toArray, List.set_cons_zero, List.set_cons_succ]
    refine wpAnyH_ready (rs := [6]) (by kernel_rfl) (by simp) ?_
    refine AllReadyH.cons (o := _) rfl (fun K hK => ?_) AllReadyH.nil
    go_simp
    refine (htc _).mono ?_
    rintro e w8 ⟨rfl, hb8⟩
    go_wp2_with fail
    refine hK.out _ _ (⟨Row.below hHeld.1 hb8, Row.below hHeld.2.1 hb8, Row.below hHeld.2.2 hb8⟩) (fun hHeld6 => ?_)
    clear hK K hHeld
    try simp only [List.getElem_toArray, List.getElem_cons_succ, List.getElem_cons_zero, Act.put, List.setIfInBounds_toArray, List.set_cons_zero, List.set_cons_succ]
    refine wpAnyH_take (i := 7) (oi := _) (v := ?v6n1_7) rfl (by kernel_rfl) (by kernel_rfl) (by kernel_rfl) (fun _ _ _ h => h) (Or.inl ⟨by rfl, ?hy6n1_7⟩) hHeld6 ?_
    case hy6n1_7 => (intro wS hSw; (try dsimp only at hSw); obtain ⟨hS0, hS1, hS2⟩ := hSw; have y3 := Row.cell hS2 (j := 3) rfl; have s1 := Row.cell hS1 (j := 1) rfl; have s2 := Row.cell hS1 (j := 2) rfl; have s3 := Row.cell hS1 (j := 3) rfl; have s4 := Row.cell hS1 (j := 4) rfl; have s5 := Row.cell hS1 (j := 5) rfl; have s6 := Row.cell hS1 (j := 6) rfl; have s7 := Row.cell hS1 (j := 7) rfl; have s8 := Row.cell hS1 (j := 8) rfl; have s9 := Row.cell hS1 (j := 9) rfl; have s10 := Row.cell hS1 (j := 10) rfl; have s11 := Row.cell hS1 (j := 11) rfl; clear hS0 hS1 hS2; go_simp; try with_reducible rfl)
    try simp only [List.getElem_toArray, List.getElem_cons_succ, List.getElem_cons_zero, Act.put, List.setIfInBounds_toArray, List.set_cons_zero, List.set_cons_succ]
    refine wpAnyH_take (i := 8) (oi := _) (v := ?v6n1_8) rfl (by kernel_rfl) (by kernel_rfl) (by kernel_rfl) (fun _ _ _ h => h) (Or.inl ⟨by rfl, ?hy6n1_8⟩) hHeld6 ?_
    case hy6n1_8 => (intro wS hSw; (try dsimp only at hSw); obtain ⟨hS0, hS1, hS2⟩ := hSw; have y3 := Row.cell hS2 (j := 3) rfl; have s1 := Row.cell hS1 (j := 1) rfl; have s2 := Row.cell hS1 (j := 2) rfl; have s3 := Row.cell hS1 (j := 3) rfl; have s4 := Row.cell hS1 (j := 4) rfl; have s5 := Row.cell hS1 (j := 5) rfl; have s6 := Row.cell hS1 (j := 6) rfl; have s7 := Row.cell hS1 (j := 7) rfl; have s8 := Row.cell hS1 (j := 8) rfl; have s9 := Row.cell hS1 (j := 9) rfl; have s10 := Row.cell hS1 (j := 10) rfl; have s11 := Row.cell hS1 (j := 11) rfl; clear hS0 hS1 hS2; go_simp; try with_reducible rfl)
    try simp only [List.getElem_toArray, List.getElem_cons_succ, List.getElem_cons_zero, Act.put, List.setIfInBounds_toArray, List.set_cons_zero, List.set_cons_succ]
    refine wpAnyH_take (i := 9) (oi := _) (v := ?v6n1_9) rfl (by kernel_rfl) (by kernel_rfl) (by kernel_rfl) (fun _ _ _ h => h) (Or.inl ⟨by rfl, ?hy6n1_9⟩) hHeld6 ?_
    case hy6n1_9 => (intro wS hSw; (try dsimp only at hSw); obtain ⟨hS0, hS1, hS2⟩ := hSw; have y3 := Row.cell hS2 (j := 3) rfl; have s1 := Row.cell hS1 (j := 1) rfl; have s2 := Row.cell hS1 (j := 2) rfl; have s3 := Row.cell hS1 (j := 3) rfl; have s4 := Row.cell hS1 (j := 4) rfl; have s5 := Row.cell hS1 (j := 5) rfl; have s6 := Row.cell hS1 (j := 6) rfl; have s7 := Row.cell hS1 (j := 7) rfl; have s8 := Row.cell hS1 (j := 8) rfl; have s9 := Row.cell hS1 (j := 9) rfl; have s10 := Row.cell hS1 (j := 10) rfl; have s11 := Row.cell hS1 (j := 11) rfl; clear hS0 hS1 hS2; go_simp; try with_reducible rfl)
    try simp only [List.getElem_toArray, List.getElem_cons_succ, List.getElem_cons_zero, Act.put, List.setIfInBounds_toArray, List.set_cons_zero, List.set_cons_succ]
    refine wpAnyH_take (i := 10) (oi := _) (v := ?v6n1_10) rfl (by kernel_rfl) (by kernel_rfl) (by kernel_rfl) (fun _ _ _ h => h) (Or.inl ⟨by rfl, ?hy6n1_10⟩) hHeld6 ?_
    case hy6n1_10 => (intro wS hSw; (try dsimp only at hSw); obtain ⟨hS0, hS1, hS2⟩ := hSw; have y3 := Row.cell hS2 (j := 3) rfl; have s1 := Row.cell hS1 (j := 1) rfl; have s2 := Row.cell hS1 (j := 2) rfl; have s3 := Row.cell hS1 (j := 3) rfl; have s4 := Row.cell hS1 (j := 4) rfl; have s5 := Row.cell hS1 (j := 5) rfl; have s6 := Row.cell hS1 (j := 6) rfl; have s7 := Row.cell hS1 (j := 7) rfl; have s8 := Row.cell hS1 (j := 8) rfl; have s9 := Row.cell hS1 (j := 9) rfl; have s10 := Row.cell hS1 (j := 10) rfl; have s11 := Row.cell hS1 (j := 11) rfl; clear hS0 hS1 hS2; go_simp; try with_reducible rfl)
    try simp only [List.getElem_toArray, List.getElem_cons_succ, List.getElem_cons_zero, Act.put, List.setIfInBounds_toArray, List.set_cons_zero, List.set_cons_succ]
    refine wpAnyH_take (i := 11) (oi := _) (v := ?v6n1_11) rfl (by kernel_rfl) (by kernel_rfl) (by kernel_rfl) (fun _ _ _ h => h) (Or.inl ⟨by rfl, ?hy6n1_11⟩) hHeld6 ?_
    case hy6n1_11 => (intro wS hSw; (try dsimp only at hSw); obtain ⟨hS0, hS1, hS2⟩ := hSw; have y3 := Row.cell hS2 (j := 3) rfl; have s1 := Row.cell hS1 (j := 1) rfl; have s2 := Row.cell hS1 (j := 2) rfl; have s3 := Row.cell hS1 (j := 3) rfl; have s4 := Row.cell hS1 (j := 4) rfl; have s5 := Row.cell hS1 (j := 5) rfl; have s6 := Row.cell hS1 (j := 6) rfl; have s7 := Row.cell hS1 (j := 7) rfl; have s8 := Row.cell hS1 (j := 8) rfl; have s9 := Row.cell hS1 (j := 9) rfl; have s10 := Row.cell hS1 (j := 10) rfl; have s11 := Row.cell hS1 (j := 11) rfl; clear hS0 hS1 hS2; go_simp; try with_reducible rfl)
    try simp only [List.getElem_toArray, List.getElem_cons_succ, List.getElem_cons_zero, Act.put, List.setIfInBounds_toArray, List.set_cons_zero, List.set_cons_succ]
    refine wpAnyH_done (by kernel_rfl) ?_ _
    have u8 : Below wc.heap.size wc w8 := bd5.trans hb8
    have o8 := o5.below u8
    have r58 := r5.below u8
    have t8 := t5.trans (u8.mono t5.size)
    have bd8 := (Below.refl w8.heap.size w8).drew
    clear r3 r4 o5 r5 u8
    have hnw := Known.none_wf
    go_upto_region 7 with fail
    refine wp_region_held_drew (S := (fun w' => OwnF oKnown 26 w' (.slice (some ⟨g1, 0, none⟩) 3 3) [Known.none, Known.zero, vK] (fun b => b = g1) ∧ Row w' g5 26 (knownCells vK))) (by kernel_rfl) (⟨OwnF.below o8 bd8, Row.below r58 bd8⟩) (fun hHeld => ?_)
    refine wpAnyH_take (i := 0) (oi := _) (v := ?v7n2_0) rfl (by kernel_rfl) (by kernel_rfl) (by kernel_rfl) (fun _ _ _ h => h) (Or.inl ⟨by rfl, ?hy7n2_0⟩) hHeld ?_
    case hy7n2_0 => (intro wS hSw; (try dsimp only at hSw); obtain ⟨hS0, hS1⟩ := hSw; have c1 : wS.cell? ⟨g1, 33, none⟩ = some (.bool false) := rangeAt_re (hS0.krange (q := 1) (x := Known.zero) rfl).1; have c2 : wS.cell? ⟨g1, 68, none⟩ = some (.bool true) := (hS0.krange (q := 2) (x := vK) rfl).1 2 _ rfl; have c3 : wS.cell? ⟨g1, 84, none⟩ = some (.int .u32 5) := (hS0.krange (q := 2) (x := vK) rfl).1 18 _ rfl; clear hS0 hS1; go_simp; try with_reducible rfl)
    try simp only [List.getElem_toArray, List.getElem_cons_succ, List.getElem_cons_zero, Act.put, List.setIfInBounds_toArray, List.set_cons_zero, List.set_cons_succ]
    refine wpAnyH_take (i := 1) (oi := _) (v := ?v7n2_1) rfl (by kernel_rfl) (by kernel_rfl) (by kernel_rfl) (fun _ _ _ h => h) (Or.inl ⟨by rfl, ?hy7n2_1⟩) hHeld ?_
    case hy7n2_1 => (intro wS hSw; (try dsimp only at hSw); obtain ⟨hS0, hS1⟩ := hSw; have c1 : wS.cell? ⟨g1, 33, none⟩ = some (.bool false) := rangeAt_re (hS0.krange (q := 1) (x := Known.zero) rfl).1; have c2 : wS.cell? ⟨g1, 68, none⟩ = some (.bool true) := (hS0.krange (q := 2) (x := vK) rfl).1 2 _ rfl; have c3 : wS.cell? ⟨g1, 84, none⟩ = some (.int .u32 5) := (hS0.krange (q := 2) (x := vK) rfl).1 18 _ rfl; clear hS0 hS1; go_simp; try with_reducible rfl)
    try simp only [List.getElem_toArray, List.getElem_cons_succ, List.getElem_cons_zero, Act.put, List.setIfInBounds_toArray, List.set_cons_zero, List.set_cons_succ]
    refine wpAnyH_take (i := 2) (oi := _) (v := ?v7n2_2) rfl (by kernel_rfl) (by kernel_rfl) (by kernel_rfl) (fun _ _ _ h => h) (Or.inl ⟨by rfl, ?hy7n2_2⟩) hHeld ?_
    case hy7n2_2 => (intro wS hSw; (try dsimp only at hSw); obtain ⟨hS0, hS1⟩ := hSw; have c1 : wS.cell? ⟨g1, 33, none⟩ = some (.bool false) := rangeAt_re (hS0.krange (q := 1) (x := Known.zero) rfl).1; have c2 : wS.cell? ⟨g1, 68, none⟩ = some (.bool true) := (hS0.krange (q := 2) (x := vK) rfl).1 2 _ rfl; have c3 : wS.cell? ⟨g1, 84, none⟩ = some (.int .u32 5) := (hS0.krange (q := 2) (x := vK) rfl).1 18 _ rfl; clear hS0 hS1; go_simp; try with_reducible rfl)
    try simp only [List.getElem_toArray, List.getElem_cons_succ, List.getElem_cons_zero, Act.put, List.setIfInBounds_toArray, List.set_cons_zero, List.set_cons_succ]
    refine wpAnyH_take (i := 3) (oi := _) (v := ?v7n2_3) rfl (by kernel_rfl) (by kernel_rfl) (by kernel_rfl) (fun _ _ _ h => h) (Or.inl ⟨by rfl, ?hy7n2_3⟩) hHeld ?_
    case hy7n2_3 => (intro wS hSw; (try dsimp only at hSw); obtain ⟨hS0, hS1⟩ := hSw; have c1 : wS.cell? ⟨g1, 33, none⟩ = some (.bool false) := rangeAt_re (hS0.krange (q := 1) (x := Known.zero) rfl).1; have c2 : wS.cell? ⟨g1, 68, none⟩ = some (.bool true) := (hS0.krange (q := 2) (x := vK) rfl).1 2 _ rfl; have c3 : wS.cell? ⟨g1, 84, none⟩ = some (.int .u32 5) := (hS0.krange (q := 2) (x := vK) rfl).1 18 _ rfl; clear hS0 hS1; go_simp; try with_reducible rfl)
    try simp only [List.getElem_toArray, List.getElem_cons_succ, List.getElem_cons_zero, Act.put, List.setIfInBounds_toArray, List.set_cons_zero, List.set_cons_succ]
    refine wpAnyH_take (i := 4) (oi := _) (v := ?v7n2_4) rfl (by kernel_rfl) (by kernel_rfl) (by kernel_rfl) (fun _ _ _ h => h) (Or.inl ⟨by rfl, ?hy7n2_4⟩) hHeld ?_
    case hy7n2_4 => (intro wS hSw; (try dsimp only at hSw); obtain ⟨hS0, hS1⟩ := hSw; have c1 : wS.cell? ⟨g1, 33, none⟩ = some (.bool false) := rangeAt_re (hS0.krange (q := 1) (x := Known.zero) rfl).1; have c2 : wS.cell? ⟨g1, 68, none⟩ = some (.bool true) := (hS0.krange (q := 2) (x := vK) rfl).1 2 _ rfl; have c3 : wS.cell? ⟨g1, 84, none⟩ = some (.int .u32 5) := (hS0.krange (q := 2) (x := vK) rfl).1 18 _ rfl; clear hS0 hS1; go_simp; try with_reducible rfl)
    try simp only [List.getElem_toArray, List.getElem_cons_succ, List.getElem_cons_zero, Act.put, List.setIfInBounds_toArray, List.set_cons_zero, List.set_cons_succ]
    refine wpAnyH_take (i := 5) (oi := _) (v := ?v7n2_5) rfl (by kernel_rfl) (by kernel_rfl) (by kernel_rfl) (fun _ _ _ h => h) (Or.inl ⟨by rfl, ?hy7n2_5⟩) hHeld ?_
    case hy7n2_5 => (intro wS hSw; (try dsimp only at hSw); obtain ⟨hS0, hS1⟩ := hSw; have c1 : wS.cell? ⟨g1, 33, none⟩ = some (.bool false) := rangeAt_re (hS0.krange (q := 1) (x := Known.zero) rfl).1; have c2 : wS.cell? ⟨g1, 68, none⟩ = some (.bool true) := (hS0.krange (q := 2) (x := vK) rfl).1 2 _ rfl; have c3 : wS.cell? ⟨g1, 84, none⟩ = some (.int .u32 5) := (hS0.krange (q := 2) (x := vK) rfl).1 18 _ rfl; clear hS0 hS1; go_simp; try with_reducible rfl)
    try simp only [List.getElem_toArray, List.getElem_cons_succ, List.getElem_cons_zero, Act.put, List.setIfInBounds_toArray, List.set_cons_zero, List.set_cons_succ]
    refine wpAnyH_take (i := 6) (oi := _) (v := .agg (knownCells Known.none).toArray) rfl (by kernel_rfl) (by kernel_rfl) (by kernel_rfl) (fun _ _ _ h => h) (yieldsIf_load_known _ Known.none g1 0 Known.none_wf (fun wS hS => (hS.1.krange (q := 0) (x := Known.none) rfl).1) rfl rfl rfl) hHeld ?_
    try simp only [List.getElem_toArray, List.getElem_cons_succ, List.getElem_cons_zero, Act.put, List.setIfInBounds_toArray, List.set_cons_zero, List.set_cons_succ]
    refine wpAnyH_ready (rs := [7]) (by kernel_rfl) (by simp) ?_
    refine AllReadyH.cons (o := _) rfl (fun K hK => ?_) AllReadyH.nil
    go_simp
    refine (zero_calls _).mono ?_
    rintro e wz7 ⟨rfl, hbz7⟩
    go_wp2_with fail
    refine hK.out _ _ (⟨OwnF.below hHeld.1 hbz7, Row.below hHeld.2 hbz7⟩) (fun hHeld7 => ?_)
    clear hK K hHeld
    try simp only [List.getElem_toArray, List.getElem_cons_succ, List.getElem_cons_zero, Act.put, List.setIfInBounds_toArray, List.set_cons_zero, List.set_cons_succ]
    refine wpAnyH_take (i := 8) (oi := _) (v := ?v7n2_8) rfl (by kernel_rfl) (by kernel_rfl) (by kernel_rfl) (fun _ _ _ h => h) (Or.inl ⟨by rfl, ?hy7n2_8⟩) hHeld7 ?_
    case hy7n2_8 => (intro wS hSw; (try dsimp only at hSw); obtain ⟨hS0, hS1⟩ := hSw; have c1 : wS.cell? ⟨g1, 33, none⟩ = some (.bool false) := rangeAt_re (hS0.krange (q := 1) (x := Known.zero) rfl).1; have c2 : wS.cell? ⟨g1, 68, none⟩ = some (.bool true) := (hS0.krange (q := 2) (x := vK) rfl).1 2 _ rfl; have c3 : wS.cell? ⟨g1, 84, none⟩ = some (.int .u32 5) := (hS0.krange (q := 2) (x := vK) rfl).1 18 _ rfl; clear hS0 hS1; go_simp; try with_reducible rfl)
    try simp only [List.getElem_toArray, List.getElem_cons_succ, List.getElem_cons_zero, Act.put, List.setIfInBounds_toArray, List.set_cons_zero, List.set_cons_succ]
    refine wpAnyH_take (i := 9) (oi := _) (v := ?v7n2_9) rfl (by kernel_rfl) (by kernel_rfl) (by kernel_rfl) (fun _ _ _ h => h) (Or.inl ⟨by rfl, ?hy7n2_9⟩) hHeld7 ?_
    case hy7n2_9 => (intro wS hSw; (try dsimp only at hSw); obtain ⟨hS0, hS1⟩ := hSw; have c1 : wS.cell? ⟨g1, 33, none⟩ = some (.bool false) := rangeAt_re (hS0.krange (q := 1) (x := Known.zero) rfl).1; have c2 : wS.cell? ⟨g1, 68, none⟩ = some (.bool true) := (hS0.krange (q := 2) (x := vK) rfl).1 2 _ rfl; have c3 : wS.cell? ⟨g1, 84, none⟩ = some (.int .u32 5) := (hS0.krange (q := 2) (x := vK) rfl).1 18 _ rfl; clear hS0 hS1; go_simp; try with_reducible rfl)
    try simp only [List.getElem_toArray, List.getElem_cons_succ, List.getElem_cons_zero, Act.put, List.setIfInBounds_toArray, List.set_cons_zero, List.set_cons_succ]
    refine wpAnyH_take (i := 10) (oi := _) (v := ?v7n2_10) rfl (by kernel_rfl) (by kernel_rfl) (by kernel_rfl) (fun _ _ _ h => h) (Or.inl ⟨by rfl, ?hy7n2_10⟩) hHeld7 ?_
    case hy7n2_10 => (intro wS hSw; (try dsimp only at hSw); obtain ⟨hS0, hS1⟩ := hSw; have c1 : wS.cell? ⟨g1, 33, none⟩ = some (.bool false) := rangeAt_re (hS0.krange (q := 1) (x := Known.zero) rfl).1; have c2 : wS.cell? ⟨g1, 68, none⟩ = some (.bool true) := (hS0.krange (q := 2) (x := vK) rfl).1 2 _ rfl; have c3 : wS.cell? ⟨g1, 84, none⟩ = some (.int .u32 5) := (hS0.krange (q := 2) (x := vK) rfl).1 18 _ rfl; clear hS0 hS1; go_simp; try with_reducible rfl)
    try simp only [List.getElem_toArray, List.getElem_cons_succ, List.getElem_cons_zero, Act.put, List.setIfInBounds_toArray, List.set_cons_zero, List.set_cons_succ]
    refine wpAnyH_take (i := 11) (oi := _) (v := ?v7n2_11) rfl (by kernel_rfl) (by kernel_rfl) (by kernel_rfl) (fun _ _ _ h => h) (Or.inl ⟨by rfl, ?hy7n2_11⟩) hHeld7 ?_
    case hy7n2_11 => (intro wS hSw; (try dsimp only at hSw); obtain ⟨hS0, hS1⟩ := hSw; have c1 : wS.cell? ⟨g1, 33, none⟩ = some (.bool false) := rangeAt_re (hS0.krange (q := 1) (x := Known.zero) rfl).1; have c2 : wS.cell? ⟨g1, 68, none⟩ = some (.bool true) := (hS0.krange (q := 2) (x := vK) rfl).1 2 _ rfl; have c3 : wS.cell? ⟨g1, 84, none⟩ = some (.int .u32 5) := (hS0.krange (q := 2) (x := vK) rfl).1 18 _ rfl; clear hS0 hS1; go_simp; try with_reducible rfl)
    try simp only [List.getElem_toArray, List.getElem_cons_succ, List.getElem_cons_zero, Act.put, List.setIfInBounds_toArray, List.set_cons_zero, List.set_cons_succ]
    refine wpAnyH_take (i := 12) (oi := _) (v := ?v7n2_12) rfl (by kernel_rfl) (by kernel_rfl) (by kernel_rfl) (fun _ _ _ h => h) (Or.inl ⟨by rfl, ?hy7n2_12⟩) hHeld7 ?_
    case hy7n2_12 => (intro wS hSw; (try dsimp only at hSw); obtain ⟨hS0, hS1⟩ := hSw; have c1 : wS.cell? ⟨g1, 33, none⟩ = some (.bool false) := rangeAt_re (hS0.krange (q := 1) (x := Known.zero) rfl).1; have c2 : wS.cell? ⟨g1, 68, none⟩ = some (.bool true) := (hS0.krange (q := 2) (x := vK) rfl).1 2 _ rfl; have c3 : wS.cell? ⟨g1, 84, none⟩ = some (.int .u32 5) := (hS0.krange (q := 2) (x := vK) rfl).1 18 _ rfl; clear hS0 hS1; go_simp; try with_reducible rfl)
    try simp only [List.getElem_toArray, List.getElem_cons_succ, List.getElem_cons_zero, Act.put, List.setIfInBounds_toArray, List.set_cons_zero, List.set_cons_succ]
    refine wpAnyH_take (i := 13) (oi := _) (v := ?v7n2_13) rfl (by kernel_rfl) (by kernel_rfl) (by kernel_rfl) (fun _ _ _ h => h) (Or.inl ⟨by rfl, ?hy7n2_13⟩) hHeld7 ?_
    case hy7n2_13 => (intro wS hSw; (try dsimp only at hSw); obtain ⟨hS0, hS1⟩ := hSw; have c1 : wS.cell? ⟨g1, 33, none⟩ = some (.bool false) := rangeAt_re (hS0.krange (q := 1) (x := Known.zero) rfl).1; have c2 : wS.cell? ⟨g1, 68, none⟩ = some (.bool true) := (hS0.krange (q := 2) (x := vK) rfl).1 2 _ rfl; have c3 : wS.cell? ⟨g1, 84, none⟩ = some (.int .u32 5) := (hS0.krange (q := 2) (x := vK) rfl).1 18 _ rfl; clear hS0 hS1; go_simp; try with_reducible rfl)
    try simp only [List.getElem_toArray, List.getElem_cons_succ, List.getElem_cons_zero, Act.put, List.setIfInBounds_toArray, List.set_cons_zero, List.set_cons_succ]
    refine wpAnyH_take (i := 14) (oi := _) (v := ?v7n2_14) rfl (by kernel_rfl) (by kernel_rfl) (by kernel_rfl) (fun _ _ _ h => h) (Or.inl ⟨by rfl, ?hy7n2_14⟩) hHeld7 ?_
    case hy7n2_14 => (intro wS hSw; (try dsimp only at hSw); obtain ⟨hS0, hS1⟩ := hSw; have c1 : wS.cell? ⟨g1, 33, none⟩ = some (.bool false) := rangeAt_re (hS0.krange (q := 1) (x := Known.zero) rfl).1; have c2 : wS.cell? ⟨g1, 68, none⟩ = some (.bool true) := (hS0.krange (q := 2) (x := vK) rfl).1 2 _ rfl; have c3 : wS.cell? ⟨g1, 84, none⟩ = some (.int .u32 5) := (hS0.krange (q := 2) (x := vK) rfl).1 18 _ rfl; clear hS0 hS1; go_simp; try with_reducible rfl)
    try simp only [List.getElem_toArray, List.getElem_cons_succ, List.getElem_cons_zero, Act.put, List.setIfInBounds_toArray, List.set_cons_zero, List.set_cons_succ]
    refine wpAnyH_take (i := 15) (oi := _) (v := ?v7n2_15) rfl (by kernel_rfl) (by kernel_rfl) (by kernel_rfl) (fun _ _ _ h => h) (Or.inl ⟨by rfl, ?hy7n2_15⟩) hHeld7 ?_
    case hy7n2_15 => (intro wS hSw; (try dsimp only at hSw); obtain ⟨hS0, hS1⟩ := hSw; have c1 : wS.cell? ⟨g1, 33, none⟩ = some (.bool false) := rangeAt_re (hS0.krange (q := 1) (x := Known.zero) rfl).1; have c2 : wS.cell? ⟨g1, 68, none⟩ = some (.bool true) := (hS0.krange (q := 2) (x := vK) rfl).1 2 _ rfl; have c3 : wS.cell? ⟨g1, 84, none⟩ = some (.int .u32 5) := (hS0.krange (q := 2) (x := vK) rfl).1 18 _ rfl; clear hS0 hS1; go_simp; try with_reducible rfl)
    try simp only [List.getElem_toArray, List.getElem_cons_succ, List.getElem_cons_zero, Act.put, List.setIfInBounds_toArray, List.set_cons_zero, List.set_cons_succ]
    refine wpAnyH_take (i := 16) (oi := _) (v := ?v7n2_16) rfl (by kernel_rfl) (by kernel_rfl) (by kernel_rfl) (fun _ _ _ h => h) (Or.inl ⟨by rfl, ?hy7n2_16⟩) hHeld7 ?_
    case hy7n2_16 => (intro wS hSw; (try dsimp only at hSw); obtain ⟨hS0, hS1⟩ := hSw; have c1 : wS.cell? ⟨g1, 33, none⟩ = some (.bool false) := rangeAt_re (hS0.krange (q := 1) (x := Known.zero) rfl).1; have c2 : wS.cell? ⟨g1, 68, none⟩ = some (.bool true) := (hS0.krange (q := 2) (x := vK) rfl).1 2 _ rfl; have c3 : wS.cell? ⟨g1, 84, none⟩ = some (.int .u32 5) := (hS0.krange (q := 2) (x := vK) rfl).1 18 _ rfl; clear hS0 hS1; go_simp; try with_reducible rfl)
    try simp only [List.getElem_toArray, List.getElem_cons_succ, List.getElem_cons_zero, Act.put, List.setIfInBounds_toArray, List.set_cons_zero, List.set_cons_succ]
    refine wpAnyH_take (i := 17) (oi := _) (v := ?v7n2_17) rfl (by kernel_rfl) (by kernel_rfl) (by kernel_rfl) (fun _ _ _ h => h) (Or.inl ⟨by rfl, ?hy7n2_17⟩) hHeld7 ?_
    case hy7n2_17 => (intro wS hSw; (try dsimp only at hSw); obtain ⟨hS0, hS1⟩ := hSw; have c1 : wS.cell? ⟨g1, 33, none⟩ = some (.bool false) := rangeAt_re (hS0.krange (q := 1) (x := Known.zero) rfl).1; have c2 : wS.cell? ⟨g1, 68, none⟩ = some (.bool true) := (hS0.krange (q := 2) (x := vK) rfl).1 2 _ rfl; have c3 : wS.cell? ⟨g1, 84, none⟩ = some (.int .u32 5) := (hS0.krange (q := 2) (x := vK) rfl).1 18 _ rfl; clear hS0 hS1; go_simp; try with_reducible rfl)
    try simp only [List.getElem_toArray, List.getElem_cons_succ, List.getElem_cons_zero, Act.put, List.setIfInBounds_toArray, List.set_cons_zero, List.set_cons_succ]
    refine wpAnyH_take (i := 18) (oi := _) (v := ?v7n2_18) rfl (by kernel_rfl) (by kernel_rfl) (by kernel_rfl) (fun _ _ _ h => h) (Or.inl ⟨by rfl, ?hy7n2_18⟩) hHeld7 ?_
    case hy7n2_18 => (intro wS hSw; (try dsimp only at hSw); obtain ⟨hS0, hS1⟩ := hSw; have c1 : wS.cell? ⟨g1, 33, none⟩ = some (.bool false) := rangeAt_re (hS0.krange (q := 1) (x := Known.zero) rfl).1; have c2 : wS.cell? ⟨g1, 68, none⟩ = some (.bool true) := (hS0.krange (q := 2) (x := vK) rfl).1 2 _ rfl; have c3 : wS.cell? ⟨g1, 84, none⟩ = some (.int .u32 5) := (hS0.krange (q := 2) (x := vK) rfl).1 18 _ rfl; clear hS0 hS1; go_simp; try with_reducible rfl)
    try simp only [List.getElem_toArray, List.getElem_cons_succ, List.getElem_cons_zero, Act.put, List.setIfInBounds_toArray, List.set_cons_zero, List.set_cons_succ]
    refine wpAnyH_take (i := 19) (oi := _) (v := ?v7n2_19) rfl (by kernel_rfl) (by kernel_rfl) (by kernel_rfl) (fun _ _ _ h => h) (Or.inl ⟨by rfl, ?hy7n2_19⟩) hHeld7 ?_
    case hy7n2_19 => (intro wS hSw; (try dsimp only at hSw); obtain ⟨hS0, hS1⟩ := hSw; have c1 : wS.cell? ⟨g1, 33, none⟩ = some (.bool false) := rangeAt_re (hS0.krange (q := 1) (x := Known.zero) rfl).1; have c2 : wS.cell? ⟨g1, 68, none⟩ = some (.bool true) := (hS0.krange (q := 2) (x := vK) rfl).1 2 _ rfl; have c3 : wS.cell? ⟨g1, 84, none⟩ = some (.int .u32 5) := (hS0.krange (q := 2) (x := vK) rfl).1 18 _ rfl; clear hS0 hS1; go_simp; try with_reducible rfl)
    try simp only [List.getElem_toArray, List.getElem_cons_succ, List.getElem_cons_zero, Act.put, List.setIfInBounds_toArray, List.set_cons_zero, List.set_cons_succ]
    refine wpAnyH_take (i := 20) (oi := _) (v := ?v7n2_20) rfl (by kernel_rfl) (by kernel_rfl) (by kernel_rfl) (fun _ _ _ h => h) (Or.inl ⟨by rfl, ?hy7n2_20⟩) hHeld7 ?_
    case hy7n2_20 => (intro wS hSw; (try dsimp only at hSw); obtain ⟨hS0, hS1⟩ := hSw; have c1 : wS.cell? ⟨g1, 33, none⟩ = some (.bool false) := rangeAt_re (hS0.krange (q := 1) (x := Known.zero) rfl).1; have c2 : wS.cell? ⟨g1, 68, none⟩ = some (.bool true) := (hS0.krange (q := 2) (x := vK) rfl).1 2 _ rfl; have c3 : wS.cell? ⟨g1, 84, none⟩ = some (.int .u32 5) := (hS0.krange (q := 2) (x := vK) rfl).1 18 _ rfl; clear hS0 hS1; go_simp; try with_reducible rfl)
    try simp only [List.getElem_toArray, List.getElem_cons_succ, List.getElem_cons_zero, Act.put, List.setIfInBounds_toArray, List.set_cons_zero, List.set_cons_succ]
    refine wpAnyH_take (i := 21) (oi := _) (v := ?v7n2_21) rfl (by kernel_rfl) (by kernel_rfl) (by kernel_rfl) (fun _ _ _ h => h) (Or.inl ⟨by rfl, ?hy7n2_21⟩) hHeld7 ?_
    case hy7n2_21 => (intro wS hSw; (try dsimp only at hSw); obtain ⟨hS0, hS1⟩ := hSw; have c1 : wS.cell? ⟨g1, 33, none⟩ = some (.bool false) := rangeAt_re (hS0.krange (q := 1) (x := Known.zero) rfl).1; have c2 : wS.cell? ⟨g1, 68, none⟩ = some (.bool true) := (hS0.krange (q := 2) (x := vK) rfl).1 2 _ rfl; have c3 : wS.cell? ⟨g1, 84, none⟩ = some (.int .u32 5) := (hS0.krange (q := 2) (x := vK) rfl).1 18 _ rfl; clear hS0 hS1; go_simp; try with_reducible rfl)
    try simp only [List.getElem_toArray, List.getElem_cons_succ, List.getElem_cons_zero, Act.put, List.setIfInBounds_toArray, List.set_cons_zero, List.set_cons_succ]
    refine wpAnyH_take (i := 22) (oi := _) (v := ?v7n2_22) rfl (by kernel_rfl) (by kernel_rfl) (by kernel_rfl) (fun _ _ _ h => h) (Or.inl ⟨by rfl, ?hy7n2_22⟩) hHeld7 ?_
    case hy7n2_22 => (intro wS hSw; (try dsimp only at hSw); obtain ⟨hS0, hS1⟩ := hSw; have c1 : wS.cell? ⟨g1, 33, none⟩ = some (.bool false) := rangeAt_re (hS0.krange (q := 1) (x := Known.zero) rfl).1; have c2 : wS.cell? ⟨g1, 68, none⟩ = some (.bool true) := (hS0.krange (q := 2) (x := vK) rfl).1 2 _ rfl; have c3 : wS.cell? ⟨g1, 84, none⟩ = some (.int .u32 5) := (hS0.krange (q := 2) (x := vK) rfl).1 18 _ rfl; clear hS0 hS1; go_simp; try with_reducible rfl)
    try simp only [List.getElem_toArray, List.getElem_cons_succ, List.getElem_cons_zero, Act.put, List.setIfInBounds_toArray, List.set_cons_zero, List.set_cons_succ]
    refine wpAnyH_take (i := 23) (oi := _) (v := ?v7n2_23) rfl (by kernel_rfl) (by kernel_rfl) (by kernel_rfl) (fun _ _ _ h => h) (Or.inl ⟨by rfl, ?hy7n2_23⟩) hHeld7 ?_
    case hy7n2_23 => (intro wS hSw; (try dsimp only at hSw); obtain ⟨hS0, hS1⟩ := hSw; have c1 : wS.cell? ⟨g1, 33, none⟩ = some (.bool false) := rangeAt_re (hS0.krange (q := 1) (x := Known.zero) rfl).1; have c2 : wS.cell? ⟨g1, 68, none⟩ = some (.bool true) := (hS0.krange (q := 2) (x := vK) rfl).1 2 _ rfl; have c3 : wS.cell? ⟨g1, 84, none⟩ = some (.int .u32 5) := (hS0.krange (q := 2) (x := vK) rfl).1 18 _ rfl; clear hS0 hS1; go_simp; try with_reducible rfl)
    try simp only [List.getElem_toArray, List.getElem_cons_succ, List.getElem_cons_zero, Act.put, List.setIfInBounds_toArray, List.set_cons_zero, List.set_cons_succ]
    refine wpAnyH_take (i := 24) (oi := _) (v := ?v7n2_24) rfl (by kernel_rfl) (by kernel_rfl) (by kernel_rfl) (fun _ _ _ h => h) (Or.inl ⟨by rfl, ?hy7n2_24⟩) hHeld7 ?_
    case hy7n2_24 => (intro wS hSw; (try dsimp only at hSw); obtain ⟨hS0, hS1⟩ := hSw; have c1 : wS.cell? ⟨g1, 33, none⟩ = some (.bool false) := rangeAt_re (hS0.krange (q := 1) (x := Known.zero) rfl).1; have c2 : wS.cell? ⟨g1, 68, none⟩ = some (.bool true) := (hS0.krange (q := 2) (x := vK) rfl).1 2 _ rfl; have c3 : wS.cell? ⟨g1, 84, none⟩ = some (.int .u32 5) := (hS0.krange (q := 2) (x := vK) rfl).1 18 _ rfl; clear hS0 hS1; go_simp; try with_reducible rfl)
    try simp only [List.getElem_toArray, List.getElem_cons_succ, List.getElem_cons_zero, Act.put, List.setIfInBounds_toArray, List.set_cons_zero, List.set_cons_succ]
    refine wpAnyH_take (i := 25) (oi := _) (v := ?v7n2_25) rfl (by kernel_rfl) (by kernel_rfl) (by kernel_rfl) (fun _ _ _ h => h) (Or.inl ⟨by rfl, ?hy7n2_25⟩) hHeld7 ?_
    case hy7n2_25 => (intro wS hSw; (try dsimp only at hSw); obtain ⟨hS0, hS1⟩ := hSw; have c1 : wS.cell? ⟨g1, 33, none⟩ = some (.bool false) := rangeAt_re (hS0.krange (q := 1) (x := Known.zero) rfl).1; have c2 : wS.cell? ⟨g1, 68, none⟩ = some (.bool true) := (hS0.krange (q := 2) (x := vK) rfl).1 2 _ rfl; have c3 : wS.cell? ⟨g1, 84, none⟩ = some (.int .u32 5) := (hS0.krange (q := 2) (x := vK) rfl).1 18 _ rfl; clear hS0 hS1; go_simp; try with_reducible rfl)
    try simp only [List.getElem_toArray, List.getElem_cons_succ, List.getElem_cons_zero, Act.put, List.setIfInBounds_toArray, List.set_cons_zero, List.set_cons_succ]
    refine wpAnyH_take (i := 26) (oi := _) (v := ?v7n2_26) rfl (by kernel_rfl) (by kernel_rfl) (by kernel_rfl) (fun _ _ _ h => h) (Or.inl ⟨by rfl, ?hy7n2_26⟩) hHeld7 ?_
    case hy7n2_26 => (intro wS hSw; (try dsimp only at hSw); obtain ⟨hS0, hS1⟩ := hSw; have c1 : wS.cell? ⟨g1, 33, none⟩ = some (.bool false) := rangeAt_re (hS0.krange (q := 1) (x := Known.zero) rfl).1; have c2 : wS.cell? ⟨g1, 68, none⟩ = some (.bool true) := (hS0.krange (q := 2) (x := vK) rfl).1 2 _ rfl; have c3 : wS.cell? ⟨g1, 84, none⟩ = some (.int .u32 5) := (hS0.krange (q := 2) (x := vK) rfl).1 18 _ rfl; clear hS0 hS1; go_simp; try with_reducible rfl)
    try simp only [List.getElem_toArray, List.getElem_cons_succ, List.getElem_cons_zero, Act.put, List.setIfInBounds_toArray, List.set_cons_zero, List.set_cons_succ]
    refine wpAnyH_take (i := 27) (oi := _) (v := ?v7n2_27) rfl (by kernel_rfl) (by kernel_rfl) (by kernel_rfl) (fun _ _ _ h => h) (Or.inl ⟨by rfl, ?hy7n2_27⟩) hHeld7 ?_
    case hy7n2_27 => (intro wS hSw; (try dsimp only at hSw); obtain ⟨hS0, hS1⟩ := hSw; have c1 : wS.cell? ⟨g1, 33, none⟩ = some (.bool false) := rangeAt_re (hS0.krange (q := 1) (x := Known.zero) rfl).1; have c2 : wS.cell? ⟨g1, 68, none⟩ = some (.bool true) := (hS0.krange (q := 2) (x := vK) rfl).1 2 _ rfl; have c3 : wS.cell? ⟨g1, 84, none⟩ = some (.int .u32 5) := (hS0.krange (q := 2) (x := vK) rfl).1 18 _ rfl; clear hS0 hS1; go_simp; try with_reducible rfl)
    try simp only [List.getElem_toArray, List.getElem_cons_succ, List.getElem_cons_zero, Act.put, List.setIfInBounds_toArray, List.set_cons_zero, List.set_cons_succ]
    refine wpAnyH_take (i := 28) (oi := _) (v := ?v7n2_28) rfl (by kernel_rfl) (by kernel_rfl) (by kernel_rfl) (fun _ _ _ h => h) (Or.inl ⟨by rfl, ?hy7n2_28⟩) hHeld7 ?_
    case hy7n2_28 => (intro wS hSw; (try dsimp only at hSw); obtain ⟨hS0, hS1⟩ := hSw; have c1 : wS.cell? ⟨g1, 33, none⟩ = some (.bool false) := rangeAt_re (hS0.krange (q := 1) (x := Known.zero) rfl).1; have c2 : wS.cell? ⟨g1, 68, none⟩ = some (.bool true) := (hS0.krange (q := 2) (x := vK) rfl).1 2 _ rfl; have c3 : wS.cell? ⟨g1, 84, none⟩ = some (.int .u32 5) := (hS0.krange (q := 2) (x := vK) rfl).1 18 _ rfl; clear hS0 hS1; go_simp; try with_reducible rfl)
    try simp only [List.getElem_toArray, List.getElem_cons_succ, List.getElem_cons_zero, Act.put, List.setIfInBounds_toArray, List.set_cons_zero, List.set_cons_succ]
    refine wpAnyH_take (i := 29) (oi := _) (v := ?v7n2_29) rfl (by kernel_rfl) (by kernel_rfl) (by kernel_rfl) (fun _ _ _ h => h) (Or.inl ⟨by rfl, ?hy7n2_29⟩) hHeld7 ?_
    case hy7n2_29 => (intro wS hSw; (try dsimp only at hSw); obtain ⟨hS0, hS1⟩ := hSw; have c1 : wS.cell? ⟨g1, 33, none⟩ = some (.bool false) := rangeAt_re (hS0.krange (q := 1) (x := Known.zero) rfl).1; have c2 : wS.cell? ⟨g1, 68, none⟩ = some (.bool true) := (hS0.krange (q := 2) (x := vK) rfl).1 2 _ rfl; have c3 : wS.cell? ⟨g1, 84, none⟩ = some (.int .u32 5) := (hS0.krange (q := 2) (x := vK) rfl).1 18 _ rfl; clear hS0 hS1; go_simp; try with_reducible rfl)
    try simp only [List.getElem_toArray, List.getElem_cons_succ, List.getElem_cons_zero, Act.put, List.setIfInBounds_toArray, List.set_cons_zero, List.set_cons_succ]
    refine wpAnyH_take (i := 30) (oi := _) (v := ?v7n2_30) rfl (by kernel_rfl) (by kernel_rfl) (by kernel_rfl) (fun _ _ _ h => h) (Or.inl ⟨by rfl, ?hy7n2_30⟩) hHeld7 ?_
    case hy7n2_30 => (intro wS hSw; (try dsimp only at hSw); obtain ⟨hS0, hS1⟩ := hSw; have c1 : wS.cell? ⟨g1, 33, none⟩ = some (.bool false) := rangeAt_re (hS0.krange (q := 1) (x := Known.zero) rfl).1; have c2 : wS.cell? ⟨g1, 68, none⟩ = some (.bool true) := (hS0.krange (q := 2) (x := vK) rfl).1 2 _ rfl; have c3 : wS.cell? ⟨g1, 84, none⟩ = some (.int .u32 5) := (hS0.krange (q := 2) (x := vK) rfl).1 18 _ rfl; clear hS0 hS1; go_simp; try with_reducible rfl)
    try simp only [List.getElem_toArray, List.getElem_cons_succ, List.getElem_cons_zero, Act.put, List.setIfInBounds_toArray, List.set_cons_zero, List.set_cons_succ]
    refine wpAnyH_take (i := 31) (oi := _) (v := ?v7n2_31) rfl (by kernel_rfl) (by kernel_rfl) (by kernel_rfl) (fun _ _ _ h => h) (Or.inl ⟨by rfl, ?hy7n2_31⟩) hHeld7 ?_
    case hy7n2_31 => (intro wS hSw; (try dsimp only at hSw); obtain ⟨hS0, hS1⟩ := hSw; have c1 : wS.cell? ⟨g1, 33, none⟩ = some (.bool false) := rangeAt_re (hS0.krange (q := 1) (x := Known.zero) rfl).1; have c2 : wS.cell? ⟨g1, 68, none⟩ = some (.bool true) := (hS0.krange (q := 2) (x := vK) rfl).1 2 _ rfl; have c3 : wS.cell? ⟨g1, 84, none⟩ = some (.int .u32 5) := (hS0.krange (q := 2) (x := vK) rfl).1 18 _ rfl; clear hS0 hS1; go_simp; try with_reducible rfl)
    try simp only [List.getElem_toArray, List.getElem_cons_succ, List.getElem_cons_zero, Act.put, List.setIfInBounds_toArray, List.set_cons_zero, List.set_cons_succ]
    refine wpAnyH_take (i := 32) (oi := _) (v := ?v7n2_32) rfl (by kernel_rfl) (by kernel_rfl) (by kernel_rfl) (fun _ _ _ h => h) (Or.inl ⟨by rfl, ?hy7n2_32⟩) hHeld7 ?_
    case hy7n2_32 => (intro wS hSw; (try dsimp only at hSw); obtain ⟨hS0, hS1⟩ := hSw; have c1 : wS.cell? ⟨g1, 33, none⟩ = some (.bool false) := rangeAt_re (hS0.krange (q := 1) (x := Known.zero) rfl).1; have c2 : wS.cell? ⟨g1, 68, none⟩ = some (.bool true) := (hS0.krange (q := 2) (x := vK) rfl).1 2 _ rfl; have c3 : wS.cell? ⟨g1, 84, none⟩ = some (.int .u32 5) := (hS0.krange (q := 2) (x := vK) rfl).1 18 _ rfl; clear hS0 hS1; go_simp; try with_reducible rfl)
    try simp only [List.getElem_toArray, List.getElem_cons_succ, List.getElem_cons_zero, Act.put, List.setIfInBounds_toArray, List.set_cons_zero, List.set_cons_succ]
    refine wpAnyH_take (i := 33) (oi := _) (v := ?v7n2_33) rfl (by kernel_rfl) (by kernel_rfl) (by kernel_rfl) (fun _ _ _ h => h) (Or.inl ⟨by rfl, ?hy7n2_33⟩) hHeld7 ?_
    case hy7n2_33 => (intro wS hSw; (try dsimp only at hSw); obtain ⟨hS0, hS1⟩ := hSw; have c1 : wS.cell? ⟨g1, 33, none⟩ = some (.bool false) := rangeAt_re (hS0.krange (q := 1) (x := Known.zero) rfl).1; have c2 : wS.cell? ⟨g1, 68, none⟩ = some (.bool true) := (hS0.krange (q := 2) (x := vK) rfl).1 2 _ rfl; have c3 : wS.cell? ⟨g1, 84, none⟩ = some (.int .u32 5) := (hS0.krange (q := 2) (x := vK) rfl).1 18 _ rfl; clear hS0 hS1; go_simp; try with_reducible rfl)
    try simp only [List.getElem_toArray, List.getElem_cons_succ, List.getElem_cons_zero, Act.put, List.setIfInBounds_toArray, List.set_cons_zero, List.set_cons_succ]
    refine wpAnyH_take (i := 34) (oi := _) (v := ?v7n2_34) rfl (by kernel_rfl) (by kernel_rfl) (by kernel_rfl) (fun _ _ _ h => h) (Or.inl ⟨by rfl, ?hy7n2_34⟩) hHeld7 ?_
    case hy7n2_34 => (intro wS hSw; (try dsimp only at hSw); obtain ⟨hS0, hS1⟩ := hSw; have c1 : wS.cell? ⟨g1, 33, none⟩ = some (.bool false) := rangeAt_re (hS0.krange (q := 1) (x := Known.zero) rfl).1; have c2 : wS.cell? ⟨g1, 68, none⟩ = some (.bool true) := (hS0.krange (q := 2) (x := vK) rfl).1 2 _ rfl; have c3 : wS.cell? ⟨g1, 84, none⟩ = some (.int .u32 5) := (hS0.krange (q := 2) (x := vK) rfl).1 18 _ rfl; clear hS0 hS1; go_simp; try with_reducible rfl)
    try simp only [List.getElem_toArray, List.getElem_cons_succ, List.getElem_cons_zero, Act.put, List.setIfInBounds_toArray, List.set_cons_zero, List.set_cons_succ]
    refine wpAnyH_take (i := 35) (oi := _) (v := ?v7n2_35) rfl (by kernel_rfl) (by kernel_rfl) (by kernel_rfl) (fun _ _ _ h => h) (Or.inl ⟨by rfl, ?hy7n2_35⟩) hHeld7 ?_
    case hy7n2_35 => (intro wS hSw; (try dsimp only at hSw); obtain ⟨hS0, hS1⟩ := hSw; have c1 : wS.cell? ⟨g1, 33, none⟩ = some (.bool false) := rangeAt_re (hS0.krange (q := 1) (x := Known.zero) rfl).1; have c2 : wS.cell? ⟨g1, 68, none⟩ = some (.bool true) := (hS0.krange (q := 2) (x := vK) rfl).1 2 _ rfl; have c3 : wS.cell? ⟨g1, 84, none⟩ = some (.int .u32 5) := (hS0.krange (q := 2) (x := vK) rfl).1 18 _ rfl; clear hS0 hS1; go_simp; try with_reducible rfl)
    try simp only [List.getElem_toArray, List.getElem_cons_succ, List.getElem_cons_zero, Act.put, List.setIfInBounds_toArray, List.set_cons_zero, List.set_cons_succ]
    refine wpAnyH_take (i := 36) (oi := _) (v := ?v7n2_36) rfl (by kernel_rfl) (by kernel_rfl) (by kernel_rfl) (fun _ _ _ h => h) (Or.inl ⟨by rfl, ?hy7n2_36⟩) hHeld7 ?_
    case hy7n2_36 => (intro wS hSw; (try dsimp only at hSw); obtain ⟨hS0, hS1⟩ := hSw; have c1 : wS.cell? ⟨g1, 33, none⟩ = some (.bool false) := rangeAt_re (hS0.krange (q := 1) (x := Known.zero) rfl).1; have c2 : wS.cell? ⟨g1, 68, none⟩ = some (.bool true) := (hS0.krange (q := 2) (x := vK) rfl).1 2 _ rfl; have c3 : wS.cell? ⟨g1, 84, none⟩ = some (.int .u32 5) := (hS0.krange (q := 2) (x := vK) rfl).1 18 _ rfl; clear hS0 hS1; go_simp; try with_reducible rfl)
    try simp only [List.getElem_toArray, List.getElem_cons_succ, List.getElem_cons_zero, Act.put, List.setIfInBounds_toArray, List.set_cons_zero, List.set_cons_succ]
    refine wpAnyH_take (i := 37) (oi := _) (v := ?v7n2_37) rfl (by kernel_rfl) (by kernel_rfl) (by kernel_rfl) (fun _ _ _ h => h) (Or.inl ⟨by rfl, ?hy7n2_37⟩) hHeld7 ?_
    case hy7n2_37 => (intro wS hSw; (try dsimp only at hSw); obtain ⟨hS0, hS1⟩ := hSw; have c1 : wS.cell? ⟨g1, 33, none⟩ = some (.bool false) := rangeAt_re (hS0.krange (q := 1) (x := Known.zero) rfl).1; have c2 : wS.cell? ⟨g1, 68, none⟩ = some (.bool true) := (hS0.krange (q := 2) (x := vK) rfl).1 2 _ rfl; have c3 : wS.cell? ⟨g1, 84, none⟩ = some (.int .u32 5) := (hS0.krange (q := 2) (x := vK) rfl).1 18 _ rfl; clear hS0 hS1; go_simp; try with_reducible rfl)
    try simp only [List.getElem_toArray, List.getElem_cons_succ, List.getElem_cons_zero, Act.put, List.setIfInBounds_toArray, List.set_cons_zero, List.set_cons_succ]
    refine wpAnyH_take (i := 38) (oi := _) (v := ?v7n2_38) rfl (by kernel_rfl) (by kernel_rfl) (by kernel_rfl) (fun _ _ _ h => h) (Or.inl ⟨by rfl, ?hy7n2_38⟩) hHeld7 ?_
    case hy7n2_38 => (intro wS hSw; (try dsimp only at hSw); obtain ⟨hS0, hS1⟩ := hSw; have c1 : wS.cell? ⟨g1, 33, none⟩ = some (.bool false) := rangeAt_re (hS0.krange (q := 1) (x := Known.zero) rfl).1; have c2 : wS.cell? ⟨g1, 68, none⟩ = some (.bool true) := (hS0.krange (q := 2) (x := vK) rfl).1 2 _ rfl; have c3 : wS.cell? ⟨g1, 84, none⟩ = some (.int .u32 5) := (hS0.krange (q := 2) (x := vK) rfl).1 18 _ rfl; clear hS0 hS1; go_simp; try with_reducible rfl)
    try simp only [List.getElem_toArray, List.getElem_cons_succ, List.getElem_cons_zero, Act.put, List.setIfInBounds_toArray, List.set_cons_zero, List.set_cons_succ]
    refine wpAnyH_take (i := 39) (oi := _) (v := ?v7n2_39) rfl (by kernel_rfl) (by kernel_rfl) (by kernel_rfl) (fun _ _ _ h => h) (Or.inl ⟨by rfl, ?hy7n2_39⟩) hHeld7 ?_
    case hy7n2_39 => (intro wS hSw; (try dsimp only at hSw); obtain ⟨hS0, hS1⟩ := hSw; have c1 : wS.cell? ⟨g1, 33, none⟩ = some (.bool false) := rangeAt_re (hS0.krange (q := 1) (x := Known.zero) rfl).1; have c2 : wS.cell? ⟨g1, 68, none⟩ = some (.bool true) := (hS0.krange (q := 2) (x := vK) rfl).1 2 _ rfl; have c3 : wS.cell? ⟨g1, 84, none⟩ = some (.int .u32 5) := (hS0.krange (q := 2) (x := vK) rfl).1 18 _ rfl; clear hS0 hS1; go_simp; try with_reducible rfl)
    try simp only [List.getElem_toArray, List.getElem_cons_succ, List.getElem_cons_zero, Act.put, List.setIfInBounds_toArray, List.set_cons_zero, List.set_cons_succ]
    refine wpAnyH_take (i := 40) (oi := _) (v := .agg (knownCells vK).toArray) rfl (by kernel_rfl) (by kernel_rfl) (by kernel_rfl) (fun _ _ _ h => h) (yieldsIf_load_known _ vK g5 0 vK_wf (fun wS hS => Row.range hS.2) rfl rfl rfl) hHeld7 ?_
    try simp only [List.getElem_toArray, List.getElem_cons_succ, List.getElem_cons_zero, Act.put, List.setIfInBounds_toArray, List.set_cons_zero, List.set_cons_succ]
    refine wpAnyH_ready (rs := [41]) (by kernel_rfl) (by simp) ?_
    refine AllReadyH.cons (o := _) rfl (fun K hK => ?_) AllReadyH.nil
    go_simp
    refine (zero_calls _).mono ?_
    rintro e wz41 ⟨rfl, hbz41⟩
    go_wp2_with fail
    refine hK.out _ _ (⟨OwnF.below hHeld7.1 hbz41, Row.below hHeld7.2 hbz41⟩) (fun hHeld41 => ?_)
    clear hK K hHeld7
    try simp only [List.getElem_toArray, List.getElem_cons_succ, List.getElem_cons_zero, Act.put, List.setIfInBounds_toArray, List.set_cons_zero, List.set_cons_succ]
    refine wpAnyH_ready (rs := [42]) (by kernel_rfl) (by simp) ?_
    refine AllReadyH.cons (o := _) rfl (fun K hK => ?_) AllReadyH.nil
    go_simp
    refine (hjc _).mono ?_
    rintro e wz42 ⟨rfl, hbz42⟩
    go_wp2_with fail
    refine hK.out _ _ (⟨OwnF.below hHeld41.1 hbz42, Row.below hHeld41.2 hbz42⟩) (fun hHeld42 => ?_)
    clear hK K hHeld41
    try simp only [List.getElem_toArray, List.getElem_cons_succ, List.getElem_cons_zero, Act.put, List.setIfInBounds_toArray, List.set_cons_zero, List.set_cons_succ]
    refine wpAnyH_ready (rs := [43]) (by kernel_rfl) (by simp) ?_
    refine AllReadyH.cons (o := _) rfl (fun K hK => ?_) AllReadyH.nil
    go_simp
    refine (zero_calls _).mono ?_
    rintro e wz43 ⟨rfl, hbz43⟩
    go_wp2_with fail
    refine hK.out _ _ (⟨OwnF.below hHeld42.1 hbz43, Row.below hHeld42.2 hbz43⟩) (fun hHeld43 => ?_)
    clear hK K hHeld42
    try simp only [List.getElem_toArray, List.getElem_cons_succ, List.getElem_cons_zero, Act.put, List.setIfInBounds_toArray, List.set_cons_zero, List.set_cons_succ]
    refine wpAnyH_take (i := 44) (oi := _) (v := ?v7n2_44) rfl (by kernel_rfl) (by kernel_rfl) (by kernel_rfl) (fun _ _ _ h => h) (Or.inl ⟨by rfl, ?hy7n2_44⟩) hHeld43 ?_
    case hy7n2_44 => (intro wS hSw; (try dsimp only at hSw); obtain ⟨hS0, hS1⟩ := hSw; have c1 : wS.cell? ⟨g1, 33, none⟩ = some (.bool false) := rangeAt_re (hS0.krange (q := 1) (x := Known.zero) rfl).1; have c2 : wS.cell? ⟨g1, 68, none⟩ = some (.bool true) := (hS0.krange (q := 2) (x := vK) rfl).1 2 _ rfl; have c3 : wS.cell? ⟨g1, 84, none⟩ = some (.int .u32 5) := (hS0.krange (q := 2) (x := vK) rfl).1 18 _ rfl; clear hS0 hS1; go_simp; try with_reducible rfl)
    try simp only [List.getElem_toArray, List.getElem_cons_succ, List.getElem_cons_zero, Act.put, List.setIfInBounds_toArray, List.set_cons_zero, List.set_cons_succ]
    refine wpAnyH_take (i := 45) (oi := _) (v := ?v7n2_45) rfl (by kernel_rfl) (by kernel_rfl) (by kernel_rfl) (fun _ _ _ h => h) (Or.inl ⟨by rfl, ?hy7n2_45⟩) hHeld43 ?_
    case hy7n2_45 => (intro wS hSw; (try dsimp only at hSw); obtain ⟨hS0, hS1⟩ := hSw; have c1 : wS.cell? ⟨g1, 33, none⟩ = some (.bool false) := rangeAt_re (hS0.krange (q := 1) (x := Known.zero) rfl).1; have c2 : wS.cell? ⟨g1, 68, none⟩ = some (.bool true) := (hS0.krange (q := 2) (x := vK) rfl).1 2 _ rfl; have c3 : wS.cell? ⟨g1, 84, none⟩ = some (.int .u32 5) := (hS0.krange (q := 2) (x := vK) rfl).1 18 _ rfl; clear hS0 hS1; go_simp; try with_reducible rfl)
    try simp only [List.getElem_toArray, List.getElem_cons_succ, List.getElem_cons_zero, Act.put, List.setIfInBounds_toArray, List.set_cons_zero, List.set_cons_succ]
    refine wpAnyH_take (i := 46) (oi := _) (v := ?v7n2_46) rfl (by kernel_rfl) (by kernel_rfl) (by kernel_rfl) (fun _ _ _ h => h) (Or.inl ⟨by rfl, ?hy7n2_46⟩) hHeld43 ?_
    case hy7n2_46 => (intro wS hSw; (try dsimp only at hSw); obtain ⟨hS0, hS1⟩ := hSw; have c1 : wS.cell? ⟨g1, 33, none⟩ = some (.bool false) := rangeAt_re (hS0.krange (q := 1) (x := Known.zero) rfl).1; have c2 : wS.cell? ⟨g1, 68, none⟩ = some (.bool true) := (hS0.krange (q := 2) (x := vK) rfl).1 2 _ rfl; have c3 : wS.cell? ⟨g1, 84, none⟩ = some (.int .u32 5) := (hS0.krange (q := 2) (x := vK) rfl).1 18 _ rfl; clear hS0 hS1; go_simp; try with_reducible rfl)
    try simp only [List.getElem_toArray, List.getElem_cons_succ, List.getElem_cons_zero, Act.put, List.setIfInBounds_toArray, List.set_cons_zero, List.set_cons_succ]
    refine wpAnyH_done (by kernel_rfl) ?_ _
    have u9 := (((bd8.trans hbz7).trans (hbz41.mono (Nat.le_trans bd8.size hbz7.size))).trans (hbz42.mono (Nat.le_trans bd8.size (Nat.le_trans hbz7.size hbz41.size)))).trans (hbz43.mono (Nat.le_trans bd8.size (Nat.le_trans hbz7.size (Nat.le_trans hbz41.size hbz42.size))))
    go_wp2_with fail
    go_ret
    exact ⟨rfl, t8.trans (u9.mono t8.size)⟩
end Go.Proofs.Ytokkngfgppikkaa
