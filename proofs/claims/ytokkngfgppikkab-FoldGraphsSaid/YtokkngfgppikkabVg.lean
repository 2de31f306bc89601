/- Layer 21: fine; awake's memory, and what becomes of its graph. Printed by genVg.py of this repository. -/
import Derived.Test.YtokkngfgppikkabVf
import Derived.Test.YtokkngfgppikkabDh
import Derived.Test.YtokkngfgppikkabCm
namespace Go.Proofs.Ytokkngfgppikkab
set_option linter.unusedVariables false
set_option linter.unusedSimpArgs false
open Go.RowKit

/-- Is a graph right, and small? -/
def fine21B (bs : List Block) : Bool := blocksFew bs && decide (bs.length ≤ 60) && blocksRight bs 1000 1000
theorem fine21_parts {bs : List Block} (h : fine21B bs = true) : blocksFew bs = true ∧ bs.length ≤ 60 ∧ blocksRight bs 1000 1000 = true := by
  unfold fine21B at h
  rw [Bool.and_eq_true, Bool.and_eq_true, decide_eq_true_eq] at h
  exact ⟨h.1.1, h.1.2, h.2⟩
set_option maxHeartbeats 4000000 in
set_option maxRecDepth 100000 in
theorem fine21_calls (nm : ByteArray) (kp lf : Bool) (A : Option Addr) (c : Nat) (bs : List Block) (w : World) (hC : kBlock.C w A bs) (hl : bs.length ≤ maxLen) : Calls Try.prog 23 #[.agg #[.string nm, .bool kp, .bool lf, .slice A bs.length c]] w fun e w' => e = .returned (.bool (fine21B bs)) ∧ Below w.heap.size w w' := by
  have hlo : bs.length ≤ 9223372036854775807 := hl
  have b0 := below_alloc' w (.cells #[.string nm, .bool kp, .bool lf, .slice A bs.length c] 24)
  have r0 : Row (w.alloc (.cells #[.string nm, .bool kp, .bool lf, .slice A bs.length c] 24)) w.heap.size 24 (graphCells (.slice A bs.length c) ⟨nm, kp, lf, bs⟩) := Row.new w _ _
  cases hr : blocksFew bs with
  | false =>
    have HR := Lib.hid hr
    have HF : Hid (fine21B bs = false) := Lib.hid (by unfold fine21B; rw [hr]; rfl)
    clear hr
    go_enter Try.func23, Try.ntmps23
    go_upto_region 1 with fail
    generalize w.alloc (.cells #[.string nm, .bool kp, .bool lf, .slice A bs.length c] 24) = W at *
    obtain ⟨x0, x1, x2, x3⟩ := r0.graph
    go_wp2_with fail
    refine (few_calls _ _ _ _ _ _ _ (Kd.C_mono b0 hC) hl).mono ?_
    rw [HR.out]
    rintro e w1 ⟨rfl, hb1⟩
    have t1 := b0.trans (hb1.mono b0.size)
    have r1 := r0.below hb1
    clear x0 x1 x2 x3
    obtain ⟨x0, x1, x2, x3⟩ := r1.graph
    go_wp2_with fail
    go_ret
    exact ⟨by rw [HF.out]; rfl, t1⟩
  | true =>
    have HR := Lib.hid hr
    by_cases h60 : bs.length ≤ 60
    · have z0 : decide (bs.length ≤ 60) = true := decide_eq_true h60
      have HF : Hid (fine21B bs = blocksRight bs 1000 1000) := Lib.hid (by unfold fine21B; rw [hr, z0]; rfl)
      clear hr z0
      go_enter Try.func23, Try.ntmps23
      go_upto_region 1 with fail
      generalize w.alloc (.cells #[.string nm, .bool kp, .bool lf, .slice A bs.length c] 24) = W at *
      obtain ⟨x0, x1, x2, x3⟩ := r0.graph
      go_wp2_with fail
      refine (few_calls _ _ _ _ _ _ _ (Kd.C_mono b0 hC) hl).mono ?_
      rw [HR.out]
      rintro e w1 ⟨rfl, hb1⟩
      have t1 := b0.trans (hb1.mono b0.size)
      have r1 := r0.below hb1
      clear x0 x1 x2 x3
      obtain ⟨x0, x1, x2, x3⟩ := r1.graph
      go_wp2_with fail
      refine (right_calls _ _ _ _ _ _ _ _ _ (Kd.C_mono t1 hC) hl).mono ?_
      rintro e w3 ⟨rfl, hb3⟩
      go_wp2_with fail
      go_ret
      exact ⟨by rw [HF.out]; rfl, t1.trans (hb3.mono t1.size)⟩
    · have z0 : decide (bs.length ≤ 60) = false := decide_eq_false h60
      have HF : Hid (fine21B bs = false) := Lib.hid (by unfold fine21B; rw [z0, Bool.and_false]; rfl)
      clear hr z0
      go_enter Try.func23, Try.ntmps23
      go_upto_region 1 with fail
      generalize w.alloc (.cells #[.string nm, .bool kp, .bool lf, .slice A bs.length c] 24) = W at *
      obtain ⟨x0, x1, x2, x3⟩ := r0.graph
      go_wp2_with fail
      refine (few_calls _ _ _ _ _ _ _ (Kd.C_mono b0 hC) hl).mono ?_
      rw [HR.out]
      rintro e w1 ⟨rfl, hb1⟩
      have t1 := b0.trans (hb1.mono b0.size)
      have r1 := r0.below hb1
      clear x0 x1 x2 x3
      obtain ⟨x0, x1, x2, x3⟩ := r1.graph
      go_wp2_with fail
      go_ret
      exact ⟨by rw [HF.out]; rfl, t1⟩

def fAddi : Op := ⟨⟨8, 1, 0, 0, 2⟩, false, 0, 0, 0⟩
def fAdd : Op := ⟨⟨1, 2, 1, 1, 0⟩, false, 0, 0, 0⟩
def fFour : Op := ⟨⟨8, 2, 0, 0, 4⟩, false, 0, 0, 0⟩
def fB0 : Block := ⟨[fAddi, fAdd], ⟨2, 16, 1, 0, 0, 1, ⟨0, 0, 0, 0, 0⟩⟩⟩
def fB1 : Block := ⟨[], ⟨3, 0, 0, 0, 0, 0, ⟨21, 0, 0, 0, 0⟩⟩⟩
def fOut : List Block := [⟨[fAddi, fFour], jumpI 0⟩, trapBlock]
def fK1 : Known := ⟨true, true :: true :: List.replicate 14 false, 0 :: 2 :: List.replicate 14 0⟩
def fK2 : Known := ⟨true, true :: true :: true :: List.replicate 13 false, 0 :: 2 :: 4 :: List.replicate 13 0⟩
theorem fRead1 : readsList 8 1 0 0 = [] := by rw [readsList_eq (imm := 2) (by decide)]; decide
theorem fRead2 : readsList 1 2 1 1 = [1] := by rw [readsList_eq (imm := 0) (by decide)]; decide
theorem fBehind1 : behindK Known.none fAddi = fK1 := by
  have hcan : canK Known.none fAddi = true := by
    unfold canK
    show ((0 : Int) == 0 && (!false && allK Known.none (readsList 8 1 0 0))) = true
    rw [fRead1]
    rfl
  have hd : doneK Known.none fAddi = 2 := by decide
  rw [behindK_re rfl, if_neg (by decide), if_neg (by decide), if_pos hcan, hd]
  rfl
theorem fBehind2 : behindK fK1 fAdd = fK2 := by
  have hcan : canK fK1 fAdd = true := by
    unfold canK
    show ((0 : Int) == 0 && (!false && allK fK1 (readsList 1 2 1 1))) = true
    rw [fRead2]
    rfl
  have hd : doneK fK1 fAdd = 4 := by decide
  rw [behindK_re rfl, if_neg (by decide), if_neg (by decide), if_pos hcan, hd]
  rfl
theorem fTaken : takenK fK2 fB0.fin = (true, true) := by decide
theorem fWays : waysK fK2 fB0.fin = [0] := by
  unfold waysK
  rw [if_neg (by decide), if_pos (by decide), fTaken]
  rfl
theorem fJoin : joinK Known.none fK2 = Known.none := by decide
theorem fOk : BsOk [fB0, fB1] := ⟨1000, 1000, by decide⟩
theorem fOps : behindOps fB0.ops Known.none = fK2 := by
  show behindK (behindK Known.none fAddi) fAdd = fK2
  rw [fBehind1, fBehind2]
theorem fAt {ins : List Known} (h : IsAt [fB0, fB1] ins) : ins = [Known.none, Known.zero] := by
  have s0 : AtI [fB0, fB1] [Known.none, Known.zero] := AtI.start (bs := [fB0, fB1]) (by decide)
  refine h.unique ⟨s0, s0.good, s0.zero, fun i b hb hr d hd => ?_⟩
  match i, hb with
  | 0, hb =>
    injection hb with hb
    subst hb
    have e2 : behindOps fB0.ops (getK [Known.none, Known.zero] 0) = fK2 := fOps
    rw [e2] at hd ⊢
    rw [fWays, List.mem_singleton] at hd
    subst hd
    exact joinK_eq_le fJoin
  | 1, hb => cases hr
theorem fFold : foldBs [fB0, fB1] [Known.none, Known.zero] = fOut := by
  have h1 : foldOp fAddi fK1 = fAddi := by rw [foldOp_go (n := 1) (by decide) (by decide) (by decide)]; decide +kernel
  have h2 : foldOp fAdd fK2 = fFour := by rw [foldOp_go (n := 2) (by decide) (by decide) (by decide)]; decide +kernel
  have h3 : foldTerm fB0.fin fK2 = jumpI 0 := by unfold foldTerm; rw [fTaken]; rfl
  have h4 : foldOps fB0.ops Known.none = [fAddi, fFour] := by
    show foldOp fAddi (behindK Known.none fAddi) :: foldOp fAdd (behindK (behindK Known.none fAddi) fAdd) :: [] = _
    rw [fBehind1, fBehind2, h1, h2]
  have h5 : foldB fB0 Known.none = ⟨[fAddi, fFour], jumpI 0⟩ := by
    unfold foldB
    rw [if_neg (by decide), fOps, h4, h3]
  have h6 : foldB fB1 Known.zero = trapBlock := by unfold foldB; rw [if_pos (show Known.zero.reached = false from rfl)]
  show [foldB fB0 Known.none, foldB fB1 Known.zero] = fOut
  rw [h5, h6]
  rfl
theorem fCount : countTo [fB0, fB1] fOut (min 2 2) = 3 := by decide +kernel
set_option maxRecDepth 100000 in
theorem awake21_mem (w : World) : ∃ W : World, W = (((((w.alloc (.cells #[.int .i64 8, .int .i64 1, .int .i64 0, .int .i64 0, .int .i64 2, .bool false, .int .i64 0, .int .i64 0, .int .i64 0] 56)).alloc (.cells #[.int .i64 1, .int .i64 2, .int .i64 1, .int .i64 1, .int .i64 0, .bool false, .int .i64 0, .int .i64 0, .int .i64 0] 56)).alloc (.cells #[.int .i64 8, .int .i64 1, .int .i64 0, .int .i64 0, .int .i64 2, .bool false, .int .i64 0, .int .i64 0, .int .i64 0, .int .i64 1, .int .i64 2, .int .i64 1, .int .i64 1, .int .i64 0, .bool false, .int .i64 0, .int .i64 0, .int .i64 0] 56)).alloc (.cells #[.slice (some ⟨w.heap.size + 1 + 1, 0, none⟩) 2 2, .int .i64 2, .int .i64 16, .int .i64 1, .int .i64 0, .int .i64 0, .int .i64 1, .int .i64 0, .int .i64 0, .int .i64 0, .int .i64 0, .int .i64 0, .slice none 0 0, .int .i64 3, .int .i64 0, .int .i64 0, .int .i64 0, .int .i64 0, .int .i64 0, .int .i64 21, .int .i64 0, .int .i64 0, .int .i64 0, .int .i64 0] 39)).alloc (.cells #[.string (⟨#[]⟩ : ByteArray), .bool false, .bool false, .slice (some ⟨w.heap.size + 1 + 1 + 1, 0, none⟩) 2 2] 24)) ∧ Row W (w.heap.size) 56 [.int .i64 8, .int .i64 1, .int .i64 0, .int .i64 0, .int .i64 2, .bool false, .int .i64 0, .int .i64 0, .int .i64 0] ∧ Row W (w.heap.size + 1) 56 [.int .i64 1, .int .i64 2, .int .i64 1, .int .i64 1, .int .i64 0, .bool false, .int .i64 0, .int .i64 0, .int .i64 0] ∧ kOp.C W (some ⟨w.heap.size + 1 + 1, 0, none⟩) [fAddi, fAdd] ∧ kBlock.C W (some ⟨w.heap.size + 1 + 1 + 1, 0, none⟩) [fB0, fB1] ∧ Row W (w.heap.size + 1 + 1 + 1 + 1) 24 [.string (⟨#[]⟩ : ByteArray), .bool false, .bool false, .slice (some ⟨w.heap.size + 1 + 1 + 1, 0, none⟩) 2 2] ∧ Below w.heap.size w W ∧ W.heap.size = w.heap.size + 1 + 1 + 1 + 1 + 1 := by
  have e1 : (w.alloc (.cells #[.int .i64 8, .int .i64 1, .int .i64 0, .int .i64 0, .int .i64 2, .bool false, .int .i64 0, .int .i64 0, .int .i64 0] 56)).heap.size = w.heap.size + 1 := by simp
  have b1 := below_alloc' w (.cells #[.int .i64 8, .int .i64 1, .int .i64 0, .int .i64 0, .int .i64 2, .bool false, .int .i64 0, .int .i64 0, .int .i64 0] 56)
  have r0 : Row (w.alloc (.cells #[.int .i64 8, .int .i64 1, .int .i64 0, .int .i64 0, .int .i64 2, .bool false, .int .i64 0, .int .i64 0, .int .i64 0] 56)) (w.heap.size) 56 [.int .i64 8, .int .i64 1, .int .i64 0, .int .i64 0, .int .i64 2, .bool false, .int .i64 0, .int .i64 0, .int .i64 0] := Row.new w _ _
  generalize (w.alloc (.cells #[.int .i64 8, .int .i64 1, .int .i64 0, .int .i64 0, .int .i64 2, .bool false, .int .i64 0, .int .i64 0, .int .i64 0] 56)) = W1 at *
  have e2 : (W1.alloc (.cells #[.int .i64 1, .int .i64 2, .int .i64 1, .int .i64 1, .int .i64 0, .bool false, .int .i64 0, .int .i64 0, .int .i64 0] 56)).heap.size = w.heap.size + 1 + 1 := by simp [e1]
  have b2 := below_alloc' W1 (.cells #[.int .i64 1, .int .i64 2, .int .i64 1, .int .i64 1, .int .i64 0, .bool false, .int .i64 0, .int .i64 0, .int .i64 0] 56)
  have r1 : Row (W1.alloc (.cells #[.int .i64 1, .int .i64 2, .int .i64 1, .int .i64 1, .int .i64 0, .bool false, .int .i64 0, .int .i64 0, .int .i64 0] 56)) (w.heap.size + 1) 56 [.int .i64 1, .int .i64 2, .int .i64 1, .int .i64 1, .int .i64 0, .bool false, .int .i64 0, .int .i64 0, .int .i64 0] := by have := Row.new W1 56 #[.int .i64 1, .int .i64 2, .int .i64 1, .int .i64 1, .int .i64 0, .bool false, .int .i64 0, .int .i64 0, .int .i64 0]; rw [e1] at this; exact this
  replace r0 := r0.below b2
  generalize (W1.alloc (.cells #[.int .i64 1, .int .i64 2, .int .i64 1, .int .i64 1, .int .i64 0, .bool false, .int .i64 0, .int .i64 0, .int .i64 0] 56)) = W2 at *
  have e3 : (W2.alloc (.cells #[.int .i64 8, .int .i64 1, .int .i64 0, .int .i64 0, .int .i64 2, .bool false, .int .i64 0, .int .i64 0, .int .i64 0, .int .i64 1, .int .i64 2, .int .i64 1, .int .i64 1, .int .i64 0, .bool false, .int .i64 0, .int .i64 0, .int .i64 0] 56)).heap.size = w.heap.size + 1 + 1 + 1 := by simp [e2]
  have b3 := below_alloc' W2 (.cells #[.int .i64 8, .int .i64 1, .int .i64 0, .int .i64 0, .int .i64 2, .bool false, .int .i64 0, .int .i64 0, .int .i64 0, .int .i64 1, .int .i64 2, .int .i64 1, .int .i64 1, .int .i64 0, .bool false, .int .i64 0, .int .i64 0, .int .i64 0] 56)
  have c2 : kOp.C (W2.alloc (.cells #[.int .i64 8, .int .i64 1, .int .i64 0, .int .i64 0, .int .i64 2, .bool false, .int .i64 0, .int .i64 0, .int .i64 0, .int .i64 1, .int .i64 2, .int .i64 1, .int .i64 1, .int .i64 0, .bool false, .int .i64 0, .int .i64 0, .int .i64 0] 56)) (some ⟨w.heap.size + 1 + 1, 0, none⟩) [fAddi, fAdd] := by
    refine C_lit kOp W2 _ e2.symm _ [fAddi, fAdd] [[.int .i64 8, .int .i64 1, .int .i64 0, .int .i64 0, .int .i64 2, .bool false, .int .i64 0, .int .i64 0, .int .i64 0], [.int .i64 1, .int .i64 2, .int .i64 1, .int .i64 1, .int .i64 0, .bool false, .int .i64 0, .int .i64 0, .int .i64 0]] _ rfl rfl ?_
    intro i x cs hx hc
    match i with
    | 0 => simp at hx hc; subst hx hc; exact kOp_mk W2 fAddi (by unfold Op.wf; decide)
    | 1 => simp at hx hc; subst hx hc; exact kOp_mk W2 fAdd (by unfold Op.wf; decide)
    | i + 2 => simp at hx
  replace r0 := r0.below b3
  replace r1 := r1.below b3
  generalize (W2.alloc (.cells #[.int .i64 8, .int .i64 1, .int .i64 0, .int .i64 0, .int .i64 2, .bool false, .int .i64 0, .int .i64 0, .int .i64 0, .int .i64 1, .int .i64 2, .int .i64 1, .int .i64 1, .int .i64 0, .bool false, .int .i64 0, .int .i64 0, .int .i64 0] 56)) = W3 at *
  have e4 : (W3.alloc (.cells #[.slice (some ⟨w.heap.size + 1 + 1, 0, none⟩) 2 2, .int .i64 2, .int .i64 16, .int .i64 1, .int .i64 0, .int .i64 0, .int .i64 1, .int .i64 0, .int .i64 0, .int .i64 0, .int .i64 0, .int .i64 0, .slice none 0 0, .int .i64 3, .int .i64 0, .int .i64 0, .int .i64 0, .int .i64 0, .int .i64 0, .int .i64 21, .int .i64 0, .int .i64 0, .int .i64 0, .int .i64 0] 39)).heap.size = w.heap.size + 1 + 1 + 1 + 1 := by simp [e3]
  have b4 := below_alloc' W3 (.cells #[.slice (some ⟨w.heap.size + 1 + 1, 0, none⟩) 2 2, .int .i64 2, .int .i64 16, .int .i64 1, .int .i64 0, .int .i64 0, .int .i64 1, .int .i64 0, .int .i64 0, .int .i64 0, .int .i64 0, .int .i64 0, .slice none 0 0, .int .i64 3, .int .i64 0, .int .i64 0, .int .i64 0, .int .i64 0, .int .i64 0, .int .i64 21, .int .i64 0, .int .i64 0, .int .i64 0, .int .i64 0] 39)
  have c3 : kBlock.C (W3.alloc (.cells #[.slice (some ⟨w.heap.size + 1 + 1, 0, none⟩) 2 2, .int .i64 2, .int .i64 16, .int .i64 1, .int .i64 0, .int .i64 0, .int .i64 1, .int .i64 0, .int .i64 0, .int .i64 0, .int .i64 0, .int .i64 0, .slice none 0 0, .int .i64 3, .int .i64 0, .int .i64 0, .int .i64 0, .int .i64 0, .int .i64 0, .int .i64 21, .int .i64 0, .int .i64 0, .int .i64 0, .int .i64 0] 39)) (some ⟨w.heap.size + 1 + 1 + 1, 0, none⟩) [fB0, fB1] := by
    refine C_lit kBlock W3 _ e3.symm _ [fB0, fB1] [[.slice (some ⟨w.heap.size + 1 + 1, 0, none⟩) 2 2, .int .i64 2, .int .i64 16, .int .i64 1, .int .i64 0, .int .i64 0, .int .i64 1, .int .i64 0, .int .i64 0, .int .i64 0, .int .i64 0, .int .i64 0], [.slice none 0 0, .int .i64 3, .int .i64 0, .int .i64 0, .int .i64 0, .int .i64 0, .int .i64 0, .int .i64 21, .int .i64 0, .int .i64 0, .int .i64 0, .int .i64 0]] _ rfl rfl ?_
    intro i x cs hx hc
    match i with
    | 0 => simp at hx hc; subst hx hc; exact kBlock_mk W3 fB0 (c0 := 2) (by unfold Block.wf; decide) (by decide) (by decide) c2
    | 1 => simp at hx hc; subst hx hc; exact kBlock_mk W3 fB1 (A0 := none) (c0 := 0) (by unfold Block.wf; decide) (by decide) (by decide) (C_nil kOp W3 none)
    | i + 2 => simp at hx
  replace r0 := r0.below b4
  replace r1 := r1.below b4
  replace c2 := Kd.C_mono b4 c2
  generalize (W3.alloc (.cells #[.slice (some ⟨w.heap.size + 1 + 1, 0, none⟩) 2 2, .int .i64 2, .int .i64 16, .int .i64 1, .int .i64 0, .int .i64 0, .int .i64 1, .int .i64 0, .int .i64 0, .int .i64 0, .int .i64 0, .int .i64 0, .slice none 0 0, .int .i64 3, .int .i64 0, .int .i64 0, .int .i64 0, .int .i64 0, .int .i64 0, .int .i64 21, .int .i64 0, .int .i64 0, .int .i64 0, .int .i64 0] 39)) = W4 at *
  have e5 : (W4.alloc (.cells #[.string (⟨#[]⟩ : ByteArray), .bool false, .bool false, .slice (some ⟨w.heap.size + 1 + 1 + 1, 0, none⟩) 2 2] 24)).heap.size = w.heap.size + 1 + 1 + 1 + 1 + 1 := by simp [e4]
  have b5 := below_alloc' W4 (.cells #[.string (⟨#[]⟩ : ByteArray), .bool false, .bool false, .slice (some ⟨w.heap.size + 1 + 1 + 1, 0, none⟩) 2 2] 24)
  have r4 : Row (W4.alloc (.cells #[.string (⟨#[]⟩ : ByteArray), .bool false, .bool false, .slice (some ⟨w.heap.size + 1 + 1 + 1, 0, none⟩) 2 2] 24)) (w.heap.size + 1 + 1 + 1 + 1) 24 [.string (⟨#[]⟩ : ByteArray), .bool false, .bool false, .slice (some ⟨w.heap.size + 1 + 1 + 1, 0, none⟩) 2 2] := by have := Row.new W4 24 #[.string (⟨#[]⟩ : ByteArray), .bool false, .bool false, .slice (some ⟨w.heap.size + 1 + 1 + 1, 0, none⟩) 2 2]; rw [e4] at this; exact this
  replace r0 := r0.below b5
  replace r1 := r1.below b5
  replace c2 := Kd.C_mono b5 c2
  replace c3 := Kd.C_mono b5 c3
  generalize (W4.alloc (.cells #[.string (⟨#[]⟩ : ByteArray), .bool false, .bool false, .slice (some ⟨w.heap.size + 1 + 1 + 1, 0, none⟩) 2 2] 24)) = W5 at *
  exact ⟨_, rfl, r0, r1, c2, c3, r4, (b1.trans ((b2.trans ((b3.trans ((b4.trans (b5.mono b4.size)).mono b3.size)).mono b2.size)).mono b1.size)), e5⟩
end Go.Proofs.Ytokkngfgppikkab
