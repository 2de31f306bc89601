/- Layer 25: fine; awake. Printed by genYp.py of this repository. -/
import Derived.Test.YthnkikdbllkmkaaYn
import Derived.Test.YthnkikdbllkmkaaYo
import Derived.Test.YthnkikdbllkmkaaGb
import Derived.Test.YthnkikdbllkmkaaGh
import Derived.Test.YthnkikdbllkmkaaGa
namespace Go.Proofs.Ythnkikdbllkmkaa
set_option linter.unusedVariables false
set_option linter.unusedSimpArgs false
open Go.RowKit Go.Lib
open Go.Sort (insertionSort insOuter insInner swp)

/-- Is a graph right, and small? -/
def fine25B (bs : List Block) : Bool := blocksFew bs && decide (bs.length ≤ 25) && blocksRight bs 1000 1000
theorem fine25_parts {bs : List Block} (h : fine25B bs = true) : blocksFew bs = true ∧ bs.length ≤ 25 ∧ blocksRight bs 1000 1000 = true := by
  unfold fine25B at h
  rw [Bool.and_eq_true, Bool.and_eq_true, decide_eq_true_eq] at h
  exact ⟨h.1.1, h.1.2, h.2⟩
set_option maxHeartbeats 4000000 in
set_option maxRecDepth 100000 in
theorem fine25_calls (nm : ByteArray) (kp lf : Bool) (A : Option Addr) (c : Nat) (bs : List Block) (w : World) (hC : kBlock.C w A bs) (hl : bs.length ≤ maxLen) : Calls Try.prog 8 #[.agg #[.string nm, .bool kp, .bool lf, .slice A bs.length c]] w fun e w' => e = .returned (.bool (fine25B bs)) ∧ Below w.heap.size w w' := by
  have hlo : bs.length ≤ 9223372036854775807 := hl
  have b0 := below_alloc' w (.cells #[.string nm, .bool kp, .bool lf, .slice A bs.length c] 24)
  have r0 : Row (w.alloc (.cells #[.string nm, .bool kp, .bool lf, .slice A bs.length c] 24)) w.heap.size 24 (graphCells (.slice A bs.length c) ⟨nm, kp, lf, bs⟩) := Row.new w _ _
  cases hr : blocksFew bs with
  | false =>
    have HR := Lib.hid hr
    have HF : Hid (fine25B bs = false) := Lib.hid (by unfold fine25B; rw [hr]; rfl)
    clear hr
    go_enter Try.func8, Try.ntmps8
    go_upto_region 1 with fail
    generalize w.alloc (.cells #[.string nm, .bool kp, .bool lf, .slice A bs.length c] 24) = W at *
    obtain ⟨x0, x1, x2, x3⟩ := r0.graph
    go_wp2_with fail
    refine (few_calls _ _ _ _ _ _ _ (Kd.C_mono b0 hC) hl).mono ?_
    rw [HR.out]
    rintro e w1 ⟨rfl, hb1⟩
    have t1 := b0.trans (hb1.mono b0.size)
    have r1 := r0.below hb1
    clear x0 x1 x2 x3
    obtain ⟨x0, x1, x2, x3⟩ := r1.graph
    go_wp2_with fail
    go_ret
    exact ⟨by rw [HF.out]; rfl, t1⟩
  | true =>
    have HR := Lib.hid hr
    by_cases h25 : bs.length ≤ 25
    · have z0 : decide (bs.length ≤ 25) = true := decide_eq_true h25
      have HF : Hid (fine25B bs = blocksRight bs 1000 1000) := Lib.hid (by unfold fine25B; rw [hr, z0]; rfl)
      clear hr z0
      go_enter Try.func8, Try.ntmps8
      go_upto_region 1 with fail
      generalize w.alloc (.cells #[.string nm, .bool kp, .bool lf, .slice A bs.length c] 24) = W at *
      obtain ⟨x0, x1, x2, x3⟩ := r0.graph
      go_wp2_with fail
      refine (few_calls _ _ _ _ _ _ _ (Kd.C_mono b0 hC) hl).mono ?_
      rw [HR.out]
      rintro e w1 ⟨rfl, hb1⟩
      have t1 := b0.trans (hb1.mono b0.size)
      have r1 := r0.below hb1
      clear x0 x1 x2 x3
      obtain ⟨x0, x1, x2, x3⟩ := r1.graph
      go_wp2_with fail
      refine (right_calls _ _ _ _ _ _ _ _ _ (Kd.C_mono t1 hC) hl).mono ?_
      rintro e w3 ⟨rfl, hb3⟩
      go_wp2_with fail
      go_ret
      exact ⟨by rw [HF.out]; rfl, t1.trans (hb3.mono t1.size)⟩
    · have z0 : decide (bs.length ≤ 25) = false := decide_eq_false h25
      have HF : Hid (fine25B bs = false) := Lib.hid (by unfold fine25B; rw [z0, Bool.and_false]; rfl)
      clear hr z0
      go_enter Try.func8, Try.ntmps8
      go_upto_region 1 with fail
      generalize w.alloc (.cells #[.string nm, .bool kp, .bool lf, .slice A bs.length c] 24) = W at *
      obtain ⟨x0, x1, x2, x3⟩ := r0.graph
      go_wp2_with fail
      refine (few_calls _ _ _ _ _ _ _ (Kd.C_mono b0 hC) hl).mono ?_
      rw [HR.out]
      rintro e w1 ⟨rfl, hb1⟩
      have t1 := b0.trans (hb1.mono b0.size)
      have r1 := r0.below hb1
      clear x0 x1 x2 x3
      obtain ⟨x0, x1, x2, x3⟩ := r1.graph
      go_wp2_with fail
      go_ret
      exact ⟨by rw [HF.out]; rfl, t1⟩


def cB0 : Block := ⟨[], ⟨2, 15, 0, 0, 1, 2, ⟨0, 0, 0, 0, 0⟩⟩⟩
def cB1 : Block := ⟨[], ⟨3, 0, 0, 0, 0, 0, ⟨21, 0, 0, 0, 0⟩⟩⟩
def nF : ByteArray := ⟨#[102]⟩
def cE1 : Edge := ⟨⟨#[102]⟩, 0, 2, 4621256167635550208⟩
def cE2 : Edge := ⟨⟨#[103]⟩, 0, 0, 4611686018427387904⟩
def cG0 : Graph := ⟨⟨#[102]⟩, false, false, [cB0, cB1, cB1]⟩
def cG1 : Graph := ⟨⟨#[104]⟩, false, false, []⟩
def cG2 : Graph := ⟨⟨#[103]⟩, false, false, []⟩
set_option maxHeartbeats 4000000 in
set_option maxRecDepth 100000 in
theorem awake25_mem (w : World) : ∃ W : World, W = (((w.alloc (.cells #[.int .i64 3, .int .i64 0, .int .i64 0, .int .i64 0, .int .i64 0, .int .i64 0, .int .i64 21, .int .i64 0, .int .i64 0, .int .i64 0, .int .i64 0] 43)).alloc (.cells #[.slice none 0 0, .int .i64 2, .int .i64 15, .int .i64 0, .int .i64 0, .int .i64 1, .int .i64 2, .int .i64 0, .int .i64 0, .int .i64 0, .int .i64 0, .int .i64 0, .slice none 0 0, .int .i64 3, .int .i64 0, .int .i64 0, .int .i64 0, .int .i64 0, .int .i64 0, .int .i64 21, .int .i64 0, .int .i64 0, .int .i64 0, .int .i64 0, .slice none 0 0, .int .i64 3, .int .i64 0, .int .i64 0, .int .i64 0, .int .i64 0, .int .i64 0, .int .i64 21, .int .i64 0, .int .i64 0, .int .i64 0, .int .i64 0] 46)).alloc (.cells #[.string (⟨#[102]⟩ : ByteArray), .bool false, .bool false, .slice (some ⟨w.heap.size + 1, 0, none⟩) 3 3] 24)) ∧ Row W (w.heap.size) 43 [.int .i64 3, .int .i64 0, .int .i64 0, .int .i64 0, .int .i64 0, .int .i64 0, .int .i64 21, .int .i64 0, .int .i64 0, .int .i64 0, .int .i64 0] ∧ kBlock.C W (some ⟨w.heap.size + 1, 0, none⟩) [cB0, cB1, cB1] ∧ Row W (w.heap.size + 1 + 1) 24 [.string (⟨#[102]⟩ : ByteArray), .bool false, .bool false, .slice (some ⟨w.heap.size + 1, 0, none⟩) 3 3] ∧ Below w.heap.size w W ∧ W.heap.size = w.heap.size + 1 + 1 + 1 := by
  have e1 : (w.alloc (.cells #[.int .i64 3, .int .i64 0, .int .i64 0, .int .i64 0, .int .i64 0, .int .i64 0, .int .i64 21, .int .i64 0, .int .i64 0, .int .i64 0, .int .i64 0] 43)).heap.size = w.heap.size + 1 := by simp
  have b1 := below_alloc' w (.cells #[.int .i64 3, .int .i64 0, .int .i64 0, .int .i64 0, .int .i64 0, .int .i64 0, .int .i64 21, .int .i64 0, .int .i64 0, .int .i64 0, .int .i64 0] 43)
  have r0 : Row (w.alloc (.cells #[.int .i64 3, .int .i64 0, .int .i64 0, .int .i64 0, .int .i64 0, .int .i64 0, .int .i64 21, .int .i64 0, .int .i64 0, .int .i64 0, .int .i64 0] 43)) (w.heap.size) 43 [.int .i64 3, .int .i64 0, .int .i64 0, .int .i64 0, .int .i64 0, .int .i64 0, .int .i64 21, .int .i64 0, .int .i64 0, .int .i64 0, .int .i64 0] := Row.new w _ _
  generalize (w.alloc (.cells #[.int .i64 3, .int .i64 0, .int .i64 0, .int .i64 0, .int .i64 0, .int .i64 0, .int .i64 21, .int .i64 0, .int .i64 0, .int .i64 0, .int .i64 0] 43)) = W1 at *
  have e2 : (W1.alloc (.cells #[.slice none 0 0, .int .i64 2, .int .i64 15, .int .i64 0, .int .i64 0, .int .i64 1, .int .i64 2, .int .i64 0, .int .i64 0, .int .i64 0, .int .i64 0, .int .i64 0, .slice none 0 0, .int .i64 3, .int .i64 0, .int .i64 0, .int .i64 0, .int .i64 0, .int .i64 0, .int .i64 21, .int .i64 0, .int .i64 0, .int .i64 0, .int .i64 0, .slice none 0 0, .int .i64 3, .int .i64 0, .int .i64 0, .int .i64 0, .int .i64 0, .int .i64 0, .int .i64 21, .int .i64 0, .int .i64 0, .int .i64 0, .int .i64 0] 46)).heap.size = w.heap.size + 1 + 1 := by simp [e1]
  have b2 := below_alloc' W1 (.cells #[.slice none 0 0, .int .i64 2, .int .i64 15, .int .i64 0, .int .i64 0, .int .i64 1, .int .i64 2, .int .i64 0, .int .i64 0, .int .i64 0, .int .i64 0, .int .i64 0, .slice none 0 0, .int .i64 3, .int .i64 0, .int .i64 0, .int .i64 0, .int .i64 0, .int .i64 0, .int .i64 21, .int .i64 0, .int .i64 0, .int .i64 0, .int .i64 0, .slice none 0 0, .int .i64 3, .int .i64 0, .int .i64 0, .int .i64 0, .int .i64 0, .int .i64 0, .int .i64 21, .int .i64 0, .int .i64 0, .int .i64 0, .int .i64 0] 46)
  have c1 : kBlock.C (W1.alloc (.cells #[.slice none 0 0, .int .i64 2, .int .i64 15, .int .i64 0, .int .i64 0, .int .i64 1, .int .i64 2, .int .i64 0, .int .i64 0, .int .i64 0, .int .i64 0, .int .i64 0, .slice none 0 0, .int .i64 3, .int .i64 0, .int .i64 0, .int .i64 0, .int .i64 0, .int .i64 0, .int .i64 21, .int .i64 0, .int .i64 0, .int .i64 0, .int .i64 0, .slice none 0 0, .int .i64 3, .int .i64 0, .int .i64 0, .int .i64 0, .int .i64 0, .int .i64 0, .int .i64 21, .int .i64 0, .int .i64 0, .int .i64 0, .int .i64 0] 46)) (some ⟨w.heap.size + 1, 0, none⟩) [cB0, cB1, cB1] := by
    refine C_lit kBlock W1 _ e1.symm _ [cB0, cB1, cB1] [[.slice none 0 0, .int .i64 2, .int .i64 15, .int .i64 0, .int .i64 0, .int .i64 1, .int .i64 2, .int .i64 0, .int .i64 0, .int .i64 0, .int .i64 0, .int .i64 0], [.slice none 0 0, .int .i64 3, .int .i64 0, .int .i64 0, .int .i64 0, .int .i64 0, .int .i64 0, .int .i64 21, .int .i64 0, .int .i64 0, .int .i64 0, .int .i64 0], [.slice none 0 0, .int .i64 3, .int .i64 0, .int .i64 0, .int .i64 0, .int .i64 0, .int .i64 0, .int .i64 21, .int .i64 0, .int .i64 0, .int .i64 0, .int .i64 0]] _ rfl rfl ?_
    intro i x cs hx hc
    match i with
    | 0 => simp at hx hc; subst hx hc; exact kBlock_mk W1 cB0 (A0 := none) (c0 := 0) (by unfold Block.wf; decide) (by decide) (by decide) (C_nil kOp W1 none)
    | 1 => simp at hx hc; subst hx hc; exact kBlock_mk W1 cB1 (A0 := none) (c0 := 0) (by unfold Block.wf; decide) (by decide) (by decide) (C_nil kOp W1 none)
    | 2 => simp at hx hc; subst hx hc; exact kBlock_mk W1 cB1 (A0 := none) (c0 := 0) (by unfold Block.wf; decide) (by decide) (by decide) (C_nil kOp W1 none)
    | i + 3 => simp at hx
  replace r0 := r0.below b2
  generalize (W1.alloc (.cells #[.slice none 0 0, .int .i64 2, .int .i64 15, .int .i64 0, .int .i64 0, .int .i64 1, .int .i64 2, .int .i64 0, .int .i64 0, .int .i64 0, .int .i64 0, .int .i64 0, .slice none 0 0, .int .i64 3, .int .i64 0, .int .i64 0, .int .i64 0, .int .i64 0, .int .i64 0, .int .i64 21, .int .i64 0, .int .i64 0, .int .i64 0, .int .i64 0, .slice none 0 0, .int .i64 3, .int .i64 0, .int .i64 0, .int .i64 0, .int .i64 0, .int .i64 0, .int .i64 21, .int .i64 0, .int .i64 0, .int .i64 0, .int .i64 0] 46)) = W2 at *
  have e3 : (W2.alloc (.cells #[.string (⟨#[102]⟩ : ByteArray), .bool false, .bool false, .slice (some ⟨w.heap.size + 1, 0, none⟩) 3 3] 24)).heap.size = w.heap.size + 1 + 1 + 1 := by simp [e2]
  have b3 := below_alloc' W2 (.cells #[.string (⟨#[102]⟩ : ByteArray), .bool false, .bool false, .slice (some ⟨w.heap.size + 1, 0, none⟩) 3 3] 24)
  have r2 : Row (W2.alloc (.cells #[.string (⟨#[102]⟩ : ByteArray), .bool false, .bool false, .slice (some ⟨w.heap.size + 1, 0, none⟩) 3 3] 24)) (w.heap.size + 1 + 1) 24 [.string (⟨#[102]⟩ : ByteArray), .bool false, .bool false, .slice (some ⟨w.heap.size + 1, 0, none⟩) 3 3] := by have := Row.new W2 24 #[.string (⟨#[102]⟩ : ByteArray), .bool false, .bool false, .slice (some ⟨w.heap.size + 1, 0, none⟩) 3 3]; rw [e2] at this; exact this
  replace r0 := r0.below b3
  replace c1 := Kd.C_mono b3 c1
  generalize (W2.alloc (.cells #[.string (⟨#[102]⟩ : ByteArray), .bool false, .bool false, .slice (some ⟨w.heap.size + 1, 0, none⟩) 3 3] 24)) = W3 at *
  exact ⟨_, rfl, r0, c1, r2, (b1.trans ((b2.trans (b3.mono b2.size)).mono b1.size)), e3⟩

set_option maxHeartbeats 4000000 in
set_option maxRecDepth 100000 in
theorem awake25_mem1 (w : World) : ∃ W : World, W = (w.alloc (.cells #[.string (⟨#[102]⟩ : ByteArray), .int .i64 0, .int .i64 2, .float .f64 4621256167635550208] 49)) ∧ kEdge.C W (some ⟨w.heap.size, 0, none⟩) [cE1] ∧ Below w.heap.size w W ∧ W.heap.size = w.heap.size + 1 := by
  have e1 : (w.alloc (.cells #[.string (⟨#[102]⟩ : ByteArray), .int .i64 0, .int .i64 2, .float .f64 4621256167635550208] 49)).heap.size = w.heap.size + 1 := by simp
  have b1 := below_alloc' w (.cells #[.string (⟨#[102]⟩ : ByteArray), .int .i64 0, .int .i64 2, .float .f64 4621256167635550208] 49)
  have c0 : kEdge.C (w.alloc (.cells #[.string (⟨#[102]⟩ : ByteArray), .int .i64 0, .int .i64 2, .float .f64 4621256167635550208] 49)) (some ⟨w.heap.size, 0, none⟩) [cE1] := by
    exact C_one kEdge w _ rfl _ _ _ (kEdge_mk w cE1 (by unfold Edge.wf; decide))
  generalize (w.alloc (.cells #[.string (⟨#[102]⟩ : ByteArray), .int .i64 0, .int .i64 2, .float .f64 4621256167635550208] 49)) = W1 at *
  exact ⟨_, rfl, c0, b1, e1⟩

theorem cMono {w w' : World} {GB : Nat} (h : kBlock.C w (some ⟨GB, 0, none⟩) cG0.blocks) (hb : Below w.heap.size w w') : kBlock.C w' (some ⟨GB, 0, none⟩) cG0.blocks := Kd.C_mono hb h
set_option maxHeartbeats 4000000 in
set_option maxRecDepth 100000 in
theorem awake25_mem2 (w : World) (GB : Nat) (HCB : kBlock.C w (some ⟨GB, 0, none⟩) cG0.blocks) : ∃ W : World, W = (((w.alloc (.cells #[.string (⟨#[102]⟩ : ByteArray), .bool false, .bool false, .slice (some ⟨GB, 0, none⟩) 3 3, .string (⟨#[104]⟩ : ByteArray), .bool false, .bool false, .slice none 0 0, .string (⟨#[103]⟩ : ByteArray), .bool false, .bool false, .slice none 0 0] 24)).alloc (.cells #[.string (⟨#[103]⟩ : ByteArray), .int .i64 0, .int .i64 0, .float .f64 4611686018427387904] 49)).alloc (.cells #[.bool true, .bool true, .bool true] 4)) ∧ kGraph.C W (some ⟨w.heap.size, 0, none⟩) [cG0, cG1, cG2] ∧ kEdge.C W (some ⟨w.heap.size + 1, 0, none⟩) [cE2] ∧ Kd.bool.C W (some ⟨w.heap.size + 1 + 1, 0, none⟩) [true, true, true] ∧ Below w.heap.size w W ∧ W.heap.size = w.heap.size + 1 + 1 + 1 := by
  have e1 : (w.alloc (.cells #[.string (⟨#[102]⟩ : ByteArray), .bool false, .bool false, .slice (some ⟨GB, 0, none⟩) 3 3, .string (⟨#[104]⟩ : ByteArray), .bool false, .bool false, .slice none 0 0, .string (⟨#[103]⟩ : ByteArray), .bool false, .bool false, .slice none 0 0] 24)).heap.size = w.heap.size + 1 := by simp
  have b1 := below_alloc' w (.cells #[.string (⟨#[102]⟩ : ByteArray), .bool false, .bool false, .slice (some ⟨GB, 0, none⟩) 3 3, .string (⟨#[104]⟩ : ByteArray), .bool false, .bool false, .slice none 0 0, .string (⟨#[103]⟩ : ByteArray), .bool false, .bool false, .slice none 0 0] 24)
  have c0 : kGraph.C (w.alloc (.cells #[.string (⟨#[102]⟩ : ByteArray), .bool false, .bool false, .slice (some ⟨GB, 0, none⟩) 3 3, .string (⟨#[104]⟩ : ByteArray), .bool false, .bool false, .slice none 0 0, .string (⟨#[103]⟩ : ByteArray), .bool false, .bool false, .slice none 0 0] 24)) (some ⟨w.heap.size, 0, none⟩) [cG0, cG1, cG2] := by
    refine C_lit kGraph w _ rfl _ [cG0, cG1, cG2] [[.string (⟨#[102]⟩ : ByteArray), .bool false, .bool false, .slice (some ⟨GB, 0, none⟩) 3 3], [.string (⟨#[104]⟩ : ByteArray), .bool false, .bool false, .slice none 0 0], [.string (⟨#[103]⟩ : ByteArray), .bool false, .bool false, .slice none 0 0]] _ rfl rfl ?_
    intro i x cs hx hc
    match i with
    | 0 => simp at hx hc; subst hx hc; exact kGraph_mk w cG0 (A0 := some ⟨GB, 0, none⟩) (c0 := 3) (by unfold Graph.wf; decide) (by decide) (by decide) HCB
    | 1 => simp at hx hc; subst hx hc; exact kGraph_mk w cG1 (A0 := none) (c0 := 0) (by unfold Graph.wf; decide) (by decide) (by decide) (C_nil kBlock w none)
    | 2 => simp at hx hc; subst hx hc; exact kGraph_mk w cG2 (A0 := none) (c0 := 0) (by unfold Graph.wf; decide) (by decide) (by decide) (C_nil kBlock w none)
    | i + 3 => simp at hx
  generalize (w.alloc (.cells #[.string (⟨#[102]⟩ : ByteArray), .bool false, .bool false, .slice (some ⟨GB, 0, none⟩) 3 3, .string (⟨#[104]⟩ : ByteArray), .bool false, .bool false, .slice none 0 0, .string (⟨#[103]⟩ : ByteArray), .bool false, .bool false, .slice none 0 0] 24)) = W1 at *
  have e2 : (W1.alloc (.cells #[.string (⟨#[103]⟩ : ByteArray), .int .i64 0, .int .i64 0, .float .f64 4611686018427387904] 49)).heap.size = w.heap.size + 1 + 1 := by simp [e1]
  have b2 := below_alloc' W1 (.cells #[.string (⟨#[103]⟩ : ByteArray), .int .i64 0, .int .i64 0, .float .f64 4611686018427387904] 49)
  have c1 : kEdge.C (W1.alloc (.cells #[.string (⟨#[103]⟩ : ByteArray), .int .i64 0, .int .i64 0, .float .f64 4611686018427387904] 49)) (some ⟨w.heap.size + 1, 0, none⟩) [cE2] := by
    exact C_one kEdge W1 _ e1.symm _ _ _ (kEdge_mk W1 cE2 (by unfold Edge.wf; decide))
  replace c0 := Kd.C_mono b2 c0
  generalize (W1.alloc (.cells #[.string (⟨#[103]⟩ : ByteArray), .int .i64 0, .int .i64 0, .float .f64 4611686018427387904] 49)) = W2 at *
  have e3 : (W2.alloc (.cells #[.bool true, .bool true, .bool true] 4)).heap.size = w.heap.size + 1 + 1 + 1 := by simp [e2]
  have b3 := below_alloc' W2 (.cells #[.bool true, .bool true, .bool true] 4)
  have c2 : Kd.bool.C (W2.alloc (.cells #[.bool true, .bool true, .bool true] 4)) (some ⟨w.heap.size + 1 + 1, 0, none⟩) [true, true, true] := by
    refine C_lit Kd.bool W2 _ e2.symm _ [true, true, true] [[.bool true], [.bool true], [.bool true]] _ rfl rfl ?_
    intro i x cs hx hc
    match i with
    | 0 => simp at hx hc; subst hx hc; exact rfl
    | 1 => simp at hx hc; subst hx hc; exact rfl
    | 2 => simp at hx hc; subst hx hc; exact rfl
    | i + 3 => simp at hx
  replace c0 := Kd.C_mono b3 c0
  replace c1 := Kd.C_mono b3 c1
  generalize (W2.alloc (.cells #[.bool true, .bool true, .bool true] 4)) = W3 at *
  exact ⟨_, rfl, c0, c1, c2, (b1.trans ((b2.trans (b3.mono b2.size)).mono b1.size)), e3⟩

theorem cLeads : Leads [cB0, cB1, cB1] := by
  intro b hb
  simp only [List.mem_cons, List.not_mem_nil, or_false] at hb
  rcases hb with rfl | rfl | rfl
  · exact ⟨fun _ => ⟨by decide, by decide⟩, fun _ => ⟨by decide, by decide⟩⟩
  · exact ⟨fun h => (by rcases h with h | h <;> cases h), fun h => (by cases h)⟩
  · exact ⟨fun h => (by rcases h with h | h <;> cases h), fun h => (by cases h)⟩
theorem cW1 : ofW [cE1] nF 0 2 = 4621256167635550208 := by decide +kernel
theorem cW2 : ofW [cE1] nF 0 1 = 0 := by decide +kernel
theorem cWf1 : ∀ e ∈ [cE1], e.wf := by
  intro e he
  rw [List.mem_singleton] at he
  subst he
  unfold Edge.wf
  decide
theorem mkE_w {l : List Edge} (hw : ∀ e ∈ l, e.wf) (nm : ByteArray) (i t : Int) : (mkE l nm i t).w.1 = ofW l nm i t := by
  unfold mkE
  rw [dif_pos (show Fl.posW (ofW l nm i t) from sumW_pos hw)]
theorem cRaw : rawTo [cE1] nF [cB0, cB1, cB1] 3 = [mkE [cE1] nF 0 2, mkE [cE1] nF 0 1] := by
  have h0 : rawTo [cE1] nF [cB0, cB1, cB1] 1 = atE [cE1] nF 0 cB0 := by rw [rawTo_succ (b := cB0) rfl]; rfl
  have h1 : rawTo [cE1] nF [cB0, cB1, cB1] 2 = rawTo [cE1] nF [cB0, cB1, cB1] 1 ++ atE [cE1] nF 1 cB1 := rawTo_succ rfl
  have h2 : rawTo [cE1] nF [cB0, cB1, cB1] 3 = rawTo [cE1] nF [cB0, cB1, cB1] 2 ++ atE [cE1] nF 2 cB1 := rawTo_succ rfl
  have e0 : atE [cE1] nF 0 cB0 = [mkE [cE1] nF 0 2, mkE [cE1] nF 0 1] := by
    unfold atE
    rw [if_pos (by decide)]
    unfold putE
    rw [if_pos (by decide), if_pos (by decide)]
    rfl
  have e1 : ∀ i, atE [cE1] nF i cB1 = [] := fun i => by
    unfold atE
    rw [if_neg (by decide), if_neg (by decide)]
  rw [h2, h1, h0, e0, e1, e1]
  rfl
theorem cLt : ltE (mkE [cE1] nF 0 2) (mkE [cE1] nF 0 1) := by
  left
  rw [mkE_w cWf1, mkE_w cWf1, cW1, cW2]
  decide
theorem sortE_pair {x y : Edg} (h : ltE x y) : sortE [x, y] = [x, y] := by
  unfold sortE
  refine List.mergeSort_of_pairwise ?_
  have : Go.Proofs.ltOf cfE y x = false := by
    cases e : Go.Proofs.ltOf cfE y x with
    | false => rfl
    | true => exact absurd (ltE_trans h ((ltOf_cfE y x).1 e)) (ltE_irrefl x)
  simp [this]
theorem cEdges : edgesD [cE1] nF [cB0, cB1, cB1] = [mkE [cE1] nF 0 2, mkE [cE1] nF 0 1] := by
  unfold edgesD
  have h : rawTo [cE1] nF [cB0, cB1, cB1] [cB0, cB1, cB1].length = [mkE [cE1] nF 0 2, mkE [cE1] nF 0 1] := cRaw
  rw [h, sortE_pair cLt]
  refine (ddN_all (Nat.le_refl _) (fun j h0 hj e => ?_)).trans rfl
  have hj1 : j = 1 := by simp at hj; omega
  subst hj1
  have e' : mkE [cE1] nF 0 1 = mkE [cE1] nF 0 2 := by simpa using e
  have hl := cLt
  rw [e'] at hl
  exact ltE_irrefl _ hl
theorem cBlocks : blocksD 3 (edgesD [cE1] nF [cB0, cB1, cB1]) = [0, 2, 1] := by
  rw [cEdges]
  rfl
theorem cSel : selN [true, true, true] 1 3 = [0, 2] := by decide
theorem cT0 : totN [cE2] [cG0, cG1, cG2] 0 = 0 := by decide +kernel
theorem cT2 : totN [cE2] [cG0, cG1, cG2] 2 = 4611686018427387904 := by decide +kernel
theorem cSort [Inhabited (Fin 3)] (h : ∀ x ∈ [0, 2], x < 3) : (sortT [cE2] [cG0, cG1, cG2] 3 (finL 3 [0, 2] h)).map Fin.val = [2, 0] := by
  have hf : finL 3 [0, 2] h = [⟨0, by decide⟩, ⟨2, by decide⟩] := rfl
  rw [hf]
  unfold sortT insertionSort
  have hlt : ltOf (fun a b : Fin 3 => cfT [cE2] [cG0, cG1, cG2] a.1 b.1) ⟨2, by decide⟩ ⟨0, by decide⟩ = true := by
    rw [ltOf_cfT, cT0, cT2]
    decide
  show (insOuter (ltOf (fun a b : Fin 3 => cfT [cE2] [cG0, cG1, cG2] a.1 b.1)) 0 2 1 #[⟨0, by decide⟩, ⟨2, by decide⟩]).toList.map Fin.val = [2, 0]
  rw [insOuter_go _ _ _ _ _ (by decide), insOuter_stop _ _ _ _ _ (by decide), insInner_go _ _ _ _ (by decide) hlt, insInner_stop _ _ _ _ (.inl (by decide))]
  rfl
end Go.Proofs.Ythnkikdbllkmkaa
