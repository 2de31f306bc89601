/- Layer 23's awake: its memory. Printed by genDh.py of this repository. -/
import Derived.Test.YtokkngfgppikkabDg
import Derived.Test.YtokkngfgppikkabGh
namespace Go.Proofs.Ytokkngfgppikkab
set_option linter.unusedVariables false
set_option linter.unusedSimpArgs false
open Go.RowKit

def iFin : Term := ⟨3, 0, 0, 0, 0, 0, ⟨21, 0, 0, 0, 0⟩⟩
def iCall : Op := ⟨⟨20, 0, 0, 0, 0⟩, true, 1, 1, 0⟩
def iInc : Op := ⟨⟨8, 1, 1, 0, 1⟩, false, 0, 0, 0⟩
def iB0 : Block := ⟨[iCall], iFin⟩
def iB1 : Block := ⟨[iInc], iFin⟩
def iG0 : Graph := ⟨(⟨#[]⟩ : ByteArray), false, true, [iB0]⟩
def iG1 : Graph := ⟨(⟨#[]⟩ : ByteArray), false, false, [iB1]⟩
theorem iOf0 : ofList [iB0] = [1] := by
  unfold ofList
  rw [show blocksCalls [iB0] = [1] from by decide, sorted_one, compact_one]
theorem iOf1 : ofList [iB1] = [] := by
  unfold ofList
  rw [show blocksCalls [iB1] = [] from by decide, sorted_nil, compact_nil]
theorem iOk : GsOk [iG0, iG1] := by
  refine ⟨by decide, fun g hg => ?_⟩
  simp at hg
  rcases hg with rfl | rfl
  · refine ⟨by decide, ?_⟩
    rw [show iG0.blocks = [iB0] from rfl, iOf0]
    simp
  · refine ⟨by decide, ?_⟩
    rw [show iG1.blocks = [iB1] from rfl, iOf1]
    simp
theorem iSmall : smallB [iB1] = true := by
  unfold smallB leafB
  simp only [iOf1]
  decide
def iX0 : Graph := ⟨(⟨#[]⟩ : ByteArray), false, true, [iB1]⟩
def iT0 : Graph := ⟨(⟨#[]⟩ : ByteArray), false, true, [⟨[], tailTerm 1⟩]⟩
theorem iLeaves : [iG0, iG1].map (leavesG [iG0, iG1]) = [iX0, iG1] := by
  have e0 : inlOps [iG0, iG1] iCall = [iInc] := by
    rw [inlOps_at (h := iG1) (by decide) (by decide), show iG1.blocks = [iB1] from rfl, iSmall]
    rfl
  have e1 : inlOps [iG0, iG1] iInc = [iInc] := inlOps_not (by decide)
  have e2 : leavesB [iG0, iG1] iB0 = iB1 := by
    unfold leavesB inlAll
    rw [show iB0.ops = [iCall] from rfl, List.flatMap_cons, e0]
    rfl
  have e3 : leavesB [iG0, iG1] iB1 = iB1 := by
    unfold leavesB inlAll
    rw [show iB1.ops = [iInc] from rfl, List.flatMap_cons, e1]
    rfl
  have e4 : leavesG [iG0, iG1] iG0 = iX0 := by
    unfold leavesG
    rw [eachG_eq, show iG0.blocks = [iB0] from rfl]
    show Graph.mk _ _ _ [eachB (leavesB [iG0, iG1]) iG0 iB0] = _
    unfold eachB
    rw [if_neg (by decide), e2]
    rfl
  have e5 : leavesG [iG0, iG1] iG1 = iG1 := by
    unfold leavesG
    rw [eachG_eq, show iG1.blocks = [iB1] from rfl]
    show Graph.mk _ _ _ [eachB (leavesB [iG0, iG1]) iG1 iB1] = _
    unfold eachB
    rw [if_neg (by decide), e3]
    rfl
  show [leavesG [iG0, iG1] iG0, leavesG [iG0, iG1] iG1] = _
  rw [e4, e5]
theorem iTails : [iG0, iG1].map tailsG = [iT0, iG1] := by decide

theorem awake23_mem (w : World) : ∃ W : World, W = ((((((((((w.alloc (.cells #[.int .i64 3, .int .i64 0, .int .i64 0, .int .i64 0, .int .i64 0, .int .i64 0, .int .i64 21, .int .i64 0, .int .i64 0, .int .i64 0, .int .i64 0] 37)).alloc (.cells #[.int .i64 20, .int .i64 0, .int .i64 0, .int .i64 0, .int .i64 0, .bool true, .int .i64 1, .int .i64 1, .int .i64 0] 56)).alloc (.cells #[.int .i64 8, .int .i64 1, .int .i64 1, .int .i64 0, .int .i64 1, .bool false, .int .i64 0, .int .i64 0, .int .i64 0] 56)).alloc (.cells #[.int .i64 20, .int .i64 0, .int .i64 0, .int .i64 0, .int .i64 0, .bool true, .int .i64 1, .int .i64 1, .int .i64 0] 56)).alloc (.cells #[.slice (some ⟨w.heap.size + 1 + 1 + 1, 0, none⟩) 1 1, .int .i64 3, .int .i64 0, .int .i64 0, .int .i64 0, .int .i64 0, .int .i64 0, .int .i64 21, .int .i64 0, .int .i64 0, .int .i64 0, .int .i64 0] 39)).alloc (.cells #[.string (⟨#[]⟩ : ByteArray), .bool false, .bool true, .slice (some ⟨w.heap.size + 1 + 1 + 1 + 1, 0, none⟩) 1 1] 24)).alloc (.cells #[.int .i64 8, .int .i64 1, .int .i64 1, .int .i64 0, .int .i64 1, .bool false, .int .i64 0, .int .i64 0, .int .i64 0] 56)).alloc (.cells #[.slice (some ⟨w.heap.size + 1 + 1 + 1 + 1 + 1 + 1, 0, none⟩) 1 1, .int .i64 3, .int .i64 0, .int .i64 0, .int .i64 0, .int .i64 0, .int .i64 0, .int .i64 21, .int .i64 0, .int .i64 0, .int .i64 0, .int .i64 0] 39)).alloc (.cells #[.string (⟨#[]⟩ : ByteArray), .bool false, .bool false, .slice (some ⟨w.heap.size + 1 + 1 + 1 + 1 + 1 + 1 + 1, 0, none⟩) 1 1] 24)).alloc (.cells #[.string (⟨#[]⟩ : ByteArray), .bool false, .bool true, .slice (some ⟨w.heap.size + 1 + 1 + 1 + 1, 0, none⟩) 1 1, .string (⟨#[]⟩ : ByteArray), .bool false, .bool false, .slice (some ⟨w.heap.size + 1 + 1 + 1 + 1 + 1 + 1 + 1, 0, none⟩) 1 1] 24)) ∧ Row W (w.heap.size + 1 + 1) 56 [.int .i64 8, .int .i64 1, .int .i64 1, .int .i64 0, .int .i64 1, .bool false, .int .i64 0, .int .i64 0, .int .i64 0] ∧ kOp.C W (some ⟨w.heap.size + 1 + 1 + 1, 0, none⟩) [iCall] ∧ kBlock.C W (some ⟨w.heap.size + 1 + 1 + 1 + 1, 0, none⟩) [iB0] ∧ Row W (w.heap.size + 1 + 1 + 1 + 1 + 1) 24 [.string (⟨#[]⟩ : ByteArray), .bool false, .bool true, .slice (some ⟨w.heap.size + 1 + 1 + 1 + 1, 0, none⟩) 1 1] ∧ kOp.C W (some ⟨w.heap.size + 1 + 1 + 1 + 1 + 1 + 1, 0, none⟩) [iInc] ∧ kBlock.C W (some ⟨w.heap.size + 1 + 1 + 1 + 1 + 1 + 1 + 1, 0, none⟩) [iB1] ∧ Row W (w.heap.size + 1 + 1 + 1 + 1 + 1 + 1 + 1 + 1) 24 [.string (⟨#[]⟩ : ByteArray), .bool false, .bool false, .slice (some ⟨w.heap.size + 1 + 1 + 1 + 1 + 1 + 1 + 1, 0, none⟩) 1 1] ∧ kGraph.C W (some ⟨w.heap.size + 1 + 1 + 1 + 1 + 1 + 1 + 1 + 1 + 1, 0, none⟩) [iG0, iG1] ∧ Below w.heap.size w W ∧ W.heap.size = w.heap.size + 1 + 1 + 1 + 1 + 1 + 1 + 1 + 1 + 1 + 1 := by
  have e1 : (w.alloc (.cells #[.int .i64 3, .int .i64 0, .int .i64 0, .int .i64 0, .int .i64 0, .int .i64 0, .int .i64 21, .int .i64 0, .int .i64 0, .int .i64 0, .int .i64 0] 37)).heap.size = w.heap.size + 1 := by simp
  have b1 := below_alloc' w (.cells #[.int .i64 3, .int .i64 0, .int .i64 0, .int .i64 0, .int .i64 0, .int .i64 0, .int .i64 21, .int .i64 0, .int .i64 0, .int .i64 0, .int .i64 0] 37)
  generalize (w.alloc (.cells #[.int .i64 3, .int .i64 0, .int .i64 0, .int .i64 0, .int .i64 0, .int .i64 0, .int .i64 21, .int .i64 0, .int .i64 0, .int .i64 0, .int .i64 0] 37)) = W1 at *
  have e2 : (W1.alloc (.cells #[.int .i64 20, .int .i64 0, .int .i64 0, .int .i64 0, .int .i64 0, .bool true, .int .i64 1, .int .i64 1, .int .i64 0] 56)).heap.size = w.heap.size + 1 + 1 := by simp [e1]
  have b2 := below_alloc' W1 (.cells #[.int .i64 20, .int .i64 0, .int .i64 0, .int .i64 0, .int .i64 0, .bool true, .int .i64 1, .int .i64 1, .int .i64 0] 56)
  generalize (W1.alloc (.cells #[.int .i64 20, .int .i64 0, .int .i64 0, .int .i64 0, .int .i64 0, .bool true, .int .i64 1, .int .i64 1, .int .i64 0] 56)) = W2 at *
  have e3 : (W2.alloc (.cells #[.int .i64 8, .int .i64 1, .int .i64 1, .int .i64 0, .int .i64 1, .bool false, .int .i64 0, .int .i64 0, .int .i64 0] 56)).heap.size = w.heap.size + 1 + 1 + 1 := by simp [e2]
  have b3 := below_alloc' W2 (.cells #[.int .i64 8, .int .i64 1, .int .i64 1, .int .i64 0, .int .i64 1, .bool false, .int .i64 0, .int .i64 0, .int .i64 0] 56)
  have r2 : Row (W2.alloc (.cells #[.int .i64 8, .int .i64 1, .int .i64 1, .int .i64 0, .int .i64 1, .bool false, .int .i64 0, .int .i64 0, .int .i64 0] 56)) (w.heap.size + 1 + 1) 56 [.int .i64 8, .int .i64 1, .int .i64 1, .int .i64 0, .int .i64 1, .bool false, .int .i64 0, .int .i64 0, .int .i64 0] := by have := Row.new W2 56 #[.int .i64 8, .int .i64 1, .int .i64 1, .int .i64 0, .int .i64 1, .bool false, .int .i64 0, .int .i64 0, .int .i64 0]; rw [e2] at this; exact this
  generalize (W2.alloc (.cells #[.int .i64 8, .int .i64 1, .int .i64 1, .int .i64 0, .int .i64 1, .bool false, .int .i64 0, .int .i64 0, .int .i64 0] 56)) = W3 at *
  have e4 : (W3.alloc (.cells #[.int .i64 20, .int .i64 0, .int .i64 0, .int .i64 0, .int .i64 0, .bool true, .int .i64 1, .int .i64 1, .int .i64 0] 56)).heap.size = w.heap.size + 1 + 1 + 1 + 1 := by simp [e3]
  have b4 := below_alloc' W3 (.cells #[.int .i64 20, .int .i64 0, .int .i64 0, .int .i64 0, .int .i64 0, .bool true, .int .i64 1, .int .i64 1, .int .i64 0] 56)
  have c3 : kOp.C (W3.alloc (.cells #[.int .i64 20, .int .i64 0, .int .i64 0, .int .i64 0, .int .i64 0, .bool true, .int .i64 1, .int .i64 1, .int .i64 0] 56)) (some ⟨w.heap.size + 1 + 1 + 1, 0, none⟩) [iCall] := by
    exact C_one kOp W3 _ e3.symm _ _ _ (kOp_mk W3 iCall (by unfold Op.wf; decide))
  replace r2 := r2.below b4
  generalize (W3.alloc (.cells #[.int .i64 20, .int .i64 0, .int .i64 0, .int .i64 0, .int .i64 0, .bool true, .int .i64 1, .int .i64 1, .int .i64 0] 56)) = W4 at *
  have e5 : (W4.alloc (.cells #[.slice (some ⟨w.heap.size + 1 + 1 + 1, 0, none⟩) 1 1, .int .i64 3, .int .i64 0, .int .i64 0, .int .i64 0, .int .i64 0, .int .i64 0, .int .i64 21, .int .i64 0, .int .i64 0, .int .i64 0, .int .i64 0] 39)).heap.size = w.heap.size + 1 + 1 + 1 + 1 + 1 := by simp [e4]
  have b5 := below_alloc' W4 (.cells #[.slice (some ⟨w.heap.size + 1 + 1 + 1, 0, none⟩) 1 1, .int .i64 3, .int .i64 0, .int .i64 0, .int .i64 0, .int .i64 0, .int .i64 0, .int .i64 21, .int .i64 0, .int .i64 0, .int .i64 0, .int .i64 0] 39)
  have c4 : kBlock.C (W4.alloc (.cells #[.slice (some ⟨w.heap.size + 1 + 1 + 1, 0, none⟩) 1 1, .int .i64 3, .int .i64 0, .int .i64 0, .int .i64 0, .int .i64 0, .int .i64 0, .int .i64 21, .int .i64 0, .int .i64 0, .int .i64 0, .int .i64 0] 39)) (some ⟨w.heap.size + 1 + 1 + 1 + 1, 0, none⟩) [iB0] := by
    exact C_one kBlock W4 _ e4.symm _ _ _ (kBlock_mk W4 iB0 (by unfold Block.wf; decide) (by decide) (by decide) c3)
  replace r2 := r2.below b5
  replace c3 := Kd.C_mono b5 c3
  generalize (W4.alloc (.cells #[.slice (some ⟨w.heap.size + 1 + 1 + 1, 0, none⟩) 1 1, .int .i64 3, .int .i64 0, .int .i64 0, .int .i64 0, .int .i64 0, .int .i64 0, .int .i64 21, .int .i64 0, .int .i64 0, .int .i64 0, .int .i64 0] 39)) = W5 at *
  have e6 : (W5.alloc (.cells #[.string (⟨#[]⟩ : ByteArray), .bool false, .bool true, .slice (some ⟨w.heap.size + 1 + 1 + 1 + 1, 0, none⟩) 1 1] 24)).heap.size = w.heap.size + 1 + 1 + 1 + 1 + 1 + 1 := by simp [e5]
  have b6 := below_alloc' W5 (.cells #[.string (⟨#[]⟩ : ByteArray), .bool false, .bool true, .slice (some ⟨w.heap.size + 1 + 1 + 1 + 1, 0, none⟩) 1 1] 24)
  have r5 : Row (W5.alloc (.cells #[.string (⟨#[]⟩ : ByteArray), .bool false, .bool true, .slice (some ⟨w.heap.size + 1 + 1 + 1 + 1, 0, none⟩) 1 1] 24)) (w.heap.size + 1 + 1 + 1 + 1 + 1) 24 [.string (⟨#[]⟩ : ByteArray), .bool false, .bool true, .slice (some ⟨w.heap.size + 1 + 1 + 1 + 1, 0, none⟩) 1 1] := by have := Row.new W5 24 #[.string (⟨#[]⟩ : ByteArray), .bool false, .bool true, .slice (some ⟨w.heap.size + 1 + 1 + 1 + 1, 0, none⟩) 1 1]; rw [e5] at this; exact this
  replace r2 := r2.below b6
  replace c3 := Kd.C_mono b6 c3
  replace c4 := Kd.C_mono b6 c4
  generalize (W5.alloc (.cells #[.string (⟨#[]⟩ : ByteArray), .bool false, .bool true, .slice (some ⟨w.heap.size + 1 + 1 + 1 + 1, 0, none⟩) 1 1] 24)) = W6 at *
  have e7 : (W6.alloc (.cells #[.int .i64 8, .int .i64 1, .int .i64 1, .int .i64 0, .int .i64 1, .bool false, .int .i64 0, .int .i64 0, .int .i64 0] 56)).heap.size = w.heap.size + 1 + 1 + 1 + 1 + 1 + 1 + 1 := by simp [e6]
  have b7 := below_alloc' W6 (.cells #[.int .i64 8, .int .i64 1, .int .i64 1, .int .i64 0, .int .i64 1, .bool false, .int .i64 0, .int .i64 0, .int .i64 0] 56)
  have c6 : kOp.C (W6.alloc (.cells #[.int .i64 8, .int .i64 1, .int .i64 1, .int .i64 0, .int .i64 1, .bool false, .int .i64 0, .int .i64 0, .int .i64 0] 56)) (some ⟨w.heap.size + 1 + 1 + 1 + 1 + 1 + 1, 0, none⟩) [iInc] := by
    exact C_one kOp W6 _ e6.symm _ _ _ (kOp_mk W6 iInc (by unfold Op.wf; decide))
  replace r2 := r2.below b7
  replace c3 := Kd.C_mono b7 c3
  replace c4 := Kd.C_mono b7 c4
  replace r5 := r5.below b7
  generalize (W6.alloc (.cells #[.int .i64 8, .int .i64 1, .int .i64 1, .int .i64 0, .int .i64 1, .bool false, .int .i64 0, .int .i64 0, .int .i64 0] 56)) = W7 at *
  have e8 : (W7.alloc (.cells #[.slice (some ⟨w.heap.size + 1 + 1 + 1 + 1 + 1 + 1, 0, none⟩) 1 1, .int .i64 3, .int .i64 0, .int .i64 0, .int .i64 0, .int .i64 0, .int .i64 0, .int .i64 21, .int .i64 0, .int .i64 0, .int .i64 0, .int .i64 0] 39)).heap.size = w.heap.size + 1 + 1 + 1 + 1 + 1 + 1 + 1 + 1 := by simp [e7]
  have b8 := below_alloc' W7 (.cells #[.slice (some ⟨w.heap.size + 1 + 1 + 1 + 1 + 1 + 1, 0, none⟩) 1 1, .int .i64 3, .int .i64 0, .int .i64 0, .int .i64 0, .int .i64 0, .int .i64 0, .int .i64 21, .int .i64 0, .int .i64 0, .int .i64 0, .int .i64 0] 39)
  have c7 : kBlock.C (W7.alloc (.cells #[.slice (some ⟨w.heap.size + 1 + 1 + 1 + 1 + 1 + 1, 0, none⟩) 1 1, .int .i64 3, .int .i64 0, .int .i64 0, .int .i64 0, .int .i64 0, .int .i64 0, .int .i64 21, .int .i64 0, .int .i64 0, .int .i64 0, .int .i64 0] 39)) (some ⟨w.heap.size + 1 + 1 + 1 + 1 + 1 + 1 + 1, 0, none⟩) [iB1] := by
    exact C_one kBlock W7 _ e7.symm _ _ _ (kBlock_mk W7 iB1 (by unfold Block.wf; decide) (by decide) (by decide) c6)
  replace r2 := r2.below b8
  replace c3 := Kd.C_mono b8 c3
  replace c4 := Kd.C_mono b8 c4
  replace r5 := r5.below b8
  replace c6 := Kd.C_mono b8 c6
  generalize (W7.alloc (.cells #[.slice (some ⟨w.heap.size + 1 + 1 + 1 + 1 + 1 + 1, 0, none⟩) 1 1, .int .i64 3, .int .i64 0, .int .i64 0, .int .i64 0, .int .i64 0, .int .i64 0, .int .i64 21, .int .i64 0, .int .i64 0, .int .i64 0, .int .i64 0] 39)) = W8 at *
  have e9 : (W8.alloc (.cells #[.string (⟨#[]⟩ : ByteArray), .bool false, .bool false, .slice (some ⟨w.heap.size + 1 + 1 + 1 + 1 + 1 + 1 + 1, 0, none⟩) 1 1] 24)).heap.size = w.heap.size + 1 + 1 + 1 + 1 + 1 + 1 + 1 + 1 + 1 := by simp [e8]
  have b9 := below_alloc' W8 (.cells #[.string (⟨#[]⟩ : ByteArray), .bool false, .bool false, .slice (some ⟨w.heap.size + 1 + 1 + 1 + 1 + 1 + 1 + 1, 0, none⟩) 1 1] 24)
  have r8 : Row (W8.alloc (.cells #[.string (⟨#[]⟩ : ByteArray), .bool false, .bool false, .slice (some ⟨w.heap.size + 1 + 1 + 1 + 1 + 1 + 1 + 1, 0, none⟩) 1 1] 24)) (w.heap.size + 1 + 1 + 1 + 1 + 1 + 1 + 1 + 1) 24 [.string (⟨#[]⟩ : ByteArray), .bool false, .bool false, .slice (some ⟨w.heap.size + 1 + 1 + 1 + 1 + 1 + 1 + 1, 0, none⟩) 1 1] := by have := Row.new W8 24 #[.string (⟨#[]⟩ : ByteArray), .bool false, .bool false, .slice (some ⟨w.heap.size + 1 + 1 + 1 + 1 + 1 + 1 + 1, 0, none⟩) 1 1]; rw [e8] at this; exact this
  replace r2 := r2.below b9
  replace c3 := Kd.C_mono b9 c3
  replace c4 := Kd.C_mono b9 c4
  replace r5 := r5.below b9
  replace c6 := Kd.C_mono b9 c6
  replace c7 := Kd.C_mono b9 c7
  generalize (W8.alloc (.cells #[.string (⟨#[]⟩ : ByteArray), .bool false, .bool false, .slice (some ⟨w.heap.size + 1 + 1 + 1 + 1 + 1 + 1 + 1, 0, none⟩) 1 1] 24)) = W9 at *
  have e10 : (W9.alloc (.cells #[.string (⟨#[]⟩ : ByteArray), .bool false, .bool true, .slice (some ⟨w.heap.size + 1 + 1 + 1 + 1, 0, none⟩) 1 1, .string (⟨#[]⟩ : ByteArray), .bool false, .bool false, .slice (some ⟨w.heap.size + 1 + 1 + 1 + 1 + 1 + 1 + 1, 0, none⟩) 1 1] 24)).heap.size = w.heap.size + 1 + 1 + 1 + 1 + 1 + 1 + 1 + 1 + 1 + 1 := by simp [e9]
  have b10 := below_alloc' W9 (.cells #[.string (⟨#[]⟩ : ByteArray), .bool false, .bool true, .slice (some ⟨w.heap.size + 1 + 1 + 1 + 1, 0, none⟩) 1 1, .string (⟨#[]⟩ : ByteArray), .bool false, .bool false, .slice (some ⟨w.heap.size + 1 + 1 + 1 + 1 + 1 + 1 + 1, 0, none⟩) 1 1] 24)
  have c9 : kGraph.C (W9.alloc (.cells #[.string (⟨#[]⟩ : ByteArray), .bool false, .bool true, .slice (some ⟨w.heap.size + 1 + 1 + 1 + 1, 0, none⟩) 1 1, .string (⟨#[]⟩ : ByteArray), .bool false, .bool false, .slice (some ⟨w.heap.size + 1 + 1 + 1 + 1 + 1 + 1 + 1, 0, none⟩) 1 1] 24)) (some ⟨w.heap.size + 1 + 1 + 1 + 1 + 1 + 1 + 1 + 1 + 1, 0, none⟩) [iG0, iG1] := by
    refine C_lit kGraph W9 _ e9.symm _ [iG0, iG1] [[.string (⟨#[]⟩ : ByteArray), .bool false, .bool true, .slice (some ⟨w.heap.size + 1 + 1 + 1 + 1, 0, none⟩) 1 1], [.string (⟨#[]⟩ : ByteArray), .bool false, .bool false, .slice (some ⟨w.heap.size + 1 + 1 + 1 + 1 + 1 + 1 + 1, 0, none⟩) 1 1]] _ rfl rfl ?_
    intro i x cs hx hc
    match i with
    | 0 => simp at hx hc; subst hx hc; exact kGraph_mk W9 iG0 (c0 := 1) (by unfold Graph.wf maxLen; decide) (by decide) (by decide) c4
    | 1 => simp at hx hc; subst hx hc; exact kGraph_mk W9 iG1 (c0 := 1) (by unfold Graph.wf maxLen; decide) (by decide) (by decide) c7
    | i + 2 => simp at hx
  replace r2 := r2.below b10
  replace c3 := Kd.C_mono b10 c3
  replace c4 := Kd.C_mono b10 c4
  replace r5 := r5.below b10
  replace c6 := Kd.C_mono b10 c6
  replace c7 := Kd.C_mono b10 c7
  replace r8 := r8.below b10
  generalize (W9.alloc (.cells #[.string (⟨#[]⟩ : ByteArray), .bool false, .bool true, .slice (some ⟨w.heap.size + 1 + 1 + 1 + 1, 0, none⟩) 1 1, .string (⟨#[]⟩ : ByteArray), .bool false, .bool false, .slice (some ⟨w.heap.size + 1 + 1 + 1 + 1 + 1 + 1 + 1, 0, none⟩) 1 1] 24)) = W10 at *
  exact ⟨_, rfl, r2, c3, c4, r5, c6, c7, r8, c9, (b1.trans ((b2.trans ((b3.trans ((b4.trans ((b5.trans ((b6.trans ((b7.trans ((b8.trans ((b9.trans (b10.mono b9.size)).mono b8.size)).mono b7.size)).mono b6.size)).mono b5.size)).mono b4.size)).mono b3.size)).mono b2.size)).mono b1.size)), e10⟩
end Go.Proofs.Ytokkngfgppikkab
