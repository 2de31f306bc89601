/- Layer 18's awake: it answers true. -/
import Derived.Test.YtklhhdhokobbmaaCp
import Derived.Test.YtklhhdhokobbmaaCm
import Derived.Test.YtklhhdhokobbmaaPc
import Derived.Test.YtklhhdhokobbmaaWc
namespace Go.Proofs.Ytklhhdhokobbmaa
set_option linter.unusedVariables false
set_option linter.unusedSimpArgs false
open Go.RowKit

def aIns (op : Int) : Ins := ⟨op, 0, 0, 0, 0⟩
def aFin : Term := ⟨3, 0, 0, 0, 0, 0, aIns 21⟩
def aOp : Op := ⟨aIns 20, true, 1, 2, 0⟩
def aB0 : Block := ⟨[aOp], aFin⟩
def aB1 : Block := ⟨[], aFin⟩
def aG0 : Graph := ⟨(⟨#[]⟩ : ByteArray), false, false, [aB0]⟩
def aG1 : Graph := ⟨(⟨#[]⟩ : ByteArray), false, false, [aB1]⟩
theorem aOf0 : ofList [aB0] = [2] := by
  unfold ofList
  rw [show blocksCalls [aB0] = [2] from by decide, sorted_one, compact_one]
theorem aOf1 : ofList [aB1] = [] := by
  unfold ofList
  rw [show blocksCalls [aB1] = [] from by decide, sorted_nil, compact_nil]
theorem aOk : GsOk [aG0, aG1, aG1] := by
  refine ⟨by decide, fun g hg => ?_⟩
  simp at hg
  rcases hg with rfl | rfl
  · refine ⟨by decide, ?_⟩
    rw [show aG0.blocks = [aB0] from rfl, aOf0]
    simp
  · refine ⟨by decide, ?_⟩
    rw [show aG1.blocks = [aB1] from rfl, aOf1]
    simp
theorem aReach (x : Nat) : Reaches [aG0, aG1, aG1] 0 x ↔ x = 0 ∨ x = 2 := by
  constructor
  · intro h
    induction h with
    | refl => exact .inl rfl
    | step _ e ih =>
      obtain ⟨g, hg, hy⟩ := e
      rcases ih with rfl | rfl
      · simp at hg
        subst hg
        rw [show aG0.blocks = [aB0] from rfl, aOf0] at hy
        simp at hy
        omega
      · simp at hg
        subst hg
        rw [show aG1.blocks = [aB1] from rfl, aOf1] at hy
        simp at hy
  · rintro (rfl | rfl)
    · exact .refl
    · refine .step .refl ⟨aG0, rfl, ?_⟩
      rw [show aG0.blocks = [aB0] from rfl, aOf0]
      simp
theorem aList {ys : List Bool} (h : IsReach [aG0, aG1, aG1] 0 ys) : ys = [true, false, true] := by
  refine h.unique ⟨rfl, fun x => ?_⟩
  rw [aReach]
  unfold On
  match x with
  | 0 => simp
  | 1 => simp
  | 2 => simp
  | x + 3 => simp

def cFin : List Value := [.int .i64 3, .int .i64 0, .int .i64 0, .int .i64 0, .int .i64 0, .int .i64 0, .int .i64 21, .int .i64 0, .int .i64 0, .int .i64 0, .int .i64 0]
def oFin : Obj := .cells #[.int .i64 3, .int .i64 0, .int .i64 0, .int .i64 0, .int .i64 0, .int .i64 0, .int .i64 21, .int .i64 0, .int .i64 0, .int .i64 0, .int .i64 0] 43
def oOp : Obj := .cells #[.int .i64 20, .int .i64 0, .int .i64 0, .int .i64 0, .int .i64 0, .bool true, .int .i64 1, .int .i64 2, .int .i64 0] 54
def oB (v : Value) : Obj := .cells #[v, .int .i64 3, .int .i64 0, .int .i64 0, .int .i64 0, .int .i64 0, .int .i64 0, .int .i64 21, .int .i64 0, .int .i64 0, .int .i64 0, .int .i64 0] 46
def oG (v : Value) : Obj := .cells #[.string (⟨#[]⟩ : ByteArray), .bool false, .bool false, v] 29
def sl1 (b : Nat) : Value := .slice (some ⟨b, 0, none⟩) 1 1
def oGs (u v : Value) : Obj := .cells #[.string (⟨#[]⟩ : ByteArray), .bool false, .bool false, u, .string (⟨#[]⟩ : ByteArray), .bool false, .bool false, v, .string (⟨#[]⟩ : ByteArray), .bool false, .bool false, v] 29

theorem below_alloc (w : World) (o : Obj) : Below w.heap.size w (w.alloc o) := (Below.refl _ _).alloc (Nat.le_refl _) _
/-- What awake's memory tells. -/
theorem awake_mem (w : World) : ∃ W : World, W = ((((((w.alloc oFin).alloc oOp).alloc (oB (sl1 (w.heap.size + 1)))).alloc (oG (sl1 (w.heap.size + 1 + 1)))).alloc (oB (.slice none 0 0))).alloc (oG (sl1 (w.heap.size + 1 + 1 + 1 + 1)))).alloc (oGs (sl1 (w.heap.size + 1 + 1)) (sl1 (w.heap.size + 1 + 1 + 1 + 1))) ∧
    kGraph.C W (some ⟨w.heap.size + 1 + 1 + 1 + 1 + 1 + 1, 0, none⟩) [aG0, aG1, aG1] ∧ kBlock.C W (some ⟨w.heap.size + 1 + 1, 0, none⟩) [aB0] ∧ kBlock.C W (some ⟨w.heap.size + 1 + 1 + 1 + 1, 0, none⟩) [aB1] ∧
    G4 W (w.heap.size + 1 + 1 + 1) (⟨#[]⟩ : ByteArray) false false (sl1 (w.heap.size + 1 + 1)) ∧ G4 W (w.heap.size + 1 + 1 + 1 + 1 + 1) (⟨#[]⟩ : ByteArray) false false (sl1 (w.heap.size + 1 + 1 + 1 + 1)) ∧ Below w.heap.size w W ∧ W.heap.size = w.heap.size + 1 + 1 + 1 + 1 + 1 + 1 + 1 := by
  have e1 : (w.alloc oFin).heap.size = w.heap.size + 1 := by simp
  have b1 := below_alloc w oFin
  generalize w.alloc oFin = W1 at *
  have e2 : (W1.alloc oOp).heap.size = w.heap.size + 1 + 1 := by simp [e1]
  have b2 := below_alloc W1 oOp
  have c2 : kOp.C (W1.alloc oOp) (some ⟨w.heap.size + 1, 0, none⟩) [aOp] := C_one kOp W1 _ e1.symm _ _ _ (kOp_mk W1 aOp (by unfold Op.wf; decide))
  generalize W1.alloc oOp = W2 at *
  have e3 : (W2.alloc (oB (sl1 (w.heap.size + 1)))).heap.size = w.heap.size + 1 + 1 + 1 := by simp [e2]
  have b3 := below_alloc W2 (oB (sl1 (w.heap.size + 1)))
  have c3 : kBlock.C (W2.alloc (oB (sl1 (w.heap.size + 1)))) (some ⟨w.heap.size + 1 + 1, 0, none⟩) [aB0] := C_one kBlock W2 _ e2.symm _ _ _ (kBlock_mk W2 aB0 (by unfold Block.wf; decide) (by decide) (by decide) c2)
  generalize W2.alloc (oB (sl1 (w.heap.size + 1))) = W3 at *
  have e4 : (W3.alloc (oG (sl1 (w.heap.size + 1 + 1)))).heap.size = w.heap.size + 1 + 1 + 1 + 1 := by simp [e3]
  have b4 := below_alloc W3 (oG (sl1 (w.heap.size + 1 + 1)))
  have c4 : G4 (W3.alloc (oG (sl1 (w.heap.size + 1 + 1)))) (w.heap.size + 1 + 1 + 1) (⟨#[]⟩ : ByteArray) false false (sl1 (w.heap.size + 1 + 1)) := by
    rw [← e3]; exact ⟨by simp [oG], by simp [oG], by simp [oG], by simp [oG]⟩
  have c3' := Kd.C_mono b4 c3
  generalize W3.alloc (oG (sl1 (w.heap.size + 1 + 1))) = W4 at *
  have e5 : (W4.alloc (oB (.slice none 0 0))).heap.size = w.heap.size + 1 + 1 + 1 + 1 + 1 := by simp [e4]
  have b5 := below_alloc W4 (oB (.slice none 0 0))
  have c5 : kBlock.C (W4.alloc (oB (.slice none 0 0))) (some ⟨w.heap.size + 1 + 1 + 1 + 1, 0, none⟩) [aB1] := C_one kBlock W4 _ e4.symm _ _ _ (kBlock_mk W4 aB1 (by unfold Block.wf; decide) (by decide) (by decide) (C_nil kOp W4 none))
  have c3'' := Kd.C_mono b5 c3'
  have c4' := c4.below b5 (by omega)
  generalize W4.alloc (oB (.slice none 0 0)) = W5 at *
  have e6 : (W5.alloc (oG (sl1 (w.heap.size + 1 + 1 + 1 + 1)))).heap.size = w.heap.size + 1 + 1 + 1 + 1 + 1 + 1 := by simp [e5]
  have b6 := below_alloc W5 (oG (sl1 (w.heap.size + 1 + 1 + 1 + 1)))
  have c6 : G4 (W5.alloc (oG (sl1 (w.heap.size + 1 + 1 + 1 + 1)))) (w.heap.size + 1 + 1 + 1 + 1 + 1) (⟨#[]⟩ : ByteArray) false false (sl1 (w.heap.size + 1 + 1 + 1 + 1)) := by
    rw [← e5]; exact ⟨by simp [oG], by simp [oG], by simp [oG], by simp [oG]⟩
  have c3a := Kd.C_mono b6 c3''
  have c4a := c4'.below b6 (by omega)
  have c5a := Kd.C_mono b6 c5
  generalize W5.alloc (oG (sl1 (w.heap.size + 1 + 1 + 1 + 1))) = W6 at *
  have b7 := below_alloc W6 (oGs (sl1 (w.heap.size + 1 + 1)) (sl1 (w.heap.size + 1 + 1 + 1 + 1)))
  have e7 : (W6.alloc (oGs (sl1 (w.heap.size + 1 + 1)) (sl1 (w.heap.size + 1 + 1 + 1 + 1)))).heap.size = w.heap.size + 1 + 1 + 1 + 1 + 1 + 1 + 1 := by simp [e6]
  have c7 : kGraph.C (W6.alloc (oGs (sl1 (w.heap.size + 1 + 1)) (sl1 (w.heap.size + 1 + 1 + 1 + 1)))) (some ⟨w.heap.size + 1 + 1 + 1 + 1 + 1 + 1, 0, none⟩) [aG0, aG1, aG1] := by
    refine C_lit kGraph W6 _ e6.symm _ [aG0, aG1, aG1] [[.string (⟨#[]⟩ : ByteArray), .bool false, .bool false, sl1 (w.heap.size + 1 + 1)], [.string (⟨#[]⟩ : ByteArray), .bool false, .bool false, sl1 (w.heap.size + 1 + 1 + 1 + 1)], [.string (⟨#[]⟩ : ByteArray), .bool false, .bool false, sl1 (w.heap.size + 1 + 1 + 1 + 1)]] _ rfl rfl ?_
    intro i x cs hx hc
    have h0 := kGraph_mk W6 aG0 (c0 := 1) (by unfold Graph.wf maxLen; decide) (by decide) (by decide) c3a
    have h1 := kGraph_mk W6 aG1 (c0 := 1) (by unfold Graph.wf maxLen; decide) (by decide) (by decide) c5a
    match i with
    | 0 => simp at hx hc; subst hx hc; exact h0
    | 1 => simp at hx hc; subst hx hc; exact h1
    | 2 => simp at hx hc; subst hx hc; exact h1
    | i + 3 => simp at hx
  refine ⟨_, rfl, c7, Kd.C_mono b7 c3a, Kd.C_mono b7 c5a, c4a.below b7 (by omega), c6.below b7 (by omega), ?_, e7⟩
  exact b1.trans ((b2.trans ((b3.trans ((b4.trans ((b5.trans ((b6.trans (b7.mono b6.size)).mono b5.size)).mono b4.size)).mono b3.size)).mono b2.size)).mono b1.size)
end Go.Proofs.Ytklhhdhokobbmaa
