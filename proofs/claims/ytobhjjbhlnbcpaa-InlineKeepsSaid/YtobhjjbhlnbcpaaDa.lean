/- Layer 23 (inline): called, Lying; the library's Clone of instructions. -/
import Derived.Test.YtobhjjbhlnbcpaaPj
import Derived.Test.YtobhjjbhlnbcpaaFd
import Derived.WalkSpells
namespace Go.Proofs.Ytobhjjbhlnbcpaa
set_option linter.unusedVariables false
set_option linter.unusedSimpArgs false
open Go.RowKit

set_option maxHeartbeats 1000000 in
set_option maxRecDepth 100000 in
theorem called_calls (op a b c imm : Int) (rel : Bool) (kind too add : Int) (w : World) : Calls Try.prog 40 #[.agg #[.int .i64 op, .int .i64 a, .int .i64 b, .int .i64 c, .int .i64 imm, .bool rel, .int .i64 kind, .int .i64 too, .int .i64 add]] w fun e w' => e = .returned (.int .i64 (calledI ⟨⟨op, a, b, c, imm⟩, rel, kind, too, add⟩)) ∧ Below w.heap.size w w' := by
  go_enter Try.func40, Try.ntmps40
  cases rel with
  | false =>
    go_wp2
    go_ret
    exact ⟨ret_int (by simp [calledI]), (Below.refl _ _).alloc (Nat.le_refl _) _⟩
  | true =>
    go_wp2
    all_goals (go_ret; refine ⟨ret_int ?_, (Below.refl _ _).alloc (Nat.le_refl _) _⟩; simp_all [calledI])
theorem called_op (o : Op) (w : World) : Calls Try.prog 40 #[.agg #[.int .i64 o.ins.op, .int .i64 o.ins.a, .int .i64 o.ins.b, .int .i64 o.ins.c, .int .i64 o.ins.imm, .bool o.rel, .int .i64 o.kind, .int .i64 o.to, .int .i64 o.add]] w fun e w' => e = .returned (.int .i64 (calledI o)) ∧ Below w.heap.size w w' := called_calls _ _ _ _ _ _ _ _ _ _
set_option maxHeartbeats 1000000 in
set_option maxRecDepth 100000 in
theorem lying_calls (nm : ByteArray) (kp lf : Bool) (A : Option Addr) (c : Nat) (bs : List Block) (w : World) (hC : kBlock.C w A bs) (hl : bs.length ≤ maxLen) (hf : blocksFew bs = true) : Calls Try.prog 13 #[.agg #[.string nm, .bool kp, .bool lf, .slice A bs.length c]] w fun e w' => e = .returned (.bool (lf && !leafB bs)) ∧ Below w.heap.size w w' := by
  have hb0 : Below w.heap.size w (w.alloc (.cells #[.string nm, .bool kp, .bool lf, .slice A bs.length c] 28)) := (Below.refl _ _).alloc (Nat.le_refl _) _
  have hC0 := Kd.C_mono hb0 hC
  have HF := Lib.hid hf
  clear hf
  cases lf with
  | false =>
    go_enter Try.func13, Try.ntmps13
    go_wp2_with fail
    go_ret
    exact ⟨rfl, hb0⟩
  | true =>
    go_enter Try.func13, Try.ntmps13
    go_wp2_with fail
    refine (leaf_calls _ _ _ _ _ _ _ hC0 hl HF.out).mono ?_
    rintro e w1 ⟨rfl, hb1⟩
    go_wp2_with fail
    go_ret
    exact ⟨by simp, hb0.trans (hb1.mono (by simp))⟩

/-- Instructions of the call's own. -/
def OwnOps (w : World) (e : Ending) (w' : World) (os : List Op) : Prop :=
  ∃ A c F, e = .returned (.slice A os.length c) ∧ OwnF oOp 45 w' (.slice A os.length c) os F ∧ (∀ b, F b → w.heap.size ≤ b) ∧ Below w.heap.size w w'
set_option maxHeartbeats 1000000 in
set_option maxRecDepth 100000 in
theorem clone_calls (A : Option Addr) (c : Nat) (os : List Op) (w : World) (hC : kOp.C w A os) (hl : os.length ≤ 10000000) : Calls Try.prog 54 #[.slice A os.length c] w fun e w' => OwnOps w e w' os := by
  cases A with
  | none =>
    have hys : os = [] := by
      cases os with
      | nil => rfl
      | cons y r =>
        obtain ⟨ad, cs, e, _⟩ := hC 0 y rfl
        cases e
    subst hys
    have hnil : ∀ (W : World) (n : Nat), (binOp .eql 37 (.slice none n c) (.slice none 0 0)).run Try.prog W = .ok (.bool true) W := fun W n => Lib.run_eql_slice_nil W 37 45 none n c 0 0 Try.underlying37
    go_enter Try.func54, Try.ntmps54
    go_wp2
    go_ret
    exact ⟨none, 0, _, rfl, OwnF.nil _ _ _, fun _ h => h.elim, Below.refl _ _⟩
  | some ad =>
    have hnil : ∀ (W : World) (n : Nat), (binOp .eql 37 (.slice (some ad) n c) (.slice none 0 0)).run Try.prog W = .ok (.bool false) W := fun W n => Lib.run_eql_slice_nil W 37 45 (some ad) n c 0 0 Try.underlying37
    go_enter Try.func54, Try.ntmps54
    have hb1 := below_alloc' w (.cells #[] 45)
    have hC1 := Kd.C_mono hb1 hC
    go_wp2_with (at_builtin; refine wpList_append_f (k := oOp) elOp rfl _ _ rfl (OwnF.empty oOp 45 w) (YF.flat hC1) (fun _ _ h => h) rfl rfl (by simp; omega) ?_; intro v2 w2 hg2)
    obtain ⟨⟨F2, own2, hF2⟩, hgr2⟩ := hg2
    rw [List.nil_append] at own2
    obtain ⟨A2, c2, rfl, l2, m2, -⟩ := own2.read
    go_ret
    exact ⟨A2, c2, F2, rfl, own2, fun b hb => by (rcases hF2 b hb with h | h | h; exact Nat.le_of_eq h.symm; exact h.elim; exact Nat.le_trans hb1.size h), hb1.grown hgr2 hb1.size (fun j hj => by (injection hj with hj; subst hj; exact Nat.le_refl _))⟩
end Go.Proofs.Ytobhjjbhlnbcpaa
