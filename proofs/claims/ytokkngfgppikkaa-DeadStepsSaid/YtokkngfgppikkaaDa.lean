/- Layer 23 (inline): called, Lying; the library's Clone of instructions. -/
import Derived.Test.YtokkngfgppikkaaGc
import Derived.WalkSpells
namespace Go.Proofs.Ytokkngfgppikkaa
set_option linter.unusedVariables false
set_option linter.unusedSimpArgs false
open Go.RowKit

/-- Instructions of the call's own. -/
def OwnOps (w : World) (e : Ending) (w' : World) (os : List Op) : Prop :=
  ∃ A c F, e = .returned (.slice A os.length c) ∧ OwnF oOp 44 w' (.slice A os.length c) os F ∧ (∀ b, F b → w.heap.size ≤ b) ∧ Below w.heap.size w w'
set_option maxHeartbeats 1000000 in
set_option maxRecDepth 100000 in
theorem clone_calls (A : Option Addr) (c : Nat) (os : List Op) (w : World) (hC : kOp.C w A os) (hl : os.length ≤ 10000000) : Calls Try.prog 90 #[.slice A os.length c] w fun e w' => OwnOps w e w' os := by
  cases A with
  | none =>
    have hys : os = [] := by
      cases os with
      | nil => rfl
      | cons y r =>
        obtain ⟨ad, cs, e, _⟩ := hC 0 y rfl
        cases e
    subst hys
    have hnil : ∀ (W : World) (n : Nat), (binOp .eql 36 (.slice none n c) (.slice none 0 0)).run Try.prog W = .ok (.bool true) W := fun W n => Lib.run_eql_slice_nil W 36 44 none n c 0 0 Try.underlying36
    go_enter Try.func90, Try.ntmps90
    go_wp2
    go_ret
    exact ⟨none, 0, _, rfl, OwnF.nil _ _ _, fun _ h => h.elim, Below.refl _ _⟩
  | some ad =>
    have hnil : ∀ (W : World) (n : Nat), (binOp .eql 36 (.slice (some ad) n c) (.slice none 0 0)).run Try.prog W = .ok (.bool false) W := fun W n => Lib.run_eql_slice_nil W 36 44 (some ad) n c 0 0 Try.underlying36
    go_enter Try.func90, Try.ntmps90
    have hb1 := below_alloc' w (.cells #[] 44)
    have hC1 := Kd.C_mono hb1 hC
    go_wp2_with (at_builtin; refine wpList_append_f (k := oOp) elOp rfl _ _ rfl (OwnF.empty oOp 44 w) (YF.flat hC1) (fun _ _ h => h) rfl rfl (by simp; omega) ?_; intro v2 w2 hg2)
    obtain ⟨⟨F2, own2, hF2⟩, hgr2⟩ := hg2
    rw [List.nil_append] at own2
    obtain ⟨A2, c2, rfl, l2, m2, -⟩ := own2.read
    go_ret
    exact ⟨A2, c2, F2, rfl, own2, fun b hb => by (rcases hF2 b hb with h | h | h; exact Nat.le_of_eq h.symm; exact h.elim; exact Nat.le_trans hb1.size h), hb1.grown hgr2 hb1.size (fun j hj => by (injection hj with hj; subst hj; exact Nat.le_refl _))⟩
end Go.Proofs.Ytokkngfgppikkaa
