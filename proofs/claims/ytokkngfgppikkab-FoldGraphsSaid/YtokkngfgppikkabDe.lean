/- Layer 23 (inline): Leaves and Tails. -/
import Derived.Test.YtokkngfgppikkabDd
import Derived.Laws.EntriesVeiled
import Derived.WalkArith
namespace Go.Proofs.Ytokkngfgppikkab
set_option linter.unusedVariables false
set_option linter.unusedSimpArgs false
open Go.RowKit

def okB (gs : List Graph) (b : Block) : Prop := ∃ g ∈ gs, b ∈ g.blocks
theorem okB_parts {gs : List Graph} (hok : GsOk gs) {b : Block} (h : okB gs b) : b.ops.length ≤ 300 ∧ ∀ o ∈ b.ops, calledI o < gs.length := by
  obtain ⟨g, hg, hb⟩ := h
  exact ⟨(blocksFew_parts (hok.2 g hg).1).2 b hb, fun o ho => calledI_lt hok hg hb ho⟩
theorem gok_of {gs : List Graph} (hok : GsOk gs) : GOk (okB gs) gs :=
  ⟨hok.1, fun g hg => ⟨(blocksFew_parts (hok.2 g hg).1).1, fun b hb => ⟨⟨g, hg, hb⟩, (blocksFew_parts (hok.2 g hg).1).2 b hb⟩⟩⟩
theorem own_ops_read {w : World} {A : Option Addr} {c : Nat} {os : List Op} {F : Nat → Prop} (h : OwnF oOp 56 w (.slice A os.length c) os F) : kOp.C w A os := by
  obtain ⟨A', c', e, -, -, hC⟩ := h.read
  injection e with e1 e2 e3
  rw [e1]
  exact hC
theorem Wf64 {n : Int} (h : -9223372036854775808 ≤ n ∧ n ≤ 9223372036854775807) : (Lit.int .i64 n).wf = true := by
  have h1 : IntKind.i64.min = -9223372036854775808 := by decide
  have h2 : IntKind.i64.max = 9223372036854775807 := by decide
  simp [Lit.wf, h1, h2, h.1, h.2]
theorem tailTerm_wf {b : Block} (h : b.wf) {n : Int} (h0 : 0 ≤ n) (h1 : n ≤ 1000) {os : List Op} : (⟨os, tailTerm n⟩ : Block).wf := by
  unfold Block.wf tailTerm Ins.zero
  have z : (Lit.int .i64 0).wf = true := Wf64 (by omega)
  have z4 : (Lit.int .i64 4).wf = true := Wf64 (by omega)
  have zn : (Lit.int .i64 n).wf = true := Wf64 (by omega)
  exact ⟨z4, z, z, z, zn, z, z, z, z, z, z⟩

end Go.Proofs.Ytokkngfgppikkab
