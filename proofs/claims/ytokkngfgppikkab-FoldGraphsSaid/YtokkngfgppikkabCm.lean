/- calls.Small, the document's Small. -/
import Derived.Test.YtokkngfgppikkabGc
namespace Go.Proofs.Ytokkngfgppikkab
set_option linter.unusedVariables false
set_option linter.unusedSimpArgs false
open Go.RowKit

theorem add_zero12 (ad : Addr) : ad.add (0 * 12) = ad := by simp [Addr.add]
theorem head_at {w : World} {A : Option Addr} {b : Block} (h : kBlock.C w A [b]) : ∃ ad A0 c0, A = some ad ∧ w.cell? ad = some (.slice A0 b.ops.length c0) ∧ w.cell? ⟨ad.block, ad.off + 1, none⟩ = some (.int .i64 b.fin.kind) ∧ w.cell? ⟨ad.block, ad.off + 2, none⟩ = some (.int .i64 b.fin.op) ∧ w.cell? ⟨ad.block, ad.off + 3, none⟩ = some (.int .i64 b.fin.a) ∧ w.cell? ⟨ad.block, ad.off + 4, none⟩ = some (.int .i64 b.fin.b) ∧ w.cell? ⟨ad.block, ad.off + 5, none⟩ = some (.int .i64 b.fin.to) ∧ w.cell? ⟨ad.block, ad.off + 6, none⟩ = some (.int .i64 b.fin.els) ∧ w.cell? ⟨ad.block, ad.off + 7, none⟩ = some (.int .i64 b.fin.ins.op) ∧ w.cell? ⟨ad.block, ad.off + 8, none⟩ = some (.int .i64 b.fin.ins.a) ∧ w.cell? ⟨ad.block, ad.off + 9, none⟩ = some (.int .i64 b.fin.ins.b) ∧ w.cell? ⟨ad.block, ad.off + 10, none⟩ = some (.int .i64 b.fin.ins.c) ∧ w.cell? ⟨ad.block, ad.off + 11, none⟩ = some (.int .i64 b.fin.ins.imm) ∧ b.ops.length ≤ c0 ∧ c0 ≤ maxLen := by
  obtain ⟨ad, A0, c0, e, f0, f1, f2, f3, f4, f5, f6, f7, f8, f9, f10, f11, -, l0, m0, g0⟩ := Block_at h (i := 0) rfl
  rw [add_zero12] at f0 f1 f2 f3 f4 f5 f6 f7 f8 f9 f10 f11
  exact ⟨ad, A0, c0, e, f0, f1, f2, f3, f4, f5, f6, f7, f8, f9, f10, f11, l0, m0⟩

end Go.Proofs.Ytokkngfgppikkab
