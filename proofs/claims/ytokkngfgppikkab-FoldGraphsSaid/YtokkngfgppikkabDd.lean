/- Layer 23 (inline): all graphs made anew, block by block. -/
import Derived.Test.YtokkngfgppikkabDc
import Derived.Test.YtokkngfgppikkabGd
import Derived.Deep.RegionHeld3
namespace Go.Proofs.Ytokkngfgppikkab
set_option linter.unusedVariables false
set_option linter.unusedSimpArgs false
open Go.RowKit

/-- A function value that makes a block out of a block. -/
def BFn (K : Nat) (caps : Array Value) (w0 : World) (ok : Block → Prop) (f : Block → Block) : Prop :=
  ∀ (w : World) (b : Block) (A0 : Option Addr) (c0 : Nat) (F0 : Nat → Prop), Below w0.heap.size w0 w → ok b → OwnF oOp 56 w (.slice A0 b.ops.length c0) b.ops F0 →
    Calls Try.prog K (#[.agg #[.slice A0 b.ops.length c0, .int .i64 b.fin.kind, .int .i64 b.fin.op, .int .i64 b.fin.a, .int .i64 b.fin.b, .int .i64 b.fin.to, .int .i64 b.fin.els, .int .i64 b.fin.ins.op, .int .i64 b.fin.ins.a, .int .i64 b.fin.ins.b, .int .i64 b.fin.ins.c, .int .i64 b.fin.ins.imm]] ++ caps) w (MadeB w F0 (f b))
def GOk (ok : Block → Prop) (gs : List Graph) : Prop := gs.length ≤ 61 ∧ ∀ g ∈ gs, g.blocks.length ≤ 200 ∧ ∀ b ∈ g.blocks, ok b ∧ b.ops.length ≤ 300

end Go.Proofs.Ytokkngfgppikkab
