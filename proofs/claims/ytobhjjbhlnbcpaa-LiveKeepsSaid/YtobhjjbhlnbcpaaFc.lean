/- Instructions, blocks and graphs that own their memory. -/
import Derived.Test.YtobhjjbhlnbcpaaFb
namespace Go.Proofs.Ytobhjjbhlnbcpaa
set_option linter.unusedVariables false
set_option linter.unusedSimpArgs false
open Go.RowKit

def oOp : Od Op := Od.flat kOp kOp_any
def finCells (t : Term) : List Value := [.int .i64 t.kind, .int .i64 t.op, .int .i64 t.a, .int .i64 t.b, .int .i64 t.to, .int .i64 t.els, .int .i64 t.ins.op, .int .i64 t.ins.a, .int .i64 t.ins.b, .int .i64 t.ins.c, .int .i64 t.ins.imm]
def blockCells (v : Value) (b : Block) : List Value := v :: finCells b.fin
def oBlock : Od Block where
  kd := kBlock
  O := fun w b cs F => ∃ v, cs = blockCells v b ∧ b.wf ∧ OwnF oOp 45 w v b.ops F
  rd := by
    rintro w x cs F ⟨v, rfl, hwf, ho⟩ S hS
    obtain ⟨A, c, rfl, l, m, hC⟩ := ho.readS hS
    exact kBlock_mk _ x hwf l m hC
  lt := fun ⟨v, _, _, ho⟩ => ho.lt
  keep := fun ⟨v, e, hw, ho⟩ hb => ⟨v, e, hw, ho.keep hb⟩
def graphCells (v : Value) (g : Graph) : List Value := [.string g.name, .bool g.keep, .bool g.leaf, v]
def oGraph : Od Graph where
  kd := kGraph
  O := fun w g cs F => ∃ v, cs = graphCells v g ∧ g.wf ∧ OwnF oBlock 43 w v g.blocks F
  rd := by
    rintro w x cs F ⟨v, rfl, hwf, ho⟩ S hS
    obtain ⟨A, c, rfl, l, m, hC⟩ := ho.readS hS
    exact kGraph_mk _ x hwf l m hC
  lt := fun ⟨v, _, _, ho⟩ => ho.lt
  keep := fun ⟨v, e, hw, ho⟩ hb => ⟨v, e, hw, ho.keep hb⟩
end Go.Proofs.Ytobhjjbhlnbcpaa
