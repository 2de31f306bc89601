/- The document's answers for instructions and graphs, as plain functions: which are right, their kinds, what they write and read. -/
import Derived.Test.YtobhjjbhlnbcpaaWb
namespace Go.Proofs.Ytobhjjbhlnbcpaa
set_option linter.unusedVariables false
set_option linter.unusedSimpArgs false

def three (op : Int) : Bool := decide (1 ≤ op ∧ op ≤ 7)
def reg (n : Int) : Bool := decide (0 ≤ n ∧ n ≤ 15)
def near (op : Int) : Bool := op == 8 || decide (11 ≤ op ∧ op ≤ 14)
def branch (op : Int) : Bool := decide (15 ≤ op ∧ op ≤ 18)
def far (op : Int) : Bool := op == 19 || op == 20
def one (op : Int) : Bool := op == 0 || op == 22 || op == 23
def Ins.right (i : Ins) : Bool :=
  if three i.op then reg i.a && reg i.b && reg i.c && i.imm == 0 else
  if i.c ≠ 0 then false else
  if near i.op then reg i.a && reg i.b && decide (-32768 ≤ i.imm) && decide (i.imm ≤ 32767) else
  if i.op = 10 then reg i.a && reg i.b && decide (0 ≤ i.imm) && decide (i.imm ≤ 65535) else
  if branch i.op then reg i.a && reg i.b && decide (-128 ≤ i.imm) && decide (i.imm ≤ 127) else
  if i.b ≠ 0 then false else
  if i.op = 9 then reg i.a && decide (0 ≤ i.imm) && decide (i.imm ≤ 65535) else
  if one i.op then reg i.a && i.imm == 0 else
  if far i.op then i.a == 0 && decide (-8388608 ≤ i.imm) && decide (i.imm ≤ 8388607) else
  (i.op == 21 || i.op == 24 || i.op == 25) && i.a == 0 && i.imm == 0
def kindOf (op : Int) : Int := ([5, 0, 0, 0, 0, 0, 0, 0, 0, 0, 0, 1, 1, 1, 1, 2, 2, 2, 2, 3, 4, 5, 1, 1, 0, 5] : List Int).getD op.toNat 0
def Ins.kind (i : Ins) : Int := kindOf i.op

theorem Ins.right_op {i : Ins} (h : i.right = true) : 0 ≤ i.op ∧ i.op < 26 := by
  unfold Ins.right three near branch far one at h
  repeat' split at h
  all_goals simp_all
  all_goals omega

def Op.right (o : Op) (funcs datas : Int) : Bool :=
  if !o.ins.right then false else
  if !o.rel then decide (o.ins.kind ≤ 1) && o.kind == 0 && o.to == 0 && o.add == 0 else
  if o.ins.imm ≠ 0 ∨ o.to < 0 then false else
  if o.ins.kind = 4 then o.kind == 1 && decide (o.to < funcs) && o.add == 0 else
  (o.kind == 2 && o.ins.op == 9 || o.kind == 3 && o.ins.op == 10) && decide (o.to < datas) && decide (-1048576 ≤ o.add) && decide (o.add ≤ 1048576)

def Term.none (t : Term) : Bool := t.op == 0 && t.a == 0 && t.b == 0 && t.els == 0
def Term.right (t : Term) (blocks funcs : Int) : Bool :=
  if t.kind = 1 then t.none && t.ins == Ins.zero && decide (0 ≤ t.to) && decide (t.to < blocks) else
  if t.kind = 4 then t.none && t.ins == Ins.zero && decide (0 ≤ t.to) && decide (t.to < funcs) else
  if t.kind = 3 then t.none && t.to == 0 && t.ins.right && t.ins.kind == 5 else
  t.kind == 2 && t.ins == Ins.zero && decide (15 ≤ t.op) && decide (t.op ≤ 18) && decide (0 ≤ t.a) && decide (t.a < 16) && decide (0 ≤ t.b) && decide (t.b < 16) && decide (0 ≤ t.to) && decide (t.to < blocks) && decide (0 ≤ t.els) && decide (t.els < blocks)

def Block.right (b : Block) (blocks funcs datas : Int) : Bool := b.ops.all (fun o => o.right funcs datas) && b.fin.right blocks funcs
def blocksRight (bs : List Block) (funcs datas : Int) : Bool := bs.all (fun b => b.right bs.length funcs datas) && decide (0 < bs.length)
def Graph.right (g : Graph) (funcs datas : Int) : Bool := blocksRight g.blocks funcs datas
def blocksFew (bs : List Block) : Bool := (bs.take 300).all (fun b => decide (b.ops.length ≤ 300)) && decide (bs.length ≤ 200)
def Graph.few (g : Graph) : Bool := blocksFew g.blocks
end Go.Proofs.Ytobhjjbhlnbcpaa
