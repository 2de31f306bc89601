/- The program's struct types, as kinds. Printed by gentypes.py of this repository. -/
import Derived.Test.YtobhjjbhlnbcpaaWa
namespace Go.Proofs.Ytobhjjbhlnbcpaa
set_option linter.unusedVariables false
set_option linter.unusedSimpArgs false
open Go.RowKit

structure Ins where
  op : Int
  a : Int
  b : Int
  c : Int
  imm : Int
  deriving DecidableEq
def Ins.zero : Ins := ⟨0, 0, 0, 0, 0⟩
instance : Inhabited Ins := ⟨Ins.zero⟩
def kIns : Kd Ins := Kd.iso (Kd.pair (Kd.int .i64) (Kd.pair (Kd.int .i64) (Kd.pair (Kd.int .i64) (Kd.pair (Kd.int .i64) (Kd.int .i64))))) (fun x => (x.op, x.a, x.b, x.c, x.imm))
def Ins.wf (x : Ins) : Prop := (Lit.int .i64 x.op).wf = true ∧ (Lit.int .i64 x.a).wf = true ∧ (Lit.int .i64 x.b).wf = true ∧ (Lit.int .i64 x.c).wf = true ∧ (Lit.int .i64 x.imm).wf = true
theorem kIns_open {w : World} {x : Ins} {cs : List Value} (h : kIns.K w x cs) : cs = [.int .i64 x.op, .int .i64 x.a, .int .i64 x.b, .int .i64 x.c, .int .i64 x.imm] ∧ x.wf := by
  obtain ⟨_, _, rfl, ⟨rfl, h0⟩, ⟨_, _, rfl, ⟨rfl, h1⟩, ⟨_, _, rfl, ⟨rfl, h2⟩, ⟨_, _, rfl, ⟨rfl, h3⟩, ⟨rfl, h4⟩⟩⟩⟩⟩ := h
  exact ⟨rfl, ⟨h0, h1, h2, h3, h4⟩⟩
theorem kIns_mk (w : World) (x : Ins) (hw : x.wf) : kIns.K w x [.int .i64 x.op, .int .i64 x.a, .int .i64 x.b, .int .i64 x.c, .int .i64 x.imm] := by
  exact ⟨[.int .i64 x.op], [.int .i64 x.a, .int .i64 x.b, .int .i64 x.c, .int .i64 x.imm], rfl, ⟨rfl, hw.1⟩, ⟨[.int .i64 x.a], [.int .i64 x.b, .int .i64 x.c, .int .i64 x.imm], rfl, ⟨rfl, hw.2.1⟩, ⟨[.int .i64 x.b], [.int .i64 x.c, .int .i64 x.imm], rfl, ⟨rfl, hw.2.2.1⟩, ⟨[.int .i64 x.c], [.int .i64 x.imm], rfl, ⟨rfl, hw.2.2.2.1⟩, ⟨rfl, hw.2.2.2.2⟩⟩⟩⟩⟩
theorem Ins_at {w : World} {A : Option Addr} {xs : List Ins} (h : kIns.C w A xs) {i : Nat} {x : Ins} (hx : xs[i]? = some x) : ∃ ad, A = some ad ∧ w.cell? (ad.add (i * 5)) = some (.int .i64 x.op) ∧ w.cell? ⟨(ad.add (i * 5)).block, (ad.add (i * 5)).off + 1, none⟩ = some (.int .i64 x.a) ∧ w.cell? ⟨(ad.add (i * 5)).block, (ad.add (i * 5)).off + 2, none⟩ = some (.int .i64 x.b) ∧ w.cell? ⟨(ad.add (i * 5)).block, (ad.add (i * 5)).off + 3, none⟩ = some (.int .i64 x.c) ∧ w.cell? ⟨(ad.add (i * 5)).block, (ad.add (i * 5)).off + 4, none⟩ = some (.int .i64 x.imm) ∧ x.wf := by
  obtain ⟨ad, cs, e, hK, hc⟩ := h i x hx
  obtain ⟨rfl, hw⟩ := kIns_open hK
  replace hc : ∀ j u, ([.int .i64 x.op, .int .i64 x.a, .int .i64 x.b, .int .i64 x.c, .int .i64 x.imm] : List Value)[j]? = some u → w.cell? (ad.add (i * 5 + j)) = some u := hc
  exact ⟨ad, e, hc 0 _ rfl, (by rw [add_field _ _ 1 (by omega)]; exact hc 1 _ rfl), (by rw [add_field _ _ 2 (by omega)]; exact hc 2 _ rfl), (by rw [add_field _ _ 3 (by omega)]; exact hc 3 _ rfl), (by rw [add_field _ _ 4 (by omega)]; exact hc 4 _ rfl), hw⟩

structure Op where
  ins : Ins
  rel : Bool
  kind : Int
  to : Int
  add : Int
  deriving DecidableEq
def Op.zero : Op := ⟨Ins.zero, false, 0, 0, 0⟩
instance : Inhabited Op := ⟨Op.zero⟩
def kOp : Kd Op := Kd.iso (Kd.pair kIns (Kd.pair Kd.bool (Kd.pair (Kd.int .i64) (Kd.pair (Kd.int .i64) (Kd.int .i64))))) (fun x => (x.ins, x.rel, x.kind, x.to, x.add))
def Op.wf (x : Op) : Prop := (Lit.int .i64 x.ins.op).wf = true ∧ (Lit.int .i64 x.ins.a).wf = true ∧ (Lit.int .i64 x.ins.b).wf = true ∧ (Lit.int .i64 x.ins.c).wf = true ∧ (Lit.int .i64 x.ins.imm).wf = true ∧ (Lit.int .i64 x.kind).wf = true ∧ (Lit.int .i64 x.to).wf = true ∧ (Lit.int .i64 x.add).wf = true
theorem kOp_open {w : World} {x : Op} {cs : List Value} (h : kOp.K w x cs) : cs = [.int .i64 x.ins.op, .int .i64 x.ins.a, .int .i64 x.ins.b, .int .i64 x.ins.c, .int .i64 x.ins.imm, .bool x.rel, .int .i64 x.kind, .int .i64 x.to, .int .i64 x.add] ∧ x.wf := by
  obtain ⟨_, _, rfl, s0, ⟨_, _, rfl, rfl, ⟨_, _, rfl, ⟨rfl, h2⟩, ⟨_, _, rfl, ⟨rfl, h3⟩, ⟨rfl, h4⟩⟩⟩⟩⟩ := h
  obtain ⟨rfl, q0⟩ := kIns_open s0
  exact ⟨rfl, ⟨q0.1, q0.2.1, q0.2.2.1, q0.2.2.2.1, q0.2.2.2.2, h2, h3, h4⟩⟩
theorem kOp_mk (w : World) (x : Op) (hw : x.wf) : kOp.K w x [.int .i64 x.ins.op, .int .i64 x.ins.a, .int .i64 x.ins.b, .int .i64 x.ins.c, .int .i64 x.ins.imm, .bool x.rel, .int .i64 x.kind, .int .i64 x.to, .int .i64 x.add] := by
  exact ⟨[.int .i64 x.ins.op, .int .i64 x.ins.a, .int .i64 x.ins.b, .int .i64 x.ins.c, .int .i64 x.ins.imm], [.bool x.rel, .int .i64 x.kind, .int .i64 x.to, .int .i64 x.add], rfl, (kIns_mk w x.ins ⟨hw.1, hw.2.1, hw.2.2.1, hw.2.2.2.1, hw.2.2.2.2.1⟩), ⟨[.bool x.rel], [.int .i64 x.kind, .int .i64 x.to, .int .i64 x.add], rfl, rfl, ⟨[.int .i64 x.kind], [.int .i64 x.to, .int .i64 x.add], rfl, ⟨rfl, hw.2.2.2.2.2.1⟩, ⟨[.int .i64 x.to], [.int .i64 x.add], rfl, ⟨rfl, hw.2.2.2.2.2.2.1⟩, ⟨rfl, hw.2.2.2.2.2.2.2⟩⟩⟩⟩⟩
theorem Op_at {w : World} {A : Option Addr} {xs : List Op} (h : kOp.C w A xs) {i : Nat} {x : Op} (hx : xs[i]? = some x) : ∃ ad, A = some ad ∧ w.cell? (ad.add (i * 9)) = some (.int .i64 x.ins.op) ∧ w.cell? ⟨(ad.add (i * 9)).block, (ad.add (i * 9)).off + 1, none⟩ = some (.int .i64 x.ins.a) ∧ w.cell? ⟨(ad.add (i * 9)).block, (ad.add (i * 9)).off + 2, none⟩ = some (.int .i64 x.ins.b) ∧ w.cell? ⟨(ad.add (i * 9)).block, (ad.add (i * 9)).off + 3, none⟩ = some (.int .i64 x.ins.c) ∧ w.cell? ⟨(ad.add (i * 9)).block, (ad.add (i * 9)).off + 4, none⟩ = some (.int .i64 x.ins.imm) ∧ w.cell? ⟨(ad.add (i * 9)).block, (ad.add (i * 9)).off + 5, none⟩ = some (.bool x.rel) ∧ w.cell? ⟨(ad.add (i * 9)).block, (ad.add (i * 9)).off + 6, none⟩ = some (.int .i64 x.kind) ∧ w.cell? ⟨(ad.add (i * 9)).block, (ad.add (i * 9)).off + 7, none⟩ = some (.int .i64 x.to) ∧ w.cell? ⟨(ad.add (i * 9)).block, (ad.add (i * 9)).off + 8, none⟩ = some (.int .i64 x.add) ∧ x.wf := by
  obtain ⟨ad, cs, e, hK, hc⟩ := h i x hx
  obtain ⟨rfl, hw⟩ := kOp_open hK
  replace hc : ∀ j u, ([.int .i64 x.ins.op, .int .i64 x.ins.a, .int .i64 x.ins.b, .int .i64 x.ins.c, .int .i64 x.ins.imm, .bool x.rel, .int .i64 x.kind, .int .i64 x.to, .int .i64 x.add] : List Value)[j]? = some u → w.cell? (ad.add (i * 9 + j)) = some u := hc
  exact ⟨ad, e, hc 0 _ rfl, (by rw [add_field _ _ 1 (by omega)]; exact hc 1 _ rfl), (by rw [add_field _ _ 2 (by omega)]; exact hc 2 _ rfl), (by rw [add_field _ _ 3 (by omega)]; exact hc 3 _ rfl), (by rw [add_field _ _ 4 (by omega)]; exact hc 4 _ rfl), (by rw [add_field _ _ 5 (by omega)]; exact hc 5 _ rfl), (by rw [add_field _ _ 6 (by omega)]; exact hc 6 _ rfl), (by rw [add_field _ _ 7 (by omega)]; exact hc 7 _ rfl), (by rw [add_field _ _ 8 (by omega)]; exact hc 8 _ rfl), hw⟩

structure Term where
  kind : Int
  op : Int
  a : Int
  b : Int
  to : Int
  els : Int
  ins : Ins
  deriving DecidableEq
def Term.zero : Term := ⟨0, 0, 0, 0, 0, 0, Ins.zero⟩
instance : Inhabited Term := ⟨Term.zero⟩
def kTerm : Kd Term := Kd.iso (Kd.pair (Kd.int .i64) (Kd.pair (Kd.int .i64) (Kd.pair (Kd.int .i64) (Kd.pair (Kd.int .i64) (Kd.pair (Kd.int .i64) (Kd.pair (Kd.int .i64) kIns)))))) (fun x => (x.kind, x.op, x.a, x.b, x.to, x.els, x.ins))
def Term.wf (x : Term) : Prop := (Lit.int .i64 x.kind).wf = true ∧ (Lit.int .i64 x.op).wf = true ∧ (Lit.int .i64 x.a).wf = true ∧ (Lit.int .i64 x.b).wf = true ∧ (Lit.int .i64 x.to).wf = true ∧ (Lit.int .i64 x.els).wf = true ∧ (Lit.int .i64 x.ins.op).wf = true ∧ (Lit.int .i64 x.ins.a).wf = true ∧ (Lit.int .i64 x.ins.b).wf = true ∧ (Lit.int .i64 x.ins.c).wf = true ∧ (Lit.int .i64 x.ins.imm).wf = true
theorem kTerm_open {w : World} {x : Term} {cs : List Value} (h : kTerm.K w x cs) : cs = [.int .i64 x.kind, .int .i64 x.op, .int .i64 x.a, .int .i64 x.b, .int .i64 x.to, .int .i64 x.els, .int .i64 x.ins.op, .int .i64 x.ins.a, .int .i64 x.ins.b, .int .i64 x.ins.c, .int .i64 x.ins.imm] ∧ x.wf := by
  obtain ⟨_, _, rfl, ⟨rfl, h0⟩, ⟨_, _, rfl, ⟨rfl, h1⟩, ⟨_, _, rfl, ⟨rfl, h2⟩, ⟨_, _, rfl, ⟨rfl, h3⟩, ⟨_, _, rfl, ⟨rfl, h4⟩, ⟨_, _, rfl, ⟨rfl, h5⟩, s6⟩⟩⟩⟩⟩⟩ := h
  obtain ⟨rfl, q6⟩ := kIns_open s6
  exact ⟨rfl, ⟨h0, h1, h2, h3, h4, h5, q6.1, q6.2.1, q6.2.2.1, q6.2.2.2.1, q6.2.2.2.2⟩⟩
theorem kTerm_mk (w : World) (x : Term) (hw : x.wf) : kTerm.K w x [.int .i64 x.kind, .int .i64 x.op, .int .i64 x.a, .int .i64 x.b, .int .i64 x.to, .int .i64 x.els, .int .i64 x.ins.op, .int .i64 x.ins.a, .int .i64 x.ins.b, .int .i64 x.ins.c, .int .i64 x.ins.imm] := by
  exact ⟨[.int .i64 x.kind], [.int .i64 x.op, .int .i64 x.a, .int .i64 x.b, .int .i64 x.to, .int .i64 x.els, .int .i64 x.ins.op, .int .i64 x.ins.a, .int .i64 x.ins.b, .int .i64 x.ins.c, .int .i64 x.ins.imm], rfl, ⟨rfl, hw.1⟩, ⟨[.int .i64 x.op], [.int .i64 x.a, .int .i64 x.b, .int .i64 x.to, .int .i64 x.els, .int .i64 x.ins.op, .int .i64 x.ins.a, .int .i64 x.ins.b, .int .i64 x.ins.c, .int .i64 x.ins.imm], rfl, ⟨rfl, hw.2.1⟩, ⟨[.int .i64 x.a], [.int .i64 x.b, .int .i64 x.to, .int .i64 x.els, .int .i64 x.ins.op, .int .i64 x.ins.a, .int .i64 x.ins.b, .int .i64 x.ins.c, .int .i64 x.ins.imm], rfl, ⟨rfl, hw.2.2.1⟩, ⟨[.int .i64 x.b], [.int .i64 x.to, .int .i64 x.els, .int .i64 x.ins.op, .int .i64 x.ins.a, .int .i64 x.ins.b, .int .i64 x.ins.c, .int .i64 x.ins.imm], rfl, ⟨rfl, hw.2.2.2.1⟩, ⟨[.int .i64 x.to], [.int .i64 x.els, .int .i64 x.ins.op, .int .i64 x.ins.a, .int .i64 x.ins.b, .int .i64 x.ins.c, .int .i64 x.ins.imm], rfl, ⟨rfl, hw.2.2.2.2.1⟩, ⟨[.int .i64 x.els], [.int .i64 x.ins.op, .int .i64 x.ins.a, .int .i64 x.ins.b, .int .i64 x.ins.c, .int .i64 x.ins.imm], rfl, ⟨rfl, hw.2.2.2.2.2.1⟩, (kIns_mk w x.ins ⟨hw.2.2.2.2.2.2.1, hw.2.2.2.2.2.2.2.1, hw.2.2.2.2.2.2.2.2.1, hw.2.2.2.2.2.2.2.2.2.1, hw.2.2.2.2.2.2.2.2.2.2⟩)⟩⟩⟩⟩⟩⟩
theorem Term_at {w : World} {A : Option Addr} {xs : List Term} (h : kTerm.C w A xs) {i : Nat} {x : Term} (hx : xs[i]? = some x) : ∃ ad, A = some ad ∧ w.cell? (ad.add (i * 11)) = some (.int .i64 x.kind) ∧ w.cell? ⟨(ad.add (i * 11)).block, (ad.add (i * 11)).off + 1, none⟩ = some (.int .i64 x.op) ∧ w.cell? ⟨(ad.add (i * 11)).block, (ad.add (i * 11)).off + 2, none⟩ = some (.int .i64 x.a) ∧ w.cell? ⟨(ad.add (i * 11)).block, (ad.add (i * 11)).off + 3, none⟩ = some (.int .i64 x.b) ∧ w.cell? ⟨(ad.add (i * 11)).block, (ad.add (i * 11)).off + 4, none⟩ = some (.int .i64 x.to) ∧ w.cell? ⟨(ad.add (i * 11)).block, (ad.add (i * 11)).off + 5, none⟩ = some (.int .i64 x.els) ∧ w.cell? ⟨(ad.add (i * 11)).block, (ad.add (i * 11)).off + 6, none⟩ = some (.int .i64 x.ins.op) ∧ w.cell? ⟨(ad.add (i * 11)).block, (ad.add (i * 11)).off + 7, none⟩ = some (.int .i64 x.ins.a) ∧ w.cell? ⟨(ad.add (i * 11)).block, (ad.add (i * 11)).off + 8, none⟩ = some (.int .i64 x.ins.b) ∧ w.cell? ⟨(ad.add (i * 11)).block, (ad.add (i * 11)).off + 9, none⟩ = some (.int .i64 x.ins.c) ∧ w.cell? ⟨(ad.add (i * 11)).block, (ad.add (i * 11)).off + 10, none⟩ = some (.int .i64 x.ins.imm) ∧ x.wf := by
  obtain ⟨ad, cs, e, hK, hc⟩ := h i x hx
  obtain ⟨rfl, hw⟩ := kTerm_open hK
  replace hc : ∀ j u, ([.int .i64 x.kind, .int .i64 x.op, .int .i64 x.a, .int .i64 x.b, .int .i64 x.to, .int .i64 x.els, .int .i64 x.ins.op, .int .i64 x.ins.a, .int .i64 x.ins.b, .int .i64 x.ins.c, .int .i64 x.ins.imm] : List Value)[j]? = some u → w.cell? (ad.add (i * 11 + j)) = some u := hc
  exact ⟨ad, e, hc 0 _ rfl, (by rw [add_field _ _ 1 (by omega)]; exact hc 1 _ rfl), (by rw [add_field _ _ 2 (by omega)]; exact hc 2 _ rfl), (by rw [add_field _ _ 3 (by omega)]; exact hc 3 _ rfl), (by rw [add_field _ _ 4 (by omega)]; exact hc 4 _ rfl), (by rw [add_field _ _ 5 (by omega)]; exact hc 5 _ rfl), (by rw [add_field _ _ 6 (by omega)]; exact hc 6 _ rfl), (by rw [add_field _ _ 7 (by omega)]; exact hc 7 _ rfl), (by rw [add_field _ _ 8 (by omega)]; exact hc 8 _ rfl), (by rw [add_field _ _ 9 (by omega)]; exact hc 9 _ rfl), (by rw [add_field _ _ 10 (by omega)]; exact hc 10 _ rfl), hw⟩

structure Block where
  ops : List Op
  fin : Term
  deriving DecidableEq
def Block.zero : Block := ⟨[], Term.zero⟩
instance : Inhabited Block := ⟨Block.zero⟩
def kBlock : Kd Block := Kd.iso (Kd.pair (Kd.slice kOp) kTerm) (fun x => (x.ops, x.fin))
def Block.wf (x : Block) : Prop := (Lit.int .i64 x.fin.kind).wf = true ∧ (Lit.int .i64 x.fin.op).wf = true ∧ (Lit.int .i64 x.fin.a).wf = true ∧ (Lit.int .i64 x.fin.b).wf = true ∧ (Lit.int .i64 x.fin.to).wf = true ∧ (Lit.int .i64 x.fin.els).wf = true ∧ (Lit.int .i64 x.fin.ins.op).wf = true ∧ (Lit.int .i64 x.fin.ins.a).wf = true ∧ (Lit.int .i64 x.fin.ins.b).wf = true ∧ (Lit.int .i64 x.fin.ins.c).wf = true ∧ (Lit.int .i64 x.fin.ins.imm).wf = true
theorem kBlock_open {w : World} {x : Block} {cs : List Value} (h : kBlock.K w x cs) : ∃ A0 c0, cs = [.slice A0 x.ops.length c0, .int .i64 x.fin.kind, .int .i64 x.fin.op, .int .i64 x.fin.a, .int .i64 x.fin.b, .int .i64 x.fin.to, .int .i64 x.fin.els, .int .i64 x.fin.ins.op, .int .i64 x.fin.ins.a, .int .i64 x.fin.ins.b, .int .i64 x.fin.ins.c, .int .i64 x.fin.ins.imm] ∧ x.wf ∧ x.ops.length ≤ c0 ∧ c0 ≤ maxLen ∧ kOp.C w A0 x.ops := by
  obtain ⟨_, _, rfl, ⟨A0, c0, rfl, l0, m0, g0⟩, s1⟩ := h
  obtain ⟨rfl, q1⟩ := kTerm_open s1
  exact ⟨A0, c0, rfl, ⟨q1.1, q1.2.1, q1.2.2.1, q1.2.2.2.1, q1.2.2.2.2.1, q1.2.2.2.2.2.1, q1.2.2.2.2.2.2.1, q1.2.2.2.2.2.2.2.1, q1.2.2.2.2.2.2.2.2.1, q1.2.2.2.2.2.2.2.2.2.1, q1.2.2.2.2.2.2.2.2.2.2⟩, l0, m0, g0⟩
theorem kBlock_mk (w : World) (x : Block) {A0 : Option Addr} {c0 : Nat} (hw : x.wf) (l0 : x.ops.length ≤ c0) (m0 : c0 ≤ maxLen) (g0 : kOp.C w A0 x.ops) : kBlock.K w x [.slice A0 x.ops.length c0, .int .i64 x.fin.kind, .int .i64 x.fin.op, .int .i64 x.fin.a, .int .i64 x.fin.b, .int .i64 x.fin.to, .int .i64 x.fin.els, .int .i64 x.fin.ins.op, .int .i64 x.fin.ins.a, .int .i64 x.fin.ins.b, .int .i64 x.fin.ins.c, .int .i64 x.fin.ins.imm] := by
  exact ⟨[.slice A0 x.ops.length c0], [.int .i64 x.fin.kind, .int .i64 x.fin.op, .int .i64 x.fin.a, .int .i64 x.fin.b, .int .i64 x.fin.to, .int .i64 x.fin.els, .int .i64 x.fin.ins.op, .int .i64 x.fin.ins.a, .int .i64 x.fin.ins.b, .int .i64 x.fin.ins.c, .int .i64 x.fin.ins.imm], rfl, ⟨_, _, rfl, l0, m0, g0⟩, (kTerm_mk w x.fin ⟨hw.1, hw.2.1, hw.2.2.1, hw.2.2.2.1, hw.2.2.2.2.1, hw.2.2.2.2.2.1, hw.2.2.2.2.2.2.1, hw.2.2.2.2.2.2.2.1, hw.2.2.2.2.2.2.2.2.1, hw.2.2.2.2.2.2.2.2.2.1, hw.2.2.2.2.2.2.2.2.2.2⟩)⟩
theorem Block_at {w : World} {A : Option Addr} {xs : List Block} (h : kBlock.C w A xs) {i : Nat} {x : Block} (hx : xs[i]? = some x) : ∃ ad A0 c0, A = some ad ∧ w.cell? (ad.add (i * 12)) = some (.slice A0 x.ops.length c0) ∧ w.cell? ⟨(ad.add (i * 12)).block, (ad.add (i * 12)).off + 1, none⟩ = some (.int .i64 x.fin.kind) ∧ w.cell? ⟨(ad.add (i * 12)).block, (ad.add (i * 12)).off + 2, none⟩ = some (.int .i64 x.fin.op) ∧ w.cell? ⟨(ad.add (i * 12)).block, (ad.add (i * 12)).off + 3, none⟩ = some (.int .i64 x.fin.a) ∧ w.cell? ⟨(ad.add (i * 12)).block, (ad.add (i * 12)).off + 4, none⟩ = some (.int .i64 x.fin.b) ∧ w.cell? ⟨(ad.add (i * 12)).block, (ad.add (i * 12)).off + 5, none⟩ = some (.int .i64 x.fin.to) ∧ w.cell? ⟨(ad.add (i * 12)).block, (ad.add (i * 12)).off + 6, none⟩ = some (.int .i64 x.fin.els) ∧ w.cell? ⟨(ad.add (i * 12)).block, (ad.add (i * 12)).off + 7, none⟩ = some (.int .i64 x.fin.ins.op) ∧ w.cell? ⟨(ad.add (i * 12)).block, (ad.add (i * 12)).off + 8, none⟩ = some (.int .i64 x.fin.ins.a) ∧ w.cell? ⟨(ad.add (i * 12)).block, (ad.add (i * 12)).off + 9, none⟩ = some (.int .i64 x.fin.ins.b) ∧ w.cell? ⟨(ad.add (i * 12)).block, (ad.add (i * 12)).off + 10, none⟩ = some (.int .i64 x.fin.ins.c) ∧ w.cell? ⟨(ad.add (i * 12)).block, (ad.add (i * 12)).off + 11, none⟩ = some (.int .i64 x.fin.ins.imm) ∧ x.wf ∧ x.ops.length ≤ c0 ∧ c0 ≤ maxLen ∧ kOp.C w A0 x.ops := by
  obtain ⟨ad, cs, e, hK, hc⟩ := h i x hx
  obtain ⟨A0, c0, rfl, hw, l0, m0, g0⟩ := kBlock_open hK
  replace hc : ∀ j u, ([.slice A0 x.ops.length c0, .int .i64 x.fin.kind, .int .i64 x.fin.op, .int .i64 x.fin.a, .int .i64 x.fin.b, .int .i64 x.fin.to, .int .i64 x.fin.els, .int .i64 x.fin.ins.op, .int .i64 x.fin.ins.a, .int .i64 x.fin.ins.b, .int .i64 x.fin.ins.c, .int .i64 x.fin.ins.imm] : List Value)[j]? = some u → w.cell? (ad.add (i * 12 + j)) = some u := hc
  exact ⟨ad, A0, c0, e, hc 0 _ rfl, (by rw [add_field _ _ 1 (by omega)]; exact hc 1 _ rfl), (by rw [add_field _ _ 2 (by omega)]; exact hc 2 _ rfl), (by rw [add_field _ _ 3 (by omega)]; exact hc 3 _ rfl), (by rw [add_field _ _ 4 (by omega)]; exact hc 4 _ rfl), (by rw [add_field _ _ 5 (by omega)]; exact hc 5 _ rfl), (by rw [add_field _ _ 6 (by omega)]; exact hc 6 _ rfl), (by rw [add_field _ _ 7 (by omega)]; exact hc 7 _ rfl), (by rw [add_field _ _ 8 (by omega)]; exact hc 8 _ rfl), (by rw [add_field _ _ 9 (by omega)]; exact hc 9 _ rfl), (by rw [add_field _ _ 10 (by omega)]; exact hc 10 _ rfl), (by rw [add_field _ _ 11 (by omega)]; exact hc 11 _ rfl), hw, l0, m0, g0⟩

structure Graph where
  name : ByteArray
  keep : Bool
  leaf : Bool
  blocks : List Block
  deriving DecidableEq
def Graph.zero : Graph := ⟨ByteArray.empty, false, false, []⟩
instance : Inhabited Graph := ⟨Graph.zero⟩
def kGraph : Kd Graph := Kd.iso (Kd.pair Kd.string (Kd.pair Kd.bool (Kd.pair Kd.bool (Kd.slice kBlock)))) (fun x => (x.name, x.keep, x.leaf, x.blocks))
def Graph.wf (x : Graph) : Prop := x.name.size ≤ maxLen
theorem kGraph_open {w : World} {x : Graph} {cs : List Value} (h : kGraph.K w x cs) : ∃ A0 c0, cs = [.string x.name, .bool x.keep, .bool x.leaf, .slice A0 x.blocks.length c0] ∧ x.wf ∧ x.blocks.length ≤ c0 ∧ c0 ≤ maxLen ∧ kBlock.C w A0 x.blocks := by
  obtain ⟨_, _, rfl, ⟨rfl, h0⟩, ⟨_, _, rfl, rfl, ⟨_, _, rfl, rfl, ⟨A3, c3, rfl, l3, m3, g3⟩⟩⟩⟩ := h
  exact ⟨A3, c3, rfl, h0, l3, m3, g3⟩
theorem kGraph_mk (w : World) (x : Graph) {A0 : Option Addr} {c0 : Nat} (hw : x.wf) (l0 : x.blocks.length ≤ c0) (m0 : c0 ≤ maxLen) (g0 : kBlock.C w A0 x.blocks) : kGraph.K w x [.string x.name, .bool x.keep, .bool x.leaf, .slice A0 x.blocks.length c0] := by
  exact ⟨[.string x.name], [.bool x.keep, .bool x.leaf, .slice A0 x.blocks.length c0], rfl, ⟨rfl, hw⟩, ⟨[.bool x.keep], [.bool x.leaf, .slice A0 x.blocks.length c0], rfl, rfl, ⟨[.bool x.leaf], [.slice A0 x.blocks.length c0], rfl, rfl, ⟨_, _, rfl, l0, m0, g0⟩⟩⟩⟩
theorem Graph_at {w : World} {A : Option Addr} {xs : List Graph} (h : kGraph.C w A xs) {i : Nat} {x : Graph} (hx : xs[i]? = some x) : ∃ ad A0 c0, A = some ad ∧ w.cell? (ad.add (i * 4)) = some (.string x.name) ∧ w.cell? ⟨(ad.add (i * 4)).block, (ad.add (i * 4)).off + 1, none⟩ = some (.bool x.keep) ∧ w.cell? ⟨(ad.add (i * 4)).block, (ad.add (i * 4)).off + 2, none⟩ = some (.bool x.leaf) ∧ w.cell? ⟨(ad.add (i * 4)).block, (ad.add (i * 4)).off + 3, none⟩ = some (.slice A0 x.blocks.length c0) ∧ x.wf ∧ x.blocks.length ≤ c0 ∧ c0 ≤ maxLen ∧ kBlock.C w A0 x.blocks := by
  obtain ⟨ad, cs, e, hK, hc⟩ := h i x hx
  obtain ⟨A0, c0, rfl, hw, l0, m0, g0⟩ := kGraph_open hK
  replace hc : ∀ j u, ([.string x.name, .bool x.keep, .bool x.leaf, .slice A0 x.blocks.length c0] : List Value)[j]? = some u → w.cell? (ad.add (i * 4 + j)) = some u := hc
  exact ⟨ad, A0, c0, e, hc 0 _ rfl, (by rw [add_field _ _ 1 (by omega)]; exact hc 1 _ rfl), (by rw [add_field _ _ 2 (by omega)]; exact hc 2 _ rfl), (by rw [add_field _ _ 3 (by omega)]; exact hc 3 _ rfl), hw, l0, m0, g0⟩

structure Edge where
  func : ByteArray
  src : Int
  to : Int
  w : Nat
  deriving DecidableEq
def Edge.zero : Edge := ⟨ByteArray.empty, 0, 0, 0⟩
instance : Inhabited Edge := ⟨Edge.zero⟩
def kEdge : Kd Edge := Kd.iso (Kd.pair Kd.string (Kd.pair (Kd.int .i64) (Kd.pair (Kd.int .i64) (Kd.float .f64)))) (fun x => (x.func, x.src, x.to, x.w))
def Edge.wf (x : Edge) : Prop := x.func.size ≤ maxLen ∧ (Lit.int .i64 x.src).wf = true ∧ (Lit.int .i64 x.to).wf = true ∧ (Lit.float .f64 x.w).wf = true
theorem kEdge_open {w : World} {x : Edge} {cs : List Value} (h : kEdge.K w x cs) : cs = [.string x.func, .int .i64 x.src, .int .i64 x.to, .float .f64 x.w] ∧ x.wf := by
  obtain ⟨_, _, rfl, ⟨rfl, h0⟩, ⟨_, _, rfl, ⟨rfl, h1⟩, ⟨_, _, rfl, ⟨rfl, h2⟩, ⟨rfl, h3⟩⟩⟩⟩ := h
  exact ⟨rfl, ⟨h0, h1, h2, h3⟩⟩
theorem kEdge_mk (w : World) (x : Edge) (hw : x.wf) : kEdge.K w x [.string x.func, .int .i64 x.src, .int .i64 x.to, .float .f64 x.w] := by
  exact ⟨[.string x.func], [.int .i64 x.src, .int .i64 x.to, .float .f64 x.w], rfl, ⟨rfl, hw.1⟩, ⟨[.int .i64 x.src], [.int .i64 x.to, .float .f64 x.w], rfl, ⟨rfl, hw.2.1⟩, ⟨[.int .i64 x.to], [.float .f64 x.w], rfl, ⟨rfl, hw.2.2.1⟩, ⟨rfl, hw.2.2.2⟩⟩⟩⟩
theorem Edge_at {w : World} {A : Option Addr} {xs : List Edge} (h : kEdge.C w A xs) {i : Nat} {x : Edge} (hx : xs[i]? = some x) : ∃ ad, A = some ad ∧ w.cell? (ad.add (i * 4)) = some (.string x.func) ∧ w.cell? ⟨(ad.add (i * 4)).block, (ad.add (i * 4)).off + 1, none⟩ = some (.int .i64 x.src) ∧ w.cell? ⟨(ad.add (i * 4)).block, (ad.add (i * 4)).off + 2, none⟩ = some (.int .i64 x.to) ∧ w.cell? ⟨(ad.add (i * 4)).block, (ad.add (i * 4)).off + 3, none⟩ = some (.float .f64 x.w) ∧ x.wf := by
  obtain ⟨ad, cs, e, hK, hc⟩ := h i x hx
  obtain ⟨rfl, hw⟩ := kEdge_open hK
  replace hc : ∀ j u, ([.string x.func, .int .i64 x.src, .int .i64 x.to, .float .f64 x.w] : List Value)[j]? = some u → w.cell? (ad.add (i * 4 + j)) = some u := hc
  exact ⟨ad, e, hc 0 _ rfl, (by rw [add_field _ _ 1 (by omega)]; exact hc 1 _ rfl), (by rw [add_field _ _ 2 (by omega)]; exact hc 2 _ rfl), (by rw [add_field _ _ 3 (by omega)]; exact hc 3 _ rfl), hw⟩

theorem ints_at {w : World} {A : Option Addr} {xs : List Int} (h : (Kd.int .i64).C w A xs) {i : Nat} {x : Int} (hx : xs[i]? = some x) : ∃ ad, A = some ad ∧ w.cell? (ad.add i) = some (.int .i64 x) := by
  obtain ⟨ad, cs, e, hK, hc⟩ := h i x hx
  replace hc : ∀ j u, cs[j]? = some u → w.cell? (ad.add (i * 1 + j)) = some u := hc
  obtain rfl : cs = [.int .i64 x] := by first | exact hK | exact hK.1
  refine ⟨ad, e, ?_⟩
  have h0 := hc 0 _ rfl
  rwa [Nat.mul_one, Nat.add_zero] at h0
theorem u16s_at {w : World} {A : Option Addr} {xs : List Int} (h : (Kd.int .u16).C w A xs) {i : Nat} {x : Int} (hx : xs[i]? = some x) : ∃ ad, A = some ad ∧ w.cell? (ad.add i) = some (.int .u16 x) := by
  obtain ⟨ad, cs, e, hK, hc⟩ := h i x hx
  replace hc : ∀ j u, cs[j]? = some u → w.cell? (ad.add (i * 1 + j)) = some u := hc
  obtain rfl : cs = [.int .u16 x] := by first | exact hK | exact hK.1
  refine ⟨ad, e, ?_⟩
  have h0 := hc 0 _ rfl
  rwa [Nat.mul_one, Nat.add_zero] at h0
theorem bools_at {w : World} {A : Option Addr} {xs : List Bool} (h : Kd.bool.C w A xs) {i : Nat} {x : Bool} (hx : xs[i]? = some x) : ∃ ad, A = some ad ∧ w.cell? (ad.add i) = some (.bool x) := by
  obtain ⟨ad, cs, e, hK, hc⟩ := h i x hx
  replace hc : ∀ j u, cs[j]? = some u → w.cell? (ad.add (i * 1 + j)) = some u := hc
  obtain rfl : cs = [.bool x] := by first | exact hK | exact hK.1
  refine ⟨ad, e, ?_⟩
  have h0 := hc 0 _ rfl
  rwa [Nat.mul_one, Nat.add_zero] at h0
end Go.Proofs.Ytobhjjbhlnbcpaa
