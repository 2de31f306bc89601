/- How values of Go's types lie in memory: kinds, their reading, and what a change elsewhere leaves of it. The program's struct types, as kinds. Printed by gentypes.py of this repository. The document's answers for instructions and graphs, as plain functions: which are right, their kinds, what they write and read. What an instruction writes, reads, where it leads, as plain functions: the program's and the document's. Literal rows of values. -/
import Derived.WalkKit
import Derived.Lib.Hide
import Derived.Deep.QuietTactic
import Derived.BigQuiet
import Derived.Lib.RowBridge
namespace Go.Proofs.Ythnkikdbllkmkaa
set_option linter.unusedVariables false
set_option linter.unusedSimpArgs false
open Go.RowKit

theorem World.lt_of_cell {w : World} {a : Addr} {v : Value} (h : w.cell? a = some v) : a.block < w.heap.size := by
  unfold World.cell? at h
  by_cases hlt : a.block < w.heap.size
  · exact hlt
  · rw [Array.getElem?_eq_none (by omega)] at h
    simp at h

/-- All that reads in w reads so in w'. -/
def Sub (w w' : World) : Prop := ∀ a v, w.cell? a = some v → w'.cell? a = some v
theorem Sub.of_below {w w' : World} (hb : Below w.heap.size w w') : Sub w w' := fun a v h => (hb.cell (World.lt_of_cell h)).trans h
/-- A kind of value: how many cells it takes, and when a row of cells tells it. -/
structure Kd (α : Type) where
  size : Nat
  K : World → α → List Value → Prop
  len : ∀ {w : World} {x : α} {cs : List Value}, K w x cs → cs.length = size
  one : ∀ {w : World} {x : α} {cs : List Value}, K w x cs → ∀ u ∈ cs, u.oneCell' = true
  sub : ∀ {w w' : World} {x : α} {cs : List Value}, Sub w w' → K w x cs → K w' x cs
theorem Kd.mono {α : Type} (k : Kd α) {w w' : World} {x : α} {cs : List Value} (hb : Below w.heap.size w w') (h : k.K w x cs) : k.K w' x cs := k.sub (Sub.of_below hb) h

/-- A row of values at an address. -/
def Kd.C {α : Type} (k : Kd α) (w : World) (A : Option Addr) (xs : List α) : Prop :=
  ∀ i x, xs[i]? = some x → ∃ ad cs, A = some ad ∧ k.K w x cs ∧ ∀ j v, cs[j]? = some v → w.cell? (ad.add (i * k.size + j)) = some v

theorem Kd.C_sub {α : Type} {k : Kd α} {w w' : World} {A : Option Addr} {xs : List α} (hb : Sub w w') (h : k.C w A xs) : k.C w' A xs := by
  intro i x hx
  obtain ⟨ad, cs, e, hk, hc⟩ := h i x hx
  exact ⟨ad, cs, e, k.sub hb hk, fun j v hv => hb _ _ (hc j v hv)⟩
theorem Kd.C_mono {α : Type} {k : Kd α} {w w' : World} {A : Option Addr} {xs : List α} (hb : Below w.heap.size w w') (h : k.C w A xs) : k.C w' A xs := Kd.C_sub (Sub.of_below hb) h

def Kd.int (q : IntKind) : Kd Int where
  size := 1
  K := fun _ x cs => cs = [.int q x] ∧ (Lit.int q x).wf = true
  len := by rintro w x cs ⟨rfl, _⟩; rfl
  one := by rintro w x cs ⟨rfl, _⟩ u hu; rw [List.mem_singleton] at hu; subst hu; rfl
  sub := fun _ h => h

def Kd.bool : Kd Bool where
  size := 1
  K := fun _ x cs => cs = [.bool x]
  len := by rintro w x cs rfl; rfl
  one := by rintro w x cs rfl u hu; rw [List.mem_singleton] at hu; subst hu; rfl
  sub := fun _ h => h

def Kd.string : Kd ByteArray where
  size := 1
  K := fun _ x cs => cs = [.string x] ∧ x.size ≤ maxLen
  len := by rintro w x cs ⟨rfl, _⟩; rfl
  one := by rintro w x cs ⟨rfl, _⟩ u hu; rw [List.mem_singleton] at hu; subst hu; rfl
  sub := fun _ h => h

def Kd.float (q : FloatKind) : Kd Nat where
  size := 1
  K := fun _ x cs => cs = [.float q x] ∧ (Lit.float q x).wf = true
  len := by rintro w x cs ⟨rfl, _⟩; rfl
  one := by rintro w x cs ⟨rfl, _⟩ u hu; rw [List.mem_singleton] at hu; subst hu; rfl
  sub := fun _ h => h

def Kd.pair {α β : Type} (a : Kd α) (b : Kd β) : Kd (α × β) where
  size := a.size + b.size
  K := fun w x cs => ∃ as bs, cs = as ++ bs ∧ a.K w x.1 as ∧ b.K w x.2 bs
  len := by rintro w x cs ⟨as, bs, rfl, ha, hb⟩; rw [List.length_append, a.len ha, b.len hb]
  one := by rintro w x cs ⟨as, bs, rfl, ha, hb⟩ u hu; rw [List.mem_append] at hu; exact hu.elim (a.one ha u) (b.one hb u)
  sub := by rintro w w' x cs hw ⟨as, bs, e, ha, hb⟩; exact ⟨as, bs, e, a.sub hw ha, b.sub hw hb⟩

def Kd.iso {α β : Type} (k : Kd α) (f : β → α) : Kd β where
  size := k.size
  K := fun w x cs => k.K w (f x) cs
  len := fun h => k.len h
  one := fun h => k.one h
  sub := fun hw h => k.sub hw h

def Kd.slice {α : Type} (k : Kd α) : Kd (List α) where
  size := 1
  K := fun w xs cs => ∃ A c, cs = [.slice A xs.length c] ∧ xs.length ≤ c ∧ c ≤ maxLen ∧ k.C w A xs
  len := by rintro w x cs ⟨_, _, rfl, _⟩; rfl
  one := by rintro w x cs ⟨_, _, rfl, _⟩ u hu; rw [List.mem_singleton] at hu; subst hu; rfl
  sub := by rintro w w' x cs hw ⟨A, c, e, h1, h2, h3⟩; exact ⟨A, c, e, h1, h2, Kd.C_sub hw h3⟩

/-- An array of n values. -/
def Kd.arr {α : Type} (k : Kd α) (n : Nat) : Kd (List α) where
  size := n * k.size
  K := fun w xs cs => xs.length = n ∧ ∃ css : List (List Value), css.length = n ∧ cs = css.flatten ∧ ∀ i x c, xs[i]? = some x → css[i]? = some c → k.K w x c
  len := by
    rintro w xs cs ⟨hx, css, hl, rfl, h⟩
    have : ∀ c ∈ css, c.length = k.size := by
      intro c hc
      obtain ⟨i, hi, rfl⟩ := List.mem_iff_getElem.1 hc
      exact k.len (h i (xs[i]'(by omega)) css[i] (List.getElem?_eq_getElem _) (List.getElem?_eq_getElem _))
    clear h hx
    induction css generalizing n with
    | nil => simp at hl; simp [← hl]
    | cons a r ih =>
      rw [List.flatten_cons, List.length_append, this a (by simp), ih (n := r.length) rfl (fun c hc => this c (by simp [hc]))]
      rw [← hl, List.length_cons, Nat.succ_mul, Nat.add_comm]
  one := by
    rintro w xs cs ⟨hx, css, hl, rfl, h⟩ u hu
    rw [List.mem_flatten] at hu
    obtain ⟨c, hc, hu⟩ := hu
    obtain ⟨i, hi, rfl⟩ := List.mem_iff_getElem.1 hc
    exact k.one (h i (xs[i]'(by omega)) css[i] (List.getElem?_eq_getElem _) (List.getElem?_eq_getElem _)) u hu
  sub := by
    rintro w w' xs cs hw ⟨hx, css, hl, e, h⟩
    exact ⟨hx, css, hl, e, fun i x c h1 h2 => k.sub hw (h i x c h1 h2)⟩

theorem get_some {α : Type} (xs : List α) (i : Nat) (h : i < xs.length) : ∃ x, xs[i]? = some x := ⟨xs[i], by simp [h]⟩

theorem take_snoc {α : Type} {xs : List α} {i : Nat} {x : α} (h : xs[i]? = some x) : xs.take (i + 1) = xs.take i ++ [x] := by
  rw [List.take_add_one, h]; rfl

theorem forall_snoc {α : Type} {p : α → Prop} {xs : List α} {i : Nat} {x : α} (h : ∀ y ∈ xs.take i, p y) (e : xs.take (i + 1) = xs.take i ++ [x]) (hx : p x) : ∀ y ∈ xs.take (i + 1), p y := by
  rw [e]
  intro y hy
  rw [List.mem_append] at hy
  rcases hy with hy | hy
  · exact h y hy
  · rw [List.mem_singleton] at hy
    rw [hy]
    exact hx

theorem len_le {n c : Nat} (h : n ≤ c) (hc : c ≤ maxLen) : n ≤ 9223372036854775807 := by unfold maxLen at hc; omega

theorem add_field (ad : Addr) (n j : Nat) (hj : 0 < j) : (⟨(ad.add n).block, (ad.add n).off + j, none⟩ : Addr) = ad.add (n + j) := by
  unfold Addr.add
  by_cases h : n = 0
  · subst h; simp; omega
  · rw [if_neg h, if_neg (by omega)]; simp; omega

theorem bcell {W w1 : World} (hb : Below W.heap.size W w1) : (∀ b o, b < W.heap.size → w1.cell? ⟨b, o, none⟩ = W.cell? ⟨b, o, none⟩) ∧ (∀ b o, b < W.heap.size → w1.frozen? ⟨b, o, none⟩ = W.frozen? ⟨b, o, none⟩) :=
  ⟨fun b o h => hb.cell (p := ⟨b, o, none⟩) h, fun b o h => hb.frozen (p := ⟨b, o, none⟩) h⟩

theorem ret_bool {a b : Bool} (h : a = b) : Ending.returned (.bool a) = .returned (.bool b) := by rw [h]
theorem ret_int {k : IntKind} {a b : Int} (h : a = b) : Ending.returned (.int k a) = .returned (.int k b) := by rw [h]
end Go.Proofs.Ythnkikdbllkmkaa
namespace Go.Proofs.Ythnkikdbllkmkaa
set_option linter.unusedVariables false
set_option linter.unusedSimpArgs false
open Go.RowKit

structure Ins where
  op : Int
  a : Int
  b : Int
  c : Int
  imm : Int
  deriving DecidableEq
def Ins.zero : Ins := ⟨0, 0, 0, 0, 0⟩
instance : Inhabited Ins := ⟨Ins.zero⟩
def kIns : Kd Ins := Kd.iso (Kd.pair (Kd.int .i64) (Kd.pair (Kd.int .i64) (Kd.pair (Kd.int .i64) (Kd.pair (Kd.int .i64) (Kd.int .i64))))) (fun x => (x.op, x.a, x.b, x.c, x.imm))
def Ins.wf (x : Ins) : Prop := (Lit.int .i64 x.op).wf = true ∧ (Lit.int .i64 x.a).wf = true ∧ (Lit.int .i64 x.b).wf = true ∧ (Lit.int .i64 x.c).wf = true ∧ (Lit.int .i64 x.imm).wf = true
theorem kIns_open {w : World} {x : Ins} {cs : List Value} (h : kIns.K w x cs) : cs = [.int .i64 x.op, .int .i64 x.a, .int .i64 x.b, .int .i64 x.c, .int .i64 x.imm] ∧ x.wf := by
  obtain ⟨_, _, rfl, ⟨rfl, h0⟩, ⟨_, _, rfl, ⟨rfl, h1⟩, ⟨_, _, rfl, ⟨rfl, h2⟩, ⟨_, _, rfl, ⟨rfl, h3⟩, ⟨rfl, h4⟩⟩⟩⟩⟩ := h
  exact ⟨rfl, ⟨h0, h1, h2, h3, h4⟩⟩
theorem kIns_mk (w : World) (x : Ins) (hw : x.wf) : kIns.K w x [.int .i64 x.op, .int .i64 x.a, .int .i64 x.b, .int .i64 x.c, .int .i64 x.imm] := by
  exact ⟨[.int .i64 x.op], [.int .i64 x.a, .int .i64 x.b, .int .i64 x.c, .int .i64 x.imm], rfl, ⟨rfl, hw.1⟩, ⟨[.int .i64 x.a], [.int .i64 x.b, .int .i64 x.c, .int .i64 x.imm], rfl, ⟨rfl, hw.2.1⟩, ⟨[.int .i64 x.b], [.int .i64 x.c, .int .i64 x.imm], rfl, ⟨rfl, hw.2.2.1⟩, ⟨[.int .i64 x.c], [.int .i64 x.imm], rfl, ⟨rfl, hw.2.2.2.1⟩, ⟨rfl, hw.2.2.2.2⟩⟩⟩⟩⟩
theorem Ins_at {w : World} {A : Option Addr} {xs : List Ins} (h : kIns.C w A xs) {i : Nat} {x : Ins} (hx : xs[i]? = some x) : ∃ ad, A = some ad ∧ w.cell? (ad.add (i * 5)) = some (.int .i64 x.op) ∧ w.cell? ⟨(ad.add (i * 5)).block, (ad.add (i * 5)).off + 1, none⟩ = some (.int .i64 x.a) ∧ w.cell? ⟨(ad.add (i * 5)).block, (ad.add (i * 5)).off + 2, none⟩ = some (.int .i64 x.b) ∧ w.cell? ⟨(ad.add (i * 5)).block, (ad.add (i * 5)).off + 3, none⟩ = some (.int .i64 x.c) ∧ w.cell? ⟨(ad.add (i * 5)).block, (ad.add (i * 5)).off + 4, none⟩ = some (.int .i64 x.imm) ∧ x.wf := by
  obtain ⟨ad, cs, e, hK, hc⟩ := h i x hx
  obtain ⟨rfl, hw⟩ := kIns_open hK
  replace hc : ∀ j u, ([.int .i64 x.op, .int .i64 x.a, .int .i64 x.b, .int .i64 x.c, .int .i64 x.imm] : List Value)[j]? = some u → w.cell? (ad.add (i * 5 + j)) = some u := hc
  exact ⟨ad, e, hc 0 _ rfl, (by rw [add_field _ _ 1 (by omega)]; exact hc 1 _ rfl), (by rw [add_field _ _ 2 (by omega)]; exact hc 2 _ rfl), (by rw [add_field _ _ 3 (by omega)]; exact hc 3 _ rfl), (by rw [add_field _ _ 4 (by omega)]; exact hc 4 _ rfl), hw⟩

structure Op where
  ins : Ins
  rel : Bool
  kind : Int
  to : Int
  add : Int
  deriving DecidableEq
def Op.zero : Op := ⟨Ins.zero, false, 0, 0, 0⟩
instance : Inhabited Op := ⟨Op.zero⟩
def kOp : Kd Op := Kd.iso (Kd.pair kIns (Kd.pair Kd.bool (Kd.pair (Kd.int .i64) (Kd.pair (Kd.int .i64) (Kd.int .i64))))) (fun x => (x.ins, x.rel, x.kind, x.to, x.add))
def Op.wf (x : Op) : Prop := (Lit.int .i64 x.ins.op).wf = true ∧ (Lit.int .i64 x.ins.a).wf = true ∧ (Lit.int .i64 x.ins.b).wf = true ∧ (Lit.int .i64 x.ins.c).wf = true ∧ (Lit.int .i64 x.ins.imm).wf = true ∧ (Lit.int .i64 x.kind).wf = true ∧ (Lit.int .i64 x.to).wf = true ∧ (Lit.int .i64 x.add).wf = true
theorem kOp_open {w : World} {x : Op} {cs : List Value} (h : kOp.K w x cs) : cs = [.int .i64 x.ins.op, .int .i64 x.ins.a, .int .i64 x.ins.b, .int .i64 x.ins.c, .int .i64 x.ins.imm, .bool x.rel, .int .i64 x.kind, .int .i64 x.to, .int .i64 x.add] ∧ x.wf := by
  obtain ⟨_, _, rfl, s0, ⟨_, _, rfl, rfl, ⟨_, _, rfl, ⟨rfl, h2⟩, ⟨_, _, rfl, ⟨rfl, h3⟩, ⟨rfl, h4⟩⟩⟩⟩⟩ := h
  obtain ⟨rfl, q0⟩ := kIns_open s0
  exact ⟨rfl, ⟨q0.1, q0.2.1, q0.2.2.1, q0.2.2.2.1, q0.2.2.2.2, h2, h3, h4⟩⟩
theorem kOp_mk (w : World) (x : Op) (hw : x.wf) : kOp.K w x [.int .i64 x.ins.op, .int .i64 x.ins.a, .int .i64 x.ins.b, .int .i64 x.ins.c, .int .i64 x.ins.imm, .bool x.rel, .int .i64 x.kind, .int .i64 x.to, .int .i64 x.add] := by
  exact ⟨[.int .i64 x.ins.op, .int .i64 x.ins.a, .int .i64 x.ins.b, .int .i64 x.ins.c, .int .i64 x.ins.imm], [.bool x.rel, .int .i64 x.kind, .int .i64 x.to, .int .i64 x.add], rfl, (kIns_mk w x.ins ⟨hw.1, hw.2.1, hw.2.2.1, hw.2.2.2.1, hw.2.2.2.2.1⟩), ⟨[.bool x.rel], [.int .i64 x.kind, .int .i64 x.to, .int .i64 x.add], rfl, rfl, ⟨[.int .i64 x.kind], [.int .i64 x.to, .int .i64 x.add], rfl, ⟨rfl, hw.2.2.2.2.2.1⟩, ⟨[.int .i64 x.to], [.int .i64 x.add], rfl, ⟨rfl, hw.2.2.2.2.2.2.1⟩, ⟨rfl, hw.2.2.2.2.2.2.2⟩⟩⟩⟩⟩
theorem Op_at {w : World} {A : Option Addr} {xs : List Op} (h : kOp.C w A xs) {i : Nat} {x : Op} (hx : xs[i]? = some x) : ∃ ad, A = some ad ∧ w.cell? (ad.add (i * 9)) = some (.int .i64 x.ins.op) ∧ w.cell? ⟨(ad.add (i * 9)).block, (ad.add (i * 9)).off + 1, none⟩ = some (.int .i64 x.ins.a) ∧ w.cell? ⟨(ad.add (i * 9)).block, (ad.add (i * 9)).off + 2, none⟩ = some (.int .i64 x.ins.b) ∧ w.cell? ⟨(ad.add (i * 9)).block, (ad.add (i * 9)).off + 3, none⟩ = some (.int .i64 x.ins.c) ∧ w.cell? ⟨(ad.add (i * 9)).block, (ad.add (i * 9)).off + 4, none⟩ = some (.int .i64 x.ins.imm) ∧ w.cell? ⟨(ad.add (i * 9)).block, (ad.add (i * 9)).off + 5, none⟩ = some (.bool x.rel) ∧ w.cell? ⟨(ad.add (i * 9)).block, (ad.add (i * 9)).off + 6, none⟩ = some (.int .i64 x.kind) ∧ w.cell? ⟨(ad.add (i * 9)).block, (ad.add (i * 9)).off + 7, none⟩ = some (.int .i64 x.to) ∧ w.cell? ⟨(ad.add (i * 9)).block, (ad.add (i * 9)).off + 8, none⟩ = some (.int .i64 x.add) ∧ x.wf := by
  obtain ⟨ad, cs, e, hK, hc⟩ := h i x hx
  obtain ⟨rfl, hw⟩ := kOp_open hK
  replace hc : ∀ j u, ([.int .i64 x.ins.op, .int .i64 x.ins.a, .int .i64 x.ins.b, .int .i64 x.ins.c, .int .i64 x.ins.imm, .bool x.rel, .int .i64 x.kind, .int .i64 x.to, .int .i64 x.add] : List Value)[j]? = some u → w.cell? (ad.add (i * 9 + j)) = some u := hc
  exact ⟨ad, e, hc 0 _ rfl, (by rw [add_field _ _ 1 (by omega)]; exact hc 1 _ rfl), (by rw [add_field _ _ 2 (by omega)]; exact hc 2 _ rfl), (by rw [add_field _ _ 3 (by omega)]; exact hc 3 _ rfl), (by rw [add_field _ _ 4 (by omega)]; exact hc 4 _ rfl), (by rw [add_field _ _ 5 (by omega)]; exact hc 5 _ rfl), (by rw [add_field _ _ 6 (by omega)]; exact hc 6 _ rfl), (by rw [add_field _ _ 7 (by omega)]; exact hc 7 _ rfl), (by rw [add_field _ _ 8 (by omega)]; exact hc 8 _ rfl), hw⟩

structure Term where
  kind : Int
  op : Int
  a : Int
  b : Int
  to : Int
  els : Int
  ins : Ins
  deriving DecidableEq
def Term.zero : Term := ⟨0, 0, 0, 0, 0, 0, Ins.zero⟩
instance : Inhabited Term := ⟨Term.zero⟩
def kTerm : Kd Term := Kd.iso (Kd.pair (Kd.int .i64) (Kd.pair (Kd.int .i64) (Kd.pair (Kd.int .i64) (Kd.pair (Kd.int .i64) (Kd.pair (Kd.int .i64) (Kd.pair (Kd.int .i64) kIns)))))) (fun x => (x.kind, x.op, x.a, x.b, x.to, x.els, x.ins))
def Term.wf (x : Term) : Prop := (Lit.int .i64 x.kind).wf = true ∧ (Lit.int .i64 x.op).wf = true ∧ (Lit.int .i64 x.a).wf = true ∧ (Lit.int .i64 x.b).wf = true ∧ (Lit.int .i64 x.to).wf = true ∧ (Lit.int .i64 x.els).wf = true ∧ (Lit.int .i64 x.ins.op).wf = true ∧ (Lit.int .i64 x.ins.a).wf = true ∧ (Lit.int .i64 x.ins.b).wf = true ∧ (Lit.int .i64 x.ins.c).wf = true ∧ (Lit.int .i64 x.ins.imm).wf = true
theorem kTerm_open {w : World} {x : Term} {cs : List Value} (h : kTerm.K w x cs) : cs = [.int .i64 x.kind, .int .i64 x.op, .int .i64 x.a, .int .i64 x.b, .int .i64 x.to, .int .i64 x.els, .int .i64 x.ins.op, .int .i64 x.ins.a, .int .i64 x.ins.b, .int .i64 x.ins.c, .int .i64 x.ins.imm] ∧ x.wf := by
  obtain ⟨_, _, rfl, ⟨rfl, h0⟩, ⟨_, _, rfl, ⟨rfl, h1⟩, ⟨_, _, rfl, ⟨rfl, h2⟩, ⟨_, _, rfl, ⟨rfl, h3⟩, ⟨_, _, rfl, ⟨rfl, h4⟩, ⟨_, _, rfl, ⟨rfl, h5⟩, s6⟩⟩⟩⟩⟩⟩ := h
  obtain ⟨rfl, q6⟩ := kIns_open s6
  exact ⟨rfl, ⟨h0, h1, h2, h3, h4, h5, q6.1, q6.2.1, q6.2.2.1, q6.2.2.2.1, q6.2.2.2.2⟩⟩
theorem kTerm_mk (w : World) (x : Term) (hw : x.wf) : kTerm.K w x [.int .i64 x.kind, .int .i64 x.op, .int .i64 x.a, .int .i64 x.b, .int .i64 x.to, .int .i64 x.els, .int .i64 x.ins.op, .int .i64 x.ins.a, .int .i64 x.ins.b, .int .i64 x.ins.c, .int .i64 x.ins.imm] := by
  exact ⟨[.int .i64 x.kind], [.int .i64 x.op, .int .i64 x.a, .int .i64 x.b, .int .i64 x.to, .int .i64 x.els, .int .i64 x.ins.op, .int .i64 x.ins.a, .int .i64 x.ins.b, .int .i64 x.ins.c, .int .i64 x.ins.imm], rfl, ⟨rfl, hw.1⟩, ⟨[.int .i64 x.op], [.int .i64 x.a, .int .i64 x.b, .int .i64 x.to, .int .i64 x.els, .int .i64 x.ins.op, .int .i64 x.ins.a, .int .i64 x.ins.b, .int .i64 x.ins.c, .int .i64 x.ins.imm], rfl, ⟨rfl, hw.2.1⟩, ⟨[.int .i64 x.a], [.int .i64 x.b, .int .i64 x.to, .int .i64 x.els, .int .i64 x.ins.op, .int .i64 x.ins.a, .int .i64 x.ins.b, .int .i64 x.ins.c, .int .i64 x.ins.imm], rfl, ⟨rfl, hw.2.2.1⟩, ⟨[.int .i64 x.b], [.int .i64 x.to, .int .i64 x.els, .int .i64 x.ins.op, .int .i64 x.ins.a, .int .i64 x.ins.b, .int .i64 x.ins.c, .int .i64 x.ins.imm], rfl, ⟨rfl, hw.2.2.2.1⟩, ⟨[.int .i64 x.to], [.int .i64 x.els, .int .i64 x.ins.op, .int .i64 x.ins.a, .int .i64 x.ins.b, .int .i64 x.ins.c, .int .i64 x.ins.imm], rfl, ⟨rfl, hw.2.2.2.2.1⟩, ⟨[.int .i64 x.els], [.int .i64 x.ins.op, .int .i64 x.ins.a, .int .i64 x.ins.b, .int .i64 x.ins.c, .int .i64 x.ins.imm], rfl, ⟨rfl, hw.2.2.2.2.2.1⟩, (kIns_mk w x.ins ⟨hw.2.2.2.2.2.2.1, hw.2.2.2.2.2.2.2.1, hw.2.2.2.2.2.2.2.2.1, hw.2.2.2.2.2.2.2.2.2.1, hw.2.2.2.2.2.2.2.2.2.2⟩)⟩⟩⟩⟩⟩⟩
theorem Term_at {w : World} {A : Option Addr} {xs : List Term} (h : kTerm.C w A xs) {i : Nat} {x : Term} (hx : xs[i]? = some x) : ∃ ad, A = some ad ∧ w.cell? (ad.add (i * 11)) = some (.int .i64 x.kind) ∧ w.cell? ⟨(ad.add (i * 11)).block, (ad.add (i * 11)).off + 1, none⟩ = some (.int .i64 x.op) ∧ w.cell? ⟨(ad.add (i * 11)).block, (ad.add (i * 11)).off + 2, none⟩ = some (.int .i64 x.a) ∧ w.cell? ⟨(ad.add (i * 11)).block, (ad.add (i * 11)).off + 3, none⟩ = some (.int .i64 x.b) ∧ w.cell? ⟨(ad.add (i * 11)).block, (ad.add (i * 11)).off + 4, none⟩ = some (.int .i64 x.to) ∧ w.cell? ⟨(ad.add (i * 11)).block, (ad.add (i * 11)).off + 5, none⟩ = some (.int .i64 x.els) ∧ w.cell? ⟨(ad.add (i * 11)).block, (ad.add (i * 11)).off + 6, none⟩ = some (.int .i64 x.ins.op) ∧ w.cell? ⟨(ad.add (i * 11)).block, (ad.add (i * 11)).off + 7, none⟩ = some (.int .i64 x.ins.a) ∧ w.cell? ⟨(ad.add (i * 11)).block, (ad.add (i * 11)).off + 8, none⟩ = some (.int .i64 x.ins.b) ∧ w.cell? ⟨(ad.add (i * 11)).block, (ad.add (i * 11)).off + 9, none⟩ = some (.int .i64 x.ins.c) ∧ w.cell? ⟨(ad.add (i * 11)).block, (ad.add (i * 11)).off + 10, none⟩ = some (.int .i64 x.ins.imm) ∧ x.wf := by
  obtain ⟨ad, cs, e, hK, hc⟩ := h i x hx
  obtain ⟨rfl, hw⟩ := kTerm_open hK
  replace hc : ∀ j u, ([.int .i64 x.kind, .int .i64 x.op, .int .i64 x.a, .int .i64 x.b, .int .i64 x.to, .int .i64 x.els, .int .i64 x.ins.op, .int .i64 x.ins.a, .int .i64 x.ins.b, .int .i64 x.ins.c, .int .i64 x.ins.imm] : List Value)[j]? = some u → w.cell? (ad.add (i * 11 + j)) = some u := hc
  exact ⟨ad, e, hc 0 _ rfl, (by rw [add_field _ _ 1 (by omega)]; exact hc 1 _ rfl), (by rw [add_field _ _ 2 (by omega)]; exact hc 2 _ rfl), (by rw [add_field _ _ 3 (by omega)]; exact hc 3 _ rfl), (by rw [add_field _ _ 4 (by omega)]; exact hc 4 _ rfl), (by rw [add_field _ _ 5 (by omega)]; exact hc 5 _ rfl), (by rw [add_field _ _ 6 (by omega)]; exact hc 6 _ rfl), (by rw [add_field _ _ 7 (by omega)]; exact hc 7 _ rfl), (by rw [add_field _ _ 8 (by omega)]; exact hc 8 _ rfl), (by rw [add_field _ _ 9 (by omega)]; exact hc 9 _ rfl), (by rw [add_field _ _ 10 (by omega)]; exact hc 10 _ rfl), hw⟩

structure Block where
  ops : List Op
  fin : Term
  deriving DecidableEq
def Block.zero : Block := ⟨[], Term.zero⟩
instance : Inhabited Block := ⟨Block.zero⟩
def kBlock : Kd Block := Kd.iso (Kd.pair (Kd.slice kOp) kTerm) (fun x => (x.ops, x.fin))
def Block.wf (x : Block) : Prop := (Lit.int .i64 x.fin.kind).wf = true ∧ (Lit.int .i64 x.fin.op).wf = true ∧ (Lit.int .i64 x.fin.a).wf = true ∧ (Lit.int .i64 x.fin.b).wf = true ∧ (Lit.int .i64 x.fin.to).wf = true ∧ (Lit.int .i64 x.fin.els).wf = true ∧ (Lit.int .i64 x.fin.ins.op).wf = true ∧ (Lit.int .i64 x.fin.ins.a).wf = true ∧ (Lit.int .i64 x.fin.ins.b).wf = true ∧ (Lit.int .i64 x.fin.ins.c).wf = true ∧ (Lit.int .i64 x.fin.ins.imm).wf = true
theorem kBlock_open {w : World} {x : Block} {cs : List Value} (h : kBlock.K w x cs) : ∃ A0 c0, cs = [.slice A0 x.ops.length c0, .int .i64 x.fin.kind, .int .i64 x.fin.op, .int .i64 x.fin.a, .int .i64 x.fin.b, .int .i64 x.fin.to, .int .i64 x.fin.els, .int .i64 x.fin.ins.op, .int .i64 x.fin.ins.a, .int .i64 x.fin.ins.b, .int .i64 x.fin.ins.c, .int .i64 x.fin.ins.imm] ∧ x.wf ∧ x.ops.length ≤ c0 ∧ c0 ≤ maxLen ∧ kOp.C w A0 x.ops := by
  obtain ⟨_, _, rfl, ⟨A0, c0, rfl, l0, m0, g0⟩, s1⟩ := h
  obtain ⟨rfl, q1⟩ := kTerm_open s1
  exact ⟨A0, c0, rfl, ⟨q1.1, q1.2.1, q1.2.2.1, q1.2.2.2.1, q1.2.2.2.2.1, q1.2.2.2.2.2.1, q1.2.2.2.2.2.2.1, q1.2.2.2.2.2.2.2.1, q1.2.2.2.2.2.2.2.2.1, q1.2.2.2.2.2.2.2.2.2.1, q1.2.2.2.2.2.2.2.2.2.2⟩, l0, m0, g0⟩
theorem kBlock_mk (w : World) (x : Block) {A0 : Option Addr} {c0 : Nat} (hw : x.wf) (l0 : x.ops.length ≤ c0) (m0 : c0 ≤ maxLen) (g0 : kOp.C w A0 x.ops) : kBlock.K w x [.slice A0 x.ops.length c0, .int .i64 x.fin.kind, .int .i64 x.fin.op, .int .i64 x.fin.a, .int .i64 x.fin.b, .int .i64 x.fin.to, .int .i64 x.fin.els, .int .i64 x.fin.ins.op, .int .i64 x.fin.ins.a, .int .i64 x.fin.ins.b, .int .i64 x.fin.ins.c, .int .i64 x.fin.ins.imm] := by
  exact ⟨[.slice A0 x.ops.length c0], [.int .i64 x.fin.kind, .int .i64 x.fin.op, .int .i64 x.fin.a, .int .i64 x.fin.b, .int .i64 x.fin.to, .int .i64 x.fin.els, .int .i64 x.fin.ins.op, .int .i64 x.fin.ins.a, .int .i64 x.fin.ins.b, .int .i64 x.fin.ins.c, .int .i64 x.fin.ins.imm], rfl, ⟨_, _, rfl, l0, m0, g0⟩, (kTerm_mk w x.fin ⟨hw.1, hw.2.1, hw.2.2.1, hw.2.2.2.1, hw.2.2.2.2.1, hw.2.2.2.2.2.1, hw.2.2.2.2.2.2.1, hw.2.2.2.2.2.2.2.1, hw.2.2.2.2.2.2.2.2.1, hw.2.2.2.2.2.2.2.2.2.1, hw.2.2.2.2.2.2.2.2.2.2⟩)⟩
theorem Block_at {w : World} {A : Option Addr} {xs : List Block} (h : kBlock.C w A xs) {i : Nat} {x : Block} (hx : xs[i]? = some x) : ∃ ad A0 c0, A = some ad ∧ w.cell? (ad.add (i * 12)) = some (.slice A0 x.ops.length c0) ∧ w.cell? ⟨(ad.add (i * 12)).block, (ad.add (i * 12)).off + 1, none⟩ = some (.int .i64 x.fin.kind) ∧ w.cell? ⟨(ad.add (i * 12)).block, (ad.add (i * 12)).off + 2, none⟩ = some (.int .i64 x.fin.op) ∧ w.cell? ⟨(ad.add (i * 12)).block, (ad.add (i * 12)).off + 3, none⟩ = some (.int .i64 x.fin.a) ∧ w.cell? ⟨(ad.add (i * 12)).block, (ad.add (i * 12)).off + 4, none⟩ = some (.int .i64 x.fin.b) ∧ w.cell? ⟨(ad.add (i * 12)).block, (ad.add (i * 12)).off + 5, none⟩ = some (.int .i64 x.fin.to) ∧ w.cell? ⟨(ad.add (i * 12)).block, (ad.add (i * 12)).off + 6, none⟩ = some (.int .i64 x.fin.els) ∧ w.cell? ⟨(ad.add (i * 12)).block, (ad.add (i * 12)).off + 7, none⟩ = some (.int .i64 x.fin.ins.op) ∧ w.cell? ⟨(ad.add (i * 12)).block, (ad.add (i * 12)).off + 8, none⟩ = some (.int .i64 x.fin.ins.a) ∧ w.cell? ⟨(ad.add (i * 12)).block, (ad.add (i * 12)).off + 9, none⟩ = some (.int .i64 x.fin.ins.b) ∧ w.cell? ⟨(ad.add (i * 12)).block, (ad.add (i * 12)).off + 10, none⟩ = some (.int .i64 x.fin.ins.c) ∧ w.cell? ⟨(ad.add (i * 12)).block, (ad.add (i * 12)).off + 11, none⟩ = some (.int .i64 x.fin.ins.imm) ∧ x.wf ∧ x.ops.length ≤ c0 ∧ c0 ≤ maxLen ∧ kOp.C w A0 x.ops := by
  obtain ⟨ad, cs, e, hK, hc⟩ := h i x hx
  obtain ⟨A0, c0, rfl, hw, l0, m0, g0⟩ := kBlock_open hK
  replace hc : ∀ j u, ([.slice A0 x.ops.length c0, .int .i64 x.fin.kind, .int .i64 x.fin.op, .int .i64 x.fin.a, .int .i64 x.fin.b, .int .i64 x.fin.to, .int .i64 x.fin.els, .int .i64 x.fin.ins.op, .int .i64 x.fin.ins.a, .int .i64 x.fin.ins.b, .int .i64 x.fin.ins.c, .int .i64 x.fin.ins.imm] : List Value)[j]? = some u → w.cell? (ad.add (i * 12 + j)) = some u := hc
  exact ⟨ad, A0, c0, e, hc 0 _ rfl, (by rw [add_field _ _ 1 (by omega)]; exact hc 1 _ rfl), (by rw [add_field _ _ 2 (by omega)]; exact hc 2 _ rfl), (by rw [add_field _ _ 3 (by omega)]; exact hc 3 _ rfl), (by rw [add_field _ _ 4 (by omega)]; exact hc 4 _ rfl), (by rw [add_field _ _ 5 (by omega)]; exact hc 5 _ rfl), (by rw [add_field _ _ 6 (by omega)]; exact hc 6 _ rfl), (by rw [add_field _ _ 7 (by omega)]; exact hc 7 _ rfl), (by rw [add_field _ _ 8 (by omega)]; exact hc 8 _ rfl), (by rw [add_field _ _ 9 (by omega)]; exact hc 9 _ rfl), (by rw [add_field _ _ 10 (by omega)]; exact hc 10 _ rfl), (by rw [add_field _ _ 11 (by omega)]; exact hc 11 _ rfl), hw, l0, m0, g0⟩

structure Graph where
  name : ByteArray
  keep : Bool
  leaf : Bool
  blocks : List Block
  deriving DecidableEq
def Graph.zero : Graph := ⟨ByteArray.empty, false, false, []⟩
instance : Inhabited Graph := ⟨Graph.zero⟩
def kGraph : Kd Graph := Kd.iso (Kd.pair Kd.string (Kd.pair Kd.bool (Kd.pair Kd.bool (Kd.slice kBlock)))) (fun x => (x.name, x.keep, x.leaf, x.blocks))
def Graph.wf (x : Graph) : Prop := x.name.size ≤ maxLen
theorem kGraph_open {w : World} {x : Graph} {cs : List Value} (h : kGraph.K w x cs) : ∃ A0 c0, cs = [.string x.name, .bool x.keep, .bool x.leaf, .slice A0 x.blocks.length c0] ∧ x.wf ∧ x.blocks.length ≤ c0 ∧ c0 ≤ maxLen ∧ kBlock.C w A0 x.blocks := by
  obtain ⟨_, _, rfl, ⟨rfl, h0⟩, ⟨_, _, rfl, rfl, ⟨_, _, rfl, rfl, ⟨A3, c3, rfl, l3, m3, g3⟩⟩⟩⟩ := h
  exact ⟨A3, c3, rfl, h0, l3, m3, g3⟩
theorem kGraph_mk (w : World) (x : Graph) {A0 : Option Addr} {c0 : Nat} (hw : x.wf) (l0 : x.blocks.length ≤ c0) (m0 : c0 ≤ maxLen) (g0 : kBlock.C w A0 x.blocks) : kGraph.K w x [.string x.name, .bool x.keep, .bool x.leaf, .slice A0 x.blocks.length c0] := by
  exact ⟨[.string x.name], [.bool x.keep, .bool x.leaf, .slice A0 x.blocks.length c0], rfl, ⟨rfl, hw⟩, ⟨[.bool x.keep], [.bool x.leaf, .slice A0 x.blocks.length c0], rfl, rfl, ⟨[.bool x.leaf], [.slice A0 x.blocks.length c0], rfl, rfl, ⟨_, _, rfl, l0, m0, g0⟩⟩⟩⟩
theorem Graph_at {w : World} {A : Option Addr} {xs : List Graph} (h : kGraph.C w A xs) {i : Nat} {x : Graph} (hx : xs[i]? = some x) : ∃ ad A0 c0, A = some ad ∧ w.cell? (ad.add (i * 4)) = some (.string x.name) ∧ w.cell? ⟨(ad.add (i * 4)).block, (ad.add (i * 4)).off + 1, none⟩ = some (.bool x.keep) ∧ w.cell? ⟨(ad.add (i * 4)).block, (ad.add (i * 4)).off + 2, none⟩ = some (.bool x.leaf) ∧ w.cell? ⟨(ad.add (i * 4)).block, (ad.add (i * 4)).off + 3, none⟩ = some (.slice A0 x.blocks.length c0) ∧ x.wf ∧ x.blocks.length ≤ c0 ∧ c0 ≤ maxLen ∧ kBlock.C w A0 x.blocks := by
  obtain ⟨ad, cs, e, hK, hc⟩ := h i x hx
  obtain ⟨A0, c0, rfl, hw, l0, m0, g0⟩ := kGraph_open hK
  replace hc : ∀ j u, ([.string x.name, .bool x.keep, .bool x.leaf, .slice A0 x.blocks.length c0] : List Value)[j]? = some u → w.cell? (ad.add (i * 4 + j)) = some u := hc
  exact ⟨ad, A0, c0, e, hc 0 _ rfl, (by rw [add_field _ _ 1 (by omega)]; exact hc 1 _ rfl), (by rw [add_field _ _ 2 (by omega)]; exact hc 2 _ rfl), (by rw [add_field _ _ 3 (by omega)]; exact hc 3 _ rfl), hw, l0, m0, g0⟩

structure Edge where
  func : ByteArray
  src : Int
  to : Int
  w : Nat
  deriving DecidableEq
def Edge.zero : Edge := ⟨ByteArray.empty, 0, 0, 0⟩
instance : Inhabited Edge := ⟨Edge.zero⟩
def kEdge : Kd Edge := Kd.iso (Kd.pair Kd.string (Kd.pair (Kd.int .i64) (Kd.pair (Kd.int .i64) (Kd.float .f64)))) (fun x => (x.func, x.src, x.to, x.w))
def Edge.wf (x : Edge) : Prop := x.func.size ≤ maxLen ∧ (Lit.int .i64 x.src).wf = true ∧ (Lit.int .i64 x.to).wf = true ∧ (Lit.float .f64 x.w).wf = true
theorem kEdge_open {w : World} {x : Edge} {cs : List Value} (h : kEdge.K w x cs) : cs = [.string x.func, .int .i64 x.src, .int .i64 x.to, .float .f64 x.w] ∧ x.wf := by
  obtain ⟨_, _, rfl, ⟨rfl, h0⟩, ⟨_, _, rfl, ⟨rfl, h1⟩, ⟨_, _, rfl, ⟨rfl, h2⟩, ⟨rfl, h3⟩⟩⟩⟩ := h
  exact ⟨rfl, ⟨h0, h1, h2, h3⟩⟩
theorem kEdge_mk (w : World) (x : Edge) (hw : x.wf) : kEdge.K w x [.string x.func, .int .i64 x.src, .int .i64 x.to, .float .f64 x.w] := by
  exact ⟨[.string x.func], [.int .i64 x.src, .int .i64 x.to, .float .f64 x.w], rfl, ⟨rfl, hw.1⟩, ⟨[.int .i64 x.src], [.int .i64 x.to, .float .f64 x.w], rfl, ⟨rfl, hw.2.1⟩, ⟨[.int .i64 x.to], [.float .f64 x.w], rfl, ⟨rfl, hw.2.2.1⟩, ⟨rfl, hw.2.2.2⟩⟩⟩⟩
theorem Edge_at {w : World} {A : Option Addr} {xs : List Edge} (h : kEdge.C w A xs) {i : Nat} {x : Edge} (hx : xs[i]? = some x) : ∃ ad, A = some ad ∧ w.cell? (ad.add (i * 4)) = some (.string x.func) ∧ w.cell? ⟨(ad.add (i * 4)).block, (ad.add (i * 4)).off + 1, none⟩ = some (.int .i64 x.src) ∧ w.cell? ⟨(ad.add (i * 4)).block, (ad.add (i * 4)).off + 2, none⟩ = some (.int .i64 x.to) ∧ w.cell? ⟨(ad.add (i * 4)).block, (ad.add (i * 4)).off + 3, none⟩ = some (.float .f64 x.w) ∧ x.wf := by
  obtain ⟨ad, cs, e, hK, hc⟩ := h i x hx
  obtain ⟨rfl, hw⟩ := kEdge_open hK
  replace hc : ∀ j u, ([.string x.func, .int .i64 x.src, .int .i64 x.to, .float .f64 x.w] : List Value)[j]? = some u → w.cell? (ad.add (i * 4 + j)) = some u := hc
  exact ⟨ad, e, hc 0 _ rfl, (by rw [add_field _ _ 1 (by omega)]; exact hc 1 _ rfl), (by rw [add_field _ _ 2 (by omega)]; exact hc 2 _ rfl), (by rw [add_field _ _ 3 (by omega)]; exact hc 3 _ rfl), hw⟩

theorem ints_at {w : World} {A : Option Addr} {xs : List Int} (h : (Kd.int .i64).C w A xs) {i : Nat} {x : Int} (hx : xs[i]? = some x) : ∃ ad, A = some ad ∧ w.cell? (ad.add i) = some (.int .i64 x) := by
  obtain ⟨ad, cs, e, hK, hc⟩ := h i x hx
  replace hc : ∀ j u, cs[j]? = some u → w.cell? (ad.add (i * 1 + j)) = some u := hc
  obtain rfl : cs = [.int .i64 x] := by first | exact hK | exact hK.1
  refine ⟨ad, e, ?_⟩
  have h0 := hc 0 _ rfl
  rwa [Nat.mul_one, Nat.add_zero] at h0
theorem u16s_at {w : World} {A : Option Addr} {xs : List Int} (h : (Kd.int .u16).C w A xs) {i : Nat} {x : Int} (hx : xs[i]? = some x) : ∃ ad, A = some ad ∧ w.cell? (ad.add i) = some (.int .u16 x) := by
  obtain ⟨ad, cs, e, hK, hc⟩ := h i x hx
  replace hc : ∀ j u, cs[j]? = some u → w.cell? (ad.add (i * 1 + j)) = some u := hc
  obtain rfl : cs = [.int .u16 x] := by first | exact hK | exact hK.1
  refine ⟨ad, e, ?_⟩
  have h0 := hc 0 _ rfl
  rwa [Nat.mul_one, Nat.add_zero] at h0
theorem bools_at {w : World} {A : Option Addr} {xs : List Bool} (h : Kd.bool.C w A xs) {i : Nat} {x : Bool} (hx : xs[i]? = some x) : ∃ ad, A = some ad ∧ w.cell? (ad.add i) = some (.bool x) := by
  obtain ⟨ad, cs, e, hK, hc⟩ := h i x hx
  replace hc : ∀ j u, cs[j]? = some u → w.cell? (ad.add (i * 1 + j)) = some u := hc
  obtain rfl : cs = [.bool x] := by first | exact hK | exact hK.1
  refine ⟨ad, e, ?_⟩
  have h0 := hc 0 _ rfl
  rwa [Nat.mul_one, Nat.add_zero] at h0
end Go.Proofs.Ythnkikdbllkmkaa
namespace Go.Proofs.Ythnkikdbllkmkaa
set_option linter.unusedVariables false
set_option linter.unusedSimpArgs false

def three (op : Int) : Bool := decide (1 ≤ op ∧ op ≤ 7)
def reg (n : Int) : Bool := decide (0 ≤ n ∧ n ≤ 15)
def near (op : Int) : Bool := op == 8 || decide (11 ≤ op ∧ op ≤ 14)
def branch (op : Int) : Bool := decide (15 ≤ op ∧ op ≤ 18)
def far (op : Int) : Bool := op == 19 || op == 20
def one (op : Int) : Bool := op == 0 || op == 22 || op == 23
def Ins.right (i : Ins) : Bool :=
  if three i.op then reg i.a && reg i.b && reg i.c && i.imm == 0 else
  if i.c ≠ 0 then false else
  if near i.op then reg i.a && reg i.b && decide (-32768 ≤ i.imm) && decide (i.imm ≤ 32767) else
  if i.op = 10 then reg i.a && reg i.b && decide (0 ≤ i.imm) && decide (i.imm ≤ 65535) else
  if branch i.op then reg i.a && reg i.b && decide (-128 ≤ i.imm) && decide (i.imm ≤ 127) else
  if i.b ≠ 0 then false else
  if i.op = 9 then reg i.a && decide (0 ≤ i.imm) && decide (i.imm ≤ 65535) else
  if one i.op then reg i.a && i.imm == 0 else
  if far i.op then i.a == 0 && decide (-8388608 ≤ i.imm) && decide (i.imm ≤ 8388607) else
  (i.op == 21 || i.op == 24 || i.op == 25) && i.a == 0 && i.imm == 0
def kindOf (op : Int) : Int := ([5, 0, 0, 0, 0, 0, 0, 0, 0, 0, 0, 1, 1, 1, 1, 2, 2, 2, 2, 3, 4, 5, 1, 1, 0, 5] : List Int).getD op.toNat 0
def Ins.kind (i : Ins) : Int := kindOf i.op

theorem Ins.right_op {i : Ins} (h : i.right = true) : 0 ≤ i.op ∧ i.op < 26 := by
  unfold Ins.right three near branch far one at h
  repeat' split at h
  all_goals simp_all
  all_goals omega

def Op.right (o : Op) (funcs datas : Int) : Bool :=
  if !o.ins.right then false else
  if !o.rel then decide (o.ins.kind ≤ 1) && o.kind == 0 && o.to == 0 && o.add == 0 else
  if o.ins.imm ≠ 0 ∨ o.to < 0 then false else
  if o.ins.kind = 4 then o.kind == 1 && decide (o.to < funcs) && o.add == 0 else
  (o.kind == 2 && o.ins.op == 9 || o.kind == 3 && o.ins.op == 10) && decide (o.to < datas) && decide (-1048576 ≤ o.add) && decide (o.add ≤ 1048576)

def Term.none (t : Term) : Bool := t.op == 0 && t.a == 0 && t.b == 0 && t.els == 0
def Term.right (t : Term) (blocks funcs : Int) : Bool :=
  if t.kind = 1 then t.none && t.ins == Ins.zero && decide (0 ≤ t.to) && decide (t.to < blocks) else
  if t.kind = 4 then t.none && t.ins == Ins.zero && decide (0 ≤ t.to) && decide (t.to < funcs) else
  if t.kind = 3 then t.none && t.to == 0 && t.ins.right && t.ins.kind == 5 else
  t.kind == 2 && t.ins == Ins.zero && decide (15 ≤ t.op) && decide (t.op ≤ 18) && decide (0 ≤ t.a) && decide (t.a < 16) && decide (0 ≤ t.b) && decide (t.b < 16) && decide (0 ≤ t.to) && decide (t.to < blocks) && decide (0 ≤ t.els) && decide (t.els < blocks)

def Block.right (b : Block) (blocks funcs datas : Int) : Bool := b.ops.all (fun o => o.right funcs datas) && b.fin.right blocks funcs
def blocksRight (bs : List Block) (funcs datas : Int) : Bool := bs.all (fun b => b.right bs.length funcs datas) && decide (0 < bs.length)
def Graph.right (g : Graph) (funcs datas : Int) : Bool := blocksRight g.blocks funcs datas
def blocksFew (bs : List Block) : Bool := (bs.take 300).all (fun b => decide (b.ops.length ≤ 300)) && decide (bs.length ≤ 200)
def Graph.few (g : Graph) : Bool := blocksFew g.blocks
end Go.Proofs.Ythnkikdbllkmkaa
namespace Go.Proofs.Ythnkikdbllkmkaa
set_option linter.unusedVariables false
set_option linter.unusedSimpArgs false

def fkind (op : Int) : Int :=
  if op = 11 ∨ op = 12 ∨ op = 13 ∨ op = 14 ∨ op = 22 ∨ op = 23 then 1 else if 15 ≤ op ∧ op ≤ 18 then 2 else if op = 19 then 3 else if op = 20 then 4 else if op = 0 ∨ op = 21 ∨ op = 25 then 5 else 0
theorem fkind_kindOf {op : Int} (h0 : 0 ≤ op) (h1 : op < 26) : fkind op = kindOf op := by
  have : op = 0 ∨ op = 1 ∨ op = 2 ∨ op = 3 ∨ op = 4 ∨ op = 5 ∨ op = 6 ∨ op = 7 ∨ op = 8 ∨ op = 9 ∨ op = 10 ∨ op = 11 ∨ op = 12 ∨ op = 13 ∨ op = 14 ∨ op = 15 ∨ op = 16 ∨ op = 17 ∨ op = 18 ∨ op = 19 ∨ op = 20 ∨ op = 21 ∨ op = 22 ∨ op = 23 ∨ op = 24 ∨ op = 25 := by omega
  rcases this with rfl | rfl | rfl | rfl | rfl | rfl | rfl | rfl | rfl | rfl | rfl | rfl | rfl | rfl | rfl | rfl | rfl | rfl | rfl | rfl | rfl | rfl | rfl | rfl | rfl | rfl <;> rfl
/-- The register that an instruction writes; -1: none. -/
def writes (op a : Int) : Int := if (1 ≤ op ∧ op ≤ 11 ∨ op = 13 ∨ op = 22) ∧ a ≠ 0 then a else -1
def refWrites (op a : Int) : Int := if 0 < a ∧ (0 < op ∧ op < 12 ∨ op = 13 ∨ op = 22) then a else -1
def flip (op : Int) : Int := if op = 15 ∨ op = 17 then op + 1 else if op = 16 ∨ op = 18 then op - 1 else -1
def falls (op : Int) : Bool := fkind op != 3 && fkind op != 5
def rawReads (op a b c : Int) : List Int :=
  if 1 ≤ op ∧ op ≤ 7 then [c, b] else if op = 8 ∨ op = 10 ∨ op = 11 ∨ op = 13 then [b] else if op = 12 ∨ 14 ≤ op ∧ op ≤ 18 then [b, a] else if op = 0 ∨ op = 23 then [a] else []
/-- Does an instruction read a register? -/
def refReads (op a b c r : Int) : Bool :=
  if r = 0 then false else
  (op == 0 || op == 12 || decide (14 ≤ op) && decide (op ≤ 18) || op == 23) && a == r || (decide (1 ≤ op) && decide (op ≤ 8) || decide (10 ≤ op) && decide (op ≤ 18)) && b == r || (decide (1 ≤ op) && decide (op ≤ 7)) && c == r
theorem refReads_iff {op a b c r : Int} : refReads op a b c r = true ↔ r ≠ 0 ∧ ((op = 0 ∨ op = 12 ∨ 14 ≤ op ∧ op ≤ 18 ∨ op = 23) ∧ a = r ∨ (1 ≤ op ∧ op ≤ 8 ∨ 10 ≤ op ∧ op ≤ 18) ∧ b = r ∨ (1 ≤ op ∧ op ≤ 7) ∧ c = r) := by
  unfold refReads
  by_cases h : r = 0
  · simp [h]
  · rw [if_neg h]
    simp [h]
    omega
def refList (op a b c : Int) : List Int := ((List.range 15).map fun (i : Nat) => ((i : Int) + 1)).filter fun r => refReads op a b c r
end Go.Proofs.Ythnkikdbllkmkaa
namespace Go.Proofs.Ythnkikdbllkmkaa
set_option linter.unusedVariables false
set_option linter.unusedSimpArgs false
open Go.RowKit

theorem flatten_get {s : Nat} : ∀ {css : List (List Value)} {i j : Nat} {cs : List Value} {v : Value}, (∀ cs ∈ css, cs.length = s) → css[i]? = some cs → cs[j]? = some v → css.flatten[i * s + j]? = some v
  | [], i, j, cs, v, _, h, _ => by simp at h
  | c :: r, 0, j, cs, v, hl, h, hj => by
    simp at h
    subst h
    rw [List.flatten_cons, Nat.zero_mul, Nat.zero_add, List.getElem?_append_left (List.getElem?_eq_some_iff.1 hj).1]
    exact hj
  | c :: r, i + 1, j, cs, v, hl, h, hj => by
    have hc := hl c (by simp)
    rw [List.flatten_cons, List.getElem?_append_right (by rw [hc, Nat.succ_mul]; omega)]
    have e : (i + 1) * s + j - c.length = i * s + j := by rw [hc, Nat.succ_mul]; omega
    rw [e]
    exact flatten_get (fun cs h => hl cs (by simp [h])) (by simpa using h) hj

theorem C_lit {α : Type} (k : Kd α) (W : World) (b : Nat) (hb : b = W.heap.size) (T : TypeId) (xs : List α) (css : List (List Value)) (cells : Array Value) (hcells : cells = css.flatten.toArray) (hlen : css.length = xs.length) (hK : ∀ (i : Nat) (x : α) (cs : List Value), xs[i]? = some x → css[i]? = some cs → k.K W x cs) : k.C (W.alloc (.cells cells T)) (some ⟨b, 0, none⟩) xs := by
  subst hb hcells
  have hall : ∀ cs ∈ css, cs.length = k.size := by
    intro cs hcs
    obtain ⟨i, hi⟩ := List.mem_iff_getElem?.1 hcs
    obtain ⟨x, hx⟩ := get_some xs i (by rw [← hlen]; exact (List.getElem?_eq_some_iff.1 hi).1)
    exact k.len (hK i x cs hx hi)
  intro i x hx
  obtain ⟨cs, hcs⟩ := get_some css i (by rw [hlen]; exact (List.getElem?_eq_some_iff.1 hx).1)
  refine ⟨_, cs, rfl, k.mono ((Below.refl _ _).alloc (Nat.le_refl _) _) (hK i x cs hx hcs), fun j v hv => ?_⟩
  have hf := flatten_get hall hcs hv
  have ha : (⟨W.heap.size, 0, none⟩ : Addr).add (i * k.size + j) = ⟨W.heap.size, i * k.size + j, none⟩ := by
    unfold Addr.add
    by_cases h0 : i * k.size + j = 0
    · rw [if_pos h0, h0]
    · rw [if_neg h0, Nat.zero_add]
  rw [ha]
  simp [hf]
theorem C_one {α : Type} (k : Kd α) (W : World) (b : Nat) (hb : b = W.heap.size) (T : TypeId) (x : α) (cells : Array Value) (hK : k.K W x cells.toList) : k.C (W.alloc (.cells cells T)) (some ⟨b, 0, none⟩) [x] := by
  refine C_lit k W b hb T [x] [cells.toList] cells (by simp) rfl ?_
  intro i y cs hx hc
  cases i with
  | zero => simp at hx hc; subst hx hc; exact hK
  | succ i => simp at hx
theorem C_nil {α : Type} (k : Kd α) (W : World) (A : Option Addr) : k.C W A [] := fun i x hx => by simp at hx
end Go.Proofs.Ythnkikdbllkmkaa
