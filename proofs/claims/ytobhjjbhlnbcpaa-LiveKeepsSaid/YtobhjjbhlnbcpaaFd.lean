/- Rows of cells in blocks of the call's own. -/
import Derived.Test.YtobhjjbhlnbcpaaFc
namespace Go.Proofs.Ytobhjjbhlnbcpaa
set_option linter.unusedVariables false
set_option linter.unusedSimpArgs false
open Go.RowKit

def Row (w : World) (g : Nat) (T : TypeId) (cs : List Value) : Prop := w.heap[g]? = some (.cells cs.toArray T (0, 0))
theorem Row.new (w : World) (T : TypeId) (cells : Array Value) : Row (w.alloc (.cells cells T)) w.heap.size T cells.toList := by
  unfold Row
  rw [heap_alloc_new]
theorem Row.lt {w : World} {g : Nat} {T : TypeId} {cs : List Value} (h : Row w g T cs) : g < w.heap.size := (Array.getElem?_eq_some_iff.1 h).1
theorem Row.keep {w w' : World} {g : Nat} {T : TypeId} {cs : List Value} (h : Row w g T cs) (hb : w'.heap[g]? = w.heap[g]?) : Row w' g T cs := hb.trans h
theorem Row.below {w w' : World} {g : Nat} {T : TypeId} {cs : List Value} (h : Row w g T cs) (hb : Below w.heap.size w w') : Row w' g T cs := h.keep (hb.block g h.lt)
theorem Row.belowAt {B : Nat} {w w' : World} {g : Nat} {T : TypeId} {cs : List Value} (h : Row w g T cs) (hb : Below B w w') (hg : g < B) : Row w' g T cs := h.keep (hb.block g hg)
theorem Row.grown {w w' : World} {g : Nat} {T : TypeId} {cs : List Value} (h : Row w g T cs) {r : Option Nat} (hg : w.grownBy w' r) (hr : r ≠ some g) : Row w' g T cs := h.keep (hg.block g h.lt (fun e => hr e.symm))
theorem Row.cell {w : World} {g : Nat} {T : TypeId} {cs : List Value} (h : Row w g T cs) {j : Nat} {u : Value} (hu : cs[j]? = some u) : w.cell? ⟨g, j, none⟩ = some u := by
  rw [cell_of_row w g j _ _ _ h]
  simpa using hu
theorem Row.frozen {w : World} {g : Nat} {T : TypeId} {cs : List Value} (h : Row w g T cs) (j : Nat) : w.frozen? ⟨g, j, none⟩ = false := frozen_of_row w g j _ _ h
theorem Row.set {w : World} {g : Nat} {T : TypeId} {cs : List Value} (h : Row w g T cs) (j : Nat) (u : Value) : Row (w.setCell ⟨g, j, none⟩ u) g T (cs.set j u) := by
  unfold Row
  rw [heap_setCell_same w g j _ _ u h]
  simp

theorem grown_tr {w w1 w2 : World} {r : Option Nat} (h : w.grownBy w1 r) (k : w1.grownBy w2 r) : w.grownBy w2 r :=
  ⟨k.os.trans h.os, k.tape.trans h.tape, k.output.trans h.output, Nat.le_trans h.size k.size, fun i hi hn => (k.block i (Nat.lt_of_lt_of_le hi h.size) hn).trans (h.block i hi hn)⟩
theorem grown_past {X w1 w2 : World} {r r2 : Option Nat} (h : X.grownBy w1 r) (k : w1.grownBy w2 r2) (hr : ∀ g, r2 = some g → X.heap.size ≤ g) : X.grownBy w2 r :=
  ⟨k.os.trans h.os, k.tape.trans h.tape, k.output.trans h.output, Nat.le_trans h.size k.size, fun i hi hn => (k.block i (Nat.lt_of_lt_of_le hi h.size) (fun e => by have := hr i e.symm; omega)).trans (h.block i hi hn)⟩
theorem Row.free4 {w : World} {g : Nat} {T : TypeId} {cs : List Value} (h : Row w g T cs) : w.frozen? ⟨g, 0, none⟩ = false ∧ w.frozen? ⟨g, 1, none⟩ = false ∧ w.frozen? ⟨g, 2, none⟩ = false ∧ w.frozen? ⟨g, 3, none⟩ = false := ⟨h.frozen _, h.frozen _, h.frozen _, h.frozen _⟩
theorem Row.free9 {w : World} {g : Nat} {T : TypeId} {cs : List Value} (h : Row w g T cs) : w.frozen? ⟨g, 0, none⟩ = false ∧ w.frozen? ⟨g, 1, none⟩ = false ∧ w.frozen? ⟨g, 2, none⟩ = false ∧ w.frozen? ⟨g, 3, none⟩ = false ∧ w.frozen? ⟨g, 4, none⟩ = false ∧ w.frozen? ⟨g, 5, none⟩ = false ∧ w.frozen? ⟨g, 6, none⟩ = false ∧ w.frozen? ⟨g, 7, none⟩ = false ∧ w.frozen? ⟨g, 8, none⟩ = false := ⟨h.frozen _, h.frozen _, h.frozen _, h.frozen _, h.frozen _, h.frozen _, h.frozen _, h.frozen _, h.frozen _⟩
theorem Row.free12 {w : World} {g : Nat} {T : TypeId} {cs : List Value} (h : Row w g T cs) : w.frozen? ⟨g, 0, none⟩ = false ∧ w.frozen? ⟨g, 1, none⟩ = false ∧ w.frozen? ⟨g, 2, none⟩ = false ∧ w.frozen? ⟨g, 3, none⟩ = false ∧ w.frozen? ⟨g, 4, none⟩ = false ∧ w.frozen? ⟨g, 5, none⟩ = false ∧ w.frozen? ⟨g, 6, none⟩ = false ∧ w.frozen? ⟨g, 7, none⟩ = false ∧ w.frozen? ⟨g, 8, none⟩ = false ∧ w.frozen? ⟨g, 9, none⟩ = false ∧ w.frozen? ⟨g, 10, none⟩ = false ∧ w.frozen? ⟨g, 11, none⟩ = false := ⟨h.frozen _, h.frozen _, h.frozen _, h.frozen _, h.frozen _, h.frozen _, h.frozen _, h.frozen _, h.frozen _, h.frozen _, h.frozen _, h.frozen _⟩
/-- All its cells stored over. -/
theorem Row.put {w : World} {g : Nat} {T : TypeId} {cs : List Value} (h : Row w g T cs) (cells : Array Value) : Row (w.setRow g cells) g T cells.toList ∧ w.grownBy (w.setRow g cells) (some g) := by
  refine ⟨?_, ⟨rfl, rfl, rfl, by simp, fun k _ hk => setRow_other w g k cells (fun e => hk (by rw [e]))⟩⟩
  unfold Row
  rw [setRow_heap w g _ cells T (0, 0) h]
/-- A store over a whole row: the world behind it by what it holds. -/
theorem wpList_put_row {ops : Array Oper} {rest : List Oper} {o : Oper} {a : Act} {w : World} {Q : Exit → Act → World → Prop} (hgd : o.guard = none) (ty : TypeId) (x y : Operand) (ho : o.op = .store ty x y)
    (g : Nat) (cs : List Value) (hx : a.eval x = .pointer (some ⟨g, 0, none⟩)) (hy : a.eval y = .agg cs.toArray) {T : TypeId} {old : List Value} (hR : Row w g T old) (hi : (Try.prog.info? ty).map (·.size) = some cs.length)
    (hold : old.length = cs.length) (h1 : ∀ v ∈ cs, v.oneCell' = true)
    (h : ∀ w', Row w' g T cs → w.grownBy w' (some g) → w'.heap.size = w.heap.size → wpList Try.prog ops Q rest (a.put o.dst undef) w') : wpList Try.prog ops Q (o :: rest) a w := by
  obtain ⟨h2, h3⟩ := hR.put cs.toArray
  exact wpList_store_row hgd ty x y ho g cs.toArray hx hy T _ hR (by simpa using hi) (by simpa using hold) (Array.all_eq_true_iff_forall_mem.2 (fun v hv => h1 v (by simpa using hv))) (h _ h2 h3 (setRow_size w g _))
theorem wp_put_row {o : Oper} {a : Act} {w : World} {K : Act → World → Prop} {Q : Exit → Act → World → Prop} (ty : TypeId) (x y : Operand) (ho : o.op = .store ty x y)
    (g : Nat) (cs : List Value) (hx : a.eval x = .pointer (some ⟨g, 0, none⟩)) (hy : a.eval y = .agg cs.toArray) {T : TypeId} {old : List Value} (hR : Row w g T old) (hi : (Try.prog.info? ty).map (·.size) = some cs.length)
    (hold : old.length = cs.length) (h1 : ∀ v ∈ cs, v.oneCell' = true)
    (h : ∀ w', Row w' g T cs → w.grownBy w' (some g) → w'.heap.size = w.heap.size → K (a.put o.dst undef) w') : Oper.wp Try.prog o a w K Q := by
  obtain ⟨h2, h3⟩ := hR.put cs.toArray
  exact wp_store_row ty x y ho g cs.toArray hx hy T _ hR (by simpa using hi) (by simpa using hold) (Array.all_eq_true_iff_forall_mem.2 (fun v hv => h1 v (by simpa using hv))) (h _ h2 h3 (setRow_size w g _))
theorem step_put_row {ops : Array Oper} {o : Oper} {a : Act} {w : World} {K : Act → World → Prop} {Q : Exit → Act → World → Prop} {E : Prop} (hgd : o.guard = none) (ty : TypeId) (x y : Operand) (ho : o.op = .store ty x y)
    (g : Nat) (cs : List Value) (hx : a.eval x = .pointer (some ⟨g, 0, none⟩)) (hy : a.eval y = .agg cs.toArray) {T : TypeId} {old : List Value} (hR : Row w g T old) (hi : (Try.prog.info? ty).map (·.size) = some cs.length)
    (hold : old.length = cs.length) (h1 : ∀ v ∈ cs, v.oneCell' = true)
    (h : ∀ w', Row w' g T cs → w.grownBy w' (some g) → w'.heap.size = w.heap.size → K (a.put o.dst undef) w') : if Region.wanted o (yielded ops a.tmps) = true then Oper.wp Try.prog o a w K Q else E := by
  have hw : Region.wanted o (yielded ops a.tmps) = true := by simp [Region.wanted, hgd]
  rw [if_pos hw]
  exact wp_put_row ty x y ho g cs hx hy hR hi hold h1 h
theorem blockCells_one {A : Option Addr} {n c : Nat} (b : Block) : ∀ v ∈ blockCells (.slice A n c) b, v.oneCell' = true := by
  intro v hv
  unfold blockCells finCells at hv
  simp only [List.mem_cons, List.not_mem_nil, or_false] at hv
  rcases hv with rfl | rfl | rfl | rfl | rfl | rfl | rfl | rfl | rfl | rfl | rfl | rfl <;> rfl
theorem graphCells_one {A : Option Addr} {n c : Nat} (x : Graph) : ∀ v ∈ graphCells (.slice A n c) x, v.oneCell' = true := by
  intro v hv
  unfold graphCells at hv
  simp only [List.mem_cons, List.not_mem_nil, or_false] at hv
  rcases hv with rfl | rfl | rfl | rfl <;> rfl
/-- Two new rows. -/
theorem two_rows (w : World) (cs ds : Array Value) (T U : TypeId) : ∃ W : World, W = (w.alloc (.cells cs T)).alloc (.cells ds U) ∧ Below w.heap.size w W ∧ W.heap.size = w.heap.size + 1 + 1 ∧ Row W w.heap.size T cs.toList ∧ Row W (w.heap.size + 1) U ds.toList := by
  have r1 := Row.new w T cs
  have e1 : (w.alloc (.cells cs T)).heap.size = w.heap.size + 1 := by simp
  have b1 := below_alloc' w (.cells cs T)
  generalize w.alloc (.cells cs T) = W1 at *
  have b2 := below_alloc' W1 (.cells ds U)
  have r2 := Row.new W1 U ds
  rw [e1] at r2
  exact ⟨_, rfl, b1.trans (b2.mono b1.size), by simp [e1], r1.below b2, r2⟩
def opCells (o : Op) : List Value := [.int .i64 o.ins.op, .int .i64 o.ins.a, .int .i64 o.ins.b, .int .i64 o.ins.c, .int .i64 o.ins.imm, .bool o.rel, .int .i64 o.kind, .int .i64 o.to, .int .i64 o.add]
theorem Row.op {w : World} {g : Nat} {T : TypeId} {o : Op} (h : Row w g T (opCells o)) : w.cell? ⟨g, 0, none⟩ = some (.int .i64 o.ins.op) ∧ w.cell? ⟨g, 1, none⟩ = some (.int .i64 o.ins.a) ∧ w.cell? ⟨g, 2, none⟩ = some (.int .i64 o.ins.b) ∧ w.cell? ⟨g, 3, none⟩ = some (.int .i64 o.ins.c) ∧ w.cell? ⟨g, 4, none⟩ = some (.int .i64 o.ins.imm) ∧ w.cell? ⟨g, 5, none⟩ = some (.bool o.rel) ∧ w.cell? ⟨g, 6, none⟩ = some (.int .i64 o.kind) ∧ w.cell? ⟨g, 7, none⟩ = some (.int .i64 o.to) ∧ w.cell? ⟨g, 8, none⟩ = some (.int .i64 o.add) :=
  ⟨h.cell rfl, h.cell rfl, h.cell rfl, h.cell rfl, h.cell rfl, h.cell rfl, h.cell rfl, h.cell rfl, h.cell rfl⟩
theorem Row.block {w : World} {g : Nat} {T : TypeId} {b : Block} {v : Value} (h : Row w g T (blockCells v b)) : w.cell? ⟨g, 0, none⟩ = some v ∧ w.cell? ⟨g, 1, none⟩ = some (.int .i64 b.fin.kind) ∧ w.cell? ⟨g, 2, none⟩ = some (.int .i64 b.fin.op) ∧ w.cell? ⟨g, 3, none⟩ = some (.int .i64 b.fin.a) ∧ w.cell? ⟨g, 4, none⟩ = some (.int .i64 b.fin.b) ∧ w.cell? ⟨g, 5, none⟩ = some (.int .i64 b.fin.to) ∧ w.cell? ⟨g, 6, none⟩ = some (.int .i64 b.fin.els) ∧ w.cell? ⟨g, 7, none⟩ = some (.int .i64 b.fin.ins.op) ∧ w.cell? ⟨g, 8, none⟩ = some (.int .i64 b.fin.ins.a) ∧ w.cell? ⟨g, 9, none⟩ = some (.int .i64 b.fin.ins.b) ∧ w.cell? ⟨g, 10, none⟩ = some (.int .i64 b.fin.ins.c) ∧ w.cell? ⟨g, 11, none⟩ = some (.int .i64 b.fin.ins.imm) :=
  ⟨h.cell rfl, h.cell rfl, h.cell rfl, h.cell rfl, h.cell rfl, h.cell rfl, h.cell rfl, h.cell rfl, h.cell rfl, h.cell rfl, h.cell rfl, h.cell rfl⟩
theorem Row.graph {w : World} {g : Nat} {T : TypeId} {x : Graph} {v : Value} (h : Row w g T (graphCells v x)) : w.cell? ⟨g, 0, none⟩ = some (.string x.name) ∧ w.cell? ⟨g, 1, none⟩ = some (.bool x.keep) ∧ w.cell? ⟨g, 2, none⟩ = some (.bool x.leaf) ∧ w.cell? ⟨g, 3, none⟩ = some v :=
  ⟨h.cell rfl, h.cell rfl, h.cell rfl, h.cell rfl⟩
theorem YF.op {W : World} {b : Nat} (hb : b = W.heap.size) {T : TypeId} {o : Op} (hw : o.wf) : YF oOp (W.alloc (.cells #[.int .i64 o.ins.op, .int .i64 o.ins.a, .int .i64 o.ins.b, .int .i64 o.ins.c, .int .i64 o.ins.imm, .bool o.rel, .int .i64 o.kind, .int .i64 o.to, .int .i64 o.add] T)) (some ⟨b, 0, none⟩) [o] noF :=
  YF.one hb ⟨fun _ h => h, kOp_mk _ o hw⟩
end Go.Proofs.Ytobhjjbhlnbcpaa
