/- Graphs of the call's own: one block of one graph, taken out and put back. -/
import Derived.Test.YtobhjjbhlnbcpaaFd
import Derived.Test.YtobhjjbhlnbcpaaPj
import Derived.Deep.MidRow
namespace Go.Proofs.Ytobhjjbhlnbcpaa
set_option linter.unusedVariables false
set_option linter.unusedSimpArgs false
open Go.RowKit

theorem OwnF.open2 {w : World} {V : Value} {xs : List Graph} {F : Nat → Prop} (h : OwnF oGraph 28 w V xs F) {k : Nat} {m : Graph} (hk : xs[k]? = some m) {j : Nat} {b : Block} (hj : m.blocks[j]? = some b) :
    ∃ g0 cap0 g1 cap1 v0 F0 F1 F2, V = .slice (some ⟨g0, 0, none⟩) xs.length cap0 ∧ HoleF oGraph 28 w g0 cap0 xs k (graphCells (.slice (some ⟨g1, 0, none⟩) m.blocks.length cap1) m) F0 ∧ m.wf ∧ HoleF oBlock 43 w g1 cap1 m.blocks j (blockCells v0 b) F1 ∧ b.wf ∧ OwnF oOp 45 w v0 b.ops F2 ∧
      (∀ x, F1 x → ¬ F0 x) ∧ (∀ x, F2 x → ¬ F0 x ∧ ¬ F1 x) ∧ (∀ x, F x ↔ F0 x ∨ F1 x ∨ F2 x) ∧ xs.length ≤ cap0 ∧ cap0 ≤ maxLen ∧ m.blocks.length ≤ cap1 ∧ cap1 ≤ maxLen := by
  obtain ⟨g0, cap0, cs, Fi, F0, e0, l0, m0, h0, hO, d0, i0⟩ := h.open_ hk
  obtain ⟨v, rfl, hm, ho⟩ := hO
  obtain ⟨g1, cap1, ds, Fj, F1, rfl, l1, m1, h1, hO1, d1, i1⟩ := ho.open_ hj
  obtain ⟨v0, rfl, hb, ho1⟩ := hO1
  exact ⟨g0, cap0, g1, cap1, v0, F0, F1, Fj, e0, h0, hm, h1, hb, ho1, fun x hx => d0 x ((i1 x).2 (.inl hx)), fun x hx => ⟨d0 x ((i1 x).2 (.inr hx)), d1 x hx⟩, fun x => by rw [i0 x, i1 x], l0, m0, l1, m1⟩
theorem close2 {w : World} {g0 cap0 g1 cap1 k j : Nat} {xs : List Graph} {m : Graph} {b' : Block} {v' : Value} {F0 F1 F2 : Nat → Prop} (h0 : HoleF oGraph 28 w g0 cap0 xs k (graphCells (.slice (some ⟨g1, 0, none⟩) m.blocks.length cap1) m) F0) (hm : m.wf)
    (h1 : HoleF oBlock 43 w g1 cap1 m.blocks j (blockCells v' b') F1) (hb : b'.wf) (ho : OwnF oOp 45 w v' b'.ops F2) (d1 : ∀ x, F1 x → ¬ F0 x) (d2 : ∀ x, F2 x → ¬ F0 x ∧ ¬ F1 x) :
    OwnF oGraph 28 w (.slice (some ⟨g0, 0, none⟩) xs.length cap0) (xs.set k ⟨m.name, m.keep, m.leaf, m.blocks.set j b'⟩) (fun x => F0 x ∨ (F1 x ∨ F2 x)) := by
  have h2 := h1.close (y := b') (Gi := F2) ⟨v', rfl, hb, ho⟩ (fun x hx => (d2 x hx).2)
  exact h0.close (y := ⟨m.name, m.keep, m.leaf, m.blocks.set j b'⟩) ⟨_, rfl, hm, h2⟩ (fun x hx => hx.elim (d1 x) (fun hx => (d2 x hx).1))
/-- What reads of the header of one graph. -/
theorem OwnF.open1 {w : World} {V : Value} {xs : List Graph} {F : Nat → Prop} (h : OwnF oGraph 28 w V xs F) {k : Nat} {m : Graph} (hk : xs[k]? = some m) :
    ∃ g0 cap0 v F0 F1, V = .slice (some ⟨g0, 0, none⟩) xs.length cap0 ∧ HoleF oGraph 28 w g0 cap0 xs k (graphCells v m) F0 ∧ m.wf ∧ OwnF oBlock 43 w v m.blocks F1 ∧ (∀ x, F1 x → ¬ F0 x) ∧ (∀ x, F x ↔ F0 x ∨ F1 x) := by
  obtain ⟨g0, cap0, cs, Fi, F0, e0, l0, m0, h0, hO, d0, i0⟩ := h.open_ hk
  obtain ⟨v, rfl, hm, ho⟩ := hO
  exact ⟨g0, cap0, v, F0, Fi, e0, h0, hm, ho, d0, i0⟩
/-- The cells of a block's place. -/
theorem HoleF.block {w : World} {g cap j : Nat} {bs : List Block} {v : Value} {b : Block} {F : Nat → Prop} (h : HoleF oBlock 43 w g cap bs j (blockCells v b) F) : w.cell? ⟨g, j * 12, none⟩ = some v ∧ w.cell? ⟨g, j * 12 + 1, none⟩ = some (.int .i64 b.fin.kind) ∧ w.cell? ⟨g, j * 12 + 2, none⟩ = some (.int .i64 b.fin.op) ∧ w.cell? ⟨g, j * 12 + 3, none⟩ = some (.int .i64 b.fin.a) ∧ w.cell? ⟨g, j * 12 + 4, none⟩ = some (.int .i64 b.fin.b) ∧ w.cell? ⟨g, j * 12 + 5, none⟩ = some (.int .i64 b.fin.to) ∧ w.cell? ⟨g, j * 12 + 6, none⟩ = some (.int .i64 b.fin.els) ∧ w.cell? ⟨g, j * 12 + 7, none⟩ = some (.int .i64 b.fin.ins.op) ∧ w.cell? ⟨g, j * 12 + 8, none⟩ = some (.int .i64 b.fin.ins.a) ∧ w.cell? ⟨g, j * 12 + 9, none⟩ = some (.int .i64 b.fin.ins.b) ∧ w.cell? ⟨g, j * 12 + 10, none⟩ = some (.int .i64 b.fin.ins.c) ∧ w.cell? ⟨g, j * 12 + 11, none⟩ = some (.int .i64 b.fin.ins.imm) :=
  ⟨h.cell (j := 0) rfl, h.cell (j := 1) rfl, h.cell (j := 2) rfl, h.cell (j := 3) rfl, h.cell (j := 4) rfl, h.cell (j := 5) rfl, h.cell (j := 6) rfl, h.cell (j := 7) rfl, h.cell (j := 8) rfl, h.cell (j := 9) rfl, h.cell (j := 10) rfl, h.cell (j := 11) rfl⟩
theorem HoleF.graph {w : World} {g cap k : Nat} {xs : List Graph} {v : Value} {m : Graph} {F : Nat → Prop} (h : HoleF oGraph 28 w g cap xs k (graphCells v m) F) : w.cell? ⟨g, k * 4, none⟩ = some (.string m.name) ∧ w.cell? ⟨g, k * 4 + 1, none⟩ = some (.bool m.keep) ∧ w.cell? ⟨g, k * 4 + 2, none⟩ = some (.bool m.leaf) ∧ w.cell? ⟨g, k * 4 + 3, none⟩ = some v :=
  ⟨h.cell (j := 0) rfl, h.cell (j := 1) rfl, h.cell (j := 2) rfl, h.cell (j := 3) rfl⟩

theorem HoleF.setCells {α : Type} {k : Od α} {T : TypeId} {g cap i : Nat} {xs : List α} {F : Nat → Prop} : ∀ (vs : List Value) (j : Nat) (w : World) (cs : List Value), j + vs.length ≤ k.kd.size → HoleF k T w g cap xs i cs F → HoleF k T (w.setCells g (i * k.kd.size + j) vs) g cap xs i (cs.take j ++ vs ++ cs.drop (j + vs.length)) F
  | [], j, w, cs, _, h => by simpa [World.setCells] using h
  | v :: r, j, w, cs, hl, h => by
    simp only [List.length_cons] at hl
    have h1 := h.set (j := j) (by omega) v
    have h2 := HoleF.setCells r (j + 1) _ _ (by omega) h1
    have hcs : cs.length = k.kd.size := by
      obtain ⟨css, Fs, _, _, e, _⟩ := h.ex
      exact e
    have e : (cs.set j v).take (j + 1) ++ r ++ (cs.set j v).drop (j + 1 + r.length) = cs.take j ++ v :: r ++ cs.drop (j + (v :: r).length) := by
      rw [List.take_succ_eq_append_getElem (by simp; omega), List.take_set_of_le (Nat.le_refl _), List.drop_set_of_lt (by omega)]
      simp [Nat.add_assoc, Nat.add_comm 1]
    rw [e] at h2
    exact h2
theorem grown_setCells (g : Nat) : ∀ (vs : List Value) (o : Nat) (w : World), w.grownBy (w.setCells g o vs) (some g) ∧ (w.setCells g o vs).heap.size = w.heap.size
  | [], o, w => ⟨grown_none _ _, rfl⟩
  | v :: r, o, w => by
    obtain ⟨h1, h2⟩ := grown_setCells g r (o + 1) (w.setCell ⟨g, o, none⟩ v)
    exact ⟨grown_tr (grown_set w g o v) h1, h2.trans (by simp)⟩
/-- A store over all cells of one element. -/
theorem wp_put_hole {α : Type} {k : Od α} {T : TypeId} {cap i : Nat} {xs : List α} {F : Nat → Prop} {old : List Value} {o : Oper} {a : Act} {w : World} {K : Act → World → Prop} {Q : Exit → Act → World → Prop} (ty : TypeId) (x y : Operand) (ho : o.op = .store ty x y)
    (g : Nat) (cs : List Value) (hx : a.eval x = .pointer (some ⟨g, i * k.kd.size, none⟩)) (hy : a.eval y = .agg cs.toArray) (hR : HoleF k T w g cap xs i old F) (hi : (Try.prog.info? ty).map (·.size) = some cs.length)
    (hold : cs.length = k.kd.size) (h1 : ∀ v ∈ cs, v.oneCell' = true)
    (h : ∀ w', HoleF k T w' g cap xs i cs F → w.grownBy w' (some g) → w'.heap.size = w.heap.size → K (a.put o.dst undef) w') : Oper.wp Try.prog o a w K Q := by
  have hlen : old.length = k.kd.size := by
    obtain ⟨css, Fs, _, _, e, _⟩ := hR.ex
    exact e
  have h2 := HoleF.setCells cs 0 w old (by omega) hR
  rw [List.take_zero, List.nil_append, Nat.zero_add, List.drop_of_length_le (by omega), List.append_nil, Nat.add_zero] at h2
  obtain ⟨h3, h4⟩ := grown_setCells g cs (i * k.kd.size) w
  refine wp_store_mid ty x y ho g (i * k.kd.size) cs.toArray hx hy (fun j hj => ?_) (by simpa using hi) (Array.all_eq_true_iff_forall_mem.2 (fun v hv => h1 v (by simpa using hv))) (h _ (by simpa using h2) (by simpa using h3) (by simpa using h4))
  have hj' : j < old.length := by simpa [hlen, hold] using hj
  exact ⟨by rw [hR.cell (j := j) (List.getElem?_eq_getElem hj')]; rfl, hR.frozen _⟩
theorem step_put_hole {α : Type} {k : Od α} {T : TypeId} {cap i : Nat} {xs : List α} {F : Nat → Prop} {old : List Value} {ops : Array Oper} {o : Oper} {a : Act} {w : World} {K : Act → World → Prop} {Q : Exit → Act → World → Prop} {E : Prop} (hgd : o.guard = none) (ty : TypeId) (x y : Operand) (ho : o.op = .store ty x y)
    (g : Nat) (cs : List Value) (hx : a.eval x = .pointer (some ⟨g, i * k.kd.size, none⟩)) (hy : a.eval y = .agg cs.toArray) (hR : HoleF k T w g cap xs i old F) (hi : (Try.prog.info? ty).map (·.size) = some cs.length)
    (hold : cs.length = k.kd.size) (h1 : ∀ v ∈ cs, v.oneCell' = true)
    (h : ∀ w', HoleF k T w' g cap xs i cs F → w.grownBy w' (some g) → w'.heap.size = w.heap.size → K (a.put o.dst undef) w') : if Region.wanted o (yielded ops a.tmps) = true then Oper.wp Try.prog o a w K Q else E := by
  have hw : Region.wanted o (yielded ops a.tmps) = true := by simp [Region.wanted, hgd]
  rw [if_pos hw]
  exact wp_put_hole ty x y ho g cs hx hy hR hi hold h1 h
theorem wpList_put_hole {α : Type} {k : Od α} {T : TypeId} {cap i : Nat} {xs : List α} {F : Nat → Prop} {old : List Value} {ops : Array Oper} {rest : List Oper} {o : Oper} {a : Act} {w : World} {Q : Exit → Act → World → Prop} (hgd : o.guard = none) (ty : TypeId) (x y : Operand) (ho : o.op = .store ty x y)
    (g : Nat) (cs : List Value) (hx : a.eval x = .pointer (some ⟨g, i * k.kd.size, none⟩)) (hy : a.eval y = .agg cs.toArray) (hR : HoleF k T w g cap xs i old F) (hi : (Try.prog.info? ty).map (·.size) = some cs.length)
    (hold : cs.length = k.kd.size) (h1 : ∀ v ∈ cs, v.oneCell' = true)
    (h : ∀ w', HoleF k T w' g cap xs i cs F → w.grownBy w' (some g) → w'.heap.size = w.heap.size → wpList Try.prog ops Q rest (a.put o.dst undef) w') : wpList Try.prog ops Q (o :: rest) a w :=
  wpList_plain hgd fun _ hK => wp_put_hole ty x y ho g cs hx hy hR hi hold h1 fun w' a1 a2 a3 => hK _ _ (h w' a1 a2 a3)

/-- The first k graphs made anew. -/
def outG (f : Block → Block) (gs : List Graph) (k : Nat) : List Graph := (gs.take k).map (eachG f) ++ gs.drop k
def mixB (f : Block → Block) (g : Graph) (j : Nat) : Graph := ⟨g.name, g.keep, g.leaf, (g.blocks.take j).map f ++ g.blocks.drop j⟩
theorem outG_len (f : Block → Block) (gs : List Graph) (k : Nat) : (outG f gs k).length = gs.length := by
  unfold outG
  simp
  omega
theorem outG_zero (f : Block → Block) (gs : List Graph) : outG f gs 0 = gs := by simp [outG]
theorem outG_all (f : Block → Block) (gs : List Graph) : outG f gs gs.length = gs.map (eachG f) := by simp [outG]
theorem outG_at {f : Block → Block} {gs : List Graph} {k : Nat} {g : Graph} (h : gs[k]? = some g) : (outG f gs k)[k]? = some g := by
  have hk := (List.getElem?_eq_some_iff.1 h).1
  unfold outG
  rw [List.getElem?_append_right (by simp; omega), List.getElem?_drop]
  simp [Nat.min_eq_left (Nat.le_of_lt hk), h]
theorem set_mid {α : Type} (xs ys : List α) (a b : α) : (xs ++ a :: ys).set xs.length b = xs ++ b :: ys := by
  rw [List.set_append_right _ _ (Nat.le_refl _), Nat.sub_self]
  rfl
theorem drop_at {α : Type} {xs : List α} {k : Nat} {x : α} (h : xs[k]? = some x) : xs.drop k = x :: xs.drop (k + 1) := by
  have hk := (List.getElem?_eq_some_iff.1 h).1
  rw [List.drop_eq_getElem_cons hk]
  congr 1
  exact (List.getElem?_eq_some_iff.1 h).2
theorem map_take_len {α β : Type} (f : α → β) (xs : List α) {k : Nat} (h : k ≤ xs.length) : ((xs.take k).map f).length = k := by simp; omega
theorem set_at {α β : Type} (f : α → β) (xs : List α) (ys : List β) (a b : β) {k : Nat} (h : k ≤ xs.length) : ((xs.take k).map f ++ a :: ys).set k b = (xs.take k).map f ++ b :: ys := by
  have := set_mid ((xs.take k).map f) ys a b
  rwa [map_take_len f xs h] at this
theorem outG_succ {f : Block → Block} {gs : List Graph} {k : Nat} {g : Graph} (h : gs[k]? = some g) : (outG f gs k).set k (eachG f g) = outG f gs (k + 1) := by
  have hk := (List.getElem?_eq_some_iff.1 h).1
  unfold outG
  rw [drop_at h, set_at _ _ _ _ _ (Nat.le_of_lt hk), take_snoc h, List.map_append, List.append_assoc]
  rfl
theorem mixB_at {f : Block → Block} {g : Graph} {j : Nat} {b : Block} (h : g.blocks[j]? = some b) : (mixB f g j).blocks[j]? = some b := by
  have hk := (List.getElem?_eq_some_iff.1 h).1
  unfold mixB
  rw [List.getElem?_append_right (by simp; omega), List.getElem?_drop]
  simp [Nat.min_eq_left (Nat.le_of_lt hk), h]
theorem mixB_succ {f : Block → Block} {g : Graph} {j : Nat} {b : Block} (h : g.blocks[j]? = some b) : (⟨(mixB f g j).name, (mixB f g j).keep, (mixB f g j).leaf, (mixB f g j).blocks.set j (f b)⟩ : Graph) = mixB f g (j + 1) := by
  have hk := (List.getElem?_eq_some_iff.1 h).1
  unfold mixB
  simp only
  rw [drop_at h, set_at _ _ _ _ _ (Nat.le_of_lt hk), take_snoc h, List.map_append, List.append_assoc]
  rfl
theorem mixB_len (f : Block → Block) (g : Graph) (j : Nat) : (mixB f g j).blocks.length = g.blocks.length := by
  unfold mixB
  simp
  omega
theorem mixB_same {f : Block → Block} {g : Graph} {j : Nat} {b : Block} (h : g.blocks[j]? = some b) (hf : f b = b) : mixB f g (j + 1) = mixB f g j := by
  rw [← mixB_succ h, hf]
  have e : (mixB f g j).blocks.set j b = (mixB f g j).blocks := by
    apply List.ext_getElem?
    intro i
    by_cases hi : i = j
    · subst hi
      rw [mixB_at h, List.getElem?_set, if_pos rfl, if_pos (by rw [mixB_len]; exact (List.getElem?_eq_some_iff.1 h).1)]
    · rw [List.getElem?_set, if_neg (fun e => hi e.symm)]
  rw [e]
theorem mixB_each (f : Block → Block) (g : Graph) : mixB (eachB f g) g g.blocks.length = eachG f g := by rw [eachG_eq]; simp [mixB]
theorem mixB_zero (f : Block → Block) (g : Graph) : mixB f g 0 = g := by simp [mixB]
theorem mixB_all {f : Block → Block} {g : Graph} (h : g.keep = false) : mixB f g g.blocks.length = eachG f g := by simp [mixB, eachG, h]
theorem outG_start {f : Block → Block} {gs : List Graph} {k : Nat} {g : Graph} (h : gs[k]? = some g) : (outG f gs k).set k (mixB f g 0) = outG f gs k := by
  rw [mixB_zero]
  apply List.ext_getElem?
  intro i
  by_cases hi : i = k
  · subst hi
    rw [outG_at h, List.getElem?_set, if_pos rfl, if_pos (by rw [outG_len]; exact (List.getElem?_eq_some_iff.1 h).1)]
  · rw [List.getElem?_set, if_neg (fun e => hi e.symm)]
theorem set_get {α : Type} {xs : List α} {k : Nat} {x : α} (h : k < xs.length) : (xs.set k x)[k]? = some x := by
  rw [List.getElem?_set, if_pos rfl, if_pos h]
end Go.Proofs.Ytobhjjbhlnbcpaa
