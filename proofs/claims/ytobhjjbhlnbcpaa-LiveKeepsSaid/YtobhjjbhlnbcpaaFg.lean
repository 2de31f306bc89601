/- What is owned as a row of new elements; stores over a part of an element. -/
import Derived.Test.YtobhjjbhlnbcpaaFe
namespace Go.Proofs.Ytobhjjbhlnbcpaa
set_option linter.unusedVariables false
set_option linter.unusedSimpArgs false
open Go.RowKit

theorem OwnF.toY {α : Type} {k : Od α} {T : TypeId} {w : World} {A : Option Addr} {n c : Nat} {ys : List α} {F : Nat → Prop} (h : OwnF k T w (.slice A n c) ys F) : ∃ G, YF k w A ys G ∧ ∀ b, G b → F b := by
  obtain ⟨css, Fs, h1, h2, h3, h4, h5, h6⟩ := h.ex
  refine ⟨fun b => ∃ i, i < ys.length ∧ Fs i b, ⟨css, Fs, h1, h2, fun e => ?_, fun ad e j u hu => ?_, h4, fun b => Iff.rfl⟩, fun b hb => (h6 b).2 (.inr hb)⟩
  · subst e
    rcases h3.2 with ⟨_, h7⟩ | ⟨g, cap, cur, e, _⟩
    · exact List.eq_nil_of_length_eq_zero h7
    · cases e
  · subst e
    rcases h3.2 with ⟨e, h7⟩ | ⟨g, cap, cur, e, _⟩
    · cases e
    · injection e with e1
      injection e1 with e1
      subst e1
      exact h3.cells rfl j u hu
/-- A store over some cells of one element. -/
theorem wp_put_part {α : Type} {k : Od α} {T : TypeId} {cap i : Nat} {xs : List α} {F : Nat → Prop} {old : List Value} {o : Oper} {a : Act} {w : World} {K : Act → World → Prop} {Q : Exit → Act → World → Prop} (ty : TypeId) (x y : Operand) (ho : o.op = .store ty x y)
    (g j : Nat) (cs : List Value) (hx : a.eval x = .pointer (some ⟨g, i * k.kd.size + j, none⟩)) (hy : a.eval y = .agg cs.toArray) (hR : HoleF k T w g cap xs i old F) (hi : (Try.prog.info? ty).map (·.size) = some cs.length)
    (hold : j + cs.length ≤ k.kd.size) (h1 : ∀ v ∈ cs, v.oneCell' = true)
    (h : ∀ w', HoleF k T w' g cap xs i (old.take j ++ cs ++ old.drop (j + cs.length)) F → w.grownBy w' (some g) → w'.heap.size = w.heap.size → K (a.put o.dst undef) w') : Oper.wp Try.prog o a w K Q := by
  have hlen : old.length = k.kd.size := by
    obtain ⟨css, Fs, _, _, e, _⟩ := hR.ex
    exact e
  have h2 := HoleF.setCells cs j w old hold hR
  obtain ⟨h3, h4⟩ := grown_setCells g cs (i * k.kd.size + j) w
  refine wp_store_mid ty x y ho g (i * k.kd.size + j) cs.toArray hx hy (fun l hl => ?_) (by simpa using hi) (Array.all_eq_true_iff_forall_mem.2 (fun v hv => h1 v (by simpa using hv))) (h _ (by simpa using h2) (by simpa using h3) (by simpa using h4))
  have hl' : j + l < old.length := by simp at hl; omega
  exact ⟨by rw [Nat.add_assoc, hR.cell (j := j + l) (List.getElem?_eq_getElem hl')]; rfl, hR.frozen _⟩
theorem wpList_put_part {α : Type} {k : Od α} {T : TypeId} {cap i : Nat} {xs : List α} {F : Nat → Prop} {old : List Value} {ops : Array Oper} {rest : List Oper} {o : Oper} {a : Act} {w : World} {Q : Exit → Act → World → Prop} (hgd : o.guard = none) (ty : TypeId) (x y : Operand) (ho : o.op = .store ty x y)
    (g j : Nat) (cs : List Value) (hx : a.eval x = .pointer (some ⟨g, i * k.kd.size + j, none⟩)) (hy : a.eval y = .agg cs.toArray) (hR : HoleF k T w g cap xs i old F) (hi : (Try.prog.info? ty).map (·.size) = some cs.length)
    (hold : j + cs.length ≤ k.kd.size) (h1 : ∀ v ∈ cs, v.oneCell' = true)
    (h : ∀ w', HoleF k T w' g cap xs i (old.take j ++ cs ++ old.drop (j + cs.length)) F → w.grownBy w' (some g) → w'.heap.size = w.heap.size → wpList Try.prog ops Q rest (a.put o.dst undef) w') : wpList Try.prog ops Q (o :: rest) a w :=
  wpList_plain hgd fun _ hK => wp_put_part ty x y ho g j cs hx hy hR hi hold h1 fun w' a1 a2 a3 => hK _ _ (h w' a1 a2 a3)
theorem finCells_one (t : Term) : ∀ v ∈ finCells t, v.oneCell' = true := by
  intro v hv
  unfold finCells at hv
  simp only [List.mem_cons, List.not_mem_nil, or_false] at hv
  rcases hv with rfl | rfl | rfl | rfl | rfl | rfl | rfl | rfl | rfl | rfl | rfl <;> rfl
theorem opCells_one (o : Op) : ∀ v ∈ opCells o, v.oneCell' = true := by
  intro v hv
  unfold opCells at hv
  simp only [List.mem_cons, List.not_mem_nil, or_false] at hv
  rcases hv with rfl | rfl | rfl | rfl | rfl | rfl | rfl | rfl | rfl <;> rfl
/-- An instruction, taken out of a row of them and put back. -/
theorem OwnF.openOp {w : World} {v : Value} {os : List Op} {F : Nat → Prop} (h : OwnF oOp 45 w v os F) {q : Nat} {o : Op} (hq : os[q]? = some o) : ∃ g cap, v = .slice (some ⟨g, 0, none⟩) os.length cap ∧ os.length ≤ cap ∧ cap ≤ maxLen ∧ HoleF oOp 45 w g cap os q (opCells o) F := by
  obtain ⟨g, cap, cs, Fi, F0, e0, l0, m0, h0, hO, d0, i0⟩ := h.open_ hq
  obtain ⟨hn, hK⟩ := hO
  obtain ⟨rfl, hw⟩ := kOp_open hK
  refine ⟨g, cap, e0, l0, m0, h0.hi, ?_⟩
  obtain ⟨css, Fs, h1, h2, h3, h4, h5, h6, h7, h8⟩ := h0.ex
  exact ⟨css, Fs, h1, h2, h3, h4, h5, h6, h7, fun b => by rw [← h8 b, i0 b]; exact ⟨fun h => h.elim id (fun h => absurd h (hn b)), fun h => .inl h⟩⟩
theorem HoleF.closeOp {w : World} {g cap q : Nat} {os : List Op} {o : Op} {F : Nat → Prop} (h : HoleF oOp 45 w g cap os q (opCells o) F) (hw : o.wf) : OwnF oOp 45 w (.slice (some ⟨g, 0, none⟩) os.length cap) (os.set q o) F :=
  (h.close (y := o) (Gi := noF) ⟨fun _ h => h, kOp_mk w o hw⟩ (fun _ h => h.elim)).iff (fun b => ⟨fun h => .inl h, fun h => h.elim id (fun h => h.elim)⟩)
end Go.Proofs.Ytobhjjbhlnbcpaa
