/- Appending a number to a slice of the call's own. -/
import Derived.Test.YtobhjjbhlnbcpaaLa
namespace Go.Proofs.Ytobhjjbhlnbcpaa
set_option linter.unusedVariables false
set_option linter.unusedSimpArgs false
open Go.RowKit

theorem infoInt : (Try.prog.info? 3).map (fun i => (i.zero, i.size, i.bytes)) = some (some (.int .i64 0), 1, 8) := by kernel_rfl

theorem OwnI.mono {w : World} {base base' : Nat} {v : Value} {xs : List Int} (h : OwnI w base v xs) (hb : base' ≤ base) : OwnI w base' v xs := by
  obtain ⟨h0, h | ⟨g, cap, cur, h1, h2, h3⟩⟩ := h
  · exact ⟨h0, .inl h⟩
  · exact ⟨h0, .inr ⟨g, cap, cur, h1, Nat.le_trans hb h2, h3⟩⟩
theorem OwnI.alloc {w : World} {base : Nat} {v : Value} {xs : List Int} (h : OwnI w base v xs) (o : Obj) : OwnI (w.alloc o) base v xs := World.ownsRow.alloc h o
theorem OwnI.drew {w : World} {base : Nat} {v : Value} {xs : List Int} (h : OwnI w base v xs) : OwnI w.drew base v xs := h
/-- What lies in one's own row stays while no block of one's own is written. -/
theorem OwnI.block {w : World} {base : Nat} {v : Value} {xs : List Int} (h : OwnI w base v xs) : ∀ k, v.ownBlock = some k → base ≤ k ∧ k < w.heap.size := World.ownsRow.lt h
theorem OwnI.below {w w' : World} {base : Nat} {v : Value} {xs : List Int} (h : OwnI w base v xs) (hb : Below w.heap.size w w') : OwnI w' base v xs := by
  rcases h.cases with ⟨rfl, rfl⟩ | ⟨g, cap, cur, rfl, h2, h3, h4, h5, h6, h7⟩
  · exact OwnI.nil _ _
  · exact OwnI.mk h2 (by rw [hb.block g (Array.getElem?_eq_some_iff.1 h3).1]; exact h3) h4 h5 h6 h7
/-- What a write into one's own row leaves of all below it. -/
theorem OwnI.grown {w w' : World} {base : Nat} {v : Value} {xs : List Int} (h : OwnI w base v xs) (hb : base ≤ w.heap.size) (hg : w.grownBy w' v.ownBlock) : Below base w w' :=
  (Below.refl base w).grown hg hb (fun k hk => (h.block k hk).1)

theorem OwnI.cells {w : World} {base : Nat} {v : Value} {xs : List Int} (h : OwnI w base v xs) : ∃ A c, v = .slice A xs.length c ∧ xs.length ≤ c ∧ c ≤ maxLen ∧ ∀ i x, xs[i]? = some x → ∃ g, A = some ⟨g, 0, none⟩ ∧ w.cell? ⟨g, i, none⟩ = some (.int .i64 x) ∧ w.frozen? ⟨g, i, none⟩ = false ∧ base ≤ g := by
  rcases h.cases with ⟨rfl, rfl⟩ | ⟨g, cap, cur, rfl, h2, h3, h4, h5, h6, h7⟩
  · exact ⟨none, 0, rfl, Nat.le_refl _, Nat.zero_le _, fun i x hx => by simp at hx⟩
  · refine ⟨_, _, rfl, h4, h5, fun i x hx => ⟨g, rfl, ?_, by simp [World.frozen?, h3], h2⟩⟩
    have hi : i < xs.length := (List.getElem?_eq_some_iff.1 hx).1
    have h8 : (cur.toList.take xs.length)[i]? = (xs.map (Value.int .i64))[i]? := by rw [h7]
    rw [List.getElem?_take_of_lt hi, List.getElem?_map, hx] at h8
    simp only [World.cell?, h3, Option.isSome_none, Bool.false_eq_true, if_false]
    rw [← Array.getElem?_toList, h8]
    rfl

theorem wpList_append_one {ops : Array Oper} {rest : List Oper} {o : Oper} {a : Act} {Q : Exit → Act → World → Prop} (hgd : o.guard = none) (s x : Operand)
    (ho : o.op = .call { callee := .builtin .append, args := #[s, x], argTypes := #[29, 29] }) {w : World} (base : Nat) {v : Value} {xs : List Int} {y : Int} (hown : OwnI w base v xs) (hs : a.eval s = v) (hx : a.eval x = .slice (some ⟨w.heap.size, 0, none⟩) 1 1)
    (hl : xs.length ≤ 1099511627776) (hb : base ≤ w.heap.size)
    (h : ∀ v' w', OwnI w' base v' (xs ++ [y]) → Below base w w' → wpList Try.prog ops Q rest (a.put o.dst v') w') : wpList Try.prog ops Q (o :: rest) a (w.alloc (.cells #[.int .i64 y] 3)) := by
  obtain ⟨i0, hi, hz0, hz1, hz2⟩ := info_parts infoInt
  refine wpList_append_own _ hgd s x 29 ho base 3 i0 (.int .i64 0) 1 8 Try.underlying29 hi hz0 hz1 hz2 rfl (by decide) v xs.length (xs.map (Value.int .i64)) hs (World.ownsRow.alloc hown _) ⟨w.heap.size, 0, none⟩ 1 1 [.int .i64 y] hx rfl ?_ ?_ (by unfold maxLen; omega) (by omega) (by simp; omega) ?_
  · intro j u hj
    cases j with
    | zero => simp at hj; subst hj; simp [Addr.add]
    | succ j => simp at hj
  · intro u hu; simp at hu; subst hu; rfl
  · intro v' w' ho hg _
    refine h v' w' ?_ ?_
    · unfold OwnI
      simpa using ho
    · have hb2 := (Below.refl base (w.alloc (.cells #[.int .i64 y] 3))).grown hg (by simp; omega) (fun k hk => (hown.block k hk).1)
      exact (((Below.refl base w).alloc hb _)).trans hb2
end Go.Proofs.Ytobhjjbhlnbcpaa
