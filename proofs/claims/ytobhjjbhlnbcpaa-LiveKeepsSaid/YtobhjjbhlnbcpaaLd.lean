/- Appending a number to a slice of the call's own, with what else stays. -/
import Derived.Test.YtobhjjbhlnbcpaaLb
import Derived.Maps.AppendAt
namespace Go.Proofs.Ytobhjjbhlnbcpaa
set_option linter.unusedVariables false
set_option linter.unusedSimpArgs false
open Go.RowKit

/-- Of blocks apart from the slice's own: none has turned, and the new slice is apart from them, too. -/
def StaysApart (w w' : World) (v v' : Value) : Prop := ∀ b, b < w.heap.size → v.ownBlock ≠ some b → (∀ i, w'.cell? ⟨b, i, none⟩ = w.cell? ⟨b, i, none⟩) ∧ v'.ownBlock ≠ some b

theorem wpList_append_one2 {ops : Array Oper} {rest : List Oper} {o : Oper} {a : Act} {Q : Exit → Act → World → Prop} (hgd : o.guard = none) (s x : Operand)
    (ho : o.op = .call { callee := .builtin .append, args := #[s, x], argTypes := #[29, 29] }) {w : World} (base : Nat) {v : Value} {xs : List Int} {y : Int} (hown : OwnI w base v xs) (hs : a.eval s = v) (hx : a.eval x = .slice (some ⟨w.heap.size, 0, none⟩) 1 1)
    (hl : xs.length ≤ 1099511627776) (hb : base ≤ w.heap.size)
    (h : ∀ v' w', OwnI w' base v' (xs ++ [y]) → Below base w w' → StaysApart w w' v v' → wpList Try.prog ops Q rest (a.put o.dst v') w') : wpList Try.prog ops Q (o :: rest) a (w.alloc (.cells #[.int .i64 y] 3)) := by
  obtain ⟨i0, hi, hz0, hz1, hz2⟩ := info_parts infoInt
  refine wpList_append_own_at _ hgd s x 29 ho base 3 i0 (.int .i64 0) 1 8 Try.underlying29 hi hz0 hz1 hz2 rfl (by decide) v xs.length (xs.map (Value.int .i64)) hs (World.ownsRow.alloc hown _) ⟨w.heap.size, 0, none⟩ 1 1 [.int .i64 y] hx rfl ?_ ?_ (by unfold maxLen; omega) (by omega) (by simp; omega) ?_
  · intro j u hj
    cases j with
    | zero => simp at hj; subst hj; simp [Addr.add]
    | succ j => simp at hj
  · intro u hu; simp at hu; subst hu; rfl
  · intro v' w' ho hg _ hv
    refine h v' w' ?_ ?_ ?_
    · unfold OwnI
      simpa using ho
    · have hb2 := (Below.refl base (w.alloc (.cells #[.int .i64 y] 3))).grown hg (by simp; omega) (fun k hk => (hown.block k hk).1)
      exact (((Below.refl base w).alloc hb _)).trans hb2
    · intro b hbl hne
      refine ⟨fun i => ?_, ?_⟩
      · have h1 : w'.heap[b]? = (w.alloc (.cells #[.int .i64 y] 3)).heap[b]? := hg.block b (by simp; omega) (fun e => hne e.symm)
        have h2 : (w.alloc (.cells #[.int .i64 y] 3)).heap[b]? = w.heap[b]? := ((Below.refl w.heap.size w).alloc (Nat.le_refl _) _).block b hbl
        exact World.cell?_of_block (a := ⟨b, i, none⟩) (h1.trans h2)
      · rcases hv with hv | hv
        · rw [hv]; exact hne
        · rw [hv]
          intro e
          injection e with e
          simp at e
          omega
end Go.Proofs.Ytobhjjbhlnbcpaa
