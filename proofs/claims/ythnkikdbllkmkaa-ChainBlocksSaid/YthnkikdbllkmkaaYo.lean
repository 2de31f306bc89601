/- Plain: a graph's edges lead from block to block. -/
import Derived.Test.YthnkikdbllkmkaaYk
import Derived.Test.YthnkikdbllkmkaaPs
namespace Go.Proofs.Ythnkikdbllkmkaa
set_option linter.unusedVariables false
set_option linter.unusedSimpArgs false
open Go.RowKit

theorem ddN_mem {xs : List Edg} : ∀ {m : Nat} {e : Edg}, e ∈ ddN xs m → e ∈ xs
  | 0, e, h => by cases h
  | m + 1, e, h => by
    rcases List.mem_append.1 h with h | h
    · exact ddN_mem h
    · split at h
      · cases h
      · rw [Option.mem_toList] at h
        exact List.mem_of_getElem? h
theorem putE_in {l : List Edge} {nm : ByteArray} {i : Nat} {t : Int} {n : Nat} (hi : i < n) (h0 : 0 ≤ t) (h1 : t < n) : ∀ e ∈ putE l nm i t, EdgIn n e := by
  intro e he
  unfold putE at he
  split at he
  · rw [List.mem_singleton] at he
    subst he
    obtain ⟨q, hq⟩ := Int.eq_ofNat_of_zero_le h0
    exact ⟨i, q, rfl, hq, hi, by omega⟩
  · cases he
theorem atE_in {l : List Edge} {nm : ByteArray} {i : Nat} {b : Block} {n : Nat} (hi : i < n) (h1 : b.fin.kind = 1 ∨ b.fin.kind = 2 → 0 ≤ b.fin.to ∧ b.fin.to < n) (h2 : b.fin.kind = 2 → 0 ≤ b.fin.els ∧ b.fin.els < n) : ∀ e ∈ atE l nm i b, EdgIn n e := by
  intro e he
  unfold atE at he
  split at he
  · rename_i hk
    rcases List.mem_append.1 he with he | he
    · exact putE_in hi (h2 hk).1 (h2 hk).2 e he
    · exact putE_in hi (h1 (.inr hk)).1 (h1 (.inr hk)).2 e he
  · split at he
    · rename_i hk
      exact putE_in hi (h1 (.inl hk)).1 (h1 (.inl hk)).2 e he
    · cases he
theorem rawTo_in {l : List Edge} {nm : ByteArray} {bs : List Block} (hl : Leads bs) : ∀ k, k ≤ bs.length → ∀ e ∈ rawTo l nm bs k, EdgIn bs.length e
  | 0, _, e, h => by cases h
  | k + 1, hk, e, h => by
    obtain ⟨b, hb⟩ := get_some bs k (by omega)
    rw [rawTo_succ hb] at h
    rcases List.mem_append.1 h with h | h
    · exact rawTo_in hl k (by omega) e h
    · obtain ⟨h1, h2⟩ := hl b (List.mem_of_getElem? hb)
      exact atE_in (by omega) h1 h2 e h
theorem edgesD_in {l : List Edge} {nm : ByteArray} {bs : List Block} (hl : Leads bs) : ∀ e ∈ edgesD l nm bs, EdgIn bs.length e := fun e he => by
  have h1 := ddN_mem he
  exact rawTo_in hl bs.length (Nat.le_refl _) e ((sortE_perm _).mem_iff.1 h1)
end Go.Proofs.Ythnkikdbllkmkaa
