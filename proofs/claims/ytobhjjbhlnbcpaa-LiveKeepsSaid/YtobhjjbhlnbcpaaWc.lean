/- Literal rows of values. -/
import Derived.Test.YtobhjjbhlnbcpaaWb
namespace Go.Proofs.Ytobhjjbhlnbcpaa
set_option linter.unusedVariables false
set_option linter.unusedSimpArgs false
open Go.RowKit

theorem flatten_get {s : Nat} : ∀ {css : List (List Value)} {i j : Nat} {cs : List Value} {v : Value}, (∀ cs ∈ css, cs.length = s) → css[i]? = some cs → cs[j]? = some v → css.flatten[i * s + j]? = some v
  | [], i, j, cs, v, _, h, _ => by simp at h
  | c :: r, 0, j, cs, v, hl, h, hj => by
    simp at h
    subst h
    rw [List.flatten_cons, Nat.zero_mul, Nat.zero_add, List.getElem?_append_left (List.getElem?_eq_some_iff.1 hj).1]
    exact hj
  | c :: r, i + 1, j, cs, v, hl, h, hj => by
    have hc := hl c (by simp)
    rw [List.flatten_cons, List.getElem?_append_right (by rw [hc, Nat.succ_mul]; omega)]
    have e : (i + 1) * s + j - c.length = i * s + j := by rw [hc, Nat.succ_mul]; omega
    rw [e]
    exact flatten_get (fun cs h => hl cs (by simp [h])) (by simpa using h) hj

theorem C_lit {α : Type} (k : Kd α) (W : World) (b : Nat) (hb : b = W.heap.size) (T : TypeId) (xs : List α) (css : List (List Value)) (cells : Array Value) (hcells : cells = css.flatten.toArray) (hlen : css.length = xs.length) (hK : ∀ (i : Nat) (x : α) (cs : List Value), xs[i]? = some x → css[i]? = some cs → k.K W x cs) : k.C (W.alloc (.cells cells T)) (some ⟨b, 0, none⟩) xs := by
  subst hb hcells
  have hall : ∀ cs ∈ css, cs.length = k.size := by
    intro cs hcs
    obtain ⟨i, hi⟩ := List.mem_iff_getElem?.1 hcs
    obtain ⟨x, hx⟩ := get_some xs i (by rw [← hlen]; exact (List.getElem?_eq_some_iff.1 hi).1)
    exact k.len (hK i x cs hx hi)
  intro i x hx
  obtain ⟨cs, hcs⟩ := get_some css i (by rw [hlen]; exact (List.getElem?_eq_some_iff.1 hx).1)
  refine ⟨_, cs, rfl, k.mono ((Below.refl _ _).alloc (Nat.le_refl _) _) (hK i x cs hx hcs), fun j v hv => ?_⟩
  have hf := flatten_get hall hcs hv
  have ha : (⟨W.heap.size, 0, none⟩ : Addr).add (i * k.size + j) = ⟨W.heap.size, i * k.size + j, none⟩ := by
    unfold Addr.add
    by_cases h0 : i * k.size + j = 0
    · rw [if_pos h0, h0]
    · rw [if_neg h0, Nat.zero_add]
  rw [ha]
  simp [hf]
theorem C_one {α : Type} (k : Kd α) (W : World) (b : Nat) (hb : b = W.heap.size) (T : TypeId) (x : α) (cells : Array Value) (hK : k.K W x cells.toList) : k.C (W.alloc (.cells cells T)) (some ⟨b, 0, none⟩) [x] := by
  refine C_lit k W b hb T [x] [cells.toList] cells (by simp) rfl ?_
  intro i y cs hx hc
  cases i with
  | zero => simp at hx hc; subst hx hc; exact hK
  | succ i => simp at hx
theorem C_nil {α : Type} (k : Kd α) (W : World) (A : Option Addr) : k.C W A [] := fun i x hx => by simp at hx
end Go.Proofs.Ytobhjjbhlnbcpaa
