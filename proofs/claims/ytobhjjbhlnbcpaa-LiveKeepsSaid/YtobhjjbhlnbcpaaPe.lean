/- Plain: a sorted list with its doubles left out is the rising list of its members. -/
import Derived.Test.YtobhjjbhlnbcpaaLa
namespace Go.Proofs.Ytobhjjbhlnbcpaa
set_option linter.unusedVariables false
set_option linter.unusedSimpArgs false

theorem compact_snoc (xs : List Int) (x : Int) : compact (xs ++ [x]) = compact xs ++ (if xs.getLast? = some x then [] else [x]) := by
  unfold compact Go.Lib.compact
  have hl : (xs ++ [x]).length = xs.length + 1 := by simp
  rw [hl, Go.Lib.compactUpTo_succ]
  have h1 : Go.Lib.compactUpTo (xs ++ [x]).toArray xs.length = Go.Lib.compactUpTo xs.toArray xs.length := by
    unfold Go.Lib.compactUpTo
    have hk : ∀ j ∈ List.range xs.length, Go.Lib.keeps (xs ++ [x]).toArray j = Go.Lib.keeps xs.toArray j := by
      intro j hj
      have hj' : j < xs.length := by simpa using hj
      unfold Go.Lib.keeps
      have e1 : (xs ++ [x]).toArray[j]! = xs.toArray[j]! := by
        simp [getElem!_def, List.getElem?_append_left hj']
      have e2 : (xs ++ [x]).toArray[j - 1]! = xs.toArray[j - 1]! := by
        simp [getElem!_def, List.getElem?_append_left (show j - 1 < xs.length by omega)]
      rw [e1, e2]
    rw [List.filter_congr hk]
    apply List.map_congr_left
    intro j hj
    have hj' : j < xs.length := by simpa using (List.mem_filter.1 hj).1
    simp [getElem!_def, List.getElem?_append_left hj']
  rw [h1]
  congr 1
  have h2 : (xs ++ [x]).toArray[xs.length]! = x := by simp [getElem!_def]
  rw [h2]
  by_cases h0 : xs.length = 0
  · have : xs = [] := List.eq_nil_of_length_eq_zero h0
    subst this
    simp [Go.Lib.keeps]
  · have h3 : (xs ++ [x]).toArray[xs.length - 1]! = xs.getLast?.getD 0 := by
      simp [getElem!_def, List.getElem?_append_left (show xs.length - 1 < xs.length by omega), List.getLast?_eq_getElem?]
      cases h : xs[xs.length - 1]? <;> rfl
    obtain ⟨y, hy⟩ : ∃ y, xs.getLast? = some y := by
      rw [List.getLast?_eq_getElem?]
      exact ⟨xs[xs.length - 1], by simp⟩
    rw [hy] at h3 ⊢
    unfold Go.Lib.keeps
    rw [h3, h2]
    by_cases hxy : y = x
    · subst hxy; simp [h0]
    · have : ¬ x = y := fun e => hxy e.symm
      simp [hxy, this]

theorem rising_of_sorted (xs : List Int) : List.Pairwise (fun a b => a ≤ b) xs → List.Pairwise (fun a b => a < b) (compact xs) ∧ (∀ y, y ∈ compact xs ↔ y ∈ xs) ∧ (compact xs).getLast? = xs.getLast? := by
  induction h : xs.length generalizing xs with
  | zero =>
    intro _
    have : xs = [] := List.eq_nil_of_length_eq_zero h
    subst this
    simp [compact, Go.Lib.compact, Go.Lib.compactUpTo]
  | succ n ih =>
    intro hp
    have hne : xs ≠ [] := by intro e; subst e; simp at h
    obtain ⟨ys, x, rfl⟩ : ∃ ys x, xs = ys ++ [x] := ⟨xs.dropLast, xs.getLast hne, (List.dropLast_concat_getLast hne).symm⟩
    have hys : List.Pairwise (fun a b => a ≤ b) ys := (List.pairwise_append.1 hp).1
    have hle : ∀ y ∈ ys, y ≤ x := fun y hy => (List.pairwise_append.1 hp).2.2 y hy x (by simp)
    obtain ⟨h1, h2, h3⟩ := ih ys (by simpa using h) hys
    rw [compact_snoc]
    by_cases hl : ys.getLast? = some x
    · rw [if_pos hl, List.append_nil]
      refine ⟨h1, fun y => ?_, by rw [h3, hl]; simp⟩
      rw [h2 y, List.mem_append]
      constructor
      · exact .inl
      · rintro (hy | hy)
        · exact hy
        · simp at hy
          subst hy
          exact List.mem_of_getLast? hl
    · rw [if_neg hl]
      refine ⟨?_, fun y => ?_, by simp⟩
      · rw [List.pairwise_append]
        refine ⟨h1, by simp, fun y hy z hz => ?_⟩
        simp at hz
        subst hz
        have hyx := hle y ((h2 y).1 hy)
        by_cases he : y = z
        · subst he
          exfalso
          apply hl
          -- the last one of ys is at least y = x, and at most x
          obtain ⟨l, hl'⟩ : ∃ l, ys.getLast? = some l := by
            cases hh : ys.getLast? with
            | none =>
              rw [List.getLast?_eq_none_iff] at hh
              subst hh
              have := (h2 y).1 hy
              simp at this
            | some l => exact ⟨l, rfl⟩
          have hmem := List.mem_of_getLast? hl'
          have hlx := hle l hmem
          have hyl : y ≤ l := by
            have hyy := (h2 y).1 hy
            obtain ⟨zs, rfl⟩ : ∃ zs, ys = zs ++ [l] := by
              have hne2 : ys ≠ [] := by intro e; subst e; simp at hl'
              refine ⟨ys.dropLast, ?_⟩
              have := List.dropLast_concat_getLast hne2
              rw [List.getLast?_eq_some_getLast hne2] at hl'
              injection hl' with e
              rw [← e, this]
            rcases List.mem_append.1 hyy with hm | hm
            · exact (List.pairwise_append.1 hys).2.2 y hm l (by simp)
            · simp at hm; omega
          rw [hl', show l = y by omega]
        · omega
      · rw [List.mem_append, List.mem_append, h2 y]

/-- Two rising lists with the same members are one. -/
theorem rising_ext {xs ys : List Int} (hx : List.Pairwise (fun a b => a < b) xs) (hy : List.Pairwise (fun a b => a < b) ys) (h : ∀ z, z ∈ xs ↔ z ∈ ys) : xs = ys := by
  induction xs generalizing ys with
  | nil =>
    cases ys with
    | nil => rfl
    | cons y r => exact absurd ((h y).2 (by simp)) (by simp)
  | cons x r ih =>
    cases ys with
    | nil => exact absurd ((h x).1 (by simp)) (by simp)
    | cons y s =>
      rw [List.pairwise_cons] at hx hy
      have hxy : x = y := by
        have h1 := (h x).1 (by simp)
        have h2 := (h y).2 (by simp)
        simp at h1 h2
        rcases h1 with h1 | h1
        · exact h1
        · rcases h2 with h2 | h2
          · exact h2.symm
          · have := hy.1 x h1
            have := hx.1 y h2
            omega
      subst hxy
      congr 1
      refine ih hx.2 hy.2 fun z => ?_
      have hz := h z
      simp at hz
      constructor
      · intro hm
        rcases hz.1 (.inr hm) with e | e
        · subst e; exact absurd (hx.1 z hm) (by omega)
        · exact e
      · intro hm
        rcases hz.2 (.inr hm) with e | e
        · subst e; exact absurd (hy.1 z hm) (by omega)
        · exact e

theorem sorted_pairwise (xs : List Int) : List.Pairwise (fun a b => a ≤ b) (sorted xs) := by
  have h2 : List.Pairwise (fun a b => intLe a b = true) (sorted xs) := List.pairwise_mergeSort (fun a b c => by simp [intLe]; omega) (fun a b => by simp [intLe]; omega) _
  exact h2.imp (fun h => by simpa [intLe] using h)

/-- What is listed, sorted, each once, is what is asked number by number. -/
theorem compact_sorted_eq (xs : List Int) (m : Nat) (p : Int → Bool) (hp : ∀ i : Int, p i = true ↔ i ∈ xs) (hr : ∀ x ∈ xs, 0 ≤ x ∧ x < m) : compact (sorted xs) = ((List.range m).map fun (i : Nat) => (i : Int)).filter p := by
  obtain ⟨h1, h2, _⟩ := rising_of_sorted (sorted xs) (sorted_pairwise xs)
  refine rising_ext h1 ?_ fun z => ?_
  · apply List.Pairwise.filter
    rw [List.pairwise_map]
    exact List.pairwise_lt_range.imp (fun h => by omega)
  · rw [h2, List.mem_filter, hp]
    have hm : z ∈ sorted xs ↔ z ∈ xs := (List.mergeSort_perm xs intLe).mem_iff
    rw [hm]
    constructor
    · intro hz
      refine ⟨?_, hz⟩
      obtain ⟨a, b⟩ := hr z hz
      rw [List.mem_map]
      exact ⟨z.toNat, by simp; omega, by omega⟩
    · exact fun h => h.2
end Go.Proofs.Ytobhjjbhlnbcpaa
