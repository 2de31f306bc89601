/- What the program lists as read is what the document lists; and what follows of it. -/
import Derived.Test.YtobhjjbhlnbcpaaCg
namespace Go.Proofs.Ytobhjjbhlnbcpaa
set_option linter.unusedVariables false
set_option linter.unusedSimpArgs false

theorem sorted_nil : sorted [] = [] := by simp [sorted]
theorem sorted_one (x : Int) : sorted [x] = [x] := by simp [sorted]
theorem sorted_two (x y : Int) : sorted [x, y] = if x ≤ y then [x, y] else [y, x] := by
  have h1 : (sorted [x, y]).Perm [x, y] := List.mergeSort_perm _ _
  have h2 : List.Pairwise (fun a b => intLe a b = true) (sorted [x, y]) := List.pairwise_mergeSort (fun a b c => by simp [intLe]; omega) (fun a b => by simp [intLe]; omega) _
  obtain ⟨a, b, hab⟩ : ∃ a b, sorted [x, y] = [a, b] := by
    have hl := sorted_length [x, y]
    match hs : sorted [x, y] with
    | [] => rw [hs] at hl; simp at hl
    | [a] => rw [hs] at hl; simp at hl
    | [a, b] => exact ⟨a, b, rfl⟩
    | a :: b :: c :: r => rw [hs] at hl; simp at hl
  rw [hab] at h1 h2 ⊢
  have hle : a ≤ b := by simpa [intLe] using h2
  have hc : (a = x ∧ b = y) ∨ (a = y ∧ b = x) := by
    have hx : a ∈ [x, y] := h1.subset (by simp)
    simp at hx
    rcases hx with rfl | rfl
    · left
      have := (List.perm_cons a).1 h1
      simp at this
      exact ⟨rfl, this⟩
    · right
      have := (List.perm_cons a).1 (h1.trans (List.Perm.swap a x []))
      simp at this
      exact ⟨rfl, this⟩
  rcases hc with ⟨rfl, rfl⟩ | ⟨rfl, rfl⟩
  · rw [if_pos hle]
  · by_cases h : b ≤ a
    · have : a = b := by omega
      subst this
      simp
    · rw [if_neg h]
theorem compact_nil : compact [] = [] := by simp [compact, Go.Lib.compact, Go.Lib.compactUpTo]
theorem compact_one (x : Int) : compact [x] = [x] := by simp [compact, Go.Lib.compact, Go.Lib.compactUpTo, Go.Lib.keeps, List.range_succ]
theorem compact_two (x y : Int) : compact [x, y] = if x = y then [x] else [x, y] := by
  by_cases h : x = y
  · simp [compact, Go.Lib.compact, Go.Lib.compactUpTo, Go.Lib.keeps, List.range_succ, h]
  · have h' : ¬ y = x := fun e => h e.symm
    simp [compact, Go.Lib.compact, Go.Lib.compactUpTo, Go.Lib.keeps, List.range_succ, h]
    refine ⟨1, ?_, rfl⟩
    simp [List.filter_cons, Go.Lib.keeps, h']

def regs15 : List Int := (List.range 15).map fun (i : Nat) => ((i : Int) + 1)
def two (x y : Int) : List Int := noZero (if x = y then [x] else if x ≤ y then [x, y] else [y, x])
theorem two_regs : ∀ x y : Fin 16, two (x.val : Int) (y.val : Int) = regs15.filter fun r => (decide ((x.val : Int) = r) || decide ((y.val : Int) = r)) := by decide +kernel
theorem two_of {x y : Int} (hx0 : 0 ≤ x) (hx : x ≤ 15) (hy0 : 0 ≤ y) (hy : y ≤ 15) : noZero (compact (sorted [x, y])) = regs15.filter fun r => (decide (x = r) || decide (y = r)) := by
  have h := two_regs ⟨x.toNat, by omega⟩ ⟨y.toNat, by omega⟩
  simp only [Int.toNat_of_nonneg hx0, Int.toNat_of_nonneg hy0] at h
  rw [← h, sorted_two]
  unfold two
  congr 1
  by_cases h1 : x ≤ y
  · rw [if_pos h1, compact_two]
  · rw [if_neg h1, compact_two, if_neg (by omega), if_neg (by omega)]
theorem one_of {x : Int} (hx0 : 0 ≤ x) (hx : x ≤ 15) : noZero (compact (sorted [x])) = regs15.filter fun r => decide (x = r) := by
  have h := two_of hx0 hx hx0 hx
  rw [sorted_one, compact_one]
  rw [sorted_two, if_pos (Int.le_refl _), compact_two, if_pos rfl] at h
  simpa using h

theorem mem_regs15 {r : Int} (h : r ∈ regs15) : 1 ≤ r ∧ r ≤ 15 := by
  unfold regs15 at h
  simp at h
  obtain ⟨i, hi, rfl⟩ := h
  omega

theorem readsList_eq {op a b c imm : Int} (h : Ins.right ⟨op, a, b, c, imm⟩ = true) : readsList op a b c = refList op a b c := by
  have hf : ∀ p : Int → Bool, (∀ r, 1 ≤ r → r ≤ 15 → p r = refReads op a b c r) → regs15.filter p = refList op a b c := by
    intro p hp
    unfold refList
    exact List.filter_congr fun r hr => hp r (mem_regs15 hr).1 (mem_regs15 hr).2
  unfold readsList rawReads
  unfold Ins.right at h
  by_cases h1 : 1 ≤ op ∧ op ≤ 7
  · rw [if_pos h1]
    have h2 : three op = true := by simp [three, h1]
    simp only [h2, if_true] at h
    simp [reg] at h
    rw [two_of (by omega) (by omega) (by omega) (by omega)]
    apply hf
    intro r hr hr'
    rw [Bool.eq_iff_iff, refReads_iff]
    simp
    omega
  · rw [if_neg h1]
    have h2 : three op = false := by simp [three]; omega
    simp only [h2, Bool.false_eq_true, if_false] at h
    by_cases hc : c = 0
    · subst hc
      simp only [ne_eq, not_true_eq_false, if_false] at h
      by_cases h3 : op = 8 ∨ op = 10 ∨ op = 11 ∨ op = 13
      · rw [if_pos h3]
        have hb : 0 ≤ b ∧ b ≤ 15 := by
          by_cases h4 : op = 10
          · rw [if_neg (by simp [near, h4]), if_pos h4] at h
            simp [reg] at h
            omega
          · rw [if_pos (by simp [near]; omega)] at h
            simp [reg] at h
            omega
        rw [one_of hb.1 hb.2]
        apply hf
        intro r hr hr'
        rw [Bool.eq_iff_iff, refReads_iff]
        simp
        omega
      · rw [if_neg h3]
        by_cases h4 : op = 12 ∨ 14 ≤ op ∧ op ≤ 18
        · rw [if_pos h4]
          have hb : (0 ≤ a ∧ a ≤ 15) ∧ (0 ≤ b ∧ b ≤ 15) := by
            by_cases h5 : near op = true
            · rw [if_pos h5] at h
              simp [reg] at h
              omega
            · rw [if_neg h5, if_neg (by omega), if_pos (by simp [near, branch] at *; omega)] at h
              simp [reg] at h
              omega
          rw [two_of hb.2.1 hb.2.2 hb.1.1 hb.1.2]
          apply hf
          intro r hr hr'
          rw [Bool.eq_iff_iff, refReads_iff]
          simp
          omega
        · rw [if_neg h4]
          by_cases h5 : op = 0 ∨ op = 23
          · rw [if_pos h5]
            have ha : 0 ≤ a ∧ a ≤ 15 := by
              rw [if_neg (by simp [near]; omega), if_neg (by omega), if_neg (by simp [branch]; omega)] at h
              by_cases hb : b ≠ 0
              · rw [if_pos hb] at h; simp at h
              · rw [if_neg hb, if_neg (by omega), if_pos (by simp [one]; omega)] at h
                simp [reg] at h
                omega
            rw [one_of ha.1 ha.2]
            apply hf
            intro r hr hr'
            rw [Bool.eq_iff_iff, refReads_iff]
            simp
            omega
          · rw [if_neg h5, sorted_nil, compact_nil]
            rw [← hf (fun _ => false)]
            · simp [noZero]
            · intro r hr hr'
              rw [Bool.eq_iff_iff, refReads_iff]
              simp
              omega
    · rw [if_pos hc] at h
      simp at h
end Go.Proofs.Ytobhjjbhlnbcpaa
