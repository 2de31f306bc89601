/- Plain: floats that are no NaN and not negative are ordered as their words; sums of such are such; zero adds nothing. -/
import Derived.Laws.FloatArith
namespace Go.Proofs.Ythnkikdbllkmkaa
set_option linter.unusedVariables false
set_option linter.unusedSimpArgs false
namespace Fl
open Ieee

/-- What a rung is worth, in units of the least place. -/
def rungV (f : Format) (x : Nat) : Nat := if x < f.binade then x else (f.binade + x % f.binade) * 2 ^ (x / f.binade - 1)
theorem binade_pos (f : Format) : 0 < f.binade := Nat.two_pow_pos _
theorem rungV_le {f : Format} {x : Nat} (h : f.binade ≤ x) : f.binade * 2 ^ (x / f.binade - 1) ≤ rungV f x ∧ rungV f x < f.binade * 2 ^ (x / f.binade) := by
  have hB := binade_pos f
  unfold rungV
  rw [if_neg (by omega)]
  have hp : 0 < 2 ^ (x / f.binade - 1) := Nat.two_pow_pos _
  have hm : x % f.binade < f.binade := Nat.mod_lt _ hB
  have hq : 1 ≤ x / f.binade := (Nat.le_div_iff_mul_le hB).2 (by omega)
  have h2 : 2 ^ (x / f.binade) = 2 * 2 ^ (x / f.binade - 1) := by
    rw [show x / f.binade = (x / f.binade - 1) + 1 from by omega, Nat.pow_succ, Nat.mul_comm]
    simp
  refine ⟨Nat.mul_le_mul_right _ (by omega), ?_⟩
  rw [h2, ← Nat.mul_assoc]
  exact Nat.mul_lt_mul_of_pos_right (by omega) hp
theorem rungV_lt {f : Format} {x y : Nat} (h : x < y) : rungV f x < rungV f y := by
  have hB := binade_pos f
  by_cases hx : x < f.binade
  · by_cases hy : y < f.binade
    · unfold rungV
      rw [if_pos hx, if_pos hy]
      exact h
    · have h1 := (rungV_le (f := f) (x := y) (by omega)).1
      have hp : 0 < 2 ^ (y / f.binade - 1) := Nat.two_pow_pos _
      have : rungV f x = x := by unfold rungV; rw [if_pos hx]
      have h2 : f.binade * 1 ≤ f.binade * 2 ^ (y / f.binade - 1) := Nat.mul_le_mul_left _ hp
      omega
  · have hq : x / f.binade ≤ y / f.binade := Nat.div_le_div_right (by omega)
    by_cases he : x / f.binade = y / f.binade
    · have h1 := Nat.div_add_mod x f.binade
      have h2 := Nat.div_add_mod y f.binade
      rw [he] at h1
      have hp : 0 < 2 ^ (y / f.binade - 1) := Nat.two_pow_pos _
      unfold rungV
      rw [if_neg hx, if_neg (by omega), he]
      exact Nat.mul_lt_mul_of_pos_right (by omega) hp
    · have h1 := (rungV_le (f := f) (x := x) (by omega)).2
      have h2 := (rungV_le (f := f) (x := y) (by omega)).1
      have h3 : 2 ^ (x / f.binade) ≤ 2 ^ (y / f.binade - 1) := Nat.pow_le_pow_right (by decide) (by omega)
      have h4 := Nat.mul_le_mul_left f.binade h3
      omega
theorem rungV_cmp (f : Format) (x y : Nat) : compare (rungV f x) (rungV f y) = compare x y := by
  rcases Nat.lt_trichotomy x y with h | h | h
  · rw [Nat.compare_eq_lt.2 h, Nat.compare_eq_lt.2 (rungV_lt h)]
  · rw [h, Nat.compare_eq_eq.2 rfl, Nat.compare_eq_eq.2 rfl]
  · rw [Nat.compare_eq_gt.2 h, Nat.compare_eq_gt.2 (rungV_lt h)]

/-- A word that is no NaN and has no sign. -/
def posW (x : Nat) : Prop := x ≤ double.infRung
instance (x : Nat) : Decidable (posW x) := inferInstanceAs (Decidable (x ≤ double.infRung))
theorem infRung_lt_sign : double.infRung < double.signWeight := by decide
theorem binade_lt_inf : double.binade < double.infRung := by decide
/-- The place of a rung's last digit, over the least place. -/
def upOf (x : Nat) : Nat := if x < double.binade then 0 else x / double.binade - 1
def magOf (x : Nat) : Nat := if x < double.binade then x else double.binade + x % double.binade
theorem magOf_up (x : Nat) : magOf x * 2 ^ upOf x = rungV double x := by
  unfold magOf upOf rungV
  split <;> simp
theorem read_pos {x : Nat} (h : x < double.infRung) : double.read x = .number false (magOf x) (double.leastPlace + (upOf x : Int)) := by
  have h1 := infRung_lt_sign
  unfold Format.read
  have hd : x / double.signWeight = 0 := Nat.div_eq_of_lt (by omega)
  have hm : x % double.signWeight = x := Nat.mod_eq_of_lt (by omega)
  dsimp only
  rw [hd, hm]
  unfold magOf upOf
  by_cases hb : x < double.binade
  · rw [if_pos hb, if_pos hb, if_pos hb]
    simp
  · rw [if_neg hb, if_pos h, if_neg hb, if_neg hb]
    rfl
theorem read_inf : double.read double.infRung = .infinity false := by decide
theorem posW_cases {x : Nat} (h : posW x) : x < double.infRung ∨ x = double.infRung := by unfold posW at h; omega

theorem signed_cmp (m n i j : Nat) : compare (signed false m (((double.leastPlace + (i : Int)) - min (double.leastPlace + (i : Int)) (double.leastPlace + (j : Int)))).toNat) (signed false n (((double.leastPlace + (j : Int)) - min (double.leastPlace + (i : Int)) (double.leastPlace + (j : Int)))).toNat) = compare (m * 2 ^ i) (n * 2 ^ j) := by
  generalize double.leastPlace = L
  unfold signed
  simp only [Bool.false_eq_true, if_false, Nat.shiftLeft_eq]
  have key : ∀ a b : Nat, compare (a : Int) (b : Int) = compare a b := by
    intro a b
    rcases Nat.lt_trichotomy a b with h | h | h
    · rw [Nat.compare_eq_lt.2 h, Int.compare_eq_lt.2 (by omega)]
    · rw [h, Nat.compare_eq_eq.2 rfl, Int.compare_eq_eq.2 rfl]
    · rw [Nat.compare_eq_gt.2 h, Int.compare_eq_gt.2 (by omega)]
  rw [key]
  have sc : ∀ (a b p : Nat), compare (a * 2 ^ p) (b * 2 ^ p) = compare a b := by
    intro a b p
    have hp : 0 < 2 ^ p := Nat.two_pow_pos _
    rcases Nat.lt_trichotomy a b with h | h | h
    · rw [Nat.compare_eq_lt.2 h, Nat.compare_eq_lt.2 (Nat.mul_lt_mul_of_pos_right h hp)]
    · rw [h, Nat.compare_eq_eq.2 rfl, Nat.compare_eq_eq.2 rfl]
    · rw [Nat.compare_eq_gt.2 h, Nat.compare_eq_gt.2 (Nat.mul_lt_mul_of_pos_right h hp)]
  rcases Nat.le_total i j with h | h
  · have e1 : (L + (i : Int) - min (L + (i : Int)) (L + (j : Int))).toNat = 0 := by omega
    have e2 : (L + (j : Int) - min (L + (i : Int)) (L + (j : Int))).toNat = j - i := by omega
    rw [e1, e2, ← sc _ _ i, Nat.pow_zero, Nat.mul_one, Nat.mul_assoc n, ← Nat.pow_add, show j - i + i = j from by omega]
  · have e1 : (L + (i : Int) - min (L + (i : Int)) (L + (j : Int))).toNat = i - j := by omega
    have e2 : (L + (j : Int) - min (L + (i : Int)) (L + (j : Int))).toNat = 0 := by omega
    rw [e1, e2, ← sc _ _ j, Nat.pow_zero, Nat.mul_one, Nat.mul_assoc m, ← Nat.pow_add, show i - j + j = i from by omega]
/-- Such words are ordered as numbers are. -/
theorem order_pos {x y : Nat} (hx : posW x) (hy : posW y) : double.order x y = some (compare x y) := by
  unfold Format.order
  rcases posW_cases hx with h1 | h1
  · rcases posW_cases hy with h2 | h2
    · rw [read_pos h1, read_pos h2]
      unfold Datum.order
      dsimp only
      rw [signed_cmp, magOf_up, magOf_up, rungV_cmp]
    · rw [read_pos h1, h2, read_inf]
      unfold Datum.order
      dsimp only
      rw [Nat.compare_eq_lt.2 h1]
      rfl
  · rcases posW_cases hy with h2 | h2
    · rw [read_pos h2, h1, read_inf]
      unfold Datum.order
      dsimp only
      rw [Nat.compare_eq_gt.2 h2]
      rfl
    · rw [h1, h2, read_inf, Nat.compare_eq_eq.2 rfl]
      rfl
theorem word_false (f : Format) (r : Nat) : f.word false r = r := by unfold Format.word; rw [if_neg (by decide)]
theorem nearest_le (f : Format) (mag : Nat) (place : Int) : f.nearest false mag place ≤ f.infRung := by
  unfold Format.nearest
  dsimp only
  split
  · rw [word_false]; exact Nat.zero_le _
  · rw [word_false]; exact Nat.min_le_right _ _
theorem nearest_pos (mag : Nat) (place : Int) : posW (double.nearest false mag place) := nearest_le double mag place
/-- A sum of such words is such a word. -/
theorem add_pos {x y : Nat} (hx : posW x) (hy : posW y) : ∃ r, double.add x y = some r ∧ posW r := by
  unfold Format.add
  have hinf : posW (double.write (.infinity false)) := by
    show double.word false double.infRung ≤ double.infRung
    rw [word_false]
    exact Nat.le_refl _
  rcases posW_cases hx with h1 | h1
  · rcases posW_cases hy with h2 | h2
    · rw [read_pos h1, read_pos h2]
      refine ⟨_, rfl, ?_⟩
      have hneg : ∀ a b : Nat, (if ((signed false (magOf x) a + signed false (magOf y) b) = 0) then (false && false) else decide ((signed false (magOf x) a + signed false (magOf y) b) < 0)) = false := by
        intro a b
        unfold signed
        simp only [Bool.false_eq_true, if_false]
        generalize magOf x <<< a = p
        generalize magOf y <<< b = q
        split
        · rfl
        · exact decide_eq_false (by omega)
      show posW (double.nearest _ _ _)
      rw [hneg]
      exact nearest_pos _ _
    · rw [read_pos h1, h2, read_inf]
      exact ⟨_, rfl, hinf⟩
  · rcases posW_cases hy with h2 | h2
    · rw [read_pos h2, h1, read_inf]
      exact ⟨_, rfl, hinf⟩
    · rw [h1, h2, read_inf]
      exact ⟨_, rfl, hinf⟩
def addW (x y : Nat) : Nat := (double.add x y).getD 0
theorem add_eq {x y : Nat} (hx : posW x) (hy : posW y) : double.add x y = some (addW x y) := by
  obtain ⟨r, h, -⟩ := add_pos hx hy
  unfold addW
  rw [h]
  rfl
theorem addW_pos {x y : Nat} (hx : posW x) (hy : posW y) : posW (addW x y) := by
  obtain ⟨r, h, hr⟩ := add_pos hx hy
  unfold addW
  rw [h]
  exact hr
end Fl
end Go.Proofs.Ythnkikdbllkmkaa
