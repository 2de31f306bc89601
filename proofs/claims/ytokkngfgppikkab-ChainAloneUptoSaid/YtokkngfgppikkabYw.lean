/- Plain: zero adds nothing to a float that is no NaN and not negative. -/
import Derived.Test.YtokkngfgppikkabYb
namespace Go.Proofs.Ytokkngfgppikkab
set_option linter.unusedVariables false
set_option linter.unusedSimpArgs false
namespace Fl
open Ieee

theorem log2_is {n k : Nat} (h1 : 2 ^ k ≤ n) (h2 : n < 2 ^ (k + 1)) : n.log2 = k := by
  have hn : n ≠ 0 := by
    have : 0 < 2 ^ k := Nat.two_pow_pos k
    omega
  have a := (Nat.le_log2 hn).2 h1
  have b := (Nat.log2_lt hn).2 h2
  omega
theorem cut_exact (neg : Bool) (m e : Nat) (h : e ≤ (m * 2 ^ e).log2 + 2) : Toward.even.cut neg (m * 2 ^ e) e = m := by
  unfold Toward.cut
  dsimp only
  have hg : 1 <<< min e ((m * 2 ^ e).log2 + 2) = 2 ^ e := by rw [Nat.min_eq_left h, Nat.shiftLeft_eq, Nat.one_mul]
  rw [hg]
  have hp : 0 < 2 ^ e := Nat.two_pow_pos e
  have h1 : m * 2 ^ e / 2 ^ e = m := Nat.mul_div_cancel m hp
  have h2 : m * 2 ^ e % 2 ^ e = 0 := Nat.mul_mod_left m (2 ^ e)
  rw [h1, h2]
  have h3 : (decide (2 ^ e < 2 * 0) || (2 ^ e == 2 * 0 && m % 2 == 1)) = false := by
    have a : decide (2 ^ e < 2 * 0) = false := decide_eq_false (by omega)
    have b : (2 ^ e == 2 * 0) = false := beq_eq_false_iff_ne.2 (by omega)
    rw [a, b]
    rfl
  rw [h3]
  rfl
theorem nearest_rung (f : Format) {x : Nat} (hx : x ≤ f.infRung) : f.nearest false (rungV f x) f.leastPlace = x := by
  have hB : f.binade = 2 ^ f.fractionBits := rfl
  have hBp := binade_pos f
  by_cases h0 : x = 0
  · subst h0
    have hv : rungV f 0 = 0 := by unfold rungV; rw [if_pos hBp]
    unfold Format.nearest
    dsimp only
    rw [hv, if_pos rfl, word_false]
  · by_cases hlt : x < f.binade
    · have hv : rungV f x = x := by unfold rungV; rw [if_pos hlt]
      have hlog : x.log2 < f.fractionBits := (Nat.log2_lt h0).2 hlt
      unfold Format.nearest
      dsimp only
      rw [hv, if_neg h0]
      have hlast : max (f.leastPlace + (x.log2 : Int) - (f.fractionBits : Int)) f.leastPlace = f.leastPlace := Int.max_eq_right (by omega)
      rw [hlast, Int.sub_self]
      have hc := cut_exact false x 0 (Nat.zero_le _)
      rw [Nat.pow_zero, Nat.mul_one] at hc
      show f.word false (min ((0 : Int).toNat * f.binade + Toward.even.cut false (x <<< (0 : Int).toNat) (0 : Int).toNat) f.infRung) = x
      rw [show ((0 : Int)).toNat = 0 from rfl, Nat.shiftLeft_zero, hc, word_false, Nat.zero_mul, Nat.zero_add]
      exact Nat.min_eq_left hx
    · have hge : f.binade ≤ x := by omega
      obtain ⟨l1, l2⟩ := rungV_le hge
      have hq : 1 ≤ x / f.binade := (Nat.le_div_iff_mul_le hBp).2 (by omega)
      obtain ⟨e, he⟩ : ∃ e, x / f.binade = e + 1 := ⟨x / f.binade - 1, by omega⟩
      rw [he] at l1 l2
      rw [show e + 1 - 1 = e from rfl] at l1
      have hv : rungV f x = (f.binade + x % f.binade) * 2 ^ e := by unfold rungV; rw [if_neg hlt, he]; rfl
      have hlog : (rungV f x).log2 = f.fractionBits + e := by
        refine log2_is ?_ ?_
        · rw [Nat.pow_add]; exact l1
        · rw [show f.fractionBits + e + 1 = f.fractionBits + (e + 1) from by omega, Nat.pow_add]; exact l2
      have hv0 : rungV f x ≠ 0 := by
        have : 0 < 2 ^ e := Nat.two_pow_pos e
        have : 0 < f.binade * 2 ^ e := Nat.mul_pos hBp this
        omega
      unfold Format.nearest
      dsimp only
      rw [if_neg hv0, hlog]
      have hlast : max (f.leastPlace + ((f.fractionBits + e : Nat) : Int) - (f.fractionBits : Int)) f.leastPlace = f.leastPlace + (e : Int) := by
        rw [Int.max_eq_left (by omega)]
        omega
      rw [hlast]
      have e1 : (f.leastPlace - (f.leastPlace + (e : Int))).toNat = 0 := by omega
      have e2 : (f.leastPlace + (e : Int) - f.leastPlace).toNat = e := by omega
      rw [e1, e2, Nat.shiftLeft_zero, hv, cut_exact false _ e (by rw [← hv, hlog]; omega), word_false]
      have hdm := Nat.div_add_mod x f.binade
      rw [he, Nat.mul_add, Nat.mul_one] at hdm
      have : e * f.binade + (f.binade + x % f.binade) = x := by rw [Nat.mul_comm e]; omega
      rw [this]
      exact Nat.min_eq_left hx
theorem addW_zero {x : Nat} (hx : posW x) : addW x 0 = x := by
  have h : double.add x 0 = some x := by
    unfold Format.add
    rw [read_zero]
    rcases posW_cases hx with h1 | h1
    · rw [read_pos h1]
      show some (double.write (Datum.number _ _ _)) = some x
      congr 1
      have hb : min (double.leastPlace + (upOf x : Int)) double.leastPlace = double.leastPlace := Int.min_eq_right (by omega)
      rw [hb]
      have e1 : (double.leastPlace + (upOf x : Int) - double.leastPlace).toNat = upOf x := by omega
      have e2 : (double.leastPlace - double.leastPlace).toNat = 0 := by omega
      rw [e1, e2]
      have ht : signed false (magOf x) (upOf x) + signed false 0 0 = ((rungV double x : Nat) : Int) := by
        unfold signed
        simp only [Bool.false_eq_true, if_false]
        rw [Nat.shiftLeft_eq, magOf_up]
        simp
      rw [ht]
      have hn : (if ((rungV double x : Nat) : Int) = 0 then (false && false) else decide (((rungV double x : Nat) : Int) < 0)) = false := by
        split
        · rfl
        · exact decide_eq_false (by omega)
      rw [hn, Int.natAbs_natCast]
      exact nearest_rung double hx
    · rw [h1, read_inf]
      show some (double.word false double.infRung) = some double.infRung
      rw [word_false]
  unfold addW
  rw [h]
  rfl
end Fl
end Go.Proofs.Ytokkngfgppikkab
