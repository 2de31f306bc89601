/- The document's layers 1 and 4: powers, remainders, signed words, bits one by one; what instructions reckon. -/
import Derived.Test.YtokkngfgppikkabKb
import Derived.Deep.LoopGhost
namespace Go.Proofs.Ytokkngfgppikkab
set_option linter.unusedVariables false
set_option linter.unusedSimpArgs false
open Go.RowKit

theorem power_calls (n : Nat) (hn : n ≤ 61) (w : World) : Calls Try.prog 92 #[.int .i64 (n : Int)] w fun e w' => e = .returned (.int .i64 ((2 ^ n : Nat) : Int)) ∧ w' = w := by
  go_enter Try.func92, Try.ntmps92
  go_wp2
  go_loopw [3, 4] (fun v i wr => ∃ k : Nat, k ≤ n ∧ i = .int .i64 k ∧ v = .int .i64 ((2 ^ k : Nat) : Int) ∧ wr = w) (fun _ i _ => n - (intOf i).toNat)
  case atStart => exact ⟨0, Nat.zero_le _, rfl, rfl, rfl⟩
  case round =>
    obtain ⟨k, hk, rfl, rfl, rfl⟩ := hrel
    by_cases hlt : k < n
    · have hp : 2 ^ k ≤ 2 ^ 60 := Nat.pow_le_pow_right (by decide) (by omega)
      have hs : 2 ^ (k + 1) = 2 * 2 ^ k := by rw [Nat.pow_succ]; omega
      have HS := Lib.hid hs
      clear hs
      generalize 2 ^ k = x at *
      have hx : (x : Int) ≤ 1152921504606846976 := by omega
      clear hp
      go_wp2
      exact ⟨⟨k + 1, by omega, by go_num, by rw [HS.out]; go_num, by first | rfl | trivial⟩, by first | (simp [intOf]; done) | (simp [intOf]; omega)⟩
    · obtain rfl : k = n := by omega
      go_wp2
      go_ret
      exact ⟨rfl, rfl⟩
theorem tmod_word (x : Int) : (0 ≤ x ∧ x.tmod 4294967296 = x % 4294967296) ∨ (x < 0 ∧ x.tmod 4294967296 = -((-x) % 4294967296)) := by
  by_cases h0 : 0 ≤ x
  · exact .inl ⟨h0, Int.tmod_eq_emod_of_nonneg h0⟩
  · refine .inr ⟨by omega, ?_⟩
    rw [← Int.tmod_eq_emod_of_nonneg (show 0 ≤ -x by omega), Int.neg_tmod, Int.neg_neg]
theorem mod_calls (x : Int) (h : -9223372036854775808 ≤ x ∧ x ≤ 9223372036854775807) (w : World) : Calls Try.prog 113 #[.int .i64 x, .int .i64 4294967296] w fun e w' => e = .returned (.int .i64 (x % 4294967296)) ∧ w' = w := by
  have hf := tmod_word x
  have h1 : x.tmod 4294967296 < 4294967296 := by omega
  have h2 : -4294967296 < x.tmod 4294967296 := by omega
  have HF := Lib.hid hf
  clear hf
  go_enter Try.func113, Try.ntmps113
  go_wp2
  all_goals go_ret
  · rename_i hn
    have := HF.out
    exact ⟨ret_int (by show x.tmod 4294967296 + 4294967296 = x % 4294967296; omega), rfl⟩
  · rename_i hn
    have := HF.out
    exact ⟨ret_int (by show x.tmod 4294967296 = x % 4294967296; omega), rfl⟩
theorem word_calls (x : Int) (h : -9223372036854775808 ≤ x ∧ x ≤ 9223372036854775807) (w : World) : Calls Try.prog 90 #[.int .i64 x] w fun e w' => e = .returned (.int .u32 ((x % 4294967296).toNat : Int)) ∧ w' = w := by
  have h0 := Int.emod_nonneg x (show (4294967296 : Int) ≠ 0 by decide)
  have h1 := Int.emod_lt_of_pos x (show (0 : Int) < 4294967296 by decide)
  go_enter Try.func90, Try.ntmps90
  go_wp2_with fail
  refine (mod_calls x h _).mono ?_
  rintro e w1 ⟨rfl, rfl⟩
  generalize hy : x % 4294967296 = y at *
  obtain ⟨n, rfl⟩ := Int.eq_ofNat_of_zero_le h0
  have HY := Lib.hid hy
  clear hy
  go_wp2_with fail
  go_ret
  exact ⟨ret_int (by rw [HY.out]; rfl), rfl⟩
theorem wrap32_small (n : Nat) (h : n < 4294967296) : wrap32 (n : Int) = if (n : Int) < 2147483648 then (n : Int) else (n : Int) - 4294967296 := by
  unfold wrap32
  split <;> omega
set_option maxRecDepth 100000 in
theorem sign_calls (n : Nat) (h : n < 4294967296) (w : World) : Calls Try.prog 69 #[.int .u32 (n : Int), .int .i64 32] w fun e w' => e = .returned (.int .i64 (wrap32 (n : Int))) ∧ w' = w := by
  obtain ⟨P, hP⟩ : ∃ P : Nat, P = 4294967296 := ⟨_, rfl⟩
  obtain ⟨H, hH⟩ : ∃ H : Nat, H = 2147483648 := ⟨_, rfl⟩
  have hp : ∀ w : World, Calls Try.prog 92 #[.int .i64 32] w fun e w' => e = .returned (.int .i64 (P : Int)) ∧ w' = w := fun w => by rw [hP]; exact power_calls 32 (by decide) w
  have HP := Lib.hid hp
  have hs := wrap32_small n h
  have HS := Lib.hid hs
  have e1 : (n : Int) % (P : Int) = n := Int.emod_eq_of_lt (by omega) (by omega)
  have e2 : (n : Int).tmod (P : Int) = n := by rw [Int.tmod_eq_emod_of_nonneg (by omega)]; exact e1
  have e3 : (P : Int) / 2 = H := by omega
  have e4 : (P : Int).tdiv 2 = H := by rw [Int.tdiv_eq_ediv_of_nonneg (by omega)]; exact e3
  have b1 : 0 < P := by omega
  have b2 : n < P := by omega
  have b3 : (P : Int) ≤ 9223372036854775807 := by omega
  have HPP := Lib.hid (And.intro hP hH)
  have z1 : ((P : Int) == 0) = false := by simp; omega
  clear hp hs h
  by_cases hlt : n < H
  · clear hP hH
    go_enter Try.func69, Try.ntmps69
    go_wp2_with fail
    refine (HP.out _).mono ?_
    rintro e w1 ⟨rfl, rfl⟩
    go_wp2_with fail
    refine (HP.out _).mono ?_
    rintro e w1 ⟨rfl, rfl⟩
    go_wp2_with fail
    go_ret
    exact ⟨ret_int (by have := HPP.out; rw [HS.out, if_pos (by omega)]), rfl⟩
  · have hge : H ≤ n := by omega
    clear hlt hP hH
    go_enter Try.func69, Try.ntmps69
    go_wp2_with fail
    refine (HP.out _).mono ?_
    rintro e w1 ⟨rfl, rfl⟩
    go_wp2_with fail
    refine (HP.out _).mono ?_
    rintro e w1 ⟨rfl, rfl⟩
    go_wp2_with fail
    refine (HP.out _).mono ?_
    rintro e w1 ⟨rfl, rfl⟩
    go_wp2_with fail
    go_ret
    exact ⟨ret_int (by obtain ⟨q1, q2⟩ := HPP.out; rw [HS.out, if_neg (by omega)]; show (n : Int) - (P : Int) = _; rw [q1]; rfl), rfl⟩
def bw (how : Nat) (a b : Nat) : Nat := if how = 0 then a &&& b else if how = 1 then a ||| b else a ^^^ b
def bwBit (how p q : Nat) : Nat := if how = 0 then p * q else if how = 1 then p + q - p * q else (p + q) % 2
theorem bw_step (how a b : Nat) : bw how a b = 2 * bw how (a / 2) (b / 2) + bwBit how (a % 2) (b % 2) := by
  have hp : a % 2 = 0 ∨ a % 2 = 1 := by omega
  have hq : b % 2 = 0 ∨ b % 2 = 1 := by omega
  have m1 := Nat.and_mod_two_pow (a := a) (b := b) (n := 1)
  have m2 := Nat.or_mod_two_pow (a := a) (b := b) (n := 1)
  have m3 := Nat.xor_mod_two_pow (a := a) (b := b) (n := 1)
  rw [Nat.pow_one] at m1 m2 m3
  unfold bw bwBit
  by_cases h0 : how = 0
  · rw [if_pos h0, if_pos h0, if_pos h0, ← Nat.and_div_two]
    have : (a &&& b) % 2 = a % 2 * (b % 2) := by rw [m1]; rcases hp with e | e <;> rcases hq with f | f <;> rw [e, f] <;> rfl
    omega
  · rw [if_neg h0, if_neg h0, if_neg h0]
    by_cases h1 : how = 1
    · rw [if_pos h1, if_pos h1, if_pos h1, ← Nat.or_div_two]
      have : (a ||| b) % 2 = a % 2 + b % 2 - a % 2 * (b % 2) := by rw [m2]; rcases hp with e | e <;> rcases hq with f | f <;> rw [e, f] <;> rfl
      omega
    · rw [if_neg h1, if_neg h1, if_neg h1, ← Nat.xor_div_two]
      have : (a ^^^ b) % 2 = (a % 2 + b % 2) % 2 := by rw [m3]; rcases hp with e | e <;> rcases hq with f | f <;> rw [e, f] <;> rfl
      omega
theorem bw_lt {how a b n : Nat} (ha : a < 2 ^ n) (hb : b < 2 ^ n) : bw how a b < 2 ^ n := by
  unfold bw
  split
  · exact Nat.and_lt_two_pow _ hb
  · split
    · exact Nat.or_lt_two_pow ha hb
    · exact Nat.xor_lt_two_pow ha hb
theorem bw_zero (how : Nat) : bw how 0 0 = 0 := by unfold bw; split; rfl; split <;> rfl
set_option maxHeartbeats 2000000 in
set_option maxRecDepth 100000 in
theorem bitwise_calls (b c how : Nat) (w : World) (hb : b < 4294967296) (hc : c < 4294967296) (hh : how = 0 ∨ how = 1 ∨ how = 2) : Calls Try.prog 91 #[.int .u32 (b : Int), .int .u32 (c : Int), .int .i64 (how : Int)] w fun e w' => e = .returned (.int .u32 (bw how b c : Int)) ∧ w' = w := by
  have HB := Lib.hid hb
  have HC := Lib.hid hc
  clear hb hc
  rcases hh with rfl | rfl | rfl
  · have hst : bw 0 (b / 2 ^ 32) (c / 2 ^ 32) = 0 := by
      rw [Nat.div_eq_of_lt (by simpa using HB.out), Nat.div_eq_of_lt (by simpa using HC.out), bw_zero]
    have HST := Lib.hid hst
    clear hst
    go_enter Try.func91, Try.ntmps91
    go_wp2
    go_loopw [7, 8] (fun v i wr => ∃ m : Nat, m ≤ 32 ∧ i = .int .i64 ((m : Int) - 1) ∧ v = .int .i64 (bw 0 (b / 2 ^ m) (c / 2 ^ m) : Int) ∧ wr = w) (fun _ i _ => (intOf i + 1).toNat)
    case atStart => exact ⟨32, Nat.le_refl _, rfl, by rw [HST.out]; rfl, rfl⟩
    case round =>
      obtain ⟨m, hm, rfl, rfl, rfl⟩ := hrel
      by_cases hp : 0 < m
      · obtain ⟨q, rfl⟩ : ∃ q, m = q + 1 := ⟨m - 1, by omega⟩
        have e : (((q + 1 : Nat) : Int) - 1) = (q : Int) := by omega
        rw [e]
        have hq31 : q ≤ 31 := by omega
        have eb : (b : Int) / 2 ^ q = ((b / 2 ^ q : Nat) : Int) := by simp
        have ec : (c : Int) / 2 ^ q = ((c / 2 ^ q : Nat) : Int) := by simp
        have eb2 : b / 2 ^ (q + 1) = b / 2 ^ q / 2 := by rw [Nat.pow_succ, Nat.div_div_eq_div_mul]
        have ec2 : c / 2 ^ (q + 1) = c / 2 ^ q / 2 := by rw [Nat.pow_succ, Nat.div_div_eq_div_mul]
        have lb : b / 2 ^ q < 4294967296 := Nat.lt_of_le_of_lt (Nat.div_le_self _ _) HB.out
        have lc : c / 2 ^ q < 4294967296 := Nat.lt_of_le_of_lt (Nat.div_le_self _ _) HC.out
        have hs := bw_step 0 (b / 2 ^ q) (c / 2 ^ q)
        have hx : bw 0 (b / 2 ^ q / 2) (c / 2 ^ q / 2) < 2 ^ 31 := bw_lt (by omega) (by omega)
        rw [eb2, ec2]
        have HS := Lib.hid hs
        clear e hp eb2 ec2 hs
        generalize hB : b / 2 ^ q = B at *
        generalize hC : c / 2 ^ q = C at *
        have HBB := Lib.hid hB
        have HCC := Lib.hid hC
        generalize bw 0 (B / 2) (C / 2) = X at *
        clear hB hC
        have hX : X < 2147483648 := by simpa using hx
        clear hx
        have hb2 : B % 2 = 0 ∨ B % 2 = 1 := by omega
        have hc2 : C % 2 = 0 ∨ C % 2 = 1 := by omega
        rcases hb2 with hb2 | hb2 <;> rcases hc2 with hc2 | hc2
        all_goals
          have f1 := Lib.hid hb2
          have f2 := Lib.hid hc2
          first
            | have g1 : (B : Int) % 2 = 0 := by omega
            | have g1 : (B : Int) % 2 = 1 := by omega
          first
            | have g2 : (C : Int) % 2 = 0 := by omega
            | have g2 : (C : Int) % 2 = 1 := by omega
          clear hb2 hc2
          go_wp2
          exact ⟨⟨q, by omega, rfl, by rw [HBB.out, HCC.out, HS.out, f1.out, f2.out]; simp [bwBit], by first | rfl | trivial⟩, by first | (simp [intOf]; done) | (simp [intOf]; omega)⟩
      · obtain rfl : m = 0 := by omega
        have hfin : bw 0 (b / 2 ^ 0) (c / 2 ^ 0) = bw 0 b c := by simp
        rw [hfin]
        have hy : bw 0 b c < 2 ^ 32 := bw_lt (by simpa using HB.out) (by simpa using HC.out)
        clear hfin
        generalize hYe : bw 0 b c = Y at *
        have HYE := Lib.hid hYe
        clear hYe
        have hY : Y < 4294967296 := by simpa using hy
        clear hy
        go_wp2
        go_ret
        exact ⟨ret_int (by rw [HYE.out]), rfl⟩
  · have hst : bw 1 (b / 2 ^ 32) (c / 2 ^ 32) = 0 := by
      rw [Nat.div_eq_of_lt (by simpa using HB.out), Nat.div_eq_of_lt (by simpa using HC.out), bw_zero]
    have HST := Lib.hid hst
    clear hst
    go_enter Try.func91, Try.ntmps91
    go_wp2
    go_loopw [7, 8] (fun v i wr => ∃ m : Nat, m ≤ 32 ∧ i = .int .i64 ((m : Int) - 1) ∧ v = .int .i64 (bw 1 (b / 2 ^ m) (c / 2 ^ m) : Int) ∧ wr = w) (fun _ i _ => (intOf i + 1).toNat)
    case atStart => exact ⟨32, Nat.le_refl _, rfl, by rw [HST.out]; rfl, rfl⟩
    case round =>
      obtain ⟨m, hm, rfl, rfl, rfl⟩ := hrel
      by_cases hp : 0 < m
      · obtain ⟨q, rfl⟩ : ∃ q, m = q + 1 := ⟨m - 1, by omega⟩
        have e : (((q + 1 : Nat) : Int) - 1) = (q : Int) := by omega
        rw [e]
        have hq31 : q ≤ 31 := by omega
        have eb : (b : Int) / 2 ^ q = ((b / 2 ^ q : Nat) : Int) := by simp
        have ec : (c : Int) / 2 ^ q = ((c / 2 ^ q : Nat) : Int) := by simp
        have eb2 : b / 2 ^ (q + 1) = b / 2 ^ q / 2 := by rw [Nat.pow_succ, Nat.div_div_eq_div_mul]
        have ec2 : c / 2 ^ (q + 1) = c / 2 ^ q / 2 := by rw [Nat.pow_succ, Nat.div_div_eq_div_mul]
        have lb : b / 2 ^ q < 4294967296 := Nat.lt_of_le_of_lt (Nat.div_le_self _ _) HB.out
        have lc : c / 2 ^ q < 4294967296 := Nat.lt_of_le_of_lt (Nat.div_le_self _ _) HC.out
        have hs := bw_step 1 (b / 2 ^ q) (c / 2 ^ q)
        have hx : bw 1 (b / 2 ^ q / 2) (c / 2 ^ q / 2) < 2 ^ 31 := bw_lt (by omega) (by omega)
        rw [eb2, ec2]
        have HS := Lib.hid hs
        clear e hp eb2 ec2 hs
        generalize hB : b / 2 ^ q = B at *
        generalize hC : c / 2 ^ q = C at *
        have HBB := Lib.hid hB
        have HCC := Lib.hid hC
        generalize bw 1 (B / 2) (C / 2) = X at *
        clear hB hC
        have hX : X < 2147483648 := by simpa using hx
        clear hx
        have hb2 : B % 2 = 0 ∨ B % 2 = 1 := by omega
        have hc2 : C % 2 = 0 ∨ C % 2 = 1 := by omega
        rcases hb2 with hb2 | hb2 <;> rcases hc2 with hc2 | hc2
        all_goals
          have f1 := Lib.hid hb2
          have f2 := Lib.hid hc2
          first
            | have g1 : (B : Int) % 2 = 0 := by omega
            | have g1 : (B : Int) % 2 = 1 := by omega
          first
            | have g2 : (C : Int) % 2 = 0 := by omega
            | have g2 : (C : Int) % 2 = 1 := by omega
          clear hb2 hc2
          go_wp2
          exact ⟨⟨q, by omega, rfl, by rw [HBB.out, HCC.out, HS.out, f1.out, f2.out]; simp [bwBit], by first | rfl | trivial⟩, by first | (simp [intOf]; done) | (simp [intOf]; omega)⟩
      · obtain rfl : m = 0 := by omega
        have hfin : bw 1 (b / 2 ^ 0) (c / 2 ^ 0) = bw 1 b c := by simp
        rw [hfin]
        have hy : bw 1 b c < 2 ^ 32 := bw_lt (by simpa using HB.out) (by simpa using HC.out)
        clear hfin
        generalize hYe : bw 1 b c = Y at *
        have HYE := Lib.hid hYe
        clear hYe
        have hY : Y < 4294967296 := by simpa using hy
        clear hy
        go_wp2
        go_ret
        exact ⟨ret_int (by rw [HYE.out]), rfl⟩
  · have hst : bw 2 (b / 2 ^ 32) (c / 2 ^ 32) = 0 := by
      rw [Nat.div_eq_of_lt (by simpa using HB.out), Nat.div_eq_of_lt (by simpa using HC.out), bw_zero]
    have HST := Lib.hid hst
    clear hst
    go_enter Try.func91, Try.ntmps91
    go_wp2
    go_loopw [7, 8] (fun v i wr => ∃ m : Nat, m ≤ 32 ∧ i = .int .i64 ((m : Int) - 1) ∧ v = .int .i64 (bw 2 (b / 2 ^ m) (c / 2 ^ m) : Int) ∧ wr = w) (fun _ i _ => (intOf i + 1).toNat)
    case atStart => exact ⟨32, Nat.le_refl _, rfl, by rw [HST.out]; rfl, rfl⟩
    case round =>
      obtain ⟨m, hm, rfl, rfl, rfl⟩ := hrel
      by_cases hp : 0 < m
      · obtain ⟨q, rfl⟩ : ∃ q, m = q + 1 := ⟨m - 1, by omega⟩
        have e : (((q + 1 : Nat) : Int) - 1) = (q : Int) := by omega
        rw [e]
        have hq31 : q ≤ 31 := by omega
        have eb : (b : Int) / 2 ^ q = ((b / 2 ^ q : Nat) : Int) := by simp
        have ec : (c : Int) / 2 ^ q = ((c / 2 ^ q : Nat) : Int) := by simp
        have eb2 : b / 2 ^ (q + 1) = b / 2 ^ q / 2 := by rw [Nat.pow_succ, Nat.div_div_eq_div_mul]
        have ec2 : c / 2 ^ (q + 1) = c / 2 ^ q / 2 := by rw [Nat.pow_succ, Nat.div_div_eq_div_mul]
        have lb : b / 2 ^ q < 4294967296 := Nat.lt_of_le_of_lt (Nat.div_le_self _ _) HB.out
        have lc : c / 2 ^ q < 4294967296 := Nat.lt_of_le_of_lt (Nat.div_le_self _ _) HC.out
        have hs := bw_step 2 (b / 2 ^ q) (c / 2 ^ q)
        have hx : bw 2 (b / 2 ^ q / 2) (c / 2 ^ q / 2) < 2 ^ 31 := bw_lt (by omega) (by omega)
        rw [eb2, ec2]
        have HS := Lib.hid hs
        clear e hp eb2 ec2 hs
        generalize hB : b / 2 ^ q = B at *
        generalize hC : c / 2 ^ q = C at *
        have HBB := Lib.hid hB
        have HCC := Lib.hid hC
        generalize bw 2 (B / 2) (C / 2) = X at *
        clear hB hC
        have hX : X < 2147483648 := by simpa using hx
        clear hx
        have hb2 : B % 2 = 0 ∨ B % 2 = 1 := by omega
        have hc2 : C % 2 = 0 ∨ C % 2 = 1 := by omega
        rcases hb2 with hb2 | hb2 <;> rcases hc2 with hc2 | hc2
        all_goals
          have f1 := Lib.hid hb2
          have f2 := Lib.hid hc2
          first
            | have g1 : (B : Int) % 2 = 0 := by omega
            | have g1 : (B : Int) % 2 = 1 := by omega
          first
            | have g2 : (C : Int) % 2 = 0 := by omega
            | have g2 : (C : Int) % 2 = 1 := by omega
          clear hb2 hc2
          go_wp2
          exact ⟨⟨q, by omega, rfl, by rw [HBB.out, HCC.out, HS.out, f1.out, f2.out]; simp [bwBit], by first | rfl | trivial⟩, by first | (simp [intOf]; done) | (simp [intOf]; omega)⟩
      · obtain rfl : m = 0 := by omega
        have hfin : bw 2 (b / 2 ^ 0) (c / 2 ^ 0) = bw 2 b c := by simp
        rw [hfin]
        have hy : bw 2 b c < 2 ^ 32 := bw_lt (by simpa using HB.out) (by simpa using HC.out)
        clear hfin
        generalize hYe : bw 2 b c = Y at *
        have HYE := Lib.hid hYe
        clear hYe
        have hY : Y < 4294967296 := by simpa using hy
        clear hy
        go_wp2
        go_ret
        exact ⟨ret_int (by rw [HYE.out]), rfl⟩
end Go.Proofs.Ytokkngfgppikkab
