/- The document's layer 4: Do and Taken answer as the program's. Printed by genKs.py of this repository. -/
import Derived.Test.YtokkngfgppikkabKr
namespace Go.Proofs.Ytokkngfgppikkab
set_option linter.unusedVariables false
set_option linter.unusedSimpArgs false
open Go.RowKit

theorem rdo1 {x y : Nat} {imm : Int} (hx : x < 4294967296) (hy : y < 4294967296) : (((x : Int) + y) % 4294967296).toNat = aluDo 1 imm x y := by
  simp [aluDo]; omega
theorem rdo2 {x y : Nat} {imm : Int} (hx : x < 4294967296) (hy : y < 4294967296) : (((x : Int) - y) % 4294967296).toNat = aluDo 2 imm x y := by
  simp [aluDo]; omega
theorem rdo7 {x y m v s u p : Nat} {imm : Int} (hp : p = x % 65536) (hs : s = x / 65536) (hu : u = y % 65536) (hm : p * y = m) (hv : s * u = v) : (((m : Int) + (v : Int) * 65536) % 4294967296).toNat = aluDo 7 imm x y := by
  have h : x * y = m + v * 65536 + (s * (y / 65536)) * 4294967296 := by
    have hx : x = 65536 * s + p := by omega
    have hy : y = 65536 * (y / 65536) + u := by omega
    have e1 : x * y = 65536 * (s * y) + p * y := by
      calc x * y = (65536 * s + p) * y := by rw [← hx]
        _ = _ := by rw [Nat.add_mul, Nat.mul_assoc]
    have e2 : s * y = 65536 * (s * (y / 65536)) + s * u := by
      calc s * y = s * (65536 * (y / 65536) + u) := by rw [← hy]
        _ = _ := by rw [Nat.mul_add, Nat.mul_left_comm]
    omega
  have h7 : aluDo 7 imm x y = x * y % 4294967296 := by simp [aluDo]
  rw [h7, h]
  generalize s * (y / 65536) = q
  omega
theorem rdo8 {x y : Nat} {imm : Int} : (((x : Int) + imm) % 4294967296).toNat = aluDo 8 imm x y := by
  simp [aluDo, cutN]; omega
theorem rdo9 {x y : Nat} {imm : Int} (h0 : 0 ≤ imm) (h1 : imm ≤ 65535) : ((imm * 65536) % 4294967296).toNat = aluDo 9 imm x y := by
  simp [aluDo, cutN]; omega
theorem rdo10 {x y j : Nat} (h1 : j ≤ 65535) : bw 1 x j = aluDo 10 (j : Int) x y := by
  have : cutN (j : Int) 16 = j := by unfold cutN; omega
  simp [aluDo, bw, this]
theorem bw0_calls (b c : Nat) (w : World) (hb : b < 4294967296) (hc : c < 4294967296) : Calls Try.prog 91 #[.int .u32 (b : Int), .int .u32 (c : Int), .int .i64 0] w fun e w' => e = .returned (.int .u32 (bw 0 b c : Int)) ∧ w' = w := bitwise_calls b c 0 w hb hc (by simp)
theorem bw1_calls (b c : Nat) (w : World) (hb : b < 4294967296) (hc : c < 4294967296) : Calls Try.prog 91 #[.int .u32 (b : Int), .int .u32 (c : Int), .int .i64 1] w fun e w' => e = .returned (.int .u32 (bw 1 b c : Int)) ∧ w' = w := bitwise_calls b c 1 w hb hc (by simp)
theorem bw2_calls (b c : Nat) (w : World) (hb : b < 4294967296) (hc : c < 4294967296) : Calls Try.prog 91 #[.int .u32 (b : Int), .int .u32 (c : Int), .int .i64 2] w fun e w' => e = .returned (.int .u32 (bw 2 b c : Int)) ∧ w' = w := bitwise_calls b c 2 w hb hc (by simp)
theorem right8 {i : Ins} (h : i.right = true) (hop : i.op = 8) : -32768 ≤ i.imm ∧ i.imm ≤ 32767 := by
  unfold Ins.right three near at h
  simp [hop] at h
  omega
theorem right9 {i : Ins} (h : i.right = true) (hop : i.op = 9) : 0 ≤ i.imm ∧ i.imm ≤ 65535 := by
  unfold Ins.right three near branch at h
  simp [hop] at h
  omega
theorem right10 {i : Ins} (h : i.right = true) (hop : i.op = 10) : 0 ≤ i.imm ∧ i.imm ≤ 65535 := by
  unfold Ins.right three near at h
  simp [hop] at h
  omega
set_option maxHeartbeats 4000000 in
set_option maxRecDepth 100000 in
theorem refDo_calls (op a b c imm : Int) (x y : Nat) (w : World) (hx : x < 4294967296) (hy : y < 4294967296) (h8 : op = 8 → -32768 ≤ imm ∧ imm ≤ 32767) (h9 : op = 9 → 0 ≤ imm ∧ imm ≤ 65535) (h10 : op = 10 → 0 ≤ imm ∧ imm ≤ 65535) : Calls Try.prog 68 #[.agg #[.int .i64 op, .int .i64 a, .int .i64 b, .int .i64 c, .int .i64 imm], .int .u32 (x : Int), .int .u32 (y : Int)] w fun e w' => e = .returned (.int .u32 (aluDo op imm x y : Int)) ∧ Below w.heap.size w w' := by
  have b0 := (Below.refl w.heap.size w).alloc (Nat.le_refl _) (.cells #[.int .i64 op, .int .i64 a, .int .i64 b, .int .i64 c, .int .i64 imm] 35)
  by_cases h1' : op = 1
  · subst h1'
    have HD := Lib.hid (rdo1 (imm := imm) hx hy)
    clear h8 h9 h10
    go_enter Try.func68, Try.ntmps68
    go_wp2_with fail
    refine (word_calls _ (by omega) _).mono ?_
    rintro e w2 ⟨rfl, rfl⟩
    go_wp2_with fail
    go_ret
    exact ⟨ret_int (by first | rw [HD.out] | (have := HD.out; omega)), b0⟩
  have z1 : (op == 1) = false := by simp [h1']
  by_cases h2' : op = 2
  · subst h2'
    have HD := Lib.hid (rdo2 (imm := imm) hx hy)
    clear h8 h9 h10
    go_enter Try.func68, Try.ntmps68
    go_wp2_with fail
    refine (word_calls _ (by omega) _).mono ?_
    rintro e w2 ⟨rfl, rfl⟩
    go_wp2_with fail
    go_ret
    exact ⟨ret_int (by first | rw [HD.out] | (have := HD.out; omega)), b0⟩
  have z2 : (op == 2) = false := by simp [h2']
  by_cases h3' : op = 3
  · subst h3'
    have hd : bw 0 x y = aluDo 3 imm x y := by simp [aluDo, bw]
    have HD := Lib.hid hd
    clear hd
    clear h8 h9 h10
    go_enter Try.func68, Try.ntmps68
    go_wp2_with fail
    refine (bw0_calls x y _ hx hy).mono ?_
    rintro e w2 ⟨rfl, rfl⟩
    go_wp2_with fail
    go_ret
    exact ⟨ret_int (by first | rw [HD.out] | (have := HD.out; omega)), b0⟩
  have z3 : (op == 3) = false := by simp [h3']
  by_cases h4' : op = 4
  · subst h4'
    have hd : bw 1 x y = aluDo 4 imm x y := by simp [aluDo, bw]
    have HD := Lib.hid hd
    clear hd
    clear h8 h9 h10
    go_enter Try.func68, Try.ntmps68
    go_wp2_with fail
    refine (bw1_calls x y _ hx hy).mono ?_
    rintro e w2 ⟨rfl, rfl⟩
    go_wp2_with fail
    go_ret
    exact ⟨ret_int (by first | rw [HD.out] | (have := HD.out; omega)), b0⟩
  have z4 : (op == 4) = false := by simp [h4']
  by_cases h5' : op = 5
  · subst h5'
    have hd : bw 2 x y = aluDo 5 imm x y := by simp [aluDo, bw]
    have HD := Lib.hid hd
    clear hd
    clear h8 h9 h10
    go_enter Try.func68, Try.ntmps68
    go_wp2_with fail
    refine (bw2_calls x y _ hx hy).mono ?_
    rintro e w2 ⟨rfl, rfl⟩
    go_wp2_with fail
    go_ret
    exact ⟨ret_int (by first | rw [HD.out] | (have := HD.out; omega)), b0⟩
  have z5 : (op == 5) = false := by simp [h5']
  by_cases h6' : op = 6
  · subst h6'
    clear h8 h9 h10
    have hX := sign_calls x hx
    have hY := sign_calls y hy
    have hL : lessS x y = decide (wrap32 (x : Int) < wrap32 (y : Int)) := rfl
    generalize wrap32 (x : Int) = X at *
    generalize wrap32 (y : Int) = Y at *
    have HX := Lib.hid hX
    have HY := Lib.hid hY
    clear hX hY
    by_cases hl : X < Y
    · have zl : decide (X < Y) = true := by simp [hl]
      have hd : aluDo 6 imm x y = 1 := by simp [aluDo, hL, hl]
      have HD := Lib.hid hd
      clear hl hd hL
      go_enter Try.func68, Try.ntmps68
      go_wp2_with fail
      refine (HX.out _).mono ?_
      rintro e w2 ⟨rfl, rfl⟩
      go_wp2_with fail
      refine (HY.out _).mono ?_
      rintro e w2 ⟨rfl, rfl⟩
      go_wp2_with fail
      go_ret
      exact ⟨ret_int (by rw [HD.out]; rfl), b0⟩
    · have zl : decide (X < Y) = false := by simp; omega
      have hd : aluDo 6 imm x y = 0 := by simp [aluDo, hL, hl]
      have HD := Lib.hid hd
      clear hl hd hL
      go_enter Try.func68, Try.ntmps68
      go_wp2_with fail
      refine (HX.out _).mono ?_
      rintro e w2 ⟨rfl, rfl⟩
      go_wp2_with fail
      refine (HY.out _).mono ?_
      rintro e w2 ⟨rfl, rfl⟩
      go_wp2_with fail
      go_ret
      exact ⟨ret_int (by rw [HD.out]; rfl), b0⟩
  have z6 : (op == 6) = false := by simp [h6']
  by_cases h7' : op = 7
  · subst h7'
    clear h8 h9 h10
    obtain ⟨p, hp⟩ : ∃ p, p = x % 65536 := ⟨_, rfl⟩
    obtain ⟨s, hs⟩ : ∃ s, s = x / 65536 := ⟨_, rfl⟩
    obtain ⟨u, hu⟩ : ∃ u, u = y % 65536 := ⟨_, rfl⟩
    obtain ⟨m, hm⟩ : ∃ m, p * y = m := ⟨_, rfl⟩
    obtain ⟨v, hv⟩ : ∃ v, s * u = v := ⟨_, rfl⟩
    have HD := Lib.hid (rdo7 (imm := imm) hp hs hu hm hv)
    have lp : p < 65536 := by omega
    have ls : s < 65536 := by omega
    have lu : u < 65536 := by omega
    have lm : m < 281474976710656 := by
      rw [← hm]
      exact Nat.lt_of_le_of_lt (Nat.mul_le_mul (show p ≤ 65535 by omega) (show y ≤ 4294967295 by omega)) (by decide)
    have lv : v < 4294967296 := by
      rw [← hv]
      exact Nat.lt_of_le_of_lt (Nat.mul_le_mul (show s ≤ 65535 by omega) (show u ≤ 65535 by omega)) (by decide)
    have e1 : (x : Int) % 65536 = (p : Int) := by omega
    have e1' : (x : Int).tmod 65536 = (p : Int) := by rw [Int.tmod_eq_emod_of_nonneg (by omega)]; exact e1
    have e2 : (x : Int) / 65536 = (s : Int) := by omega
    have e2' : (x : Int).tdiv 65536 = (s : Int) := by rw [Int.tdiv_eq_ediv_of_nonneg (by omega)]; exact e2
    have e3 : (y : Int) % 65536 = (u : Int) := by omega
    have e3' : (y : Int).tmod 65536 = (u : Int) := by rw [Int.tmod_eq_emod_of_nonneg (by omega)]; exact e3
    have e4 : (p : Int) * (y : Int) = (m : Int) := by rw [← hm]; simp
    have e5 : (s : Int) * (u : Int) = (v : Int) := by rw [← hv]; simp
    clear hp hs hu hm hv
    go_enter Try.func68, Try.ntmps68
    go_wp2_with fail
    refine (word_calls _ (by omega) _).mono ?_
    rintro e w2 ⟨rfl, rfl⟩
    go_wp2_with fail
    go_ret
    exact ⟨ret_int (by first | rw [HD.out] | (have := HD.out; omega)), b0⟩
  have z7 : (op == 7) = false := by simp [h7']
  by_cases h8' : op = 8
  · subst h8'
    obtain ⟨i0, i1⟩ := h8 rfl
    have HD := Lib.hid (rdo8 (imm := imm) (x := x) (y := y))
    clear h8 h9 h10
    go_enter Try.func68, Try.ntmps68
    go_wp2_with fail
    refine (word_calls _ (by omega) _).mono ?_
    rintro e w2 ⟨rfl, rfl⟩
    go_wp2_with fail
    go_ret
    exact ⟨ret_int (by first | rw [HD.out] | (have := HD.out; omega)), b0⟩
  have z8 : (op == 8) = false := by simp [h8']
  by_cases h9' : op = 9
  · subst h9'
    obtain ⟨i0, i1⟩ := h9 rfl
    have HD := Lib.hid (rdo9 (imm := imm) (x := x) (y := y) i0 i1)
    clear h8 h9 h10
    go_enter Try.func68, Try.ntmps68
    go_wp2_with fail
    refine (word_calls _ (by omega) _).mono ?_
    rintro e w2 ⟨rfl, rfl⟩
    go_wp2_with fail
    go_ret
    exact ⟨ret_int (by first | rw [HD.out] | (have := HD.out; omega)), b0⟩
  have z9 : (op == 9) = false := by simp [h9']
  by_cases h10' : op = 10
  · subst h10'
    obtain ⟨i0, i1⟩ := h10 rfl
    obtain ⟨j, rfl⟩ := Int.eq_ofNat_of_zero_le i0
    have hj : j ≤ 65535 := by omega
    have HD := Lib.hid (rdo10 (x := x) (y := y) hj)
    have ej : (j : Int) % 4294967296 = j := by omega
    clear h8 h9 h10
    go_enter Try.func68, Try.ntmps68
    go_wp2_with fail
    refine (bw1_calls x j _ hx (by omega)).mono ?_
    rintro e w2 ⟨rfl, rfl⟩
    go_wp2_with fail
    go_ret
    exact ⟨ret_int (by first | rw [HD.out] | (have := HD.out; omega)), b0⟩
  have z10 : (op == 10) = false := by simp [h10']
  have he : aluDo op imm x y = 0 := by simp [aluDo, h1', h2', h3', h4', h5', h6', h7', h8', h9', h10']
  have HE := Lib.hid he
  by_cases h3 : 3 ≤ op
  · have d3 : decide (3 ≤ op) = true := by simp; omega
    have d5 : decide (op ≤ 5) = false := by simp; omega
    clear he h8 h9 h10 h1' h2' h3' h4' h5' h6' h7' h8' h9' h10'
    clear h3
    go_enter Try.func68, Try.ntmps68
    go_wp2_with fail
    go_ret
    exact ⟨ret_int (by rw [HE.out]; rfl), b0⟩
  · have d3 : decide (3 ≤ op) = false := by simp; omega
    clear he h8 h9 h10 h1' h2' h3' h4' h5' h6' h7' h8' h9' h10'
    clear h3
    go_enter Try.func68, Try.ntmps68
    go_wp2_with fail
    go_ret
    exact ⟨ret_int (by rw [HE.out]; rfl), b0⟩
theorem wrap32_inj {x y : Nat} (hx : x < 4294967296) (hy : y < 4294967296) : (wrap32 (x : Int) == wrap32 (y : Int)) = (x == y) := by
  rw [wrap32_small x hx, wrap32_small y hy, Bool.eq_iff_iff, beq_iff_eq, beq_iff_eq]
  split <;> split <;> omega
set_option maxHeartbeats 4000000 in
set_option maxRecDepth 100000 in
theorem refTaken_calls (op : Int) (x y : Nat) (w : World) (hx : x < 4294967296) (hy : y < 4294967296) : Calls Try.prog 70 #[.int .i64 op, .int .u32 (x : Int), .int .u32 (y : Int)] w fun e w' => e = .returned (.bool (aluTaken op x y)) ∧ w' = w := by
  have hX := sign_calls x hx
  have hY := sign_calls y hy
  have hL : lessS x y = decide (wrap32 (x : Int) < wrap32 (y : Int)) := rfl
  have hE := wrap32_inj hx hy
  generalize wrap32 (x : Int) = X at *
  generalize wrap32 (y : Int) = Y at *
  have HX := Lib.hid hX
  have HY := Lib.hid hY
  clear hX hY
  by_cases h15 : op = 15
  · subst h15
    by_cases hl : X = Y
    · have z1 : (X == Y) = true := by simp [hl]
      have z2 : (X != Y) = false := by simp [hl]
      have he : aluTaken 15 x y = true := by simp [aluTaken, ← hE, bne, z1]
      have HE := Lib.hid he
      clear he hL hE hl
      go_enter Try.func70, Try.ntmps70
      go_wp2_with fail
      refine (HX.out _).mono ?_
      rintro e w2 ⟨rfl, rfl⟩
      go_wp2_with fail
      refine (HY.out _).mono ?_
      rintro e w2 ⟨rfl, rfl⟩
      go_wp2_with fail
      go_ret
      exact ⟨ret_bool (by rw [HE.out]), rfl⟩
    · have z1 : (X == Y) = false := by simp [hl]
      have z2 : (X != Y) = true := by simp [hl]
      have he : aluTaken 15 x y = false := by simp [aluTaken, ← hE, bne, z1]
      have HE := Lib.hid he
      clear he hL hE hl
      go_enter Try.func70, Try.ntmps70
      go_wp2_with fail
      refine (HX.out _).mono ?_
      rintro e w2 ⟨rfl, rfl⟩
      go_wp2_with fail
      refine (HY.out _).mono ?_
      rintro e w2 ⟨rfl, rfl⟩
      go_wp2_with fail
      go_ret
      exact ⟨ret_bool (by rw [HE.out]), rfl⟩
  have z15 : (op == 15) = false := by simp [h15]
  by_cases h16 : op = 16
  · subst h16
    by_cases hl : X = Y
    · have z1 : (X == Y) = true := by simp [hl]
      have z2 : (X != Y) = false := by simp [hl]
      have he : aluTaken 16 x y = false := by simp [aluTaken, ← hE, bne, z1]
      have HE := Lib.hid he
      clear he hL hE hl
      go_enter Try.func70, Try.ntmps70
      go_wp2_with fail
      refine (HX.out _).mono ?_
      rintro e w2 ⟨rfl, rfl⟩
      go_wp2_with fail
      refine (HY.out _).mono ?_
      rintro e w2 ⟨rfl, rfl⟩
      go_wp2_with fail
      go_ret
      exact ⟨ret_bool (by rw [HE.out]), rfl⟩
    · have z1 : (X == Y) = false := by simp [hl]
      have z2 : (X != Y) = true := by simp [hl]
      have he : aluTaken 16 x y = true := by simp [aluTaken, ← hE, bne, z1]
      have HE := Lib.hid he
      clear he hL hE hl
      go_enter Try.func70, Try.ntmps70
      go_wp2_with fail
      refine (HX.out _).mono ?_
      rintro e w2 ⟨rfl, rfl⟩
      go_wp2_with fail
      refine (HY.out _).mono ?_
      rintro e w2 ⟨rfl, rfl⟩
      go_wp2_with fail
      go_ret
      exact ⟨ret_bool (by rw [HE.out]), rfl⟩
  have z16 : (op == 16) = false := by simp [h16]
  by_cases h17 : op = 17
  · subst h17
    by_cases hl : X < Y
    · have z1 : decide (X < Y) = true := by simp; omega
      have he : aluTaken 17 x y = true := by simp [aluTaken, hL, hl]; try omega
      have HE := Lib.hid he
      clear he hL hE hl
      go_enter Try.func70, Try.ntmps70
      go_wp2_with fail
      refine (HX.out _).mono ?_
      rintro e w2 ⟨rfl, rfl⟩
      go_wp2_with fail
      refine (HY.out _).mono ?_
      rintro e w2 ⟨rfl, rfl⟩
      go_wp2_with fail
      go_ret
      exact ⟨ret_bool (by rw [HE.out]), rfl⟩
    · have z1 : decide (X < Y) = false := by simp; omega
      have he : aluTaken 17 x y = false := by simp [aluTaken, hL, hl]; try omega
      have HE := Lib.hid he
      clear he hL hE hl
      go_enter Try.func70, Try.ntmps70
      go_wp2_with fail
      refine (HX.out _).mono ?_
      rintro e w2 ⟨rfl, rfl⟩
      go_wp2_with fail
      refine (HY.out _).mono ?_
      rintro e w2 ⟨rfl, rfl⟩
      go_wp2_with fail
      go_ret
      exact ⟨ret_bool (by rw [HE.out]), rfl⟩
  have z17 : (op == 17) = false := by simp [h17]
  by_cases h18 : op = 18
  · subst h18
    by_cases hl : X < Y
    · have z1 : decide (Y ≤ X) = false := by simp; omega
      have he : aluTaken 18 x y = false := by simp [aluTaken, hL, hl]; try omega
      have HE := Lib.hid he
      clear he hL hE hl
      go_enter Try.func70, Try.ntmps70
      go_wp2_with fail
      refine (HX.out _).mono ?_
      rintro e w2 ⟨rfl, rfl⟩
      go_wp2_with fail
      refine (HY.out _).mono ?_
      rintro e w2 ⟨rfl, rfl⟩
      go_wp2_with fail
      go_ret
      exact ⟨ret_bool (by rw [HE.out]), rfl⟩
    · have z1 : decide (Y ≤ X) = true := by simp; omega
      have he : aluTaken 18 x y = true := by simp [aluTaken, hL, hl]; try omega
      have HE := Lib.hid he
      clear he hL hE hl
      go_enter Try.func70, Try.ntmps70
      go_wp2_with fail
      refine (HX.out _).mono ?_
      rintro e w2 ⟨rfl, rfl⟩
      go_wp2_with fail
      refine (HY.out _).mono ?_
      rintro e w2 ⟨rfl, rfl⟩
      go_wp2_with fail
      go_ret
      exact ⟨ret_bool (by rw [HE.out]), rfl⟩
  have z18 : (op == 18) = false := by simp [h18]
  have he : aluTaken op x y = false := by simp [aluTaken, h15, h16, h17, h18]
  have HE := Lib.hid he
  clear he hL hE h15 h16 h17 h18
  go_enter Try.func70, Try.ntmps70
  go_wp2_with fail
  refine (HX.out _).mono ?_
  rintro e w2 ⟨rfl, rfl⟩
  go_wp2_with fail
  refine (HY.out _).mono ?_
  rintro e w2 ⟨rfl, rfl⟩
  go_wp2_with fail
  go_ret
  exact ⟨ret_bool (by rw [HE.out]), rfl⟩
end Go.Proofs.Ytokkngfgppikkab
