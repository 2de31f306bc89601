/- Layer 4 (alu) and the bits below it: what they answer. Printed by genKb.py of this repository. -/
import Derived.Test.YtokkngfgppikkabGa
import Derived.Test.YtokkngfgppikkabChecked
import Derived.Laws.BitsAllLaws
import Derived.IntWalk
namespace Go.Proofs.Ytokkngfgppikkab
set_option linter.unusedVariables false
set_option linter.unusedSimpArgs false
open Go.RowKit

def cutN (x : Int) (n : Nat) : Nat := (x % (2 ^ n : Nat)).toNat
def lessS (b c : Nat) : Bool := decide (wrap32 (b : Int) < wrap32 (c : Int))
def aluDo (op imm : Int) (b c : Nat) : Nat :=
  if op = 1 then (b + c) % 4294967296 else
  if op = 2 then (b + 4294967296 - c) % 4294967296 else
  if op = 3 then b &&& c else
  if op = 4 then b ||| c else
  if op = 5 then b ^^^ c else
  if op = 6 then (if lessS b c = true then 1 else 0) else
  if op = 7 then b * c % 4294967296 else
  if op = 8 then (b + cutN imm 32) % 4294967296 else
  if op = 9 then cutN imm 16 * 65536 % 4294967296 else
  if op = 10 then b ||| cutN imm 16 else 0
def aluTaken (op : Int) (a b : Nat) : Bool :=
  if op = 15 then a == b else if op = 16 then a != b else if op = 17 then lessS a b else if op = 18 then !lessS a b else false
theorem cutN_lt (x : Int) (n : Nat) : cutN x n < 2 ^ n := by
  unfold cutN
  have hp : (0 : Int) < (2 ^ n : Nat) := by exact_mod_cast Nat.two_pow_pos n
  have h1 := Int.emod_nonneg x (by omega : ((2 ^ n : Nat) : Int) ≠ 0)
  have h2 := Int.emod_lt_of_pos x hp
  omega
theorem cutN16 (x : Int) : cutN x 16 < 65536 := cutN_lt x 16
theorem cutN32 (x : Int) : cutN x 32 < 4294967296 := cutN_lt x 32
theorem aluDo_lt {op imm : Int} {b c : Nat} (hb : b < 4294967296) (hc : c < 4294967296) : aluDo op imm b c < 4294967296 := by
  have h1 := cutN16 imm
  unfold aluDo
  repeat' split
  all_goals first | omega | exact Nat.mod_lt _ (by decide) | exact Nat.and_lt_two_pow (n := 32) _ hc | exact Nat.or_lt_two_pow (n := 32) hb hc | exact Nat.xor_lt_two_pow (n := 32) hb hc | exact Nat.or_lt_two_pow (n := 32) hb (Nat.lt_trans h1 (by decide))
theorem u64_wrap_nat (x : Int) : IntKind.u64.wrap x = (((x % 18446744073709551616).toNat : Nat) : Int) := by
  have h : IntKind.u64.wrap x = x % 18446744073709551616 := by simp [IntKind.wrap, IntKind.bits, IntKind.signed]
  rw [h, Int.toNat_of_nonneg (Int.emod_nonneg _ (by decide))]
theorem u64_wrap_lt (x : Int) : (x % 18446744073709551616).toNat < 18446744073709551616 := by
  have h1 := Int.emod_nonneg x (by decide : (18446744073709551616 : Int) ≠ 0)
  have h2 := Int.emod_lt_of_pos x (by decide : (0 : Int) < 18446744073709551616)
  omega
theorem cut16_eq (x : Int) : bits BinOp.and IntKind.u64 (IntKind.u64.wrap x) 65535 % 4294967296 = (cutN x 16 : Int) := by
  rw [u64_wrap_nat, show (65535 : Int) = ((65535 : Nat) : Int) from rfl, u64_and_nat _ _ (u64_wrap_lt x) (by decide), nat_mask16]
  unfold cutN
  omega
theorem cut32_eq (x : Int) : bits BinOp.and IntKind.u64 (IntKind.u64.wrap x) 4294967295 % 4294967296 = (cutN x 32 : Int) := by
  rw [u64_wrap_nat, show (4294967295 : Int) = ((4294967295 : Nat) : Int) from rfl, u64_and_nat _ _ (u64_wrap_lt x) (by decide), show (4294967295 : Nat) = 2 ^ 32 - 1 from rfl, Nat.and_two_pow_sub_one_eq_mod]
  unfold cutN
  omega
theorem may_calls (n : Int) (w : World) (h : 1 ≤ n ∧ n ≤ 32) : Calls Try.prog 122 #[.int .i64 n] w fun e w' => e = .returned (.bool true) ∧ w' = w := by
  obtain ⟨h1, h2⟩ := h
  have h3 : decide (1 ≤ n) = true := by simpa using h1
  have h4 : decide (n ≤ 32) = true := by simpa using h2
  go_enter Try.func122, Try.ntmps122
  go_wp2
  go_ret
  exact ⟨rfl, rfl⟩
theorem cut16_calls (x : Int) (w : World) : Calls Try.prog 109 #[.int .i64 x, .int .i64 16] w fun e w' => e = .returned (.int .u32 (cutN x 16 : Int)) ∧ w' = w := by
  go_enter Try.func109, Try.ntmps109
  go_wp2_with fail
  refine (may_calls _ _ (by omega)).mono ?_
  rintro e w1 ⟨rfl, rfl⟩
  go_wp2_with fail
  go_ret
  exact ⟨ret_int (cut16_eq x), rfl⟩
theorem cut32_calls (x : Int) (w : World) : Calls Try.prog 109 #[.int .i64 x, .int .i64 32] w fun e w' => e = .returned (.int .u32 (cutN x 32 : Int)) ∧ w' = w := by
  go_enter Try.func109, Try.ntmps109
  go_wp2_with fail
  refine (may_calls _ _ (by omega)).mono ?_
  rintro e w1 ⟨rfl, rfl⟩
  go_wp2_with fail
  go_ret
  exact ⟨ret_int (cut32_eq x), rfl⟩
theorem less_calls (b c : Nat) (w : World) : Calls Try.prog 108 #[.int .u32 (b : Int), .int .u32 (c : Int)] w fun e w' => e = .returned (.bool (lessS b c)) ∧ w' = w := by
  go_enter Try.func108, Try.ntmps108
  go_wp2
  go_ret
  exact ⟨rfl, rfl⟩
theorem less_is {b c : Nat} {v : Bool} (h : lessS b c = v) (w : World) : Calls Try.prog 108 #[.int .u32 (b : Int), .int .u32 (c : Int)] w fun e w' => e = .returned (.bool v) ∧ w' = w := by rw [← h]; exact less_calls b c w
theorem do1 {x y : Nat} {imm : Int} (hx : x < 4294967296) (hy : y < 4294967296) : IntKind.u32.wrap ((x : Int) + y) = (aluDo 1 imm x y : Int) := by
  rw [IntKind.wrap_u32']; simp [aluDo]
theorem do2 {x y : Nat} {imm : Int} (hx : x < 4294967296) (hy : y < 4294967296) : IntKind.u32.wrap ((x : Int) - y) = (aluDo 2 imm x y : Int) := by
  rw [IntKind.wrap_u32']; simp [aluDo]; omega
theorem do3 {x y : Nat} {imm : Int} (hx : x < 4294967296) (hy : y < 4294967296) : bits BinOp.and IntKind.u32 (x : Int) (y : Int) = (aluDo 3 imm x y : Int) := by
  rw [u32_and_nat _ _ hx hy]; simp [aluDo]
theorem do4 {x y : Nat} {imm : Int} (hx : x < 4294967296) (hy : y < 4294967296) : bits BinOp.or IntKind.u32 (x : Int) (y : Int) = (aluDo 4 imm x y : Int) := by
  rw [u32_or_nat _ _ hx hy]; simp [aluDo]
theorem do5 {x y : Nat} {imm : Int} (hx : x < 4294967296) (hy : y < 4294967296) : bits BinOp.xor IntKind.u32 (x : Int) (y : Int) = (aluDo 5 imm x y : Int) := by
  rw [u32_xor_nat _ _ hx hy]; simp [aluDo]
theorem do7 {x y : Nat} {imm : Int} : IntKind.u32.wrap ((x : Int) * y) = (aluDo 7 imm x y : Int) := by
  rw [IntKind.wrap_u32']; simp [aluDo]
theorem do8 {x y : Nat} {imm : Int} : IntKind.u32.wrap ((x : Int) + (cutN imm 32 : Nat)) = (aluDo 8 imm x y : Int) := by
  rw [IntKind.wrap_u32']; simp [aluDo]
theorem do9 {x y : Nat} {imm : Int} : ((cutN imm 16 : Int) * 65536) = (aluDo 9 imm x y : Int) := by
  have := cutN16 imm
  simp [aluDo]
  omega
theorem do10 {x y : Nat} {imm : Int} (hx : x < 4294967296) : bits BinOp.or IntKind.u32 (x : Int) (cutN imm 16 : Nat) = (aluDo 10 imm x y : Int) := by
  rw [u32_or_nat _ _ hx (Nat.lt_trans (cutN16 imm) (by decide))]; simp [aluDo]
set_option maxHeartbeats 2000000 in
theorem aluDo_calls (op a b c imm : Int) (x y : Nat) (w : World) (hx : x < 4294967296) (hy : y < 4294967296) : Calls Try.prog 87 #[.agg #[.int .i64 op, .int .i64 a, .int .i64 b, .int .i64 c, .int .i64 imm], .int .u32 (x : Int), .int .u32 (y : Int)] w fun e w' => e = .returned (.int .u32 (aluDo op imm x y : Int)) ∧ Below w.heap.size w w' := by
  have b0 := (Below.refl w.heap.size w).alloc (Nat.le_refl _) (.cells #[.int .i64 op, .int .i64 a, .int .i64 b, .int .i64 c, .int .i64 imm] 35)
  have h16 := cutN16 imm
  have h32 := cutN32 imm
  by_cases h1 : op = 1
  · subst h1
    go_enter Try.func87, Try.ntmps87
    go_wp2_with fail
    go_ret
    refine ⟨ret_int ?_, b0⟩
    exact do1 hx hy
  have z1 : (op == 1) = false := by simp [h1]
  by_cases h2 : op = 2
  · subst h2
    go_enter Try.func87, Try.ntmps87
    go_wp2_with fail
    go_ret
    refine ⟨ret_int ?_, b0⟩
    exact do2 hx hy
  have z2 : (op == 2) = false := by simp [h2]
  by_cases h3 : op = 3
  · subst h3
    go_enter Try.func87, Try.ntmps87
    go_wp2_with fail
    go_ret
    refine ⟨ret_int ?_, b0⟩
    exact do3 hx hy
  have z3 : (op == 3) = false := by simp [h3]
  by_cases h4 : op = 4
  · subst h4
    go_enter Try.func87, Try.ntmps87
    go_wp2_with fail
    go_ret
    refine ⟨ret_int ?_, b0⟩
    exact do4 hx hy
  have z4 : (op == 4) = false := by simp [h4]
  by_cases h5 : op = 5
  · subst h5
    go_enter Try.func87, Try.ntmps87
    go_wp2_with fail
    go_ret
    refine ⟨ret_int ?_, b0⟩
    exact do5 hx hy
  have z5 : (op == 5) = false := by simp [h5]
  by_cases h6 : op = 6
  · subst h6
    cases hl : lessS x y with
    | true =>
      have HL := Lib.hid hl
      clear hl
      go_enter Try.func87, Try.ntmps87
      go_wp2_with fail
      refine (less_is HL.out _).mono ?_
      rintro e w2 ⟨rfl, rfl⟩
      go_wp2_with fail
      go_ret
      exact ⟨ret_int (by simp [aluDo, HL.out]), b0⟩
    | false =>
      have HL := Lib.hid hl
      clear hl
      go_enter Try.func87, Try.ntmps87
      go_wp2_with fail
      refine (less_is HL.out _).mono ?_
      rintro e w2 ⟨rfl, rfl⟩
      go_wp2_with fail
      go_ret
      exact ⟨ret_int (by simp [aluDo, HL.out]), b0⟩
  have z6 : (op == 6) = false := by simp [h6]
  by_cases h7 : op = 7
  · subst h7
    go_enter Try.func87, Try.ntmps87
    go_wp2_with fail
    go_ret
    refine ⟨ret_int ?_, b0⟩
    exact do7
  have z7 : (op == 7) = false := by simp [h7]
  by_cases h8 : op = 8
  · subst h8
    go_enter Try.func87, Try.ntmps87
    go_wp2_with fail
    refine (cut32_calls _ _).mono ?_
    rintro e w2 ⟨rfl, rfl⟩
    go_wp2_with fail
    go_ret
    refine ⟨ret_int ?_, b0⟩
    exact do8
  have z8 : (op == 8) = false := by simp [h8]
  by_cases h9 : op = 9
  · subst h9
    go_enter Try.func87, Try.ntmps87
    go_wp2_with fail
    refine (cut16_calls _ _).mono ?_
    rintro e w2 ⟨rfl, rfl⟩
    go_wp2_with fail
    go_ret
    refine ⟨ret_int ?_, b0⟩
    exact do9
  have z9 : (op == 9) = false := by simp [h9]
  by_cases h10 : op = 10
  · subst h10
    go_enter Try.func87, Try.ntmps87
    go_wp2_with fail
    refine (cut16_calls _ _).mono ?_
    rintro e w2 ⟨rfl, rfl⟩
    go_wp2_with fail
    go_ret
    refine ⟨ret_int ?_, b0⟩
    exact do10 hx
  have z10 : (op == 10) = false := by simp [h10]
  have he : aluDo op imm x y = 0 := by simp [aluDo, h1, h2, h3, h4, h5, h6, h7, h8, h9, h10]
  have HE := Lib.hid he
  clear he h1 h2 h3 h4 h5 h6 h7 h8 h9 h10
  go_enter Try.func87, Try.ntmps87
  go_wp2_with fail
  go_ret
  exact ⟨ret_int (by rw [HE.out]; rfl), b0⟩
theorem aluTaken_calls (op : Int) (x y : Nat) (w : World) : Calls Try.prog 110 #[.int .i64 op, .int .u32 (x : Int), .int .u32 (y : Int)] w fun e w' => e = .returned (.bool (aluTaken op x y)) ∧ w' = w := by
  by_cases h15 : op = 15
  · subst h15
    go_enter Try.func110, Try.ntmps110
    go_wp2_with fail
    go_ret
    exact ⟨ret_bool (by rw [Bool.eq_iff_iff]; simp [aluTaken]; omega), rfl⟩
  have z15 : (op == 15) = false := by simp [h15]
  by_cases h16 : op = 16
  · subst h16
    go_enter Try.func110, Try.ntmps110
    go_wp2_with fail
    go_ret
    exact ⟨ret_bool (by rw [Bool.eq_iff_iff]; simp [aluTaken]; omega), rfl⟩
  have z16 : (op == 16) = false := by simp [h16]
  by_cases h17 : op = 17
  · subst h17
    go_enter Try.func110, Try.ntmps110
    go_wp2_with fail
    refine (less_calls _ _ _).mono ?_
    rintro e w2 ⟨rfl, rfl⟩
    go_wp2_with fail
    go_ret
    exact ⟨ret_bool (by simp [aluTaken]), rfl⟩
  have z17 : (op == 17) = false := by simp [h17]
  by_cases h18 : op = 18
  · subst h18
    go_enter Try.func110, Try.ntmps110
    go_wp2_with fail
    refine (less_calls _ _ _).mono ?_
    rintro e w2 ⟨rfl, rfl⟩
    go_wp2_with fail
    go_ret
    exact ⟨ret_bool (by simp [aluTaken]), rfl⟩
  have z18 : (op == 18) = false := by simp [h18]
  have he : aluTaken op x y = false := by simp [aluTaken, h15, h16, h17, h18]
  have HE := Lib.hid he
  clear he h15 h16 h17 h18
  go_enter Try.func110, Try.ntmps110
  go_wp2_with fail
  go_ret
  exact ⟨ret_bool (by rw [HE.out]), rfl⟩
end Go.Proofs.Ytokkngfgppikkab
