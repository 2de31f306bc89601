/- Layers 1 and 4: signed words, what fits; a constant's instructions. -/
import Derived.Test.YtokkngfgppikkabKr
import Derived.Test.YtokkngfgppikkabKj
import Derived.Test.YtokkngfgppikkabPu
namespace Go.Proofs.Ytokkngfgppikkab
set_option linter.unusedVariables false
set_option linter.unusedSimpArgs false
open Go.RowKit

set_option maxRecDepth 100000 in
theorem bsign_calls (n : Nat) (h : n < 4294967296) (w : World) : Calls Try.prog 123 #[.int .u32 (n : Int), .int .i64 32] w fun e w' => e = .returned (.int .i64 (wrap32 (n : Int))) ∧ w' = w := by
  have hs := wrap32_small n h
  have HS := Lib.hid hs
  clear hs
  go_enter Try.func123, Try.ntmps123
  go_wp2_with fail
  refine (may_calls _ _ (by omega)).mono ?_
  rintro e w1 ⟨rfl, rfl⟩
  go_wp2_with fail
  go_ret
  exact ⟨ret_int (by unfold wrap64 wrap32; omega), rfl⟩
theorem signed_calls (n : Nat) (h : n < 4294967296) (w : World) : Calls Try.prog 111 #[.int .u32 (n : Int)] w fun e w' => e = .returned (.int .i64 (wrap32 (n : Int))) ∧ w' = w := by
  go_enter Try.func111, Try.ntmps111
  go_wp2_with fail
  refine (bsign_calls n h _).mono ?_
  rintro e w1 ⟨rfl, rfl⟩
  go_wp2_with fail
  go_ret
  exact ⟨rfl, rfl⟩
theorem fits_calls (x : Int) (w : World) : Calls Try.prog 112 #[.int .i64 x, .int .i64 16] w fun e w' => e = .returned (.bool (decide (-32768 ≤ x ∧ x ≤ 32767))) ∧ w' = w := by
  by_cases h1 : -32768 ≤ x
  · by_cases h2 : x < 32768
    · have z1 : decide (-32768 ≤ x) = true := by simpa using h1
      have z2 : decide (x < 32768) = true := by simpa using h2
      have he : decide (-32768 ≤ x ∧ x ≤ 32767) = true := by simp; omega
      rw [he]
      clear he
      go_enter Try.func112, Try.ntmps112
      go_wp2_with fail
      refine (may_calls _ _ (by omega)).mono ?_
      rintro e w1 ⟨rfl, rfl⟩
      go_wp2_with fail
      go_ret
      exact ⟨rfl, rfl⟩
    · have z2 : decide (x < 32768) = false := by simpa using h2
      have z1 : decide (-32768 ≤ x) = true := by simpa using h1
      have he : decide (-32768 ≤ x ∧ x ≤ 32767) = false := by simp; omega
      rw [he]
      clear he
      go_enter Try.func112, Try.ntmps112
      go_wp2_with fail
      refine (may_calls _ _ (by omega)).mono ?_
      rintro e w1 ⟨rfl, rfl⟩
      go_wp2_with fail
      go_ret
      exact ⟨rfl, rfl⟩
  · have z1 : decide (-32768 ≤ x) = false := by simpa using h1
    have he : decide (-32768 ≤ x ∧ x ≤ 32767) = false := by simp; omega
    rw [he]
    clear he
    go_enter Try.func112, Try.ntmps112
    go_wp2_with fail
    refine (may_calls _ _ (by omega)).mono ?_
    rintro e w1 ⟨rfl, rfl⟩
    go_wp2_with fail
    go_ret
    exact ⟨rfl, rfl⟩

/-- What stands at a constant's row. -/
def ConstOut (w : World) (r : Int) (x : Nat) (e : Ending) (w' : World) : Prop :=
  Below w.heap.size w w' ∧
  if -32768 ≤ wrap32 (x : Int) ∧ wrap32 (x : Int) ≤ 32767 then ∃ g, e = .returned (.slice (some ⟨g, 0, none⟩) 1 1) ∧ Row w' g 35 [.int .i64 8, .int .i64 r, .int .i64 0, .int .i64 0, .int .i64 (wrap32 (x : Int))]
  else if x % 65536 = 0 then ∃ g, e = .returned (.slice (some ⟨g, 0, none⟩) 1 1) ∧ Row w' g 35 [.int .i64 9, .int .i64 r, .int .i64 0, .int .i64 0, .int .i64 ((x / 65536 : Nat) : Int)]
  else ∃ A c, e = .returned (.slice A 2 c)
theorem low16_eq {x : Nat} (hx : x < 4294967296) : bits BinOp.and IntKind.u32 (x : Int) 65535 = ((x % 65536 : Nat) : Int) := by
  have := u32_and_nat x 65535 hx (by decide)
  rw [← Nat.and_two_pow_sub_one_eq_mod x 16]
  exact this
theorem ConstOut.low {w w1 : World} {r : Int} {x : Nat} (hf : -32768 ≤ wrap32 (x : Int) ∧ wrap32 (x : Int) ≤ 32767) (h : Below w.heap.size w w1) :
    ConstOut w r x (.returned (.slice (some ⟨w1.heap.size, 0, none⟩) 1 1)) (w1.alloc (.cells #[.int .i64 8, .int .i64 r, .int .i64 0, .int .i64 0, .int .i64 (wrap32 (x : Int))] 35)) :=
  ⟨h.trans ((below_alloc' w1 _).mono h.size), by rw [if_pos hf]; exact ⟨_, rfl, Row.new w1 _ _⟩⟩
theorem ConstOut.high {w w1 : World} {r : Int} {x : Nat} (hf : ¬ (-32768 ≤ wrap32 (x : Int) ∧ wrap32 (x : Int) ≤ 32767)) (hm : x % 65536 = 0) {y : Nat} (hy : y = x / 65536) (h : Below w.heap.size w w1) :
    ConstOut w r x (.returned (.slice (some ⟨w1.heap.size, 0, none⟩) 1 1)) (w1.alloc (.cells #[.int .i64 9, .int .i64 r, .int .i64 0, .int .i64 0, .int .i64 (y : Int)] 35)) :=
  ⟨h.trans ((below_alloc' w1 _).mono h.size), by rw [if_neg hf, if_pos hm, hy]; exact ⟨_, rfl, Row.new w1 _ _⟩⟩
theorem ConstOut.both {w w1 : World} {r : Int} {x : Nat} (hf : ¬ (-32768 ≤ wrap32 (x : Int) ∧ wrap32 (x : Int) ≤ 32767)) (hm : ¬ x % 65536 = 0) (A : Option Addr) (c : Nat) (h : Below w.heap.size w w1) :
    ConstOut w r x (.returned (.slice A 2 c)) w1 :=
  ⟨h, by rw [if_neg hf, if_neg hm]; exact ⟨_, _, rfl⟩⟩
set_option maxHeartbeats 4000000 in
set_option maxRecDepth 100000 in
theorem const_calls (r : Int) (x : Nat) (w : World) (hr : 1 ≤ r ∧ r < 16) (hx : x < 4294967296) : Calls Try.prog 89 #[.int .i64 r, .int .u32 (x : Int)] w (ConstOut w r x) := by
  have z1 : decide (r < 1) = false := by simp; omega
  have z2 : decide (16 ≤ r) = false := by simp; omega
  clear hr
  have hfit := fits_calls (wrap32 (x : Int))
  by_cases hf : -32768 ≤ wrap32 (x : Int) ∧ wrap32 (x : Int) ≤ 32767
  · rw [decide_eq_true hf] at hfit
    have HD := Lib.hid hf
    clear hf
    have HF := Lib.hid hfit
    clear hfit
    go_enter Try.func89, Try.ntmps89
    go_wp2_with fail
    refine (signed_calls x hx _).mono ?_
    rintro e w1 ⟨rfl, rfl⟩
    go_wp2_with fail
    refine (HF.out _).mono ?_
    rintro e w1 ⟨rfl, rfl⟩
    go_wp2_with fail
    go_ret
    exact ConstOut.low HD.out (Below.refl _ _)
  · rw [decide_eq_false hf] at hfit
    have HD := Lib.hid hf
    clear hf
    have HF := Lib.hid hfit
    clear hfit
    by_cases hm : x % 65536 = 0
    · have hb : (bits BinOp.and IntKind.u32 (x : Int) 65535 != 0) = false := by rw [low16_eq hx, hm]; rfl
      have HM := Lib.hid hm
      clear hm
      go_enter Try.func89, Try.ntmps89
      go_wp2_with fail
      refine (signed_calls x hx _).mono ?_
      rintro e w1 ⟨rfl, rfl⟩
      go_wp2_with fail
      refine (HF.out _).mono ?_
      rintro e w1 ⟨rfl, rfl⟩
      go_wp2_with fail
      go_ret
      exact ConstOut.high HD.out HM.out rfl (Below.refl _ _)
    · have hb : (bits BinOp.and IntKind.u32 (x : Int) 65535 != 0) = true := by rw [low16_eq hx, bne_iff_ne]; omega
      have HM := Lib.hid hm
      clear hm
      go_enter Try.func89, Try.ntmps89
      go_wp2_with fail
      refine (signed_calls x hx _).mono ?_
      rintro e w1 ⟨rfl, rfl⟩
      go_wp2_with fail
      refine (HF.out _).mono ?_
      rintro e w1 ⟨rfl, rfl⟩
      go_wp2_with fail
      go_ret
      refine ConstOut.both HD.out HM.out _ _ ?_
      have h1 := (Below.refl w1.heap.size w1).alloc (Nat.le_refl _) (.cells #[.int .i64 9, .int .i64 r, .int .i64 0, .int .i64 0, .int .i64 ((x : Int) / 65536)] 35)
      exact Below.drewN ((h1.alloc h1.size _).alloc (h1.alloc h1.size _).size _) 1
end Go.Proofs.Ytokkngfgppikkab
