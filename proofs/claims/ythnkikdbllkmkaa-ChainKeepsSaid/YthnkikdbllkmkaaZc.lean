/- slices.rotateCmpFunc at numbers. -/
import Derived.Test.YthnkikdbllkmkaaZb
namespace Go.Proofs.Ythnkikdbllkmkaa
set_option linter.unusedVariables false
set_option linter.unusedSimpArgs false
open Go.Shelf Go.RowKit Go.Lib Go.Sort
variable {α : Type} [Inhabited α]

set_option maxHeartbeats 4000000 in
set_option maxRecDepth 1000000 in
theorem rotate_calls (enc : α → Value) (g : Nat) (cb : Array Value) (blk off cap a m b : Nat) (d0 d : Array α) (w0 w : World)
    (R : Row1 enc w0 blk off d0) (hs : d0.size = d.size) (S : SW enc w0 blk off d w) (ham : a < m) (hmb : m < b) (hb : b ≤ d.size) (hsz : d.size < 4611686018427387904) :
    Calls Try.prog 68 #[.slice (some ⟨blk, off, none⟩) d.size cap, .int .i64 (a : Int), .int .i64 (m : Int), .int .i64 (b : Int), .func (.func g) #[] cb] w fun e w' => e = .returned (.tuple #[]) ∧ ∃ d', RotAt a m b d d' ∧ SW enc w0 blk off d' w' := by
  have SR : ∀ (x y n : Nat) (dk : Array α) (u : World), dk.size = d.size → SW enc w0 blk off dk u → x + n ≤ y → y + n ≤ d.size → Calls Try.prog 74 #[.slice (some ⟨blk, off, none⟩) d.size cap, .int .i64 (x : Int), .int .i64 (y : Int), .int .i64 (n : Int), .func (.func g) #[] cb] u fun e w' => e = .returned (.tuple #[]) ∧ SW enc w0 blk off (swapN dk x y n) w' := fun x y n dk u h1 h2 h3 h4 => by
    have := swapRange_calls enc g cb blk off cap x y n d0 dk w0 u R (by omega) h2 h3 (by omega) (by omega)
    rw [h1] at this
    exact this
  have S0 : Aside (SW enc w0 blk off d w) := S
  have HSR := Lib.hid SR
  have HRR := Lib.hid R
  clear S SR R
  have q1 : (m : Int) - (a : Int) = ((m - a : Nat) : Int) := by omega
  have q2 : (b : Int) - (m : Int) = ((b - m : Nat) : Int) := by omega
  go_enter Try.func68, Try.ntmps68
  go_wp2_with fail
  go_loopg [10, 11] (b - a) (fun kx s10 s11 wr => ∃ (i j : Nat) (dk : Array α), s10 = .int .i64 (i : Int) ∧ s11 = .int .i64 (j : Int) ∧ 0 < i ∧ 0 < j ∧ i ≤ m ∧ m + j ≤ d.size ∧ i + j ≤ kx ∧ dk.size = d.size ∧ Aside (SW enc w0 blk off dk wr) ∧ Hid (∀ df, RotAt (m - i) m (m + j) dk df → RotAt a m b d df))
  case atStart => exact ⟨m - a, b - m, d, by rw [← q1], by rw [← q2], by omega, by omega, by omega, by omega, by omega, rfl, S0, fun df h => by rw [show m - (m - a) = a by omega, show m + (b - m) = b by omega] at h; exact h⟩
  case round =>
    clear S0
    obtain ⟨i, j, dk, rfl, rfl, hi0, hj0, him, hjs, hkx, hds, S1, HR⟩ := hrel
    by_cases hne : i = j
    · subst hne
      have z1 : ((i : Int) != (i : Int)) = false := by simp
      have q3 : (m : Int) - (i : Int) = ((m - i : Nat) : Int) := by omega
      have hcall := HSR.out (m - i) m i dk wr hds S1.out (by omega) (by omega)
      have HCA := Lib.hid hcall
      clear hcall
      go_wp2_with fail
      refine HCA.out.mono ?_
      rintro e w' ⟨rfl, hsw⟩
      have HS2 := Lib.hid hsw
      clear hsw
      go_wp2_with fail
      go_end0
      exact ⟨rfl, _, HR.out _ (rot_eq dk m i him (by omega)), HS2.out⟩
    · have z1 : ((i : Int) != (j : Int)) = true := bne_iff_ne.2 (by omega)
      by_cases hgt : j < i
      · have q3 : (m : Int) - (i : Int) = ((m - i : Nat) : Int) := by omega
        have q4 : (i : Int) - (j : Int) = ((i - j : Nat) : Int) := by omega
        have hgz : (j : Int) < (i : Int) := by omega
        have hcall := HSR.out (m - i) m j dk wr hds S1.out (by omega) (by omega)
        have HCA := Lib.hid hcall
        clear hcall
        go_wp2_with fail
        refine HCA.out.mono ?_
        rintro e w' ⟨rfl, hsw⟩
        have HS2 : Aside _ := hsw
        clear hsw
        go_wp2_with fail
        go_roundg (i - j + j)
        case measure => omega
        case rel => exact ⟨i - j, j, _, by first | rfl | (rw [q4]) | simp [q4], rfl, by omega, hj0, by omega, hjs, Nat.le_refl _, by rw [swapN_size]; exact hds, HS2, fun df h => HR.out df (rot_gt him (by omega) hgt h)⟩
      · have q3 : (m : Int) - (i : Int) = ((m - i : Nat) : Int) := by omega
        have q4 : (j : Int) - (i : Int) = ((j - i : Nat) : Int) := by omega
        have q5 : (m : Int) + (j : Int) - (i : Int) = ((m + j - i : Nat) : Int) := by omega
        have hgz : ¬ (j : Int) < (i : Int) := by omega
        have hcall := HSR.out (m - i) (m + j - i) i dk wr hds S1.out (by omega) (by omega)
        have HCA := Lib.hid hcall
        clear hcall
        go_wp2_with fail
        refine HCA.out.mono ?_
        rintro e w' ⟨rfl, hsw⟩
        have HS2 : Aside _ := hsw
        clear hsw
        go_wp2_with fail
        go_roundg (i + (j - i))
        case measure => omega
        case rel => exact ⟨i, j - i, _, rfl, by first | rfl | (rw [q4]) | simp [q4], hi0, by omega, him, by omega, Nat.le_refl _, by rw [swapN_size]; exact hds, HS2, fun df h => HR.out df (rot_lt him (by omega) (by omega) h)⟩
end Go.Proofs.Ythnkikdbllkmkaa
