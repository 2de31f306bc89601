/- slices.swapRangeCmpFunc and rotateCmpFunc at numbers. -/
import Derived.Test.YthnkikdbllkmkaaZa
import Derived.Test.YthnkikdbllkmkaaYm
import Derived.Sort.WalkB2
import Derived.Sort.WalkB12
import Derived.Deep.LoopGhost
namespace Go.Proofs.Ythnkikdbllkmkaa
set_option linter.unusedVariables false
set_option linter.unusedSimpArgs false
open Go.Shelf Go.RowKit Go.Lib Go.Sort
variable {α : Type} [Inhabited α]

set_option maxHeartbeats 4000000 in
set_option maxRecDepth 1000000 in
theorem swapRange_calls (enc : α → Value) (g : Nat) (cb : Array Value) (blk off cap a b n : Nat) (d0 d : Array α) (w0 w : World)
    (R : Row1 enc w0 blk off d0) (hs : d0.size = d.size) (S : SW enc w0 blk off d w) (hab : a + n ≤ b) (hb : b + n ≤ d.size) (hsz : d.size < 4611686018427387904) :
    Calls Try.prog 74 #[.slice (some ⟨blk, off, none⟩) d.size cap, .int .i64 (a : Int), .int .i64 (b : Int), .int .i64 (n : Int), .func (.func g) #[] cb] w fun e w' => e = .returned (.tuple #[]) ∧ SW enc w0 blk off (swapN d a b n) w' := by
  have mixed : Try.prog.follows .mixedOrders = true := by kernel_rfl
  have hcl0 := R.hO.cells
  simp only [Value.cells] at hcl0
  have hst := R.hO.store Try.prog
  have S0 : Aside (SW enc w0 blk off d w) := S
  clear S
  go_enter Try.func74, Try.ntmps74
  go_wp2
  go_loopg [10] n (fun kx s10 wr => ∃ (i : Nat), s10 = .int .i64 (i : Int) ∧ i ≤ n ∧ n - i ≤ kx ∧ Aside (SW enc w0 blk off (swapN d a b i) wr))
  case atStart => exact ⟨0, rfl, Nat.zero_le _, Nat.le_refl _, S0⟩
  case round =>
    clear S0
    obtain ⟨i, rfl, hin, hkx, S1⟩ := hrel
    by_cases hlt : i < n
    · have hds := swapN_size d a b i
      obtain ⟨dk, hdk⟩ : ∃ q, q = swapN d a b i := ⟨_, rfl⟩
      have hnext : swapN d a b (i + 1) = swp dk (a + i) (b + i) := by rw [hdk]; rfl
      rw [← hdk] at S1 hds
      clear hdk
      have HNX := Lib.hid hnext
      clear hnext
      go_wp2_with fail
      obtain ⟨iN, hiN⟩ : ∃ q, q = a + i := ⟨_, rfl⟩
      obtain ⟨jN, hjN⟩ : ∃ q, q = b + i := ⟨_, rfl⟩
      have ea : ((a : Int) + (i : Int)).toNat = iN := by omega
      have pa : (0 : Int) ≤ (a : Int) + (i : Int) := by omega
      have ba : (a : Int) + (i : Int) < (d.size : Int) := by omega
      have ra : IntKind.i64.wrap ((a : Int) + (i : Int)) = (a : Int) + (i : Int) := by rw [IntKind.wrap_i64]; omega
      have ec : ((b : Int) + (i : Int)).toNat = jN := by omega
      have pc : (0 : Int) ≤ (b : Int) + (i : Int) := by omega
      have bc : (b : Int) + (i : Int) < (d.size : Int) := by omega
      have rc : IntKind.i64.wrap ((b : Int) + (i : Int)) = (b : Int) + (i : Int) := by rw [IntKind.wrap_i64]; omega
      obtain ⟨x, hx⟩ : ∃ x, x = dk[a + i]! := ⟨_, rfl⟩
      obtain ⟨y, hy⟩ : ∃ x, x = dk[b + i]! := ⟨_, rfl⟩
      have S2 : Aside (SW enc w0 blk off (swp dk (a + i) (b + i)) ((wr.setCell ⟨blk, off + iN, none⟩ (enc y)).setCell ⟨blk, off + jN, none⟩ (enc x)).drew) := by rw [hiN, hjN, hx, hy]; exact S1.out.swapped R (a + i) (b + i) (by omega) (by omega)
      have ca := S1.out.c1 R (by omega) (a + i) (by omega)
      have cb' := S1.out.c1 R (by omega) (b + i) (by omega)
      have fa := S1.out.f1 R (by omega) (a + i) (by omega)
      have fb := S1.out.f1 R (by omega) (b + i) (by omega)
      obtain ⟨u, cc⟩ := S1.out.c2 R (by omega) (a + i) (b + i) (by omega) (by omega) (enc y)
      rw [← hjN, ← hiN] at cc
      rw [← hx, ← hiN] at ca
      rw [← hy, ← hjN] at cb'
      rw [← hiN] at fa
      rw [← hjN] at fb
      clear S1 hx hy hiN hjN
      go_wp2_with fail
      go_big_region_o
      clear ca cb' cc fa fb
      generalize ((wr.setCell ⟨blk, off + iN, none⟩ (enc y)).setCell ⟨blk, off + jN, none⟩ (enc x)).drew = w2 at S2 ⊢
      clear ea ec
      go_wp2
      go_roundg (n - (i + 1))
      case measure => omega
      case rel => exact ⟨i + 1, by go_num, by omega, Nat.le_refl _, by rw [HNX.out]; exact S2⟩
    · obtain rfl : i = n := by omega
      go_wp2
      go_end0
      exact ⟨rfl, S1.out⟩
end Go.Proofs.Ythnkikdbllkmkaa
