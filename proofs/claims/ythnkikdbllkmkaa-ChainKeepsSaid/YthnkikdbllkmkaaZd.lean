/- slices.symMergeCmpFunc at numbers, where one side has one element. -/
import Derived.Test.YthnkikdbllkmkaaZc
namespace Go.Proofs.Ythnkikdbllkmkaa
set_option linter.unusedVariables false
set_option linter.unusedSimpArgs false
open Go.Shelf Go.RowKit Go.Lib Go.Sort
variable {α : Type} [Inhabited α]

set_option maxHeartbeats 8000000 in
set_option maxRecDepth 1000000 in
theorem sym_one {r q : α → α → Prop} (enc : α → Value) (cf : α → α → Int) (O : Stb (ltOf cf) r q) (g : Nat) (cb : Array Value) (blk off cap a m b : Nat) (d0 d : Array α) (w0 w : World)
    (eg : ∀ args w, (callFunc g args).run Try.prog w = .ok (.enter g args) w) (hcmp : CmpLays1 Try.prog g cb enc cf blk off d0.size w0) (R : Row1 enc w0 blk off d0) (hs : d0.size = d.size) (S : SW enc w0 blk off d w) (ham : m = a + 1) (hmb : m < b) (hb : b ≤ d.size) (hsz : d.size < 1000000) (hS : Srt r m b d) (hB : Bef q a m b d) :
    Calls Try.prog 50 #[.slice (some ⟨blk, off, none⟩) d.size cap, .int .i64 (a : Int), .int .i64 (m : Int), .int .i64 (b : Int), .func (.func g) #[] cb] w fun e w' => e = .returned (.tuple #[]) ∧ ∃ d', (PermIn a b d d' ∧ Srt r a b d') ∧ SW enc w0 blk off d' w' := by
  have mixed : Try.prog.follows .mixedOrders = true := by kernel_rfl
  have hcl0 := R.hO.cells
  simp only [Value.cells] at hcl0
  have hst := R.hO.store Try.prog
  have S0 : Aside (SW enc w0 blk off d w) := S
  have HC : Aside _ := hcmp
  have HO := Lib.hid O
  have HSS := Lib.hid hS
  have HBB := Lib.hid hB
  have z0 : (m : Int) - (a : Int) = 1 := by omega
  have z1 : ((m : Int) - (a : Int) == 1) = true := by rw [z0]; rfl
  clear S hcmp O hS hB
  have HAM := Lib.hid ham
  clear ham
  have hma : a < m := by have := HAM.out; omega
  go_enter Try.func50, Try.ntmps50
  go_wp2_with fail
  clear z0 z1
  go_loopg [10, 11] (b - m) (fun kx s10 s11 wr => ∃ (i j : Nat), s10 = .int .i64 (i : Int) ∧ s11 = .int .i64 (j : Int) ∧ m ≤ i ∧ i ≤ j ∧ j ≤ b ∧ j - i ≤ kx ∧ Aside (SW enc w0 blk off d wr) ∧ Hid ((m < i → ltOf cf d[i - 1]! d[a]! = true) ∧ (j < b → ltOf cf d[j]! d[a]! = false)))
  case atStart => exact ⟨m, b, rfl, rfl, Nat.le_refl _, by omega, Nat.le_refl _, Nat.le_refl _, S0, ⟨fun h => by omega, fun h => by omega⟩⟩
  case round =>
    clear S0
    obtain ⟨i, j, rfl, rfl, hmi, hij, hjb, hkx, S1, HI⟩ := hrel
    by_cases hlt : i < j
    · obtain ⟨h, hh⟩ : ∃ h, h = (i + j) / 2 := ⟨_, rfl⟩
      have qh : ((i : Int) + (j : Int)) / 2 = (h : Int) := by omega
      have hih : i ≤ h := by omega
      have hhj : h < j := by omega
      clear hh
      obtain ⟨iN, hiN⟩ : ∃ q, q = h := ⟨_, rfl⟩
      obtain ⟨jN, hjN⟩ : ∃ q, q = a := ⟨_, rfl⟩
      have ea : ((h : Int)).toNat = iN := by omega
      have pa : (0 : Int) ≤ (h : Int) := by omega
      have ba : (h : Int) < (d.size : Int) := by omega
      have ec : ((a : Int)).toNat = jN := by omega
      have pc : (0 : Int) ≤ (a : Int) := by omega
      have bc : (a : Int) < (d.size : Int) := by omega
      obtain ⟨x, hx⟩ : ∃ x, x = d[h]! := ⟨_, rfl⟩
      obtain ⟨y, hy⟩ : ∃ x, x = d[a]! := ⟨_, rfl⟩
      have la := S1.out.cl R hs.symm (h) (by omega)
      have lb := S1.out.cl R hs.symm (a) (by omega)
      rw [← hx, ← hiN] at la
      rw [← hy, ← hjN] at lb
      have hc := S1.out.cmp HC.out hs.symm x y
      cases hL : ltOf cf d[h]! d[a]! with
      | true =>
        have hv : cf x y < 0 := by rw [hx, hy]; exact of_decide_eq_true hL
        have hd : decide (cf x y < 0) = true := decide_eq_true hv
        have HL := Lib.hid hL
        clear hx hy hiN hjN hL
        go_wp2_with fail
        go_quiet_grown (first | (go_at_fn g; refine Calls.grown_of (hc _ _)))
        have S2 : Aside (SW enc w0 blk off d (grow (wr.drewN nq) osq)) := S1.out.grown nq osq
        clear la lb hc S1
        generalize grow (wr.drewN nq) osq = w2 at S2 ⊢
        clear nq osq ea ec
        go_wp2_with fail
        go_roundg (j - (h + 1))
        case measure => omega
        case rel => exact ⟨h + 1, j, by go_num, rfl, by omega, by omega, hjb, Nat.le_refl _, S2, ⟨fun _ => HL.out, HI.out.2⟩⟩
      | false =>
        have hv : ¬ cf x y < 0 := by rw [hx, hy]; exact of_decide_eq_false hL
        have hd : decide (cf x y < 0) = false := decide_eq_false hv
        have HL := Lib.hid hL
        clear hx hy hiN hjN hL
        go_wp2_with fail
        go_quiet_grown (first | (go_at_fn g; refine Calls.grown_of (hc _ _)))
        have S2 : Aside (SW enc w0 blk off d (grow (wr.drewN nq) osq)) := S1.out.grown nq osq
        clear la lb hc S1
        generalize grow (wr.drewN nq) osq = w2 at S2 ⊢
        clear nq osq ea ec
        go_wp2_with fail
        go_roundg (h - i)
        case measure => omega
        case rel => exact ⟨i, h, rfl, rfl, hmi, by omega, by omega, Nat.le_refl _, S2, ⟨HI.out.1, fun _ => HL.out⟩⟩
    · obtain rfl : j = i := by omega
      clear hij hkx
      go_wp2_with fail
      generalize wr = wz at *
      go_loopg [13] (j - 1 - a) (fun kx s13 wr => ∃ (k : Nat) (dk : Array α), s13 = .int .i64 (k : Int) ∧ a ≤ k ∧ k + 1 ≤ j ∧ j - 1 - k ≤ kx ∧ dk.size = d.size ∧ Hid (RotAt a (a + 1) (k + 1) d dk) ∧ Aside (SW enc w0 blk off dk wr))
      case atStart => exact ⟨a, d, rfl, Nat.le_refl _, by omega, Nat.le_refl _, rfl, RotAt.same d (.inr rfl), S1⟩
      case round =>
        clear S1
        obtain ⟨k, dk, rfl, hak, hkj, hkx, hds, HR, S1⟩ := hrel
        have qj : (j : Int) - 1 = ((j - 1 : Nat) : Int) := by omega
        by_cases hlt2 : k < j - 1
        · go_wp2_with fail
          obtain ⟨iN, hiN⟩ : ∃ q, q = k := ⟨_, rfl⟩
          obtain ⟨jN, hjN⟩ : ∃ q, q = k + 1 := ⟨_, rfl⟩
          have ea : ((k : Int)).toNat = iN := by omega
          have pa : (0 : Int) ≤ (k : Int) := by omega
          have ba : (k : Int) < (d.size : Int) := by omega
          have ra : IntKind.i64.wrap ((k : Int)) = (k : Int) := by rw [IntKind.wrap_i64]; omega
          have ec : ((k : Int) + 1).toNat = jN := by omega
          have pc : (0 : Int) ≤ (k : Int) + 1 := by omega
          have bc : (k : Int) + 1 < (d.size : Int) := by omega
          have rc : IntKind.i64.wrap ((k : Int) + 1) = (k : Int) + 1 := by rw [IntKind.wrap_i64]; omega
          obtain ⟨x, hx⟩ : ∃ x, x = dk[k]! := ⟨_, rfl⟩
          obtain ⟨y, hy⟩ : ∃ x, x = dk[k + 1]! := ⟨_, rfl⟩
          have S2 : Aside (SW enc w0 blk off (swp dk k (k + 1)) ((wr.setCell ⟨blk, off + iN, none⟩ (enc y)).setCell ⟨blk, off + jN, none⟩ (enc x)).drew) := by rw [hiN, hjN, hx, hy]; exact S1.out.swapped R k (k + 1) (by omega) (by omega)
          have ca := S1.out.c1 R (by omega) k (by omega)
          have cb' := S1.out.c1 R (by omega) (k + 1) (by omega)
          have fa := S1.out.f1 R (by omega) k (by omega)
          have fb := S1.out.f1 R (by omega) (k + 1) (by omega)
          obtain ⟨u, cc⟩ := S1.out.c2 R (by omega) k (k + 1) (by omega) (by omega) (enc y)
          rw [← hjN, ← hiN] at cc
          rw [← hx, ← hiN] at ca
          rw [← hy, ← hjN] at cb'
          rw [← hiN] at fa
          rw [← hjN] at fb
          clear S1 hx hy hiN hjN
          go_wp2_with fail
          go_big_region_o
          clear ca cb' cc fa fb
          generalize ((wr.setCell ⟨blk, off + iN, none⟩ (enc y)).setCell ⟨blk, off + jN, none⟩ (enc x)).drew = w2 at S2 ⊢
          clear ea ec
          go_wp2
          go_roundg (j - 1 - (k + 1))
          case measure => omega
          case rel => exact ⟨k + 1, _, by go_num, by omega, by omega, Nat.le_refl _, by rw [size_swp]; exact hds, rot_up hak (by omega) HR.out, S2⟩
        · obtain rfl : j = k + 1 := by omega
          go_wp2
          try simp only [Exit.inBlock, Exit.then]
          refine bodyPost_ret (results_none rfl _ _ _) rfl ?_
          have e := HAM.out
          subst e
          exact ⟨rfl, dk, ⟨permIn_mono _ _ _ _ _ _ (Nat.le_refl _) hjb hb HR.out.perm, sym_up HO.out (by omega) hjb HSS.out HBB.out HI.out.1 HI.out.2 HR.out⟩, S1.out⟩
end Go.Proofs.Ythnkikdbllkmkaa
