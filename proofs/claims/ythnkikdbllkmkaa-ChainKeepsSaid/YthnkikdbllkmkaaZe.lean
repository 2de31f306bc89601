/- slices.symMergeCmpFunc at numbers, where the right side has one element. -/
import Derived.Test.YthnkikdbllkmkaaZd
namespace Go.Proofs.Ythnkikdbllkmkaa
set_option linter.unusedVariables false
set_option linter.unusedSimpArgs false
open Go.Shelf Go.RowKit Go.Lib Go.Sort
variable {α : Type} [Inhabited α]

set_option maxHeartbeats 8000000 in
set_option maxRecDepth 1000000 in
theorem sym_last {r q : α → α → Prop} (enc : α → Value) (cf : α → α → Int) (O : Stb (ltOf cf) r q) (g : Nat) (cb : Array Value) (blk off cap a m b : Nat) (d0 d : Array α) (w0 w : World)
    (eg : ∀ args w, (callFunc g args).run Try.prog w = .ok (.enter g args) w) (hcmp : CmpLays1 Try.prog g cb enc cf blk off d0.size w0) (R : Row1 enc w0 blk off d0) (hs : d0.size = d.size) (S : SW enc w0 blk off d w) (ham : a + 1 < m) (hmb : b = m + 1) (hb : b ≤ d.size) (hsz : d.size < 1000000) (hS : Srt r a m d) (hB : Bef q a m b d) :
    Calls Try.prog 50 #[.slice (some ⟨blk, off, none⟩) d.size cap, .int .i64 (a : Int), .int .i64 (m : Int), .int .i64 (b : Int), .func (.func g) #[] cb] w fun e w' => e = .returned (.tuple #[]) ∧ ∃ d', (PermIn a b d d' ∧ Srt r a b d') ∧ SW enc w0 blk off d' w' := by
  have mixed : Try.prog.follows .mixedOrders = true := by kernel_rfl
  have hcl0 := R.hO.cells
  simp only [Value.cells] at hcl0
  have hst := R.hO.store Try.prog
  have S0 : Aside (SW enc w0 blk off d w) := S
  have HC : Aside _ := hcmp
  have HO := Lib.hid O
  have HSS := Lib.hid hS
  have HBB := Lib.hid hB
  have z2 : ¬ ((m : Int) - (a : Int) = 1) := by omega
  have z3 : ((m : Int) - (a : Int) == 1) = false := by rw [beq_eq_false_iff_ne]; exact z2
  have z0 : (b : Int) - (m : Int) = 1 := by omega
  clear S hcmp O hS hB
  have HAM := Lib.hid hmb
  have hma : m < b := by omega
  clear hmb
  go_enter Try.func50, Try.ntmps50
  go_wp2_with fail
  clear z0 z2 z3
  go_loopg [14, 15] (m - a) (fun kx s10 s11 wr => ∃ (i j : Nat), s10 = .int .i64 (i : Int) ∧ s11 = .int .i64 (j : Int) ∧ a ≤ i ∧ i ≤ j ∧ j ≤ m ∧ j - i ≤ kx ∧ Aside (SW enc w0 blk off d wr) ∧ Hid ((a < i → ltOf cf d[m]! d[i - 1]! = false) ∧ (j < m → ltOf cf d[m]! d[j]! = true)))
  case atStart => exact ⟨a, m, rfl, rfl, Nat.le_refl _, by omega, Nat.le_refl _, Nat.le_refl _, S0, ⟨fun h => by omega, fun h => by omega⟩⟩
  case round =>
    clear S0
    obtain ⟨i, j, rfl, rfl, hmi, hij, hjb, hkx, S1, HI⟩ := hrel
    by_cases hlt : i < j
    · obtain ⟨h, hh⟩ : ∃ h, h = (i + j) / 2 := ⟨_, rfl⟩
      have qh : ((i : Int) + (j : Int)) / 2 = (h : Int) := by omega
      have hih : i ≤ h := by omega
      have hhj : h < j := by omega
      clear hh
      obtain ⟨iN, hiN⟩ : ∃ q, q = m := ⟨_, rfl⟩
      obtain ⟨jN, hjN⟩ : ∃ q, q = h := ⟨_, rfl⟩
      have ea : ((m : Int)).toNat = iN := by omega
      have pa : (0 : Int) ≤ (m : Int) := by omega
      have ba : (m : Int) < (d.size : Int) := by omega
      have ec : ((h : Int)).toNat = jN := by omega
      have pc : (0 : Int) ≤ (h : Int) := by omega
      have bc : (h : Int) < (d.size : Int) := by omega
      obtain ⟨x, hx⟩ : ∃ x, x = d[m]! := ⟨_, rfl⟩
      obtain ⟨y, hy⟩ : ∃ x, x = d[h]! := ⟨_, rfl⟩
      have la := S1.out.cl R hs.symm (m) (by omega)
      have lb := S1.out.cl R hs.symm (h) (by omega)
      rw [← hx, ← hiN] at la
      rw [← hy, ← hjN] at lb
      have hc := S1.out.cmp HC.out hs.symm x y
      cases hL : ltOf cf d[m]! d[h]! with
      | true =>
        have hv : cf x y < 0 := by rw [hx, hy]; exact of_decide_eq_true hL
        have hd : decide (cf x y < 0) = true := decide_eq_true hv
        have HL := Lib.hid hL
        clear hx hy hiN hjN hL
        go_wp2_with fail
        go_quiet_grown (first | (go_at_fn g; refine Calls.grown_of (hc _ _)))
        have S2 : Aside (SW enc w0 blk off d (grow (wr.drewN nq) osq)) := S1.out.grown nq osq
        clear la lb hc S1
        generalize grow (wr.drewN nq) osq = w2 at S2 ⊢
        clear nq osq ea ec
        go_wp2_with fail
        go_roundg (h - i)
        case measure => omega
        case rel => exact ⟨i, h, rfl, rfl, hmi, by omega, by omega, Nat.le_refl _, S2, ⟨HI.out.1, fun _ => HL.out⟩⟩
      | false =>
        have hv : ¬ cf x y < 0 := by rw [hx, hy]; exact of_decide_eq_false hL
        have hd : decide (cf x y < 0) = false := decide_eq_false hv
        have HL := Lib.hid hL
        clear hx hy hiN hjN hL
        go_wp2_with fail
        go_quiet_grown (first | (go_at_fn g; refine Calls.grown_of (hc _ _)))
        have S2 : Aside (SW enc w0 blk off d (grow (wr.drewN nq) osq)) := S1.out.grown nq osq
        clear la lb hc S1
        generalize grow (wr.drewN nq) osq = w2 at S2 ⊢
        clear nq osq ea ec
        go_wp2_with fail
        go_roundg (j - (h + 1))
        case measure => omega
        case rel => exact ⟨h + 1, j, by go_num, rfl, by omega, by omega, hjb, Nat.le_refl _, S2, ⟨fun _ => HL.out, HI.out.2⟩⟩
    · obtain rfl : j = i := by omega
      clear hij hkx
      go_wp2_with fail
      generalize wr = wz at *
      go_loopg [17] (m - j) (fun kx s13 wr => ∃ (k : Nat) (dk : Array α), s13 = .int .i64 (k : Int) ∧ j ≤ k ∧ k ≤ m ∧ k - j ≤ kx ∧ dk.size = d.size ∧ Hid (RotAt k m (m + 1) d dk) ∧ Aside (SW enc w0 blk off dk wr))
      case atStart => exact ⟨m, d, rfl, hjb, Nat.le_refl _, Nat.le_refl _, rfl, RotAt.same d (.inl rfl), S1⟩
      case round =>
        clear S1
        obtain ⟨k, dk, rfl, hjk, hkm, hkx, hds, HR, S1⟩ := hrel
        by_cases hlt2 : j < k
        · obtain ⟨kp, hkp⟩ : ∃ q, q + 1 = k := ⟨k - 1, by omega⟩
          have zk : (k : Int) = (kp : Int) + 1 := by omega
          have hjz : (j : Int) < (kp : Int) + 1 := by omega
          go_wp2_with fail
          obtain ⟨iN, hiN⟩ : ∃ q, q = kp + 1 := ⟨_, rfl⟩
          obtain ⟨jN, hjN⟩ : ∃ q, q = kp := ⟨_, rfl⟩
          have ea : ((kp : Int) + 1).toNat = iN := by omega
          have pa : (0 : Int) ≤ (kp : Int) + 1 := by omega
          have ba : (kp : Int) + 1 < (d.size : Int) := by omega
          have ra : IntKind.i64.wrap ((kp : Int) + 1) = (kp : Int) + 1 := by rw [IntKind.wrap_i64]; omega
          have ec : ((kp : Int)).toNat = jN := by omega
          have pc : (0 : Int) ≤ (kp : Int) := by omega
          have bc : (kp : Int) < (d.size : Int) := by omega
          have rc : IntKind.i64.wrap ((kp : Int)) = (kp : Int) := by rw [IntKind.wrap_i64]; omega
          obtain ⟨x, hx⟩ : ∃ x, x = dk[kp + 1]! := ⟨_, rfl⟩
          obtain ⟨y, hy⟩ : ∃ x, x = dk[kp]! := ⟨_, rfl⟩
          have S2 : Aside (SW enc w0 blk off (swp dk (kp + 1) kp) ((wr.setCell ⟨blk, off + iN, none⟩ (enc y)).setCell ⟨blk, off + jN, none⟩ (enc x)).drew) := by rw [hiN, hjN, hx, hy]; exact S1.out.swapped R (kp + 1) kp (by omega) (by omega)
          have ca := S1.out.c1 R (by omega) (kp + 1) (by omega)
          have cb' := S1.out.c1 R (by omega) kp (by omega)
          have fa := S1.out.f1 R (by omega) (kp + 1) (by omega)
          have fb := S1.out.f1 R (by omega) kp (by omega)
          obtain ⟨u, cc⟩ := S1.out.c2 R (by omega) (kp + 1) kp (by omega) (by omega) (enc y)
          rw [← hiN, ← hjN] at cc
          rw [← hx, ← hiN] at ca
          rw [← hy, ← hjN] at cb'
          rw [← hiN] at fa
          rw [← hjN] at fb
          clear S1 hx hy hiN hjN
          have HKP := Lib.hid hkp
          clear hkp
          go_wp2_with fail
          go_big_region_o
          clear ca cb' cc fa fb
          generalize ((wr.setCell ⟨blk, off + iN, none⟩ (enc y)).setCell ⟨blk, off + jN, none⟩ (enc x)).drew = w2 at S2 ⊢
          clear ea ec
          go_wp2
          have hkp := HKP.out
          subst hkp
          go_roundg (kp - j)
          case measure => omega
          case rel => exact ⟨kp, _, by go_num, by omega, by omega, Nat.le_refl _, by rw [size_swp]; exact hds, rot_down hkm (by omega) HR.out, S2⟩
        · obtain rfl : k = j := by omega
          go_wp2
          try simp only [Exit.inBlock, Exit.then]
          refine bodyPost_ret (results_none rfl _ _ _) rfl ?_
          have e := HAM.out
          subst e
          exact ⟨rfl, dk, ⟨permIn_mono _ _ _ _ _ _ hmi (Nat.le_refl _) hb HR.out.perm, sym_down HO.out hmi hjb HSS.out HBB.out HI.out.1 HI.out.2 HR.out⟩, S1.out⟩
end Go.Proofs.Ythnkikdbllkmkaa
