/- The laws of layer 18: CallsReach returns true. -/
import Derived.Test.YtklhhdhokobbmaaMa
import Derived.Test.YtklhhdhokobbmaaCs
namespace Go.Proofs.Ytklhhdhokobbmaa
set_option linter.unusedVariables false
set_option linter.unusedSimpArgs false
open Go.RowKit

theorem u8_bounds {x : Int} (h : (Lit.int .u8 x).wf = true) : 0 ≤ x ∧ x ≤ 255 := by
  simp [Lit.wf] at h
  have h1 : IntKind.u8.min = 0 := by decide
  have h2 : IntKind.u8.max = 255 := by decide
  omega
theorem tmod_index {x : Int} {n : Nat} (h0 : 0 ≤ x) (hn : 0 < n) : ∃ i : Nat, i < n ∧ x.tmod n = i := by
  refine ⟨(x.tmod n).toNat, ?_, ?_⟩
  · rw [Int.tmod_eq_emod_of_nonneg h0]
    have := Int.emod_lt_of_pos x (show (0 : Int) < n by omega)
    have := Int.emod_nonneg x (show (n : Int) ≠ 0 by omega)
    omega
  · rw [Int.tmod_eq_emod_of_nonneg h0]
    have := Int.emod_nonneg x (show (n : Int) ≠ 0 by omega)
    omega

set_option maxHeartbeats 4000000 in
set_option maxRecDepth 100000 in
theorem callsReach_law (w : World) (A : Option Addr) (c : Nat) (gs : List Graph) (hlc : gs.length ≤ c) (hcm : c ≤ maxLen) (hC : kGraph.C w A gs) (x : Int) (hx : (Lit.int .u8 x).wf = true) : Calls Try.prog 4 #[.slice A gs.length c, .int .u8 x] w fun e w' => e = .returned (.bool true) ∧ Below w.heap.size w w' := by
  obtain ⟨hx0, hx1⟩ := u8_bounds hx
  clear hx
  have hlm := Nat.le_trans hlc hcm
  have hlm' : gs.length ≤ 9223372036854775807 := hlm
  cases hr : gsFew gs 1000 with
  | false =>
    have HR := Lib.hid hr
    clear hr
    go_enter Try.func4, Try.ntmps4
    go_wp2_with fail
    refine (callsAwake_calls _).mono ?_
    rintro e w1 ⟨rfl, hb1⟩
    go_wp2_with fail
    refine (gsFew_calls _ _ _ _ _ (Kd.C_mono hb1 hC) hlm).mono ?_
    rw [HR.out]
    rintro e w2 ⟨rfl, hb2⟩
    go_wp2_with fail
    refine (callsAwake_calls _).mono ?_
    rintro e w3 ⟨rfl, hb3⟩
    go_wp2_with fail
    go_ret
    exact ⟨rfl, hb1.trans ((hb2.mono hb1.size).trans (hb3.mono (Nat.le_trans hb1.size hb2.size)))⟩
  | true =>
    have hok := gsFew_ok hr
    have h60 := hok.1
    have HR := Lib.hid hr
    have HOK := Lib.hid hok
    clear hr hok
    by_cases hn0 : gs.length = 0
    · have z1 : ((gs.length : Int) == 0) = true := by simpa using hn0
      have z2 : (gs.length == 0) = true := by simpa using hn0
      have z3 : decide (gs.length = 0) = true := by simpa using hn0
      clear hn0
      go_enter Try.func4, Try.ntmps4
      go_wp2_with fail
      refine (callsAwake_calls _).mono ?_
      rintro e w1 ⟨rfl, hb1⟩
      go_wp2_with fail
      refine (gsFew_calls _ _ _ _ _ (Kd.C_mono hb1 hC) hlm).mono ?_
      rw [HR.out]
      rintro e w2 ⟨rfl, hb2⟩
      go_wp2_with fail
      refine (callsAwake_calls _).mono ?_
      rintro e w3 ⟨rfl, hb3⟩
      go_wp2_with fail
      go_ret
      exact ⟨rfl, hb1.trans ((hb2.mono hb1.size).trans (hb3.mono (Nat.le_trans hb1.size hb2.size)))⟩
    · have z1 : ((gs.length : Int) == 0) = false := by simpa using hn0
      have z2 : (gs.length == 0) = false := by simpa using hn0
      have hpos : 0 < gs.length := by omega
      obtain ⟨i, hi, he⟩ := tmod_index hx0 hpos
      clear hn0
      go_enter Try.func4, Try.ntmps4
      go_wp2_with fail
      refine (callsAwake_calls _).mono ?_
      rintro e w1 ⟨rfl, hb1⟩
      go_wp2_with fail
      refine (gsFew_calls _ _ _ _ _ (Kd.C_mono hb1 hC) hlm).mono ?_
      rw [HR.out]
      rintro e w2 ⟨rfl, hb2⟩
      have t2 := hb1.trans (hb2.mono hb1.size)
      go_wp2_with fail
      refine (reach_calls _ _ _ i _ (Kd.C_mono t2 hC) HOK.out hi).mono ?_
      rintro e w3 ⟨g3, ys, rfl, hrow3, his3, hg3, hb3⟩
      have t3 := t2.trans (hb3.mono t2.size)
      clear hb1 hb2 hb3 t2
      go_wp2_with fail
      refine (refReach_calls _ _ _ i _ (Kd.C_mono t3 hC) HOK.out hi).mono ?_
      rintro e w4 ⟨g4, zs, rfl, hrow4, his4, hg4, hb4⟩
      obtain rfl := his3.unique his4
      have hrow3' := hrow3.below hb4
      have t4 := t3.trans (hb4.mono t3.size)
      have hyl := his3.1
      have HY := Lib.hid hyl
      clear hb4 his3 his4 hrow3 t3 hyl he
      go_wp2_with fail
      go_loopw [8] (fun v wr => ∃ k : Nat, k ≤ gs.length ∧ v = .int .i64 k ∧ ∃ n, wr = w4.drewN n) (fun v _ => gs.length - (intOf v).toNat)
      case atStart => exact ⟨0, Nat.zero_le _, rfl, 0, rfl⟩
      case round =>
        obtain ⟨k, hk, rfl, n, rfl⟩ := hrel
        by_cases hlt : k < gs.length
        · obtain ⟨b, hb⟩ := get_some ys k (by rw [HY.out]; exact hlt)
          have f3 := hrow3'.cell hb
          have f4 := hrow4.cell hb
          clear hb
          go_wp2_with fail
          go_quiet (fail)
          go_wp2_with fail
          exact ⟨⟨k + 1, by omega, by go_num, _, rfl⟩, by simp [intOf]; omega⟩
        · go_wp2_with fail
          go_ret
          exact ⟨rfl, Below.drewN t4 n⟩
end Go.Proofs.Ytklhhdhokobbmaa
