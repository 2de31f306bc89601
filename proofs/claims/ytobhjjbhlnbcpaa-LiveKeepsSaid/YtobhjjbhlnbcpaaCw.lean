/- The document's Same, of one graph in two places. -/
import Derived.Test.YtobhjjbhlnbcpaaCv
import Derived.Test.YtobhjjbhlnbcpaaCb
import Derived.BigQuiet
namespace Go.Proofs.Ytobhjjbhlnbcpaa
set_option linter.unusedVariables false
set_option linter.unusedSimpArgs false
open Go.RowKit

theorem eqTerm_same (d : Nat) (w : World) (k o a b t e x0 x1 x2 x3 x4 : Int) :
    (Op.equalIn (d + 3) 41 (.agg #[.int .i64 k, .int .i64 o, .int .i64 a, .int .i64 b, .int .i64 t, .int .i64 e, .int .i64 x0, .int .i64 x1, .int .i64 x2, .int .i64 x3, .int .i64 x4]) (.agg #[.int .i64 k, .int .i64 o, .int .i64 a, .int .i64 b, .int .i64 t, .int .i64 e, .int .i64 x0, .int .i64 x1, .int .i64 x2, .int .i64 x3, .int .i64 x4])).run Try.prog w = .ok true w := by
  have hI := fun W => eqIns d W x0 x0 x1 x1 x2 x2 x3 x3 x4 x4
  rw [run_equalIn_struct w (d + 2) 41 _ _ (by rfl) (by kernel_rfl)]
  simp [Try.underlying41, Try.underlying39, Program.fieldsOf, go_sem, hI]
theorem eqOp_same (d : Nat) (w : World) (r : Bool) (k t a x0 x1 x2 x3 x4 : Int) :
    (Op.equalIn (d + 3) 45 (.agg #[.int .i64 x0, .int .i64 x1, .int .i64 x2, .int .i64 x3, .int .i64 x4, .bool r, .int .i64 k, .int .i64 t, .int .i64 a]) (.agg #[.int .i64 x0, .int .i64 x1, .int .i64 x2, .int .i64 x3, .int .i64 x4, .bool r, .int .i64 k, .int .i64 t, .int .i64 a])).run Try.prog w = .ok true w := by
  have hI := fun W => eqIns d W x0 x0 x1 x1 x2 x2 x3 x3 x4 x4
  rw [run_equalIn_struct w (d + 2) 45 _ _ (by rfl) (by kernel_rfl)]
  simp [Try.underlying45, Try.underlying39, Program.fieldsOf, go_sem, hI]
attribute [local go_sem high] eqTerm_same eqOp_same

set_option maxHeartbeats 4000000 in
set_option maxRecDepth 100000 in
theorem same_calls (nm : ByteArray) (kp lf : Bool) (A A' : Option Addr) (c c' : Nat) (bs : List Block) (w : World) (hC : kBlock.C w A bs) (hC' : kBlock.C w A' bs) (hl : bs.length ≤ maxLen) : Calls Try.prog 21 #[.agg #[.string nm, .bool kp, .bool lf, .slice A bs.length c], .agg #[.string nm, .bool kp, .bool lf, .slice A' bs.length c']] w fun e w' => e = .returned (.bool true) ∧ Below w.heap.size w w' := by
  unfold maxLen at hl
  have hall : ∃ W : World, W = (w.alloc (.cells #[.string nm, .bool kp, .bool lf, .slice A bs.length c] 28)).alloc (.cells #[.string nm, .bool kp, .bool lf, .slice A' bs.length c'] 28) ∧ Below w.heap.size w W ∧ G4 W w.heap.size nm kp lf (.slice A bs.length c) ∧ G4 W (w.heap.size + 1) nm kp lf (.slice A' bs.length c') := by
    have e1 : (w.alloc (.cells #[.string nm, .bool kp, .bool lf, .slice A bs.length c] 28)).heap.size = w.heap.size + 1 := by simp
    have b1 := below_alloc' w (.cells #[.string nm, .bool kp, .bool lf, .slice A bs.length c] 28)
    have c1 : G4 (w.alloc (.cells #[.string nm, .bool kp, .bool lf, .slice A bs.length c] 28)) w.heap.size nm kp lf (.slice A bs.length c) := ⟨by simp, by simp, by simp, by simp⟩
    generalize w.alloc (.cells #[.string nm, .bool kp, .bool lf, .slice A bs.length c] 28) = W1 at *
    have b2 := below_alloc' W1 (.cells #[.string nm, .bool kp, .bool lf, .slice A' bs.length c'] 28)
    refine ⟨_, rfl, b1.trans (b2.mono b1.size), c1.below b2 (by omega), ?_⟩
    rw [← e1]
    exact ⟨by simp, by simp, by simp, by simp⟩
  obtain ⟨W, hW, hbW, p1, p2⟩ := hall
  have HW := Lib.hid hW
  have HP1 := Lib.hid p1
  have HP2 := Lib.hid p2
  clear hW p1 p2
  go_enter Try.func21, Try.ntmps21
  go_upto_region 1 with fail
  rw [← HW.out]
  obtain ⟨p10, p11, p12, p13⟩ := HP1.out
  obtain ⟨p20, p21, p22, p23⟩ := HP2.out
  replace hC := Kd.C_mono hbW hC
  replace hC' := Kd.C_mono hbW hC'
  go_wp2_with fail
  go_loopw [5] (fun i wr => ∃ k : Nat, k ≤ bs.length ∧ i = .int .i64 k ∧ ∃ n, wr = W.drewN n) (fun i _ => bs.length - (intOf i).toNat)
  case atStart => exact ⟨0, Nat.zero_le _, rfl, 0, rfl⟩
  case round =>
    obtain ⟨k, hk, rfl, n, rfl⟩ := hrel
    by_cases hlt : k < bs.length
    · obtain ⟨b, hb⟩ := get_some bs k hlt
      obtain ⟨ad, A0, c0, rfl, f0, f1, f2, f3, f4, f5, f6, f7, f8, f9, f10, f11, -, l0, m0, g0⟩ := Block_at hC hb
      obtain ⟨ad', A0', c0', rfl, f0', f1', f2', f3', f4', f5', f6', f7', f8', f9', f10', f11', -, l0', m0', g0'⟩ := Block_at hC' hb
      have hl0 := len_le l0 m0
      clear hb
      go_wp2_with fail
      go_quiet (fail)
      go_wp2_with fail
      go_loopw [6] (fun i wr => ∃ j : Nat, j ≤ b.ops.length ∧ i = .int .i64 j ∧ ∃ n, wr = W.drewN n) (fun i _ => b.ops.length - (intOf i).toNat)
      case atStart => exact ⟨0, Nat.zero_le _, rfl, _, World.drewN_drewN W n nq⟩
      case round =>
        obtain ⟨j, hj, rfl, n2, rfl⟩ := hrel
        by_cases hltj : j < b.ops.length
        · obtain ⟨o, ho⟩ := get_some b.ops j hltj
          obtain ⟨ao, rfl, e0, e1, e2, e3, e4, e5, e6, e7, e8, -⟩ := Op_at g0 ho
          obtain ⟨ao', rfl, e0', e1', e2', e3', e4', e5', e6', e7', e8', -⟩ := Op_at g0' ho
          clear ho
          go_wp2_with fail
          go_quiet (fail)
          go_wp2_with fail
          exact ⟨⟨j + 1, by omega, by go_num, _, rfl⟩, by simp [intOf]; omega⟩
        · go_wp2_with fail
          exact ⟨⟨k + 1, by omega, by go_num, _, rfl⟩, by simp [intOf]; omega⟩
    · go_wp2_with fail
      go_ret
      exact ⟨rfl, Below.drewN hbW n⟩
end Go.Proofs.Ytobhjjbhlnbcpaa
