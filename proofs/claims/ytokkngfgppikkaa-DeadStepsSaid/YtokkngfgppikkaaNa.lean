/- Layer 22 (dead): where a block leads on from; whether an instruction does nothing. -/
import Derived.Test.YtokkngfgppikkaaPt
import Derived.Test.YtokkngfgppikkaaEl
import Derived.Test.YtokkngfgppikkaaGh
import Derived.Test.YtokkngfgppikkaaGc
namespace Go.Proofs.Ytokkngfgppikkaa
set_option linter.unusedVariables false
set_option linter.unusedSimpArgs false
open Go.RowKit

theorem nbeq {n m : Nat} (h : ¬ n = m) : (n == m) = false := by simpa using h
theorem ibeq {n m : Int} (h : ¬ n = m) : (n == m) = false := by simpa using h
set_option maxHeartbeats 4000000 in
set_option maxRecDepth 100000 in
theorem through_calls (nm : ByteArray) (kp lf : Bool) (A : Option Addr) (c : Nat) (bs : List Block) (b : Nat) (w : World) (hC : kBlock.C w A bs) (hl : bs.length ≤ 1000) (hld : Leads bs) (hb : b < bs.length) : Calls Try.prog 65 #[.agg #[.string nm, .bool kp, .bool lf, .slice A bs.length c], .int .i64 (b : Int)] w fun e w' => e = .returned (.int .i64 (thr bs b : Int)) ∧ Below w.heap.size w w' := by
  have hlo : bs.length ≤ 9223372036854775807 := by omega
  have b0 := below_alloc' w (.cells #[.string nm, .bool kp, .bool lf, .slice A bs.length c] 33)
  have r0 : Row (w.alloc (.cells #[.string nm, .bool kp, .bool lf, .slice A bs.length c] 33)) w.heap.size 33 [.string nm, .bool kp, .bool lf, .slice A bs.length c] := Row.new w _ _
  have hlt0 := fun n => thrN_lt hld hb n
  have HLT := Lib.hid hlt0
  have HLD := Lib.hid hld
  clear hld hlt0
  go_enter Try.func65, Try.ntmps65
  go_upto_region 1 with fail
  generalize w.alloc (.cells #[.string nm, .bool kp, .bool lf, .slice A bs.length c] 33) = W at *
  have x3 := r0.cell (j := 3) rfl
  go_wp2_with fail
  go_loopw [9, 1] (fun i v wr => ∃ k : Nat, k ≤ bs.length ∧ i = .int .i64 k ∧ v = .int .i64 (thrN bs k b : Int) ∧ Below W.heap.size W wr) (fun i _ _ => bs.length - (intOf i).toNat)
  case atStart => exact ⟨0, Nat.zero_le _, rfl, rfl, Below.refl _ _⟩
  case round =>
    obtain ⟨k, hk, rfl, rfl, hbr⟩ := hrel
    have y3 := Sub.of_below hbr _ _ x3
    have t1 := b0.trans (hbr.mono b0.size)
    clear x3
    by_cases hlt : k < bs.length
    · obtain ⟨x, hx⟩ := get_some bs (thrN bs k b) (HLT.out k)
      have hst : thrN bs (k + 1) b = if passB x then x.fin.to.toNat else thrN bs k b := stepT_get hx
      have hto : x.fin.kind = 1 → 0 ≤ x.fin.to := fun h => ((HLD.out x (List.mem_of_getElem? hx)).1 (.inl h)).1
      have hstay : ¬ passB x → thr bs b = thrN bs k b := fun hp => thrN_stay (by rw [stepT_get hx, if_neg hp]) _ hk
      have hlb := HLT.out k
      obtain ⟨ad, A0, c0, rfl, f0, f1, f2, f3, f4, f5, f6, f7, f8, f9, f10, f11, hwf, l0, m0, g0⟩ := Block_at (Kd.C_mono t1 hC) hx
      have hl0 := len_le l0 m0
      have HST := Lib.hid hst
      have HSTAY := Lib.hid hstay
      have HTO := Lib.hid hto
      clear hst hstay hto hx
      generalize hnn : thrN bs k b = n at *
      have HNN := Lib.hid hnn
      clear hnn
      have b2 := below_alloc' wr (.cells #[.slice A0 x.ops.length c0, .int .i64 x.fin.kind, .int .i64 x.fin.op, .int .i64 x.fin.a, .int .i64 x.fin.b, .int .i64 x.fin.to, .int .i64 x.fin.els, .int .i64 x.fin.ins.op, .int .i64 x.fin.ins.a, .int .i64 x.fin.ins.b, .int .i64 x.fin.ins.c, .int .i64 x.fin.ins.imm] 42)
      have r2 : Row (wr.alloc (.cells #[.slice A0 x.ops.length c0, .int .i64 x.fin.kind, .int .i64 x.fin.op, .int .i64 x.fin.a, .int .i64 x.fin.b, .int .i64 x.fin.to, .int .i64 x.fin.els, .int .i64 x.fin.ins.op, .int .i64 x.fin.ins.a, .int .i64 x.fin.ins.b, .int .i64 x.fin.ins.c, .int .i64 x.fin.ins.imm] 42)) wr.heap.size 42 (blockCells (.slice A0 x.ops.length c0) x) := Row.new wr _ _
      go_upto_region 4 with fail
      generalize wr.alloc (.cells #[.slice A0 x.ops.length c0, .int .i64 x.fin.kind, .int .i64 x.fin.op, .int .i64 x.fin.a, .int .i64 x.fin.b, .int .i64 x.fin.to, .int .i64 x.fin.els, .int .i64 x.fin.ins.op, .int .i64 x.fin.ins.a, .int .i64 x.fin.ins.b, .int .i64 x.fin.ins.c, .int .i64 x.fin.ins.imm] 42) = W2 at *
      clear f0 f1 f2 f3 f4 f5 f6 f7 f8 f9 f10 f11
      obtain ⟨q0, q1, q2, q3, q4, q5, q6, q7, q8, q9, q10, q11⟩ := r2.block
      have hb2 := hbr.trans (b2.mono hbr.size)
      have t2 := b0.trans (hb2.mono b0.size)
      by_cases hz : x.ops.length = 0
      · have z1 : decide (0 < x.ops.length) = false := by simp [hz]
        by_cases hk1 : x.fin.kind = 1
        · have z2 : (x.fin.kind != 1) = false := by simp [hk1]
          have z3 : (x.fin.kind == 1) = true := by simp [hk1]
          have hnew : x.fin.to = (thrN bs (k + 1) b : Int) := by
            rw [HST.out, if_pos ⟨hz, hk1⟩]
            have := HTO.out hk1
            omega
          have HNEW := Lib.hid hnew
          clear hnew hz hk1
          go_wp2_with fail
          exact ⟨⟨k + 1, by omega, by go_num, by rw [HNEW.out], hb2⟩, by simp [intOf]; omega⟩
        · have z2 : (x.fin.kind != 1) = true := by simp [hk1]
          have z3 : (x.fin.kind == 1) = false := by simp [hk1]
          have hfin := HSTAY.out (fun h => hk1 h.2)
          have HFIN := Lib.hid hfin
          clear hfin hz hk1
          go_wp2_with fail
          go_ret
          exact ⟨by rw [HFIN.out]; rfl, t2⟩
      · have z1 : decide (0 < x.ops.length) = true := by simp; omega
        have hfin := HSTAY.out (fun h => hz h.1)
        have HFIN := Lib.hid hfin
        clear hfin hz
        go_wp2_with fail
        go_ret
        exact ⟨by rw [HFIN.out]; rfl, t2⟩
    · obtain rfl : k = bs.length := by omega
      go_wp2_with fail
      go_ret
      exact ⟨rfl, t1⟩

set_option maxHeartbeats 4000000 in
set_option maxRecDepth 100000 in
theorem refThrough_calls (nm : ByteArray) (kp lf : Bool) (A : Option Addr) (c : Nat) (bs : List Block) (b : Nat) (w : World) (hC : kBlock.C w A bs) (hl : bs.length ≤ 1000) (hld : Leads bs) (hb : b < bs.length) : Calls Try.prog 66 #[.agg #[.string nm, .bool kp, .bool lf, .slice A bs.length c], .int .i64 (b : Int)] w fun e w' => e = .returned (.int .i64 (thr bs b : Int)) ∧ Below w.heap.size w w' := by
  have hlo : bs.length ≤ 9223372036854775807 := by omega
  have b0 := below_alloc' w (.cells #[.string nm, .bool kp, .bool lf, .slice A bs.length c] 33)
  have r0 : Row (w.alloc (.cells #[.string nm, .bool kp, .bool lf, .slice A bs.length c] 33)) w.heap.size 33 [.string nm, .bool kp, .bool lf, .slice A bs.length c] := Row.new w _ _
  have hlt0 := fun n => thrN_lt hld hb n
  have HLT := Lib.hid hlt0
  have HLD := Lib.hid hld
  clear hld hlt0
  go_enter Try.func66, Try.ntmps66
  go_upto_region 1 with fail
  generalize w.alloc (.cells #[.string nm, .bool kp, .bool lf, .slice A bs.length c] 33) = W at *
  have x3 := r0.cell (j := 3) rfl
  have CW := Kd.C_mono b0 hC
  go_wp2_with fail
  go_loopw [5, 1] (fun i v wr => ∃ k : Nat, k ≤ bs.length ∧ i = .int .i64 k ∧ v = .int .i64 (thrN bs k b : Int) ∧ wr = W) (fun i _ _ => bs.length - (intOf i).toNat)
  case atStart => exact ⟨0, Nat.zero_le _, rfl, rfl, rfl⟩
  case round =>
    obtain ⟨k, hk, rfl, rfl, rfl⟩ := hrel
    by_cases hlt : k < bs.length
    · obtain ⟨x, hx⟩ := get_some bs (thrN bs k b) (HLT.out k)
      have hst : thrN bs (k + 1) b = if passB x then x.fin.to.toNat else thrN bs k b := stepT_get hx
      have hto : x.fin.kind = 1 → 0 ≤ x.fin.to := fun h => ((HLD.out x (List.mem_of_getElem? hx)).1 (.inl h)).1
      have hlb := HLT.out k
      obtain ⟨ad, A0, c0, rfl, f0, f1, f2, f3, f4, f5, f6, f7, f8, f9, f10, f11, hwf, l0, m0, g0⟩ := Block_at CW hx
      have hl0 := len_le l0 m0
      have HST := Lib.hid hst
      have HTO := Lib.hid hto
      clear hst hto hx
      generalize hnn : thrN bs k b = n at *
      have HNN := Lib.hid hnn
      clear hnn
      by_cases hz : x.ops.length = 0
      · have z1 : (x.ops.length == 0) = true := by simp [hz]
        have z1' : ((x.ops.length : Int) == 0) = true := by simp [hz]
        have z1'' : decide (x.ops.length = 0) = true := by simp [hz]
        by_cases hk1 : x.fin.kind = 1
        · have z3 : (x.fin.kind == 1) = true := by simp [hk1]
          have hnew : x.fin.to = (thrN bs (k + 1) b : Int) := by
            rw [HST.out, if_pos ⟨hz, hk1⟩]
            have := HTO.out hk1
            omega
          have HNEW := Lib.hid hnew
          clear hnew hz hk1
          go_wp2_with fail
          exact ⟨⟨k + 1, by omega, by go_num, by rw [HNEW.out], by trivial⟩, by simp [intOf]; omega⟩
        · have z3 : (x.fin.kind == 1) = false := by simp [hk1]
          have hnew : n = thrN bs (k + 1) b := by rw [HST.out, if_neg (fun h => hk1 h.2)]
          have HNEW := Lib.hid hnew
          clear hnew hz hk1
          go_wp2_with fail
          exact ⟨⟨k + 1, by omega, by go_num, by rw [← HNEW.out], by trivial⟩, by simp [intOf]; omega⟩
      · have z1 : (x.ops.length == 0) = false := nbeq hz
        have z1' : ((x.ops.length : Int) == 0) = false := ibeq (by omega)
        have z1'' : decide (x.ops.length = 0) = false := decide_eq_false hz
        have hnew : n = thrN bs (k + 1) b := by rw [HST.out, if_neg (fun h => hz h.1)]
        have HNEW := Lib.hid hnew
        clear hnew hz
        go_wp2_with fail
        exact ⟨⟨k + 1, by omega, by go_num, by rw [← HNEW.out], by trivial⟩, by simp [intOf]; omega⟩
    · obtain rfl : k = bs.length := by omega
      go_wp2_with fail
      go_ret
      exact ⟨rfl, b0⟩
end Go.Proofs.Ytokkngfgppikkaa
