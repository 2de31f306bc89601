/- calls.Small, the document's Small. -/
import Derived.Test.YtobhjjbhlnbcpaaCk
namespace Go.Proofs.Ytobhjjbhlnbcpaa
set_option linter.unusedVariables false
set_option linter.unusedSimpArgs false
open Go.RowKit

theorem add_zero12 (ad : Addr) : ad.add (0 * 12) = ad := by simp [Addr.add]
theorem head_at {w : World} {A : Option Addr} {b : Block} (h : kBlock.C w A [b]) : ∃ ad A0 c0, A = some ad ∧ w.cell? ad = some (.slice A0 b.ops.length c0) ∧ w.cell? ⟨ad.block, ad.off + 1, none⟩ = some (.int .i64 b.fin.kind) ∧ w.cell? ⟨ad.block, ad.off + 2, none⟩ = some (.int .i64 b.fin.op) ∧ w.cell? ⟨ad.block, ad.off + 3, none⟩ = some (.int .i64 b.fin.a) ∧ w.cell? ⟨ad.block, ad.off + 4, none⟩ = some (.int .i64 b.fin.b) ∧ w.cell? ⟨ad.block, ad.off + 5, none⟩ = some (.int .i64 b.fin.to) ∧ w.cell? ⟨ad.block, ad.off + 6, none⟩ = some (.int .i64 b.fin.els) ∧ w.cell? ⟨ad.block, ad.off + 7, none⟩ = some (.int .i64 b.fin.ins.op) ∧ w.cell? ⟨ad.block, ad.off + 8, none⟩ = some (.int .i64 b.fin.ins.a) ∧ w.cell? ⟨ad.block, ad.off + 9, none⟩ = some (.int .i64 b.fin.ins.b) ∧ w.cell? ⟨ad.block, ad.off + 10, none⟩ = some (.int .i64 b.fin.ins.c) ∧ w.cell? ⟨ad.block, ad.off + 11, none⟩ = some (.int .i64 b.fin.ins.imm) ∧ b.ops.length ≤ c0 ∧ c0 ≤ maxLen := by
  obtain ⟨ad, A0, c0, e, f0, f1, f2, f3, f4, f5, f6, f7, f8, f9, f10, f11, -, l0, m0, g0⟩ := Block_at h (i := 0) rfl
  rw [add_zero12] at f0 f1 f2 f3 f4 f5 f6 f7 f8 f9 f10 f11
  exact ⟨ad, A0, c0, e, f0, f1, f2, f3, f4, f5, f6, f7, f8, f9, f10, f11, l0, m0⟩

set_option maxHeartbeats 4000000 in
set_option maxRecDepth 100000 in
theorem small_calls (nm : ByteArray) (kp lf : Bool) (A : Option Addr) (c : Nat) (bs : List Block) (w : World) (hC : kBlock.C w A bs) (hl : bs.length ≤ maxLen) (hf : blocksFew bs = true) : Calls Try.prog 41 #[.agg #[.string nm, .bool kp, .bool lf, .slice A bs.length c]] w fun e w' => e = .returned (.bool (smallB bs)) ∧ Below w.heap.size w w' := by
  have hb0 : Below w.heap.size w (w.alloc (.cells #[.string nm, .bool kp, .bool lf, .slice A bs.length c] 28)) := (Below.refl _ _).alloc (Nat.le_refl _) _
  have hC0 := Kd.C_mono hb0 hC
  have HLf : ∀ (W : World), kBlock.C W A bs → Calls Try.prog 37 #[.agg #[.string nm, .bool kp, .bool lf, .slice A bs.length c]] W fun e w' => e = .returned (.bool (leafB bs)) ∧ Below W.heap.size W w' := fun W h => leaf_calls nm kp lf A c bs W h hl hf
  have HL := Lib.hid HLf
  clear HLf hf
  by_cases h1 : bs.length = 1
  · obtain ⟨b, rfl⟩ := List.length_eq_one_iff.1 h1
    clear h1
    cases hlf : leafB [b] with
    | false =>
      have hs : smallB [b] = false := by unfold smallB; simp [hlf]
      have HS := Lib.hid hs
      have HF := Lib.hid hlf
      clear hs hlf hl
      have HC0 := Lib.hid hC0
      clear hC0
      go_enter Try.func41, Try.ntmps41
      go_wp2_with fail
      refine (HL.out _ HC0.out).mono ?_
      rw [HF.out]
      rintro e w1 ⟨rfl, hb1⟩
      go_wp2_with fail
      go_ret
      exact ⟨ret_bool HS.out.symm, hb0.trans (hb1.mono (by simp))⟩
    | true =>
      have hs : smallB [b] = (decide (b.ops.length ≤ 8) && b.fin.kind == 3 && b.fin.ins.op == 21) := by unfold smallB; simp [hlf]
      have HS := Lib.hid hs
      have HF := Lib.hid hlf
      clear hs hlf hl
      have HC0 := Lib.hid hC0
      clear hC0
      go_enter Try.func41, Try.ntmps41
      go_wp2_with fail
      refine (HL.out _ HC0.out).mono ?_
      rw [HF.out]
      rintro e w1 ⟨rfl, hb1⟩
      obtain ⟨ad, A0, c0, rfl, f0, f1, f2, f3, f4, f5, f6, f7, f8, f9, f10, f11, l0, m0⟩ := head_at (Kd.C_mono (hb0.trans (hb1.mono (by simp))) hC)
      have hx : w1.cell? ⟨w.heap.size, 3, none⟩ = some (.slice (some ad) 1 c) := (hb1.cell (by simp)).trans (by simp)
      have hl0 := len_le l0 m0
      by_cases q1 : b.ops.length ≤ 8
      · by_cases q2 : b.fin.kind = 3
        · have p1 : decide ((b.ops.length : Int) ≤ 8) = true := by simp; omega
          have hs2 : smallB [b] = (b.fin.ins.op == 21) := by rw [HS.out]; simp [q1, q2]
          have HS2 := Lib.hid hs2
          rw [q2] at f1
          clear q2 hs2 q1
          go_wp2_with fail
          go_ret
          exact ⟨ret_bool HS2.out.symm, (hb0.trans (hb1.mono (by simp))).alloc (by have := hb1.size; simp at this; omega) _⟩
        · have p1 : decide ((b.ops.length : Int) ≤ 8) = true := by simp; omega
          have p2 : (b.fin.kind == 3) = false := by simpa using q2
          have hs2 : smallB [b] = false := by rw [HS.out, p2]; simp
          have HS2 := Lib.hid hs2
          clear q2 hs2 q1
          go_wp2_with fail
          go_ret
          exact ⟨ret_bool HS2.out.symm, (hb0.trans (hb1.mono (by simp))).alloc (by have := hb1.size; simp at this; omega) _⟩
      · have p1 : decide ((b.ops.length : Int) ≤ 8) = false := by simp; omega
        have hs2 : smallB [b] = false := by rw [HS.out]; simp [q1]
        have HS2 := Lib.hid hs2
        clear hs2 q1
        go_wp2_with fail
        go_ret
        exact ⟨ret_bool HS2.out.symm, (hb0.trans (hb1.mono (by simp))).alloc (by have := hb1.size; simp at this; omega) _⟩
  · have hs := smallB_not h1
    have h2 : ((bs.length : Int) != 1) = true := by rw [bne_iff_ne]; omega
    have h3 : (bs.length != 1) = true := by rw [bne_iff_ne]; omega
    have HS := Lib.hid hs
    clear hs h1
    have hle : bs.length ≤ 9223372036854775807 := hl
    go_enter Try.func41, Try.ntmps41
    go_wp2_with fail
    go_ret
    exact ⟨ret_bool HS.out.symm, hb0⟩
set_option maxHeartbeats 4000000 in
set_option maxRecDepth 100000 in
theorem refSmall_calls (nm : ByteArray) (kp lf : Bool) (A : Option Addr) (c : Nat) (bs : List Block) (n : Nat) (hn : n ≤ 100000) (w : World) (hC : kBlock.C w A bs) (hl : bs.length ≤ maxLen) (hof : ofList bs = refOf bs n) : Calls Try.prog 22 #[.agg #[.string nm, .bool kp, .bool lf, .slice A bs.length c], .int .i64 n] w fun e w' => e = .returned (.bool (smallB bs)) ∧ Below w.heap.size w w' := by
  have hb0 : Below w.heap.size w (w.alloc (.cells #[.string nm, .bool kp, .bool lf, .slice A bs.length c] 28)) := (Below.refl _ _).alloc (Nat.le_refl _) _
  have hC0 := Kd.C_mono hb0 hC
  have HLf : ∀ (W : World), kBlock.C W A bs → Calls Try.prog 14 #[.agg #[.string nm, .bool kp, .bool lf, .slice A bs.length c], .int .i64 n] W fun e w' => ∃ A' c', e = .returned (.slice A' (ofList bs).length c') ∧ Below W.heap.size W w' := fun W h => (refOf_calls nm kp lf A c bs n hn W h hl).mono (by
    rintro e w' ⟨v, rfl, ho, hb⟩
    obtain ⟨A1, c1, rfl, l1, m1, hC1⟩ := ho.read
    exact ⟨A1, c1, by rw [hof], hb⟩)
  have HL := Lib.hid HLf
  clear HLf hof
  by_cases h1 : bs.length = 1
  · obtain ⟨b, rfl⟩ := List.length_eq_one_iff.1 h1
    clear h1
    cases hlf : leafB [b] with
    | false =>
      have hs : smallB [b] = false := by unfold smallB; simp [hlf]
      have hz : ((ofList [b]).length == 0) = false := by unfold leafB at hlf; simpa using hlf
      have HS := Lib.hid hs
      clear hs hlf hl
      have HC0 := Lib.hid hC0
      clear hC0
      generalize hN : (ofList [b]).length = N at *
      clear hN
      have HZ := Lib.hid hz
      have hz2 : ((N : Int) == 0) = false := by simpa using hz
      have hz3 : decide (N = 0) = false := by simpa using hz
      go_enter Try.func22, Try.ntmps22
      go_wp2_with fail
      refine (HL.out _ HC0.out).mono ?_
      rintro e w1 ⟨A', c', rfl, hb1⟩
      go_wp2_with fail
      go_ret
      exact ⟨ret_bool HS.out.symm, hb0.trans (hb1.mono (by simp))⟩
    | true =>
      have hs : smallB [b] = (decide (b.ops.length ≤ 8) && b.fin.kind == 3 && b.fin.ins.op == 21) := by unfold smallB; simp [hlf]
      have hz : (ofList [b]).length = 0 := by unfold leafB at hlf; simpa using hlf
      rw [hz] at HL
      have HS := Lib.hid hs
      clear hs hlf hl hz
      have HC0 := Lib.hid hC0
      clear hC0
      go_enter Try.func22, Try.ntmps22
      go_wp2_with fail
      refine (HL.out _ HC0.out).mono ?_
      rintro e w1 ⟨A', c', rfl, hb1⟩
      obtain ⟨ad, A0, c0, rfl, f0, f1, f2, f3, f4, f5, f6, f7, f8, f9, f10, f11, l0, m0⟩ := head_at (Kd.C_mono (hb0.trans (hb1.mono (by simp))) hC)
      have hx : w1.cell? ⟨w.heap.size, 3, none⟩ = some (.slice (some ad) 1 c) := (hb1.cell (by simp)).trans (by simp)
      have hl0 := len_le l0 m0
      have hb01 := hb0.trans (hb1.mono (by simp))
      by_cases q1 : b.ops.length ≤ 8
      · by_cases q2 : b.fin.kind = 3
        · have p1 : decide ((b.ops.length : Int) ≤ 8) = true := by simp; omega
          have hs2 : smallB [b] = (b.fin.ins.op == 21) := by rw [HS.out]; simp [q1, q2]
          have HS2 := Lib.hid hs2
          rw [q2] at f1
          clear q2 hs2 q1
          go_wp2_with fail
          go_ret
          exact ⟨ret_bool HS2.out.symm, hb01⟩
        · have p1 : decide ((b.ops.length : Int) ≤ 8) = true := by simp; omega
          have p2 : (b.fin.kind == 3) = false := by simpa using q2
          have hs2 : smallB [b] = false := by rw [HS.out, p2]; simp
          have HS2 := Lib.hid hs2
          clear q2 hs2 q1
          go_wp2_with fail
          go_ret
          exact ⟨ret_bool HS2.out.symm, hb01⟩
      · have p1 : decide ((b.ops.length : Int) ≤ 8) = false := by simp; omega
        have hs2 : smallB [b] = false := by rw [HS.out]; simp [q1]
        have HS2 := Lib.hid hs2
        clear hs2 q1
        go_wp2_with fail
        go_ret
        exact ⟨ret_bool HS2.out.symm, hb01⟩
  · have hs := smallB_not h1
    have h2 : ((bs.length : Int) == 1) = false := by rw [beq_eq_false_iff_ne]; omega
    have h3 : (bs.length == 1) = false := by rw [beq_eq_false_iff_ne]; omega
    have HS := Lib.hid hs
    clear hs h1
    have hle : bs.length ≤ 9223372036854775807 := hl
    go_enter Try.func22, Try.ntmps22
    go_wp2_with fail
    go_ret
    exact ⟨ret_bool HS.out.symm, hb0⟩
end Go.Proofs.Ytobhjjbhlnbcpaa
