/- The document's Calls: does a graph call a number? -/
import Derived.Test.YtobhjjbhlnbcpaaPf
import Derived.Test.YtobhjjbhlnbcpaaCd
namespace Go.Proofs.Ytobhjjbhlnbcpaa
set_option linter.unusedVariables false
set_option linter.unusedSimpArgs false
open Go.RowKit

theorem callsB_op {bs : List Block} {k j : Nat} {b : Block} {o : Op} (hb : bs[k]? = some b) (ho : b.ops[j]? = some o) (h1 : o.rel = true) (h2 : o.kind = 1) : callsB bs o.to = true := by
  unfold callsB blocksCalls
  rw [decide_eq_true_eq, List.mem_flatMap]
  refine ⟨b, List.mem_of_getElem? hb, ?_⟩
  unfold Block.calls opsCalls
  rw [List.mem_append, List.mem_flatMap]
  exact .inl ⟨o, List.mem_of_getElem? ho, by unfold Op.calls; rw [if_pos ⟨h1, h2⟩]; simp⟩
theorem callsB_fin {bs : List Block} {k : Nat} {b : Block} (hb : bs[k]? = some b) (h : b.fin.kind = 4) : callsB bs b.fin.to = true := by
  unfold callsB blocksCalls
  rw [decide_eq_true_eq, List.mem_flatMap]
  refine ⟨b, List.mem_of_getElem? hb, ?_⟩
  unfold Block.calls Term.calls
  rw [List.mem_append, if_pos h]
  exact .inr (by simp)
theorem not_mem_snoc {xs ys : List Int} {y : Int} (h : y ∉ xs) (h2 : y ∉ ys) : y ∉ xs ++ ys := by
  rw [List.mem_append]; exact fun e => e.elim h h2

set_option maxHeartbeats 4000000 in
set_option maxRecDepth 100000 in
theorem refCalls_calls (nm : ByteArray) (kp lf : Bool) (A : Option Addr) (c : Nat) (bs : List Block) (y : Int) (w : World) (hC : kBlock.C w A bs) (hl : bs.length ≤ maxLen) : Calls Try.prog 23 #[.agg #[.string nm, .bool kp, .bool lf, .slice A bs.length c], .int .i64 y] w fun e w' => e = .returned (.bool (callsB bs y)) ∧ Below w.heap.size w w' := by
  unfold maxLen at hl
  go_enter Try.func23, Try.ntmps23
  go_wp2_with fail
  have hb0 : Below w.heap.size w (w.alloc (.cells #[.string nm, .bool kp, .bool lf, .slice A bs.length c] 28)) := (Below.refl _ _).alloc (Nat.le_refl _) _
  replace hC := Kd.C_mono hb0 hC
  have hbx : (w.alloc (.cells #[.string nm, .bool kp, .bool lf, .slice A bs.length c] 28)).cell? ⟨w.heap.size, 3, none⟩ = some (.slice A bs.length c) := by simp
  generalize hW : w.alloc (.cells #[.string nm, .bool kp, .bool lf, .slice A bs.length c] 28) = W at *
  clear hW
  go_loopw [5] (fun i wr => ∃ k : Nat, k ≤ bs.length ∧ i = .int .i64 k ∧ y ∉ blocksCalls (bs.take k) ∧ Below W.heap.size W wr) (fun i _ => bs.length - (intOf i).toNat)
  case atStart => exact ⟨0, Nat.zero_le _, rfl, by simp [blocksCalls], Below.refl _ _⟩
  case round =>
    obtain ⟨k, hk, rfl, hno, hbr⟩ := hrel
    rename World => wo
    have hxr : wo.cell? ⟨w.heap.size, 3, none⟩ = some (.slice A bs.length c) := (hbr.cell (World.lt_of_cell hbx)).trans hbx
    by_cases hlt : k < bs.length
    · obtain ⟨b, hb⟩ := get_some bs k hlt
      have hsucc := blocksCalls_succ hb
      have hopc := fun j o => @callsB_op bs k j b o hb
      have hfinc := callsB_fin hb
      obtain ⟨ad, A0, c0, rfl, f0, f1, f2, f3, f4, f5, f6, f7, f8, f9, f10, f11, -, l0, m0, g0⟩ := Block_at hC hb
      have hl0 := len_le l0 m0
      have HS := Lib.hid hsucc
      have HO := Lib.hid hopc
      have HN := Lib.hid hfinc
      have HB := Lib.hid hno
      clear hb hsucc hopc hfinc hno
      go_wp2_with fail
      go_loopw [6] (fun i wr => ∃ j : Nat, j ≤ b.ops.length ∧ i = .int .i64 j ∧ y ∉ opsCalls (b.ops.take j) ∧ Below W.heap.size W wr) (fun i _ => b.ops.length - (intOf i).toNat)
      case atStart => exact ⟨0, Nat.zero_le _, rfl, by simp [opsCalls], hbr⟩
      case round =>
        obtain ⟨j, hj, rfl, hnj, hb4⟩ := hrel
        have hxr2 : wr.cell? ⟨w.heap.size, 3, none⟩ = some (.slice (some ad) bs.length c) := (hb4.cell (World.lt_of_cell hbx)).trans hbx
        have q0 := (hb4.cell (World.lt_of_cell f0)).trans f0
        have q1 := (hb4.cell (World.lt_of_cell f1)).trans f1
        have q5 := (hb4.cell (World.lt_of_cell f5)).trans f5
        have HJ2 := Lib.hid hnj
        clear hnj
        by_cases hltj : j < b.ops.length
        · obtain ⟨o, hoo⟩ := get_some b.ops j hltj
          have hsj := opsCalls_succ hoo
          have hop1 := HO.out j o hoo
          obtain ⟨ad2, rfl, e0, e1, e2, e3, e4, e5, e6, e7, e8, -⟩ := Op_at (Kd.C_mono hb4 g0) hoo
          have HJ := Lib.hid hsj
          have HP := Lib.hid hop1
          clear hoo hsj hop1
          cases hrel : o.rel with
          | false =>
            rw [hrel] at e5
            have HC : Hid (o.calls = []) := Lib.hid (by unfold Op.calls; rw [if_neg (by simp [hrel])])
            clear hrel
            go_wp2_with fail
            exact ⟨⟨j + 1, by omega, by go_num, by rw [HJ.out, HC.out, List.append_nil]; exact HJ2.out, hb4.alloc hb4.size _⟩, by simp [intOf]; omega⟩
          | true =>
            rw [hrel] at e5
            by_cases hk1 : o.kind = 1
            · by_cases hty : o.to = y
              · have HR : Hid (callsB bs y = true) := Lib.hid (by rw [← hty]; exact HP.out hrel hk1)
                rw [hk1] at e6
                rw [hty] at e7
                clear hrel hk1 hty
                go_wp2_with fail
                go_ret
                exact ⟨ret_bool HR.out.symm, hb0.trans ((hb4.alloc hb4.size _).mono hb0.size)⟩
              · have HC : Hid (o.calls = [o.to]) := Lib.hid (by unfold Op.calls; rw [if_pos ⟨hrel, hk1⟩])
                have hty2 : (o.to == y) = false := by simpa using hty
                have HT := Lib.hid hty
                rw [hk1] at e6
                clear hrel hk1 hty
                go_wp2_with fail
                exact ⟨⟨j + 1, by omega, by go_num, by rw [HJ.out, HC.out]; exact not_mem_snoc HJ2.out (by simp; exact fun e => HT.out e.symm), hb4.alloc hb4.size _⟩, by simp [intOf]; omega⟩
            · have HC : Hid (o.calls = []) := Lib.hid (by unfold Op.calls; rw [if_neg (fun h => hk1 h.2)])
              have hk2 : (o.kind == 1) = false := by simpa using hk1
              clear hrel hk1
              go_wp2_with fail
              exact ⟨⟨j + 1, by omega, by go_num, by rw [HJ.out, HC.out, List.append_nil]; exact HJ2.out, hb4.alloc hb4.size _⟩, by simp [intOf]; omega⟩
        · obtain rfl : j = b.ops.length := by omega
          have hnj := HJ2.out
          rw [List.take_length] at hnj
          have HK := Lib.hid hnj
          clear hnj
          by_cases hk4 : b.fin.kind = 4
          · by_cases hty : b.fin.to = y
            · have HR : Hid (callsB bs y = true) := Lib.hid (by rw [← hty]; exact HN.out hk4)
              rw [hk4] at q1
              rw [hty] at q5
              clear hk4 hty
              go_wp2_with fail
              go_ret
              exact ⟨ret_bool HR.out.symm, hb0.trans (hb4.mono hb0.size)⟩
            · have HC : Hid (b.fin.calls = [b.fin.to]) := Lib.hid (by unfold Term.calls; rw [if_pos hk4])
              have hty2 : (b.fin.to == y) = false := by simpa using hty
              have HT := Lib.hid hty
              rw [hk4] at q1
              clear hk4 hty
              go_wp2_with fail
              exact ⟨⟨k + 1, by omega, by go_num, by rw [HS.out, HC.out]; exact not_mem_snoc HB.out (not_mem_snoc HK.out (by simp; exact fun e => HT.out e.symm)), hb4⟩, by simp [intOf]; omega⟩
          · have HC : Hid (b.fin.calls = []) := Lib.hid (by unfold Term.calls; rw [if_neg hk4])
            have hk5 : (b.fin.kind == 4) = false := by simpa using hk4
            clear hk4
            go_wp2_with fail
            exact ⟨⟨k + 1, by omega, by go_num, by rw [HS.out, HC.out, List.append_nil]; exact not_mem_snoc HB.out HK.out, hb4⟩, by simp [intOf]; omega⟩
    · obtain rfl : k = bs.length := by omega
      rw [List.take_length] at hno
      have HR : Hid (callsB bs y = false) := Lib.hid (by unfold callsB; simpa using hno)
      clear hno
      go_wp2_with fail
      go_ret
      exact ⟨ret_bool HR.out.symm, hb0.trans (hbr.mono hb0.size)⟩
end Go.Proofs.Ytobhjjbhlnbcpaa
