/- The reference's predicates on graphs: few, right. -/
import Derived.Test.YtobhjjbhlnbcpaaCc
namespace Go.Proofs.Ytobhjjbhlnbcpaa
set_option linter.unusedVariables false
set_option linter.unusedSimpArgs false
open Go.RowKit

theorem blocksFew_of {bs : List Block} {k : Nat} (h : ∀ b ∈ bs.take k, b.ops.length ≤ 300) (hk : k = bs.length ∨ k = 300) : blocksFew bs = decide (bs.length ≤ 200) := by
  unfold blocksFew
  have : (bs.take 300).all (fun b => decide (b.ops.length ≤ 300)) = true := by
    rw [List.all_eq_true]
    intro b hb
    rw [decide_eq_true_eq]
    rcases hk with hk | hk
    · subst hk
      rw [List.take_length] at h
      exact h b (List.mem_of_mem_take hb)
    · subst hk; exact h b hb
  rw [this, Bool.true_and]
theorem blocksFew_not {bs : List Block} {k : Nat} {b : Block} (hb : bs[k]? = some b) (hk : k < 300) (h : 300 < b.ops.length) : blocksFew bs = false := by
  unfold blocksFew
  rw [Bool.and_eq_false_iff]
  left
  rw [List.all_eq_false]
  refine ⟨b, ?_, by simp; omega⟩
  rw [List.mem_iff_getElem?]
  exact ⟨k, by rw [List.getElem?_take, if_pos hk, hb]⟩

set_option maxHeartbeats 4000000 in
set_option maxRecDepth 100000 in
theorem few_calls (nm : ByteArray) (kp lf : Bool) (A : Option Addr) (c : Nat) (bs : List Block) (w : World) (hC : kBlock.C w A bs) (hl : bs.length ≤ maxLen) : Calls Try.prog 27 #[.agg #[.string nm, .bool kp, .bool lf, .slice A bs.length c]] w fun e w' => e = .returned (.bool (blocksFew bs)) ∧ Below w.heap.size w w' := by
  unfold maxLen at hl
  go_enter Try.func27, Try.ntmps27
  go_wp2
  have hb0 : Below w.heap.size w (w.alloc (.cells #[.string nm, .bool kp, .bool lf, .slice A bs.length c] 28)) := (Below.refl _ _).alloc (Nat.le_refl _) _
  replace hC := Kd.C_mono hb0 hC
  go_loop [3] (fun i => ∃ k : Nat, k ≤ bs.length ∧ k ≤ 300 ∧ (∀ b ∈ bs.take k, b.ops.length ≤ 300) ∧ i = .int .i64 k) (fun i => bs.length - (intOf i).toNat)
  case atStart => exact ⟨0, Nat.zero_le _, by omega, by simp, rfl⟩
  case round =>
    obtain ⟨k, hk, hk3, hall, rfl⟩ := hrel
    by_cases hlt : k < bs.length
    · by_cases h3 : k < 300
      · obtain ⟨b, hb⟩ := get_some bs k hlt
        have hn := @blocksFew_not bs k b hb h3
        have htk := take_snoc hb
        obtain ⟨ad, A0, c0, rfl, f0, f1, f2, f3, f4, f5, f6, f7, f8, f9, f10, f11, -, l0, m0, g0⟩ := Block_at hC hb
        have HB := Lib.hid hb
        have HT := Lib.hid htk
        have HN := Lib.hid hn
        clear hb htk hn
        go_wp2
        · go_ret
          exact ⟨by rw [HN.out (by omega)]; rfl, hb0⟩
        · go_round
          case rel => exact ⟨k + 1, by omega, by omega, by rw [HT.out]; intro b' hb'; rw [List.mem_append] at hb'; rcases hb' with hb' | hb'; exact hall b' hb'; simp at hb'; subst hb'; omega, by go_num⟩
          case measure => simp [intOf]; omega
      · have : k = 300 := by omega
        have hf := blocksFew_of hall (.inr this)
        have HF := Lib.hid hf
        clear hf this
        go_wp2
        go_ret
        exact ⟨by rw [HF.out]; simp; omega, hb0⟩
    · have : k = bs.length := by omega
      have hf := blocksFew_of hall (.inl this)
      have HF := Lib.hid hf
      clear hf this
      go_wp2
      go_ret
      exact ⟨by rw [HF.out]; simp; omega, hb0⟩
end Go.Proofs.Ytobhjjbhlnbcpaa
