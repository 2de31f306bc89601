/- The document's weights, and whether a block leads to another one. Printed by genQc.py of this repository. -/
import Derived.Test.YthnkikdbllkmkaaYc
import Derived.Test.YthnkikdbllkmkaaQb
namespace Go.Proofs.Ythnkikdbllkmkaa
set_option linter.unusedVariables false
set_option linter.unusedSimpArgs false
open Go.RowKit
attribute [local go_sem] run_store_float

theorem rclean_calls (x : Nat) (w : World) : Calls Try.prog 40 #[.float .f64 x] w fun e w' => e = .returned (.float .f64 (cleanW x)) ∧ w' = w := by
  by_cases h1 : Ieee.double.order x 0 = some .gt
  · have z1 : (FloatKind.f64.format.order x 0 == some .gt) = true := by rw [show FloatKind.f64.format.order x 0 = some .gt from h1]; rfl
    by_cases h2 : Ieee.double.order x fmax = some .gt
    · have z2 : (FloatKind.f64.format.order x 4831355200913801216 == some .gt) = true := by rw [show FloatKind.f64.format.order x 4831355200913801216 = some .gt from h2]; rfl
      have HC := Lib.hid (cleanW_top h1 h2)
      clear h1 h2
      go_enter Try.func40, Try.ntmps40
      go_wp2_with fail
      go_ret
      exact ⟨by rw [HC.out]; rfl, rfl⟩
    · have z2 : (FloatKind.f64.format.order x 4831355200913801216 == some .gt) = false := by
        rw [beq_eq_false_iff_ne]
        exact h2
      have HC := Lib.hid (cleanW_self h1 h2)
      clear h1 h2
      go_enter Try.func40, Try.ntmps40
      go_wp2_with fail
      go_ret
      exact ⟨by rw [HC.out]; rfl, rfl⟩
  · have z1 : (FloatKind.f64.format.order x 0 == some .gt) = false := by
      rw [beq_eq_false_iff_ne]
      exact h1
    have HC := Lib.hid (cleanW_no h1)
    clear h1
    go_enter Try.func40, Try.ntmps40
    go_wp2_with fail
    go_ret
    exact ⟨by rw [HC.out]; rfl, rfl⟩

set_option maxHeartbeats 4000000 in
set_option maxRecDepth 100000 in
theorem rof_calls (A : Option Addr) (c : Nat) (l : List Edge) (nm : ByteArray) (f t : Int) (w : World) (hC : kEdge.C w A l) (hw : ∀ e ∈ l, e.wf) (hl : l.length ≤ maxLen) : Calls Try.prog 22 #[.slice A l.length c, .string nm, .int .i64 f, .int .i64 t] w fun e w' => e = .returned (.float .f64 (sumW (edgeIs nm f t) l)) ∧ w' = w := by
  have hlo : l.length ≤ 9223372036854775807 := hl
  have HW := Lib.hid hw
  clear hw
  go_enter Try.func22, Try.ntmps22
  go_wp2_with fail
  go_loopw [9, 10] (fun s i wr => ∃ k : Nat, k ≤ l.length ∧ i = .int .i64 (k : Int) ∧ s = .float .f64 (sumW (edgeIs nm f t) (l.take k)) ∧ wr = w) (fun _ i _ => l.length - (intOf i).toNat)
  case atStart => exact ⟨0, Nat.zero_le _, rfl, rfl, rfl⟩
  case round =>
    obtain ⟨k, hk, rfl, rfl, rfl⟩ := hrel
    by_cases hlt : k < l.length
    · obtain ⟨e, he⟩ := get_some l k hlt
      obtain ⟨ad, rfl, f0, f1, f2, f3, hew⟩ := Edge_at hC he
      have hsn := sumW_take (p := edgeIs nm f t) he
      have hsp : Fl.posW (sumW (edgeIs nm f t) (l.take k)) := sumW_pos (fun x hx => HW.out x (List.mem_of_mem_take hx))
      have hcp := cleanW_pos (wf_f64 hew.2.2.2)
      generalize sumW (edgeIs nm f t) (l.take k) = s at *
      have hop : ∀ t w, (binOp .add t (.float .f64 s) (.float .f64 (cleanW e.w))).run Try.prog w = .ok (.float .f64 (Fl.addW s (cleanW e.w))) w := fun t w => run_float_arith w .add t .f64 _ _ _ (Fl.add_eq hsp hcp)
      have HSN := Lib.hid hsn
      clear hsn he hsp hcp hew
      rcases Bool.eq_false_or_eq_true (e.func.toList == nm.toList) with h0 | h0
      · rcases Bool.eq_false_or_eq_true (e.src == f) with h1 | h1
        · rcases Bool.eq_false_or_eq_true (e.to == t) with h2 | h2
          · go_wp2_with fail
            refine (rclean_calls e.w _).mono ?_
            rintro q w1 ⟨rfl, rfl⟩
            go_wp2_with fail
            have hst : sumStep (edgeIs nm f t) s e = Fl.addW s (cleanW e.w) := by unfold sumStep; rw [if_pos (by simp [edgeIs, h0, h1, h2])]
            exact ⟨⟨k + 1, by omega, by go_num, by rw [HSN.out, hst], by trivial⟩, by simp [intOf]; omega⟩
          · go_wp2_with fail
            have hst : sumStep (edgeIs nm f t) s e = s := by unfold sumStep; rw [if_neg (by simp [edgeIs, h0, h1, h2])]
            exact ⟨⟨k + 1, by omega, by go_num, by rw [HSN.out, hst], by trivial⟩, by simp [intOf]; omega⟩
        · go_wp2_with fail
          have hst : sumStep (edgeIs nm f t) s e = s := by unfold sumStep; rw [if_neg (by simp [edgeIs, h0, h1])]
          exact ⟨⟨k + 1, by omega, by go_num, by rw [HSN.out, hst], by trivial⟩, by simp [intOf]; omega⟩
      · go_wp2_with fail
        have hst : sumStep (edgeIs nm f t) s e = s := by unfold sumStep; rw [if_neg (by simp [edgeIs, h0])]
        exact ⟨⟨k + 1, by omega, by go_num, by rw [HSN.out, hst], by trivial⟩, by simp [intOf]; omega⟩
    · obtain rfl : k = l.length := by omega
      rw [List.take_length]
      go_wp2_with fail
      go_ret
      exact ⟨rfl, rfl⟩

set_option maxHeartbeats 4000000 in
set_option maxRecDepth 100000 in
theorem rtotal_calls (A : Option Addr) (c : Nat) (l : List Edge) (nm : ByteArray) (w : World) (hC : kEdge.C w A l) (hw : ∀ e ∈ l, e.wf) (hl : l.length ≤ maxLen) : Calls Try.prog 27 #[.slice A l.length c, .string nm] w fun e w' => e = .returned (.float .f64 (sumW (fun e => e.func.toList == nm.toList) l)) ∧ w' = w := by
  have hlo : l.length ≤ 9223372036854775807 := hl
  have HW := Lib.hid hw
  clear hw
  go_enter Try.func27, Try.ntmps27
  go_wp2_with fail
  go_loopw [5, 6] (fun s i wr => ∃ k : Nat, k ≤ l.length ∧ i = .int .i64 (k : Int) ∧ s = .float .f64 (sumW (fun e => e.func.toList == nm.toList) (l.take k)) ∧ wr = w) (fun _ i _ => l.length - (intOf i).toNat)
  case atStart => exact ⟨0, Nat.zero_le _, rfl, rfl, rfl⟩
  case round =>
    obtain ⟨k, hk, rfl, rfl, rfl⟩ := hrel
    by_cases hlt : k < l.length
    · obtain ⟨e, he⟩ := get_some l k hlt
      obtain ⟨ad, rfl, f0, f1, f2, f3, hew⟩ := Edge_at hC he
      have hsn := sumW_take (p := fun e => e.func.toList == nm.toList) he
      have hsp : Fl.posW (sumW (fun e => e.func.toList == nm.toList) (l.take k)) := sumW_pos (fun x hx => HW.out x (List.mem_of_mem_take hx))
      have hcp := cleanW_pos (wf_f64 hew.2.2.2)
      generalize sumW (fun e => e.func.toList == nm.toList) (l.take k) = s at *
      have hop : ∀ t w, (binOp .add t (.float .f64 s) (.float .f64 (cleanW e.w))).run Try.prog w = .ok (.float .f64 (Fl.addW s (cleanW e.w))) w := fun t w => run_float_arith w .add t .f64 _ _ _ (Fl.add_eq hsp hcp)
      have HSN := Lib.hid hsn
      clear hsn he hsp hcp hew
      rcases Bool.eq_false_or_eq_true (e.func.toList == nm.toList) with h0 | h0
      · go_wp2_with fail
        refine (rclean_calls e.w _).mono ?_
        rintro q w1 ⟨rfl, rfl⟩
        go_wp2_with fail
        have hst : sumStep (fun e => e.func.toList == nm.toList) s e = Fl.addW s (cleanW e.w) := by unfold sumStep; rw [if_pos (by simp [edgeIs, h0])]
        exact ⟨⟨k + 1, by omega, by go_num, by rw [HSN.out, hst], by trivial⟩, by simp [intOf]; omega⟩
      · go_wp2_with fail
        have hst : sumStep (fun e => e.func.toList == nm.toList) s e = s := by unfold sumStep; rw [if_neg (by simp [edgeIs, h0])]
        exact ⟨⟨k + 1, by omega, by go_num, by rw [HSN.out, hst], by trivial⟩, by simp [intOf]; omega⟩
    · obtain rfl : k = l.length := by omega
      rw [List.take_length]
      go_wp2_with fail
      go_ret
      exact ⟨rfl, rfl⟩
end Go.Proofs.Ythnkikdbllkmkaa
