/- The document's Right; layer 20's all; equality of what is known. -/
import Derived.Test.YtokkngfgppikkabKf
import Derived.Test.YtokkngfgppikkabKg
import Derived.Test.YtokkngfgppikkabGh
import Derived.Deep.LoopGhost
namespace Go.Proofs.Ytokkngfgppikkab
set_option linter.unusedVariables false
set_option linter.unusedSimpArgs false
open Go.RowKit

theorem run_eql_known (w : World) {a b : Known} (ha : a.wf) (hb : b.wf) : (binOp .eql 77 (.agg (knownCells a).toArray) (.agg (knownCells b).toArray)).run Try.prog w = .ok (.bool (decide (a = b))) w := by
  rw [run_eql_struct, eqKnown w ha hb]
  rfl
theorem run_neq_known (w : World) {a b : Known} (ha : a.wf) (hb : b.wf) : (binOp .neq 77 (.agg (knownCells a).toArray) (.agg (knownCells b).toArray)).run Try.prog w = .ok (.bool (!decide (a = b))) w := by
  rw [run_neq_struct, eqKnown w ha hb]
  rfl
set_option maxRecDepth 100000 in
theorem eqKnown_zero (w : World) {k : Known} (hk : k.wf) : (Op.equalIn 10000 77 (.agg (knownCells k).toArray) (.agg #[.bool false, .bool false, .bool false, .bool false, .bool false, .bool false, .bool false, .bool false, .bool false, .bool false, .bool false, .bool false, .bool false, .bool false, .bool false, .bool false, .bool false, .int .u32 0, .int .u32 0, .int .u32 0, .int .u32 0, .int .u32 0, .int .u32 0, .int .u32 0, .int .u32 0, .int .u32 0, .int .u32 0, .int .u32 0, .int .u32 0, .int .u32 0, .int .u32 0, .int .u32 0, .int .u32 0])).run Try.prog w = .ok (decide (k = Known.zero)) w := by
  have e : (knownCells Known.zero).toArray = #[.bool false, .bool false, .bool false, .bool false, .bool false, .bool false, .bool false, .bool false, .bool false, .bool false, .bool false, .bool false, .bool false, .bool false, .bool false, .bool false, .bool false, .int .u32 0, .int .u32 0, .int .u32 0, .int .u32 0, .int .u32 0, .int .u32 0, .int .u32 0, .int .u32 0, .int .u32 0, .int .u32 0, .int .u32 0, .int .u32 0, .int .u32 0, .int .u32 0, .int .u32 0, .int .u32 0] := rfl
  rw [← e]
  exact eqKnown w hk Known.zero_wf
attribute [local go_sem high] eqKnown eqKnown_zero
set_option maxHeartbeats 4000000 in
set_option maxRecDepth 100000 in
theorem all_calls (k : Known) (A : Option Addr) (c : Nat) (l : List Int) (w : World) (hk : k.wf) (hC : CellsI w A l) (h : ∀ x ∈ l, 1 ≤ x ∧ x ≤ 15) (hl : l.length ≤ 1000) : Calls Try.prog 85 #[.agg (knownCells k).toArray, .slice A l.length c] w fun e w' => e = .returned (.bool (allK k l)) ∧ Below w.heap.size w w' := by
  have b0 := below_alloc' w (.cells (knownCells k).toArray 77)
  have r0 : Row (w.alloc (.cells (knownCells k).toArray 77)) w.heap.size 77 (knownCells k) := Row.new w _ _
  have hC1 := hC.below b0
  have HC := Lib.hid hC1
  have H := Lib.hid h
  have hll : l.length ≤ 9223372036854775807 := by omega
  clear h hC hC1
  go_enter Try.func85, Try.ntmps85
  go_upto_region 1 with fail
  generalize w.alloc (.cells (knownCells k).toArray 77) = W at *
  go_wp2_with fail
  go_loopw [9] (fun v wr => ∃ j : Nat, j ≤ l.length ∧ v = .int .i64 j ∧ (∀ x ∈ l.take j, k.isAt x.toNat = true) ∧ wr = W) (fun v _ => l.length - (intOf v).toNat)
  case atStart => exact ⟨0, Nat.zero_le _, rfl, fun x hx => (by simp at hx), rfl⟩
  case round =>
    obtain ⟨j, hj, rfl, hall, rfl⟩ := hrel
    have HALL := Lib.hid hall
    clear hall
    by_cases hlt : j < l.length
    · obtain ⟨x, hx⟩ := get_some l j hlt
      obtain ⟨hx0, hx1⟩ := H.out x (List.mem_of_getElem? hx)
      have hts := take_snoc hx
      have hmem := List.mem_of_getElem? hx
      obtain ⟨ad, rfl, c0⟩ := HC.out j x hx
      obtain ⟨n, rfl⟩ := Int.eq_ofNat_of_zero_le (show 0 ≤ x by omega)
      have hn : n < 16 := by omega
      have c1 := r0.kis hk hn
      generalize hi : k.isAt n = i at *
      have HI := Lib.hid hi
      have HTS := Lib.hid hts
      have HM := Lib.hid hmem
      clear hi hx hts hmem
      cases i with
      | true =>
        go_wp2_with fail
        exact ⟨⟨j + 1, by omega, by go_num, forall_snoc HALL.out HTS.out (by simpa using HI.out), by first | rfl | trivial⟩, by simp [intOf]; omega⟩
      | false =>
        have he : allK k l = false := by
          cases hr : allK k l with
          | false => rfl
          | true =>
            have := List.all_eq_true.1 hr _ HM.out
            rw [Int.toNat_natCast, HI.out] at this
            cases this
        have HE := Lib.hid he
        clear he
        go_wp2_with fail
        go_ret
        exact ⟨by rw [HE.out]; rfl, b0⟩
    · obtain rfl : j = l.length := by omega
      have he : allK k l = true := List.all_eq_true.2 (fun x hx => HALL.out x (by rw [List.take_length]; exact hx))
      have HE := Lib.hid he
      clear he
      go_wp2_with fail
      go_ret
      exact ⟨by rw [HE.out]; rfl, b0⟩
end Go.Proofs.Ytokkngfgppikkab
