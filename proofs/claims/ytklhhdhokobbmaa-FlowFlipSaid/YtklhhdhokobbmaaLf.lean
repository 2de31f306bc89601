/- The laws of layer 3: FlowFlip returns true. -/
import Derived.Test.YtklhhdhokobbmaaCi
namespace Go.Proofs.Ytklhhdhokobbmaa
open Go.RowKit

theorem flip_out {op : Int} (h : op < 15 ∨ 18 < op) : flip op = -1 := by
  unfold flip
  rw [if_neg (by omega), if_neg (by omega)]

set_option maxHeartbeats 4000000 in
set_option maxRecDepth 100000 in
theorem flowFlip_law (op : Int) (hw : (Lit.int .i64 op).wf = true) (w : World) : Calls Try.prog 9 #[.int .i64 op] w fun e w' => e = .returned (.bool true) ∧ Below w.heap.size w w' := by
  clear hw
  by_cases hout : op < 15 ∨ 18 < op
  · have hfl := Lib.hid (flip_out hout)
    rcases hout with h | h
    · go_enter Try.func9, Try.ntmps9
      go_wp2_with (first
        | (go_at_call 34; refine (flip_calls _ _).mono ?_; rw [hfl.out]; rintro e w' ⟨rfl, rfl⟩)
        | (go_at_call 25; refine (flowAwake_calls _).mono ?_; rintro e w1 ⟨rfl, hb1⟩))
      go_ret
      exact ⟨rfl, hb1⟩
    · go_enter Try.func9, Try.ntmps9
      go_wp2_with (first
        | (go_at_call 34; refine (flip_calls _ _).mono ?_; rw [hfl.out]; rintro e w' ⟨rfl, rfl⟩)
        | (go_at_call 25; refine (flowAwake_calls _).mono ?_; rintro e w1 ⟨rfl, hb1⟩))
      go_ret
      exact ⟨rfl, hb1⟩
  · have hc : op = 15 ∨ op = 16 ∨ op = 17 ∨ op = 18 := by omega
    clear hout
    rcases hc with rfl | rfl | rfl | rfl
    all_goals
      go_enter Try.func9, Try.ntmps9
      go_wp2_with (first
        | (go_at_call 34; refine (flip_calls _ _).mono ?_; (first | rw [show flip 15 = 16 from rfl] | rw [show flip 16 = 15 from rfl] | rw [show flip 17 = 18 from rfl] | rw [show flip 18 = 17 from rfl]); rintro e w' ⟨rfl, rfl⟩)
        | (go_at_call 25; refine (flowAwake_calls _).mono ?_; rintro e w1 ⟨rfl, hb1⟩))
      go_ret
      exact ⟨rfl, hb1⟩
end Go.Proofs.Ytklhhdhokobbmaa
