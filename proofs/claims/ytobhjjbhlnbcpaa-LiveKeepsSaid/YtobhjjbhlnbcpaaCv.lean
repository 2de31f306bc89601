/- The document's Copy of many graphs. -/
import Derived.Test.YtobhjjbhlnbcpaaCu
namespace Go.Proofs.Ytobhjjbhlnbcpaa
set_option linter.unusedVariables false
set_option linter.unusedSimpArgs false
open Go.RowKit

/-- Graphs of the call's own. -/
def OwnGs (w : World) (e : Ending) (w' : World) (gs : List Graph) : Prop :=
  ∃ A c F, e = .returned (.slice A gs.length c) ∧ OwnF oGraph 28 w' (.slice A gs.length c) gs F ∧ (∀ b, F b → w.heap.size ≤ b) ∧ Below w.heap.size w w'

set_option maxHeartbeats 4000000 in
set_option maxRecDepth 100000 in
theorem copies_calls (A : Option Addr) (c : Nat) (gs : List Graph) (w : World) (hC : kGraph.C w A gs) (hl : gs.length ≤ 61) (hf : ∀ g ∈ gs, blocksFew g.blocks = true) : Calls Try.prog 25 #[.slice A gs.length c] w fun e w' => OwnGs w e w' gs := by
  have HF := Lib.hid hf
  clear hf
  go_enter Try.func25, Try.ntmps25
  go_wp2_with fail
  go_loopw [3, 4] (fun v i wr => ∃ (k : Nat) (F : Nat → Prop), k ≤ gs.length ∧ i = .int .i64 k ∧ OwnF oGraph 28 wr v (gs.take k) F ∧ (∀ b, F b → w.heap.size ≤ b) ∧ Below w.heap.size w wr) (fun _ i _ => gs.length - (intOf i).toNat)
  case atStart => exact ⟨0, _, Nat.zero_le _, rfl, OwnF.nil _ _ _, fun _ h => h.elim, Below.refl _ _⟩
  case round =>
    obtain ⟨k, F, hk, rfl, ho, hF, hbr⟩ := hrel
    by_cases hlt : k < gs.length
    · obtain ⟨g, hg⟩ := get_some gs k hlt
      have htk := take_snoc hg
      have hfew := HF.out g (List.mem_of_getElem? hg)
      obtain ⟨ad, A0, c0, rfl, f0, f1, f2, f3, hwf, l0, m0, g0⟩ := Graph_at (Kd.C_mono hbr hC) hg
      have hl0 := len_le l0 m0
      have HT := Lib.hid htk
      have hlo : (gs.take k).length ≤ 61 := Nat.le_trans (by simp [List.length_take]; omega) hl
      clear hg htk
      go_wp2_with (first
        | (go_at_call 36; refine (copy_calls _ _ _ _ _ _ _ g0 (Nat.le_trans l0 m0) hfew).mono ?_; rintro e w1 ⟨A1, c1, F1, rfl, own1, hF1, hb1⟩; have ho1 := ho.below hb1)
        | (at_builtin; refine wpList_append_f (k := oGraph) elGraph rfl _ _ rfl (ys := [g]) (ho1.below (below_alloc' w1 _)) (YF.one rfl ⟨_, rfl, hwf, own1⟩) (fun b hb h9 => by (have := ho.lt b hb; have := hF1 b h9; omega)) rfl rfl (by simp; omega) ?_; intro v2 w2 hg2))
      obtain ⟨⟨F2, own2, hF2⟩, hgr2⟩ := hg2
      rw [← HT.out] at own2
      exact ⟨⟨k + 1, F2, by omega, by go_num, own2, fun b hb => by (rcases hF2 b hb with h | h | h; exact hF b h; exact Nat.le_trans hbr.size (hF1 b h); exact Nat.le_trans hbr.size (Nat.le_trans hb1.size (Nat.le_trans (below_alloc' w1 _).size h))), ((hbr.trans (hb1.mono hbr.size)).trans ((below_alloc' w1 _).mono (Nat.le_trans hbr.size hb1.size))).grown hgr2 (Nat.le_trans hbr.size (Nat.le_trans hb1.size (below_alloc' w1 _).size)) (fun j hj => hF j (ho.row hj))⟩, by simp [intOf]; omega⟩
    · obtain rfl : k = gs.length := by omega
      rw [List.take_length] at ho
      obtain ⟨A1, c1, rfl, l1, m1, hC1⟩ := ho.read
      go_wp2_with fail
      go_ret
      exact ⟨A1, c1, F, rfl, ho, hF, hbr⟩
end Go.Proofs.Ytobhjjbhlnbcpaa
