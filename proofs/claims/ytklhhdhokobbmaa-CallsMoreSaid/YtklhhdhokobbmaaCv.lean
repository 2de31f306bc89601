/- The document's Copy of many graphs. -/
import Derived.Test.YtklhhdhokobbmaaCu
namespace Go.Proofs.Ytklhhdhokobbmaa
set_option linter.unusedVariables false
set_option linter.unusedSimpArgs false
open Go.RowKit

set_option maxHeartbeats 4000000 in
set_option maxRecDepth 100000 in
theorem copies_calls (A : Option Addr) (c : Nat) (gs : List Graph) (w : World) (hC : kGraph.C w A gs) (hl : gs.length ≤ 61) (hf : ∀ g ∈ gs, blocksFew g.blocks = true) : Calls Try.prog 23 #[.slice A gs.length c] w fun e w' =>
    ∃ A' c', e = .returned (.slice A' gs.length c') ∧ gs.length ≤ c' ∧ c' ≤ maxLen ∧ kGraph.C w' A' gs ∧ Below w.heap.size w w' := by
  have HF := Lib.hid hf
  clear hf
  go_enter Try.func23, Try.ntmps23
  go_wp2_with fail
  go_loopw [3, 4] (fun v i wr => ∃ k : Nat, k ≤ gs.length ∧ i = .int .i64 k ∧ OwnK kGraph 29 noS wr w.heap.size v (gs.take k) ∧ Below w.heap.size w wr) (fun _ i _ => gs.length - (intOf i).toNat)
  case atStart => exact ⟨0, Nat.zero_le _, rfl, OwnK.nil _ _ _ _ _, Below.refl _ _⟩
  case round =>
    obtain ⟨k, hk, rfl, ho, hbr⟩ := hrel
    by_cases hlt : k < gs.length
    · obtain ⟨g, hg⟩ := get_some gs k hlt
      have htk := take_snoc hg
      have hfew := HF.out g (List.mem_of_getElem? hg)
      obtain ⟨ad, A0, c0, rfl, f0, f1, f2, f3, hwf, l0, m0, g0⟩ := Graph_at (Kd.C_mono hbr hC) hg
      have hl0 := len_le l0 m0
      have HT := Lib.hid htk
      have hlo : (gs.take k).length ≤ 61 := Nat.le_trans (by simp [List.length_take]; omega) hl
      clear hg htk
      go_wp2_with (first
        | (go_at_call 41; refine (copy_calls _ _ _ _ _ _ _ g0 (Nat.le_trans l0 m0) hfew).mono ?_; rintro e w1 ⟨A1, c1, rfl, l1, m1, hC1, hb1⟩; have hK := kGraph_mk (hideW (w1.alloc (.cells #[.string g.name, .bool g.keep, .bool g.leaf, .slice A1 g.blocks.length c1] 29)) (withRow noS u3)) g hwf l1 m1 (Kd.C_sub (fun a u hu => by (obtain ⟨h1, h2⟩ := hide_cell.1 hu; refine hide_cell.2 ⟨withRow_false.2 ⟨rfl, fun e => ?_⟩, (Sub.of_below (below_alloc' w1 _)) _ _ h2⟩; unfold oldS at h1; simp at h1; have := (ho.block _ e).2; omega)) hC1); have ho1 := ho.below hb1)
        | (at_builtin; refine wpList_append_k elGraph (S := noS) rfl _ _ rfl (w := w1) (ys := [g]) w.heap.size ho1 (below_alloc' w1 _) (C2_one kGraph w1 _ rfl _ _ _ _ hK) rfl rfl (by simp; omega) (Nat.le_trans hbr.size hb1.size) ?_; intro v2 w2 hg2))
      have own2 := hg2.own
      rw [← HT.out] at own2
      exact ⟨⟨k + 1, by omega, by go_num, own2, (hbr.trans (hb1.mono hbr.size)).trans hg2.below⟩, by simp [intOf]; omega⟩
    · obtain rfl : k = gs.length := by omega
      rw [List.take_length] at ho
      obtain ⟨A1, c1, rfl, l1, m1, hC1⟩ := ho.read
      go_wp2_with fail
      go_ret
      exact ⟨A1, c1, rfl, l1, m1, hC1, hbr⟩
end Go.Proofs.Ytklhhdhokobbmaa
