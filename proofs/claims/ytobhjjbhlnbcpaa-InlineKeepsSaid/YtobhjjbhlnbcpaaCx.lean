/- The document's Same, of many graphs in two places. -/
import Derived.Test.YtobhjjbhlnbcpaaCw
namespace Go.Proofs.Ytobhjjbhlnbcpaa
set_option linter.unusedVariables false
set_option linter.unusedSimpArgs false
open Go.RowKit

set_option maxHeartbeats 4000000 in
set_option maxRecDepth 100000 in
theorem sames_calls (A A' : Option Addr) (c c' : Nat) (gs : List Graph) (w : World) (hC : kGraph.C w A gs) (hC' : kGraph.C w A' gs) (hl : gs.length ≤ 61) : Calls Try.prog 15 #[.slice A gs.length c, .slice A' gs.length c'] w fun e w' => e = .returned (.bool true) ∧ Below w.heap.size w w' := by
  go_enter Try.func15, Try.ntmps15
  go_wp2_with fail
  go_loopw [5] (fun i wr => ∃ k : Nat, k ≤ gs.length ∧ i = .int .i64 k ∧ Below w.heap.size w wr) (fun i _ => gs.length - (intOf i).toNat)
  case atStart => exact ⟨0, Nat.zero_le _, rfl, Below.refl _ _⟩
  case round =>
    obtain ⟨k, hk, rfl, hbr⟩ := hrel
    by_cases hlt : k < gs.length
    · obtain ⟨g, hg⟩ := get_some gs k hlt
      obtain ⟨ad, A0, c0, rfl, f0, f1, f2, f3, -, l0, m0, g0⟩ := Graph_at (Kd.C_mono hbr hC) hg
      obtain ⟨ad', A0', c0', rfl, f0', f1', f2', f3', -, l0', m0', g0'⟩ := Graph_at (Kd.C_mono hbr hC') hg
      have hl0 := len_le l0 m0
      have F0 : A4 wr (ad.add (k * 4)) g.name g.keep g.leaf (.slice A0 g.blocks.length c0) := ⟨f0, f1, f2, f3⟩
      have F0' : A4 wr (ad'.add (k * 4)) g.name g.keep g.leaf (.slice A0' g.blocks.length c0') := ⟨f0', f1', f2', f3'⟩
      have G0 := Kd.C_mono ((Below.refl wr.heap.size wr).drew) g0
      have G0' := Kd.C_mono ((Below.refl wr.heap.size wr).drew) g0'
      clear hg f0 f1 f2 f3 f0' f1' f2' f3' g0 g0'
      go_wp2_with fail
      go_region_held3 (fun w' => (w'.cell? (ad.add (k * 4)) = some (.string g.name) ∧ w'.cell? ⟨(ad.add (k * 4)).block, (ad.add (k * 4)).off + 1, none⟩ = some (.bool g.keep) ∧ w'.cell? ⟨(ad.add (k * 4)).block, (ad.add (k * 4)).off + 2, none⟩ = some (.bool g.leaf) ∧ w'.cell? ⟨(ad.add (k * 4)).block, (ad.add (k * 4)).off + 3, none⟩ = some (.slice A0 g.blocks.length c0)) ∧ (w'.cell? (ad'.add (k * 4)) = some (.string g.name) ∧ w'.cell? ⟨(ad'.add (k * 4)).block, (ad'.add (k * 4)).off + 1, none⟩ = some (.bool g.keep) ∧ w'.cell? ⟨(ad'.add (k * 4)).block, (ad'.add (k * 4)).off + 2, none⟩ = some (.bool g.leaf) ∧ w'.cell? ⟨(ad'.add (k * 4)).block, (ad'.add (k * 4)).off + 3, none⟩ = some (.slice A0' g.blocks.length c0'))) (first | exact ⟨F1, F1'⟩ | exact ⟨F0, F0'⟩)
        (first
          | (go_at_call 21; refine (same_calls _ _ _ _ _ _ _ _ _ G0 G0' (Nat.le_trans l0 m0)).mono ?_; rintro e w1 ⟨rfl, hb1⟩; have F1 := A4.below hb1 F0; have F1' := A4.below hb1 F0'))
      go_wp2_with fail
      exact ⟨⟨k + 1, by omega, by go_num, hbr.drew.trans (hb1.mono hbr.size)⟩, by simp [intOf]; omega⟩
    · go_wp2_with fail
      go_ret
      exact ⟨rfl, hbr⟩
end Go.Proofs.Ytobhjjbhlnbcpaa
