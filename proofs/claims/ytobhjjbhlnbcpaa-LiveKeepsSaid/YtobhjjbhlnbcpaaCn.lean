/- The document's Few over many graphs. -/
import Derived.Test.YtobhjjbhlnbcpaaCe
namespace Go.Proofs.Ytobhjjbhlnbcpaa
set_option linter.unusedVariables false
set_option linter.unusedSimpArgs false
open Go.RowKit

def gsFew (gs : List Graph) (d : Int) : Bool := decide (gs.length ≤ 60) && gs.all (fun g => blocksFew g.blocks && blocksRight g.blocks gs.length d)
theorem gsFew_not {gs : List Graph} {d : Int} {k : Nat} {g : Graph} (h : gs[k]? = some g) (h2 : (blocksFew g.blocks && blocksRight g.blocks gs.length d) = false) : gsFew gs d = false := by
  unfold gsFew
  rw [Bool.and_eq_false_iff]
  right
  rw [List.all_eq_false]
  exact ⟨g, List.mem_of_getElem? h, by simp only [h2]; decide⟩
theorem gsFew_end {gs : List Graph} {d : Int} (h : gs.length ≤ 60) (h2 : ∀ g ∈ gs, blocksFew g.blocks = true ∧ blocksRight g.blocks gs.length d = true) : gsFew gs d = true := by
  unfold gsFew
  rw [Bool.and_eq_true, decide_eq_true_eq, List.all_eq_true]
  exact ⟨h, fun g hg => by rw [(h2 g hg).1, (h2 g hg).2]; rfl⟩
theorem gsFew_parts {gs : List Graph} {d : Int} (h : gsFew gs d = true) : gs.length ≤ 60 ∧ ∀ g ∈ gs, blocksFew g.blocks = true ∧ blocksRight g.blocks gs.length d = true := by
  unfold gsFew at h
  rw [Bool.and_eq_true, decide_eq_true_eq, List.all_eq_true] at h
  exact ⟨h.1, fun g hg => by have := h.2 g hg; rwa [Bool.and_eq_true] at this⟩

set_option maxHeartbeats 4000000 in
set_option maxRecDepth 100000 in
theorem gsFew_calls (A : Option Addr) (c : Nat) (gs : List Graph) (d : Int) (w : World) (hC : kGraph.C w A gs) (hl : gs.length ≤ maxLen) : Calls Try.prog 12 #[.slice A gs.length c, .int .i64 d] w fun e w' => e = .returned (.bool (gsFew gs d)) ∧ Below w.heap.size w w' := by
  unfold maxLen at hl
  by_cases h60 : gs.length ≤ 60
  · have h61 : decide (60 < gs.length) = false := by simp; omega
    go_enter Try.func12, Try.ntmps12
    go_wp2_with fail
    go_loopw [5] (fun i wr => ∃ k : Nat, k ≤ gs.length ∧ i = .int .i64 k ∧ (∀ g ∈ gs.take k, blocksFew g.blocks = true ∧ blocksRight g.blocks gs.length d = true) ∧ Below w.heap.size w wr) (fun i _ => gs.length - (intOf i).toNat)
    case atStart => exact ⟨0, Nat.zero_le _, rfl, by simp, Below.refl _ _⟩
    case round =>
      obtain ⟨k, hk, rfl, hall, hbr⟩ := hrel
      by_cases hlt : k < gs.length
      · obtain ⟨g, hg⟩ := get_some gs k hlt
        have hnot := @gsFew_not gs d k g hg
        have htk := take_snoc hg
        obtain ⟨ad, A0, c0, rfl, f0, f1, f2, f3, -, l0, m0, g0⟩ := Graph_at (Kd.C_mono hbr hC) hg
        have hl0 := len_le l0 m0
        cases hfew : blocksFew g.blocks with
        | false =>
          have HN : Hid (gsFew gs d = false) := Lib.hid (hnot (by rw [hfew]; rfl))
          have HF := Lib.hid hfew
          clear hnot htk hfew hg hall
          go_wp2_with fail
          refine (few_calls _ _ _ _ _ _ _ g0 (Nat.le_trans l0 m0)).mono ?_
          rw [HF.out]
          rintro e w1 ⟨rfl, hb1⟩
          go_wp2_with fail
          go_ret
          exact ⟨ret_bool HN.out.symm, hbr.trans (hb1.mono hbr.size)⟩
        | true =>
          cases hright : blocksRight g.blocks gs.length d with
          | false =>
            have HN : Hid (gsFew gs d = false) := Lib.hid (hnot (by rw [hright]; simp))
            have HF := Lib.hid hfew
            have HR := Lib.hid hright
            clear hnot htk hfew hg hall hright
            go_wp2_with fail
            refine (few_calls _ _ _ _ _ _ _ g0 (Nat.le_trans l0 m0)).mono ?_
            rw [HF.out]
            rintro e w1 ⟨rfl, hb1⟩
            replace f0 := (hb1.cell (World.lt_of_cell f0)).trans f0
            replace f1 := (hb1.cell (World.lt_of_cell f1)).trans f1
            replace f2 := (hb1.cell (World.lt_of_cell f2)).trans f2
            replace f3 := (hb1.cell (World.lt_of_cell f3)).trans f3
            go_wp2_with fail
            refine (right_calls _ _ _ _ _ _ _ _ _ (Kd.C_mono hb1 g0) (Nat.le_trans l0 m0)).mono ?_
            rw [HR.out]
            rintro e w2 ⟨rfl, hb2⟩
            go_wp2_with fail
            go_ret
            exact ⟨ret_bool HN.out.symm, hbr.trans ((hb1.mono hbr.size).trans (hb2.mono (Nat.le_trans hbr.size hb1.size)))⟩
          | true =>
            have hnew : ∀ g' ∈ gs.take (k + 1), blocksFew g'.blocks = true ∧ blocksRight g'.blocks gs.length d = true := by
              rw [htk]
              intro g' hg'
              rw [List.mem_append] at hg'
              rcases hg' with hg' | hg'
              · exact hall g' hg'
              · simp at hg'
                subst hg'
                exact ⟨hfew, hright⟩
            have HN := Lib.hid hnew
            have HF := Lib.hid hfew
            have HR := Lib.hid hright
            clear hnot htk hfew hg hall hright hnew
            go_wp2_with fail
            refine (few_calls _ _ _ _ _ _ _ g0 (Nat.le_trans l0 m0)).mono ?_
            rw [HF.out]
            rintro e w1 ⟨rfl, hb1⟩
            replace f0 := (hb1.cell (World.lt_of_cell f0)).trans f0
            replace f1 := (hb1.cell (World.lt_of_cell f1)).trans f1
            replace f2 := (hb1.cell (World.lt_of_cell f2)).trans f2
            replace f3 := (hb1.cell (World.lt_of_cell f3)).trans f3
            go_wp2_with fail
            refine (right_calls _ _ _ _ _ _ _ _ _ (Kd.C_mono hb1 g0) (Nat.le_trans l0 m0)).mono ?_
            rw [HR.out]
            rintro e w2 ⟨rfl, hb2⟩
            go_wp2_with fail
            exact ⟨⟨k + 1, by omega, by go_num, HN.out, hbr.trans ((hb1.mono hbr.size).trans (hb2.mono (Nat.le_trans hbr.size hb1.size)))⟩, by simp [intOf]; omega⟩
      · obtain rfl : k = gs.length := by omega
        rw [List.take_length] at hall
        have HN : Hid (gsFew gs d = true) := Lib.hid (gsFew_end h60 hall)
        clear hall
        go_wp2_with fail
        go_ret
        exact ⟨ret_bool HN.out.symm, hbr⟩
  · have h61 : decide (60 < gs.length) = true := by simp; omega
    have HN : Hid (gsFew gs d = false) := Lib.hid (by unfold gsFew; simp [h60])
    have h62 : 60 < (gs.length : Int) := by omega
    clear h60
    go_enter Try.func12, Try.ntmps12
    go_wp2_with fail
    all_goals first | omega | skip
    go_ret
    exact ⟨ret_bool HN.out.symm, Below.refl _ _⟩
end Go.Proofs.Ytobhjjbhlnbcpaa
