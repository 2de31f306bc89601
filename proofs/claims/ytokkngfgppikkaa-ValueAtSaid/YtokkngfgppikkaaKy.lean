/- ValueAt returns true. Printed by genKy.py of this repository. -/
import Derived.Test.YtokkngfgppikkaaKm
import Derived.Test.YtokkngfgppikkaaKo
import Derived.Test.YtokkngfgppikkaaKx
import Derived.Test.YtokkngfgppikkaaGc
namespace Go.Proofs.Ytokkngfgppikkaa
set_option linter.unusedVariables false
set_option linter.unusedSimpArgs false
open Go.RowKit
attribute [local go_sem high] eqKnown eqKnown_zero

set_option maxHeartbeats 4000000 in
set_option maxRecDepth 100000 in
theorem valueAt_law (w : World) (g : Graph) (wf : g.wf) (A : Option Addr) (c : Nat) (hlc : g.blocks.length ≤ c) (hcm : c ≤ maxLen) (hC : kBlock.C w A g.blocks) : Calls Try.prog 5 #[.agg #[.string g.name, .bool g.keep, .bool g.leaf, .slice A g.blocks.length c]] w fun e w' => e = .returned (.bool true) ∧ Below w.heap.size w w' := by
  clear wf
  have hlm := Nat.le_trans hlc hcm
  have hlm' : g.blocks.length ≤ 9223372036854775807 := hlm
  have b0 := below_alloc' w (.cells #[.string g.name, .bool g.keep, .bool g.leaf, .slice A g.blocks.length c] 33)
  have r0 : Row (w.alloc (.cells #[.string g.name, .bool g.keep, .bool g.leaf, .slice A g.blocks.length c] 33)) w.heap.size 33 (graphCells (.slice A g.blocks.length c) g) := Row.new w _ _
  cases hr : blocksFew g.blocks with
  | false =>
    have HR := Lib.hid hr
    clear hr
    go_enter Try.func5, Try.ntmps5
    go_upto_region 1 with fail
    generalize w.alloc (.cells #[.string g.name, .bool g.keep, .bool g.leaf, .slice A g.blocks.length c] 33) = W at *
    go_wp2_with fail
    refine (awake20_calls _).mono ?_
    rintro e w1 ⟨rfl, hb1⟩
    have r1 := r0.below hb1
    obtain ⟨x0, x1, x2, x3⟩ := r1.graph
    have t1 := b0.trans (hb1.mono b0.size)
    go_wp2_with fail
    refine (few_calls _ _ _ _ _ _ _ (Kd.C_mono t1 hC) hlm).mono ?_
    rw [HR.out]
    rintro e w2 ⟨rfl, hb2⟩
    have t2 := t1.trans (hb2.mono t1.size)
    have r2 := r1.below hb2
    clear x0 x1 x2 x3
    obtain ⟨x0, x1, x2, x3⟩ := r2.graph
    go_wp2_with fail
    refine (awake20_calls _).mono ?_
    rintro e w3 ⟨rfl, hb3⟩
    go_wp2_with fail
    go_ret
    exact ⟨rfl, t2.trans (hb3.mono t2.size)⟩
  | true =>
    have HR := Lib.hid hr
    clear hr
    by_cases h60 : 60 < g.blocks.length
    · skip
      go_enter Try.func5, Try.ntmps5
      go_upto_region 1 with fail
      generalize w.alloc (.cells #[.string g.name, .bool g.keep, .bool g.leaf, .slice A g.blocks.length c] 33) = W at *
      go_wp2_with fail
      refine (awake20_calls _).mono ?_
      rintro e w1 ⟨rfl, hb1⟩
      have r1 := r0.below hb1
      obtain ⟨x0, x1, x2, x3⟩ := r1.graph
      have t1 := b0.trans (hb1.mono b0.size)
      go_wp2_with fail
      refine (few_calls _ _ _ _ _ _ _ (Kd.C_mono t1 hC) hlm).mono ?_
      rw [HR.out]
      rintro e w2 ⟨rfl, hb2⟩
      have t2 := t1.trans (hb2.mono t1.size)
      have r2 := r1.below hb2
      clear x0 x1 x2 x3
      obtain ⟨x0, x1, x2, x3⟩ := r2.graph
      go_wp2_with fail
      refine (awake20_calls _).mono ?_
      rintro e w3 ⟨rfl, hb3⟩
      go_wp2_with fail
      go_ret
      exact ⟨rfl, t2.trans (hb3.mono t2.size)⟩
    · have hle : g.blocks.length ≤ 60 := by omega
      cases hq : blocksRight g.blocks 1000 1000 with
      | false =>
        have HQ := Lib.hid hq
        clear hq
        go_enter Try.func5, Try.ntmps5
        go_upto_region 1 with fail
        generalize w.alloc (.cells #[.string g.name, .bool g.keep, .bool g.leaf, .slice A g.blocks.length c] 33) = W at *
        go_wp2_with fail
        refine (awake20_calls _).mono ?_
        rintro e w1 ⟨rfl, hb1⟩
        have r1 := r0.below hb1
        obtain ⟨x0, x1, x2, x3⟩ := r1.graph
        have t1 := b0.trans (hb1.mono b0.size)
        go_wp2_with fail
        refine (few_calls _ _ _ _ _ _ _ (Kd.C_mono t1 hC) hlm).mono ?_
        rw [HR.out]
        rintro e w2 ⟨rfl, hb2⟩
        have t2 := t1.trans (hb2.mono t1.size)
        have r2 := r1.below hb2
        clear x0 x1 x2 x3
        obtain ⟨x0, x1, x2, x3⟩ := r2.graph
        go_wp2_with fail
        refine (right_calls _ _ _ _ _ _ _ _ _ (Kd.C_mono t2 hC) hlm).mono ?_
        rw [HQ.out]
        rintro e w3 ⟨rfl, hb3⟩
        have t3 := t2.trans (hb3.mono t2.size)
        have r3 := r2.below hb3
        clear x0 x1 x2 x3
        obtain ⟨x0, x1, x2, x3⟩ := r3.graph
        go_wp2_with fail
        refine (awake20_calls _).mono ?_
        rintro e w4 ⟨rfl, hb4⟩
        go_wp2_with fail
        go_ret
        exact ⟨rfl, t3.trans (hb4.mono t3.size)⟩
      | true =>
        have hok : BsOk g.blocks := ⟨1000, 1000, hq⟩
        have hpos := blocksRight_pos hq
        have HQ := Lib.hid hq
        have HOK := Lib.hid hok
        have hfew := blocksFew_parts HR.out
        have HFE := Lib.hid hfew
        clear hq hok hfew
        go_enter Try.func5, Try.ntmps5
        go_upto_region 1 with fail
        generalize w.alloc (.cells #[.string g.name, .bool g.keep, .bool g.leaf, .slice A g.blocks.length c] 33) = W at *
        go_wp2_with fail
        refine (awake20_calls _).mono ?_
        rintro e w1 ⟨rfl, hb1⟩
        have r1 := r0.below hb1
        obtain ⟨x0, x1, x2, x3⟩ := r1.graph
        have t1 := b0.trans (hb1.mono b0.size)
        go_wp2_with fail
        refine (few_calls _ _ _ _ _ _ _ (Kd.C_mono t1 hC) hlm).mono ?_
        rw [HR.out]
        rintro e w2 ⟨rfl, hb2⟩
        have t2 := t1.trans (hb2.mono t1.size)
        have r2 := r1.below hb2
        clear x0 x1 x2 x3
        obtain ⟨x0, x1, x2, x3⟩ := r2.graph
        go_wp2_with fail
        refine (right_calls _ _ _ _ _ _ _ _ _ (Kd.C_mono t2 hC) hlm).mono ?_
        rw [HQ.out]
        rintro e w3 ⟨rfl, hb3⟩
        have t3 := t2.trans (hb3.mono t2.size)
        have r3 := r2.below hb3
        clear x0 x1 x2 x3
        obtain ⟨x0, x1, x2, x3⟩ := r3.graph
        clear hb1 hb2 hb3 t1 t2 r0 r1 r2 b0
        have C3 := Kd.C_mono t3 hC
        clear hC
        have hl1000 : g.blocks.length ≤ 1000 := Nat.le_trans HFE.out.1 (by decide)
        go_wp2_with fail
        refine (at_calls _ _ _ _ _ _ _ C3 hl1000 HOK.out HFE.out.2 hpos).mono ?_
        rintro e w4 ⟨g4, ins, rfl, hL4, own4, hg4, hb4⟩
        have r4 := r3.below hb4
        have C4 := Kd.C_mono hb4 C3
        have t4 := t3.trans (hb4.mono t3.size)
        clear x0 x1 x2 x3 r3 C3 hb4 t3
        obtain ⟨x0, x1, x2, x3⟩ := r4.graph
        have HL4 := Lib.hid hL4
        have HO4 := Lib.hid own4
        clear hL4 own4
        go_wp2_with fail
        refine (refAt_calls _ _ _ _ _ _ _ C4 hl1000 HOK.out HFE.out.2 hpos).mono ?_
        rintro e w5 ⟨g5, ins5, rfl, hL5, own5, hg5, hb5⟩
        obtain rfl := hL5.unique HL4.out
        have o4 := HO4.out.below hb5
        have t5 := t4.trans (hb5.mono t4.size)
        have HO5 := Lib.hid own5
        have HO45 := Lib.hid o4
        have hlen := HL4.out.inv.len
        have HLN := Lib.hid hlen
        clear x0 x1 x2 x3 hL5 own5 o4 hb5 t4 C4 r4 HO4 hlen
        go_wp2_with fail
        go_loopw [5] (fun i wr => ∃ k : Nat, k ≤ g.blocks.length ∧ i = .int .i64 k ∧ Below w5.heap.size w5 wr) (fun i _ => g.blocks.length - (intOf i).toNat)
        case atStart => exact ⟨0, Nat.zero_le _, rfl, Below.refl _ _⟩
        case round =>
          obtain ⟨k, hk, rfl, hbr⟩ := hrel
          by_cases hlt : k < g.blocks.length
          · obtain ⟨x, hxx⟩ := get_some ins5 k (by rw [HLN.out]; exact hlt)
            have hgd := HL4.out.inv.good k
            rw [getK_get hxx] at hgd
            obtain ⟨hx, hrx⟩ := hgd
            have HRX := Lib.hid hrx
            have q4 := ((HO45.out.below hbr).krange hxx).1
            have q5 := ((HO5.out.below hbr).krange hxx).1
            have hltI : (k : Int) < (g.blocks.length : Int) := by omega
            have bd := (Below.refl wr.heap.size wr).drew
            clear hxx hrx
            go_upto_region 10 with fail
            refine wp_region_held_drew (S := (fun w' => w'.rangeAt g4 (k * 33) (knownCells x) ∧ w'.rangeAt g5 (k * 33) (knownCells x))) (by kernel_rfl) (⟨rangeAt_below q4 bd, rangeAt_below q5 bd⟩) (fun hHeld => ?_)
            refine wpAnyH_take (i := 0) (oi := _) (v := ?v10n1_0) rfl (by kernel_rfl) (by kernel_rfl) (by kernel_rfl) (fun _ _ _ h => h) (Or.inl ⟨by rfl, ?hy10n1_0⟩) hHeld ?_
            case hy10n1_0 => (intro wS hSw; (try dsimp only at hSw); clear hSw; go_simp; try with_reducible rfl)
            try simp only [List.getElem_toArray, List.getElem_cons_succ, List.getElem_cons_zero, Act.put, List.setIfInBounds_toArray, List.set_cons_zero, List.set_cons_succ]
            refine wpAnyH_take (i := 1) (oi := _) (v := ?v10n1_1) rfl (by kernel_rfl) (by kernel_rfl) (by kernel_rfl) (fun _ _ _ h => h) (Or.inl ⟨by rfl, ?hy10n1_1⟩) hHeld ?_
            case hy10n1_1 => (intro wS hSw; (try dsimp only at hSw); clear hSw; go_simp; try with_reducible rfl)
            try simp only [List.getElem_toArray, List.getElem_cons_succ, List.getElem_cons_zero, Act.put, List.setIfInBounds_toArray, List.set_cons_zero, List.set_cons_succ]
            refine wpAnyH_take (i := 2) (oi := _) (v := ?v10n1_2) rfl (by kernel_rfl) (by kernel_rfl) (by kernel_rfl) (fun _ _ _ h => h) (Or.inl ⟨by rfl, ?hy10n1_2⟩) hHeld ?_
            case hy10n1_2 => (intro wS hSw; (try dsimp only at hSw); clear hSw; go_simp; try with_reducible rfl)
            try simp only [List.getElem_toArray, List.getElem_cons_succ, List.getElem_cons_zero, Act.put, List.setIfInBounds_toArray, List.set_cons_zero, List.set_cons_succ]
            refine wpAnyH_take (i := 3) (oi := _) (v := .agg (knownCells x).toArray) rfl (by kernel_rfl) (by kernel_rfl) (by kernel_rfl) (fun _ _ _ h => h) (yieldsIf_load_known _ x g4 (k * 33) hx (fun wS hS => hS.1) rfl rfl rfl) hHeld ?_
            try simp only [List.getElem_toArray, List.getElem_cons_succ, List.getElem_cons_zero, Act.put, List.setIfInBounds_toArray, List.set_cons_zero, List.set_cons_succ]
            refine wpAnyH_take (i := 4) (oi := _) (v := ?v10n1_4) rfl (by kernel_rfl) (by kernel_rfl) (by kernel_rfl) (fun _ _ _ h => h) (Or.inl ⟨by rfl, ?hy10n1_4⟩) hHeld ?_
            case hy10n1_4 => (intro wS hSw; (try dsimp only at hSw); clear hSw; go_simp; try with_reducible rfl)
            try simp only [List.getElem_toArray, List.getElem_cons_succ, List.getElem_cons_zero, Act.put, List.setIfInBounds_toArray, List.set_cons_zero, List.set_cons_succ]
            refine wpAnyH_take (i := 5) (oi := _) (v := ?v10n1_5) rfl (by kernel_rfl) (by kernel_rfl) (by kernel_rfl) (fun _ _ _ h => h) (Or.inl ⟨by rfl, ?hy10n1_5⟩) hHeld ?_
            case hy10n1_5 => (intro wS hSw; (try dsimp only at hSw); clear hSw; go_simp; try with_reducible rfl)
            try simp only [List.getElem_toArray, List.getElem_cons_succ, List.getElem_cons_zero, Act.put, List.setIfInBounds_toArray, List.set_cons_zero, List.set_cons_succ]
            refine wpAnyH_take (i := 6) (oi := _) (v := ?v10n1_6) rfl (by kernel_rfl) (by kernel_rfl) (by kernel_rfl) (fun _ _ _ h => h) (Or.inl ⟨by rfl, ?hy10n1_6⟩) hHeld ?_
            case hy10n1_6 => (intro wS hSw; (try dsimp only at hSw); clear hSw; go_simp; try with_reducible rfl)
            try simp only [List.getElem_toArray, List.getElem_cons_succ, List.getElem_cons_zero, Act.put, List.setIfInBounds_toArray, List.set_cons_zero, List.set_cons_succ]
            refine wpAnyH_take (i := 7) (oi := _) (v := .agg (knownCells x).toArray) rfl (by kernel_rfl) (by kernel_rfl) (by kernel_rfl) (fun _ _ _ h => h) (yieldsIf_load_known _ x g5 (k * 33) hx (fun wS hS => hS.2) rfl rfl rfl) hHeld ?_
            try simp only [List.getElem_toArray, List.getElem_cons_succ, List.getElem_cons_zero, Act.put, List.setIfInBounds_toArray, List.set_cons_zero, List.set_cons_succ]
            refine wpAnyH_take (i := 8) (oi := _) (v := ?v10n1_8) rfl (by kernel_rfl) (by kernel_rfl) (by kernel_rfl) (fun _ _ _ h => h) (Or.inl ⟨by rfl, ?hy10n1_8⟩) hHeld ?_
            case hy10n1_8 => (intro wS hSw; (try dsimp only at hSw); clear hSw; go_simp; try with_reducible rfl)
            try simp only [List.getElem_toArray, List.getElem_cons_succ, List.getElem_cons_zero, Act.put, List.setIfInBounds_toArray, List.set_cons_zero, List.set_cons_succ]
            refine wpAnyH_take (i := 9) (oi := _) (v := ?v10n1_9) rfl (by kernel_rfl) (by kernel_rfl) (by kernel_rfl) (fun _ _ _ h => h) (Or.inl ⟨by rfl, ?hy10n1_9⟩) hHeld ?_
            case hy10n1_9 => (intro wS hSw; (try dsimp only at hSw); clear hSw; go_simp; try with_reducible rfl)
            try simp only [List.getElem_toArray, List.getElem_cons_succ, List.getElem_cons_zero, Act.put, List.setIfInBounds_toArray, List.set_cons_zero, List.set_cons_succ]
            refine wpAnyH_take (i := 10) (oi := _) (v := ?v10n1_10) rfl (by kernel_rfl) (by kernel_rfl) (by kernel_rfl) (fun _ _ _ h => h) (Or.inl ⟨by rfl, ?hy10n1_10⟩) hHeld ?_
            case hy10n1_10 => (intro wS hSw; (try dsimp only at hSw); clear hSw; go_simp; try with_reducible rfl)
            try simp only [List.getElem_toArray, List.getElem_cons_succ, List.getElem_cons_zero, Act.put, List.setIfInBounds_toArray, List.set_cons_zero, List.set_cons_succ]
            refine wpAnyH_take (i := 11) (oi := _) (v := ?v10n1_11) rfl (by kernel_rfl) (by kernel_rfl) (by kernel_rfl) (fun _ _ _ h => h) (Or.inl ⟨by rfl, ?hy10n1_11⟩) hHeld ?_
            case hy10n1_11 => (intro wS hSw; (try dsimp only at hSw); clear hSw; go_simp; try with_reducible rfl)
            try simp only [List.getElem_toArray, List.getElem_cons_succ, List.getElem_cons_zero, Act.put, List.setIfInBounds_toArray, List.set_cons_zero, List.set_cons_succ]
            refine wpAnyH_take (i := 12) (oi := _) (v := ?v10n1_12) rfl (by kernel_rfl) (by kernel_rfl) (by kernel_rfl) (fun _ _ _ h => h) (Or.inl ⟨by rfl, ?hy10n1_12⟩) hHeld ?_
            case hy10n1_12 => (intro wS hSw; (try dsimp only at hSw); clear hSw; go_simp; try with_reducible rfl)
            try simp only [List.getElem_toArray, List.getElem_cons_succ, List.getElem_cons_zero, Act.put, List.setIfInBounds_toArray, List.set_cons_zero, List.set_cons_succ]
            refine wpAnyH_take (i := 13) (oi := _) (v := .agg (knownCells x).toArray) rfl (by kernel_rfl) (by kernel_rfl) (by kernel_rfl) (fun _ _ _ h => h) (yieldsIf_load_known _ x g4 (k * 33) hx (fun wS hS => hS.1) rfl rfl rfl) hHeld ?_
            try simp only [List.getElem_toArray, List.getElem_cons_succ, List.getElem_cons_zero, Act.put, List.setIfInBounds_toArray, List.set_cons_zero, List.set_cons_succ]
            refine wpAnyH_ready (rs := [14]) (by kernel_rfl) (by simp) ?_
            refine AllReadyH.cons (o := _) rfl (fun K hK => ?_) AllReadyH.nil
            go_simp
            refine (kright_calls x _ hx).mono ?_
            rw [HRX.out]
            rintro e w6 ⟨rfl, hb6⟩
            go_wp2_with fail
            refine hK.out _ _ (⟨rangeAt_below hHeld.1 hb6, rangeAt_below hHeld.2 hb6⟩) (fun hHeld14 => ?_)
            clear hK K hHeld
            try simp only [List.getElem_toArray, List.getElem_cons_succ, List.getElem_cons_zero, Act.put, List.setIfInBounds_toArray, List.set_cons_zero, List.set_cons_succ]
            refine wpAnyH_take (i := 15) (oi := _) (v := ?v10n1_15) rfl (by kernel_rfl) (by kernel_rfl) (by kernel_rfl) (fun _ _ _ h => h) (Or.inl ⟨by rfl, ?hy10n1_15⟩) hHeld14 ?_
            case hy10n1_15 => (intro wS hSw; (try dsimp only at hSw); clear hSw; go_simp; try with_reducible rfl)
            try simp only [List.getElem_toArray, List.getElem_cons_succ, List.getElem_cons_zero, Act.put, List.setIfInBounds_toArray, List.set_cons_zero, List.set_cons_succ]
            refine wpAnyH_take (i := 16) (oi := _) (v := ?v10n1_16) rfl (by kernel_rfl) (by kernel_rfl) (by kernel_rfl) (fun _ _ _ h => h) (Or.inl ⟨by rfl, ?hy10n1_16⟩) hHeld14 ?_
            case hy10n1_16 => (intro wS hSw; (try dsimp only at hSw); clear hSw; go_simp; try with_reducible rfl)
            try simp only [List.getElem_toArray, List.getElem_cons_succ, List.getElem_cons_zero, Act.put, List.setIfInBounds_toArray, List.set_cons_zero, List.set_cons_succ]
            refine wpAnyH_done (by kernel_rfl) ?_ _
            have u6 := bd.trans (hb6.mono bd.size)
            go_wp2_with fail
            exact ⟨⟨k + 1, by omega, by go_num, hbr.trans (u6.mono hbr.size)⟩, by first | (simp [intOf]; done) | (simp [intOf]; omega)⟩
          · obtain rfl : k = g.blocks.length := by omega
            go_wp2_with fail
            go_ret
            exact ⟨rfl, t5.trans (hbr.mono t5.size)⟩
end Go.Proofs.Ytokkngfgppikkaa
