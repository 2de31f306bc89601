/- ChainBlocks returns true: for every graph that is right and has at most 25 blocks, and at most 60 edges of whatever weights, the order of blocks is the document's. Printed in part by genQf.py of this repository. -/
import Derived.Test.YthnkikdbllkmkaaQe
import Derived.Test.YthnkikdbllkmkaaYr
import Derived.Test.YthnkikdbllkmkaaYt
import Derived.Deep.RegionHeld3
namespace Go.Proofs.Ythnkikdbllkmkaa
set_option linter.unusedVariables false
set_option linter.unusedSimpArgs false
open Go.RowKit Go.Lib

set_option maxHeartbeats 8000000 in
set_option maxRecDepth 100000 in
theorem chainBlocks_law (w : World) (g : Graph) (wf : g.wf) (A : Option Addr) (c : Nat) (hlc : g.blocks.length ≤ c) (hcm : c ≤ maxLen) (hC : kBlock.C w A g.blocks) (LA : Option Addr) (lc : Nat) (l : List Edge) (hll : l.length ≤ lc) (hlm2 : lc ≤ maxLen) (hL : kEdge.C w LA l) : Calls Try.prog 3 #[.agg #[.string g.name, .bool g.keep, .bool g.leaf, .slice A g.blocks.length c], .slice LA l.length lc] w fun e w' => e = .returned (.bool true) ∧ Below w.heap.size w w' := by
  clear wf
  have hlm := Nat.le_trans hlc hcm
  have hlm' : g.blocks.length ≤ 9223372036854775807 := hlm
  have hl2 := Nat.le_trans hll hlm2
  have hl2' : l.length ≤ 9223372036854775807 := hl2
  have HWF := Lib.hid (edges_wf hL)
  have b0 := below_alloc' w (.cells #[.string g.name, .bool g.keep, .bool g.leaf, .slice A g.blocks.length c] 24)
  have r0 : Row (w.alloc (.cells #[.string g.name, .bool g.keep, .bool g.leaf, .slice A g.blocks.length c] 24)) w.heap.size 24 (graphCells (.slice A g.blocks.length c) g) := Row.new w _ _
  go_enter Try.func3, Try.ntmps3
  go_upto_region 1 with fail
  generalize w.alloc (.cells #[.string g.name, .bool g.keep, .bool g.leaf, .slice A g.blocks.length c] 24) = W at *
  go_wp2_with fail
  refine (awake25_calls _).mono ?_
  rintro e w1 ⟨rfl, hb1⟩
  have r1 := r0.below hb1
  obtain ⟨x0, x1, x2, x3⟩ := r1.graph
  have t1 := b0.trans (hb1.mono b0.size)
  go_wp2_with fail
  cases hf : fine25B g.blocks with
  | false =>
    refine (fine25_calls _ _ _ _ _ _ _ (Kd.C_mono t1 hC) hlm).mono ?_
    rw [hf]
    rintro e w2 ⟨rfl, hb2⟩
    have t2 := t1.trans (hb2.mono t1.size)
    clear x0 x1 x2 x3 hf
    go_wp2_with fail
    refine (awake25_calls _).mono ?_
    rintro e w3 ⟨rfl, hb3⟩
    go_wp2_with fail
    go_ret
    exact ⟨rfl, t2.trans (hb3.mono t2.size)⟩
  | true =>
    refine (fine25_calls _ _ _ _ _ _ _ (Kd.C_mono t1 hC) hlm).mono ?_
    rw [hf]
    rintro e w2 ⟨rfl, hb2⟩
    obtain ⟨hfew, h25, hright⟩ := fine25_parts hf
    have hok : BsOk g.blocks := ⟨1000, 1000, hright⟩
    have hpos := (blocksRight_iff.1 hright).2
    have HLD := Lib.hid hok.leads
    have t2 := t1.trans (hb2.mono t1.size)
    have r2 := r1.below hb2
    have C2 := Kd.C_mono t2 hC
    have L2 := Kd.C_mono t2 hL
    clear x0 x1 x2 x3 hf hfew hright hok
    by_cases hl60 : 60 < l.length
    · have z3 : decide (60 < (l.length : Int)) = true := by simp; omega
      go_wp2_with fail
      refine (awake25_calls _).mono ?_
      rintro e w3 ⟨rfl, hb3⟩
      go_wp2_with fail
      go_ret
      exact ⟨rfl, t2.trans (hb3.mono t2.size)⟩
    have z3 : decide (60 < (l.length : Int)) = false := by simp; omega
    have HOL : Hid ((blocksD g.blocks.length (edgesD l g.name g.blocks)).length = g.blocks.length) := Lib.hid (order_facts (l := l) (nm := g.name) HLD.out hpos).1
    go_upto_region 3 with fail
    clear z3 hl60
    obtain ⟨GB, hGB⟩ : ∃ x, x = w.heap.size := ⟨_, rfl⟩
    rw [← hGB] at r2 ⊢
    clear hGB r0 r1
    refine wp_region_held_drew (S := (fun w' => w'.cell? ⟨GB, 0, none⟩ = some (.string g.name) ∧ w'.cell? ⟨GB, 1, none⟩ = some (.bool g.keep) ∧ w'.cell? ⟨GB, 2, none⟩ = some (.bool g.leaf) ∧ w'.cell? ⟨GB, 3, none⟩ = some (.slice A g.blocks.length c))) (by kernel_rfl) (r2.graph) (fun hHeld => ?_)
    refine wpAnyH_take (i := 0) (oi := _) (v := ?v3n1_0) rfl (by kernel_rfl) (by kernel_rfl) (by kernel_rfl) (fun _ _ _ h => h) (Or.inl ⟨by rfl, ?hy3n1_0⟩) hHeld ?_
    case hy3n1_0 => (intro wS hSw; (try dsimp only at hSw); obtain ⟨s0, s1, s2, s3⟩ := hSw; go_simp; try with_reducible rfl)
    try simp only [List.getElem_toArray, List.getElem_cons_succ, List.getElem_cons_zero, Act.put, List.setIfInBounds_toArray, List.set_cons_zero, List.set_cons_succ]
    refine wpAnyH_take (i := 1) (oi := _) (v := ?v3n1_1) rfl (by kernel_rfl) (by kernel_rfl) (by kernel_rfl) (fun _ _ _ h => h) (Or.inl ⟨by rfl, ?hy3n1_1⟩) hHeld ?_
    case hy3n1_1 => (intro wS hSw; (try dsimp only at hSw); obtain ⟨s0, s1, s2, s3⟩ := hSw; go_simp; try with_reducible rfl)
    try simp only [List.getElem_toArray, List.getElem_cons_succ, List.getElem_cons_zero, Act.put, List.setIfInBounds_toArray, List.set_cons_zero, List.set_cons_succ]
    refine wpAnyH_take (i := 3) (oi := _) (v := ?v3n1_3) rfl (by kernel_rfl) (by kernel_rfl) (by kernel_rfl) (fun _ _ _ h => h) (Or.inl ⟨by rfl, ?hy3n1_3⟩) hHeld ?_
    case hy3n1_3 => (intro wS hSw; (try dsimp only at hSw); obtain ⟨s0, s1, s2, s3⟩ := hSw; go_simp; try with_reducible rfl)
    try simp only [List.getElem_toArray, List.getElem_cons_succ, List.getElem_cons_zero, Act.put, List.setIfInBounds_toArray, List.set_cons_zero, List.set_cons_succ]
    refine wpAnyH_take (i := 4) (oi := _) (v := ?v3n1_4) rfl (by kernel_rfl) (by kernel_rfl) (by kernel_rfl) (fun _ _ _ h => h) (Or.inl ⟨by rfl, ?hy3n1_4⟩) hHeld ?_
    case hy3n1_4 => (intro wS hSw; (try dsimp only at hSw); obtain ⟨s0, s1, s2, s3⟩ := hSw; go_simp; try with_reducible rfl)
    try simp only [List.getElem_toArray, List.getElem_cons_succ, List.getElem_cons_zero, Act.put, List.setIfInBounds_toArray, List.set_cons_zero, List.set_cons_succ]
    refine wpAnyH_ready (rs := [2]) (by kernel_rfl) (by simp) ?_
    refine AllReadyH.cons (o := _) rfl (fun K hK => ?_) AllReadyH.nil
    go_simp
    refine (blocks_calls g.name g.keep g.leaf _ c g.blocks LA lc l _ (Kd.C_mono (Below.refl w2.heap.size w2).drew C2) (Kd.C_mono (Below.refl w2.heap.size w2).drew L2) HWF.out hl2 (by omega) (edgesD_in HLD.out)).mono ?_
    rintro e v1 ⟨vv1, F1, rfl, own1, hF1, hb1⟩
    have bd1 : Below w2.heap.size w2 v1 := (Below.refl w2.heap.size w2).drew.trans hb1
    obtain ⟨A1, c1, rfl, hl1, hm1, CO1, -⟩ := own1.readN
    rw [HOL.out]
    clear own1
    go_wp2_with fail
    refine hK.out _ _ ((r2.below bd1).graph) (fun hHeld2 => ?_)
    clear hK K hHeld
    try simp only [List.getElem_toArray, List.getElem_cons_succ, List.getElem_cons_zero, Act.put, List.setIfInBounds_toArray, List.set_cons_zero, List.set_cons_succ]
    refine wpAnyH_ready (rs := [5]) (by kernel_rfl) (by simp) ?_
    refine AllReadyH.cons (o := _) rfl (fun K hK => ?_) AllReadyH.nil
    go_simp
    refine (refBlocks_calls g.name g.keep g.leaf _ c g.blocks LA lc l _ (Kd.C_mono bd1 C2) (Kd.C_mono bd1 L2) HWF.out hl2 (by omega) HLD.out).mono ?_
    rintro e v3 ⟨vv3, F3, rfl, own3, hF3, hb3⟩
    have bd3 := bd1.trans (hb3.mono bd1.size)
    obtain ⟨A3, c3, rfl, hl3, hm3, CO3, -⟩ := own3.readN
    have hi1 := (CO1.belowAt hb3).ints
    have hi3 := CO3.ints
    rw [HOL.out]
    clear own3
    go_wp2_with fail
    refine hK.out _ _ ((r2.below bd3).graph) (fun hHeld5 => ?_)
    clear hK K hHeld2
    try simp only [List.getElem_toArray, List.getElem_cons_succ, List.getElem_cons_zero, Act.put, List.setIfInBounds_toArray, List.set_cons_zero, List.set_cons_succ]
    refine wpAnyH_ready (rs := [6]) (by kernel_rfl) (by simp) ?_
    refine AllReadyH.cons (o := _) rfl (fun K hK => ?_) AllReadyH.nil
    go_simp
    have hil := ints_calls A1 A3 c1 c3 (toI (blocksD g.blocks.length (edgesD l g.name g.blocks))) (toI (blocksD g.blocks.length (edgesD l g.name g.blocks))) v3 hi1 hi3 (by rw [toI_len]; exact Nat.le_trans hl1 hm1)
    rw [toI_len, HOL.out, show (toI (blocksD g.blocks.length (edgesD l g.name g.blocks)) == toI (blocksD g.blocks.length (edgesD l g.name g.blocks))) = true from by simp] at hil
    refine hil.mono ?_
    rintro e v4 ⟨rfl, q4, rfl⟩
    have bd4 := Below.drewN bd3 q4
    go_wp2_with fail
    refine hK.out _ _ ((r2.below bd4).graph) (fun hHeld6 => ?_)
    clear hK K hHeld5
    try simp only [List.getElem_toArray, List.getElem_cons_succ, List.getElem_cons_zero, Act.put, List.setIfInBounds_toArray, List.set_cons_zero, List.set_cons_succ]
    refine wpAnyH_take (i := 7) (oi := _) (v := ?v3n1_7) rfl (by kernel_rfl) (by kernel_rfl) (by kernel_rfl) (fun _ _ _ h => h) (Or.inl ⟨by rfl, ?hy3n1_7⟩) hHeld6 ?_
    case hy3n1_7 => (intro wS hSw; (try dsimp only at hSw); obtain ⟨s0, s1, s2, s3⟩ := hSw; go_simp; try with_reducible rfl)
    try simp only [List.getElem_toArray, List.getElem_cons_succ, List.getElem_cons_zero, Act.put, List.setIfInBounds_toArray, List.set_cons_zero, List.set_cons_succ]
    refine wpAnyH_done (by kernel_rfl) ?_ _
    go_wp2_with fail
    go_ret
    exact ⟨rfl, t2.trans (bd4.mono t2.size)⟩
end Go.Proofs.Ythnkikdbllkmkaa
