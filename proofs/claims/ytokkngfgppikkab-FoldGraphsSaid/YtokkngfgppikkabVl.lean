/- FoldGraphs returns true: for every graph, right and small, what the program's fold.Graph answers is the same as what the document's answer is. Printed by genVl.py of this repository. -/
import Derived.Test.YtokkngfgppikkabVk
namespace Go.Proofs.Ytokkngfgppikkab
set_option linter.unusedVariables false
set_option linter.unusedSimpArgs false
open Go.RowKit

theorem refFold_calls (nm : ByteArray) (kp lf : Bool) (A : Option Addr) (c : Nat) (bs : List Block) (w : World) (hC : kBlock.C w A bs) (hl : bs.length ≤ 1000) (hfew : blocksFew bs = true) (hok : BsOk bs) (h300 : ∀ b ∈ bs, b.ops.length ≤ 300) (hpos : 0 < bs.length) : Calls Try.prog 26 #[.agg #[.string nm, .bool kp, .bool lf, .slice A bs.length c]] w fun e w' =>
    ∃ L, FoldR kp bs L ∧ CopiedG nm kp lf L w e w' := by
  cases kp with
  | true =>
    refine (refFold_true nm lf A c bs w hC hl hfew hok h300 hpos).mono ?_
    intro e w' h
    exact ⟨bs, rfl, h⟩
  | false =>
    refine (refFold_false nm lf A c bs w hC hl hfew hok h300 hpos).mono ?_
    rintro e w' ⟨ins, h1, h2⟩
    exact ⟨_, (by unfold FoldR; rw [if_neg (by decide)]; exact ⟨ins, h1, rfl⟩), h2⟩
theorem FoldR.unique {kp : Bool} {bs L M : List Block} (h : FoldR kp bs L) (h2 : FoldR kp bs M) : M = L := by
  unfold FoldR at h h2
  split at h
  · rename_i hk
    rw [if_pos hk] at h2
    rw [h, h2]
  · rename_i hk
    rw [if_neg hk] at h2
    obtain ⟨ins, h1, rfl⟩ := h
    obtain ⟨ys, h3, rfl⟩ := h2
    rw [IsAt.unique h1 h3]

set_option maxHeartbeats 8000000 in
set_option maxRecDepth 100000 in
theorem foldGraphs_law (w : World) (g : Graph) (wf : g.wf) (A : Option Addr) (c : Nat) (hlc : g.blocks.length ≤ c) (hcm : c ≤ maxLen) (hC : kBlock.C w A g.blocks) : Calls Try.prog 8 #[.agg #[.string g.name, .bool g.keep, .bool g.leaf, .slice A g.blocks.length c]] w fun e w' => e = .returned (.bool true) ∧ Below w.heap.size w w' := by
  clear wf
  have hlm := Nat.le_trans hlc hcm
  have hlm' : g.blocks.length ≤ 9223372036854775807 := hlm
  have b0 := below_alloc' w (.cells #[.string g.name, .bool g.keep, .bool g.leaf, .slice A g.blocks.length c] 24)
  have r0 : Row (w.alloc (.cells #[.string g.name, .bool g.keep, .bool g.leaf, .slice A g.blocks.length c] 24)) w.heap.size 24 (graphCells (.slice A g.blocks.length c) g) := Row.new w _ _
  cases hf : fine21B g.blocks with
  | false =>
    have HF := Lib.hid hf
    clear hf
    go_enter Try.func8, Try.ntmps8
    go_upto_region 1 with fail
    generalize w.alloc (.cells #[.string g.name, .bool g.keep, .bool g.leaf, .slice A g.blocks.length c] 24) = W at *
    go_wp2_with fail
    refine (awake21_calls _).mono ?_
    rintro e w1 ⟨rfl, hb1⟩
    have r1 := r0.below hb1
    obtain ⟨x0, x1, x2, x3⟩ := r1.graph
    have t1 := b0.trans (hb1.mono b0.size)
    go_wp2_with fail
    refine (fine21_calls _ _ _ _ _ _ _ (Kd.C_mono t1 hC) hlm).mono ?_
    rw [HF.out]
    rintro e w2 ⟨rfl, hb2⟩
    have t2 := t1.trans (hb2.mono t1.size)
    have r2 := r1.below hb2
    clear x0 x1 x2 x3
    obtain ⟨x0, x1, x2, x3⟩ := r2.graph
    go_wp2_with fail
    refine (awake21_calls _).mono ?_
    rintro e w3 ⟨rfl, hb3⟩
    go_wp2_with fail
    go_ret
    exact ⟨rfl, t2.trans (hb3.mono t2.size)⟩
  | true =>
    have HF := Lib.hid hf
    obtain ⟨hfw, h60, hright⟩ := fine21_parts hf
    have hok : BsOk g.blocks := ⟨1000, 1000, hright⟩
    have hpos := (blocksRight_iff.1 hright).2
    have h300 := (blocksFew_parts hfw).2
    have hl : g.blocks.length ≤ 1000 := by omega
    have HFW := Lib.hid hfw
    have HR := Lib.hid hright
    have HOK := Lib.hid hok
    have H3 := Lib.hid h300
    clear hf hfw hright hok h300
    go_enter Try.func8, Try.ntmps8
    go_upto_region 1 with fail
    generalize w.alloc (.cells #[.string g.name, .bool g.keep, .bool g.leaf, .slice A g.blocks.length c] 24) = W at *
    go_wp2_with fail
    refine (awake21_calls _).mono ?_
    rintro e w1 ⟨rfl, hb1⟩
    have r1 := r0.below hb1
    obtain ⟨x0, x1, x2, x3⟩ := r1.graph
    have t1 := b0.trans (hb1.mono b0.size)
    go_wp2_with fail
    refine (fine21_calls _ _ _ _ _ _ _ (Kd.C_mono t1 hC) hlm).mono ?_
    rw [HF.out]
    rintro e w2 ⟨rfl, hb2⟩
    have t2 := t1.trans (hb2.mono t1.size)
    have r2 := r1.below hb2
    clear x0 x1 x2 x3
    obtain ⟨x0, x1, x2, x3⟩ := r2.graph
    have C2 := Kd.C_mono t2 hC
    clear hb1 hb2 t1 r0 r1 b0 hC
    clear x0 x1 x2 x3
    go_upto_region 3 with fail
    refine wp_region_held_drew (S := (fun w' => w'.cell? ⟨w.heap.size, 0, none⟩ = some (.string g.name) ∧ w'.cell? ⟨w.heap.size, 1, none⟩ = some (.bool g.keep) ∧ w'.cell? ⟨w.heap.size, 2, none⟩ = some (.bool g.leaf) ∧ w'.cell? ⟨w.heap.size, 3, none⟩ = some (.slice A g.blocks.length c))) (by kernel_rfl) (r2.graph) (fun hHeld => ?_)
    refine wpAnyH_take (i := 0) (oi := _) (v := ?v3m1_1) rfl (by kernel_rfl) (by kernel_rfl) (by kernel_rfl) (fun _ _ _ h => h) (Or.inl ⟨by rfl, ?hy3m1_1⟩) hHeld ?_
    case hy3m1_1 => (intro wS hSw; (try dsimp only at hSw); obtain ⟨s0, s1, s2, s3⟩ := hSw; go_simp; try with_reducible rfl)
    try simp only [List.getElem_toArray, List.getElem_cons_succ, List.getElem_cons_zero, Act.put, List.setIfInBounds_toArray, List.set_cons_zero, List.set_cons_succ]
    refine wpAnyH_take (i := 2) (oi := _) (v := ?v3m1_2) rfl (by kernel_rfl) (by kernel_rfl) (by kernel_rfl) (fun _ _ _ h => h) (Or.inl ⟨by rfl, ?hy3m1_2⟩) hHeld ?_
    case hy3m1_2 => (intro wS hSw; (try dsimp only at hSw); obtain ⟨s0, s1, s2, s3⟩ := hSw; go_simp; try with_reducible rfl)
    try simp only [List.getElem_toArray, List.getElem_cons_succ, List.getElem_cons_zero, Act.put, List.setIfInBounds_toArray, List.set_cons_zero, List.set_cons_succ]
    refine wpAnyH_ready (rs := [1]) (by kernel_rfl) (by simp) ?_
    refine (AllReadyH.cons (o := _) rfl (fun K hK => ?_) AllReadyH.nil)
    go_simp
    refine (foldgraph_calls g.name g.keep g.leaf _ c g.blocks _ (Kd.C_mono (Below.refl w2.heap.size w2).drew C2) hl HOK.out H3.out hpos).mono ?_
    rintro e v1 ⟨L, hD, A1, c1, F1, rfl, own1, -, hb1⟩
    have bd1 : Below w2.heap.size w2 v1 := (Below.refl w2.heap.size w2).drew.trans hb1
    have C1 := own_bsF own1
    have hlm1 : L.length ≤ maxLen := by (have := hD.len; omega)
    clear own1
    go_wp2_with fail
    refine hK.out _ _ ((r2.below bd1).graph) (fun hHeld3 => ?_)
    clear hK K hHeld
    try simp only [List.getElem_toArray, List.getElem_cons_succ, List.getElem_cons_zero, Act.put, List.setIfInBounds_toArray, List.set_cons_zero, List.set_cons_succ]
    refine wpAnyH_ready (rs := [3]) (by kernel_rfl) (by simp) ?_
    refine (AllReadyH.cons (o := _) rfl (fun K hK => ?_) AllReadyH.nil)
    go_simp
    refine (refFold_calls g.name g.keep g.leaf _ c g.blocks _ (Kd.C_mono bd1 C2) hl HFW.out HOK.out H3.out hpos).mono ?_
    rintro e v3 ⟨L2, hD2, A3, c3, F3, rfl, own3, -, hb3⟩
    have bd3 := bd1.trans (hb3.mono bd1.size)
    obtain rfl := FoldR.unique hD hD2
    have C13 := Kd.C_mono hb3 C1
    have C3 := own_bsF own3
    clear own3 hD2 hD C1
    go_wp2_with fail
    refine hK.out _ _ ((r2.below bd3).graph) (fun hHeld4 => ?_)
    clear hK K hHeld3
    try simp only [List.getElem_toArray, List.getElem_cons_succ, List.getElem_cons_zero, Act.put, List.setIfInBounds_toArray, List.set_cons_zero, List.set_cons_succ]
    refine wpAnyH_ready (rs := [4]) (by kernel_rfl) (by simp) ?_
    refine (AllReadyH.cons (o := _) rfl (fun K hK => ?_) AllReadyH.nil)
    go_simp
    refine (same_calls _ _ _ _ _ _ _ _ _ C13 C3 hlm1).mono ?_
    rintro e v4 ⟨rfl, hb4⟩
    have bd4 := bd3.trans (hb4.mono bd3.size)
    go_wp2_with fail
    refine hK.out _ _ ((r2.below bd4).graph) (fun hHeld5 => ?_)
    clear hK K hHeld4
    try simp only [List.getElem_toArray, List.getElem_cons_succ, List.getElem_cons_zero, Act.put, List.setIfInBounds_toArray, List.set_cons_zero, List.set_cons_succ]
    refine wpAnyH_take (i := 5) (oi := _) (v := ?v3m1_6) rfl (by kernel_rfl) (by kernel_rfl) (by kernel_rfl) (fun _ _ _ h => h) (Or.inl ⟨by rfl, ?hy3m1_6⟩) hHeld5 ?_
    case hy3m1_6 => (intro wS hSw; (try dsimp only at hSw); obtain ⟨s0, s1, s2, s3⟩ := hSw; go_simp; try with_reducible rfl)
    try simp only [List.getElem_toArray, List.getElem_cons_succ, List.getElem_cons_zero, Act.put, List.setIfInBounds_toArray, List.set_cons_zero, List.set_cons_succ]
    refine wpAnyH_done (by kernel_rfl) ?_ _
    go_wp2_with fail
    go_ret
    exact ⟨rfl, t2.trans (bd4.mono t2.size)⟩
end Go.Proofs.Ytokkngfgppikkab
