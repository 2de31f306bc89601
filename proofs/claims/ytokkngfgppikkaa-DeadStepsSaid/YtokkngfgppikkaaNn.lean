/- DeadGraphs returns true: for every graph, right and small, what the program's Thread, Trim, Sweep and Graph answer is the same as what the document's answer. Printed by genNn.py of this repository. -/
import Derived.Test.YtokkngfgppikkaaNm
namespace Go.Proofs.Ytokkngfgppikkaa
set_option linter.unusedVariables false
set_option linter.unusedSimpArgs false
open Go.RowKit

theorem fineB_parts {bs : List Block} (h : fineB bs = true) : blocksFew bs = true ∧ bs.length ≤ 30 ∧ opsN bs ≤ 60 ∧ blocksRight bs 1000 1000 = true := by
  unfold fineB at h
  rw [Bool.and_eq_true, Bool.and_eq_true, Bool.and_eq_true, decide_eq_true_eq, decide_eq_true_eq] at h
  exact ⟨h.1.1.1, h.1.1.2, h.1.2, h.2⟩
theorem len_read {w : World} {A : Option Addr} {c : Nat} {bs : List Block} {F : Nat → Prop} (h : OwnF oBlock 42 w (.slice A bs.length c) bs F) : bs.length ≤ maxLen := by
  obtain ⟨A', c', e, l, m, -⟩ := h.read
  exact Nat.le_trans l m

set_option maxHeartbeats 8000000 in
set_option maxRecDepth 100000 in
theorem deadGraphs_law (w : World) (g : Graph) (wf : g.wf) (A : Option Addr) (c : Nat) (hlc : g.blocks.length ≤ c) (hcm : c ≤ maxLen) (hC : kBlock.C w A g.blocks) : Calls Try.prog 8 #[.agg #[.string g.name, .bool g.keep, .bool g.leaf, .slice A g.blocks.length c]] w fun e w' => e = .returned (.bool true) ∧ Below w.heap.size w w' := by
  clear wf
  have hlm := Nat.le_trans hlc hcm
  have hlm' : g.blocks.length ≤ 9223372036854775807 := hlm
  have b0 := below_alloc' w (.cells #[.string g.name, .bool g.keep, .bool g.leaf, .slice A g.blocks.length c] 33)
  have r0 : Row (w.alloc (.cells #[.string g.name, .bool g.keep, .bool g.leaf, .slice A g.blocks.length c] 33)) w.heap.size 33 (graphCells (.slice A g.blocks.length c) g) := Row.new w _ _
  cases hf : fineB g.blocks with
  | false =>
    have HF := Lib.hid hf
    clear hf
    go_enter Try.func8, Try.ntmps8
    go_upto_region 1 with fail
    generalize w.alloc (.cells #[.string g.name, .bool g.keep, .bool g.leaf, .slice A g.blocks.length c] 33) = W at *
    go_wp2_with fail
    refine (awake22_calls _).mono ?_
    rintro e w1 ⟨rfl, hb1⟩
    have r1 := r0.below hb1
    obtain ⟨x0, x1, x2, x3⟩ := r1.graph
    have t1 := b0.trans (hb1.mono b0.size)
    go_wp2_with fail
    refine (fine22_calls _ _ _ _ _ _ _ (Kd.C_mono t1 hC) hlm).mono ?_
    rw [HF.out]
    rintro e w2 ⟨rfl, hb2⟩
    have t2 := t1.trans (hb2.mono t1.size)
    have r2 := r1.below hb2
    clear x0 x1 x2 x3
    obtain ⟨x0, x1, x2, x3⟩ := r2.graph
    go_wp2_with fail
    refine (awake22_calls _).mono ?_
    rintro e w3 ⟨rfl, hb3⟩
    go_wp2_with fail
    go_ret
    exact ⟨rfl, t2.trans (hb3.mono t2.size)⟩
  | true =>
    have HF := Lib.hid hf
    obtain ⟨hfw, h30, h60, hright⟩ := fineB_parts hf
    have hok : BsOk g.blocks := ⟨1000, 1000, hright⟩
    have hpos := (blocksRight_iff.1 hright).2
    have h300 := (blocksFew_parts hfw).2
    have hl : g.blocks.length ≤ 1000 := by omega
    have HFW := Lib.hid hfw
    have HR := Lib.hid hright
    have HOK := Lib.hid hok
    have H3 := Lib.hid h300
    have HLEAD := Lib.hid hok.leads
    clear hf hfw hright hok h300
    go_enter Try.func8, Try.ntmps8
    go_upto_region 1 with fail
    generalize w.alloc (.cells #[.string g.name, .bool g.keep, .bool g.leaf, .slice A g.blocks.length c] 33) = W at *
    go_wp2_with fail
    refine (awake22_calls _).mono ?_
    rintro e w1 ⟨rfl, hb1⟩
    have r1 := r0.below hb1
    obtain ⟨x0, x1, x2, x3⟩ := r1.graph
    have t1 := b0.trans (hb1.mono b0.size)
    go_wp2_with fail
    refine (fine22_calls _ _ _ _ _ _ _ (Kd.C_mono t1 hC) hlm).mono ?_
    rw [HF.out]
    rintro e w2 ⟨rfl, hb2⟩
    have t2 := t1.trans (hb2.mono t1.size)
    have r2 := r1.below hb2
    clear x0 x1 x2 x3
    obtain ⟨x0, x1, x2, x3⟩ := r2.graph
    have C2 := Kd.C_mono t2 hC
    clear hb1 hb2 t1 r0 r1 b0 hC
    clear x0 x1 x2 x3
    go_upto_region 3 with fail
    refine wp_region_held_drew (S := (fun w' => SGr w' w.heap.size (.slice A g.blocks.length c) g)) (by kernel_rfl) (r2.graph) (fun hHeld => ?_)
    refine wpAnyH_take (i := 0) (oi := _) (v := ?v3m1_1) rfl (by kernel_rfl) (by kernel_rfl) (by kernel_rfl) (fun _ _ _ h => h) (Or.inl ⟨by rfl, ?hy3m1_1⟩) hHeld ?_
    case hy3m1_1 => (intro wS hSw; (try dsimp only at hSw); obtain ⟨s0, s1, s2, s3⟩ := hSw; go_simp; try with_reducible rfl)
    try simp only [List.getElem_toArray, List.getElem_cons_succ, List.getElem_cons_zero, Act.put, List.setIfInBounds_toArray, List.set_cons_zero, List.set_cons_succ]
    refine wpAnyH_take (i := 2) (oi := _) (v := ?v3m1_2) rfl (by kernel_rfl) (by kernel_rfl) (by kernel_rfl) (fun _ _ _ h => h) (Or.inl ⟨by rfl, ?hy3m1_2⟩) hHeld ?_
    case hy3m1_2 => (intro wS hSw; (try dsimp only at hSw); obtain ⟨s0, s1, s2, s3⟩ := hSw; go_simp; try with_reducible rfl)
    try simp only [List.getElem_toArray, List.getElem_cons_succ, List.getElem_cons_zero, Act.put, List.setIfInBounds_toArray, List.set_cons_zero, List.set_cons_succ]
    refine wpAnyH_ready (rs := [1]) (by kernel_rfl) (by simp) ?_
    refine (AllReadyH.cons (o := _) rfl (fun K hK => ?_) AllReadyH.nil)
    go_simp
    refine (thread_calls g.name g.keep g.leaf _ c g.blocks _ (Kd.C_mono (Below.refl w2.heap.size w2).drew C2) hl H3.out HLEAD.out).mono ?_
    rintro e v1 ⟨AP1, cc1, FP1, rfl, op1, -, hb1⟩
    have bd1 : Below w2.heap.size w2 v1 := (Below.refl w2.heap.size w2).drew.trans hb1
    have cp1 := own_bs_read op1
    clear op1
    go_wp2_with fail
    refine hK.out _ _ ((r2.below bd1).graph) (fun hHeld3 => ?_)
    clear hK K hHeld
    try simp only [List.getElem_toArray, List.getElem_cons_succ, List.getElem_cons_zero, Act.put, List.setIfInBounds_toArray, List.set_cons_zero, List.set_cons_succ]
    refine wpAnyH_ready (rs := [3]) (by kernel_rfl) (by simp) ?_
    refine (AllReadyH.cons (o := _) rfl (fun K hK => ?_) AllReadyH.nil)
    go_simp
    refine (refThread_calls g.name g.keep g.leaf _ c g.blocks _ (Kd.C_mono bd1 C2) hl HFW.out HLEAD.out).mono ?_
    rintro e v3 ⟨AQ3, cc3, FQ3, rfl, oq3, -, hb3⟩
    have bd3 := bd1.trans (hb3.mono bd1.size)
    have cp3 := Kd.C_mono hb3 cp1
    have cq3 := own_bs_read oq3
    clear oq3 cp1
    go_wp2_with fail
    refine hK.out _ _ ((r2.below bd3).graph) (fun hHeld4 => ?_)
    clear hK K hHeld3
    try simp only [List.getElem_toArray, List.getElem_cons_succ, List.getElem_cons_zero, Act.put, List.setIfInBounds_toArray, List.set_cons_zero, List.set_cons_succ]
    refine wpAnyH_ready (rs := [4]) (by kernel_rfl) (by simp) ?_
    refine (AllReadyH.cons (o := _) rfl (fun K hK => ?_) AllReadyH.nil)
    go_simp
    refine (same_calls _ _ _ _ _ _ _ (threadBs g.blocks) _ cp3 cq3 (by rw [threadBs_len]; exact hlm)).mono ?_
    rintro e v4 ⟨rfl, hb4⟩
    have bd4 := bd3.trans (hb4.mono bd3.size)
    clear cp3 cq3
    go_wp2_with fail
    refine hK.out _ _ ((r2.below bd4).graph) (fun hHeld5 => ?_)
    clear hK K hHeld4
    try simp only [List.getElem_toArray, List.getElem_cons_succ, List.getElem_cons_zero, Act.put, List.setIfInBounds_toArray, List.set_cons_zero, List.set_cons_succ]
    refine wpAnyH_take (i := 5) (oi := _) (v := ?v3m1_6) rfl (by kernel_rfl) (by kernel_rfl) (by kernel_rfl) (fun _ _ _ h => h) (Or.inl ⟨by rfl, ?hy3m1_6⟩) hHeld5 ?_
    case hy3m1_6 => (intro wS hSw; (try dsimp only at hSw); obtain ⟨s0, s1, s2, s3⟩ := hSw; go_simp; try with_reducible rfl)
    try simp only [List.getElem_toArray, List.getElem_cons_succ, List.getElem_cons_zero, Act.put, List.setIfInBounds_toArray, List.set_cons_zero, List.set_cons_succ]
    refine wpAnyH_take (i := 6) (oi := _) (v := ?v3m1_7) rfl (by kernel_rfl) (by kernel_rfl) (by kernel_rfl) (fun _ _ _ h => h) (Or.inl ⟨by rfl, ?hy3m1_7⟩) hHeld5 ?_
    case hy3m1_7 => (intro wS hSw; (try dsimp only at hSw); obtain ⟨s0, s1, s2, s3⟩ := hSw; go_simp; try with_reducible rfl)
    try simp only [List.getElem_toArray, List.getElem_cons_succ, List.getElem_cons_zero, Act.put, List.setIfInBounds_toArray, List.set_cons_zero, List.set_cons_succ]
    refine wpAnyH_take (i := 8) (oi := _) (v := ?v3m1_8) rfl (by kernel_rfl) (by kernel_rfl) (by kernel_rfl) (fun _ _ _ h => h) (Or.inl ⟨by rfl, ?hy3m1_8⟩) hHeld5 ?_
    case hy3m1_8 => (intro wS hSw; (try dsimp only at hSw); obtain ⟨s0, s1, s2, s3⟩ := hSw; go_simp; try with_reducible rfl)
    try simp only [List.getElem_toArray, List.getElem_cons_succ, List.getElem_cons_zero, Act.put, List.setIfInBounds_toArray, List.set_cons_zero, List.set_cons_succ]
    refine wpAnyH_ready (rs := [7]) (by kernel_rfl) (by simp) ?_
    refine (AllReadyH.cons (o := _) rfl (fun K hK => ?_) AllReadyH.nil)
    go_simp
    refine (trim_calls g.name g.keep g.leaf _ c g.blocks _ (Kd.C_mono bd4 C2) hl H3.out HLEAD.out hpos).mono ?_
    rintro e v7 ⟨sp7, hs7, AP7, cc7, FP7, rfl, op7, -, hb7⟩
    have bd7 := bd4.trans (hb7.mono bd4.size)
    have cp7 := own_bs_read op7
    clear op7
    go_wp2_with fail
    refine hK.out _ _ ((r2.below bd7).graph) (fun hHeld9 => ?_)
    clear hK K hHeld5
    try simp only [List.getElem_toArray, List.getElem_cons_succ, List.getElem_cons_zero, Act.put, List.setIfInBounds_toArray, List.set_cons_zero, List.set_cons_succ]
    refine wpAnyH_ready (rs := [9]) (by kernel_rfl) (by simp) ?_
    refine (AllReadyH.cons (o := _) rfl (fun K hK => ?_) AllReadyH.nil)
    go_simp
    refine (refTrim_calls g.name g.keep g.leaf _ c g.blocks _ (Kd.C_mono bd7 C2) hl HFW.out HLEAD.out hpos).mono ?_
    rintro e v9 ⟨sq9, hs9, AQ9, cc9, FQ9, rfl, oq9, -, hb9⟩
    have bd9 := bd7.trans (hb9.mono bd7.size)
    obtain rfl := hs7.unique hs9
    have hle9 := trimBs_le (bs := g.blocks) hs9.1
    clear hs9 hs7
    have cp9 := Kd.C_mono hb9 cp7
    have cq9 := own_bs_read oq9
    clear oq9 cp7
    go_wp2_with fail
    refine hK.out _ _ ((r2.below bd9).graph) (fun hHeld10 => ?_)
    clear hK K hHeld9
    try simp only [List.getElem_toArray, List.getElem_cons_succ, List.getElem_cons_zero, Act.put, List.setIfInBounds_toArray, List.set_cons_zero, List.set_cons_succ]
    refine wpAnyH_ready (rs := [10]) (by kernel_rfl) (by simp) ?_
    refine (AllReadyH.cons (o := _) rfl (fun K hK => ?_) AllReadyH.nil)
    go_simp
    refine (same_calls _ _ _ _ _ _ _ _ _ cp9 cq9 (Nat.le_trans hle9 hlm)).mono ?_
    rintro e v10 ⟨rfl, hb10⟩
    have bd10 := bd9.trans (hb10.mono bd9.size)
    clear cp9 cq9
    go_wp2_with fail
    refine hK.out _ _ ((r2.below bd10).graph) (fun hHeld11 => ?_)
    clear hK K hHeld10
    try simp only [List.getElem_toArray, List.getElem_cons_succ, List.getElem_cons_zero, Act.put, List.setIfInBounds_toArray, List.set_cons_zero, List.set_cons_succ]
    refine wpAnyH_take (i := 11) (oi := _) (v := ?v3m1_12) rfl (by kernel_rfl) (by kernel_rfl) (by kernel_rfl) (fun _ _ _ h => h) (Or.inl ⟨by rfl, ?hy3m1_12⟩) hHeld11 ?_
    case hy3m1_12 => (intro wS hSw; (try dsimp only at hSw); obtain ⟨s0, s1, s2, s3⟩ := hSw; go_simp; try with_reducible rfl)
    try simp only [List.getElem_toArray, List.getElem_cons_succ, List.getElem_cons_zero, Act.put, List.setIfInBounds_toArray, List.set_cons_zero, List.set_cons_succ]
    refine wpAnyH_take (i := 12) (oi := _) (v := ?v3m1_13) rfl (by kernel_rfl) (by kernel_rfl) (by kernel_rfl) (fun _ _ _ h => h) (Or.inl ⟨by rfl, ?hy3m1_13⟩) hHeld11 ?_
    case hy3m1_13 => (intro wS hSw; (try dsimp only at hSw); obtain ⟨s0, s1, s2, s3⟩ := hSw; go_simp; try with_reducible rfl)
    try simp only [List.getElem_toArray, List.getElem_cons_succ, List.getElem_cons_zero, Act.put, List.setIfInBounds_toArray, List.set_cons_zero, List.set_cons_succ]
    refine wpAnyH_take (i := 13) (oi := _) (v := ?v3m1_14) rfl (by kernel_rfl) (by kernel_rfl) (by kernel_rfl) (fun _ _ _ h => h) (Or.inl ⟨by rfl, ?hy3m1_14⟩) hHeld11 ?_
    case hy3m1_14 => (intro wS hSw; (try dsimp only at hSw); obtain ⟨s0, s1, s2, s3⟩ := hSw; go_simp; try with_reducible rfl)
    try simp only [List.getElem_toArray, List.getElem_cons_succ, List.getElem_cons_zero, Act.put, List.setIfInBounds_toArray, List.set_cons_zero, List.set_cons_succ]
    refine wpAnyH_take (i := 15) (oi := _) (v := ?v3m1_15) rfl (by kernel_rfl) (by kernel_rfl) (by kernel_rfl) (fun _ _ _ h => h) (Or.inl ⟨by rfl, ?hy3m1_15⟩) hHeld11 ?_
    case hy3m1_15 => (intro wS hSw; (try dsimp only at hSw); obtain ⟨s0, s1, s2, s3⟩ := hSw; go_simp; try with_reducible rfl)
    try simp only [List.getElem_toArray, List.getElem_cons_succ, List.getElem_cons_zero, Act.put, List.setIfInBounds_toArray, List.set_cons_zero, List.set_cons_succ]
    refine wpAnyH_ready (rs := [14]) (by kernel_rfl) (by simp) ?_
    refine (AllReadyH.cons (o := _) rfl (fun K hK => ?_) AllReadyH.nil)
    go_simp
    refine (sweep_calls g.name g.keep g.leaf _ c g.blocks _ (Kd.C_mono bd10 C2) hl H3.out HOK.out).mono ?_
    rintro e v14 ⟨sp14, hs14, AP14, cc14, FP14, rfl, op14, -, hb14⟩
    have bd14 := bd10.trans (hb14.mono bd10.size)
    have cp14 := own_bs_read op14
    clear op14
    go_wp2_with fail
    refine hK.out _ _ ((r2.below bd14).graph) (fun hHeld16 => ?_)
    clear hK K hHeld11
    try simp only [List.getElem_toArray, List.getElem_cons_succ, List.getElem_cons_zero, Act.put, List.setIfInBounds_toArray, List.set_cons_zero, List.set_cons_succ]
    refine wpAnyH_ready (rs := [16]) (by kernel_rfl) (by simp) ?_
    refine (AllReadyH.cons (o := _) rfl (fun K hK => ?_) AllReadyH.nil)
    go_simp
    refine (refSweep_calls g.name g.keep g.leaf _ c g.blocks _ (Kd.C_mono bd14 C2) hl HFW.out HOK.out).mono ?_
    rintro e v16 ⟨sq16, hs16, AQ16, cc16, FQ16, rfl, oq16, -, hb16⟩
    have bd16 := bd14.trans (hb16.mono bd14.size)
    obtain rfl := hs14.unique HOK.out hs16
    have hle16 := hs16.1.len
    have hle16b : sp14.length ≤ maxLen := by rw [hle16]; exact hlm
    clear hs16 hs14 hle16
    have cp16 := Kd.C_mono hb16 cp14
    have cq16 := own_bs_read oq16
    clear oq16 cp14
    go_wp2_with fail
    refine hK.out _ _ ((r2.below bd16).graph) (fun hHeld17 => ?_)
    clear hK K hHeld16
    try simp only [List.getElem_toArray, List.getElem_cons_succ, List.getElem_cons_zero, Act.put, List.setIfInBounds_toArray, List.set_cons_zero, List.set_cons_succ]
    refine wpAnyH_ready (rs := [17]) (by kernel_rfl) (by simp) ?_
    refine (AllReadyH.cons (o := _) rfl (fun K hK => ?_) AllReadyH.nil)
    go_simp
    refine (same_calls _ _ _ _ _ _ _ _ _ cp16 cq16 hle16b).mono ?_
    rintro e v17 ⟨rfl, hb17⟩
    have bd17 := bd16.trans (hb17.mono bd16.size)
    clear cp16 cq16
    go_wp2_with fail
    refine hK.out _ _ ((r2.below bd17).graph) (fun hHeld18 => ?_)
    clear hK K hHeld17
    try simp only [List.getElem_toArray, List.getElem_cons_succ, List.getElem_cons_zero, Act.put, List.setIfInBounds_toArray, List.set_cons_zero, List.set_cons_succ]
    refine wpAnyH_take (i := 18) (oi := _) (v := ?v3m1_19) rfl (by kernel_rfl) (by kernel_rfl) (by kernel_rfl) (fun _ _ _ h => h) (Or.inl ⟨by rfl, ?hy3m1_19⟩) hHeld18 ?_
    case hy3m1_19 => (intro wS hSw; (try dsimp only at hSw); obtain ⟨s0, s1, s2, s3⟩ := hSw; go_simp; try with_reducible rfl)
    try simp only [List.getElem_toArray, List.getElem_cons_succ, List.getElem_cons_zero, Act.put, List.setIfInBounds_toArray, List.set_cons_zero, List.set_cons_succ]
    refine wpAnyH_take (i := 19) (oi := _) (v := ?v3m1_20) rfl (by kernel_rfl) (by kernel_rfl) (by kernel_rfl) (fun _ _ _ h => h) (Or.inl ⟨by rfl, ?hy3m1_20⟩) hHeld18 ?_
    case hy3m1_20 => (intro wS hSw; (try dsimp only at hSw); obtain ⟨s0, s1, s2, s3⟩ := hSw; go_simp; try with_reducible rfl)
    try simp only [List.getElem_toArray, List.getElem_cons_succ, List.getElem_cons_zero, Act.put, List.setIfInBounds_toArray, List.set_cons_zero, List.set_cons_succ]
    refine wpAnyH_take (i := 20) (oi := _) (v := ?v3m1_21) rfl (by kernel_rfl) (by kernel_rfl) (by kernel_rfl) (fun _ _ _ h => h) (Or.inl ⟨by rfl, ?hy3m1_21⟩) hHeld18 ?_
    case hy3m1_21 => (intro wS hSw; (try dsimp only at hSw); obtain ⟨s0, s1, s2, s3⟩ := hSw; go_simp; try with_reducible rfl)
    try simp only [List.getElem_toArray, List.getElem_cons_succ, List.getElem_cons_zero, Act.put, List.setIfInBounds_toArray, List.set_cons_zero, List.set_cons_succ]
    refine wpAnyH_take (i := 22) (oi := _) (v := ?v3m1_22) rfl (by kernel_rfl) (by kernel_rfl) (by kernel_rfl) (fun _ _ _ h => h) (Or.inl ⟨by rfl, ?hy3m1_22⟩) hHeld18 ?_
    case hy3m1_22 => (intro wS hSw; (try dsimp only at hSw); obtain ⟨s0, s1, s2, s3⟩ := hSw; go_simp; try with_reducible rfl)
    try simp only [List.getElem_toArray, List.getElem_cons_succ, List.getElem_cons_zero, Act.put, List.setIfInBounds_toArray, List.set_cons_zero, List.set_cons_succ]
    refine wpAnyH_ready (rs := [21]) (by kernel_rfl) (by simp) ?_
    refine (AllReadyH.cons (o := _) rfl (fun K hK => ?_) AllReadyH.nil)
    go_simp
    refine (deadGraph_calls g.name g.keep g.leaf _ c g.blocks _ (Kd.C_mono bd17 C2) HFW.out HOK.out hpos).mono ?_
    rintro e v21 ⟨sp21, hs21, AP21, cc21, FP21, rfl, op21, -, hb21⟩
    have bd21 := bd17.trans (hb21.mono bd17.size)
    have cp21 := own_bs_read op21
    clear op21
    go_wp2_with fail
    refine hK.out _ _ ((r2.below bd21).graph) (fun hHeld23 => ?_)
    clear hK K hHeld18
    try simp only [List.getElem_toArray, List.getElem_cons_succ, List.getElem_cons_zero, Act.put, List.setIfInBounds_toArray, List.set_cons_zero, List.set_cons_succ]
    refine wpAnyH_ready (rs := [23]) (by kernel_rfl) (by simp) ?_
    refine (AllReadyH.cons (o := _) rfl (fun K hK => ?_) AllReadyH.nil)
    go_simp
    refine (refDeadGraph_calls g.name g.keep g.leaf _ c g.blocks _ (Kd.C_mono bd21 C2) HFW.out HOK.out hpos).mono ?_
    rintro e v23 ⟨sq23, hs23, AQ23, cc23, FQ23, rfl, oq23, -, hb23⟩
    have bd23 := bd21.trans (hb23.mono bd21.size)
    obtain rfl := hs21.unique HOK.out hs23
    have hle23 := len_read oq23
    clear hs23 hs21
    have cp23 := Kd.C_mono hb23 cp21
    have cq23 := own_bs_read oq23
    clear oq23 cp21
    go_wp2_with fail
    refine hK.out _ _ ((r2.below bd23).graph) (fun hHeld24 => ?_)
    clear hK K hHeld23
    try simp only [List.getElem_toArray, List.getElem_cons_succ, List.getElem_cons_zero, Act.put, List.setIfInBounds_toArray, List.set_cons_zero, List.set_cons_succ]
    refine wpAnyH_ready (rs := [24]) (by kernel_rfl) (by simp) ?_
    refine (AllReadyH.cons (o := _) rfl (fun K hK => ?_) AllReadyH.nil)
    go_simp
    refine (same_calls _ _ _ _ _ _ _ _ _ cp23 cq23 hle23).mono ?_
    rintro e v24 ⟨rfl, hb24⟩
    have bd24 := bd23.trans (hb24.mono bd23.size)
    clear cp23 cq23
    go_wp2_with fail
    refine hK.out _ _ ((r2.below bd24).graph) (fun hHeld25 => ?_)
    clear hK K hHeld24
    try simp only [List.getElem_toArray, List.getElem_cons_succ, List.getElem_cons_zero, Act.put, List.setIfInBounds_toArray, List.set_cons_zero, List.set_cons_succ]
    refine wpAnyH_take (i := 25) (oi := _) (v := ?v3m1_26) rfl (by kernel_rfl) (by kernel_rfl) (by kernel_rfl) (fun _ _ _ h => h) (Or.inl ⟨by rfl, ?hy3m1_26⟩) hHeld25 ?_
    case hy3m1_26 => (intro wS hSw; (try dsimp only at hSw); obtain ⟨s0, s1, s2, s3⟩ := hSw; go_simp; try with_reducible rfl)
    try simp only [List.getElem_toArray, List.getElem_cons_succ, List.getElem_cons_zero, Act.put, List.setIfInBounds_toArray, List.set_cons_zero, List.set_cons_succ]
    refine wpAnyH_take (i := 26) (oi := _) (v := ?v3m1_27) rfl (by kernel_rfl) (by kernel_rfl) (by kernel_rfl) (fun _ _ _ h => h) (Or.inl ⟨by rfl, ?hy3m1_27⟩) hHeld25 ?_
    case hy3m1_27 => (intro wS hSw; (try dsimp only at hSw); obtain ⟨s0, s1, s2, s3⟩ := hSw; go_simp; try with_reducible rfl)
    try simp only [List.getElem_toArray, List.getElem_cons_succ, List.getElem_cons_zero, Act.put, List.setIfInBounds_toArray, List.set_cons_zero, List.set_cons_succ]
    refine wpAnyH_done (by kernel_rfl) ?_ _
    go_wp2_with fail
    go_ret
    exact ⟨rfl, t2.trans (bd24.mono t2.size)⟩
end Go.Proofs.Ytokkngfgppikkaa
