/- DeadLess returns true: for every graph, right and small, what Graph answers is right, with no more blocks and no more instructions, its name kept; one that is Keep stays; trimmed once more it is the same. Printed by genNo.py of this repository. -/
import Derived.Test.YtokkngfgppikkaaNn
namespace Go.Proofs.Ytokkngfgppikkaa
set_option linter.unusedVariables false
set_option linter.unusedSimpArgs false
open Go.RowKit

theorem trimK_opsN {seen : List Bool} {bs : List Block} (hl : seen.length = bs.length) : ∀ k, k ≤ bs.length → opsN (trimK seen bs k) ≤ opsN (bs.take k)
  | 0, _ => by simp [trimK, opsN]
  | k + 1, hk => by
    have ih := trimK_opsN hl k (by omega)
    obtain ⟨b, hb⟩ := get_some bs k (by omega)
    obtain ⟨s, hs⟩ := get_some seen k (by omega)
    rw [opsN_succ hb]
    cases s with
    | false => rw [trimK_off hs]; omega
    | true =>
      rw [trimK_on hb hs]
      have : opsN (trimK seen bs k ++ [trimB seen b]) = opsN (trimK seen bs k) + b.ops.length := by
        unfold opsN
        rw [List.map_append, List.sum_append]
        simp [trimB]
      omega
theorem trimBs_opsN {seen : List Bool} {bs : List Block} (hl : seen.length = bs.length) : opsN (trimBs seen bs) ≤ opsN bs := by
  have := trimK_opsN hl bs.length (Nat.le_refl _)
  rw [List.take_length] at this
  exact this
theorem threadBs_opsN (bs : List Block) : opsN (threadBs bs) = opsN bs := by
  unfold opsN threadBs
  rw [List.map_map]
  rfl
/-- What Graph leaves is right, and no more. -/
theorem DeadG.less {bs bs' : List Block} {f d : Int} (hr : blocksRight bs f d = true) (h : DeadG bs bs') : blocksRight bs' f d = true ∧ bs'.length ≤ bs.length ∧ opsN bs' ≤ opsN bs ∧ (∀ n, (∀ b ∈ bs, b.ops.length ≤ n) → ∀ b ∈ bs', b.ops.length ≤ n) ∧ ∀ seen, IsReachE (TEdge bs') bs'.length 0 seen → trimBs seen bs' = bs' := by
  obtain ⟨s1, s2, sw, h1, h2, h3, rfl⟩ := h
  have r1 := trimBs_right (threadBs_right hr) h1
  have r2 := h2.1.right r1
  have r3 := threadBs_right r2
  have r4 := trimBs_right r3 h3
  have l1 := trimBs_le (bs := threadBs bs) h1.1
  rw [threadBs_len] at l1
  have l2 := h2.1.len
  have l3 := trimBs_le (bs := threadBs sw) h3.1
  rw [threadBs_len] at l3
  have o1 := trimBs_opsN (bs := threadBs bs) h1.1
  rw [threadBs_opsN] at o1
  have o2 := h2.1.opsN
  have o3 := trimBs_opsN (bs := threadBs sw) h3.1
  rw [threadBs_opsN] at o3
  refine ⟨r4, by omega, by omega, fun n hn => ?_, fun seen hs => ?_⟩
  · exact trimBs_ops (P := fun m => m ≤ n) h3.1 (threadBs_ops (P := fun m => m ≤ n) (h2.1.ops (trimBs_ops (P := fun m => m ≤ n) h1.1 (threadBs_ops (P := fun m => m ≤ n) hn))))
  · rw [trimBs_all (BsOk.leads ⟨f, d, r3⟩) h3 hs]
    exact trimBs_id (BsOk.leads ⟨f, d, r4⟩)
theorem DeadR.less {kp : Bool} {bs bs' : List Block} {f d : Int} (hr : blocksRight bs f d = true) (h : DeadR kp bs bs') : blocksRight bs' f d = true ∧ bs'.length ≤ bs.length ∧ opsN bs' ≤ opsN bs ∧ (∀ n, (∀ b ∈ bs, b.ops.length ≤ n) → ∀ b ∈ bs', b.ops.length ≤ n) := by
  cases kp with
  | true =>
    have e : bs' = bs := h
    subst e
    exact ⟨hr, Nat.le_refl _, Nat.le_refl _, fun _ h => h⟩
  | false =>
    obtain ⟨h1, h2, h3, h4, -⟩ := DeadG.less hr h
    exact ⟨h1, h2, h3, h4⟩

set_option maxHeartbeats 8000000 in
set_option maxRecDepth 100000 in
theorem deadLess_law (w : World) (g : Graph) (wf : g.wf) (A : Option Addr) (c : Nat) (hlc : g.blocks.length ≤ c) (hcm : c ≤ maxLen) (hC : kBlock.C w A g.blocks) : Calls Try.prog 9 #[.agg #[.string g.name, .bool g.keep, .bool g.leaf, .slice A g.blocks.length c]] w fun e w' => e = .returned (.bool true) ∧ Below w.heap.size w w' := by
  clear wf
  have hlm := Nat.le_trans hlc hcm
  have hlm' : g.blocks.length ≤ 9223372036854775807 := hlm
  have b0 := below_alloc' w (.cells #[.string g.name, .bool g.keep, .bool g.leaf, .slice A g.blocks.length c] 33)
  have r0 : Row (w.alloc (.cells #[.string g.name, .bool g.keep, .bool g.leaf, .slice A g.blocks.length c] 33)) w.heap.size 33 (graphCells (.slice A g.blocks.length c) g) := Row.new w _ _
  cases hf : fineB g.blocks with
  | false =>
    have HF := Lib.hid hf
    clear hf
    go_enter Try.func9, Try.ntmps9
    go_upto_region 1 with fail
    generalize w.alloc (.cells #[.string g.name, .bool g.keep, .bool g.leaf, .slice A g.blocks.length c] 33) = W at *
    go_wp2_with fail
    refine (awake22_calls _).mono ?_
    rintro e w1 ⟨rfl, hb1⟩
    have r1 := r0.below hb1
    obtain ⟨x0, x1, x2, x3⟩ := r1.graph
    have t1 := b0.trans (hb1.mono b0.size)
    go_wp2_with fail
    refine (fine22_calls _ _ _ _ _ _ _ (Kd.C_mono t1 hC) hlm).mono ?_
    rw [HF.out]
    rintro e w2 ⟨rfl, hb2⟩
    have t2 := t1.trans (hb2.mono t1.size)
    have r2 := r1.below hb2
    clear x0 x1 x2 x3
    obtain ⟨x0, x1, x2, x3⟩ := r2.graph
    go_wp2_with fail
    refine (awake22_calls _).mono ?_
    rintro e w3 ⟨rfl, hb3⟩
    go_wp2_with fail
    go_ret
    exact ⟨rfl, t2.trans (hb3.mono t2.size)⟩
  | true =>
    have HF := Lib.hid hf
    obtain ⟨hfw, h30, h60, hright⟩ := fineB_parts hf
    have hok : BsOk g.blocks := ⟨1000, 1000, hright⟩
    have hpos := (blocksRight_iff.1 hright).2
    have h300 := (blocksFew_parts hfw).2
    have hl : g.blocks.length ≤ 1000 := by omega
    have HFW := Lib.hid hfw
    have HR := Lib.hid hright
    have HOK := Lib.hid hok
    have H3 := Lib.hid h300
    have HLEAD := Lib.hid hok.leads
    clear hf hfw hright hok h300
    go_enter Try.func9, Try.ntmps9
    go_upto_region 1 with fail
    generalize w.alloc (.cells #[.string g.name, .bool g.keep, .bool g.leaf, .slice A g.blocks.length c] 33) = W at *
    go_wp2_with fail
    refine (awake22_calls _).mono ?_
    rintro e w1 ⟨rfl, hb1⟩
    have r1 := r0.below hb1
    obtain ⟨x0, x1, x2, x3⟩ := r1.graph
    have t1 := b0.trans (hb1.mono b0.size)
    go_wp2_with fail
    refine (fine22_calls _ _ _ _ _ _ _ (Kd.C_mono t1 hC) hlm).mono ?_
    rw [HF.out]
    rintro e w2 ⟨rfl, hb2⟩
    have t2 := t1.trans (hb2.mono t1.size)
    have r2 := r1.below hb2
    clear x0 x1 x2 x3
    obtain ⟨x0, x1, x2, x3⟩ := r2.graph
    have C2 := Kd.C_mono t2 hC
    clear hb1 hb2 t1 r0 r1 b0 hC
    go_wp2_with fail
    refine (deadGraph_calls g.name g.keep g.leaf _ c g.blocks _ C2 HFW.out HOK.out hpos).mono ?_
    rintro e w4 ⟨bs4, hD, A4, c4, F4, rfl, own4, hF4, hb4⟩
    obtain ⟨hr4, hl4, ho4, hp4⟩ := hD.less HR.out
    have h3004 := hp4 300 H3.out
    have bq := below_alloc' w4 (.cells #[.string g.name, .bool g.keep, .bool g.leaf, .slice A4 bs4.length c4] 33)
    have r5 : Row (w4.alloc (.cells #[.string g.name, .bool g.keep, .bool g.leaf, .slice A4 bs4.length c4] 33)) w4.heap.size 33 (graphCells (.slice A4 bs4.length c4) ⟨g.name, g.keep, g.leaf, bs4⟩) := Row.new w4 _ _
    have C4' := own_bs_read own4
    have HR4 := Lib.hid hr4
    have HFW4 := Lib.hid (few_mk (by omega) h3004)
    have hl4m : bs4.length ≤ maxLen := Nat.le_trans hl4 hlm
    have hl4i : bs4.length ≤ 9223372036854775807 := hl4m
    have HD := Lib.hid hD
    have HL4 := Lib.hid hl4
    have HO4 := Lib.hid ho4
    clear hr4 hp4 h3004 own4 hF4 hD x0 x1 x2 x3
    go_upto_region 4 with fail
    generalize w4.alloc (.cells #[.string g.name, .bool g.keep, .bool g.leaf, .slice A4 bs4.length c4] 33) = w5 at *
    have bd5 := hb4.trans (bq.mono hb4.size)
    have C4 := Kd.C_mono bq C4'
    generalize w4.heap.size = GH at *
    have z1 : decide ((g.blocks.length : Int) < (bs4.length : Int)) = false := decide_eq_false (by omega)
    have z1' : decide (g.blocks.length < bs4.length) = false := decide_eq_false (by omega)
    have z2 : decide ((opsN g.blocks : Int) < (opsN bs4 : Int)) = false := decide_eq_false (by omega)
    have z2' : decide (opsN g.blocks < opsN bs4) = false := decide_eq_false (by omega)
    clear hb4 bq C4' hl4 ho4
    rcases Bool.eq_false_or_eq_true g.keep with hke | hke
    · have hkp : bs4 = g.blocks := by
        have := HD.out
        rw [hke] at this
        exact this
      have HKP := Lib.hid hkp
      clear hkp
      refine wp_region_held_drew (S := (fun w' => SGr w' w.heap.size (.slice A g.blocks.length c) g ∧ SGr w' GH (.slice A4 bs4.length c4) ⟨g.name, g.keep, g.leaf, bs4⟩)) (by kernel_rfl) (⟨(r2.below bd5).graph, r5.graph⟩) (fun hHeld => ?_)
      refine wpAnyH_take (i := 0) (oi := _) (v := ?v4n1_0) rfl (by kernel_rfl) (by kernel_rfl) (by kernel_rfl) (fun _ _ _ h => h) (Or.inl ⟨by rfl, ?hy4n1_0⟩) hHeld ?_
      case hy4n1_0 => (intro wS hSw; (try dsimp only at hSw); obtain ⟨⟨s0, s1, s2, s3⟩, v0, v1, v2, v3⟩ := hSw; go_simp; try with_reducible rfl)
      try simp only [List.getElem_toArray, List.getElem_cons_succ, List.getElem_cons_zero, Act.put, List.setIfInBounds_toArray, List.set_cons_zero, List.set_cons_succ]
      refine wpAnyH_ready (rs := [1]) (by kernel_rfl) (by simp) ?_
      refine AllReadyH.cons (o := _) rfl (fun K hK => ?_) AllReadyH.nil
      go_simp
      refine (right_calls _ _ _ _ _ _ _ _ _ (Kd.C_mono (Below.refl w5.heap.size w5).drew C4) hl4m).mono ?_
      rw [HR4.out]
      rintro e v1 ⟨rfl, hv1⟩
      have bv1 : Below w5.heap.size w5 v1 := (Below.refl w5.heap.size w5).drew.trans hv1
      go_wp2_with fail
      refine hK.out _ _ (⟨(r2.below (bd5.trans (bv1.mono bd5.size))).graph, (r5.below bv1).graph⟩) (fun hHeld1 => ?_)
      clear hK K hHeld
      try simp only [List.getElem_toArray, List.getElem_cons_succ, List.getElem_cons_zero, Act.put, List.setIfInBounds_toArray, List.set_cons_zero, List.set_cons_succ]
      refine wpAnyH_take (i := 2) (oi := _) (v := ?v4n1_2) rfl (by kernel_rfl) (by kernel_rfl) (by kernel_rfl) (fun _ _ _ h => h) (Or.inl ⟨by rfl, ?hy4n1_2⟩) hHeld1 ?_
      case hy4n1_2 => (intro wS hSw; (try dsimp only at hSw); obtain ⟨⟨s0, s1, s2, s3⟩, v0, v1, v2, v3⟩ := hSw; go_simp; try with_reducible rfl)
      try simp only [List.getElem_toArray, List.getElem_cons_succ, List.getElem_cons_zero, Act.put, List.setIfInBounds_toArray, List.set_cons_zero, List.set_cons_succ]
      refine wpAnyH_take (i := 3) (oi := _) (v := ?v4n1_3) rfl (by kernel_rfl) (by kernel_rfl) (by kernel_rfl) (fun _ _ _ h => h) (Or.inl ⟨by rfl, ?hy4n1_3⟩) hHeld1 ?_
      case hy4n1_3 => (intro wS hSw; (try dsimp only at hSw); obtain ⟨⟨s0, s1, s2, s3⟩, v0, v1, v2, v3⟩ := hSw; go_simp; try with_reducible rfl)
      try simp only [List.getElem_toArray, List.getElem_cons_succ, List.getElem_cons_zero, Act.put, List.setIfInBounds_toArray, List.set_cons_zero, List.set_cons_succ]
      refine wpAnyH_take (i := 4) (oi := _) (v := ?v4n1_4) rfl (by kernel_rfl) (by kernel_rfl) (by kernel_rfl) (fun _ _ _ h => h) (Or.inl ⟨by rfl, ?hy4n1_4⟩) hHeld1 ?_
      case hy4n1_4 => (intro wS hSw; (try dsimp only at hSw); obtain ⟨⟨s0, s1, s2, s3⟩, v0, v1, v2, v3⟩ := hSw; go_simp; try with_reducible rfl)
      try simp only [List.getElem_toArray, List.getElem_cons_succ, List.getElem_cons_zero, Act.put, List.setIfInBounds_toArray, List.set_cons_zero, List.set_cons_succ]
      refine wpAnyH_take (i := 5) (oi := _) (v := ?v4n1_5) rfl (by kernel_rfl) (by kernel_rfl) (by kernel_rfl) (fun _ _ _ h => h) (Or.inl ⟨by rfl, ?hy4n1_5⟩) hHeld1 ?_
      case hy4n1_5 => (intro wS hSw; (try dsimp only at hSw); obtain ⟨⟨s0, s1, s2, s3⟩, v0, v1, v2, v3⟩ := hSw; go_simp; try with_reducible rfl)
      try simp only [List.getElem_toArray, List.getElem_cons_succ, List.getElem_cons_zero, Act.put, List.setIfInBounds_toArray, List.set_cons_zero, List.set_cons_succ]
      refine wpAnyH_take (i := 6) (oi := _) (v := ?v4n1_6) rfl (by kernel_rfl) (by kernel_rfl) (by kernel_rfl) (fun _ _ _ h => h) (Or.inl ⟨by rfl, ?hy4n1_6⟩) hHeld1 ?_
      case hy4n1_6 => (intro wS hSw; (try dsimp only at hSw); obtain ⟨⟨s0, s1, s2, s3⟩, v0, v1, v2, v3⟩ := hSw; go_simp; try with_reducible rfl)
      try simp only [List.getElem_toArray, List.getElem_cons_succ, List.getElem_cons_zero, Act.put, List.setIfInBounds_toArray, List.set_cons_zero, List.set_cons_succ]
      refine wpAnyH_take (i := 7) (oi := _) (v := ?v4n1_7) rfl (by kernel_rfl) (by kernel_rfl) (by kernel_rfl) (fun _ _ _ h => h) (Or.inl ⟨by rfl, ?hy4n1_7⟩) hHeld1 ?_
      case hy4n1_7 => (intro wS hSw; (try dsimp only at hSw); obtain ⟨⟨s0, s1, s2, s3⟩, v0, v1, v2, v3⟩ := hSw; go_simp; try with_reducible rfl)
      try simp only [List.getElem_toArray, List.getElem_cons_succ, List.getElem_cons_zero, Act.put, List.setIfInBounds_toArray, List.set_cons_zero, List.set_cons_succ]
      refine wpAnyH_take (i := 8) (oi := _) (v := ?v4n1_8) rfl (by kernel_rfl) (by kernel_rfl) (by kernel_rfl) (fun _ _ _ h => h) (Or.inl ⟨by rfl, ?hy4n1_8⟩) hHeld1 ?_
      case hy4n1_8 => (intro wS hSw; (try dsimp only at hSw); obtain ⟨⟨s0, s1, s2, s3⟩, v0, v1, v2, v3⟩ := hSw; go_simp; try with_reducible rfl)
      try simp only [List.getElem_toArray, List.getElem_cons_succ, List.getElem_cons_zero, Act.put, List.setIfInBounds_toArray, List.set_cons_zero, List.set_cons_succ]
      refine wpAnyH_take (i := 9) (oi := _) (v := ?v4n1_9) rfl (by kernel_rfl) (by kernel_rfl) (by kernel_rfl) (fun _ _ _ h => h) (Or.inl ⟨by rfl, ?hy4n1_9⟩) hHeld1 ?_
      case hy4n1_9 => (intro wS hSw; (try dsimp only at hSw); obtain ⟨⟨s0, s1, s2, s3⟩, v0, v1, v2, v3⟩ := hSw; go_simp; try with_reducible rfl)
      try simp only [List.getElem_toArray, List.getElem_cons_succ, List.getElem_cons_zero, Act.put, List.setIfInBounds_toArray, List.set_cons_zero, List.set_cons_succ]
      refine wpAnyH_take (i := 10) (oi := _) (v := ?v4n1_10) rfl (by kernel_rfl) (by kernel_rfl) (by kernel_rfl) (fun _ _ _ h => h) (Or.inl ⟨by rfl, ?hy4n1_10⟩) hHeld1 ?_
      case hy4n1_10 => (intro wS hSw; (try dsimp only at hSw); obtain ⟨⟨s0, s1, s2, s3⟩, v0, v1, v2, v3⟩ := hSw; go_simp; try with_reducible rfl)
      try simp only [List.getElem_toArray, List.getElem_cons_succ, List.getElem_cons_zero, Act.put, List.setIfInBounds_toArray, List.set_cons_zero, List.set_cons_succ]
      refine wpAnyH_take (i := 11) (oi := _) (v := ?v4n1_11) rfl (by kernel_rfl) (by kernel_rfl) (by kernel_rfl) (fun _ _ _ h => h) (Or.inl ⟨by rfl, ?hy4n1_11⟩) hHeld1 ?_
      case hy4n1_11 => (intro wS hSw; (try dsimp only at hSw); obtain ⟨⟨s0, s1, s2, s3⟩, v0, v1, v2, v3⟩ := hSw; go_simp; try with_reducible rfl)
      try simp only [List.getElem_toArray, List.getElem_cons_succ, List.getElem_cons_zero, Act.put, List.setIfInBounds_toArray, List.set_cons_zero, List.set_cons_succ]
      refine wpAnyH_take (i := 12) (oi := _) (v := ?v4n1_12) rfl (by kernel_rfl) (by kernel_rfl) (by kernel_rfl) (fun _ _ _ h => h) (Or.inl ⟨by rfl, ?hy4n1_12⟩) hHeld1 ?_
      case hy4n1_12 => (intro wS hSw; (try dsimp only at hSw); obtain ⟨⟨s0, s1, s2, s3⟩, v0, v1, v2, v3⟩ := hSw; go_simp; try with_reducible rfl)
      try simp only [List.getElem_toArray, List.getElem_cons_succ, List.getElem_cons_zero, Act.put, List.setIfInBounds_toArray, List.set_cons_zero, List.set_cons_succ]
      refine wpAnyH_take (i := 13) (oi := _) (v := ?v4n1_13) rfl (by kernel_rfl) (by kernel_rfl) (by kernel_rfl) (fun _ _ _ h => h) (Or.inl ⟨by rfl, ?hy4n1_13⟩) hHeld1 ?_
      case hy4n1_13 => (intro wS hSw; (try dsimp only at hSw); obtain ⟨⟨s0, s1, s2, s3⟩, v0, v1, v2, v3⟩ := hSw; go_simp; try with_reducible rfl)
      try simp only [List.getElem_toArray, List.getElem_cons_succ, List.getElem_cons_zero, Act.put, List.setIfInBounds_toArray, List.set_cons_zero, List.set_cons_succ]
      refine wpAnyH_take (i := 15) (oi := _) (v := ?v4n1_15) rfl (by kernel_rfl) (by kernel_rfl) (by kernel_rfl) (fun _ _ _ h => h) (Or.inl ⟨by rfl, ?hy4n1_15⟩) hHeld1 ?_
      case hy4n1_15 => (intro wS hSw; (try dsimp only at hSw); obtain ⟨⟨s0, s1, s2, s3⟩, v0, v1, v2, v3⟩ := hSw; go_simp; try with_reducible rfl)
      try simp only [List.getElem_toArray, List.getElem_cons_succ, List.getElem_cons_zero, Act.put, List.setIfInBounds_toArray, List.set_cons_zero, List.set_cons_succ]
      refine wpAnyH_ready (rs := [14]) (by kernel_rfl) (by simp) ?_
      refine AllReadyH.cons (o := _) rfl (fun K hK => ?_) AllReadyH.nil
      go_simp
      refine (refOps_calls _ _ _ _ _ bs4 _ (Kd.C_mono bv1 C4) HFW4.out).mono ?_
      rintro e v14 ⟨rfl, hv14⟩
      have bv14 := bv1.trans (hv14.mono bv1.size)
      go_wp2_with fail
      refine hK.out _ _ (⟨(r2.below (bd5.trans (bv14.mono bd5.size))).graph, (r5.below bv14).graph⟩) (fun hHeld14 => ?_)
      clear hK K hHeld1
      try simp only [List.getElem_toArray, List.getElem_cons_succ, List.getElem_cons_zero, Act.put, List.setIfInBounds_toArray, List.set_cons_zero, List.set_cons_succ]
      refine wpAnyH_ready (rs := [16]) (by kernel_rfl) (by simp) ?_
      refine AllReadyH.cons (o := _) rfl (fun K hK => ?_) AllReadyH.nil
      go_simp
      refine (refOps_calls _ _ _ _ _ g.blocks _ (Kd.C_mono (bd5.trans (bv14.mono bd5.size)) C2) HFW.out).mono ?_
      rintro e v16 ⟨rfl, hv16⟩
      have bv16 := bv14.trans (hv16.mono bv14.size)
      go_wp2_with fail
      refine hK.out _ _ (⟨(r2.below (bd5.trans (bv16.mono bd5.size))).graph, (r5.below bv16).graph⟩) (fun hHeld16 => ?_)
      clear hK K hHeld14
      try simp only [List.getElem_toArray, List.getElem_cons_succ, List.getElem_cons_zero, Act.put, List.setIfInBounds_toArray, List.set_cons_zero, List.set_cons_succ]
      refine wpAnyH_take (i := 17) (oi := _) (v := ?v4n1_17) rfl (by kernel_rfl) (by kernel_rfl) (by kernel_rfl) (fun _ _ _ h => h) (Or.inl ⟨by rfl, ?hy4n1_17⟩) hHeld16 ?_
      case hy4n1_17 => (intro wS hSw; (try dsimp only at hSw); obtain ⟨⟨s0, s1, s2, s3⟩, v0, v1, v2, v3⟩ := hSw; go_simp; try with_reducible rfl)
      try simp only [List.getElem_toArray, List.getElem_cons_succ, List.getElem_cons_zero, Act.put, List.setIfInBounds_toArray, List.set_cons_zero, List.set_cons_succ]
      refine wpAnyH_take (i := 18) (oi := _) (v := ?v4n1_18) rfl (by kernel_rfl) (by kernel_rfl) (by kernel_rfl) (fun _ _ _ h => h) (Or.inl ⟨by rfl, ?hy4n1_18⟩) hHeld16 ?_
      case hy4n1_18 => (intro wS hSw; (try dsimp only at hSw); obtain ⟨⟨s0, s1, s2, s3⟩, v0, v1, v2, v3⟩ := hSw; go_simp; try with_reducible rfl)
      try simp only [List.getElem_toArray, List.getElem_cons_succ, List.getElem_cons_zero, Act.put, List.setIfInBounds_toArray, List.set_cons_zero, List.set_cons_succ]
      refine wpAnyH_take (i := 19) (oi := _) (v := ?v4n1_19) rfl (by kernel_rfl) (by kernel_rfl) (by kernel_rfl) (fun _ _ _ h => h) (Or.inl ⟨by rfl, ?hy4n1_19⟩) hHeld16 ?_
      case hy4n1_19 => (intro wS hSw; (try dsimp only at hSw); obtain ⟨⟨s0, s1, s2, s3⟩, v0, v1, v2, v3⟩ := hSw; go_simp; try with_reducible rfl)
      try simp only [List.getElem_toArray, List.getElem_cons_succ, List.getElem_cons_zero, Act.put, List.setIfInBounds_toArray, List.set_cons_zero, List.set_cons_succ]
      refine wpAnyH_take (i := 20) (oi := _) (v := ?v4n1_20) rfl (by kernel_rfl) (by kernel_rfl) (by kernel_rfl) (fun _ _ _ h => h) (Or.inl ⟨by rfl, ?hy4n1_20⟩) hHeld16 ?_
      case hy4n1_20 => (intro wS hSw; (try dsimp only at hSw); obtain ⟨⟨s0, s1, s2, s3⟩, v0, v1, v2, v3⟩ := hSw; go_simp; try with_reducible rfl)
      try simp only [List.getElem_toArray, List.getElem_cons_succ, List.getElem_cons_zero, Act.put, List.setIfInBounds_toArray, List.set_cons_zero, List.set_cons_succ]
      refine wpAnyH_take (i := 21) (oi := _) (v := ?v4n1_21) rfl (by kernel_rfl) (by kernel_rfl) (by kernel_rfl) (fun _ _ _ h => h) (Or.inl ⟨by rfl, ?hy4n1_21⟩) hHeld16 ?_
      case hy4n1_21 => (intro wS hSw; (try dsimp only at hSw); obtain ⟨⟨s0, s1, s2, s3⟩, v0, v1, v2, v3⟩ := hSw; go_simp; try with_reducible rfl)
      try simp only [List.getElem_toArray, List.getElem_cons_succ, List.getElem_cons_zero, Act.put, List.setIfInBounds_toArray, List.set_cons_zero, List.set_cons_succ]
      refine wpAnyH_take (i := 22) (oi := _) (v := ?v4n1_22) rfl (by kernel_rfl) (by kernel_rfl) (by kernel_rfl) (fun _ _ _ h => h) (Or.inl ⟨by rfl, ?hy4n1_22⟩) hHeld16 ?_
      case hy4n1_22 => (intro wS hSw; (try dsimp only at hSw); obtain ⟨⟨s0, s1, s2, s3⟩, v0, v1, v2, v3⟩ := hSw; go_simp; try with_reducible rfl)
      try simp only [List.getElem_toArray, List.getElem_cons_succ, List.getElem_cons_zero, Act.put, List.setIfInBounds_toArray, List.set_cons_zero, List.set_cons_succ]
      refine wpAnyH_take (i := 23) (oi := _) (v := ?v4n1_23) rfl (by kernel_rfl) (by kernel_rfl) (by kernel_rfl) (fun _ _ _ h => h) (Or.inl ⟨by rfl, ?hy4n1_23⟩) hHeld16 ?_
      case hy4n1_23 => (intro wS hSw; (try dsimp only at hSw); obtain ⟨⟨s0, s1, s2, s3⟩, v0, v1, v2, v3⟩ := hSw; go_simp; try with_reducible rfl)
      try simp only [List.getElem_toArray, List.getElem_cons_succ, List.getElem_cons_zero, Act.put, List.setIfInBounds_toArray, List.set_cons_zero, List.set_cons_succ]
      refine wpAnyH_take (i := 24) (oi := _) (v := ?v4n1_24) rfl (by kernel_rfl) (by kernel_rfl) (by kernel_rfl) (fun _ _ _ h => h) (Or.inl ⟨by rfl, ?hy4n1_24⟩) hHeld16 ?_
      case hy4n1_24 => (intro wS hSw; (try dsimp only at hSw); obtain ⟨⟨s0, s1, s2, s3⟩, v0, v1, v2, v3⟩ := hSw; go_simp; try with_reducible rfl)
      try simp only [List.getElem_toArray, List.getElem_cons_succ, List.getElem_cons_zero, Act.put, List.setIfInBounds_toArray, List.set_cons_zero, List.set_cons_succ]
      refine wpAnyH_take (i := 25) (oi := _) (v := ?v4n1_25) rfl (by kernel_rfl) (by kernel_rfl) (by kernel_rfl) (fun _ _ _ h => h) (Or.inl ⟨by rfl, ?hy4n1_25⟩) hHeld16 ?_
      case hy4n1_25 => (intro wS hSw; (try dsimp only at hSw); obtain ⟨⟨s0, s1, s2, s3⟩, v0, v1, v2, v3⟩ := hSw; go_simp; try with_reducible rfl)
      try simp only [List.getElem_toArray, List.getElem_cons_succ, List.getElem_cons_zero, Act.put, List.setIfInBounds_toArray, List.set_cons_zero, List.set_cons_succ]
      refine wpAnyH_take (i := 26) (oi := _) (v := ?v4n1_26) rfl (by kernel_rfl) (by kernel_rfl) (by kernel_rfl) (fun _ _ _ h => h) (Or.inl ⟨by rfl, ?hy4n1_26⟩) hHeld16 ?_
      case hy4n1_26 => (intro wS hSw; (try dsimp only at hSw); obtain ⟨⟨s0, s1, s2, s3⟩, v0, v1, v2, v3⟩ := hSw; go_simp; try with_reducible rfl)
      try simp only [List.getElem_toArray, List.getElem_cons_succ, List.getElem_cons_zero, Act.put, List.setIfInBounds_toArray, List.set_cons_zero, List.set_cons_succ]
      refine wpAnyH_take (i := 27) (oi := _) (v := ?v4n1_27) rfl (by kernel_rfl) (by kernel_rfl) (by kernel_rfl) (fun _ _ _ h => h) (Or.inl ⟨by rfl, ?hy4n1_27⟩) hHeld16 ?_
      case hy4n1_27 => (intro wS hSw; (try dsimp only at hSw); obtain ⟨⟨s0, s1, s2, s3⟩, v0, v1, v2, v3⟩ := hSw; go_simp; try with_reducible rfl)
      try simp only [List.getElem_toArray, List.getElem_cons_succ, List.getElem_cons_zero, Act.put, List.setIfInBounds_toArray, List.set_cons_zero, List.set_cons_succ]
      refine wpAnyH_take (i := 28) (oi := _) (v := ?v4n1_28) rfl (by kernel_rfl) (by kernel_rfl) (by kernel_rfl) (fun _ _ _ h => h) (Or.inl ⟨by rfl, ?hy4n1_28⟩) hHeld16 ?_
      case hy4n1_28 => (intro wS hSw; (try dsimp only at hSw); obtain ⟨⟨s0, s1, s2, s3⟩, v0, v1, v2, v3⟩ := hSw; go_simp; try with_reducible rfl)
      try simp only [List.getElem_toArray, List.getElem_cons_succ, List.getElem_cons_zero, Act.put, List.setIfInBounds_toArray, List.set_cons_zero, List.set_cons_succ]
      refine wpAnyH_take (i := 29) (oi := _) (v := ?v4n1_29) rfl (by kernel_rfl) (by kernel_rfl) (by kernel_rfl) (fun _ _ _ h => h) (Or.inl ⟨by rfl, ?hy4n1_29⟩) hHeld16 ?_
      case hy4n1_29 => (intro wS hSw; (try dsimp only at hSw); obtain ⟨⟨s0, s1, s2, s3⟩, v0, v1, v2, v3⟩ := hSw; go_simp; try with_reducible rfl)
      try simp only [List.getElem_toArray, List.getElem_cons_succ, List.getElem_cons_zero, Act.put, List.setIfInBounds_toArray, List.set_cons_zero, List.set_cons_succ]
      refine wpAnyH_take (i := 30) (oi := _) (v := ?v4n1_30) rfl (by kernel_rfl) (by kernel_rfl) (by kernel_rfl) (fun _ _ _ h => h) (Or.inl ⟨by rfl, ?hy4n1_30⟩) hHeld16 ?_
      case hy4n1_30 => (intro wS hSw; (try dsimp only at hSw); obtain ⟨⟨s0, s1, s2, s3⟩, v0, v1, v2, v3⟩ := hSw; go_simp; try with_reducible rfl)
      try simp only [List.getElem_toArray, List.getElem_cons_succ, List.getElem_cons_zero, Act.put, List.setIfInBounds_toArray, List.set_cons_zero, List.set_cons_succ]
      refine wpAnyH_take (i := 31) (oi := _) (v := ?v4n1_31) rfl (by kernel_rfl) (by kernel_rfl) (by kernel_rfl) (fun _ _ _ h => h) (Or.inl ⟨by rfl, ?hy4n1_31⟩) hHeld16 ?_
      case hy4n1_31 => (intro wS hSw; (try dsimp only at hSw); obtain ⟨⟨s0, s1, s2, s3⟩, v0, v1, v2, v3⟩ := hSw; go_simp; try with_reducible rfl)
      try simp only [List.getElem_toArray, List.getElem_cons_succ, List.getElem_cons_zero, Act.put, List.setIfInBounds_toArray, List.set_cons_zero, List.set_cons_succ]
      refine wpAnyH_ready (rs := [32]) (by kernel_rfl) (by simp) ?_
      refine AllReadyH.cons (o := _) rfl (fun K hK => ?_) AllReadyH.nil
      go_simp
      obtain rfl := HKP.out
      refine (same_calls _ _ _ _ _ _ _ g.blocks _ (Kd.C_mono (bd5.trans (bv16.mono bd5.size)) C2) (Kd.C_mono bv16 C4) hlm).mono ?_
      rintro e v32 ⟨rfl, hv32⟩
      have bv32 := bv16.trans (hv32.mono bv16.size)
      go_wp2_with fail
      refine hK.out _ _ (⟨(r2.below (bd5.trans (bv32.mono bd5.size))).graph, (r5.below bv32).graph⟩) (fun hHeld32 => ?_)
      clear hK K hHeld16
      try simp only [List.getElem_toArray, List.getElem_cons_succ, List.getElem_cons_zero, Act.put, List.setIfInBounds_toArray, List.set_cons_zero, List.set_cons_succ]
      refine wpAnyH_take (i := 33) (oi := _) (v := ?v4n1_33) rfl (by kernel_rfl) (by kernel_rfl) (by kernel_rfl) (fun _ _ _ h => h) (Or.inl ⟨by rfl, ?hy4n1_33⟩) hHeld32 ?_
      case hy4n1_33 => (intro wS hSw; (try dsimp only at hSw); obtain ⟨⟨s0, s1, s2, s3⟩, v0, v1, v2, v3⟩ := hSw; go_simp; try with_reducible rfl)
      try simp only [List.getElem_toArray, List.getElem_cons_succ, List.getElem_cons_zero, Act.put, List.setIfInBounds_toArray, List.set_cons_zero, List.set_cons_succ]
      refine wpAnyH_take (i := 34) (oi := _) (v := ?v4n1_34) rfl (by kernel_rfl) (by kernel_rfl) (by kernel_rfl) (fun _ _ _ h => h) (Or.inl ⟨by rfl, ?hy4n1_34⟩) hHeld32 ?_
      case hy4n1_34 => (intro wS hSw; (try dsimp only at hSw); obtain ⟨⟨s0, s1, s2, s3⟩, v0, v1, v2, v3⟩ := hSw; go_simp; try with_reducible rfl)
      try simp only [List.getElem_toArray, List.getElem_cons_succ, List.getElem_cons_zero, Act.put, List.setIfInBounds_toArray, List.set_cons_zero, List.set_cons_succ]
      refine wpAnyH_take (i := 35) (oi := _) (v := ?v4n1_35) rfl (by kernel_rfl) (by kernel_rfl) (by kernel_rfl) (fun _ _ _ h => h) (Or.inl ⟨by rfl, ?hy4n1_35⟩) hHeld32 ?_
      case hy4n1_35 => (intro wS hSw; (try dsimp only at hSw); obtain ⟨⟨s0, s1, s2, s3⟩, v0, v1, v2, v3⟩ := hSw; go_simp; try with_reducible rfl)
      try simp only [List.getElem_toArray, List.getElem_cons_succ, List.getElem_cons_zero, Act.put, List.setIfInBounds_toArray, List.set_cons_zero, List.set_cons_succ]
      refine wpAnyH_done (by kernel_rfl) ?_ _
      go_upto_region 6 with fail
      refine wp_region_held_drew (S := (fun w' => SGr w' w.heap.size (.slice A g.blocks.length c) g ∧ SGr w' GH (.slice A4 g.blocks.length c4) ⟨g.name, g.keep, g.leaf, g.blocks⟩)) (by kernel_rfl) (⟨(r2.below (bd5.trans (bv32.mono bd5.size))).graph, (r5.below bv32).graph⟩) (fun hHeld => ?_)
      refine wpAnyH_take (i := 0) (oi := _) (v := ?v6n2_0) rfl (by kernel_rfl) (by kernel_rfl) (by kernel_rfl) (fun _ _ _ h => h) (Or.inl ⟨by rfl, ?hy6n2_0⟩) hHeld ?_
      case hy6n2_0 => (intro wS hSw; (try dsimp only at hSw); obtain ⟨⟨s0, s1, s2, s3⟩, v0, v1, v2, v3⟩ := hSw; go_simp; try with_reducible rfl)
      try simp only [List.getElem_toArray, List.getElem_cons_succ, List.getElem_cons_zero, Act.put, List.setIfInBounds_toArray, List.set_cons_zero, List.set_cons_succ]
      refine wpAnyH_take (i := 1) (oi := _) (v := ?v6n2_1) rfl (by kernel_rfl) (by kernel_rfl) (by kernel_rfl) (fun _ _ _ h => h) (Or.inl ⟨by rfl, ?hy6n2_1⟩) hHeld ?_
      case hy6n2_1 => (intro wS hSw; (try dsimp only at hSw); obtain ⟨⟨s0, s1, s2, s3⟩, v0, v1, v2, v3⟩ := hSw; go_simp; try with_reducible rfl)
      try simp only [List.getElem_toArray, List.getElem_cons_succ, List.getElem_cons_zero, Act.put, List.setIfInBounds_toArray, List.set_cons_zero, List.set_cons_succ]
      refine wpAnyH_take (i := 2) (oi := _) (v := ?v6n2_2) rfl (by kernel_rfl) (by kernel_rfl) (by kernel_rfl) (fun _ _ _ h => h) (Or.inl ⟨by rfl, ?hy6n2_2⟩) hHeld ?_
      case hy6n2_2 => (intro wS hSw; (try dsimp only at hSw); obtain ⟨⟨s0, s1, s2, s3⟩, v0, v1, v2, v3⟩ := hSw; go_simp; try with_reducible rfl)
      try simp only [List.getElem_toArray, List.getElem_cons_succ, List.getElem_cons_zero, Act.put, List.setIfInBounds_toArray, List.set_cons_zero, List.set_cons_succ]
      refine wpAnyH_take (i := 3) (oi := _) (v := undef) rfl (by kernel_rfl) (by kernel_rfl) (by kernel_rfl) (fun _ _ _ h => h) (Or.inr ⟨by rfl, rfl⟩) hHeld ?_
      try simp only [List.getElem_toArray, List.getElem_cons_succ, List.getElem_cons_zero, Act.put, List.setIfInBounds_toArray, List.set_cons_zero, List.set_cons_succ]
      refine wpAnyH_take (i := 4) (oi := _) (v := undef) rfl (by kernel_rfl) (by kernel_rfl) (by kernel_rfl) (fun _ _ _ h => h) (Or.inr ⟨by rfl, rfl⟩) hHeld ?_
      try simp only [List.getElem_toArray, List.getElem_cons_succ, List.getElem_cons_zero, Act.put, List.setIfInBounds_toArray, List.set_cons_zero, List.set_cons_succ]
      refine wpAnyH_take (i := 5) (oi := _) (v := undef) rfl (by kernel_rfl) (by kernel_rfl) (by kernel_rfl) (fun _ _ _ h => h) (Or.inr ⟨by rfl, rfl⟩) hHeld ?_
      try simp only [List.getElem_toArray, List.getElem_cons_succ, List.getElem_cons_zero, Act.put, List.setIfInBounds_toArray, List.set_cons_zero, List.set_cons_succ]
      refine wpAnyH_take (i := 6) (oi := _) (v := undef) rfl (by kernel_rfl) (by kernel_rfl) (by kernel_rfl) (fun _ _ _ h => h) (Or.inr ⟨by rfl, rfl⟩) hHeld ?_
      try simp only [List.getElem_toArray, List.getElem_cons_succ, List.getElem_cons_zero, Act.put, List.setIfInBounds_toArray, List.set_cons_zero, List.set_cons_succ]
      refine wpAnyH_take (i := 7) (oi := _) (v := ?v6n2_7) rfl (by kernel_rfl) (by kernel_rfl) (by kernel_rfl) (fun _ _ _ h => h) (Or.inl ⟨by rfl, ?hy6n2_7⟩) hHeld ?_
      case hy6n2_7 => (intro wS hSw; (try dsimp only at hSw); obtain ⟨⟨s0, s1, s2, s3⟩, v0, v1, v2, v3⟩ := hSw; go_simp; try with_reducible rfl)
      try simp only [List.getElem_toArray, List.getElem_cons_succ, List.getElem_cons_zero, Act.put, List.setIfInBounds_toArray, List.set_cons_zero, List.set_cons_succ]
      refine wpAnyH_take (i := 8) (oi := _) (v := ?v6n2_8) rfl (by kernel_rfl) (by kernel_rfl) (by kernel_rfl) (fun _ _ _ h => h) (Or.inl ⟨by rfl, ?hy6n2_8⟩) hHeld ?_
      case hy6n2_8 => (intro wS hSw; (try dsimp only at hSw); obtain ⟨⟨s0, s1, s2, s3⟩, v0, v1, v2, v3⟩ := hSw; go_simp; try with_reducible rfl)
      try simp only [List.getElem_toArray, List.getElem_cons_succ, List.getElem_cons_zero, Act.put, List.setIfInBounds_toArray, List.set_cons_zero, List.set_cons_succ]
      refine wpAnyH_done (by kernel_rfl) ?_ _
      go_wp2_with fail
      go_ret
      exact ⟨rfl, t2.trans ((bd5.trans ((Below.drew bv32).mono bd5.size)).mono t2.size)⟩
    · have HKF := Lib.hid hke
      have hless : (∀ n, (∀ b ∈ g.blocks, b.ops.length ≤ n) → ∀ b ∈ bs4, b.ops.length ≤ n) ∧ ∀ seen, IsReachE (TEdge bs4) bs4.length 0 seen → trimBs seen bs4 = bs4 := by
        have := HD.out
        rw [hke] at this
        exact (DeadG.less HR.out this).2.2.2
      have H3004 := Lib.hid (hless.1 300 H3.out)
      have HTR := Lib.hid hless.2
      have HLEAD4 := Lib.hid (BsOk.leads ⟨1000, 1000, HR4.out⟩)
      have hpos4 := (blocksRight_iff.1 HR4.out).2
      have h4k : bs4.length ≤ 1000 := Nat.le_trans HL4.out hl
      clear hless
      refine wp_region_held_drew (S := (fun w' => SGr w' w.heap.size (.slice A g.blocks.length c) g ∧ SGr w' GH (.slice A4 bs4.length c4) ⟨g.name, g.keep, g.leaf, bs4⟩)) (by kernel_rfl) (⟨(r2.below bd5).graph, r5.graph⟩) (fun hHeld => ?_)
      refine wpAnyH_take (i := 0) (oi := _) (v := ?v4n3_0) rfl (by kernel_rfl) (by kernel_rfl) (by kernel_rfl) (fun _ _ _ h => h) (Or.inl ⟨by rfl, ?hy4n3_0⟩) hHeld ?_
      case hy4n3_0 => (intro wS hSw; (try dsimp only at hSw); obtain ⟨⟨s0, s1, s2, s3⟩, v0, v1, v2, v3⟩ := hSw; go_simp; try with_reducible rfl)
      try simp only [List.getElem_toArray, List.getElem_cons_succ, List.getElem_cons_zero, Act.put, List.setIfInBounds_toArray, List.set_cons_zero, List.set_cons_succ]
      refine wpAnyH_ready (rs := [1]) (by kernel_rfl) (by simp) ?_
      refine AllReadyH.cons (o := _) rfl (fun K hK => ?_) AllReadyH.nil
      go_simp
      refine (right_calls _ _ _ _ _ _ _ _ _ (Kd.C_mono (Below.refl w5.heap.size w5).drew C4) hl4m).mono ?_
      rw [HR4.out]
      rintro e v1 ⟨rfl, hv1⟩
      have bv1 : Below w5.heap.size w5 v1 := (Below.refl w5.heap.size w5).drew.trans hv1
      go_wp2_with fail
      refine hK.out _ _ (⟨(r2.below (bd5.trans (bv1.mono bd5.size))).graph, (r5.below bv1).graph⟩) (fun hHeld1 => ?_)
      clear hK K hHeld
      try simp only [List.getElem_toArray, List.getElem_cons_succ, List.getElem_cons_zero, Act.put, List.setIfInBounds_toArray, List.set_cons_zero, List.set_cons_succ]
      refine wpAnyH_take (i := 2) (oi := _) (v := ?v4n3_2) rfl (by kernel_rfl) (by kernel_rfl) (by kernel_rfl) (fun _ _ _ h => h) (Or.inl ⟨by rfl, ?hy4n3_2⟩) hHeld1 ?_
      case hy4n3_2 => (intro wS hSw; (try dsimp only at hSw); obtain ⟨⟨s0, s1, s2, s3⟩, v0, v1, v2, v3⟩ := hSw; go_simp; try with_reducible rfl)
      try simp only [List.getElem_toArray, List.getElem_cons_succ, List.getElem_cons_zero, Act.put, List.setIfInBounds_toArray, List.set_cons_zero, List.set_cons_succ]
      refine wpAnyH_take (i := 3) (oi := _) (v := ?v4n3_3) rfl (by kernel_rfl) (by kernel_rfl) (by kernel_rfl) (fun _ _ _ h => h) (Or.inl ⟨by rfl, ?hy4n3_3⟩) hHeld1 ?_
      case hy4n3_3 => (intro wS hSw; (try dsimp only at hSw); obtain ⟨⟨s0, s1, s2, s3⟩, v0, v1, v2, v3⟩ := hSw; go_simp; try with_reducible rfl)
      try simp only [List.getElem_toArray, List.getElem_cons_succ, List.getElem_cons_zero, Act.put, List.setIfInBounds_toArray, List.set_cons_zero, List.set_cons_succ]
      refine wpAnyH_take (i := 4) (oi := _) (v := ?v4n3_4) rfl (by kernel_rfl) (by kernel_rfl) (by kernel_rfl) (fun _ _ _ h => h) (Or.inl ⟨by rfl, ?hy4n3_4⟩) hHeld1 ?_
      case hy4n3_4 => (intro wS hSw; (try dsimp only at hSw); obtain ⟨⟨s0, s1, s2, s3⟩, v0, v1, v2, v3⟩ := hSw; go_simp; try with_reducible rfl)
      try simp only [List.getElem_toArray, List.getElem_cons_succ, List.getElem_cons_zero, Act.put, List.setIfInBounds_toArray, List.set_cons_zero, List.set_cons_succ]
      refine wpAnyH_take (i := 5) (oi := _) (v := ?v4n3_5) rfl (by kernel_rfl) (by kernel_rfl) (by kernel_rfl) (fun _ _ _ h => h) (Or.inl ⟨by rfl, ?hy4n3_5⟩) hHeld1 ?_
      case hy4n3_5 => (intro wS hSw; (try dsimp only at hSw); obtain ⟨⟨s0, s1, s2, s3⟩, v0, v1, v2, v3⟩ := hSw; go_simp; try with_reducible rfl)
      try simp only [List.getElem_toArray, List.getElem_cons_succ, List.getElem_cons_zero, Act.put, List.setIfInBounds_toArray, List.set_cons_zero, List.set_cons_succ]
      refine wpAnyH_take (i := 6) (oi := _) (v := ?v4n3_6) rfl (by kernel_rfl) (by kernel_rfl) (by kernel_rfl) (fun _ _ _ h => h) (Or.inl ⟨by rfl, ?hy4n3_6⟩) hHeld1 ?_
      case hy4n3_6 => (intro wS hSw; (try dsimp only at hSw); obtain ⟨⟨s0, s1, s2, s3⟩, v0, v1, v2, v3⟩ := hSw; go_simp; try with_reducible rfl)
      try simp only [List.getElem_toArray, List.getElem_cons_succ, List.getElem_cons_zero, Act.put, List.setIfInBounds_toArray, List.set_cons_zero, List.set_cons_succ]
      refine wpAnyH_take (i := 7) (oi := _) (v := ?v4n3_7) rfl (by kernel_rfl) (by kernel_rfl) (by kernel_rfl) (fun _ _ _ h => h) (Or.inl ⟨by rfl, ?hy4n3_7⟩) hHeld1 ?_
      case hy4n3_7 => (intro wS hSw; (try dsimp only at hSw); obtain ⟨⟨s0, s1, s2, s3⟩, v0, v1, v2, v3⟩ := hSw; go_simp; try with_reducible rfl)
      try simp only [List.getElem_toArray, List.getElem_cons_succ, List.getElem_cons_zero, Act.put, List.setIfInBounds_toArray, List.set_cons_zero, List.set_cons_succ]
      refine wpAnyH_take (i := 8) (oi := _) (v := ?v4n3_8) rfl (by kernel_rfl) (by kernel_rfl) (by kernel_rfl) (fun _ _ _ h => h) (Or.inl ⟨by rfl, ?hy4n3_8⟩) hHeld1 ?_
      case hy4n3_8 => (intro wS hSw; (try dsimp only at hSw); obtain ⟨⟨s0, s1, s2, s3⟩, v0, v1, v2, v3⟩ := hSw; go_simp; try with_reducible rfl)
      try simp only [List.getElem_toArray, List.getElem_cons_succ, List.getElem_cons_zero, Act.put, List.setIfInBounds_toArray, List.set_cons_zero, List.set_cons_succ]
      refine wpAnyH_take (i := 9) (oi := _) (v := ?v4n3_9) rfl (by kernel_rfl) (by kernel_rfl) (by kernel_rfl) (fun _ _ _ h => h) (Or.inl ⟨by rfl, ?hy4n3_9⟩) hHeld1 ?_
      case hy4n3_9 => (intro wS hSw; (try dsimp only at hSw); obtain ⟨⟨s0, s1, s2, s3⟩, v0, v1, v2, v3⟩ := hSw; go_simp; try with_reducible rfl)
      try simp only [List.getElem_toArray, List.getElem_cons_succ, List.getElem_cons_zero, Act.put, List.setIfInBounds_toArray, List.set_cons_zero, List.set_cons_succ]
      refine wpAnyH_take (i := 10) (oi := _) (v := ?v4n3_10) rfl (by kernel_rfl) (by kernel_rfl) (by kernel_rfl) (fun _ _ _ h => h) (Or.inl ⟨by rfl, ?hy4n3_10⟩) hHeld1 ?_
      case hy4n3_10 => (intro wS hSw; (try dsimp only at hSw); obtain ⟨⟨s0, s1, s2, s3⟩, v0, v1, v2, v3⟩ := hSw; go_simp; try with_reducible rfl)
      try simp only [List.getElem_toArray, List.getElem_cons_succ, List.getElem_cons_zero, Act.put, List.setIfInBounds_toArray, List.set_cons_zero, List.set_cons_succ]
      refine wpAnyH_take (i := 11) (oi := _) (v := ?v4n3_11) rfl (by kernel_rfl) (by kernel_rfl) (by kernel_rfl) (fun _ _ _ h => h) (Or.inl ⟨by rfl, ?hy4n3_11⟩) hHeld1 ?_
      case hy4n3_11 => (intro wS hSw; (try dsimp only at hSw); obtain ⟨⟨s0, s1, s2, s3⟩, v0, v1, v2, v3⟩ := hSw; go_simp; try with_reducible rfl)
      try simp only [List.getElem_toArray, List.getElem_cons_succ, List.getElem_cons_zero, Act.put, List.setIfInBounds_toArray, List.set_cons_zero, List.set_cons_succ]
      refine wpAnyH_take (i := 12) (oi := _) (v := ?v4n3_12) rfl (by kernel_rfl) (by kernel_rfl) (by kernel_rfl) (fun _ _ _ h => h) (Or.inl ⟨by rfl, ?hy4n3_12⟩) hHeld1 ?_
      case hy4n3_12 => (intro wS hSw; (try dsimp only at hSw); obtain ⟨⟨s0, s1, s2, s3⟩, v0, v1, v2, v3⟩ := hSw; go_simp; try with_reducible rfl)
      try simp only [List.getElem_toArray, List.getElem_cons_succ, List.getElem_cons_zero, Act.put, List.setIfInBounds_toArray, List.set_cons_zero, List.set_cons_succ]
      refine wpAnyH_take (i := 13) (oi := _) (v := ?v4n3_13) rfl (by kernel_rfl) (by kernel_rfl) (by kernel_rfl) (fun _ _ _ h => h) (Or.inl ⟨by rfl, ?hy4n3_13⟩) hHeld1 ?_
      case hy4n3_13 => (intro wS hSw; (try dsimp only at hSw); obtain ⟨⟨s0, s1, s2, s3⟩, v0, v1, v2, v3⟩ := hSw; go_simp; try with_reducible rfl)
      try simp only [List.getElem_toArray, List.getElem_cons_succ, List.getElem_cons_zero, Act.put, List.setIfInBounds_toArray, List.set_cons_zero, List.set_cons_succ]
      refine wpAnyH_take (i := 15) (oi := _) (v := ?v4n3_15) rfl (by kernel_rfl) (by kernel_rfl) (by kernel_rfl) (fun _ _ _ h => h) (Or.inl ⟨by rfl, ?hy4n3_15⟩) hHeld1 ?_
      case hy4n3_15 => (intro wS hSw; (try dsimp only at hSw); obtain ⟨⟨s0, s1, s2, s3⟩, v0, v1, v2, v3⟩ := hSw; go_simp; try with_reducible rfl)
      try simp only [List.getElem_toArray, List.getElem_cons_succ, List.getElem_cons_zero, Act.put, List.setIfInBounds_toArray, List.set_cons_zero, List.set_cons_succ]
      refine wpAnyH_ready (rs := [14]) (by kernel_rfl) (by simp) ?_
      refine AllReadyH.cons (o := _) rfl (fun K hK => ?_) AllReadyH.nil
      go_simp
      refine (refOps_calls _ _ _ _ _ bs4 _ (Kd.C_mono bv1 C4) HFW4.out).mono ?_
      rintro e v14 ⟨rfl, hv14⟩
      have bv14 := bv1.trans (hv14.mono bv1.size)
      go_wp2_with fail
      refine hK.out _ _ (⟨(r2.below (bd5.trans (bv14.mono bd5.size))).graph, (r5.below bv14).graph⟩) (fun hHeld14 => ?_)
      clear hK K hHeld1
      try simp only [List.getElem_toArray, List.getElem_cons_succ, List.getElem_cons_zero, Act.put, List.setIfInBounds_toArray, List.set_cons_zero, List.set_cons_succ]
      refine wpAnyH_ready (rs := [16]) (by kernel_rfl) (by simp) ?_
      refine AllReadyH.cons (o := _) rfl (fun K hK => ?_) AllReadyH.nil
      go_simp
      refine (refOps_calls _ _ _ _ _ g.blocks _ (Kd.C_mono (bd5.trans (bv14.mono bd5.size)) C2) HFW.out).mono ?_
      rintro e v16 ⟨rfl, hv16⟩
      have bv16 := bv14.trans (hv16.mono bv14.size)
      go_wp2_with fail
      refine hK.out _ _ (⟨(r2.below (bd5.trans (bv16.mono bd5.size))).graph, (r5.below bv16).graph⟩) (fun hHeld16 => ?_)
      clear hK K hHeld14
      try simp only [List.getElem_toArray, List.getElem_cons_succ, List.getElem_cons_zero, Act.put, List.setIfInBounds_toArray, List.set_cons_zero, List.set_cons_succ]
      refine wpAnyH_take (i := 17) (oi := _) (v := ?v4n3_17) rfl (by kernel_rfl) (by kernel_rfl) (by kernel_rfl) (fun _ _ _ h => h) (Or.inl ⟨by rfl, ?hy4n3_17⟩) hHeld16 ?_
      case hy4n3_17 => (intro wS hSw; (try dsimp only at hSw); obtain ⟨⟨s0, s1, s2, s3⟩, v0, v1, v2, v3⟩ := hSw; go_simp; try with_reducible rfl)
      try simp only [List.getElem_toArray, List.getElem_cons_succ, List.getElem_cons_zero, Act.put, List.setIfInBounds_toArray, List.set_cons_zero, List.set_cons_succ]
      refine wpAnyH_take (i := 18) (oi := _) (v := ?v4n3_18) rfl (by kernel_rfl) (by kernel_rfl) (by kernel_rfl) (fun _ _ _ h => h) (Or.inl ⟨by rfl, ?hy4n3_18⟩) hHeld16 ?_
      case hy4n3_18 => (intro wS hSw; (try dsimp only at hSw); obtain ⟨⟨s0, s1, s2, s3⟩, v0, v1, v2, v3⟩ := hSw; go_simp; try with_reducible rfl)
      try simp only [List.getElem_toArray, List.getElem_cons_succ, List.getElem_cons_zero, Act.put, List.setIfInBounds_toArray, List.set_cons_zero, List.set_cons_succ]
      refine wpAnyH_take (i := 19) (oi := _) (v := ?v4n3_19) rfl (by kernel_rfl) (by kernel_rfl) (by kernel_rfl) (fun _ _ _ h => h) (Or.inl ⟨by rfl, ?hy4n3_19⟩) hHeld16 ?_
      case hy4n3_19 => (intro wS hSw; (try dsimp only at hSw); obtain ⟨⟨s0, s1, s2, s3⟩, v0, v1, v2, v3⟩ := hSw; go_simp; try with_reducible rfl)
      try simp only [List.getElem_toArray, List.getElem_cons_succ, List.getElem_cons_zero, Act.put, List.setIfInBounds_toArray, List.set_cons_zero, List.set_cons_succ]
      refine wpAnyH_take (i := 20) (oi := _) (v := ?v4n3_20) rfl (by kernel_rfl) (by kernel_rfl) (by kernel_rfl) (fun _ _ _ h => h) (Or.inl ⟨by rfl, ?hy4n3_20⟩) hHeld16 ?_
      case hy4n3_20 => (intro wS hSw; (try dsimp only at hSw); obtain ⟨⟨s0, s1, s2, s3⟩, v0, v1, v2, v3⟩ := hSw; go_simp; try with_reducible rfl)
      try simp only [List.getElem_toArray, List.getElem_cons_succ, List.getElem_cons_zero, Act.put, List.setIfInBounds_toArray, List.set_cons_zero, List.set_cons_succ]
      refine wpAnyH_take (i := 21) (oi := _) (v := ?v4n3_21) rfl (by kernel_rfl) (by kernel_rfl) (by kernel_rfl) (fun _ _ _ h => h) (Or.inl ⟨by rfl, ?hy4n3_21⟩) hHeld16 ?_
      case hy4n3_21 => (intro wS hSw; (try dsimp only at hSw); obtain ⟨⟨s0, s1, s2, s3⟩, v0, v1, v2, v3⟩ := hSw; go_simp; try with_reducible rfl)
      try simp only [List.getElem_toArray, List.getElem_cons_succ, List.getElem_cons_zero, Act.put, List.setIfInBounds_toArray, List.set_cons_zero, List.set_cons_succ]
      refine wpAnyH_take (i := 22) (oi := _) (v := ?v4n3_22) rfl (by kernel_rfl) (by kernel_rfl) (by kernel_rfl) (fun _ _ _ h => h) (Or.inl ⟨by rfl, ?hy4n3_22⟩) hHeld16 ?_
      case hy4n3_22 => (intro wS hSw; (try dsimp only at hSw); obtain ⟨⟨s0, s1, s2, s3⟩, v0, v1, v2, v3⟩ := hSw; go_simp; try with_reducible rfl)
      try simp only [List.getElem_toArray, List.getElem_cons_succ, List.getElem_cons_zero, Act.put, List.setIfInBounds_toArray, List.set_cons_zero, List.set_cons_succ]
      refine wpAnyH_take (i := 23) (oi := _) (v := ?v4n3_23) rfl (by kernel_rfl) (by kernel_rfl) (by kernel_rfl) (fun _ _ _ h => h) (Or.inl ⟨by rfl, ?hy4n3_23⟩) hHeld16 ?_
      case hy4n3_23 => (intro wS hSw; (try dsimp only at hSw); obtain ⟨⟨s0, s1, s2, s3⟩, v0, v1, v2, v3⟩ := hSw; go_simp; try with_reducible rfl)
      try simp only [List.getElem_toArray, List.getElem_cons_succ, List.getElem_cons_zero, Act.put, List.setIfInBounds_toArray, List.set_cons_zero, List.set_cons_succ]
      refine wpAnyH_take (i := 24) (oi := _) (v := ?v4n3_24) rfl (by kernel_rfl) (by kernel_rfl) (by kernel_rfl) (fun _ _ _ h => h) (Or.inl ⟨by rfl, ?hy4n3_24⟩) hHeld16 ?_
      case hy4n3_24 => (intro wS hSw; (try dsimp only at hSw); obtain ⟨⟨s0, s1, s2, s3⟩, v0, v1, v2, v3⟩ := hSw; go_simp; try with_reducible rfl)
      try simp only [List.getElem_toArray, List.getElem_cons_succ, List.getElem_cons_zero, Act.put, List.setIfInBounds_toArray, List.set_cons_zero, List.set_cons_succ]
      refine wpAnyH_take (i := 25) (oi := _) (v := ?v4n3_25) rfl (by kernel_rfl) (by kernel_rfl) (by kernel_rfl) (fun _ _ _ h => h) (Or.inl ⟨by rfl, ?hy4n3_25⟩) hHeld16 ?_
      case hy4n3_25 => (intro wS hSw; (try dsimp only at hSw); obtain ⟨⟨s0, s1, s2, s3⟩, v0, v1, v2, v3⟩ := hSw; go_simp; try with_reducible rfl)
      try simp only [List.getElem_toArray, List.getElem_cons_succ, List.getElem_cons_zero, Act.put, List.setIfInBounds_toArray, List.set_cons_zero, List.set_cons_succ]
      refine wpAnyH_take (i := 26) (oi := _) (v := ?v4n3_26) rfl (by kernel_rfl) (by kernel_rfl) (by kernel_rfl) (fun _ _ _ h => h) (Or.inl ⟨by rfl, ?hy4n3_26⟩) hHeld16 ?_
      case hy4n3_26 => (intro wS hSw; (try dsimp only at hSw); obtain ⟨⟨s0, s1, s2, s3⟩, v0, v1, v2, v3⟩ := hSw; go_simp; try with_reducible rfl)
      try simp only [List.getElem_toArray, List.getElem_cons_succ, List.getElem_cons_zero, Act.put, List.setIfInBounds_toArray, List.set_cons_zero, List.set_cons_succ]
      refine wpAnyH_take (i := 27) (oi := _) (v := ?v4n3_27) rfl (by kernel_rfl) (by kernel_rfl) (by kernel_rfl) (fun _ _ _ h => h) (Or.inl ⟨by rfl, ?hy4n3_27⟩) hHeld16 ?_
      case hy4n3_27 => (intro wS hSw; (try dsimp only at hSw); obtain ⟨⟨s0, s1, s2, s3⟩, v0, v1, v2, v3⟩ := hSw; go_simp; try with_reducible rfl)
      try simp only [List.getElem_toArray, List.getElem_cons_succ, List.getElem_cons_zero, Act.put, List.setIfInBounds_toArray, List.set_cons_zero, List.set_cons_succ]
      refine wpAnyH_take (i := 28) (oi := _) (v := ?v4n3_28) rfl (by kernel_rfl) (by kernel_rfl) (by kernel_rfl) (fun _ _ _ h => h) (Or.inl ⟨by rfl, ?hy4n3_28⟩) hHeld16 ?_
      case hy4n3_28 => (intro wS hSw; (try dsimp only at hSw); obtain ⟨⟨s0, s1, s2, s3⟩, v0, v1, v2, v3⟩ := hSw; go_simp; try with_reducible rfl)
      try simp only [List.getElem_toArray, List.getElem_cons_succ, List.getElem_cons_zero, Act.put, List.setIfInBounds_toArray, List.set_cons_zero, List.set_cons_succ]
      refine wpAnyH_take (i := 29) (oi := _) (v := ?v4n3_29) rfl (by kernel_rfl) (by kernel_rfl) (by kernel_rfl) (fun _ _ _ h => h) (Or.inl ⟨by rfl, ?hy4n3_29⟩) hHeld16 ?_
      case hy4n3_29 => (intro wS hSw; (try dsimp only at hSw); obtain ⟨⟨s0, s1, s2, s3⟩, v0, v1, v2, v3⟩ := hSw; go_simp; try with_reducible rfl)
      try simp only [List.getElem_toArray, List.getElem_cons_succ, List.getElem_cons_zero, Act.put, List.setIfInBounds_toArray, List.set_cons_zero, List.set_cons_succ]
      refine wpAnyH_take (i := 30) (oi := _) (v := undef) rfl (by kernel_rfl) (by kernel_rfl) (by kernel_rfl) (fun _ _ _ h => h) (Or.inr ⟨by rfl, rfl⟩) hHeld16 ?_
      try simp only [List.getElem_toArray, List.getElem_cons_succ, List.getElem_cons_zero, Act.put, List.setIfInBounds_toArray, List.set_cons_zero, List.set_cons_succ]
      refine wpAnyH_take (i := 31) (oi := _) (v := undef) rfl (by kernel_rfl) (by kernel_rfl) (by kernel_rfl) (fun _ _ _ h => h) (Or.inr ⟨by rfl, rfl⟩) hHeld16 ?_
      try simp only [List.getElem_toArray, List.getElem_cons_succ, List.getElem_cons_zero, Act.put, List.setIfInBounds_toArray, List.set_cons_zero, List.set_cons_succ]
      refine wpAnyH_take (i := 32) (oi := _) (v := undef) rfl (by kernel_rfl) (by kernel_rfl) (by kernel_rfl) (fun _ _ _ h => h) (Or.inr ⟨by rfl, rfl⟩) hHeld16 ?_
      try simp only [List.getElem_toArray, List.getElem_cons_succ, List.getElem_cons_zero, Act.put, List.setIfInBounds_toArray, List.set_cons_zero, List.set_cons_succ]
      refine wpAnyH_take (i := 33) (oi := _) (v := undef) rfl (by kernel_rfl) (by kernel_rfl) (by kernel_rfl) (fun _ _ _ h => h) (Or.inr ⟨by rfl, rfl⟩) hHeld16 ?_
      try simp only [List.getElem_toArray, List.getElem_cons_succ, List.getElem_cons_zero, Act.put, List.setIfInBounds_toArray, List.set_cons_zero, List.set_cons_succ]
      refine wpAnyH_take (i := 34) (oi := _) (v := ?v4n3_34) rfl (by kernel_rfl) (by kernel_rfl) (by kernel_rfl) (fun _ _ _ h => h) (Or.inl ⟨by rfl, ?hy4n3_34⟩) hHeld16 ?_
      case hy4n3_34 => (intro wS hSw; (try dsimp only at hSw); obtain ⟨⟨s0, s1, s2, s3⟩, v0, v1, v2, v3⟩ := hSw; go_simp; try with_reducible rfl)
      try simp only [List.getElem_toArray, List.getElem_cons_succ, List.getElem_cons_zero, Act.put, List.setIfInBounds_toArray, List.set_cons_zero, List.set_cons_succ]
      refine wpAnyH_take (i := 35) (oi := _) (v := ?v4n3_35) rfl (by kernel_rfl) (by kernel_rfl) (by kernel_rfl) (fun _ _ _ h => h) (Or.inl ⟨by rfl, ?hy4n3_35⟩) hHeld16 ?_
      case hy4n3_35 => (intro wS hSw; (try dsimp only at hSw); obtain ⟨⟨s0, s1, s2, s3⟩, v0, v1, v2, v3⟩ := hSw; go_simp; try with_reducible rfl)
      try simp only [List.getElem_toArray, List.getElem_cons_succ, List.getElem_cons_zero, Act.put, List.setIfInBounds_toArray, List.set_cons_zero, List.set_cons_succ]
      refine wpAnyH_done (by kernel_rfl) ?_ _
      go_upto_region 6 with fail
      refine wp_region_held_drew (S := (fun w' => SGr w' w.heap.size (.slice A g.blocks.length c) g ∧ SGr w' GH (.slice A4 bs4.length c4) ⟨g.name, g.keep, g.leaf, bs4⟩)) (by kernel_rfl) (⟨(r2.below (bd5.trans (bv16.mono bd5.size))).graph, (r5.below bv16).graph⟩) (fun hHeld => ?_)
      refine wpAnyH_take (i := 0) (oi := _) (v := ?v6n4_0) rfl (by kernel_rfl) (by kernel_rfl) (by kernel_rfl) (fun _ _ _ h => h) (Or.inl ⟨by rfl, ?hy6n4_0⟩) hHeld ?_
      case hy6n4_0 => (intro wS hSw; (try dsimp only at hSw); obtain ⟨⟨s0, s1, s2, s3⟩, v0, v1, v2, v3⟩ := hSw; go_simp; try with_reducible rfl)
      try simp only [List.getElem_toArray, List.getElem_cons_succ, List.getElem_cons_zero, Act.put, List.setIfInBounds_toArray, List.set_cons_zero, List.set_cons_succ]
      refine wpAnyH_take (i := 1) (oi := _) (v := ?v6n4_1) rfl (by kernel_rfl) (by kernel_rfl) (by kernel_rfl) (fun _ _ _ h => h) (Or.inl ⟨by rfl, ?hy6n4_1⟩) hHeld ?_
      case hy6n4_1 => (intro wS hSw; (try dsimp only at hSw); obtain ⟨⟨s0, s1, s2, s3⟩, v0, v1, v2, v3⟩ := hSw; go_simp; try with_reducible rfl)
      try simp only [List.getElem_toArray, List.getElem_cons_succ, List.getElem_cons_zero, Act.put, List.setIfInBounds_toArray, List.set_cons_zero, List.set_cons_succ]
      refine wpAnyH_take (i := 2) (oi := _) (v := ?v6n4_2) rfl (by kernel_rfl) (by kernel_rfl) (by kernel_rfl) (fun _ _ _ h => h) (Or.inl ⟨by rfl, ?hy6n4_2⟩) hHeld ?_
      case hy6n4_2 => (intro wS hSw; (try dsimp only at hSw); obtain ⟨⟨s0, s1, s2, s3⟩, v0, v1, v2, v3⟩ := hSw; go_simp; try with_reducible rfl)
      try simp only [List.getElem_toArray, List.getElem_cons_succ, List.getElem_cons_zero, Act.put, List.setIfInBounds_toArray, List.set_cons_zero, List.set_cons_succ]
      refine wpAnyH_take (i := 3) (oi := _) (v := ?v6n4_3) rfl (by kernel_rfl) (by kernel_rfl) (by kernel_rfl) (fun _ _ _ h => h) (Or.inl ⟨by rfl, ?hy6n4_3⟩) hHeld ?_
      case hy6n4_3 => (intro wS hSw; (try dsimp only at hSw); obtain ⟨⟨s0, s1, s2, s3⟩, v0, v1, v2, v3⟩ := hSw; go_simp; try with_reducible rfl)
      try simp only [List.getElem_toArray, List.getElem_cons_succ, List.getElem_cons_zero, Act.put, List.setIfInBounds_toArray, List.set_cons_zero, List.set_cons_succ]
      refine wpAnyH_take (i := 5) (oi := _) (v := ?v6n4_5) rfl (by kernel_rfl) (by kernel_rfl) (by kernel_rfl) (fun _ _ _ h => h) (Or.inl ⟨by rfl, ?hy6n4_5⟩) hHeld ?_
      case hy6n4_5 => (intro wS hSw; (try dsimp only at hSw); obtain ⟨⟨s0, s1, s2, s3⟩, v0, v1, v2, v3⟩ := hSw; go_simp; try with_reducible rfl)
      try simp only [List.getElem_toArray, List.getElem_cons_succ, List.getElem_cons_zero, Act.put, List.setIfInBounds_toArray, List.set_cons_zero, List.set_cons_succ]
      refine wpAnyH_ready (rs := [4]) (by kernel_rfl) (by simp) ?_
      refine AllReadyH.cons (o := _) rfl (fun K hK => ?_) AllReadyH.nil
      go_simp
      refine (trim_calls g.name _ g.leaf _ _ bs4 _ (Kd.C_mono (bv16.drew) C4) h4k H3004.out HLEAD4.out hpos4).mono ?_
      rintro e y4 ⟨sn, hsn, A6, c6, F6, rfl, own6, -, hy4⟩
      have htr := HTR.out sn hsn
      rw [htr] at own6 ⊢
      have by4 := bv16.trans (((Below.refl v16.heap.size v16).drew.trans hy4).mono bv16.size)
      have C6 := own_bs_read own6
      clear own6 hsn htr
      go_wp2_with fail
      refine hK.out _ _ (⟨(r2.below (bd5.trans (by4.mono bd5.size))).graph, (r5.below by4).graph⟩) (fun hHeld4 => ?_)
      clear hK K hHeld
      try simp only [List.getElem_toArray, List.getElem_cons_succ, List.getElem_cons_zero, Act.put, List.setIfInBounds_toArray, List.set_cons_zero, List.set_cons_succ]
      refine wpAnyH_ready (rs := [6]) (by kernel_rfl) (by simp) ?_
      refine AllReadyH.cons (o := _) rfl (fun K hK => ?_) AllReadyH.nil
      go_simp
      refine (same_calls _ _ _ _ _ _ _ bs4 _ C6 (Kd.C_mono by4 C4) hl4m).mono ?_
      rintro e y6 ⟨rfl, hy6⟩
      have by6 := by4.trans (hy6.mono by4.size)
      go_wp2_with fail
      refine hK.out _ _ (⟨(r2.below (bd5.trans (by6.mono bd5.size))).graph, (r5.below by6).graph⟩) (fun hHeld6 => ?_)
      clear hK K hHeld4
      try simp only [List.getElem_toArray, List.getElem_cons_succ, List.getElem_cons_zero, Act.put, List.setIfInBounds_toArray, List.set_cons_zero, List.set_cons_succ]
      refine wpAnyH_take (i := 7) (oi := _) (v := ?v6n4_7) rfl (by kernel_rfl) (by kernel_rfl) (by kernel_rfl) (fun _ _ _ h => h) (Or.inl ⟨by rfl, ?hy6n4_7⟩) hHeld6 ?_
      case hy6n4_7 => (intro wS hSw; (try dsimp only at hSw); obtain ⟨⟨s0, s1, s2, s3⟩, v0, v1, v2, v3⟩ := hSw; go_simp; try with_reducible rfl)
      try simp only [List.getElem_toArray, List.getElem_cons_succ, List.getElem_cons_zero, Act.put, List.setIfInBounds_toArray, List.set_cons_zero, List.set_cons_succ]
      refine wpAnyH_take (i := 8) (oi := _) (v := ?v6n4_8) rfl (by kernel_rfl) (by kernel_rfl) (by kernel_rfl) (fun _ _ _ h => h) (Or.inl ⟨by rfl, ?hy6n4_8⟩) hHeld6 ?_
      case hy6n4_8 => (intro wS hSw; (try dsimp only at hSw); obtain ⟨⟨s0, s1, s2, s3⟩, v0, v1, v2, v3⟩ := hSw; go_simp; try with_reducible rfl)
      try simp only [List.getElem_toArray, List.getElem_cons_succ, List.getElem_cons_zero, Act.put, List.setIfInBounds_toArray, List.set_cons_zero, List.set_cons_succ]
      refine wpAnyH_done (by kernel_rfl) ?_ _
      go_wp2_with fail
      go_ret
      exact ⟨rfl, t2.trans ((bd5.trans (by6.mono bd5.size)).mono t2.size)⟩
end Go.Proofs.Ytokkngfgppikkaa
