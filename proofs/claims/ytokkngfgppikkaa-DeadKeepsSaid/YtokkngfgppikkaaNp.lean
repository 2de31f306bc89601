/- DeadThreads returns true: for every graph, right and small, threading keeps the number of blocks and of instructions, leaves no branch with one way twice, and no jump to a block that only leads on to one that does something. Printed by genNp.py of this repository. -/
import Derived.Test.YtokkngfgppikkaaNo
import Derived.Test.YtokkngfgppikkaaNe
namespace Go.Proofs.Ytokkngfgppikkaa
set_option linter.unusedVariables false
set_option linter.unusedSimpArgs false
open Go.RowKit

/-- A branch behind threading goes two ways; a jump to where one comes to from somewhere. -/
theorem threadT_two {bs : List Block} {t : Term} (h : (threadT bs t).kind = 2) : (threadT bs t).to ≠ (threadT bs t).els := by
  unfold threadT at h ⊢
  by_cases hk : t.kind = 2
  · rw [if_pos hk] at h ⊢
    split at h
    · exact absurd h (by show ¬ (1 : Int) = 2; decide)
    · rename_i hne
      rw [if_neg hne]
      show ¬ ((thr bs t.to.toNat : Nat) : Int) = ((thr bs t.els.toNat : Nat) : Int)
      omega
  · rw [if_neg hk] at h
    split at h
    · exact absurd h hk
    · exact absurd h hk
theorem threadT_jump {bs : List Block} (hl : Leads bs) {b : Block} (hb : b ∈ bs) (h : (threadT bs b.fin).kind = 1) : ∃ z, z < bs.length ∧ (threadT bs b.fin).to = (thr bs z : Int) := by
  have hlb := hl b hb
  unfold threadT at h ⊢
  by_cases hk : b.fin.kind = 2
  · have h1 := hlb.1 (.inr hk)
    rw [if_pos hk] at h ⊢
    split at h
    · rename_i e
      rw [if_pos e]
      exact ⟨b.fin.to.toNat, by omega, rfl⟩
    · exact absurd (hk.symm.trans h) (by decide)
  · rw [if_neg hk] at h ⊢
    split at h
    · rename_i h1
      have h2 := hlb.1 (.inl h1)
      rw [if_pos h1]
      exact ⟨b.fin.to.toNat, by omega, rfl⟩
    · rename_i h1
      exact absurd h h1

set_option maxHeartbeats 16000000 in
set_option maxRecDepth 100000 in
theorem deadThreads_law (w : World) (g : Graph) (wf : g.wf) (A : Option Addr) (c : Nat) (hlc : g.blocks.length ≤ c) (hcm : c ≤ maxLen) (hC : kBlock.C w A g.blocks) : Calls Try.prog 12 #[.agg #[.string g.name, .bool g.keep, .bool g.leaf, .slice A g.blocks.length c]] w fun e w' => e = .returned (.bool true) ∧ Below w.heap.size w w' := by
  clear wf
  have hlm := Nat.le_trans hlc hcm
  have hlm' : g.blocks.length ≤ 9223372036854775807 := hlm
  have b0 := below_alloc' w (.cells #[.string g.name, .bool g.keep, .bool g.leaf, .slice A g.blocks.length c] 33)
  have r0 : Row (w.alloc (.cells #[.string g.name, .bool g.keep, .bool g.leaf, .slice A g.blocks.length c] 33)) w.heap.size 33 (graphCells (.slice A g.blocks.length c) g) := Row.new w _ _
  cases hf : fineB g.blocks with
  | false =>
    have HF := Lib.hid hf
    clear hf
    go_enter Try.func12, Try.ntmps12
    go_upto_region 1 with fail
    generalize w.alloc (.cells #[.string g.name, .bool g.keep, .bool g.leaf, .slice A g.blocks.length c] 33) = W at *
    go_wp2_with fail
    refine (awake22_calls _).mono ?_
    rintro e w1 ⟨rfl, hb1⟩
    have r1 := r0.below hb1
    obtain ⟨x0, x1, x2, x3⟩ := r1.graph
    have t1 := b0.trans (hb1.mono b0.size)
    go_wp2_with fail
    refine (fine22_calls _ _ _ _ _ _ _ (Kd.C_mono t1 hC) hlm).mono ?_
    rw [HF.out]
    rintro e w2 ⟨rfl, hb2⟩
    have t2 := t1.trans (hb2.mono t1.size)
    have r2 := r1.below hb2
    clear x0 x1 x2 x3
    obtain ⟨x0, x1, x2, x3⟩ := r2.graph
    go_wp2_with fail
    refine (awake22_calls _).mono ?_
    rintro e w3 ⟨rfl, hb3⟩
    go_wp2_with fail
    go_ret
    exact ⟨rfl, t2.trans (hb3.mono t2.size)⟩
  | true =>
    have HF := Lib.hid hf
    obtain ⟨hfw, h30, h60, hright⟩ := fineB_parts hf
    have hok : BsOk g.blocks := ⟨1000, 1000, hright⟩
    have hpos := (blocksRight_iff.1 hright).2
    have h300 := (blocksFew_parts hfw).2
    have hl : g.blocks.length ≤ 1000 := by omega
    have HFW := Lib.hid hfw
    have HR := Lib.hid hright
    have HOK := Lib.hid hok
    have H3 := Lib.hid h300
    have HLEAD := Lib.hid hok.leads
    clear hf hfw hright hok h300
    go_enter Try.func12, Try.ntmps12
    go_upto_region 1 with fail
    generalize w.alloc (.cells #[.string g.name, .bool g.keep, .bool g.leaf, .slice A g.blocks.length c] 33) = W at *
    go_wp2_with fail
    refine (awake22_calls _).mono ?_
    rintro e w1 ⟨rfl, hb1⟩
    have r1 := r0.below hb1
    obtain ⟨x0, x1, x2, x3⟩ := r1.graph
    have t1 := b0.trans (hb1.mono b0.size)
    go_wp2_with fail
    refine (fine22_calls _ _ _ _ _ _ _ (Kd.C_mono t1 hC) hlm).mono ?_
    rw [HF.out]
    rintro e w2 ⟨rfl, hb2⟩
    have t2 := t1.trans (hb2.mono t1.size)
    have r2 := r1.below hb2
    clear x0 x1 x2 x3
    obtain ⟨x0, x1, x2, x3⟩ := r2.graph
    have C2 := Kd.C_mono t2 hC
    clear hb1 hb2 t1 r0 r1 b0 hC
    go_wp2_with fail
    refine (thread_calls g.name g.keep g.leaf _ c g.blocks _ C2 hl H3.out HLEAD.out).mono ?_
    rintro e w4 ⟨A4, c4, F4, rfl, own4, hF4, hb4⟩
    rw [threadBs_len]
    have bq := below_alloc' w4 (.cells #[.string g.name, .bool g.keep, .bool g.leaf, .slice A4 g.blocks.length c4] 33)
    have r5 : Row (w4.alloc (.cells #[.string g.name, .bool g.keep, .bool g.leaf, .slice A4 g.blocks.length c4] 33)) w4.heap.size 33 (graphCells (.slice A4 g.blocks.length c4) g) := Row.new w4 _ _
    have C4' := own_bs_read own4
    have HFW4 := Lib.hid (few_mk (bs := threadBs g.blocks) (by rw [threadBs_len]; omega) (threadBs_ops (P := fun n => n ≤ 300) H3.out))
    clear own4 hF4 x0 x1 x2 x3
    go_upto_region 4 with fail
    generalize w4.alloc (.cells #[.string g.name, .bool g.keep, .bool g.leaf, .slice A4 g.blocks.length c4] 33) = w5 at *
    have bd5 := hb4.trans (bq.mono hb4.size)
    have C4 := Kd.C_mono bq C4'
    generalize w4.heap.size = GH at *
    have hagg : (Value.agg #[.string g.name, .bool g.keep, .bool g.leaf, .slice A4 g.blocks.length c4]) = .agg #[.string g.name, .bool g.keep, .bool g.leaf, .slice A4 (threadBs g.blocks).length c4] := by rw [threadBs_len]
    clear hb4 bq C4'
    refine wp_region_held_drew (S := (fun w' => SGr w' w.heap.size (.slice A g.blocks.length c) g ∧ SGr w' GH (.slice A4 g.blocks.length c4) g)) (by kernel_rfl) (⟨(r2.below bd5).graph, r5.graph⟩) (fun hHeld => ?_)
    refine wpAnyH_take (i := 0) (oi := _) (v := ?v4n1_0) rfl (by kernel_rfl) (by kernel_rfl) (by kernel_rfl) (fun _ _ _ h => h) (Or.inl ⟨by rfl, ?hy4n1_0⟩) hHeld ?_
    case hy4n1_0 => (intro wS hSw; (try dsimp only at hSw); obtain ⟨⟨s0, s1, s2, s3⟩, v0, v1, v2, v3⟩ := hSw; go_simp; try with_reducible rfl)
    try simp only [List.getElem_toArray, List.getElem_cons_succ, List.getElem_cons_zero, Act.put, List.setIfInBounds_toArray, List.set_cons_zero, List.set_cons_succ]
    refine wpAnyH_take (i := 1) (oi := _) (v := ?v4n1_1) rfl (by kernel_rfl) (by kernel_rfl) (by kernel_rfl) (fun _ _ _ h => h) (Or.inl ⟨by rfl, ?hy4n1_1⟩) hHeld ?_
    case hy4n1_1 => (intro wS hSw; (try dsimp only at hSw); obtain ⟨⟨s0, s1, s2, s3⟩, v0, v1, v2, v3⟩ := hSw; go_simp; try with_reducible rfl)
    try simp only [List.getElem_toArray, List.getElem_cons_succ, List.getElem_cons_zero, Act.put, List.setIfInBounds_toArray, List.set_cons_zero, List.set_cons_succ]
    refine wpAnyH_take (i := 2) (oi := _) (v := ?v4n1_2) rfl (by kernel_rfl) (by kernel_rfl) (by kernel_rfl) (fun _ _ _ h => h) (Or.inl ⟨by rfl, ?hy4n1_2⟩) hHeld ?_
    case hy4n1_2 => (intro wS hSw; (try dsimp only at hSw); obtain ⟨⟨s0, s1, s2, s3⟩, v0, v1, v2, v3⟩ := hSw; go_simp; try with_reducible rfl)
    try simp only [List.getElem_toArray, List.getElem_cons_succ, List.getElem_cons_zero, Act.put, List.setIfInBounds_toArray, List.set_cons_zero, List.set_cons_succ]
    refine wpAnyH_take (i := 3) (oi := _) (v := ?v4n1_3) rfl (by kernel_rfl) (by kernel_rfl) (by kernel_rfl) (fun _ _ _ h => h) (Or.inl ⟨by rfl, ?hy4n1_3⟩) hHeld ?_
    case hy4n1_3 => (intro wS hSw; (try dsimp only at hSw); obtain ⟨⟨s0, s1, s2, s3⟩, v0, v1, v2, v3⟩ := hSw; go_simp; try with_reducible rfl)
    try simp only [List.getElem_toArray, List.getElem_cons_succ, List.getElem_cons_zero, Act.put, List.setIfInBounds_toArray, List.set_cons_zero, List.set_cons_succ]
    refine wpAnyH_take (i := 4) (oi := _) (v := ?v4n1_4) rfl (by kernel_rfl) (by kernel_rfl) (by kernel_rfl) (fun _ _ _ h => h) (Or.inl ⟨by rfl, ?hy4n1_4⟩) hHeld ?_
    case hy4n1_4 => (intro wS hSw; (try dsimp only at hSw); obtain ⟨⟨s0, s1, s2, s3⟩, v0, v1, v2, v3⟩ := hSw; go_simp; try with_reducible rfl)
    try simp only [List.getElem_toArray, List.getElem_cons_succ, List.getElem_cons_zero, Act.put, List.setIfInBounds_toArray, List.set_cons_zero, List.set_cons_succ]
    refine wpAnyH_take (i := 5) (oi := _) (v := ?v4n1_5) rfl (by kernel_rfl) (by kernel_rfl) (by kernel_rfl) (fun _ _ _ h => h) (Or.inl ⟨by rfl, ?hy4n1_5⟩) hHeld ?_
    case hy4n1_5 => (intro wS hSw; (try dsimp only at hSw); obtain ⟨⟨s0, s1, s2, s3⟩, v0, v1, v2, v3⟩ := hSw; go_simp; try with_reducible rfl)
    try simp only [List.getElem_toArray, List.getElem_cons_succ, List.getElem_cons_zero, Act.put, List.setIfInBounds_toArray, List.set_cons_zero, List.set_cons_succ]
    refine wpAnyH_take (i := 6) (oi := _) (v := ?v4n1_6) rfl (by kernel_rfl) (by kernel_rfl) (by kernel_rfl) (fun _ _ _ h => h) (Or.inl ⟨by rfl, ?hy4n1_6⟩) hHeld ?_
    case hy4n1_6 => (intro wS hSw; (try dsimp only at hSw); obtain ⟨⟨s0, s1, s2, s3⟩, v0, v1, v2, v3⟩ := hSw; go_simp; try with_reducible rfl)
    try simp only [List.getElem_toArray, List.getElem_cons_succ, List.getElem_cons_zero, Act.put, List.setIfInBounds_toArray, List.set_cons_zero, List.set_cons_succ]
    refine wpAnyH_take (i := 7) (oi := _) (v := ?v4n1_7) rfl (by kernel_rfl) (by kernel_rfl) (by kernel_rfl) (fun _ _ _ h => h) (Or.inl ⟨by rfl, ?hy4n1_7⟩) hHeld ?_
    case hy4n1_7 => (intro wS hSw; (try dsimp only at hSw); obtain ⟨⟨s0, s1, s2, s3⟩, v0, v1, v2, v3⟩ := hSw; go_simp; try with_reducible rfl)
    try simp only [List.getElem_toArray, List.getElem_cons_succ, List.getElem_cons_zero, Act.put, List.setIfInBounds_toArray, List.set_cons_zero, List.set_cons_succ]
    refine wpAnyH_take (i := 8) (oi := _) (v := ?v4n1_8) rfl (by kernel_rfl) (by kernel_rfl) (by kernel_rfl) (fun _ _ _ h => h) (Or.inl ⟨by rfl, ?hy4n1_8⟩) hHeld ?_
    case hy4n1_8 => (intro wS hSw; (try dsimp only at hSw); obtain ⟨⟨s0, s1, s2, s3⟩, v0, v1, v2, v3⟩ := hSw; go_simp; try with_reducible rfl)
    try simp only [List.getElem_toArray, List.getElem_cons_succ, List.getElem_cons_zero, Act.put, List.setIfInBounds_toArray, List.set_cons_zero, List.set_cons_succ]
    refine wpAnyH_take (i := 10) (oi := _) (v := ?v4n1_10) rfl (by kernel_rfl) (by kernel_rfl) (by kernel_rfl) (fun _ _ _ h => h) (Or.inl ⟨by rfl, ?hy4n1_10⟩) hHeld ?_
    case hy4n1_10 => (intro wS hSw; (try dsimp only at hSw); obtain ⟨⟨s0, s1, s2, s3⟩, v0, v1, v2, v3⟩ := hSw; go_simp; try with_reducible rfl)
    try simp only [List.getElem_toArray, List.getElem_cons_succ, List.getElem_cons_zero, Act.put, List.setIfInBounds_toArray, List.set_cons_zero, List.set_cons_succ]
    refine wpAnyH_ready (rs := [9]) (by kernel_rfl) (by simp) ?_
    refine AllReadyH.cons (o := _) rfl (fun K hK => ?_) AllReadyH.nil
    go_simp
    refine (refOps_calls _ _ _ _ _ (threadBs g.blocks) _ (Kd.C_mono (Below.refl w5.heap.size w5).drew C4) HFW4.out).mono ?_
    rw [threadBs_opsN]
    rintro e v9 ⟨rfl, hv9⟩
    have bv9 : Below w5.heap.size w5 v9 := (Below.refl w5.heap.size w5).drew.trans hv9
    go_wp2_with fail
    refine hK.out _ _ (⟨(r2.below (bd5.trans (bv9.mono bd5.size))).graph, (r5.below bv9).graph⟩) (fun hHeld9 => ?_)
    clear hK K hHeld
    try simp only [List.getElem_toArray, List.getElem_cons_succ, List.getElem_cons_zero, Act.put, List.setIfInBounds_toArray, List.set_cons_zero, List.set_cons_succ]
    refine wpAnyH_ready (rs := [11]) (by kernel_rfl) (by simp) ?_
    refine AllReadyH.cons (o := _) rfl (fun K hK => ?_) AllReadyH.nil
    go_simp
    refine (refOps_calls _ _ _ _ _ g.blocks _ (Kd.C_mono (bd5.trans (bv9.mono bd5.size)) C2) HFW.out).mono ?_
    rintro e v11 ⟨rfl, hv11⟩
    have bv11 := bv9.trans (hv11.mono bv9.size)
    go_wp2_with fail
    refine hK.out _ _ (⟨(r2.below (bd5.trans (bv11.mono bd5.size))).graph, (r5.below bv11).graph⟩) (fun hHeld11 => ?_)
    clear hK K hHeld9
    try simp only [List.getElem_toArray, List.getElem_cons_succ, List.getElem_cons_zero, Act.put, List.setIfInBounds_toArray, List.set_cons_zero, List.set_cons_succ]
    refine wpAnyH_take (i := 12) (oi := _) (v := ?v4n1_12) rfl (by kernel_rfl) (by kernel_rfl) (by kernel_rfl) (fun _ _ _ h => h) (Or.inl ⟨by rfl, ?hy4n1_12⟩) hHeld11 ?_
    case hy4n1_12 => (intro wS hSw; (try dsimp only at hSw); obtain ⟨⟨s0, s1, s2, s3⟩, v0, v1, v2, v3⟩ := hSw; go_simp; try with_reducible rfl)
    try simp only [List.getElem_toArray, List.getElem_cons_succ, List.getElem_cons_zero, Act.put, List.setIfInBounds_toArray, List.set_cons_zero, List.set_cons_succ]
    refine wpAnyH_take (i := 13) (oi := _) (v := ?v4n1_13) rfl (by kernel_rfl) (by kernel_rfl) (by kernel_rfl) (fun _ _ _ h => h) (Or.inl ⟨by rfl, ?hy4n1_13⟩) hHeld11 ?_
    case hy4n1_13 => (intro wS hSw; (try dsimp only at hSw); obtain ⟨⟨s0, s1, s2, s3⟩, v0, v1, v2, v3⟩ := hSw; go_simp; try with_reducible rfl)
    try simp only [List.getElem_toArray, List.getElem_cons_succ, List.getElem_cons_zero, Act.put, List.setIfInBounds_toArray, List.set_cons_zero, List.set_cons_succ]
    refine wpAnyH_done (by kernel_rfl) ?_ _
    clear hagg
    have tw := t2.trans ((bd5.trans (bv11.mono bd5.size)).mono t2.size)
    have ra := r2.below (bd5.trans (bv11.mono bd5.size))
    have rh := r5.below bv11
    have CA := Kd.C_mono (bd5.trans (bv11.mono bd5.size)) C2
    have CH := Kd.C_mono bv11 C4
    clear r2 r5 C2 C4
    go_wp2_with fail
    go_loopw [4] (fun i wr => ∃ k : Nat, k ≤ g.blocks.length ∧ i = .int .i64 k ∧ Below v11.heap.size v11 wr) (fun i _ => g.blocks.length - (intOf i).toNat)
    case atStart => exact ⟨0, Nat.zero_le _, rfl, Below.refl _ _⟩
    case round =>
      obtain ⟨k, hk, rfl, hbr⟩ := hrel
      have y3 := (rh.below hbr).cell (j := 3) rfl
      have x3 := (ra.below hbr).cell (j := 3) rfl
      have twr := tw.trans (hbr.mono tw.size)
      by_cases hlt : k < g.blocks.length
      · obtain ⟨b, hb⟩ := get_some g.blocks k hlt
        have hbm := List.mem_of_getElem? hb
        have htb : (threadBs g.blocks)[k]? = some (threadB g.blocks b) := by
          unfold threadBs
          rw [List.getElem?_map, hb]
          rfl
        obtain ⟨ad, X0', xc', rfl, -, f1, f2, f3, f4, f5, f6, f7, f8, f9, f10, f11, -, -, -, -⟩ := Block_at (Kd.C_mono hbr CH) htb
        have htwo := threadT_two (bs := g.blocks) (t := b.fin)
        have hjmp := threadT_jump HLEAD.out hbm
        have hfe : (threadB g.blocks b).fin = threadT g.blocks b.fin := rfl
        rw [hfe] at f1 f2 f3 f4 f5 f6 f7 f8 f9 f10 f11
        generalize threadT g.blocks b.fin = t at *
        have HTWO := Lib.hid htwo
        have HJMP := Lib.hid hjmp
        clear hb hbm htb htwo hjmp hfe
        have b2 := below_alloc' wr (.cells #[.int .i64 t.kind, .int .i64 t.op, .int .i64 t.a, .int .i64 t.b, .int .i64 t.to, .int .i64 t.els, .int .i64 t.ins.op, .int .i64 t.ins.a, .int .i64 t.ins.b, .int .i64 t.ins.c, .int .i64 t.ins.imm] 40)
        have rt : Row (wr.alloc (.cells #[.int .i64 t.kind, .int .i64 t.op, .int .i64 t.a, .int .i64 t.b, .int .i64 t.to, .int .i64 t.els, .int .i64 t.ins.op, .int .i64 t.ins.a, .int .i64 t.ins.b, .int .i64 t.ins.c, .int .i64 t.ins.imm] 40)) wr.heap.size 40 (finCells t) := Row.new wr _ _
        go_upto_region 10 with fail
        generalize wr.alloc (.cells #[.int .i64 t.kind, .int .i64 t.op, .int .i64 t.a, .int .i64 t.b, .int .i64 t.to, .int .i64 t.els, .int .i64 t.ins.op, .int .i64 t.ins.a, .int .i64 t.ins.b, .int .i64 t.ins.c, .int .i64 t.ins.imm] 40) = W2 at *
        clear f1 f2 f3 f4 f5 f6 f7 f8 f9 f10 f11 y3
        have x3b := Sub.of_below b2 _ _ x3
        have hb2 := hbr.trans (b2.mono hbr.size)
        obtain ⟨q0, q1, q2, q3, q4, q5, q6, q7, q8, q9, q10⟩ := termRow rt
        by_cases hk2 : t.kind = 2
        · have z1 : (t.kind == 2) = true := by simp [hk2]
          have z2 : (t.kind != 1) = true := by simp [hk2]
          have z3 : (t.to == t.els) = false := ibeq (HTWO.out hk2)
          clear hk2
          go_wp2_with fail
          exact ⟨⟨k + 1, by omega, by go_num, hb2⟩, by simp [intOf]; omega⟩
        · have z1 : (t.kind == 2) = false := ibeq hk2
          by_cases hk1 : t.kind = 1
          · have z2 : (t.kind != 1) = false := by simp [hk1]
            obtain ⟨z, hz, hto⟩ := HJMP.out hk1
            have hzl := thr_lt HLEAD.out hz
            obtain ⟨x, hx⟩ := get_some g.blocks (thr g.blocks z) hzl
            have hrnd := fun hp => thr_round HLEAD.out hz hx hp
            obtain ⟨ax, X0, xc, e1, i0, i1, i2, i3, i4, i5, i6, i7, i8, i9, i10, i11, -, lx, mx, -⟩ := Block_at (Kd.C_mono hb2 CA) hx
            subst e1
            have hlx := len_le lx mx
            have HRND := Lib.hid hrnd
            have HX := Lib.hid hx
            rw [hto] at q4
            clear hrnd hx hto hk1 hk2
            have b3 := below_alloc' W2 (.cells #[.slice X0 x.ops.length xc, .int .i64 x.fin.kind, .int .i64 x.fin.op, .int .i64 x.fin.a, .int .i64 x.fin.b, .int .i64 x.fin.to, .int .i64 x.fin.els, .int .i64 x.fin.ins.op, .int .i64 x.fin.ins.a, .int .i64 x.fin.ins.b, .int .i64 x.fin.ins.c, .int .i64 x.fin.ins.imm] 42)
            have rx : Row (W2.alloc (.cells #[.slice X0 x.ops.length xc, .int .i64 x.fin.kind, .int .i64 x.fin.op, .int .i64 x.fin.a, .int .i64 x.fin.b, .int .i64 x.fin.to, .int .i64 x.fin.els, .int .i64 x.fin.ins.op, .int .i64 x.fin.ins.a, .int .i64 x.fin.ins.b, .int .i64 x.fin.ins.c, .int .i64 x.fin.ins.imm] 42)) W2.heap.size 42 (blockCells (.slice X0 x.ops.length xc) x) := Row.new W2 _ _
            go_upto_region 14 with fail
            generalize W2.alloc (.cells #[.slice X0 x.ops.length xc, .int .i64 x.fin.kind, .int .i64 x.fin.op, .int .i64 x.fin.a, .int .i64 x.fin.b, .int .i64 x.fin.to, .int .i64 x.fin.els, .int .i64 x.fin.ins.op, .int .i64 x.fin.ins.a, .int .i64 x.fin.ins.b, .int .i64 x.fin.ins.c, .int .i64 x.fin.ins.imm] 42) = W3 at *
            clear i0 i1 i2 i3 i4 i5 i6 i7 i8 i9 i10 i11
            have q4b := Sub.of_below b3 _ _ q4
            have hb3 := hb2.trans (b3.mono hb2.size)
            clear q0 q1 q2 q3 q4 q5 q6 q7 q8 q9 q10 x3 x3b
            have x3 := (ra.below hb3).cell (j := 3) rfl
            obtain ⟨u0, u1, u2, u3, u4, u5, u6, u7, u8, u9, u10, u11⟩ := rx.block
            have rt3 := rt.below b3
            by_cases hp : passB x
            · have w1' : decide (0 < x.ops.length) = false := by simp [hp.1]
              have w2' : (x.fin.kind != 1) = false := by simp [hp.2]
              have hr := HRND.out hp
              have HR2 := Lib.hid hr
              have C3 := Kd.C_mono hb3 CA
              clear hp hr
              go_upto_region 17 with fail
              clear u0 u1 u2 u3 u4 u5 u6 u7 u8 u9 u10 u11 q4b
              obtain ⟨wo, hwo⟩ : ∃ wo : World, wo = wr := ⟨_, rfl⟩
              subst hwo
              go_loopw [8, 7] (fun i v wr => ∃ m : Nat, m ≤ g.blocks.length ∧ i = .int .i64 m ∧ v = .int .i64 (thrN g.blocks m (thr g.blocks z) : Int) ∧ wr = W3) (fun i _ _ => g.blocks.length - (intOf i).toNat)
              case atStart => exact ⟨0, Nat.zero_le _, rfl, rfl, by trivial⟩
              case round =>
                obtain ⟨m, hm, rfl, rfl, rfl⟩ := hrel
                by_cases hltm : m < g.blocks.length
                · obtain ⟨y, hy, hpy⟩ := HR2.out m
                  obtain ⟨y', hy', hpy'⟩ := HR2.out (m + 1)
                  have hnx := thrN_pass hy hpy
                  have hly : thrN g.blocks m (thr g.blocks z) < g.blocks.length := (List.getElem?_eq_some_iff.1 hy).1
                  have hly' : thrN g.blocks (m + 1) (thr g.blocks z) < g.blocks.length := (List.getElem?_eq_some_iff.1 hy').1
                  have hto : y.fin.to = (thrN g.blocks (m + 1) (thr g.blocks z) : Int) := by
                    rw [hnx]
                    have := ((HLEAD.out y (List.mem_of_getElem? hy)).1 (.inl hpy.2)).1
                    omega
                  obtain ⟨ay, Y0, yc, ey, -, -, -, -, -, j5, -⟩ := Block_at C3 hy
                  injection ey with ey
                  subst ey
                  obtain ⟨ay', Y0', yc', ey', l0, l1, -⟩ := Block_at C3 hy'
                  injection ey' with ey'
                  subst ey'
                  rw [hto] at j5
                  rw [hpy'.1] at l0
                  rw [hpy'.2] at l1
                  clear hy hpy hy' hpy' hnx hto
                  generalize hn1 : thrN g.blocks (m + 1) (thr g.blocks z) = n1 at *
                  generalize thrN g.blocks m (thr g.blocks z) = n0 at *
                  have HN1 := Lib.hid hn1
                  clear hn1
                  go_wp2_with fail
                  exact ⟨⟨m + 1, by omega, by go_num, by rw [HN1.out], by trivial⟩, by simp [intOf]; omega⟩
                · obtain rfl : m = g.blocks.length := by omega
                  go_wp2_with fail
                  exact ⟨⟨k + 1, by omega, by go_num, hb3⟩, by simp [intOf]; omega⟩
            · have hb3' := hb3
              by_cases hz0 : x.ops.length = 0
              · have w1' : decide (0 < x.ops.length) = false := by simp [hz0]
                have w2' : (x.fin.kind != 1) = true := by
                  have : ¬ x.fin.kind = 1 := fun h => hp ⟨hz0, h⟩
                  simpa using this
                clear hp hz0
                go_wp2_with fail
                exact ⟨⟨k + 1, by omega, by go_num, hb3⟩, by simp [intOf]; omega⟩
              · have w1' : decide (0 < x.ops.length) = true := decide_eq_true (by omega)
                clear hp hz0
                go_wp2_with fail
                exact ⟨⟨k + 1, by omega, by go_num, hb3⟩, by simp [intOf]; omega⟩
          · have z2 : (t.kind != 1) = true := by simpa using hk1
            clear hk1 hk2
            go_wp2_with fail
            exact ⟨⟨k + 1, by omega, by go_num, hb2⟩, by simp [intOf]; omega⟩
      · obtain rfl : k = g.blocks.length := by omega
        go_wp2_with fail
        go_ret
        exact ⟨rfl, twr⟩
end Go.Proofs.Ytokkngfgppikkaa
