/- FoldKeeps returns true: what fold.Graph answers is new memory: with all of it overwritten the graph handed in is as before. Printed by genVj.py of this repository. -/
import Derived.Test.YtokkngfgppikkabVi
namespace Go.Proofs.Ytokkngfgppikkab
set_option linter.unusedVariables false
set_option linter.unusedSimpArgs false
open Go.RowKit

theorem zop_wf : Op.zero.wf := ⟨by decide, by decide, by decide, by decide, by decide, by decide, by decide, by decide⟩
theorem zfin_wf (os : List Op) : (⟨os, Term.zero⟩ : Block).wf := by
  have z : (Lit.int .i64 0).wf = true := by decide
  exact ⟨z, z, z, z, z, z, z, z, z, z, z⟩
theorem set_getB {α : Type} {xs : List α} {i : Nat} {x : α} (h : i < xs.length) : (xs.set i x)[i]? = some x := by rw [List.getElem?_set, if_pos rfl, if_pos h]

set_option maxHeartbeats 8000000 in
set_option maxRecDepth 100000 in
theorem foldKeeps_law (w : World) (g : Graph) (wf : g.wf) (A : Option Addr) (c : Nat) (hlc : g.blocks.length ≤ c) (hcm : c ≤ maxLen) (hC : kBlock.C w A g.blocks) : Calls Try.prog 10 #[.agg #[.string g.name, .bool g.keep, .bool g.leaf, .slice A g.blocks.length c]] w fun e w' => e = .returned (.bool true) ∧ Below w.heap.size w w' := by
  clear wf
  have hlm := Nat.le_trans hlc hcm
  have hlm' : g.blocks.length ≤ 9223372036854775807 := hlm
  have b0 := below_alloc' w (.cells #[.string g.name, .bool g.keep, .bool g.leaf, .slice A g.blocks.length c] 24)
  have r0 : Row (w.alloc (.cells #[.string g.name, .bool g.keep, .bool g.leaf, .slice A g.blocks.length c] 24)) w.heap.size 24 (graphCells (.slice A g.blocks.length c) g) := Row.new w _ _
  cases hf : fine21B g.blocks with
  | false =>
    have HF := Lib.hid hf
    clear hf
    go_enter Try.func10, Try.ntmps10
    go_upto_region 1 with fail
    generalize w.alloc (.cells #[.string g.name, .bool g.keep, .bool g.leaf, .slice A g.blocks.length c] 24) = W at *
    go_wp2_with fail
    refine (awake21_calls _).mono ?_
    rintro e w1 ⟨rfl, hb1⟩
    have r1 := r0.below hb1
    obtain ⟨x0, x1, x2, x3⟩ := r1.graph
    have t1 := b0.trans (hb1.mono b0.size)
    go_wp2_with fail
    refine (fine21_calls _ _ _ _ _ _ _ (Kd.C_mono t1 hC) hlm).mono ?_
    rw [HF.out]
    rintro e w2 ⟨rfl, hb2⟩
    have t2 := t1.trans (hb2.mono t1.size)
    have r2 := r1.below hb2
    clear x0 x1 x2 x3
    obtain ⟨x0, x1, x2, x3⟩ := r2.graph
    go_wp2_with fail
    refine (awake21_calls _).mono ?_
    rintro e w3 ⟨rfl, hb3⟩
    go_wp2_with fail
    go_ret
    exact ⟨rfl, t2.trans (hb3.mono t2.size)⟩
  | true =>
    have HF := Lib.hid hf
    obtain ⟨hfw, h60, hright⟩ := fine21_parts hf
    have hok : BsOk g.blocks := ⟨1000, 1000, hright⟩
    have hpos := (blocksRight_iff.1 hright).2
    have h300 := (blocksFew_parts hfw).2
    have hl : g.blocks.length ≤ 1000 := by omega
    have HFW := Lib.hid hfw
    have HR := Lib.hid hright
    have HOK := Lib.hid hok
    have H3 := Lib.hid h300
    clear hf hfw hright hok h300
    go_enter Try.func10, Try.ntmps10
    go_upto_region 1 with fail
    generalize w.alloc (.cells #[.string g.name, .bool g.keep, .bool g.leaf, .slice A g.blocks.length c] 24) = W at *
    go_wp2_with fail
    refine (awake21_calls _).mono ?_
    rintro e w1 ⟨rfl, hb1⟩
    have r1 := r0.below hb1
    obtain ⟨x0, x1, x2, x3⟩ := r1.graph
    have t1 := b0.trans (hb1.mono b0.size)
    go_wp2_with fail
    refine (fine21_calls _ _ _ _ _ _ _ (Kd.C_mono t1 hC) hlm).mono ?_
    rw [HF.out]
    rintro e w2 ⟨rfl, hb2⟩
    have t2 := t1.trans (hb2.mono t1.size)
    have r2 := r1.below hb2
    clear x0 x1 x2 x3
    obtain ⟨x0, x1, x2, x3⟩ := r2.graph
    have C2 := Kd.C_mono t2 hC
    clear hb1 hb2 t1 r0 r1 b0 hC
    go_wp2_with fail
    refine (copy_calls g.name g.keep g.leaf _ c g.blocks _ C2 hlm HFW.out).mono ?_
    rintro e w3 ⟨A3, c3, F3, rfl, own3, hF3, hb3⟩
    have bq := below_alloc' w3 (.cells #[.string g.name, .bool g.keep, .bool g.leaf, .slice A3 g.blocks.length c3] 24)
    have r3' : Row (w3.alloc (.cells #[.string g.name, .bool g.keep, .bool g.leaf, .slice A3 g.blocks.length c3] 24)) w3.heap.size 24 (graphCells (.slice A3 g.blocks.length c3) g) := Row.new w3 _ _
    have CW3 := own_bsF own3
    clear own3 hF3 x0 x1 x2 x3
    go_upto_region 4 with fail
    generalize w3.alloc (.cells #[.string g.name, .bool g.keep, .bool g.leaf, .slice A3 g.blocks.length c3] 24) = w4 at *
    have b34 := hb3.trans (bq.mono hb3.size)
    have C4 := Kd.C_mono b34 C2
    have CW4 := Kd.C_mono bq CW3
    have r4 := r2.below b34
    have t4 := t2.trans (b34.mono t2.size)
    generalize w3.heap.size = GW at *
    clear r2 C2 CW3 bq hb3 b34 t2
    obtain ⟨x0, x1, x2, x3⟩ := r4.graph
    go_wp2_with fail
    refine (foldgraph_calls g.name g.keep g.leaf _ c g.blocks _ C4 hl HOK.out H3.out hpos).mono ?_
    rintro e w5 ⟨L, hD, A5, c5, F5, rfl, own5, hF5, hb5⟩
    have hll := hD.len
    have bq := below_alloc' w5 (.cells #[.string g.name, .bool g.keep, .bool g.leaf, .slice A5 L.length c5] 24)
    have r6 : Row (w5.alloc (.cells #[.string g.name, .bool g.keep, .bool g.leaf, .slice A5 L.length c5] 24)) w5.heap.size 24 (graphCells (.slice A5 L.length c5) ⟨g.name, g.keep, g.leaf, L⟩) := Row.new w5 _ _
    have HLL := Lib.hid hll
    clear x0 x1 x2 x3 hD hll
    go_upto_region 5 with fail
    generalize w5.alloc (.cells #[.string g.name, .bool g.keep, .bool g.leaf, .slice A5 L.length c5] 24) = w6 at *
    have b56 := hb5.trans (bq.mono hb5.size)
    have own6 := own5.below bq
    have hF6 : ∀ b, F5 b → w4.heap.size ≤ b ∧ b ≠ w5.heap.size := fun b hb => ⟨hF5 b hb, by have := own5.lt b hb; omega⟩
    have hG6 : w4.heap.size ≤ w5.heap.size := hb5.size
    generalize w5.heap.size = G6 at *
    obtain ⟨N, hN⟩ : ∃ N, N = L.length := ⟨_, rfl⟩
    rw [← hN] at r6
    have hll := HLL.out
    have hNl : N ≤ 1000 := by omega
    have HN := Lib.hid hN.symm
    have HO6 := Lib.hid own6
    have HF6 := Lib.hid hF6
    clear hb5 bq own5 own6 hF5 hF6 hll hN
    go_wp2_with fail
    go_loopw [5] (fun i wr => ∃ (k : Nat) (zs : List Block) (F : Nat → Prop), k ≤ N ∧ i = .int .i64 (k : Int) ∧ zs.length = N ∧ OwnF oBlock 39 wr (.slice A5 N c5) zs F ∧ (∀ x, F x → w4.heap.size ≤ x ∧ x ≠ G6) ∧ Row wr G6 24 (graphCells (.slice A5 N c5) ⟨g.name, g.keep, g.leaf, L⟩) ∧ Below w4.heap.size w4 wr) (fun i _ => N - (intOf i).toNat)
    case atStart => exact ⟨0, L, F5, Nat.zero_le _, rfl, HN.out, HN.out ▸ HO6.out, HF6.out, r6, b56⟩
    case round =>
      obtain ⟨k, zs, F, hk, rfl, hzn, ho, hF, hg, hbr⟩ := hrel
      have y3 := hg.cell (j := 3) rfl
      by_cases hlt : k < N
      · obtain ⟨b, hb⟩ := get_some zs k (by rw [hzn]; exact hlt)
        obtain ⟨M, hM⟩ : ∃ M, M = b.ops.length := ⟨_, rfl⟩
        have hM3 : b.ops.length ≤ maxLen := by
          obtain ⟨g1, q1, cs, Fi, F0, e0, lq, mq, h0, hO, d0, iff0⟩ := ho.open_ hb
          obtain ⟨v, -, hwf, oo⟩ := hO
          obtain ⟨Ao, co, -, lo, mo, -⟩ := oo.read
          exact Nat.le_trans lo mo
        have hM4 : M ≤ 9223372036854775807 := by rw [hM]; exact hM3
        have HB := Lib.hid hb
        have HM := Lib.hid hM.symm
        have HZN := Lib.hid hzn
        have HO := Lib.hid ho
        have HF := Lib.hid hF
        have HG := Lib.hid hg
        clear hb hM hzn ho hF hg hM3
        go_wp2_with fail
        clear y3
        go_loopw [6] (fun i wr => ∃ (q : Nat) (zs : List Block) (b : Block) (F : Nat → Prop), q ≤ M ∧ i = .int .i64 (q : Int) ∧ zs.length = N ∧ zs[k]? = some b ∧ b.ops.length = M ∧ OwnF oBlock 39 wr (.slice A5 N c5) zs F ∧ (∀ x, F x → w4.heap.size ≤ x ∧ x ≠ G6) ∧ Row wr G6 24 (graphCells (.slice A5 N c5) ⟨g.name, g.keep, g.leaf, L⟩) ∧ Below w4.heap.size w4 wr) (fun i _ => M - (intOf i).toNat)
        case atStart => exact ⟨0, zs, b, F, Nat.zero_le _, rfl, HZN.out, HB.out, HM.out, HO.out, HF.out, HG.out, hbr⟩
        case round =>
          obtain ⟨q, zs, b, F, hq, rfl, hzn, hb, hM, ho, hF, hg, hbr⟩ := hrel
          have y3 := hg.cell (j := 3) rfl
          have hkn : k < zs.length := by rw [hzn]; exact hlt
          obtain ⟨g1, q1, cs, Fi, F0, e0, lq, mq, h0, hO, d0, iff0⟩ := ho.open_ hb
          obtain ⟨v, rfl, hwf, oo⟩ := hO
          injection e0 with e1 e2 e3
          subst e1 e3
          obtain ⟨Ao, co, rfl, lo, mo, -⟩ := oo.read
          obtain ⟨i0, -⟩ := h0.block
          rw [hM] at i0
          by_cases hltq : q < M
          · obtain ⟨o, hoq⟩ := get_some b.ops q (by rw [hM]; exact hltq)
            obtain ⟨p2, q2, e4, l4, m4, h2⟩ := oo.openOp hoq
            injection e4 with e5 e6 e7
            subst e5 e7
            have hp2 : Fi p2 := oo.row rfl
            have HH0 := Lib.hid h0
            have HH2 := Lib.hid h2
            have HD0 := Lib.hid d0
            have HI := Lib.hid iff0
            have HF := Lib.hid hF
            have HZN := Lib.hid hzn
            have HM := Lib.hid hM
            have HP2 := Lib.hid hp2
            have HWF := Lib.hid hwf
            have HG := Lib.hid hg
            clear e2 e6 hzn hb hM ho hF hg h0 h2 hwf oo d0 iff0 hoq lo mo l4 m4 hp2 lq mq
            go_wp2_with (refine wpList_put_hole rfl 56 _ _ rfl p2 (opCells Op.zero) rfl rfl HH2.out (by kernel_rfl) rfl (opCells_one _) ?_; intro w9 h9 g9 s9; clear s9)
            have o9 := h9.closeOp zop_wf
            have h09 := HH0.out.grown g9 (fun x hx e => by injection e with e; subst e; exact HD0.out _ HP2.out hx)
            have hcl := h09.close (y := ⟨b.ops.set q Op.zero, b.fin⟩) (Gi := Fi) ⟨_, rfl, HWF.out, o9⟩ HD0.out
            rw [HZN.out] at hcl
            exact ⟨⟨q + 1, _, _, _, by omega, by go_num, by rw [List.length_set]; exact HZN.out, set_getB hkn, by rw [List.length_set]; exact HM.out, hcl, fun x hx => HF.out x ((HI.out x).2 hx), HG.out.grown g9 (fun e => by injection e with e; exact (HF.out _ ((HI.out _).2 (.inr HP2.out))).2 e), hbr.grown g9 hbr.size (fun x hx => by injection hx with hx; subst hx; exact (HF.out _ ((HI.out _).2 (.inr HP2.out))).1)⟩, by simp [intOf]; omega⟩
          · obtain rfl : q = M := by omega
            have HH0 := Lib.hid h0
            have HD0 := Lib.hid d0
            have HI := Lib.hid iff0
            have HF := Lib.hid hF
            have HZN := Lib.hid hzn
            have HOO := Lib.hid oo
            have HG := Lib.hid hg
            clear e2 hzn hb hM ho hF hg h0 hwf oo d0 iff0 lo mo lq mq
            go_wp2_with (refine wpList_put_part rfl 37 _ _ rfl g1 1 (finCells Term.zero) rfl rfl HH0.out (by kernel_rfl) (by show 1 + 11 ≤ 12; decide) (finCells_one _) ?_; intro w9 h9 g9 s9; clear s9)
            have o9 := HOO.out.grown g9 (fun x hx e => by injection e with e; subst e; exact HD0.out _ hx HH0.out.row)
            have hcl := h9.close (y := ⟨b.ops, Term.zero⟩) (Gi := Fi) ⟨_, rfl, zfin_wf _, o9⟩ HD0.out
            rw [HZN.out] at hcl
            exact ⟨⟨k + 1, _, _, by omega, by go_num, by rw [List.length_set]; exact HZN.out, hcl, fun x hx => HF.out x ((HI.out x).2 hx), HG.out.grown g9 (fun e => by injection e with e; exact (HF.out _ ((HI.out _).2 (.inl HH0.out.row))).2 e), hbr.grown g9 hbr.size (fun x hx => by injection hx with hx; subst hx; exact (HF.out _ ((HI.out _).2 (.inl HH0.out.row))).1)⟩, by simp [intOf]; omega⟩
      · obtain rfl : k = N := by omega
        clear ho hF hzn
        obtain ⟨x0, x1, x2, x3⟩ := (r4.below hbr).graph
        obtain ⟨q0, q1, q2, q3⟩ := (r3'.below hbr).graph
        go_wp2_with fail
        refine (same_calls _ _ _ _ _ _ _ g.blocks _ (Kd.C_mono hbr C4) (Kd.C_mono hbr CW4) hlm).mono ?_
        rintro e w9 ⟨rfl, hb9⟩
        go_wp2_with fail
        go_ret
        have t9 := t4.trans (hbr.mono t4.size)
        exact ⟨rfl, t9.trans (hb9.mono t9.size)⟩
end Go.Proofs.Ytokkngfgppikkab
