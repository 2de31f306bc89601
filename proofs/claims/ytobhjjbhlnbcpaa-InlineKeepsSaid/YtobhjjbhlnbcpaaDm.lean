/- The laws of layer 23: InlineKeeps returns true. -/
import Derived.Test.YtobhjjbhlnbcpaaDi
import Derived.Test.YtobhjjbhlnbcpaaDj
import Derived.Test.YtobhjjbhlnbcpaaFg
namespace Go.Proofs.Ytobhjjbhlnbcpaa
set_option linter.unusedVariables false
set_option linter.unusedSimpArgs false
open Go.RowKit

theorem blk_wf (os : List Op) : (⟨os, Term.zero⟩ : Block).wf := by
  have z : (Lit.int .i64 0).wf = true := Wf64 (by omega)
  exact ⟨z, z, z, z, z, z, z, z, z, z, z⟩
theorem op_wf0 : Op.zero.wf := by
  have z : (Lit.int .i64 0).wf = true := Wf64 (by omega)
  exact ⟨z, z, z, z, z, z, z, z⟩

set_option maxHeartbeats 8000000 in
set_option maxRecDepth 100000 in
theorem inlineKeeps_law (w : World) (A : Option Addr) (c : Nat) (gs : List Graph) (hlc : gs.length ≤ c) (hcm : c ≤ maxLen) (hC : kGraph.C w A gs) : Calls Try.prog 5 #[.slice A gs.length c] w fun e w' => e = .returned (.bool true) ∧ Below w.heap.size w w' := by
  have hlm := Nat.le_trans hlc hcm
  have hlm' : gs.length ≤ 9223372036854775807 := hlm
  cases hr : gsFew gs 1000 with
  | false =>
    have HR := Lib.hid hr
    clear hr
    go_enter Try.func5, Try.ntmps5
    go_wp2_with fail
    refine (awake23_calls _).mono ?_
    rintro e w1 ⟨rfl, hb1⟩
    go_wp2_with fail
    refine (gsFew_calls _ _ _ _ _ (Kd.C_mono hb1 hC) hlm).mono ?_
    rw [HR.out]
    rintro e w2 ⟨rfl, hb2⟩
    go_wp2_with fail
    refine (awake23_calls _).mono ?_
    rintro e w3 ⟨rfl, hb3⟩
    go_wp2_with fail
    go_ret
    exact ⟨rfl, hb1.trans ((hb2.mono hb1.size).trans (hb3.mono (Nat.le_trans hb1.size hb2.size)))⟩
  | true =>
    have hok := gsOk_few hr
    have h60 := hok.1
    have hfw : ∀ g ∈ gs, blocksFew g.blocks = true := fun g hg => (hok.2 g hg).1
    have HR := Lib.hid hr
    have HOK := Lib.hid hok
    have HFW := Lib.hid hfw
    clear hr hok hfw
    go_enter Try.func5, Try.ntmps5
    go_wp2_with fail
    refine (awake23_calls _).mono ?_
    rintro e w1 ⟨rfl, hb1⟩
    go_wp2_with fail
    refine (gsFew_calls _ _ _ _ _ (Kd.C_mono hb1 hC) hlm).mono ?_
    rw [HR.out]
    rintro e w2 ⟨rfl, hb2⟩
    have t2 := hb1.trans (hb2.mono hb1.size)
    go_wp2_with fail
    refine (copies_calls _ _ _ _ (Kd.C_mono t2 hC) (by omega) HFW.out).mono ?_
    rintro e w3 ⟨A5, c5, F5, rfl, own5, -, hb3⟩
    have t3 := t2.trans (hb3.mono t2.size)
    have C5 := own_gs_read own5
    have C3 := Kd.C_mono t3 hC
    clear own5
    go_wp2_with fail
    refine (leaves_calls _ _ _ _ C3 HOK.out).mono ?_
    rintro e w6 ⟨A6, c6, F6, rfl, own6, hF6, hb6⟩
    go_wp2_with fail
    refine (tails_calls _ _ _ _ (Kd.C_mono hb6 C3) HOK.out).mono ?_
    rintro e w7 ⟨A7, c7, F7, rfl, own7, hF7, hb7⟩
    obtain ⟨G7, hY, hG7⟩ := own7.toY
    have hl6 : (gs.map (leavesG gs)).length = gs.length := by simp
    have hl7 : (gs.map tailsG).length = gs.length := by simp
    have own6' := own6.below hb7
    have hlt6 := own6.lt
    rw [hl6] at own6'
    have HL7 := Lib.hid hl7
    have hlen8 : (gs.map (leavesG gs)).length + (gs.map tailsG).length ≤ 122 := by rw [hl6, hl7]; omega
    have HL8 := Lib.hid hlen8
    obtain ⟨N, hNd⟩ : ∃ N, N = (gs.map (leavesG gs) ++ gs.map tailsG).length := ⟨_, rfl⟩
    have HNL := Lib.hid hNd.symm
    have hN : N ≤ 122 := by rw [hNd, List.length_append]; exact hlen8
    clear hl6 hl7 hlen8 own6 own7 hNd
    go_wp2_with (at_builtin; refine wpList_append_f (k := oGraph) elGraph rfl _ _ rfl (A := A7) (c := c7) own6' hY (fun b hb hg => by (have := hlt6 b hb; have := hF7 b (hG7 b hg); omega)) rfl (by show _ = Value.slice _ (gs.map tailsG).length _; rw [HL7.out]; rfl) (Nat.le_trans HL8.out (by decide)) ?_; intro v8 w8 hg8; obtain ⟨⟨F8, own8, hF8⟩, hgr8⟩ := hg8; obtain ⟨A8, c8, hv8, l8, m8, -⟩ := own8.read; rw [HNL.out] at hv8; subst hv8)
    have hbb : Below w3.heap.size w3 w8 := (hb6.trans (hb7.mono hb6.size)).grown hgr8 (Nat.le_trans hb6.size hb7.size) (fun j hj => hF6 j (own6'.row hj))
    have hF8' : ∀ x, F8 x → w3.heap.size ≤ x := fun x hx => by
      rcases hF8 x hx with h | h | h
      · exact hF6 x h
      · exact Nat.le_trans hb6.size (hF7 x (hG7 x h))
      · exact Nat.le_trans hb6.size (Nat.le_trans hb7.size h)
    generalize hzs : gs.map (leavesG gs) ++ gs.map tailsG = zs0 at *
    have HN0 := HNL
    have HO8 := Lib.hid own8
    have HF8 := Lib.hid hF8'
    have hN' : N ≤ 9223372036854775807 := by omega
    clear hzs own8 hF8' hgr8 hF8 own6' hY hlt6 hF6 hF7 hG7 hb6 hb7 l8 m8
    go_wp2_with fail
    go_loopw [5] (fun i wr => ∃ (k : Nat) (zs : List Graph) (F : Nat → Prop), k ≤ N ∧ i = .int .i64 k ∧ zs.length = N ∧ OwnF oGraph 28 wr (.slice A8 N c8) zs F ∧ (∀ x, F x → w3.heap.size ≤ x) ∧ Below w3.heap.size w3 wr) (fun i _ => N - (intOf i).toNat)
    case atStart => exact ⟨0, zs0, F8, Nat.zero_le _, rfl, HN0.out, HO8.out, HF8.out, hbb⟩
    case round =>
      obtain ⟨k, zs, F, hk, rfl, hzn, ho, hF, hbr⟩ := hrel
      by_cases hlt : k < N
      · obtain ⟨m, hm⟩ := get_some zs k (by rw [hzn]; exact hlt)
        obtain ⟨p0, q0, v, F0, F1, e0, h0, hmw, hob, d0, i0⟩ := ho.open1 hm
        injection e0 with e1 e2 e3
        subst e1 e3
        obtain ⟨AB, cB, hvB, lB, mB, -⟩ := hob.read
        subst hvB
        obtain ⟨L, hL⟩ : ∃ L, L = m.blocks.length := ⟨_, rfl⟩
        have hlB := len_le lB mB
        have HZN := Lib.hid hzn
        have HO := Lib.hid ho
        have HF := Lib.hid hF
        have HM := Lib.hid hm
        have HL := Lib.hid hL.symm
        rw [← hL] at hlB
        clear e2 hzn ho hF hm h0 hmw hob d0 i0 hL lB mB
        obtain ⟨wo, hwo⟩ : ∃ wo : World, wo = wr := ⟨_, rfl⟩
        subst hwo
        go_wp2_with fail
        go_loopw [6] (fun i wr => ∃ (j : Nat) (zs : List Graph) (m : Graph) (F : Nat → Prop), j ≤ L ∧ i = .int .i64 j ∧ zs.length = N ∧ zs[k]? = some m ∧ m.blocks.length = L ∧ OwnF oGraph 28 wr (.slice (some ⟨p0, 0, none⟩) N c8) zs F ∧ (∀ x, F x → w3.heap.size ≤ x) ∧ Below w3.heap.size w3 wr) (fun i _ => L - (intOf i).toNat)
        case atStart => exact ⟨0, zs, m, F, Nat.zero_le _, rfl, HZN.out, HM.out, HL.out, HO.out, HF.out, hbr⟩
        case round =>
          obtain ⟨j, zs, m, F, hj, rfl, hzn, hm, hL, ho, hF, hbr⟩ := hrel
          obtain ⟨p0', q0, v, F0, F1, e0, h0, hmw, hob, d0, i0⟩ := ho.open1 hm
          injection e0 with e1 e2 e3
          injection e1 with e1
          injection e1 with e1
          subst e1 e3
          obtain ⟨AB, cB, hvB, lB, mB, -⟩ := hob.read
          subst hvB
          obtain ⟨-, -, -, f3⟩ := h0.graph
          rw [hL] at f3
          by_cases hltj : j < L
          · obtain ⟨b, hb⟩ := get_some m.blocks j (by rw [hL]; exact hltj)
            obtain ⟨p0', q0, p1, q1, v0, F0, F1, F2, e0, h0, hmw, h1, hbw, hoo, d1, d2, iff, -⟩ := ho.open2 hm hb
            obtain ⟨AO, cO, hvO, lO, mO, -⟩ := hoo.read
            obtain ⟨M, hM⟩ : ∃ M, M = b.ops.length := ⟨_, rfl⟩
            have hlO := len_le lO mO
            have HZN := Lib.hid hzn
            have HO := Lib.hid ho
            have HF := Lib.hid hF
            have HMM := Lib.hid hm
            have HL := Lib.hid hL
            have HB := Lib.hid hb
            have HM := Lib.hid hM.symm
            rw [← hM] at hlO
            clear e2 hzn ho hF hm hL hb h0 hmw h1 hbw hoo d1 d2 iff hM lO mO hob d0 i0 lB mB hvO e0
            obtain ⟨wi, hwi⟩ : ∃ wi : World, wi = wr := ⟨_, rfl⟩
            subst hwi
            go_wp2_with fail
            go_loopw [7] (fun i wr => ∃ (q : Nat) (zs : List Graph) (m : Graph) (b : Block) (F : Nat → Prop), q ≤ M ∧ i = .int .i64 q ∧ zs.length = N ∧ zs[k]? = some m ∧ m.blocks.length = L ∧ m.blocks[j]? = some b ∧ b.ops.length = M ∧ OwnF oGraph 28 wr (.slice (some ⟨p0, 0, none⟩) N c8) zs F ∧ (∀ x, F x → w3.heap.size ≤ x) ∧ Below w3.heap.size w3 wr) (fun i _ => M - (intOf i).toNat)
            case atStart => exact ⟨0, zs, m, b, F, Nat.zero_le _, rfl, HZN.out, HMM.out, HL.out, HB.out, HM.out, HO.out, HF.out, hbr⟩
            case round =>
              obtain ⟨q, zs, m, b, F, hq, rfl, hzn, hm, hL, hb, hM, ho, hF, hbr⟩ := hrel
              obtain ⟨p0', q0, p1, q1, v0, F0, F1, F2, e0, h0, hmw, h1, hbw, hoo, d1, d2, iff, -⟩ := ho.open2 hm hb
              injection e0 with e1 e2 e3
              injection e1 with e1
              injection e1 with e1
              subst e1 e3
              obtain ⟨AO, cO, hvO, lO, mO, -⟩ := hoo.read
              subst hvO
              obtain ⟨-, -, -, f3⟩ := h0.graph
              rw [hL] at f3
              have i0 := h1.block.1
              rw [hM] at i0
              have hp0 : w3.heap.size ≤ p0 := hF _ ((iff _).2 (.inl h0.row))
              have hp1 : w3.heap.size ≤ p1 := hF _ ((iff _).2 (.inr (.inl h1.row)))
              have hkn : k < zs.length := by rw [hzn]; exact hlt
              have hjl : j < m.blocks.length := by rw [hL]; exact hltj
              by_cases hltq : q < M
              · obtain ⟨o, hoq⟩ := get_some b.ops q (by rw [hM]; exact hltq)
                obtain ⟨p2, q2, e4, l4, m4, h2⟩ := hoo.openOp hoq
                injection e4 with e5 e6 e7
                subst e5 e7
                have hp2 : F2 p2 := hoo.row rfl
                have HH0 := Lib.hid h0
                have HH1 := Lib.hid h1
                have HH2 := Lib.hid h2
                have HD1 := Lib.hid d1
                have HD2 := Lib.hid d2
                have HI := Lib.hid iff
                have HF := Lib.hid hF
                have HZN := Lib.hid hzn
                have HL := Lib.hid hL
                have HM := Lib.hid hM
                have HMW := Lib.hid hmw
                have HBW := Lib.hid hbw
                have HP2 := Lib.hid hp2
                clear e2 e6 hzn hm hL hb hM ho hF h0 h1 h2 hmw hbw hoo d1 d2 iff hoq lO mO l4 m4 hp2
                go_wp2_with (refine wpList_put_hole rfl 45 _ _ rfl p2 (opCells Op.zero) rfl rfl HH2.out (by kernel_rfl) rfl (opCells_one _) ?_; intro w9 h9 g9 s9; clear s9)
                have o9 := h9.closeOp op_wf0
                have h19 := HH1.out.grown g9 (fun x hx e => by injection e with e; subst e; exact (HD2.out _ HP2.out).2 hx)
                have h09 := HH0.out.grown g9 (fun x hx e => by injection e with e; subst e; exact (HD2.out _ HP2.out).1 hx)
                have hcl := close2 (b' := ⟨b.ops.set q Op.zero, b.fin⟩) (v' := .slice (some ⟨p2, 0, none⟩) b.ops.length cO) h09 HMW.out h19 HBW.out o9 HD1.out HD2.out
                rw [HZN.out] at hcl
                exact ⟨⟨q + 1, _, _, _, _, by omega, by go_num, by rw [List.length_set]; exact HZN.out, set_get hkn, by rw [List.length_set]; exact HL.out, set_get hjl, by rw [List.length_set]; exact HM.out, hcl, fun x hx => HF.out x ((HI.out x).2 hx), hbr.grown g9 hbr.size (fun x hx => by injection hx with hx; subst hx; exact HF.out _ ((HI.out _).2 (.inr (.inr HP2.out))))⟩, by simp [intOf]; omega⟩
              · obtain rfl : q = M := by omega
                have HH0 := Lib.hid h0
                have HH1 := Lib.hid h1
                have HOO := Lib.hid hoo
                have HD1 := Lib.hid d1
                have HD2 := Lib.hid d2
                have HI := Lib.hid iff
                have HF := Lib.hid hF
                have HZN := Lib.hid hzn
                have HL := Lib.hid hL
                have HMW := Lib.hid hmw
                clear e2 hzn hm hL hb hM ho hF h0 h1 hmw hbw hoo d1 d2 iff lO mO
                go_wp2_with (refine wpList_put_part rfl 41 _ _ rfl p1 1 (finCells Term.zero) rfl rfl HH1.out (by kernel_rfl) (by decide) (finCells_one _) ?_; intro w9 h9 g9 s9; clear s9)
                have h09 := HH0.out.grown g9 (fun x hx e => by injection e with e; subst e; exact HD1.out _ HH1.out.row hx)
                have o9 := HOO.out.grown g9 (fun x hx e => by injection e with e; subst e; exact (HD2.out _ hx).2 HH1.out.row)
                have hcl := close2 (b' := ⟨b.ops, Term.zero⟩) (v' := .slice AO b.ops.length cO) h09 HMW.out h9 (blk_wf _) o9 HD1.out HD2.out
                rw [HZN.out] at hcl
                exact ⟨⟨j + 1, _, _, _, by omega, by go_num, by rw [List.length_set]; exact HZN.out, set_get hkn, by rw [List.length_set]; exact HL.out, hcl, fun x hx => HF.out x ((HI.out x).2 hx), hbr.grown g9 hbr.size (fun x hx => by injection hx with hx; subst hx; exact hp1)⟩, by simp [intOf]; omega⟩
          · obtain rfl : j = L := by omega
            have HO := Lib.hid ho
            have HF := Lib.hid hF
            have HZN := Lib.hid hzn
            clear e2 hzn hm hL ho hF h0 hmw hob d0 i0 lB mB
            go_wp2_with fail
            exact ⟨⟨k + 1, zs, F, by omega, by go_num, HZN.out, HO.out, HF.out, hbr⟩, by simp [intOf]; omega⟩
      · obtain rfl : k = N := by omega
        clear ho hF hzn
        go_wp2_with fail
        refine (sames_calls _ _ _ _ gs _ (Kd.C_sub (Sub.of_below hbr) C3) (Kd.C_sub (Sub.of_below hbr) C5) (by omega)).mono ?_
        rintro e w9 ⟨rfl, hb9⟩
        go_wp2_with fail
        go_ret
        have t9 := t3.trans (hbr.mono t3.size)
        exact ⟨rfl, t9.trans (hb9.mono t9.size)⟩
end Go.Proofs.Ytobhjjbhlnbcpaa
