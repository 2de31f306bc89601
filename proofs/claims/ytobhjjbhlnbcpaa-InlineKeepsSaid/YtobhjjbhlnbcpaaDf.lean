/- The document's Leaves. -/
import Derived.Test.YtobhjjbhlnbcpaaPk
import Derived.Test.YtobhjjbhlnbcpaaDe
namespace Go.Proofs.Ytobhjjbhlnbcpaa
set_option linter.unusedVariables false
set_option linter.unusedSimpArgs false
open Go.RowKit

set_option maxHeartbeats 8000000 in
set_option maxRecDepth 100000 in
theorem refLeaves_calls (A : Option Addr) (c : Nat) (gs : List Graph) (w : World) (hC : kGraph.C w A gs) (hok : GsOk gs) (hright : ∀ g ∈ gs, blocksRight g.blocks gs.length 1000 = true) : Calls Try.prog 17 #[.slice A gs.length c] w fun e w' => OwnGs w e w' (gs.map (leavesG gs)) := by
  have hlen := hok.1
  have hlen' : gs.length ≤ 9223372036854775807 := by omega
  have HOK := Lib.hid hok
  have HR := Lib.hid hright
  have hfw : ∀ g ∈ gs, blocksFew g.blocks = true := fun g hg => (hok.2 g hg).1
  have HFW := Lib.hid hfw
  clear hok hright hfw
  go_enter Try.func17, Try.ntmps17
  go_wp2_with fail
  refine (copies_calls _ _ _ _ hC (by omega) HFW.out).mono ?_
  rintro e w1 ⟨A1, c1, F1, rfl, own1, hF1, hb1⟩
  have own1' : OwnF oGraph 28 w1 (.slice A1 gs.length c1) (outG (leavesB gs) gs 0) F1 := by rw [outG_zero]; exact own1
  have HO1 := Lib.hid own1'
  clear own1 own1'
  go_wp2_with fail
  go_loopw [4] (fun i wr => ∃ (k : Nat) (F : Nat → Prop), k ≤ gs.length ∧ i = .int .i64 k ∧ OwnF oGraph 28 wr (.slice A1 gs.length c1) (outG (leavesB gs) gs k) F ∧ (∀ x, F x → w.heap.size ≤ x) ∧ Below w.heap.size w wr) (fun i _ => gs.length - (intOf i).toNat)
  case atStart => exact ⟨0, F1, Nat.zero_le _, rfl, HO1.out, hF1, hb1⟩
  case round =>
    obtain ⟨k, F, hk, rfl, ho, hF, hbr⟩ := hrel
    by_cases hlt : k < gs.length
    · obtain ⟨g, hg⟩ := get_some gs k hlt
      have hgm := List.mem_of_getElem? hg
      have hgr := HR.out g hgm
      have hpos := blocksRight_pos hgr
      obtain ⟨ad, A0, c0, rfl, f0, f1, f2, f3, -, l0, m0, g0⟩ := Graph_at hC hg
      have hl0 := len_le l0 m0
      have f1r := Sub.of_below hbr _ _ f1
      have f3r := Sub.of_below hbr _ _ f3
      have hst := outG_start (f := leavesB gs) hg
      have hsu := outG_succ (f := leavesB gs) hg
      have HSU := Lib.hid hsu
      have HGR := Lib.hid hgr
      have HG := Lib.hid hg
      rcases Bool.eq_false_or_eq_true g.keep with hke | hke
      · have he : eachG (leavesB gs) g = g := by unfold eachG; rw [if_pos hke]
        have HSU2 : Hid (outG (leavesB gs) gs k = outG (leavesB gs) gs (k + 1)) := Lib.hid (by rw [← hsu, he]; rw [mixB_zero] at hst; exact hst.symm)
        rw [hke] at f1r
        have HO := Lib.hid ho
        clear hg hgm hgr hst hsu he hke ho f0 f1 f2 f3
        go_wp2_with fail
        go_loopw [5] (fun i wr' => i = .int .i64 0 ∧ wr' = wr) (fun i _ => 0)
        case atStart => exact ⟨rfl, rfl⟩
        case round =>
          obtain ⟨rfl, rfl⟩ := hrel
          go_wp2_with fail
          exact ⟨⟨k + 1, F, by omega, by go_num, HSU2.out ▸ HO.out, hF, hbr⟩, by simp [intOf]; omega⟩
      · have hse : ∀ F', OwnF oGraph 28 wr (.slice A1 gs.length c1) (outG (leavesB gs) gs k) F' → OwnF oGraph 28 wr (.slice A1 gs.length c1) ((outG (leavesB gs) gs k).set k (mixB (leavesB gs) g 0)) F' := fun F' h => by rw [hst]; exact h
        have HO := Lib.hid (hse F ho)
        have hme := mixB_all (f := leavesB gs) hke
        have HME := Lib.hid hme
        obtain ⟨hfew200, hfew300⟩ := blocksFew_parts (HFW.out g hgm)
        have H300 := Lib.hid hfew300
        have HGM := Lib.hid hgm
        have HKE := Lib.hid hke
        rw [hke] at f1r f1
        have hF1k : Sub w wr → wr.cell? ⟨(ad.add (k * 4)).block, (ad.add (k * 4)).off + 1, none⟩ = some (.bool false) := fun _ => f1r
        clear hg hgm hgr hst hsu hke hse hme ho hfew300 hF1k
        obtain ⟨wo, hwo⟩ : ∃ wo : World, wo = wr := ⟨_, rfl⟩
        subst hwo
        go_wp2_with fail
        go_loopw [5] (fun i wr => ∃ (j : Nat) (F : Nat → Prop), j ≤ g.blocks.length ∧ i = .int .i64 j ∧ OwnF oGraph 28 wr (.slice A1 gs.length c1) ((outG (leavesB gs) gs k).set k (mixB (leavesB gs) g j)) F ∧ (∀ x, F x → w.heap.size ≤ x) ∧ Below w.heap.size w wr) (fun i _ => g.blocks.length - (intOf i).toNat)
        case atStart => exact ⟨0, F, Nat.zero_le _, rfl, HO.out, hF, hbr⟩
        case round =>
          obtain ⟨j, F, hj, rfl, ho, hF, hbr⟩ := hrel
          have f1r := Sub.of_below hbr _ _ f1
          have f3r := Sub.of_below hbr _ _ f3
          by_cases hltj : j < g.blocks.length
          · obtain ⟨b, hb⟩ := get_some g.blocks j hltj
            have hbm := List.mem_of_getElem? hb
            have h300 := H300.out b hbm
            have hokb : okB gs b := ⟨g, HGM.out, hbm⟩
            obtain ⟨-, hin⟩ := okB_parts HOK.out hokb
            have HIN := Lib.hid hin
            obtain ⟨ab, Ab, cb, rfl, i0, i1, i2, i3, i4, i5, i6, i7, i8, i9, i10, i11, hwb, lb, mb, gb⟩ := Block_at g0 hb
            have hlb := len_le lb mb
            have hrt : ∀ o ∈ b.ops, o.right gs.length 1000 = true := fun o h => blocksRight_ops HGR.out hbm h
            have HRT := Lib.hid hrt
            have HB := Lib.hid hb
            have HO2 := Lib.hid ho
            have HF2 := Lib.hid hF
            have hlt2 := ho.lt
            have HLT := Lib.hid hlt2
            have i0r := Sub.of_below hbr _ _ i0
            clear hb hbm hokb hin hrt ho hF hlt2
            obtain ⟨wi, hwi⟩ : ∃ wi : World, wi = wr := ⟨_, rfl⟩
            subst hwi
            go_wp2_with fail
            go_loopw [6, 7] (fun v i wr => ∃ (q : Nat) (F6 : Nat → Prop), q ≤ b.ops.length ∧ i = .int .i64 q ∧ OwnF oOp 45 wr v (inlAll gs (b.ops.take q)) F6 ∧ (∀ x, F6 x → wi.heap.size ≤ x) ∧ Below wi.heap.size wi wr) (fun _ i _ => b.ops.length - (intOf i).toNat)
            case atStart => exact ⟨0, _, Nat.zero_le _, rfl, OwnF.nil _ _ _, fun _ h => h.elim, Below.refl _ _⟩
            case round =>
              obtain ⟨q, F6, hq, rfl, o6, hF6, hbq⟩ := hrel
              have hbw := hbr.trans (hbq.mono hbr.size)
              have hsw := hbq.size
              have f3r := Sub.of_below hbw _ _ f3
              have i0r := Sub.of_below hbw _ _ i0
              by_cases hltq : q < b.ops.length
              · obtain ⟨o, hoo⟩ := get_some b.ops q hltq
                have hs := inl_succ (gs := gs) hoo
                have hlen := inl_len gs (b.ops.take q)
                have hlt3 : (b.ops.take q).length ≤ 300 := Nat.le_trans (by simp [List.length_take]; omega) h300
                have hlen8 := inlOps_len gs o
                have hql : (inlAll gs (b.ops.take q)).length + 8 ≤ 2408 := by omega
                have hoin := HIN.out o (List.mem_of_getElem? hoo)
                obtain ⟨hr1, hr2⟩ := right_call (HRT.out o (List.mem_of_getElem? hoo))
                obtain ⟨ao, rfl, e0, e1, e2, e3, e4, e5, e6, e7, e8, hwo⟩ := Op_at (Kd.C_mono hbw gb) hoo
                have HS := Lib.hid hs
                have HWO := Lib.hid hwo
                have HR1 := Lib.hid hr1
                have HR2 := Lib.hid hr2
                clear hoo hs hlen hlt3 hwo hr1 hr2
                have b2 := below_alloc' wr (.cells #[.int .i64 o.ins.op, .int .i64 o.ins.a, .int .i64 o.ins.b, .int .i64 o.ins.c, .int .i64 o.ins.imm, .bool o.rel, .int .i64 o.kind, .int .i64 o.to, .int .i64 o.add] 45)
                have r2 : Row (wr.alloc (.cells #[.int .i64 o.ins.op, .int .i64 o.ins.a, .int .i64 o.ins.b, .int .i64 o.ins.c, .int .i64 o.ins.imm, .bool o.rel, .int .i64 o.kind, .int .i64 o.to, .int .i64 o.add] 45)) wr.heap.size 45 (opCells o) := Row.new wr _ _
                go_upto_region 13 with fail
                generalize wr.alloc (.cells #[.int .i64 o.ins.op, .int .i64 o.ins.a, .int .i64 o.ins.b, .int .i64 o.ins.c, .int .i64 o.ins.imm, .bool o.rel, .int .i64 o.kind, .int .i64 o.to, .int .i64 o.add] 45) = W2 at *
                clear e0 e1 e2 e3 e4 e5 e6 e7 e8 f3r i0r
                have o62 := o6.below b2
                by_cases h20 : o.ins.op = 20
                · obtain ⟨hrel1, hkind1, hcall, hto0, hton⟩ := HR1.out h20
                  obtain ⟨n, hn⟩ := Int.eq_ofNat_of_zero_le hto0
                  have hnl : n < gs.length := by omega
                  obtain ⟨h, hh⟩ := get_some gs n hnl
                  have hhm := List.mem_of_getElem? hh
                  have hhr := HR.out h hhm
                  have hof := ofList_eq hhr
                  have hat := inlOps_at (gs := gs) (o := o) (h := h) (by rw [hcall]; exact hto0) (by rw [hcall, hn]; exact hh)
                  have HAT := Lib.hid hat
                  have HOF := Lib.hid hof
                  obtain ⟨ag, A5, c5, eag, f0', f1', f2', f3', -, l5, m5, g5⟩ := Graph_at (Kd.C_mono (hbw.trans (b2.mono (Nat.le_trans hbr.size hsw))) hC) hh
                  injection eag with eag
                  subst eag
                  have hl5 := len_le l5 m5
                  obtain ⟨y0, y1, y2, y3, y4, y5, y6, y7, y8⟩ := r2.op
                  rw [hn] at y7
                  have HTO := Lib.hid hn
                  have z20 : (o.ins.op == 20) = true := by simp [h20]
                  clear h20 hrel1 hkind1 hcall hto0 hton hn hh hhm hhr hof hat hoin
                  cases hsm : smallB h.blocks with
                  | false =>
                    have HOo : Hid (inlOps gs o = [o]) := Lib.hid (by rw [HAT.out, hsm]; rfl)
                    have HSM := Lib.hid hsm
                    clear hsm
                    go_wp2_with fail
                    refine (refSmall_calls _ _ _ _ _ _ _ (by omega) _ g5 (Nat.le_trans l5 m5) HOF.out).mono ?_
                    rw [HSM.out]
                    rintro e w3 ⟨rfl, hb3⟩
                    have b4 := b2.trans (hb3.mono b2.size)
                    have r3 := r2.below hb3
                    have o63 := o62.below hb3
                    clear f0' f1' f2' f3' y0 y1 y2 y3 y4 y5 y6 y7 y8
                    obtain ⟨y0, y1, y2, y3, y4, y5, y6, y7, y8⟩ := r3.op
                    go_wp2_with (at_builtin; refine wpList_append_f (k := oOp) elOp rfl _ _ rfl (ys := [o]) (o63.below (below_alloc' w3 _)) (YF.op rfl HWO.out) (fun _ _ h => h) rfl rfl (by show _ + 1 ≤ _; omega) ?_; intro v5 w5 hg5)
                    obtain ⟨⟨F5, own5, hF5⟩, hgr5⟩ := hg5
                    exact ⟨⟨q + 1, F5, by omega, by go_num, by rw [HS.out, HOo.out]; exact own5, fun x hx => by (rcases hF5 x hx with h | h | h; exact hF6 x h; exact h.elim; exact Nat.le_trans hsw (Nat.le_trans b4.size (Nat.le_trans (below_alloc' w3 _).size h))), ((hbq.trans (b4.mono hsw)).trans ((below_alloc' w3 _).mono (Nat.le_trans hsw b4.size))).grown hgr5 (Nat.le_trans hsw (Nat.le_trans b4.size (below_alloc' w3 _).size)) (fun j hj => hF6 j (o6.row hj))⟩, by simp [intOf]; omega⟩
                  | true =>
                    rcases Bool.eq_false_or_eq_true h.keep with hke | hke
                    · have HOo : Hid (inlOps gs o = [o]) := Lib.hid (by rw [HAT.out, hsm, hke]; rfl)
                      have HSM := Lib.hid hsm
                      rw [hke] at f1'
                      clear hsm hke
                      go_wp2_with fail
                      refine (refSmall_calls _ _ _ _ _ _ _ (by omega) _ g5 (Nat.le_trans l5 m5) HOF.out).mono ?_
                      rw [HSM.out]
                      rintro e w3 ⟨rfl, hb3⟩
                      have f1c := (hb3.cell (World.lt_of_cell f1')).trans f1'
                      clear f0' f1' f2' f3'
                      have b4 := b2.trans (hb3.mono b2.size)
                      have r3 := r2.below hb3
                      have o63 := o62.below hb3
                      clear y0 y1 y2 y3 y4 y5 y6 y7 y8
                      obtain ⟨y0, y1, y2, y3, y4, y5, y6, y7, y8⟩ := r3.op
                      rw [HTO.out] at y7
                      have hyf : ∀ W : World, YF oOp (W.alloc (.cells #[.int .i64 o.ins.op, .int .i64 o.ins.a, .int .i64 o.ins.b, .int .i64 o.ins.c, .int .i64 o.ins.imm, .bool o.rel, .int .i64 o.kind, .int .i64 (n : Int), .int .i64 o.add] 45)) (some ⟨W.heap.size, 0, none⟩) [o] noF := fun W => by rw [← HTO.out]; exact YF.op rfl HWO.out
                      go_wp2_with (at_builtin; refine wpList_append_f (k := oOp) elOp rfl _ _ rfl (ys := [o]) (o63.below (below_alloc' w3 _)) (hyf _) (fun _ _ h => h) rfl rfl (by show _ + 1 ≤ _; omega) ?_; intro v5 w5 hg5)
                      obtain ⟨⟨F5, own5, hF5⟩, hgr5⟩ := hg5
                      exact ⟨⟨q + 1, F5, by omega, by go_num, by rw [HS.out, HOo.out]; exact own5, fun x hx => by (rcases hF5 x hx with h | h | h; exact hF6 x h; exact h.elim; exact Nat.le_trans hsw (Nat.le_trans b4.size (Nat.le_trans (below_alloc' w3 _).size h))), ((hbq.trans (b4.mono hsw)).trans ((below_alloc' w3 _).mono (Nat.le_trans hsw b4.size))).grown hgr5 (Nat.le_trans hsw (Nat.le_trans b4.size (below_alloc' w3 _).size)) (fun j hj => hF6 j (o6.row hj))⟩, by simp [intOf]; omega⟩
                    · obtain ⟨hb0, hbe, hb8⟩ := small_one hsm
                      have HOo : Hid (inlOps gs o = hb0.ops) := Lib.hid (by rw [HAT.out, hsm, hke, hbe]; rfl)
                      have HSM := Lib.hid hsm
                      have HBE := Lib.hid hbe
                      rw [hke] at f1'
                      clear hsm hke hbe
                      go_wp2_with fail
                      refine (refSmall_calls _ _ _ _ _ _ _ (by omega) _ g5 (Nat.le_trans l5 m5) HOF.out).mono ?_
                      rw [HSM.out]
                      rintro e w3 ⟨rfl, hb3⟩
                      have hbe := HBE.out
                      have f1c := (hb3.cell (World.lt_of_cell f1')).trans f1'
                      have f3c := (hb3.cell (World.lt_of_cell f3')).trans f3'
                      rw [hbe] at g5 f3c
                      obtain ⟨ax, A7, c7, rfl, j0, -, -, -, -, -, -, -, -, -, -, -, -, l7, m7, g7⟩ := Block_at (i := 0) (Kd.C_mono hb3 g5) rfl
                      rw [add_zero12] at j0
                      have hl7 := len_le l7 m7
                      have b4 := b2.trans (hb3.mono b2.size)
                      have r3 := r2.below hb3
                      have o63 := o62.below hb3
                      clear f0' f1' f2' f3' g5 hbe y0 y1 y2 y3 y4 y5 y6 y7 y8
                      obtain ⟨y0, y1, y2, y3, y4, y5, y6, y7, y8⟩ := r3.op
                      rw [HTO.out] at y7
                      go_wp2_with (at_builtin; refine wpList_append_f (k := oOp) elOp rfl _ _ rfl o63 (YF.flat g7) (fun _ _ h => h) rfl rfl (by omega) ?_; intro v5 w5 hg5)
                      obtain ⟨⟨F5, own5, hF5⟩, hgr5⟩ := hg5
                      exact ⟨⟨q + 1, F5, by omega, by go_num, by rw [HS.out, HOo.out]; exact own5, fun x hx => by (rcases hF5 x hx with h | h | h; exact hF6 x h; exact h.elim; exact Nat.le_trans hsw (Nat.le_trans b4.size h)), (hbq.trans (b4.mono hsw)).grown hgr5 (Nat.le_trans hsw b4.size) (fun j hj => hF6 j (o6.row hj))⟩, by simp [intOf]; omega⟩
                · have z20 : (o.ins.op == 20) = false := by simp [h20]
                  have HOo : Hid (inlOps gs o = [o]) := Lib.hid (inlOps_not (by rw [HR2.out h20]; omega))
                  obtain ⟨y0, y1, y2, y3, y4, y5, y6, y7, y8⟩ := r2.op
                  clear h20 hoin
                  obtain ⟨w3, hw3⟩ : ∃ w3 : World, w3 = W2 := ⟨_, rfl⟩
                  subst hw3
                  go_wp2_with (at_builtin; refine wpList_append_f (k := oOp) elOp rfl _ _ rfl (ys := [o]) (o62.below (below_alloc' w3 _)) (YF.op rfl HWO.out) (fun _ _ h => h) rfl rfl (by show _ + 1 ≤ _; omega) ?_; intro v5 w5 hg5)
                  obtain ⟨⟨F5, own5, hF5⟩, hgr5⟩ := hg5
                  exact ⟨⟨q + 1, F5, by omega, by go_num, by rw [HS.out, HOo.out]; exact own5, fun x hx => by (rcases hF5 x hx with h | h | h; exact hF6 x h; exact h.elim; exact Nat.le_trans hsw (Nat.le_trans b2.size (Nat.le_trans (below_alloc' w3 _).size h))), ((hbq.trans (b2.mono hsw)).trans ((below_alloc' w3 _).mono (Nat.le_trans hsw b2.size))).grown hgr5 (Nat.le_trans hsw (Nat.le_trans b2.size (below_alloc' w3 _).size)) (fun j hj => hF6 j (o6.row hj))⟩, by simp [intOf]; omega⟩
              · obtain rfl : q = b.ops.length := by omega
                rw [List.take_length] at o6
                obtain ⟨A6, c6, rfl, l6, m6, -⟩ := o6.read
                have own := HO2.out.below hbq
                have hmk := set_get (xs := outG (leavesB gs) gs k) (x := mixB (leavesB gs) g j) (by rw [outG_len]; exact hlt)
                obtain ⟨p0, q0, p1, q1, v0, G0, G1, G2, e0, h0, hm, h1, hwb2, oo, d1, d2, iff, lq0, mq0, lq1, mq1⟩ := own.open2 hmk (mixB_at HB.out)
                injection e0 with e01 e02 e03
                subst e01 e03
                clear e02
                have hmb := mixB_succ (f := leavesB gs) HB.out
                have hnl : ((outG (leavesB gs) gs k).set k (mixB (leavesB gs) g j)).length = gs.length := by rw [List.length_set, outG_len]
                have hml := mixB_len (leavesB gs) g j
                obtain ⟨-, -, -, t3⟩ := h0.graph
                have t0 := h1.block.1
                have fz := h1.frozen (j * 12)
                rw [hml] at t3
                have s1 := h1.set (j := 0) (by decide) (.slice A6 (inlAll gs b.ops).length c6)
                have gr := grown_set wr p1 (j * 12) (.slice A6 (inlAll gs b.ops).length c6)
                have s0 := h0.grown gr (fun x hx e => by injection e with e; subst e; exact d1 _ h1.row hx)
                have s6 := o6.grown gr (fun x hx e => by injection e with e; subst e; have := HLT.out _ ((iff p1).2 (.inr (.inl h1.row))); have := hF6 _ hx; omega)
                have hFa : ∀ x, G0 x → w.heap.size ≤ x ∧ x < wi.heap.size := fun x hx => ⟨HF2.out x ((iff x).2 (.inl hx)), HLT.out x ((iff x).2 (.inl hx))⟩
                have hFb : ∀ x, G1 x → w.heap.size ≤ x ∧ x < wi.heap.size := fun x hx => ⟨HF2.out x ((iff x).2 (.inr (.inl hx))), HLT.out x ((iff x).2 (.inr (.inl hx)))⟩
                have hcl := close2 (b' := leavesB gs b) (v' := .slice A6 (inlAll gs b.ops).length c6) (F2 := F6) s0 hm s1 hwb s6 d1 (fun x hx => ⟨fun hx' => by have := (hFa x hx').2; have := hF6 x hx; omega, fun hx' => by have := (hFb x hx').2; have := hF6 x hx; omega⟩)
                rw [hmb, List.set_set, hnl] at hcl
                have hbe := hbr.trans (hbq.mono hbr.size)
                have hgrow := hbe.grown gr hbe.size (fun x hx => by injection hx with hx; subst hx; exact (hFb _ h1.row).1)
                have HCL := Lib.hid hcl
                have HFa := Lib.hid hFa
                have HFb := Lib.hid hFb
                have HF6 := Lib.hid hF6
                have HGW := Lib.hid hgrow
                clear own hmk h0 hm h1 hwb2 oo d1 d2 iff hmb hnl hml s1 gr s0 s6 hFa hFb hcl hbe hgrow hF6
                go_wp2_with fail
                exact ⟨⟨j + 1, _, by omega, by go_num, HCL.out, fun x hx => by (rcases hx with h | h | h; exact (HFa.out x h).1; exact (HFb.out x h).1; exact Nat.le_trans hbr.size (HF6.out x h)), HGW.out⟩, by simp [intOf]; omega⟩
          · obtain rfl : j = g.blocks.length := by omega
            rw [HME.out, HSU.out] at ho
            have HO3 := Lib.hid ho
            clear ho
            go_wp2_with fail
            exact ⟨⟨k + 1, F, by omega, by go_num, HO3.out, hF, hbr⟩, by simp [intOf]; omega⟩
    · obtain rfl : k = gs.length := by omega
      rw [outG_all] at ho
      have hl : (gs.map (eachG (leavesB gs))).length = gs.length := by simp
      have HL := Lib.hid hl
      have HO := Lib.hid ho
      clear hl ho
      go_wp2_with fail
      go_ret
      refine ⟨A1, c1, F, by simp, ?_, hF, hbr⟩
      show OwnF _ _ _ (.slice A1 (gs.map (eachG (leavesB gs))).length c1) (gs.map (eachG (leavesB gs))) F
      rw [HL.out]
      exact HO.out
end Go.Proofs.Ytobhjjbhlnbcpaa
