/- The document's threading. Printed by genNe.py of this repository. -/
import Derived.Test.YtokkngfgppikkaaNd
namespace Go.Proofs.Ytokkngfgppikkaa
set_option linter.unusedVariables false
set_option linter.unusedSimpArgs false
open Go.RowKit

theorem termRow {w : World} {g : Nat} {T : TypeId} {t : Term} (h : Row w g T (finCells t)) : w.cell? ⟨g, 0, none⟩ = some (.int .i64 t.kind) ∧ w.cell? ⟨g, 1, none⟩ = some (.int .i64 t.op) ∧ w.cell? ⟨g, 2, none⟩ = some (.int .i64 t.a) ∧ w.cell? ⟨g, 3, none⟩ = some (.int .i64 t.b) ∧ w.cell? ⟨g, 4, none⟩ = some (.int .i64 t.to) ∧ w.cell? ⟨g, 5, none⟩ = some (.int .i64 t.els) ∧ w.cell? ⟨g, 6, none⟩ = some (.int .i64 t.ins.op) ∧ w.cell? ⟨g, 7, none⟩ = some (.int .i64 t.ins.a) ∧ w.cell? ⟨g, 8, none⟩ = some (.int .i64 t.ins.b) ∧ w.cell? ⟨g, 9, none⟩ = some (.int .i64 t.ins.c) ∧ w.cell? ⟨g, 10, none⟩ = some (.int .i64 t.ins.imm) :=
  ⟨h.cell rfl, h.cell rfl, h.cell rfl, h.cell rfl, h.cell rfl, h.cell rfl, h.cell rfl, h.cell rfl, h.cell rfl, h.cell rfl, h.cell rfl⟩

set_option maxHeartbeats 8000000 in
set_option maxRecDepth 100000 in
theorem refThread_calls (nm : ByteArray) (kp lf : Bool) (A : Option Addr) (c : Nat) (bs : List Block) (w : World) (hC : kBlock.C w A bs) (hl : bs.length ≤ 1000) (hfew : blocksFew bs = true) (hld : Leads bs) : Calls Try.prog 32 #[.agg #[.string nm, .bool kp, .bool lf, .slice A bs.length c]] w fun e w' =>
    CopiedG nm kp lf (threadBs bs) w e w' := by
  have hlo : bs.length ≤ 9223372036854775807 := by omega
  have HLD := Lib.hid hld
  have HFW := Lib.hid hfew
  clear hld hfew
  obtain ⟨W, hW, b0, hz0, r0, z0⟩ := two_rows w #[.string nm, .bool kp, .bool lf, .slice A bs.length c] #[.string ⟨#[]⟩, .bool false, .bool false, .slice none 0 0] 33 33
  go_enter Try.func32, Try.ntmps32
  go_upto_region 1 with fail
  rw [← hW]
  have HZ0 := Lib.hid hz0
  have HW := Lib.hid hW
  clear hz0 hW
  have r0' : Row W w.heap.size 33 (graphCells (.slice A bs.length c) ⟨nm, kp, lf, bs⟩) := r0
  obtain ⟨x0, x1, x2, x3⟩ := r0'.graph
  go_wp2_with fail
  refine (copy_calls _ _ _ _ _ bs _ (Kd.C_mono b0 hC) (Nat.le_trans hl (by decide)) HFW.out).mono ?_
  rintro e w1 ⟨A1, c1, F1, rfl, own1, hF1, hb1⟩
  have t1 := b0.trans (hb1.mono b0.size)
  have bq := below_alloc' w1 (.cells #[.string nm, .bool kp, .bool lf, .slice A1 bs.length c1] 33)
  have r3 : Row (w1.alloc (.cells #[.string nm, .bool kp, .bool lf, .slice A1 bs.length c1] 33)) w1.heap.size 33 (graphCells (.slice A1 bs.length c1) ⟨nm, kp, lf, bs⟩) := Row.new w1 _ _
  go_upto_region 2 with fail
  generalize w1.alloc (.cells #[.string nm, .bool kp, .bool lf, .slice A1 bs.length c1] 33) = W3 at *
  have t3 := t1.trans (bq.mono t1.size)
  have ra := (r0'.below hb1).below bq
  have rz := (z0.below hb1).below bq
  have own3 : OwnF oBlock 42 W3 (.slice A1 bs.length c1) (mixL (threadB bs) bs 0) F1 := by rw [mixL_zero]; exact own1.below bq
  have hg3 : w1.heap.size < W3.heap.size := r3.lt
  have hF1' : ∀ x, F1 x → w.heap.size + 1 + 1 ≤ x ∧ x ≠ w1.heap.size := fun x hx => ⟨by have := hF1 x hx; have := HZ0.out; omega, by have := own1.lt x hx; omega⟩
  have hG3 : w.heap.size + 1 + 1 ≤ w1.heap.size := by have := hb1.size; have := HZ0.out; omega
  generalize w1.heap.size = G3 at *
  have RA := Lib.hid ra
  have RZ := Lib.hid rz
  have R3 := Lib.hid r3
  have HO3 := Lib.hid own3
  have y3 := r3.cell (j := 3) rfl
  clear x0 x1 x2 x3 r0 r0' z0 own1 own3 ra rz r3 hb1 bq
  go_wp2_with fail
  go_loopw [4] (fun i wr => ∃ (k : Nat) (F : Nat → Prop), k ≤ bs.length ∧ i = .int .i64 k ∧ OwnF oBlock 42 wr (.slice A1 bs.length c1) (mixL (threadB bs) bs k) F ∧ (∀ x, F x → w.heap.size + 1 + 1 ≤ x ∧ x ≠ G3) ∧ Row wr w.heap.size 33 (graphCells (.slice A bs.length c) ⟨nm, kp, lf, bs⟩) ∧ Row wr (w.heap.size + 1) 33 [.string ⟨#[]⟩, .bool false, .bool false, .slice none 0 0] ∧ Row wr G3 33 (graphCells (.slice A1 bs.length c1) ⟨nm, kp, lf, bs⟩) ∧ Below w.heap.size w wr) (fun i _ => bs.length - (intOf i).toNat)
  case atStart => exact ⟨0, F1, Nat.zero_le _, rfl, HO3.out, hF1', RA.out, RZ.out, R3.out, t3⟩
  case round =>
    obtain ⟨k, F, hk, rfl, ho, hF, ra, rz, r3, hbr⟩ := hrel
    clear y3
    have y3 := r3.cell (j := 3) rfl
    have x3 := ra.cell (j := 3) rfl
    by_cases hlt : k < bs.length
    · obtain ⟨b, hb⟩ := get_some bs k hlt
      have hmk := mixL_at (f := threadB bs) hb
      obtain ⟨g1, q1, cs, Fi, F0, e0, lq, mq, h0, hO, d0, iff0⟩ := ho.open_ hmk
      injection e0 with e01 e02 e03
      subst e01 e03
      clear e02
      obtain ⟨v, rfl, hwf, oo⟩ := hO
      have hmn := mixL_succ (f := threadB bs) hb
      have hbm := List.mem_of_getElem? hb
      have hlead := HLD.out b hbm
      have hlen := mixL_len (threadB bs) bs k
      have hG1 : w.heap.size + 1 + 1 ≤ g1 ∧ g1 ≠ G3 := hF g1 ((iff0 g1).2 (.inl h0.row))
      have hG1' : g1 < wr.heap.size := h0.lt g1 h0.row
      obtain ⟨ad, Ab, cb, rfl, i0, i1, i2, i3, i4, i5, i6, i7, i8, i9, i10, i11, -, lb, mb, gb⟩ := Block_at (Kd.C_mono hbr hC) hb
      have HG1 := Lib.hid hG1
      have HMN := Lib.hid hmn
      have HLEN := Lib.hid hlen
      have HWF := Lib.hid hwf
      have HLEAD := Lib.hid hlead
      have HD0 := Lib.hid d0
      have HIFF := Lib.hid iff0
      have HF := Lib.hid hF
      have OO := Lib.hid oo
      clear hb hmk ho hF hmn hbm hlead hlen hwf d0 iff0 oo hG1
      have b2 := below_alloc' wr (.cells #[.int .i64 b.fin.kind, .int .i64 b.fin.op, .int .i64 b.fin.a, .int .i64 b.fin.b, .int .i64 b.fin.to, .int .i64 b.fin.els, .int .i64 b.fin.ins.op, .int .i64 b.fin.ins.a, .int .i64 b.fin.ins.b, .int .i64 b.fin.ins.c, .int .i64 b.fin.ins.imm] 40)
      have r2 : Row (wr.alloc (.cells #[.int .i64 b.fin.kind, .int .i64 b.fin.op, .int .i64 b.fin.a, .int .i64 b.fin.b, .int .i64 b.fin.to, .int .i64 b.fin.els, .int .i64 b.fin.ins.op, .int .i64 b.fin.ins.a, .int .i64 b.fin.ins.b, .int .i64 b.fin.ins.c, .int .i64 b.fin.ins.imm] 40)) wr.heap.size 40 (finCells b.fin) := Row.new wr _ _
      go_upto_region 6 with fail
      generalize wr.alloc (.cells #[.int .i64 b.fin.kind, .int .i64 b.fin.op, .int .i64 b.fin.a, .int .i64 b.fin.b, .int .i64 b.fin.to, .int .i64 b.fin.els, .int .i64 b.fin.ins.op, .int .i64 b.fin.ins.a, .int .i64 b.fin.ins.b, .int .i64 b.fin.ins.c, .int .i64 b.fin.ins.imm] 40) = W2 at *
      clear i0 i1 i2 i3 i4 i5 i6 i7 i8 i9 i10 i11 x3 y3
      have ra2 := ra.below b2
      have t2 := hbr.trans (b2.mono hbr.size)
      have GW2 : wr.grownBy W2 (some g1) := grown_below b2
      by_cases hk2 : b.fin.kind = 2
      · have z1 : (b.fin.kind == 2) = true := by simp [hk2]
        have z2 : (b.fin.kind == 1) = false := ibeq (by omega)
        obtain ⟨⟨ht0, ht1⟩, he0, he1⟩ := And.intro (HLEAD.out.1 (.inr hk2)) (HLEAD.out.2 hk2)
        obtain ⟨nt, hnt⟩ := Int.eq_ofNat_of_zero_le ht0
        obtain ⟨ne, hne⟩ := Int.eq_ofNat_of_zero_le he0
        have Lnt : Hid (nt < bs.length) := Lib.hid (by omega)
        have Lne : Hid (ne < bs.length) := Lib.hid (by omega)
        have hnl := thr_lt HLD.out (b := nt) Lnt.out
        have hel := thr_lt HLD.out (b := ne) Lne.out
        have hth : threadB bs b = if thr bs nt = thr bs ne then ⟨b.ops, jumpTo (thr bs nt)⟩ else ⟨b.ops, b.fin.lead (thr bs nt : Int) (thr bs ne : Int)⟩ := by
          unfold threadB threadT
          rw [if_pos hk2, hnt, hne, Int.toNat_natCast, Int.toNat_natCast]
          split <;> rfl
        have HTH := Lib.hid hth
        have hwf2 : (⟨b.ops, b.fin.lead (thr bs nt : Int) (thr bs ne : Int)⟩ : Block).wf := lead_wf HWF.out (by omega) (by omega)
        have HWF2 := Lib.hid hwf2
        clear ht0 ht1 he0 he1 hth hwf2 hk2
        have rt2 := r2
        obtain ⟨x0, x1, x2, x3⟩ := ra2.graph
        obtain ⟨y0, y1, y2, y3, y4, y5, y6, y7, y8, y9, y10⟩ := termRow rt2
        rw [hnt] at y4
        go_wp2_with fail
        refine (refThrough_calls _ _ _ _ _ bs nt _ (Kd.C_mono t2 hC) hl HLD.out Lnt.out).mono ?_
        rintro e w4 ⟨rfl, hb4⟩
        clear x0 x1 x2 x3 y0 y1 y2 y3 y4 y5 y6 y7 y8 y9 y10
        have ra4' := ra2.below hb4
        have rt4' := rt2.below hb4
        have z4 : w4.cell? ⟨wr.heap.size, 4, none⟩ = some (.int .i64 b.fin.to) := rt4'.cell (j := 4) rfl
        have f4 := rt4'.frozen 4
        have rt4 : Row (w4.setCell ⟨wr.heap.size, 4, none⟩ (.int .i64 (thr bs nt : Int))) wr.heap.size 40 (finCells (b.fin.lead (thr bs nt : Int) b.fin.els)) := rt4'.set 4 _
        have g4 := grown_set w4 wr.heap.size 4 (.int .i64 (thr bs nt : Int))
        go_upto_region 8 with fail
        have ra4 := ra4'.grown g4 (fun e => by injection e with e; have := ra.lt; omega)
        have bb4 : Below wr.heap.size W2 (w4.setCell ⟨wr.heap.size, 4, none⟩ (.int .i64 (thr bs nt : Int))) := ((Below.refl wr.heap.size W2).trans (hb4.mono (by have := b2.size; have := (Below.refl wr.heap.size W2).size; omega))).grown g4 (by have := b2.size; have := (Below.refl wr.heap.size W2).size; have := hb4.size; omega) (fun j hj => by injection hj with hj; omega)
        have t4 := t2.trans (bb4.mono hbr.size)
        generalize w4.setCell ⟨wr.heap.size, 4, none⟩ (.int .i64 (thr bs nt : Int)) = V4 at *
        clear ra4' rt4' z4 f4 g4 hb4
        obtain ⟨x0, x1, x2, x3⟩ := ra4.graph
        obtain ⟨y0, y1, y2, y3, y4, y5, y6, y7, y8, y9, y10⟩ := termRow rt4
        replace y0 : V4.cell? ⟨wr.heap.size, 0, none⟩ = some (.int .i64 b.fin.kind) := y0
        replace y5 : V4.cell? ⟨wr.heap.size, 5, none⟩ = some (.int .i64 (ne : Int)) := by rw [← hne]; exact y5
        go_wp2_with fail
        refine (refThrough_calls _ _ _ _ _ bs ne _ (Kd.C_mono t4 hC) hl HLD.out Lne.out).mono ?_
        rintro e w5 ⟨rfl, hb5⟩
        clear x0 x1 x2 x3 y0 y1 y2 y3 y4 y5 y6 y7 y8 y9 y10
        have ra5' := ra4.below hb5
        have rt5' := rt4.below hb5
        have z5 : w5.cell? ⟨wr.heap.size, 5, none⟩ = some (.int .i64 b.fin.els) := rt5'.cell (j := 5) rfl
        have f5 := rt5'.frozen 5
        have rt5 : Row (w5.setCell ⟨wr.heap.size, 5, none⟩ (.int .i64 (thr bs ne : Int))) wr.heap.size 40 (finCells (b.fin.lead (thr bs nt : Int) (thr bs ne : Int))) := rt5'.set 5 _
        have g5 := grown_set w5 wr.heap.size 5 (.int .i64 (thr bs ne : Int))
        go_upto_region 10 with fail
        have ra5 := ra5'.grown g5 (fun e => by injection e with e; have := ra.lt; omega)
        have bb5 : Below wr.heap.size W2 (w5.setCell ⟨wr.heap.size, 5, none⟩ (.int .i64 (thr bs ne : Int))) := (bb4.trans (hb5.mono (by have := b2.size; have := bb4.size; omega))).grown g5 (by have := b2.size; have := bb4.size; have := hb5.size; omega) (fun j hj => by injection hj with hj; omega)
        have t5 := t2.trans (bb5.mono hbr.size)
        generalize w5.setCell ⟨wr.heap.size, 5, none⟩ (.int .i64 (thr bs ne : Int)) = V5 at *
        clear ra5' rt5' z5 f5 g5 hb5
        generalize thr bs nt = x1 at *
        generalize thr bs ne = x2 at *
        by_cases hx : x1 = x2
        · have z3 : ((x1 : Int) == (x2 : Int)) = true := by simp [hx]
          have z3' : ((x2 : Int) == (x1 : Int)) = true := by simp [hx]
          have hB : threadB bs b = ⟨b.ops, jumpTo x1⟩ := by rw [HTH.out, if_pos hx]
          have HB := Lib.hid hB
          clear hB hx
          obtain ⟨y0, y1, y2, y3, y4, y5, y6, y7, y8, y9, y10⟩ := termRow rt5
          replace y4 : V5.cell? ⟨wr.heap.size, 4, none⟩ = some (.int .i64 (x1 : Int)) := y4
          replace y5 : V5.cell? ⟨wr.heap.size, 5, none⟩ = some (.int .i64 (x2 : Int)) := y5
          go_upto_region 12 with (refine wpList_put_row rfl 40 _ _ rfl wr.heap.size (finCells (jumpTo x1)) rfl rfl rt5 (by kernel_rfl) rfl (finCells_one _) ?_; intro V6 rt6 g6 s6)
          have bb6 := bb5.grown g6 (by have := b2.size; have := bb5.size; omega) (fun j hj => by injection hj with hj; omega)
          clear y0 y1 y2 y3 y4 y5 y6 y7 y8 y9 y10 s6
          have GW : wr.grownBy V6 (some g1) := ⟨bb6.os.trans GW2.os, bb6.tape.trans GW2.tape, bb6.output.trans GW2.output, Nat.le_trans GW2.size bb6.size, fun i hi hn => (bb6.block i hi).trans (GW2.block i hi hn)⟩
          have hh : HoleF oBlock 42 V6 g1 c1 (mixL (threadB bs) bs k) k (blockCells v b) F0 := h0.keep (fun x hx => by have hx' := h0.lt x hx; exact (bb6.block x hx').trans (b2.block x hx'))
          have r3c : Row V6 G3 33 (graphCells (.slice (some ⟨g1, 0, none⟩) bs.length c1) ⟨nm, kp, lf, bs⟩) := r3.keep ((bb6.block G3 r3.lt).trans (b2.block G3 r3.lt))
          obtain ⟨u0, u1, u2, u3⟩ := r3c.graph
          obtain ⟨y0, y1, y2, y3, y4, y5, y6, y7, y8, y9, y10⟩ := termRow rt6
          go_wp2_with (refine wpList_put_part (k := oBlock) rfl 40 _ _ rfl g1 1 (finCells (jumpTo x1)) rfl rfl hh (by kernel_rfl) (by show 1 + 11 ≤ 12; decide) (finCells_one _) ?_; intro w11 h11 g11 s11)
          have h12 : HoleF oBlock 42 w11 g1 c1 (mixL (threadB bs) bs k) k (blockCells v (⟨b.ops, jumpTo x1⟩ : Block)) F0 := h11
          have gT := grown_trans GW g11
          have hcl := h12.close (y := (⟨b.ops, jumpTo x1⟩ : Block)) (Gi := Fi) ⟨v, rfl, (jumpTo_wf (by omega)), OO.out.grown gT (fun x hx e => by injection e with e; subst e; exact HD0.out _ hx h0.row)⟩ (fun x hx => HD0.out x hx)
          rw [HLEN.out] at hcl
          have hmn := HMN.out
          rw [HB.out] at hmn
          rw [hmn] at hcl
          exact ⟨⟨k + 1, _, by omega, by go_num, hcl, fun x hx => HF.out x ((HIFF.out x).2 hx), ra.grown gT (fun e => by injection e with e; have := HG1.out; omega), rz.grown gT (fun e => by injection e with e; have := HG1.out; omega), r3.grown gT (fun e => by injection e with e; have := HG1.out; omega), hbr.grown gT hbr.size (fun j hj => by injection hj with hj; have := HG1.out; omega)⟩, by simp [intOf]; omega⟩
        · have z3 : ((x1 : Int) == (x2 : Int)) = false := ibeq (by omega)
          have z3' : ((x2 : Int) == (x1 : Int)) = false := ibeq (by omega)
          have hB : threadB bs b = ⟨b.ops, b.fin.lead (x1 : Int) (x2 : Int)⟩ := by rw [HTH.out, if_neg hx]
          have HB := Lib.hid hB
          clear hB hx
          obtain ⟨y0, y1, y2, y3, y4, y5, y6, y7, y8, y9, y10⟩ := termRow rt5
          replace y4 : V5.cell? ⟨wr.heap.size, 4, none⟩ = some (.int .i64 (x1 : Int)) := y4
          replace y5 : V5.cell? ⟨wr.heap.size, 5, none⟩ = some (.int .i64 (x2 : Int)) := y5
          go_upto_region 12 with fail
          clear y0 y1 y2 y3 y4 y5 y6 y7 y8 y9 y10
          have GW : wr.grownBy V5 (some g1) := ⟨bb5.os.trans GW2.os, bb5.tape.trans GW2.tape, bb5.output.trans GW2.output, Nat.le_trans GW2.size bb5.size, fun i hi hn => (bb5.block i hi).trans (GW2.block i hi hn)⟩
          have hh : HoleF oBlock 42 V5 g1 c1 (mixL (threadB bs) bs k) k (blockCells v b) F0 := h0.keep (fun x hx => by have hx' := h0.lt x hx; exact (bb5.block x hx').trans (b2.block x hx'))
          have r3c : Row V5 G3 33 (graphCells (.slice (some ⟨g1, 0, none⟩) bs.length c1) ⟨nm, kp, lf, bs⟩) := r3.keep ((bb5.block G3 r3.lt).trans (b2.block G3 r3.lt))
          obtain ⟨u0, u1, u2, u3⟩ := r3c.graph
          obtain ⟨y0, y1, y2, y3, y4, y5, y6, y7, y8, y9, y10⟩ := termRow rt5
          go_wp2_with (refine wpList_put_part (k := oBlock) rfl 40 _ _ rfl g1 1 (finCells (b.fin.lead (x1 : Int) (x2 : Int))) rfl rfl hh (by kernel_rfl) (by show 1 + 11 ≤ 12; decide) (finCells_one _) ?_; intro w11 h11 g11 s11)
          have h12 : HoleF oBlock 42 w11 g1 c1 (mixL (threadB bs) bs k) k (blockCells v (⟨b.ops, b.fin.lead (x1 : Int) (x2 : Int)⟩ : Block)) F0 := h11
          have gT := grown_trans GW g11
          have hcl := h12.close (y := (⟨b.ops, b.fin.lead (x1 : Int) (x2 : Int)⟩ : Block)) (Gi := Fi) ⟨v, rfl, HWF2.out, OO.out.grown gT (fun x hx e => by injection e with e; subst e; exact HD0.out _ hx h0.row)⟩ (fun x hx => HD0.out x hx)
          rw [HLEN.out] at hcl
          have hmn := HMN.out
          rw [HB.out] at hmn
          rw [hmn] at hcl
          exact ⟨⟨k + 1, _, by omega, by go_num, hcl, fun x hx => HF.out x ((HIFF.out x).2 hx), ra.grown gT (fun e => by injection e with e; have := HG1.out; omega), rz.grown gT (fun e => by injection e with e; have := HG1.out; omega), r3.grown gT (fun e => by injection e with e; have := HG1.out; omega), hbr.grown gT hbr.size (fun j hj => by injection hj with hj; have := HG1.out; omega)⟩, by simp [intOf]; omega⟩
      · have z1 : (b.fin.kind == 2) = false := ibeq hk2
        by_cases hk1 : b.fin.kind = 1
        · have z2 : (b.fin.kind == 1) = true := by simp [hk1]
          obtain ⟨ht0, ht1⟩ := HLEAD.out.1 (.inl hk1)
          obtain ⟨nt, hnt⟩ := Int.eq_ofNat_of_zero_le ht0
          have Lnt : Hid (nt < bs.length) := Lib.hid (by omega)
          have hB : threadB bs b = ⟨b.ops, b.fin.lead (thr bs nt : Int) b.fin.els⟩ := by
            unfold threadB threadT
            rw [if_neg hk2, if_pos hk1, hnt, Int.toNat_natCast]
          have HB := Lib.hid hB
          have hnl := thr_lt HLD.out (b := nt) Lnt.out
          have hwf : (⟨b.ops, b.fin.lead (thr bs nt : Int) b.fin.els⟩ : Block).wf := lead_wf1 HWF.out (by omega)
          have HWB := Lib.hid hwf
          clear ht0 ht1 hB hwf hk1 hk2
          have rt2 := r2
          obtain ⟨x0, x1, x2, x3⟩ := ra2.graph
          obtain ⟨y0, y1, y2, y3, y4, y5, y6, y7, y8, y9, y10⟩ := termRow rt2
          rw [hnt] at y4
          go_wp2_with fail
          refine (refThrough_calls _ _ _ _ _ bs nt _ (Kd.C_mono t2 hC) hl HLD.out Lnt.out).mono ?_
          rintro e w4 ⟨rfl, hb4⟩
          clear x0 x1 x2 x3 y0 y1 y2 y3 y4 y5 y6 y7 y8 y9 y10
          have ra4' := ra2.below hb4
          have rt4' := rt2.below hb4
          have z4 : w4.cell? ⟨wr.heap.size, 4, none⟩ = some (.int .i64 b.fin.to) := rt4'.cell (j := 4) rfl
          have f4 := rt4'.frozen 4
          have rt4 : Row (w4.setCell ⟨wr.heap.size, 4, none⟩ (.int .i64 (thr bs nt : Int))) wr.heap.size 40 (finCells (b.fin.lead (thr bs nt : Int) b.fin.els)) := rt4'.set 4 _
          have g4 := grown_set w4 wr.heap.size 4 (.int .i64 (thr bs nt : Int))
          go_upto_region 8 with fail
          have ra4 := ra4'.grown g4 (fun e => by injection e with e; have := ra.lt; omega)
          have bb4 : Below wr.heap.size W2 (w4.setCell ⟨wr.heap.size, 4, none⟩ (.int .i64 (thr bs nt : Int))) := ((Below.refl wr.heap.size W2).trans (hb4.mono (by have := b2.size; have := (Below.refl wr.heap.size W2).size; omega))).grown g4 (by have := b2.size; have := (Below.refl wr.heap.size W2).size; have := hb4.size; omega) (fun j hj => by injection hj with hj; omega)
          have t4 := t2.trans (bb4.mono hbr.size)
          generalize w4.setCell ⟨wr.heap.size, 4, none⟩ (.int .i64 (thr bs nt : Int)) = V4 at *
          clear ra4' rt4' z4 f4 g4 hb4
          obtain ⟨y0, y1, y2, y3, y4, y5, y6, y7, y8, y9, y10⟩ := termRow rt4
          replace y0 : V4.cell? ⟨wr.heap.size, 0, none⟩ = some (.int .i64 b.fin.kind) := y0
          go_upto_region 12 with fail
          clear y0 y1 y2 y3 y4 y5 y6 y7 y8 y9 y10
          have GW : wr.grownBy V4 (some g1) := ⟨bb4.os.trans GW2.os, bb4.tape.trans GW2.tape, bb4.output.trans GW2.output, Nat.le_trans GW2.size bb4.size, fun i hi hn => (bb4.block i hi).trans (GW2.block i hi hn)⟩
          have hh : HoleF oBlock 42 V4 g1 c1 (mixL (threadB bs) bs k) k (blockCells v b) F0 := h0.keep (fun x hx => by have hx' := h0.lt x hx; exact (bb4.block x hx').trans (b2.block x hx'))
          have r3c : Row V4 G3 33 (graphCells (.slice (some ⟨g1, 0, none⟩) bs.length c1) ⟨nm, kp, lf, bs⟩) := r3.keep ((bb4.block G3 r3.lt).trans (b2.block G3 r3.lt))
          obtain ⟨u0, u1, u2, u3⟩ := r3c.graph
          obtain ⟨y0, y1, y2, y3, y4, y5, y6, y7, y8, y9, y10⟩ := termRow rt4
          go_wp2_with (refine wpList_put_part (k := oBlock) rfl 40 _ _ rfl g1 1 (finCells (b.fin.lead (thr bs nt : Int) b.fin.els)) rfl rfl hh (by kernel_rfl) (by show 1 + 11 ≤ 12; decide) (finCells_one _) ?_; intro w11 h11 g11 s11)
          have h12 : HoleF oBlock 42 w11 g1 c1 (mixL (threadB bs) bs k) k (blockCells v (⟨b.ops, b.fin.lead (thr bs nt : Int) b.fin.els⟩ : Block)) F0 := h11
          have gT := grown_trans GW g11
          have hcl := h12.close (y := (⟨b.ops, b.fin.lead (thr bs nt : Int) b.fin.els⟩ : Block)) (Gi := Fi) ⟨v, rfl, HWB.out, OO.out.grown gT (fun x hx e => by injection e with e; subst e; exact HD0.out _ hx h0.row)⟩ (fun x hx => HD0.out x hx)
          rw [HLEN.out] at hcl
          have hmn := HMN.out
          rw [HB.out] at hmn
          rw [hmn] at hcl
          exact ⟨⟨k + 1, _, by omega, by go_num, hcl, fun x hx => HF.out x ((HIFF.out x).2 hx), ra.grown gT (fun e => by injection e with e; have := HG1.out; omega), rz.grown gT (fun e => by injection e with e; have := HG1.out; omega), r3.grown gT (fun e => by injection e with e; have := HG1.out; omega), hbr.grown gT hbr.size (fun j hj => by injection hj with hj; have := HG1.out; omega)⟩, by simp [intOf]; omega⟩
        · have z2 : (b.fin.kind == 1) = false := ibeq hk1
          have hB : threadB bs b = ⟨b.ops, b.fin⟩ := by
            unfold threadB threadT
            rw [if_neg hk2, if_neg hk1]
          have HB := Lib.hid hB
          clear hB hk1 hk2
          have rt2 := r2
          obtain ⟨y0, y1, y2, y3, y4, y5, y6, y7, y8, y9, y10⟩ := termRow rt2
          go_upto_region 12 with fail
          clear y0 y1 y2 y3 y4 y5 y6 y7 y8 y9 y10
          have bb2 := Below.refl wr.heap.size W2
          have GW : wr.grownBy W2 (some g1) := ⟨bb2.os.trans GW2.os, bb2.tape.trans GW2.tape, bb2.output.trans GW2.output, Nat.le_trans GW2.size bb2.size, fun i hi hn => (bb2.block i hi).trans (GW2.block i hi hn)⟩
          have hh : HoleF oBlock 42 W2 g1 c1 (mixL (threadB bs) bs k) k (blockCells v b) F0 := h0.keep (fun x hx => by have hx' := h0.lt x hx; exact (bb2.block x hx').trans (b2.block x hx'))
          have r3c : Row W2 G3 33 (graphCells (.slice (some ⟨g1, 0, none⟩) bs.length c1) ⟨nm, kp, lf, bs⟩) := r3.keep ((bb2.block G3 r3.lt).trans (b2.block G3 r3.lt))
          obtain ⟨u0, u1, u2, u3⟩ := r3c.graph
          obtain ⟨y0, y1, y2, y3, y4, y5, y6, y7, y8, y9, y10⟩ := termRow rt2
          go_wp2_with (refine wpList_put_part (k := oBlock) rfl 40 _ _ rfl g1 1 (finCells (b.fin)) rfl rfl hh (by kernel_rfl) (by show 1 + 11 ≤ 12; decide) (finCells_one _) ?_; intro w11 h11 g11 s11)
          have h12 : HoleF oBlock 42 w11 g1 c1 (mixL (threadB bs) bs k) k (blockCells v (⟨b.ops, b.fin⟩ : Block)) F0 := h11
          have gT := grown_trans GW g11
          have hcl := h12.close (y := (⟨b.ops, b.fin⟩ : Block)) (Gi := Fi) ⟨v, rfl, HWF.out, OO.out.grown gT (fun x hx e => by injection e with e; subst e; exact HD0.out _ hx h0.row)⟩ (fun x hx => HD0.out x hx)
          rw [HLEN.out] at hcl
          have hmn := HMN.out
          rw [HB.out] at hmn
          rw [hmn] at hcl
          exact ⟨⟨k + 1, _, by omega, by go_num, hcl, fun x hx => HF.out x ((HIFF.out x).2 hx), ra.grown gT (fun e => by injection e with e; have := HG1.out; omega), rz.grown gT (fun e => by injection e with e; have := HG1.out; omega), r3.grown gT (fun e => by injection e with e; have := HG1.out; omega), hbr.grown gT hbr.size (fun j hj => by injection hj with hj; have := HG1.out; omega)⟩, by simp [intOf]; omega⟩
    · obtain rfl : k = bs.length := by omega
      rw [mixL_all] at ho
      have HO := Lib.hid ho
      have HF := Lib.hid hF
      obtain ⟨y0, y1, y2, y3⟩ := r3.graph
      clear ho hF
      go_wp2_with (refine wpList_put_row rfl 33 _ _ rfl (w.heap.size + 1) (graphCells (.slice A1 bs.length c1) ⟨nm, kp, lf, bs⟩) rfl rfl rz (by kernel_rfl) rfl (graphCells_one _) ?_; intro w6 r6 g6 s6)
      refine bodyPost_ret (results_cell_row rfl _ _ (w.heap.size + 1) 33 (graphCells (.slice A1 bs.length c1) ⟨nm, kp, lf, bs⟩).toArray (0, 0) _ rfl r6 Try.underlying33 rfl (by kernel_rfl)) rfl ?_
      have hlt : (threadBs bs).length = bs.length := threadBs_len bs
      refine ⟨A1, c1, F, by rw [hlt]; rfl, ?_, fun x hx => by have := HF.out x hx; omega, hbr.grown g6 hbr.size (fun j hj => by injection hj with hj; omega)⟩
      have hfin : OwnF oBlock 42 w6 (.slice A1 bs.length c1) (threadBs bs) F := HO.out.grown g6 (fun x hx e => by injection e with e; have := HF.out x hx; omega)
      rw [hlt]
      exact hfin
end Go.Proofs.Ytokkngfgppikkaa
