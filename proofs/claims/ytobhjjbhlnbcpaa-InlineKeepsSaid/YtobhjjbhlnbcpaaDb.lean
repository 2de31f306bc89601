/- Layer 23 (inline): what Leaves and Tails do with one block. -/
import Derived.Test.YtobhjjbhlnbcpaaDa
import Derived.Test.YtobhjjbhlnbcpaaCm
namespace Go.Proofs.Ytobhjjbhlnbcpaa
set_option linter.unusedVariables false
set_option linter.unusedSimpArgs false
open Go.RowKit

/-- A block of the call's own, or of F0. -/
def MadeB (w : World) (F0 : Nat → Prop) (b : Block) (e : Ending) (w' : World) : Prop :=
  ∃ A c F, e = .returned (.agg (blockCells (.slice A b.ops.length c) b).toArray) ∧ OwnF oOp 45 w' (.slice A b.ops.length c) b.ops F ∧ (∀ x, F x → F0 x ∨ w.heap.size ≤ x) ∧ Below w.heap.size w w'

set_option maxHeartbeats 4000000 in
set_option maxRecDepth 100000 in
theorem leaves1_calls (gs : List Graph) (A : Option Addr) (c p : Nat) (b : Block) (A0 : Option Addr) (c0 : Nat) (F0 : Nat → Prop) (w : World) (hok : GsOk gs) (hp : w.cell? ⟨p, 0, none⟩ = some (.slice A gs.length c)) (hC : kGraph.C w A gs) (hO : kOp.C w A0 b.ops) (hl : b.ops.length ≤ 300) (hin : ∀ o ∈ b.ops, calledI o < gs.length) :
    Calls Try.prog 39 #[.agg #[.slice A0 b.ops.length c0, .int .i64 b.fin.kind, .int .i64 b.fin.op, .int .i64 b.fin.a, .int .i64 b.fin.b, .int .i64 b.fin.to, .int .i64 b.fin.els, .int .i64 b.fin.ins.op, .int .i64 b.fin.ins.a, .int .i64 b.fin.ins.b, .int .i64 b.fin.ins.c, .int .i64 b.fin.ins.imm], .pointer (some ⟨p, 0, none⟩)] w (MadeB w F0 (leavesB gs b)) := by
  have hgl := hok.1
  have HOK := Lib.hid hok
  have HIN := Lib.hid hin
  clear hok hin
  go_enter Try.func39, Try.ntmps39
  go_upto_region 1 with fail
  have hall : ∃ W : World, W = (w.alloc (.cells #[.slice A0 b.ops.length c0, .int .i64 b.fin.kind, .int .i64 b.fin.op, .int .i64 b.fin.a, .int .i64 b.fin.b, .int .i64 b.fin.to, .int .i64 b.fin.els, .int .i64 b.fin.ins.op, .int .i64 b.fin.ins.a, .int .i64 b.fin.ins.b, .int .i64 b.fin.ins.c, .int .i64 b.fin.ins.imm] 43)).alloc (.cells #[.slice none 0 0, .int .i64 0, .int .i64 0, .int .i64 0, .int .i64 0, .int .i64 0, .int .i64 0, .int .i64 0, .int .i64 0, .int .i64 0, .int .i64 0, .int .i64 0] 43) ∧ Below w.heap.size w W ∧ W.heap.size = w.heap.size + 1 + 1 ∧ Row W w.heap.size 43 (blockCells (.slice A0 b.ops.length c0) b) ∧ Row W (w.heap.size + 1) 43 (blockCells (.slice none 0 0) Block.zero) := by
    have r1 := Row.new w 43 (#[.slice A0 b.ops.length c0, .int .i64 b.fin.kind, .int .i64 b.fin.op, .int .i64 b.fin.a, .int .i64 b.fin.b, .int .i64 b.fin.to, .int .i64 b.fin.els, .int .i64 b.fin.ins.op, .int .i64 b.fin.ins.a, .int .i64 b.fin.ins.b, .int .i64 b.fin.ins.c, .int .i64 b.fin.ins.imm])
    have e1 : (w.alloc (.cells #[.slice A0 b.ops.length c0, .int .i64 b.fin.kind, .int .i64 b.fin.op, .int .i64 b.fin.a, .int .i64 b.fin.b, .int .i64 b.fin.to, .int .i64 b.fin.els, .int .i64 b.fin.ins.op, .int .i64 b.fin.ins.a, .int .i64 b.fin.ins.b, .int .i64 b.fin.ins.c, .int .i64 b.fin.ins.imm] 43)).heap.size = w.heap.size + 1 := by simp
    have b1 := below_alloc' w (.cells #[.slice A0 b.ops.length c0, .int .i64 b.fin.kind, .int .i64 b.fin.op, .int .i64 b.fin.a, .int .i64 b.fin.b, .int .i64 b.fin.to, .int .i64 b.fin.els, .int .i64 b.fin.ins.op, .int .i64 b.fin.ins.a, .int .i64 b.fin.ins.b, .int .i64 b.fin.ins.c, .int .i64 b.fin.ins.imm] 43)
    generalize w.alloc (.cells #[.slice A0 b.ops.length c0, .int .i64 b.fin.kind, .int .i64 b.fin.op, .int .i64 b.fin.a, .int .i64 b.fin.b, .int .i64 b.fin.to, .int .i64 b.fin.els, .int .i64 b.fin.ins.op, .int .i64 b.fin.ins.a, .int .i64 b.fin.ins.b, .int .i64 b.fin.ins.c, .int .i64 b.fin.ins.imm] 43) = W1 at *
    have b2 := below_alloc' W1 (.cells #[.slice none 0 0, .int .i64 0, .int .i64 0, .int .i64 0, .int .i64 0, .int .i64 0, .int .i64 0, .int .i64 0, .int .i64 0, .int .i64 0, .int .i64 0, .int .i64 0] 43)
    have r2 := Row.new W1 43 (#[.slice none 0 0, .int .i64 0, .int .i64 0, .int .i64 0, .int .i64 0, .int .i64 0, .int .i64 0, .int .i64 0, .int .i64 0, .int .i64 0, .int .i64 0, .int .i64 0])
    rw [e1] at r2
    exact ⟨_, rfl, b1.trans (b2.mono b1.size), by simp [e1], r1.below b2, r2⟩
  obtain ⟨W, hW, hbW, hB, q1, q2⟩ := hall
  rw [← hW]
  have HB := Lib.hid hB
  have HQ1 := Lib.hid q1
  have HQ2 := Lib.hid q2
  have x0 := q1.cell (j := 0) rfl
  have hOW := Kd.C_mono hbW hO
  clear hW q1 q2 hB
  have hl0 : b.ops.length ≤ 9223372036854775807 := by omega
  go_wp2_with fail
  go_loopw [4, 11] (fun v i wr => ∃ (k : Nat) (F : Nat → Prop), k ≤ b.ops.length ∧ i = .int .i64 k ∧ OwnF oOp 45 wr v (inlAll gs (b.ops.take k)) F ∧ (∀ x, F x → W.heap.size ≤ x) ∧ Below W.heap.size W wr) (fun _ i _ => b.ops.length - (intOf i).toNat)
  case atStart => exact ⟨0, _, Nat.zero_le _, rfl, OwnF.nil _ _ _, fun _ h => h.elim, Below.refl _ _⟩
  case round =>
    obtain ⟨k, F, hk, rfl, ho, hF, hbr⟩ := hrel
    have hwr := hbr.size
    by_cases hlt : k < b.ops.length
    · obtain ⟨o, hoo⟩ := get_some b.ops k hlt
      have hs := inl_succ (gs := gs) hoo
      have hlen := inl_len gs (b.ops.take k)
      have hlt2 : (b.ops.take k).length ≤ 300 := Nat.le_trans (by simp [List.length_take]; omega) hl
      have hlen8 := inlOps_len gs o
      have hq : (inlAll gs (b.ops.take k)).length + 8 ≤ 2408 := by omega
      have hoin := HIN.out o (List.mem_of_getElem? hoo)
      obtain ⟨ad, rfl, e0, e1, e2, e3, e4, e5, e6, e7, e8, hwo⟩ := Op_at (Kd.C_mono hbr hOW) hoo
      have HS := Lib.hid hs
      have HWO := Lib.hid hwo
      clear hoo hs hlen hlt2 hwo
      go_upto_region 5 with fail
      have b2 := below_alloc' wr (.cells #[.int .i64 o.ins.op, .int .i64 o.ins.a, .int .i64 o.ins.b, .int .i64 o.ins.c, .int .i64 o.ins.imm, .bool o.rel, .int .i64 o.kind, .int .i64 o.to, .int .i64 o.add] 45)
      have r2 : Row (wr.alloc (.cells #[.int .i64 o.ins.op, .int .i64 o.ins.a, .int .i64 o.ins.b, .int .i64 o.ins.c, .int .i64 o.ins.imm, .bool o.rel, .int .i64 o.kind, .int .i64 o.to, .int .i64 o.add] 45)) wr.heap.size 45 (opCells o) := Row.new wr _ _
      generalize wr.alloc (.cells #[.int .i64 o.ins.op, .int .i64 o.ins.a, .int .i64 o.ins.b, .int .i64 o.ins.c, .int .i64 o.ins.imm, .bool o.rel, .int .i64 o.kind, .int .i64 o.to, .int .i64 o.add] 45) = W2 at *
      clear e0 e1 e2 e3 e4 e5 e6 e7 e8
      obtain ⟨y0, y1, y2, y3, y4, y5, y6, y7, y8⟩ := r2.op
      go_wp2_with fail
      refine (called_op _ _).mono ?_
      rintro e w1 ⟨rfl, hb1⟩
      have b3 := b2.trans (hb1.mono b2.size)
      have r3 := r2.below hb1
      have ho3 := ho.below b3
      clear y0 y1 y2 y3 y4 y5 y6 y7 y8
      have t3 := hbW.trans ((hbr.trans (b3.mono hwr)).mono hbW.size)
      by_cases hneg : calledI o < 0
      · have z1 : decide (0 ≤ calledI o) = false := by simp; omega
        have HO := Lib.hid (inlOps_not (gs := gs) hneg)
        clear hneg
        generalize calledI o = f at *
        -- ONE
        obtain ⟨y0, y1, y2, y3, y4, y5, y6, y7, y8⟩ := r3.op
        go_wp2_with (at_builtin; refine wpList_append_f (k := oOp) elOp rfl _ _ rfl (ys := [o]) (ho3.below (below_alloc' w1 _)) (YF.op rfl HWO.out) (fun _ _ h => h) rfl rfl (by show _ + 1 ≤ _; omega) ?_; intro v5 w5 hg5)
        obtain ⟨⟨F5, own5, hF5⟩, hgr5⟩ := hg5
        exact ⟨⟨k + 1, F5, by omega, by go_num, by rw [HS.out, HO.out]; exact own5, fun x hx => by (rcases hF5 x hx with h | h | h; exact hF x h; exact h.elim; exact Nat.le_trans hwr (Nat.le_trans b3.size (Nat.le_trans (below_alloc' w1 _).size h))), ((hbr.trans (b3.mono hwr)).trans ((below_alloc' w1 _).mono (Nat.le_trans hwr b3.size))).grown hgr5 (Nat.le_trans hwr (Nat.le_trans b3.size (below_alloc' w1 _).size)) (fun j hj => hF j (ho.row hj))⟩, by simp [intOf]; omega⟩
      · have h0 : 0 ≤ calledI o := by omega
        obtain ⟨n, hn⟩ := Int.eq_ofNat_of_zero_le h0
        have hnl : n < gs.length := by omega
        obtain ⟨h, hh⟩ := get_some gs n hnl
        have hat := inlOps_at (gs := gs) (o := o) (h := h) h0 (by rw [hn]; exact hh)
        obtain ⟨hfew, -⟩ := HOK.out.2 h (List.mem_of_getElem? hh)
        obtain ⟨ag, A1, c1, rfl, f0, f1, f2, f3, -, l1, m1, g1⟩ := Graph_at (Kd.C_mono t3 hC) hh
        have hl1 := len_le l1 m1
        have hp3 : w1.cell? ⟨p, 0, none⟩ = some (.slice (some ag) gs.length c) := (t3.cell (World.lt_of_cell hp)).trans hp
        have HAT := Lib.hid hat
        rw [hn]
        clear hat hneg h0 hn hoin hh
        cases hsm : smallB h.blocks with
        | false =>
          have HO : Hid (inlOps gs o = [o]) := Lib.hid (by rw [HAT.out, hsm]; rfl)
          have HSM := Lib.hid hsm
          clear hsm
          go_wp2_with fail
          refine (small_calls _ _ _ _ _ _ _ g1 (Nat.le_trans l1 m1) hfew).mono ?_
          rw [HSM.out]
          rintro e w2 ⟨rfl, hb2⟩
          have b4 := b3.trans (hb2.mono b3.size)
          have r4 := r3.below hb2
          have ho4 := ho3.below hb2
          clear f0 f1 f2 f3
          obtain ⟨y0, y1, y2, y3, y4, y5, y6, y7, y8⟩ := r4.op
          go_wp2_with (at_builtin; refine wpList_append_f (k := oOp) elOp rfl _ _ rfl (ys := [o]) (ho4.below (below_alloc' w2 _)) (YF.op rfl HWO.out) (fun _ _ h => h) rfl rfl (by show _ + 1 ≤ _; omega) ?_; intro v5 w5 hg5)
          obtain ⟨⟨F5, own5, hF5⟩, hgr5⟩ := hg5
          exact ⟨⟨k + 1, F5, by omega, by go_num, by rw [HS.out, HO.out]; exact own5, fun x hx => by (rcases hF5 x hx with h | h | h; exact hF x h; exact h.elim; exact Nat.le_trans hwr (Nat.le_trans b4.size (Nat.le_trans (below_alloc' w2 _).size h))), ((hbr.trans (b4.mono hwr)).trans ((below_alloc' w2 _).mono (Nat.le_trans hwr b4.size))).grown hgr5 (Nat.le_trans hwr (Nat.le_trans b4.size (below_alloc' w2 _).size)) (fun j hj => hF j (ho.row hj))⟩, by simp [intOf]; omega⟩
        | true =>
          cases hke : h.keep with
          | true =>
            have HO : Hid (inlOps gs o = [o]) := Lib.hid (by rw [HAT.out, hsm, hke]; rfl)
            have HSM := Lib.hid hsm
            rw [hke] at f1
            clear hsm hke
            go_wp2_with fail
            refine (small_calls _ _ _ _ _ _ _ g1 (Nat.le_trans l1 m1) hfew).mono ?_
            rw [HSM.out]
            rintro e w2 ⟨rfl, hb2⟩
            have b4 := b3.trans (hb2.mono b3.size)
            have r4 := r3.below hb2
            have ho4 := ho3.below hb2
            have hp4 := (hb2.cell (World.lt_of_cell hp3)).trans hp3
            have f1' := (hb2.cell (World.lt_of_cell f1)).trans f1
            clear f0 f1 f2 f3 hp3
            obtain ⟨y0, y1, y2, y3, y4, y5, y6, y7, y8⟩ := r4.op
            go_wp2_with (at_builtin; refine wpList_append_f (k := oOp) elOp rfl _ _ rfl (ys := [o]) (ho4.below (below_alloc' w2 _)) (YF.op rfl HWO.out) (fun _ _ h => h) rfl rfl (by show _ + 1 ≤ _; omega) ?_; intro v5 w5 hg5)
            obtain ⟨⟨F5, own5, hF5⟩, hgr5⟩ := hg5
            exact ⟨⟨k + 1, F5, by omega, by go_num, by rw [HS.out, HO.out]; exact own5, fun x hx => by (rcases hF5 x hx with h | h | h; exact hF x h; exact h.elim; exact Nat.le_trans hwr (Nat.le_trans b4.size (Nat.le_trans (below_alloc' w2 _).size h))), ((hbr.trans (b4.mono hwr)).trans ((below_alloc' w2 _).mono (Nat.le_trans hwr b4.size))).grown hgr5 (Nat.le_trans hwr (Nat.le_trans b4.size (below_alloc' w2 _).size)) (fun j hj => hF j (ho.row hj))⟩, by simp [intOf]; omega⟩
          | false =>
            obtain ⟨hb0, hbe, hb8⟩ := small_one hsm
            have HO : Hid (inlOps gs o = hb0.ops) := Lib.hid (by rw [HAT.out, hsm, hke, hbe]; rfl)
            have HSM := Lib.hid hsm
            have HBE := Lib.hid hbe
            rw [hke] at f1
            clear hsm hke hbe
            go_wp2_with fail
            refine (small_calls _ _ _ _ _ _ _ g1 (Nat.le_trans l1 m1) hfew).mono ?_
            rw [HSM.out]
            rintro e w2 ⟨rfl, hb2⟩
            have hbe := HBE.out
            have b4 := b3.trans (hb2.mono b3.size)
            have ho4 := ho3.below hb2
            have hp4 := (hb2.cell (World.lt_of_cell hp3)).trans hp3
            have f1' := (hb2.cell (World.lt_of_cell f1)).trans f1
            have f3' := (hb2.cell (World.lt_of_cell f3)).trans f3
            rw [hbe] at g1 f3'
            obtain ⟨ab, A2, c2, rfl, i0, -, -, -, -, -, -, -, -, -, -, -, -, l2, m2, g2⟩ := Block_at (i := 0) (Kd.C_mono hb2 g1) rfl
            rw [add_zero12] at i0
            have hl2 := len_le l2 m2
            clear f0 f1 f2 f3 hp3 g1 hbe
            go_wp2_with (at_builtin; refine wpList_append_f (k := oOp) elOp rfl _ _ rfl ho4 (YF.flat g2) (fun _ _ h => h) rfl rfl (by omega) ?_; intro v5 w5 hg5)
            obtain ⟨⟨F5, own5, hF5⟩, hgr5⟩ := hg5
            exact ⟨⟨k + 1, F5, by omega, by go_num, by rw [HS.out, HO.out]; exact own5, fun x hx => by (rcases hF5 x hx with h | h | h; exact hF x h; exact h.elim; exact Nat.le_trans hwr (Nat.le_trans b4.size h)), (hbr.trans (b4.mono hwr)).grown hgr5 (Nat.le_trans hwr b4.size) (fun j hj => hF j (ho.row hj))⟩, by simp [intOf]; omega⟩
    · obtain rfl : k = b.ops.length := by omega
      rw [List.take_length] at ho
      obtain ⟨A5, c5, rfl, l5, m5, hC5⟩ := ho.read
      have r1 := HQ1.out.below hbr
      have r2 := HQ2.out.below hbr
      have hz := HB.out
      have x0 := r1.cell (j := 0) rfl
      have fz := r1.frozen 0
      have s1 : Row (wr.setCell ⟨w.heap.size, 0, none⟩ (.slice A5 (inlAll gs b.ops).length c5)) w.heap.size 43 (blockCells (.slice A5 (inlAll gs b.ops).length c5) b) := r1.set 0 _
      have g1 := grown_set wr w.heap.size 0 (.slice A5 (inlAll gs b.ops).length c5)
      have r3 := r2.grown g1 (by simp)
      have o3 := ho.grown g1 (fun x hx e => by injection e with e; have := hF x hx; omega)
      have R2 := Lib.hid r3
      have OW := Lib.hid o3
      have HFF := Lib.hid hF
      clear r1 r2 hz ho hC5 hF r3 o3
      go_upto_region 11 with fail
      generalize wr.setCell ⟨w.heap.size, 0, none⟩ (.slice A5 (inlAll gs b.ops).length c5) = W3 at *
      clear x0 fz
      obtain ⟨y0, y1, y2, y3, y4, y5, y6, y7, y8, y9, y10, y11⟩ := s1.block
      go_wp2_with (refine wpList_put_row rfl 43 _ _ rfl (w.heap.size + 1) (blockCells (.slice A5 (inlAll gs b.ops).length c5) ⟨inlAll gs b.ops, b.fin⟩) rfl rfl R2.out (by kernel_rfl) rfl (blockCells_one _) ?_; intro w6 r3 g3 _)
      have hz := HB.out
      refine bodyPost_ret (results_cell_row rfl _ _ (w.heap.size + 1) 43 (blockCells (.slice A5 (inlAll gs b.ops).length c5) ⟨inlAll gs b.ops, b.fin⟩).toArray (0, 0) _ rfl r3 Try.underlying43 rfl (by kernel_rfl)) rfl ?_
      refine ⟨A5, c5, F, rfl, OW.out.grown g3 (fun b hb e => by injection e with e; have := HFF.out b hb; omega), fun x hx => .inr (by have := HFF.out x hx; omega), ?_⟩
      refine (hbW.trans (hbr.mono hbW.size)).trans ⟨g3.os.trans g1.os, g3.tape.trans g1.tape, g3.output.trans g1.output, Nat.le_trans g1.size g3.size, fun j hj => ?_⟩
      rw [g3.block j (by have := g1.size; omega) (by simp; omega), g1.block j (by omega) (by simp; omega)]
end Go.Proofs.Ytobhjjbhlnbcpaa
