/- Layer 22 (dead): a graph like another one. Printed in part by genNc.py of this repository. -/
import Derived.Test.YtokkngfgppikkaaNb
import Derived.Test.YtokkngfgppikkaaDa
import Derived.Test.YtokkngfgppikkaaGd
import Derived.Deep.RegionHeld3
namespace Go.Proofs.Ytokkngfgppikkaa
set_option linter.unusedVariables false
set_option linter.unusedSimpArgs false
open Go.RowKit

/-- Three new rows. -/
theorem three_rows (w : World) (cs ds es : Array Value) (T U V : TypeId) : ∃ W : World, W = ((w.alloc (.cells cs T)).alloc (.cells ds U)).alloc (.cells es V) ∧ Below w.heap.size w W ∧ W.heap.size = w.heap.size + 1 + 1 + 1 ∧ Row W w.heap.size T cs.toList ∧ Row W (w.heap.size + 1) U ds.toList ∧ Row W (w.heap.size + 1 + 1) V es.toList := by
  obtain ⟨W2, h2, b2, s2, r1, r2⟩ := two_rows w cs ds T U
  have b3 := below_alloc' W2 (.cells es V)
  have r3 := Row.new W2 V es
  rw [s2] at r3
  exact ⟨W2.alloc (.cells es V), by rw [h2], b2.trans (b3.mono b2.size), by simp [s2], r1.below b3, r2.below b3, r3⟩
theorem grown_over {X w w' : World} {r : Option Nat} (h : X.grownBy w r) (k : Below X.heap.size w w') : X.grownBy w' r := ⟨k.os.trans h.os, k.tape.trans h.tape, k.output.trans h.output, Nat.le_trans h.size k.size, fun i hi hn => (k.block i hi).trans (h.block i hi hn)⟩
/-- A block's cells. -/
def SBlk (w : World) (g : Nat) (v : Value) (b : Block) : Prop := w.cell? ⟨g, 0, none⟩ = some v ∧ w.cell? ⟨g, 1, none⟩ = some (.int .i64 b.fin.kind) ∧ w.cell? ⟨g, 2, none⟩ = some (.int .i64 b.fin.op) ∧ w.cell? ⟨g, 3, none⟩ = some (.int .i64 b.fin.a) ∧ w.cell? ⟨g, 4, none⟩ = some (.int .i64 b.fin.b) ∧ w.cell? ⟨g, 5, none⟩ = some (.int .i64 b.fin.to) ∧ w.cell? ⟨g, 6, none⟩ = some (.int .i64 b.fin.els) ∧ w.cell? ⟨g, 7, none⟩ = some (.int .i64 b.fin.ins.op) ∧ w.cell? ⟨g, 8, none⟩ = some (.int .i64 b.fin.ins.a) ∧ w.cell? ⟨g, 9, none⟩ = some (.int .i64 b.fin.ins.b) ∧ w.cell? ⟨g, 10, none⟩ = some (.int .i64 b.fin.ins.c) ∧ w.cell? ⟨g, 11, none⟩ = some (.int .i64 b.fin.ins.imm)

set_option maxHeartbeats 8000000 in
set_option maxRecDepth 100000 in
theorem copied_calls (nm : ByteArray) (kp lf : Bool) (A : Option Addr) (c : Nat) (bs : List Block) (w : World) (hC : kBlock.C w A bs) (hl : bs.length ≤ 1000) (h300 : ∀ b ∈ bs, b.ops.length ≤ 300) : Calls Try.prog 64 #[.agg #[.string nm, .bool kp, .bool lf, .slice A bs.length c]] w fun e w' =>
    CopiedG nm kp lf bs w e w' := by
  have hlo : bs.length ≤ 9223372036854775807 := by omega
  have H3 := Lib.hid h300
  clear h300
  go_enter Try.func64, Try.ntmps64
  go_upto_region 3 with fail
  obtain ⟨W, hW, hbW, hB, q1, q2, q3⟩ := three_rows w #[.string nm, .bool kp, .bool lf, .slice A bs.length c] #[.string ⟨#[]⟩, .bool false, .bool false, .slice none 0 0] #[.string nm, .bool kp, .bool lf, .slice none 0 0] 33 33 33
  rw [← hW]
  have HBs := Lib.hid hB
  have HQ2 := Lib.hid q2
  have x3 := q1.cell (j := 3) rfl
  clear hW q2 hB
  go_wp2_with fail
  go_loopw [11] (fun i wr => ∃ (k : Nat) (v : Value) (F : Nat → Prop), k ≤ bs.length ∧ i = .int .i64 k ∧ OwnF oBlock 42 wr v (bs.take k) F ∧ (∀ b, F b → W.heap.size ≤ b) ∧ Row wr (w.heap.size + 1 + 1) 33 (graphCells v ⟨nm, kp, lf, bs⟩) ∧ W.grownBy wr (some (w.heap.size + 1 + 1))) (fun i _ => bs.length - (intOf i).toNat)
  case atStart => exact ⟨0, _, _, Nat.zero_le _, rfl, OwnF.nil _ _ _, fun _ h => h.elim, q3, grown_refl _ _⟩
  case round =>
    obtain ⟨k, v, F, hk, rfl, ho, hF, hh3, hgr⟩ := hrel
    have hz := HBs.out
    have hwB : W.heap.size ≤ wr.heap.size := hgr.size
    clear x3
    by_cases hlt : k < bs.length
    · obtain ⟨x, hx⟩ := get_some bs k hlt
      have htk := take_snoc hx
      have h300 := H3.out x (List.mem_of_getElem? hx)
      have hsub : Sub w wr := fun a u hu => hgr.cell ((Sub.of_below hbW) a u hu) (by have := World.lt_of_cell hu; simp; omega)
      obtain ⟨ad, A0, c0, rfl, f0, f1, f2, f3, f4, f5, f6, f7, f8, f9, f10, f11, hwf, l0, m0, g0⟩ := Block_at (Kd.C_sub hsub hC) hx
      have hl0 := len_le l0 m0
      have HT := Lib.hid htk
      clear htk hx
      have hlo2 : (bs.take k).length ≤ 1000 := by simp [List.length_take]; omega
      have b5 := below_alloc' wr (.cells #[.slice A0 x.ops.length c0, .int .i64 x.fin.kind, .int .i64 x.fin.op, .int .i64 x.fin.a, .int .i64 x.fin.b, .int .i64 x.fin.to, .int .i64 x.fin.els, .int .i64 x.fin.ins.op, .int .i64 x.fin.ins.a, .int .i64 x.fin.ins.b, .int .i64 x.fin.ins.c, .int .i64 x.fin.ins.imm] 42)
      have r5 : Row (wr.alloc (.cells #[.slice A0 x.ops.length c0, .int .i64 x.fin.kind, .int .i64 x.fin.op, .int .i64 x.fin.a, .int .i64 x.fin.b, .int .i64 x.fin.to, .int .i64 x.fin.els, .int .i64 x.fin.ins.op, .int .i64 x.fin.ins.a, .int .i64 x.fin.ins.b, .int .i64 x.fin.ins.c, .int .i64 x.fin.ins.imm] 42)) wr.heap.size 42 (blockCells (.slice A0 x.ops.length c0) x) := Row.new wr _ _
      go_upto_region 6 with fail
      generalize wr.alloc (.cells #[.slice A0 x.ops.length c0, .int .i64 x.fin.kind, .int .i64 x.fin.op, .int .i64 x.fin.a, .int .i64 x.fin.b, .int .i64 x.fin.to, .int .i64 x.fin.els, .int .i64 x.fin.ins.op, .int .i64 x.fin.ins.a, .int .i64 x.fin.ins.b, .int .i64 x.fin.ins.c, .int .i64 x.fin.ins.imm] 42) = W5 at *
      clear f0 f1 f2 f3 f4 f5 f6 f7 f8 f9 f10 f11
      have GD : kOp.C W5.drew A0 x.ops := Kd.C_mono (b5.drew) g0
      have h5 := hh3.below b5
      have q33 := h5.cell (j := 3) rfl
      have ho5 := ho.below b5
      have hlt5 := ho.lt
      have HLT := Lib.hid hlt5
      have hwB5 : W.heap.size ≤ W5.heap.size := Nat.le_trans hwB b5.size
      clear hlt5 g0
      refine wp_region_held_drew (S := (fun w' => SBlk w' wr.heap.size (.slice A0 x.ops.length c0) x)) (by kernel_rfl) (r5.block) (fun hHeld => ?_)
      refine wpAnyH_take (i := 0) (oi := _) (v := ?v6m1_1) rfl (by kernel_rfl) (by kernel_rfl) (by kernel_rfl) (fun _ _ _ h => h) (Or.inl ⟨by rfl, ?hy6m1_1⟩) hHeld ?_
      case hy6m1_1 => (intro wS hSw; (try dsimp only at hSw); obtain ⟨s0, s1, s2, s3, s4, s5, s6, s7, s8, s9, s10, s11⟩ := hSw; go_simp; try with_reducible rfl)
      try simp only [List.getElem_toArray, List.getElem_cons_succ, List.getElem_cons_zero, Act.put, List.setIfInBounds_toArray, List.set_cons_zero, List.set_cons_succ]
      refine wpAnyH_take (i := 2) (oi := _) (v := ?v6m1_2) rfl (by kernel_rfl) (by kernel_rfl) (by kernel_rfl) (fun _ _ _ h => h) (Or.inl ⟨by rfl, ?hy6m1_2⟩) hHeld ?_
      case hy6m1_2 => (intro wS hSw; (try dsimp only at hSw); obtain ⟨s0, s1, s2, s3, s4, s5, s6, s7, s8, s9, s10, s11⟩ := hSw; go_simp; try with_reducible rfl)
      try simp only [List.getElem_toArray, List.getElem_cons_succ, List.getElem_cons_zero, Act.put, List.setIfInBounds_toArray, List.set_cons_zero, List.set_cons_succ]
      refine wpAnyH_take (i := 3) (oi := _) (v := ?v6m1_3) rfl (by kernel_rfl) (by kernel_rfl) (by kernel_rfl) (fun _ _ _ h => h) (Or.inl ⟨by rfl, ?hy6m1_3⟩) hHeld ?_
      case hy6m1_3 => (intro wS hSw; (try dsimp only at hSw); obtain ⟨s0, s1, s2, s3, s4, s5, s6, s7, s8, s9, s10, s11⟩ := hSw; go_simp; try with_reducible rfl)
      try simp only [List.getElem_toArray, List.getElem_cons_succ, List.getElem_cons_zero, Act.put, List.setIfInBounds_toArray, List.set_cons_zero, List.set_cons_succ]
      refine wpAnyH_take (i := 5) (oi := _) (v := ?v6m1_4) rfl (by kernel_rfl) (by kernel_rfl) (by kernel_rfl) (fun _ _ _ h => h) (Or.inl ⟨by rfl, ?hy6m1_4⟩) hHeld ?_
      case hy6m1_4 => (intro wS hSw; (try dsimp only at hSw); obtain ⟨s0, s1, s2, s3, s4, s5, s6, s7, s8, s9, s10, s11⟩ := hSw; go_simp; try with_reducible rfl)
      try simp only [List.getElem_toArray, List.getElem_cons_succ, List.getElem_cons_zero, Act.put, List.setIfInBounds_toArray, List.set_cons_zero, List.set_cons_succ]
      refine wpAnyH_take (i := 6) (oi := _) (v := ?v6m1_5) rfl (by kernel_rfl) (by kernel_rfl) (by kernel_rfl) (fun _ _ _ h => h) (Or.inl ⟨by rfl, ?hy6m1_5⟩) hHeld ?_
      case hy6m1_5 => (intro wS hSw; (try dsimp only at hSw); obtain ⟨s0, s1, s2, s3, s4, s5, s6, s7, s8, s9, s10, s11⟩ := hSw; go_simp; try with_reducible rfl)
      try simp only [List.getElem_toArray, List.getElem_cons_succ, List.getElem_cons_zero, Act.put, List.setIfInBounds_toArray, List.set_cons_zero, List.set_cons_succ]
      refine wpAnyH_ready (rs := [1, 4]) (by kernel_rfl) (by simp) ?_
      refine (AllReadyH.cons (o := _) rfl (fun K hK => ?_) (AllReadyH.cons (o := _) rfl (fun K hK => ?_) AllReadyH.nil))
      · go_simp
        refine hK.out _ _ (hHeld) (fun hHeld6 => ?_)
        clear hK K hHeld
        try simp only [List.getElem_toArray, List.getElem_cons_succ, List.getElem_cons_zero, Act.put, List.setIfInBounds_toArray, List.set_cons_zero, List.set_cons_succ]
        refine wpAnyH_ready (rs := [4]) (by kernel_rfl) (by simp) ?_
        refine (AllReadyH.cons (o := _) rfl (fun K hK => ?_) AllReadyH.nil)
        go_simp
        refine (clone_calls _ _ _ _ GD (by omega)).mono ?_
        rintro e w4 ⟨A4, c4, F4, rfl, own4, hF4, hb4⟩
        have b4 : Below W5.heap.size W5 w4 := (Below.refl _ _).drew.trans hb4
        have hF4p : ∀ b, F4 b → W5.heap.size ≤ b := hF4
        have q4 := Sub.of_below b4 _ _ q33
        have R4 := r5.below b4
        go_wp2_with fail
        refine hK.out _ _ (R4.block) (fun hHeld7 => ?_)
        clear hK K hHeld6
        try simp only [List.getElem_toArray, List.getElem_cons_succ, List.getElem_cons_zero, Act.put, List.setIfInBounds_toArray, List.set_cons_zero, List.set_cons_succ]
        refine wpAnyH_take (i := 7) (oi := _) (v := ?v6m1_8) rfl (by kernel_rfl) (by kernel_rfl) (by kernel_rfl) (fun _ _ _ h => h) (Or.inl ⟨by rfl, ?hy6m1_8⟩) hHeld7 ?_
        case hy6m1_8 => (intro wS hSw; (try dsimp only at hSw); obtain ⟨s0, s1, s2, s3, s4, s5, s6, s7, s8, s9, s10, s11⟩ := hSw; go_simp; try with_reducible rfl)
        try simp only [List.getElem_toArray, List.getElem_cons_succ, List.getElem_cons_zero, Act.put, List.setIfInBounds_toArray, List.set_cons_zero, List.set_cons_succ]
        refine wpAnyH_ready (rs := [8]) (by kernel_rfl) (by simp) ?_
        refine (AllReadyH.cons (o := _) rfl (fun K hK => ?_) AllReadyH.nil)
        go_simp
        have b8 := below_alloc' w4 (.cells #[.slice A4 x.ops.length c4, .int .i64 x.fin.kind, .int .i64 x.fin.op, .int .i64 x.fin.a, .int .i64 x.fin.b, .int .i64 x.fin.to, .int .i64 x.fin.els, .int .i64 x.fin.ins.op, .int .i64 x.fin.ins.a, .int .i64 x.fin.ins.b, .int .i64 x.fin.ins.c, .int .i64 x.fin.ins.imm] 42)
        have q8 := Sub.of_below b8 _ _ q4
        have R8 := R4.below b8
        have hY : YF oBlock (w4.alloc (.cells #[.slice A4 x.ops.length c4, .int .i64 x.fin.kind, .int .i64 x.fin.op, .int .i64 x.fin.a, .int .i64 x.fin.b, .int .i64 x.fin.to, .int .i64 x.fin.els, .int .i64 x.fin.ins.op, .int .i64 x.fin.ins.a, .int .i64 x.fin.ins.b, .int .i64 x.fin.ins.c, .int .i64 x.fin.ins.imm] 42)) (some ⟨w4.heap.size, 0, none⟩) [x] F4 := YF.one rfl ⟨_, rfl, hwf, own4⟩
        refine hK.out _ _ (R8.block) (fun hHeld9 => ?_)
        clear hK K hHeld7
        try simp only [List.getElem_toArray, List.getElem_cons_succ, List.getElem_cons_zero, Act.put, List.setIfInBounds_toArray, List.set_cons_zero, List.set_cons_succ]
        refine wpAnyH_ready (rs := [9]) (by kernel_rfl) (by simp) ?_
        refine (AllReadyH.cons (o := _) rfl (fun K hK => ?_) AllReadyH.nil)
        refine step_append_f (k := oBlock) elBlock rfl _ _ rfl (ys := [x]) ((ho5.below b4).below b8) hY (fun b hb h9 => by (have := HLT.out b hb; have := hF4p b h9; have := b5.size; omega)) rfl rfl (by simp; omega) ?_
        intro v9 w9 hg9
        obtain ⟨⟨F9, own9, hF9⟩, hgr9⟩ := hg9
        rw [← HT.out] at own9
        have b48 := b4.trans (b8.mono b4.size)
        have t9 : Below W.heap.size W5 w9 := (b48.mono hwB5).grown hgr9 (Nat.le_trans hwB5 b48.size) (fun j hj => hF j (ho.row hj))
        have hF9' : ∀ b, F9 b → W.heap.size ≤ b := fun b hb => by (rcases hF9 b hb with h | h | h; exact hF b h; (have := hF4p b h; omega); (have := b48.size; omega))
        obtain ⟨A9, d9, rfl, l9, m9, hC9⟩ := own9.read
        rw [show (bs.take (k + 1)).length = k + 1 from by simp; omega] at own9 l9 ⊢
        have R9 := (R8.grown hgr9 (fun e => by have := HLT.out _ (ho.row e); omega))
        have h9 := h5.belowAt t9 (by omega)
        have c9 := h9.cell (j := 3) rfl
        have z9 := h9.frozen 3
        refine hK.out _ _ (R9.block) (fun hHeld10 => ?_)
        clear hK K hHeld9
        try simp only [List.getElem_toArray, List.getElem_cons_succ, List.getElem_cons_zero, Act.put, List.setIfInBounds_toArray, List.set_cons_zero, List.set_cons_succ]
        refine wpAnyH_take (i := 10) (oi := _) (v := ?v6m1_11) rfl (by kernel_rfl) (by kernel_rfl) (by kernel_rfl) (fun _ _ _ h => h) (Or.inl ⟨by rfl, ?hy6m1_11⟩) hHeld10 ?_
        case hy6m1_11 => (intro wS hSw; (try dsimp only at hSw); obtain ⟨s0, s1, s2, s3, s4, s5, s6, s7, s8, s9, s10, s11⟩ := hSw; go_simp; try with_reducible rfl)
        try simp only [List.getElem_toArray, List.getElem_cons_succ, List.getElem_cons_zero, Act.put, List.setIfInBounds_toArray, List.set_cons_zero, List.set_cons_succ]
        refine wpAnyH_ready (rs := [11]) (by kernel_rfl) (by simp) ?_
        refine (AllReadyH.cons (o := _) rfl (fun K hK => ?_) AllReadyH.nil)
        go_simp
        have g11 := grown_set w9 (w.heap.size + 1 + 1) 3 (.slice A9 (k + 1) d9)
        have h11 : Row (w9.setCell ⟨w.heap.size + 1 + 1, 3, none⟩ (.slice A9 (k + 1) d9)) (w.heap.size + 1 + 1) 33 (graphCells (.slice A9 (k + 1) d9) ⟨nm, kp, lf, bs⟩) := h9.set 3 _
        have R11 := R9.grown g11 (fun e => by injection e with e; omega)
        refine hK.out _ _ (R11.block) (fun hHeld12 => ?_)
        clear hK K hHeld10
        try simp only [List.getElem_toArray, List.getElem_cons_succ, List.getElem_cons_zero, Act.put, List.setIfInBounds_toArray, List.set_cons_zero, List.set_cons_succ]
        refine wpAnyH_done (by kernel_rfl) ?_ _
        go_wp2_with fail
        exact ⟨⟨k + 1, _, F9, by omega, by go_num, own9.grown g11 (fun b hb e => by injection e with e; have := hF9' b hb; omega), hF9', h11, grown_trans (grown_over hgr ((b5.mono hwB).trans t9)) g11⟩, by simp [intOf]; omega⟩
      · go_simp
        refine (clone_calls _ _ _ _ GD (by omega)).mono ?_
        rintro e w4 ⟨A4, c4, F4, rfl, own4, hF4, hb4⟩
        have b4 : Below W5.heap.size W5 w4 := (Below.refl _ _).drew.trans hb4
        have hF4p : ∀ b, F4 b → W5.heap.size ≤ b := hF4
        have q4 := Sub.of_below b4 _ _ q33
        have R4 := r5.below b4
        go_wp2_with fail
        refine hK.out _ _ (R4.block) (fun hHeld13 => ?_)
        clear hK K hHeld
        try simp only [List.getElem_toArray, List.getElem_cons_succ, List.getElem_cons_zero, Act.put, List.setIfInBounds_toArray, List.set_cons_zero, List.set_cons_succ]
        refine wpAnyH_take (i := 7) (oi := _) (v := ?v6m1_14) rfl (by kernel_rfl) (by kernel_rfl) (by kernel_rfl) (fun _ _ _ h => h) (Or.inl ⟨by rfl, ?hy6m1_14⟩) hHeld13 ?_
        case hy6m1_14 => (intro wS hSw; (try dsimp only at hSw); obtain ⟨s0, s1, s2, s3, s4, s5, s6, s7, s8, s9, s10, s11⟩ := hSw; go_simp; try with_reducible rfl)
        try simp only [List.getElem_toArray, List.getElem_cons_succ, List.getElem_cons_zero, Act.put, List.setIfInBounds_toArray, List.set_cons_zero, List.set_cons_succ]
        refine wpAnyH_ready (rs := [1, 8]) (by kernel_rfl) (by simp) ?_
        refine (AllReadyH.cons (o := _) rfl (fun K hK => ?_) (AllReadyH.cons (o := _) rfl (fun K hK => ?_) AllReadyH.nil))
        · go_simp
          refine hK.out _ _ (hHeld13) (fun hHeld15 => ?_)
          clear hK K hHeld13
          try simp only [List.getElem_toArray, List.getElem_cons_succ, List.getElem_cons_zero, Act.put, List.setIfInBounds_toArray, List.set_cons_zero, List.set_cons_succ]
          refine wpAnyH_ready (rs := [8]) (by kernel_rfl) (by simp) ?_
          refine (AllReadyH.cons (o := _) rfl (fun K hK => ?_) AllReadyH.nil)
          go_simp
          have b8 := below_alloc' w4 (.cells #[.slice A4 x.ops.length c4, .int .i64 x.fin.kind, .int .i64 x.fin.op, .int .i64 x.fin.a, .int .i64 x.fin.b, .int .i64 x.fin.to, .int .i64 x.fin.els, .int .i64 x.fin.ins.op, .int .i64 x.fin.ins.a, .int .i64 x.fin.ins.b, .int .i64 x.fin.ins.c, .int .i64 x.fin.ins.imm] 42)
          have q8 := Sub.of_below b8 _ _ q4
          have R8 := R4.below b8
          have hY : YF oBlock (w4.alloc (.cells #[.slice A4 x.ops.length c4, .int .i64 x.fin.kind, .int .i64 x.fin.op, .int .i64 x.fin.a, .int .i64 x.fin.b, .int .i64 x.fin.to, .int .i64 x.fin.els, .int .i64 x.fin.ins.op, .int .i64 x.fin.ins.a, .int .i64 x.fin.ins.b, .int .i64 x.fin.ins.c, .int .i64 x.fin.ins.imm] 42)) (some ⟨w4.heap.size, 0, none⟩) [x] F4 := YF.one rfl ⟨_, rfl, hwf, own4⟩
          refine hK.out _ _ (R8.block) (fun hHeld16 => ?_)
          clear hK K hHeld15
          try simp only [List.getElem_toArray, List.getElem_cons_succ, List.getElem_cons_zero, Act.put, List.setIfInBounds_toArray, List.set_cons_zero, List.set_cons_succ]
          refine wpAnyH_ready (rs := [9]) (by kernel_rfl) (by simp) ?_
          refine (AllReadyH.cons (o := _) rfl (fun K hK => ?_) AllReadyH.nil)
          refine step_append_f (k := oBlock) elBlock rfl _ _ rfl (ys := [x]) ((ho5.below b4).below b8) hY (fun b hb h9 => by (have := HLT.out b hb; have := hF4p b h9; have := b5.size; omega)) rfl rfl (by simp; omega) ?_
          intro v9 w9 hg9
          obtain ⟨⟨F9, own9, hF9⟩, hgr9⟩ := hg9
          rw [← HT.out] at own9
          have b48 := b4.trans (b8.mono b4.size)
          have t9 : Below W.heap.size W5 w9 := (b48.mono hwB5).grown hgr9 (Nat.le_trans hwB5 b48.size) (fun j hj => hF j (ho.row hj))
          have hF9' : ∀ b, F9 b → W.heap.size ≤ b := fun b hb => by (rcases hF9 b hb with h | h | h; exact hF b h; (have := hF4p b h; omega); (have := b48.size; omega))
          obtain ⟨A9, d9, rfl, l9, m9, hC9⟩ := own9.read
          rw [show (bs.take (k + 1)).length = k + 1 from by simp; omega] at own9 l9 ⊢
          have R9 := (R8.grown hgr9 (fun e => by have := HLT.out _ (ho.row e); omega))
          have h9 := h5.belowAt t9 (by omega)
          have c9 := h9.cell (j := 3) rfl
          have z9 := h9.frozen 3
          refine hK.out _ _ (R9.block) (fun hHeld17 => ?_)
          clear hK K hHeld16
          try simp only [List.getElem_toArray, List.getElem_cons_succ, List.getElem_cons_zero, Act.put, List.setIfInBounds_toArray, List.set_cons_zero, List.set_cons_succ]
          refine wpAnyH_take (i := 10) (oi := _) (v := ?v6m1_18) rfl (by kernel_rfl) (by kernel_rfl) (by kernel_rfl) (fun _ _ _ h => h) (Or.inl ⟨by rfl, ?hy6m1_18⟩) hHeld17 ?_
          case hy6m1_18 => (intro wS hSw; (try dsimp only at hSw); obtain ⟨s0, s1, s2, s3, s4, s5, s6, s7, s8, s9, s10, s11⟩ := hSw; go_simp; try with_reducible rfl)
          try simp only [List.getElem_toArray, List.getElem_cons_succ, List.getElem_cons_zero, Act.put, List.setIfInBounds_toArray, List.set_cons_zero, List.set_cons_succ]
          refine wpAnyH_ready (rs := [11]) (by kernel_rfl) (by simp) ?_
          refine (AllReadyH.cons (o := _) rfl (fun K hK => ?_) AllReadyH.nil)
          go_simp
          have g11 := grown_set w9 (w.heap.size + 1 + 1) 3 (.slice A9 (k + 1) d9)
          have h11 : Row (w9.setCell ⟨w.heap.size + 1 + 1, 3, none⟩ (.slice A9 (k + 1) d9)) (w.heap.size + 1 + 1) 33 (graphCells (.slice A9 (k + 1) d9) ⟨nm, kp, lf, bs⟩) := h9.set 3 _
          have R11 := R9.grown g11 (fun e => by injection e with e; omega)
          refine hK.out _ _ (R11.block) (fun hHeld19 => ?_)
          clear hK K hHeld17
          try simp only [List.getElem_toArray, List.getElem_cons_succ, List.getElem_cons_zero, Act.put, List.setIfInBounds_toArray, List.set_cons_zero, List.set_cons_succ]
          refine wpAnyH_done (by kernel_rfl) ?_ _
          go_wp2_with fail
          exact ⟨⟨k + 1, _, F9, by omega, by go_num, own9.grown g11 (fun b hb e => by injection e with e; have := hF9' b hb; omega), hF9', h11, grown_trans (grown_over hgr ((b5.mono hwB).trans t9)) g11⟩, by simp [intOf]; omega⟩
        · go_simp
          have b8 := below_alloc' w4 (.cells #[.slice A4 x.ops.length c4, .int .i64 x.fin.kind, .int .i64 x.fin.op, .int .i64 x.fin.a, .int .i64 x.fin.b, .int .i64 x.fin.to, .int .i64 x.fin.els, .int .i64 x.fin.ins.op, .int .i64 x.fin.ins.a, .int .i64 x.fin.ins.b, .int .i64 x.fin.ins.c, .int .i64 x.fin.ins.imm] 42)
          have q8 := Sub.of_below b8 _ _ q4
          have R8 := R4.below b8
          have hY : YF oBlock (w4.alloc (.cells #[.slice A4 x.ops.length c4, .int .i64 x.fin.kind, .int .i64 x.fin.op, .int .i64 x.fin.a, .int .i64 x.fin.b, .int .i64 x.fin.to, .int .i64 x.fin.els, .int .i64 x.fin.ins.op, .int .i64 x.fin.ins.a, .int .i64 x.fin.ins.b, .int .i64 x.fin.ins.c, .int .i64 x.fin.ins.imm] 42)) (some ⟨w4.heap.size, 0, none⟩) [x] F4 := YF.one rfl ⟨_, rfl, hwf, own4⟩
          refine hK.out _ _ (R8.block) (fun hHeld20 => ?_)
          clear hK K hHeld13
          try simp only [List.getElem_toArray, List.getElem_cons_succ, List.getElem_cons_zero, Act.put, List.setIfInBounds_toArray, List.set_cons_zero, List.set_cons_succ]
          refine wpAnyH_ready (rs := [1]) (by kernel_rfl) (by simp) ?_
          refine (AllReadyH.cons (o := _) rfl (fun K hK => ?_) AllReadyH.nil)
          go_simp
          refine hK.out _ _ (hHeld20) (fun hHeld21 => ?_)
          clear hK K hHeld20
          try simp only [List.getElem_toArray, List.getElem_cons_succ, List.getElem_cons_zero, Act.put, List.setIfInBounds_toArray, List.set_cons_zero, List.set_cons_succ]
          refine wpAnyH_ready (rs := [9]) (by kernel_rfl) (by simp) ?_
          refine (AllReadyH.cons (o := _) rfl (fun K hK => ?_) AllReadyH.nil)
          refine step_append_f (k := oBlock) elBlock rfl _ _ rfl (ys := [x]) ((ho5.below b4).below b8) hY (fun b hb h9 => by (have := HLT.out b hb; have := hF4p b h9; have := b5.size; omega)) rfl rfl (by simp; omega) ?_
          intro v9 w9 hg9
          obtain ⟨⟨F9, own9, hF9⟩, hgr9⟩ := hg9
          rw [← HT.out] at own9
          have b48 := b4.trans (b8.mono b4.size)
          have t9 : Below W.heap.size W5 w9 := (b48.mono hwB5).grown hgr9 (Nat.le_trans hwB5 b48.size) (fun j hj => hF j (ho.row hj))
          have hF9' : ∀ b, F9 b → W.heap.size ≤ b := fun b hb => by (rcases hF9 b hb with h | h | h; exact hF b h; (have := hF4p b h; omega); (have := b48.size; omega))
          obtain ⟨A9, d9, rfl, l9, m9, hC9⟩ := own9.read
          rw [show (bs.take (k + 1)).length = k + 1 from by simp; omega] at own9 l9 ⊢
          have R9 := (R8.grown hgr9 (fun e => by have := HLT.out _ (ho.row e); omega))
          have h9 := h5.belowAt t9 (by omega)
          have c9 := h9.cell (j := 3) rfl
          have z9 := h9.frozen 3
          refine hK.out _ _ (R9.block) (fun hHeld22 => ?_)
          clear hK K hHeld21
          try simp only [List.getElem_toArray, List.getElem_cons_succ, List.getElem_cons_zero, Act.put, List.setIfInBounds_toArray, List.set_cons_zero, List.set_cons_succ]
          refine wpAnyH_take (i := 10) (oi := _) (v := ?v6m1_23) rfl (by kernel_rfl) (by kernel_rfl) (by kernel_rfl) (fun _ _ _ h => h) (Or.inl ⟨by rfl, ?hy6m1_23⟩) hHeld22 ?_
          case hy6m1_23 => (intro wS hSw; (try dsimp only at hSw); obtain ⟨s0, s1, s2, s3, s4, s5, s6, s7, s8, s9, s10, s11⟩ := hSw; go_simp; try with_reducible rfl)
          try simp only [List.getElem_toArray, List.getElem_cons_succ, List.getElem_cons_zero, Act.put, List.setIfInBounds_toArray, List.set_cons_zero, List.set_cons_succ]
          refine wpAnyH_ready (rs := [11]) (by kernel_rfl) (by simp) ?_
          refine (AllReadyH.cons (o := _) rfl (fun K hK => ?_) AllReadyH.nil)
          go_simp
          have g11 := grown_set w9 (w.heap.size + 1 + 1) 3 (.slice A9 (k + 1) d9)
          have h11 : Row (w9.setCell ⟨w.heap.size + 1 + 1, 3, none⟩ (.slice A9 (k + 1) d9)) (w.heap.size + 1 + 1) 33 (graphCells (.slice A9 (k + 1) d9) ⟨nm, kp, lf, bs⟩) := h9.set 3 _
          have R11 := R9.grown g11 (fun e => by injection e with e; omega)
          refine hK.out _ _ (R11.block) (fun hHeld24 => ?_)
          clear hK K hHeld22
          try simp only [List.getElem_toArray, List.getElem_cons_succ, List.getElem_cons_zero, Act.put, List.setIfInBounds_toArray, List.set_cons_zero, List.set_cons_succ]
          refine wpAnyH_done (by kernel_rfl) ?_ _
          go_wp2_with fail
          exact ⟨⟨k + 1, _, F9, by omega, by go_num, own9.grown g11 (fun b hb e => by injection e with e; have := hF9' b hb; omega), hF9', h11, grown_trans (grown_over hgr ((b5.mono hwB).trans t9)) g11⟩, by simp [intOf]; omega⟩
    · obtain rfl : k = bs.length := by omega
      rw [List.take_length] at ho
      obtain ⟨A', c', rfl, l', m', hC'⟩ := ho.read
      have HO := Lib.hid ho
      have HF := Lib.hid hF
      have R2 := HQ2.out.grown hgr (by simp)
      have HR2 := Lib.hid R2
      obtain ⟨y0, y1, y2, y3⟩ := hh3.graph
      clear ho hF R2
      go_wp2_with (refine wpList_put_row rfl 33 _ _ rfl (w.heap.size + 1) (graphCells (.slice A' bs.length c') ⟨nm, kp, lf, bs⟩) rfl rfl HR2.out (by kernel_rfl) rfl (graphCells_one _) ?_; intro w6 r6 g6 s6)
      refine bodyPost_ret (results_cell_row rfl _ _ (w.heap.size + 1) 33 (graphCells (.slice A' bs.length c') ⟨nm, kp, lf, bs⟩).toArray (0, 0) _ rfl r6 Try.underlying33 rfl (by kernel_rfl)) rfl ?_
      have hz := HBs.out
      refine ⟨A', c', F, rfl, HO.out.grown g6 (fun b hb e => by injection e with e; have := HF.out b hb; omega), fun b hb => by have := HF.out b hb; omega, ?_⟩
      exact (hbW.grown hgr hbW.size (fun j hj => by injection hj with hj; omega)).grown g6 (Nat.le_trans hbW.size hgr.size) (fun j hj => by injection hj with hj; omega)
end Go.Proofs.Ytokkngfgppikkaa
