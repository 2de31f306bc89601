/- Layer 21 (fold): a graph folded. Printed in part by genVd.py of this repository. -/
import Derived.Test.YtokkngfgppikkabVc
import Derived.Test.YtokkngfgppikkabGd
import Derived.Deep.RegionHeld3
namespace Go.Proofs.Ytokkngfgppikkab
set_option linter.unusedVariables false
set_option linter.unusedSimpArgs false
open Go.RowKit

theorem grown_over {X w w' : World} {r : Option Nat} (h : X.grownBy w r) (k : Below X.heap.size w w') : X.grownBy w' r := ⟨k.os.trans h.os, k.tape.trans h.tape, k.output.trans h.output, Nat.le_trans h.size k.size, fun i hi hn => (k.block i hi).trans (h.block i hi hn)⟩
/-- A block's cells. -/
def SBlk (w : World) (g : Nat) (v : Value) (b : Block) : Prop := w.cell? ⟨g, 0, none⟩ = some v ∧ w.cell? ⟨g, 1, none⟩ = some (.int .i64 b.fin.kind) ∧ w.cell? ⟨g, 2, none⟩ = some (.int .i64 b.fin.op) ∧ w.cell? ⟨g, 3, none⟩ = some (.int .i64 b.fin.a) ∧ w.cell? ⟨g, 4, none⟩ = some (.int .i64 b.fin.b) ∧ w.cell? ⟨g, 5, none⟩ = some (.int .i64 b.fin.to) ∧ w.cell? ⟨g, 6, none⟩ = some (.int .i64 b.fin.els) ∧ w.cell? ⟨g, 7, none⟩ = some (.int .i64 b.fin.ins.op) ∧ w.cell? ⟨g, 8, none⟩ = some (.int .i64 b.fin.ins.a) ∧ w.cell? ⟨g, 9, none⟩ = some (.int .i64 b.fin.ins.b) ∧ w.cell? ⟨g, 10, none⟩ = some (.int .i64 b.fin.ins.c) ∧ w.cell? ⟨g, 11, none⟩ = some (.int .i64 b.fin.ins.imm)

set_option maxHeartbeats 8000000 in
set_option maxRecDepth 100000 in
theorem foldgraph_true (nm : ByteArray) (lf : Bool) (A : Option Addr) (c : Nat) (bs : List Block) (w : World) (hC : kBlock.C w A bs) (hl : bs.length ≤ 1000) (hok : BsOk bs) (h300 : ∀ b ∈ bs, b.ops.length ≤ 300) (hpos : 0 < bs.length) : Calls Try.prog 25 #[.agg #[.string nm, .bool true, .bool lf, .slice A bs.length c]] w fun e w' =>
    CopiedG nm true lf bs w e w' := by
  have hlo : bs.length ≤ 9223372036854775807 := by omega
  have H3 := Lib.hid h300
  have HOK := Lib.hid hok
  clear h300 hok
  go_enter Try.func25, Try.ntmps25
  go_upto_region 3 with fail
  obtain ⟨W, hW, hbW, hB, q1, q2, q3⟩ := three_rows w #[.string nm, .bool true, .bool lf, .slice A bs.length c] #[.string ⟨#[]⟩, .bool false, .bool false, .slice none 0 0] #[.string nm, .bool true, .bool lf, .slice none 0 0] 24 24 24
  rw [← hW]
  have HBs := Lib.hid hB
  obtain ⟨x0, x1, x2, x3⟩ : W.cell? ⟨w.heap.size, 0, none⟩ = some (.string nm) ∧ W.cell? ⟨w.heap.size, 1, none⟩ = some (.bool true) ∧ W.cell? ⟨w.heap.size, 2, none⟩ = some (.bool lf) ∧ W.cell? ⟨w.heap.size, 3, none⟩ = some (.slice A bs.length c) := ⟨q1.cell rfl, q1.cell rfl, q1.cell rfl, q1.cell rfl⟩
  clear hW hB
  go_wp2_with fail
  refine (at_calls nm true lf A c bs _ (Kd.C_mono hbW hC) hl HOK.out H3.out hpos).mono ?_
  rintro e W1 ⟨H, ins, rfl, hat, hknown, hH, hb1⟩
  have HAT := Lib.hid hat
  have HKN := Lib.hid hknown
  have hHl : H < W1.heap.size := hknown.lt H rfl
  have hB2 : w.heap.size + 1 + 1 + 1 ≤ H := by have := HBs.out; omega
  have hB : w.heap.size + 1 + 1 + 1 ≤ W1.heap.size := by omega
  have HHL := Lib.hid hHl
  have HHB := Lib.hid hB2
  have HB1 := Lib.hid hB
  replace q1 := q1.below hb1
  replace q2 := q2.below hb1
  replace q3 := q3.below hb1
  replace hbW := hbW.trans (hb1.mono hbW.size)
  clear x0 x1 x2 x3 hat hknown hH hb1 HBs hHl hB2 hB
  generalize W1 = W at *
  have HQ2 := Lib.hid q2
  have x3 := q1.cell (j := 3) rfl
  have x1 := q1.cell (j := 1) rfl
  have HQ1 := Lib.hid q1
  clear q2 q1
  go_wp2_with fail
  go_loopw [14] (fun i wr => ∃ (k : Nat) (v : Value) (F : Nat → Prop), k ≤ bs.length ∧ i = .int .i64 k ∧ OwnF oBlock 39 wr v (bs.take k) F ∧ (∀ b, F b → W.heap.size ≤ b) ∧ Row wr (w.heap.size + 1 + 1) 24 (graphCells v ⟨nm, true, lf, bs⟩) ∧ W.grownBy wr (some (w.heap.size + 1 + 1))) (fun i _ => bs.length - (intOf i).toNat)
  case atStart => exact ⟨0, _, _, Nat.zero_le _, rfl, OwnF.nil _ _ _, fun _ h => h.elim, q3, grown_refl _ _⟩
  case round =>
    obtain ⟨k, v, F, hk, rfl, ho, hF, hh3, hgr⟩ := hrel
    have hz := HB1.out
    have hwB : W.heap.size ≤ wr.heap.size := hgr.size
    clear x3 x1
    by_cases hlt : k < bs.length
    · obtain ⟨x, hx⟩ := get_some bs k hlt
      have h300 := H3.out x (List.mem_of_getElem? hx)
      have hsub : Sub w wr := fun a u hu => hgr.cell ((Sub.of_below hbW) a u hu) (by have := World.lt_of_cell hu; simp; omega)
      have q1 := HQ1.out.grown hgr (fun e => by injection e with e; omega)
      have x1 := q1.cell (j := 1) rfl
      obtain ⟨ad, A0, c0, rfl, f0, f1, f2, f3, f4, f5, f6, f7, f8, f9, f10, f11, hwf, l0, m0, g0⟩ := Block_at (Kd.C_sub hsub hC) hx
      have hl0 := len_le l0 m0
      have htk := take_snoc hx
      have hlk : (bs.take (k + 1)).length = k + 1 := by simp; omega
      have hlo2 : (bs.take k).length ≤ 1000 := by simp [List.length_take]; omega
      have HWF := Lib.hid hwf
      have HT := Lib.hid htk
      have HLK := Lib.hid hlk
      clear htk hx hlk hwf
      have b5 := below_alloc' wr (.cells #[.slice A0 x.ops.length c0, .int .i64 x.fin.kind, .int .i64 x.fin.op, .int .i64 x.fin.a, .int .i64 x.fin.b, .int .i64 x.fin.to, .int .i64 x.fin.els, .int .i64 x.fin.ins.op, .int .i64 x.fin.ins.a, .int .i64 x.fin.ins.b, .int .i64 x.fin.ins.c, .int .i64 x.fin.ins.imm] 39)
      have r5 : Row (wr.alloc (.cells #[.slice A0 x.ops.length c0, .int .i64 x.fin.kind, .int .i64 x.fin.op, .int .i64 x.fin.a, .int .i64 x.fin.b, .int .i64 x.fin.to, .int .i64 x.fin.els, .int .i64 x.fin.ins.op, .int .i64 x.fin.ins.a, .int .i64 x.fin.ins.b, .int .i64 x.fin.ins.c, .int .i64 x.fin.ins.imm] 39)) wr.heap.size 39 (blockCells (.slice A0 x.ops.length c0) x) := Row.new wr _ _
      go_upto_region 7 with fail
      generalize wr.alloc (.cells #[.slice A0 x.ops.length c0, .int .i64 x.fin.kind, .int .i64 x.fin.op, .int .i64 x.fin.a, .int .i64 x.fin.b, .int .i64 x.fin.to, .int .i64 x.fin.els, .int .i64 x.fin.ins.op, .int .i64 x.fin.ins.a, .int .i64 x.fin.ins.b, .int .i64 x.fin.ins.c, .int .i64 x.fin.ins.imm] 39) = W5 at *
      clear f0 f1 f2 f3 f4 f5 f6 f7 f8 f9 f10 f11 x1
      have x1 := (q1.below b5).cell (j := 1) rfl
      go_upto_region 8 with fail
      clear x1
      have GD : Hid (kOp.C W5.drew A0 x.ops) := Lib.hid (Kd.C_mono (b5.drew) g0)
      have G0 : Hid (kOp.C W5 A0 x.ops) := Lib.hid (Kd.C_mono b5 g0)
      have h5 := hh3.below b5
      have q33 := h5.cell (j := 3) rfl
      have ho5 := ho.below b5
      have hlt5 := ho.lt
      have HLT := Lib.hid hlt5
      have hwB5 : W.heap.size ≤ W5.heap.size := Nat.le_trans hwB b5.size
      clear hlt5 g0 q1
      refine wp_region_held_drew (S := (fun w' => SBlk w' wr.heap.size (.slice A0 x.ops.length c0) x)) (by kernel_rfl) (r5.block) (fun hHeld => ?_)
      refine wpAnyH_take (i := 0) (oi := _) (v := ?v8m1_1) rfl (by kernel_rfl) (by kernel_rfl) (by kernel_rfl) (fun _ _ _ h => h) (Or.inl ⟨by rfl, ?hy8m1_1⟩) hHeld ?_
      case hy8m1_1 => (intro wS hSw; (try dsimp only at hSw); obtain ⟨s0, s1, s2, s3, s4, s5, s6, s7, s8, s9, s10, s11⟩ := hSw; go_simp; try with_reducible rfl)
      try simp only [List.getElem_toArray, List.getElem_cons_succ, List.getElem_cons_zero, Act.put, List.setIfInBounds_toArray, List.set_cons_zero, List.set_cons_succ]
      refine wpAnyH_take (i := 3) (oi := _) (v := ?v8m1_2) rfl (by kernel_rfl) (by kernel_rfl) (by kernel_rfl) (fun _ _ _ h => h) (Or.inl ⟨by rfl, ?hy8m1_2⟩) hHeld ?_
      case hy8m1_2 => (intro wS hSw; (try dsimp only at hSw); obtain ⟨s0, s1, s2, s3, s4, s5, s6, s7, s8, s9, s10, s11⟩ := hSw; go_simp; try with_reducible rfl)
      try simp only [List.getElem_toArray, List.getElem_cons_succ, List.getElem_cons_zero, Act.put, List.setIfInBounds_toArray, List.set_cons_zero, List.set_cons_succ]
      refine wpAnyH_take (i := 4) (oi := _) (v := ?v8m1_3) rfl (by kernel_rfl) (by kernel_rfl) (by kernel_rfl) (fun _ _ _ h => h) (Or.inl ⟨by rfl, ?hy8m1_3⟩) hHeld ?_
      case hy8m1_3 => (intro wS hSw; (try dsimp only at hSw); obtain ⟨s0, s1, s2, s3, s4, s5, s6, s7, s8, s9, s10, s11⟩ := hSw; go_simp; try with_reducible rfl)
      try simp only [List.getElem_toArray, List.getElem_cons_succ, List.getElem_cons_zero, Act.put, List.setIfInBounds_toArray, List.set_cons_zero, List.set_cons_succ]
      refine wpAnyH_take (i := 6) (oi := _) (v := ?v8m1_4) rfl (by kernel_rfl) (by kernel_rfl) (by kernel_rfl) (fun _ _ _ h => h) (Or.inl ⟨by rfl, ?hy8m1_4⟩) hHeld ?_
      case hy8m1_4 => (intro wS hSw; (try dsimp only at hSw); obtain ⟨s0, s1, s2, s3, s4, s5, s6, s7, s8, s9, s10, s11⟩ := hSw; go_simp; try with_reducible rfl)
      try simp only [List.getElem_toArray, List.getElem_cons_succ, List.getElem_cons_zero, Act.put, List.setIfInBounds_toArray, List.set_cons_zero, List.set_cons_succ]
      refine wpAnyH_take (i := 7) (oi := _) (v := ?v8m1_5) rfl (by kernel_rfl) (by kernel_rfl) (by kernel_rfl) (fun _ _ _ h => h) (Or.inl ⟨by rfl, ?hy8m1_5⟩) hHeld ?_
      case hy8m1_5 => (intro wS hSw; (try dsimp only at hSw); obtain ⟨s0, s1, s2, s3, s4, s5, s6, s7, s8, s9, s10, s11⟩ := hSw; go_simp; try with_reducible rfl)
      try simp only [List.getElem_toArray, List.getElem_cons_succ, List.getElem_cons_zero, Act.put, List.setIfInBounds_toArray, List.set_cons_zero, List.set_cons_succ]
      refine wpAnyH_ready (rs := [1, 2]) (by kernel_rfl) (by simp) ?_
      refine (AllReadyH.cons (o := _) rfl (fun K hK => ?_) (AllReadyH.cons (o := _) rfl (fun K hK => ?_) AllReadyH.nil))
      · go_simp
        refine hK.out _ _ (hHeld) (fun hHeld6 => ?_)
        clear hK K hHeld
        try simp only [List.getElem_toArray, List.getElem_cons_succ, List.getElem_cons_zero, Act.put, List.setIfInBounds_toArray, List.set_cons_zero, List.set_cons_succ]
        refine wpAnyH_ready (rs := [2]) (by kernel_rfl) (by simp) ?_
        refine (AllReadyH.cons (o := _) rfl (fun K hK => ?_) AllReadyH.nil)
        go_simp
        have b6 : Below W5.heap.size W5 (W5.drew.alloc (.cells #[] 56)) := (Below.refl _ _).drew.trans (below_alloc' W5.drew _)
        have q6 := Sub.of_below b6 _ _ q33
        have q6b := Sub.of_below (below_alloc' W5 (.cells #[] 56)) _ _ q33
        have R6 := r5.below b6
        have C6 := Kd.C_mono b6 G0.out
        refine hK.out _ _ (R6.block) (fun hHeld7 => ?_)
        clear hK K hHeld6
        try simp only [List.getElem_toArray, List.getElem_cons_succ, List.getElem_cons_zero, Act.put, List.setIfInBounds_toArray, List.set_cons_zero, List.set_cons_succ]
        refine wpAnyH_ready (rs := [5]) (by kernel_rfl) (by simp) ?_
        refine (AllReadyH.cons (o := _) rfl (fun K hK => ?_) AllReadyH.nil)
        refine step_append_f (k := oOp) elOp rfl _ _ rfl (OwnF.empty oOp 56 W5.drew) (YF.flat C6) (fun _ _ h => h) rfl rfl (by simp; omega) ?_
        intro v4 w4 hg4
        obtain ⟨⟨F4, own4, hF4⟩, hgr4⟩ := hg4
        rw [List.nil_append] at own4
        have b4 : Below W5.heap.size W5 w4 := b6.grown hgr4 b6.size (fun j hj => by (injection hj with hj; subst hj; exact Nat.le_refl _))
        have hF4p : ∀ b, F4 b → W5.heap.size ≤ b := fun b hb => by (rcases hF4 b hb with h | h | h; exact Nat.le_of_eq h.symm; exact h.elim; exact Nat.le_trans b6.size h)
        obtain ⟨A4, c4, rfl, l4, m4, hC4⟩ := own4.read
        have q4 := Sub.of_below b4 _ _ q33
        have R4 := r5.below b4
        refine hK.out _ _ (R4.block) (fun hHeld8 => ?_)
        clear hK K hHeld7
        try simp only [List.getElem_toArray, List.getElem_cons_succ, List.getElem_cons_zero, Act.put, List.setIfInBounds_toArray, List.set_cons_zero, List.set_cons_succ]
        refine wpAnyH_take (i := 8) (oi := _) (v := ?v8m1_9) rfl (by kernel_rfl) (by kernel_rfl) (by kernel_rfl) (fun _ _ _ h => h) (Or.inl ⟨by rfl, ?hy8m1_9⟩) hHeld8 ?_
        case hy8m1_9 => (intro wS hSw; (try dsimp only at hSw); obtain ⟨s0, s1, s2, s3, s4, s5, s6, s7, s8, s9, s10, s11⟩ := hSw; go_simp; try with_reducible rfl)
        try simp only [List.getElem_toArray, List.getElem_cons_succ, List.getElem_cons_zero, Act.put, List.setIfInBounds_toArray, List.set_cons_zero, List.set_cons_succ]
        refine wpAnyH_ready (rs := [9]) (by kernel_rfl) (by simp) ?_
        refine (AllReadyH.cons (o := _) rfl (fun K hK => ?_) AllReadyH.nil)
        go_simp
        have b8 := below_alloc' w4 (.cells #[.slice A4 x.ops.length c4, .int .i64 x.fin.kind, .int .i64 x.fin.op, .int .i64 x.fin.a, .int .i64 x.fin.b, .int .i64 x.fin.to, .int .i64 x.fin.els, .int .i64 x.fin.ins.op, .int .i64 x.fin.ins.a, .int .i64 x.fin.ins.b, .int .i64 x.fin.ins.c, .int .i64 x.fin.ins.imm] 39)
        have q8 := Sub.of_below b8 _ _ q4
        have R8 := R4.below b8
        have hY : YF oBlock (w4.alloc (.cells #[.slice A4 x.ops.length c4, .int .i64 x.fin.kind, .int .i64 x.fin.op, .int .i64 x.fin.a, .int .i64 x.fin.b, .int .i64 x.fin.to, .int .i64 x.fin.els, .int .i64 x.fin.ins.op, .int .i64 x.fin.ins.a, .int .i64 x.fin.ins.b, .int .i64 x.fin.ins.c, .int .i64 x.fin.ins.imm] 39)) (some ⟨w4.heap.size, 0, none⟩) [x] F4 := YF.one rfl ⟨_, rfl, HWF.out, own4⟩
        refine hK.out _ _ (R8.block) (fun hHeld10 => ?_)
        clear hK K hHeld8
        try simp only [List.getElem_toArray, List.getElem_cons_succ, List.getElem_cons_zero, Act.put, List.setIfInBounds_toArray, List.set_cons_zero, List.set_cons_succ]
        refine wpAnyH_ready (rs := [10]) (by kernel_rfl) (by simp) ?_
        refine (AllReadyH.cons (o := _) rfl (fun K hK => ?_) AllReadyH.nil)
        refine step_append_f (k := oBlock) elBlock rfl _ _ rfl (ys := [x]) ((ho5.below b4).below b8) hY (fun b hb h9 => by (have := HLT.out b hb; have := hF4p b h9; have := b5.size; omega)) rfl rfl (by simp; omega) ?_
        intro v9 w9 hg9
        obtain ⟨⟨F9, own9, hF9⟩, hgr9⟩ := hg9
        rw [← HT.out] at own9
        have b48 := b4.trans (b8.mono b4.size)
        have t9 : Below W.heap.size W5 w9 := (b48.mono hwB5).grown hgr9 (Nat.le_trans hwB5 b48.size) (fun j hj => hF j (ho.row hj))
        have hF9' : ∀ b, F9 b → W.heap.size ≤ b := fun b hb => by (rcases hF9 b hb with h | h | h; exact hF b h; (have := hF4p b h; omega); (have := b48.size; omega))
        obtain ⟨A9, d9, rfl, l9, m9, hC9⟩ := own9.read
        rw [HLK.out] at own9 l9 ⊢
        have R9 := (R8.grown hgr9 (fun e => by have := HLT.out _ (ho.row e); omega))
        have h9 := h5.belowAt t9 (by omega)
        have c9 := h9.cell (j := 3) rfl
        have z9 := h9.frozen 3
        refine hK.out _ _ (R9.block) (fun hHeld11 => ?_)
        clear hK K hHeld10
        try simp only [List.getElem_toArray, List.getElem_cons_succ, List.getElem_cons_zero, Act.put, List.setIfInBounds_toArray, List.set_cons_zero, List.set_cons_succ]
        refine wpAnyH_take (i := 11) (oi := _) (v := ?v8m1_12) rfl (by kernel_rfl) (by kernel_rfl) (by kernel_rfl) (fun _ _ _ h => h) (Or.inl ⟨by rfl, ?hy8m1_12⟩) hHeld11 ?_
        case hy8m1_12 => (intro wS hSw; (try dsimp only at hSw); obtain ⟨s0, s1, s2, s3, s4, s5, s6, s7, s8, s9, s10, s11⟩ := hSw; go_simp; try with_reducible rfl)
        try simp only [List.getElem_toArray, List.getElem_cons_succ, List.getElem_cons_zero, Act.put, List.setIfInBounds_toArray, List.set_cons_zero, List.set_cons_succ]
        refine wpAnyH_ready (rs := [12]) (by kernel_rfl) (by simp) ?_
        refine (AllReadyH.cons (o := _) rfl (fun K hK => ?_) AllReadyH.nil)
        go_simp
        have g11 := grown_set w9 (w.heap.size + 1 + 1) 3 (.slice A9 (k + 1) d9)
        have h11 : Row (w9.setCell ⟨w.heap.size + 1 + 1, 3, none⟩ (.slice A9 (k + 1) d9)) (w.heap.size + 1 + 1) 24 (graphCells (.slice A9 (k + 1) d9) ⟨nm, true, lf, bs⟩) := h9.set 3 _
        have R11 := R9.grown g11 (fun e => by injection e with e; omega)
        refine hK.out _ _ (R11.block) (fun hHeld13 => ?_)
        clear hK K hHeld11
        try simp only [List.getElem_toArray, List.getElem_cons_succ, List.getElem_cons_zero, Act.put, List.setIfInBounds_toArray, List.set_cons_zero, List.set_cons_succ]
        refine wpAnyH_done (by kernel_rfl) ?_ _
        go_wp2_with fail
        exact ⟨⟨k + 1, _, F9, by omega, by go_num, own9.grown g11 (fun b hb e => by injection e with e; have := hF9' b hb; omega), hF9', h11, grown_trans (grown_over hgr ((b5.mono hwB).trans t9)) g11⟩, by simp [intOf]; omega⟩
      · go_simp
        have b6 : Below W5.heap.size W5 (W5.drew.alloc (.cells #[] 56)) := (Below.refl _ _).drew.trans (below_alloc' W5.drew _)
        have q6 := Sub.of_below b6 _ _ q33
        have q6b := Sub.of_below (below_alloc' W5 (.cells #[] 56)) _ _ q33
        have R6 := r5.below b6
        have C6 := Kd.C_mono b6 G0.out
        refine hK.out _ _ (R6.block) (fun hHeld14 => ?_)
        clear hK K hHeld
        try simp only [List.getElem_toArray, List.getElem_cons_succ, List.getElem_cons_zero, Act.put, List.setIfInBounds_toArray, List.set_cons_zero, List.set_cons_succ]
        refine wpAnyH_ready (rs := [1, 5]) (by kernel_rfl) (by simp) ?_
        refine (AllReadyH.cons (o := _) rfl (fun K hK => ?_) (AllReadyH.cons (o := _) rfl (fun K hK => ?_) AllReadyH.nil))
        · go_simp
          refine hK.out _ _ (hHeld14) (fun hHeld15 => ?_)
          clear hK K hHeld14
          try simp only [List.getElem_toArray, List.getElem_cons_succ, List.getElem_cons_zero, Act.put, List.setIfInBounds_toArray, List.set_cons_zero, List.set_cons_succ]
          refine wpAnyH_ready (rs := [5]) (by kernel_rfl) (by simp) ?_
          refine (AllReadyH.cons (o := _) rfl (fun K hK => ?_) AllReadyH.nil)
          refine step_append_f (k := oOp) elOp rfl _ _ rfl (OwnF.empty oOp 56 W5.drew) (YF.flat C6) (fun _ _ h => h) rfl rfl (by simp; omega) ?_
          intro v4 w4 hg4
          obtain ⟨⟨F4, own4, hF4⟩, hgr4⟩ := hg4
          rw [List.nil_append] at own4
          have b4 : Below W5.heap.size W5 w4 := b6.grown hgr4 b6.size (fun j hj => by (injection hj with hj; subst hj; exact Nat.le_refl _))
          have hF4p : ∀ b, F4 b → W5.heap.size ≤ b := fun b hb => by (rcases hF4 b hb with h | h | h; exact Nat.le_of_eq h.symm; exact h.elim; exact Nat.le_trans b6.size h)
          obtain ⟨A4, c4, rfl, l4, m4, hC4⟩ := own4.read
          have q4 := Sub.of_below b4 _ _ q33
          have R4 := r5.below b4
          refine hK.out _ _ (R4.block) (fun hHeld16 => ?_)
          clear hK K hHeld15
          try simp only [List.getElem_toArray, List.getElem_cons_succ, List.getElem_cons_zero, Act.put, List.setIfInBounds_toArray, List.set_cons_zero, List.set_cons_succ]
          refine wpAnyH_take (i := 8) (oi := _) (v := ?v8m1_17) rfl (by kernel_rfl) (by kernel_rfl) (by kernel_rfl) (fun _ _ _ h => h) (Or.inl ⟨by rfl, ?hy8m1_17⟩) hHeld16 ?_
          case hy8m1_17 => (intro wS hSw; (try dsimp only at hSw); obtain ⟨s0, s1, s2, s3, s4, s5, s6, s7, s8, s9, s10, s11⟩ := hSw; go_simp; try with_reducible rfl)
          try simp only [List.getElem_toArray, List.getElem_cons_succ, List.getElem_cons_zero, Act.put, List.setIfInBounds_toArray, List.set_cons_zero, List.set_cons_succ]
          refine wpAnyH_ready (rs := [9]) (by kernel_rfl) (by simp) ?_
          refine (AllReadyH.cons (o := _) rfl (fun K hK => ?_) AllReadyH.nil)
          go_simp
          have b8 := below_alloc' w4 (.cells #[.slice A4 x.ops.length c4, .int .i64 x.fin.kind, .int .i64 x.fin.op, .int .i64 x.fin.a, .int .i64 x.fin.b, .int .i64 x.fin.to, .int .i64 x.fin.els, .int .i64 x.fin.ins.op, .int .i64 x.fin.ins.a, .int .i64 x.fin.ins.b, .int .i64 x.fin.ins.c, .int .i64 x.fin.ins.imm] 39)
          have q8 := Sub.of_below b8 _ _ q4
          have R8 := R4.below b8
          have hY : YF oBlock (w4.alloc (.cells #[.slice A4 x.ops.length c4, .int .i64 x.fin.kind, .int .i64 x.fin.op, .int .i64 x.fin.a, .int .i64 x.fin.b, .int .i64 x.fin.to, .int .i64 x.fin.els, .int .i64 x.fin.ins.op, .int .i64 x.fin.ins.a, .int .i64 x.fin.ins.b, .int .i64 x.fin.ins.c, .int .i64 x.fin.ins.imm] 39)) (some ⟨w4.heap.size, 0, none⟩) [x] F4 := YF.one rfl ⟨_, rfl, HWF.out, own4⟩
          refine hK.out _ _ (R8.block) (fun hHeld18 => ?_)
          clear hK K hHeld16
          try simp only [List.getElem_toArray, List.getElem_cons_succ, List.getElem_cons_zero, Act.put, List.setIfInBounds_toArray, List.set_cons_zero, List.set_cons_succ]
          refine wpAnyH_ready (rs := [10]) (by kernel_rfl) (by simp) ?_
          refine (AllReadyH.cons (o := _) rfl (fun K hK => ?_) AllReadyH.nil)
          refine step_append_f (k := oBlock) elBlock rfl _ _ rfl (ys := [x]) ((ho5.below b4).below b8) hY (fun b hb h9 => by (have := HLT.out b hb; have := hF4p b h9; have := b5.size; omega)) rfl rfl (by simp; omega) ?_
          intro v9 w9 hg9
          obtain ⟨⟨F9, own9, hF9⟩, hgr9⟩ := hg9
          rw [← HT.out] at own9
          have b48 := b4.trans (b8.mono b4.size)
          have t9 : Below W.heap.size W5 w9 := (b48.mono hwB5).grown hgr9 (Nat.le_trans hwB5 b48.size) (fun j hj => hF j (ho.row hj))
          have hF9' : ∀ b, F9 b → W.heap.size ≤ b := fun b hb => by (rcases hF9 b hb with h | h | h; exact hF b h; (have := hF4p b h; omega); (have := b48.size; omega))
          obtain ⟨A9, d9, rfl, l9, m9, hC9⟩ := own9.read
          rw [HLK.out] at own9 l9 ⊢
          have R9 := (R8.grown hgr9 (fun e => by have := HLT.out _ (ho.row e); omega))
          have h9 := h5.belowAt t9 (by omega)
          have c9 := h9.cell (j := 3) rfl
          have z9 := h9.frozen 3
          refine hK.out _ _ (R9.block) (fun hHeld19 => ?_)
          clear hK K hHeld18
          try simp only [List.getElem_toArray, List.getElem_cons_succ, List.getElem_cons_zero, Act.put, List.setIfInBounds_toArray, List.set_cons_zero, List.set_cons_succ]
          refine wpAnyH_take (i := 11) (oi := _) (v := ?v8m1_20) rfl (by kernel_rfl) (by kernel_rfl) (by kernel_rfl) (fun _ _ _ h => h) (Or.inl ⟨by rfl, ?hy8m1_20⟩) hHeld19 ?_
          case hy8m1_20 => (intro wS hSw; (try dsimp only at hSw); obtain ⟨s0, s1, s2, s3, s4, s5, s6, s7, s8, s9, s10, s11⟩ := hSw; go_simp; try with_reducible rfl)
          try simp only [List.getElem_toArray, List.getElem_cons_succ, List.getElem_cons_zero, Act.put, List.setIfInBounds_toArray, List.set_cons_zero, List.set_cons_succ]
          refine wpAnyH_ready (rs := [12]) (by kernel_rfl) (by simp) ?_
          refine (AllReadyH.cons (o := _) rfl (fun K hK => ?_) AllReadyH.nil)
          go_simp
          have g11 := grown_set w9 (w.heap.size + 1 + 1) 3 (.slice A9 (k + 1) d9)
          have h11 : Row (w9.setCell ⟨w.heap.size + 1 + 1, 3, none⟩ (.slice A9 (k + 1) d9)) (w.heap.size + 1 + 1) 24 (graphCells (.slice A9 (k + 1) d9) ⟨nm, true, lf, bs⟩) := h9.set 3 _
          have R11 := R9.grown g11 (fun e => by injection e with e; omega)
          refine hK.out _ _ (R11.block) (fun hHeld21 => ?_)
          clear hK K hHeld19
          try simp only [List.getElem_toArray, List.getElem_cons_succ, List.getElem_cons_zero, Act.put, List.setIfInBounds_toArray, List.set_cons_zero, List.set_cons_succ]
          refine wpAnyH_done (by kernel_rfl) ?_ _
          go_wp2_with fail
          exact ⟨⟨k + 1, _, F9, by omega, by go_num, own9.grown g11 (fun b hb e => by injection e with e; have := hF9' b hb; omega), hF9', h11, grown_trans (grown_over hgr ((b5.mono hwB).trans t9)) g11⟩, by simp [intOf]; omega⟩
        · refine step_append_f (k := oOp) elOp rfl _ _ rfl (OwnF.empty oOp 56 W5.drew) (YF.flat C6) (fun _ _ h => h) rfl rfl (by simp; omega) ?_
          intro v4 w4 hg4
          obtain ⟨⟨F4, own4, hF4⟩, hgr4⟩ := hg4
          rw [List.nil_append] at own4
          have b4 : Below W5.heap.size W5 w4 := b6.grown hgr4 b6.size (fun j hj => by (injection hj with hj; subst hj; exact Nat.le_refl _))
          have hF4p : ∀ b, F4 b → W5.heap.size ≤ b := fun b hb => by (rcases hF4 b hb with h | h | h; exact Nat.le_of_eq h.symm; exact h.elim; exact Nat.le_trans b6.size h)
          obtain ⟨A4, c4, rfl, l4, m4, hC4⟩ := own4.read
          have q4 := Sub.of_below b4 _ _ q33
          have R4 := r5.below b4
          refine hK.out _ _ (R4.block) (fun hHeld22 => ?_)
          clear hK K hHeld14
          try simp only [List.getElem_toArray, List.getElem_cons_succ, List.getElem_cons_zero, Act.put, List.setIfInBounds_toArray, List.set_cons_zero, List.set_cons_succ]
          refine wpAnyH_take (i := 8) (oi := _) (v := ?v8m1_23) rfl (by kernel_rfl) (by kernel_rfl) (by kernel_rfl) (fun _ _ _ h => h) (Or.inl ⟨by rfl, ?hy8m1_23⟩) hHeld22 ?_
          case hy8m1_23 => (intro wS hSw; (try dsimp only at hSw); obtain ⟨s0, s1, s2, s3, s4, s5, s6, s7, s8, s9, s10, s11⟩ := hSw; go_simp; try with_reducible rfl)
          try simp only [List.getElem_toArray, List.getElem_cons_succ, List.getElem_cons_zero, Act.put, List.setIfInBounds_toArray, List.set_cons_zero, List.set_cons_succ]
          refine wpAnyH_ready (rs := [1, 9]) (by kernel_rfl) (by simp) ?_
          refine (AllReadyH.cons (o := _) rfl (fun K hK => ?_) (AllReadyH.cons (o := _) rfl (fun K hK => ?_) AllReadyH.nil))
          · go_simp
            refine hK.out _ _ (hHeld22) (fun hHeld24 => ?_)
            clear hK K hHeld22
            try simp only [List.getElem_toArray, List.getElem_cons_succ, List.getElem_cons_zero, Act.put, List.setIfInBounds_toArray, List.set_cons_zero, List.set_cons_succ]
            refine wpAnyH_ready (rs := [9]) (by kernel_rfl) (by simp) ?_
            refine (AllReadyH.cons (o := _) rfl (fun K hK => ?_) AllReadyH.nil)
            go_simp
            have b8 := below_alloc' w4 (.cells #[.slice A4 x.ops.length c4, .int .i64 x.fin.kind, .int .i64 x.fin.op, .int .i64 x.fin.a, .int .i64 x.fin.b, .int .i64 x.fin.to, .int .i64 x.fin.els, .int .i64 x.fin.ins.op, .int .i64 x.fin.ins.a, .int .i64 x.fin.ins.b, .int .i64 x.fin.ins.c, .int .i64 x.fin.ins.imm] 39)
            have q8 := Sub.of_below b8 _ _ q4
            have R8 := R4.below b8
            have hY : YF oBlock (w4.alloc (.cells #[.slice A4 x.ops.length c4, .int .i64 x.fin.kind, .int .i64 x.fin.op, .int .i64 x.fin.a, .int .i64 x.fin.b, .int .i64 x.fin.to, .int .i64 x.fin.els, .int .i64 x.fin.ins.op, .int .i64 x.fin.ins.a, .int .i64 x.fin.ins.b, .int .i64 x.fin.ins.c, .int .i64 x.fin.ins.imm] 39)) (some ⟨w4.heap.size, 0, none⟩) [x] F4 := YF.one rfl ⟨_, rfl, HWF.out, own4⟩
            refine hK.out _ _ (R8.block) (fun hHeld25 => ?_)
            clear hK K hHeld24
            try simp only [List.getElem_toArray, List.getElem_cons_succ, List.getElem_cons_zero, Act.put, List.setIfInBounds_toArray, List.set_cons_zero, List.set_cons_succ]
            refine wpAnyH_ready (rs := [10]) (by kernel_rfl) (by simp) ?_
            refine (AllReadyH.cons (o := _) rfl (fun K hK => ?_) AllReadyH.nil)
            refine step_append_f (k := oBlock) elBlock rfl _ _ rfl (ys := [x]) ((ho5.below b4).below b8) hY (fun b hb h9 => by (have := HLT.out b hb; have := hF4p b h9; have := b5.size; omega)) rfl rfl (by simp; omega) ?_
            intro v9 w9 hg9
            obtain ⟨⟨F9, own9, hF9⟩, hgr9⟩ := hg9
            rw [← HT.out] at own9
            have b48 := b4.trans (b8.mono b4.size)
            have t9 : Below W.heap.size W5 w9 := (b48.mono hwB5).grown hgr9 (Nat.le_trans hwB5 b48.size) (fun j hj => hF j (ho.row hj))
            have hF9' : ∀ b, F9 b → W.heap.size ≤ b := fun b hb => by (rcases hF9 b hb with h | h | h; exact hF b h; (have := hF4p b h; omega); (have := b48.size; omega))
            obtain ⟨A9, d9, rfl, l9, m9, hC9⟩ := own9.read
            rw [HLK.out] at own9 l9 ⊢
            have R9 := (R8.grown hgr9 (fun e => by have := HLT.out _ (ho.row e); omega))
            have h9 := h5.belowAt t9 (by omega)
            have c9 := h9.cell (j := 3) rfl
            have z9 := h9.frozen 3
            refine hK.out _ _ (R9.block) (fun hHeld26 => ?_)
            clear hK K hHeld25
            try simp only [List.getElem_toArray, List.getElem_cons_succ, List.getElem_cons_zero, Act.put, List.setIfInBounds_toArray, List.set_cons_zero, List.set_cons_succ]
            refine wpAnyH_take (i := 11) (oi := _) (v := ?v8m1_27) rfl (by kernel_rfl) (by kernel_rfl) (by kernel_rfl) (fun _ _ _ h => h) (Or.inl ⟨by rfl, ?hy8m1_27⟩) hHeld26 ?_
            case hy8m1_27 => (intro wS hSw; (try dsimp only at hSw); obtain ⟨s0, s1, s2, s3, s4, s5, s6, s7, s8, s9, s10, s11⟩ := hSw; go_simp; try with_reducible rfl)
            try simp only [List.getElem_toArray, List.getElem_cons_succ, List.getElem_cons_zero, Act.put, List.setIfInBounds_toArray, List.set_cons_zero, List.set_cons_succ]
            refine wpAnyH_ready (rs := [12]) (by kernel_rfl) (by simp) ?_
            refine (AllReadyH.cons (o := _) rfl (fun K hK => ?_) AllReadyH.nil)
            go_simp
            have g11 := grown_set w9 (w.heap.size + 1 + 1) 3 (.slice A9 (k + 1) d9)
            have h11 : Row (w9.setCell ⟨w.heap.size + 1 + 1, 3, none⟩ (.slice A9 (k + 1) d9)) (w.heap.size + 1 + 1) 24 (graphCells (.slice A9 (k + 1) d9) ⟨nm, true, lf, bs⟩) := h9.set 3 _
            have R11 := R9.grown g11 (fun e => by injection e with e; omega)
            refine hK.out _ _ (R11.block) (fun hHeld28 => ?_)
            clear hK K hHeld26
            try simp only [List.getElem_toArray, List.getElem_cons_succ, List.getElem_cons_zero, Act.put, List.setIfInBounds_toArray, List.set_cons_zero, List.set_cons_succ]
            refine wpAnyH_done (by kernel_rfl) ?_ _
            go_wp2_with fail
            exact ⟨⟨k + 1, _, F9, by omega, by go_num, own9.grown g11 (fun b hb e => by injection e with e; have := hF9' b hb; omega), hF9', h11, grown_trans (grown_over hgr ((b5.mono hwB).trans t9)) g11⟩, by simp [intOf]; omega⟩
          · go_simp
            have b8 := below_alloc' w4 (.cells #[.slice A4 x.ops.length c4, .int .i64 x.fin.kind, .int .i64 x.fin.op, .int .i64 x.fin.a, .int .i64 x.fin.b, .int .i64 x.fin.to, .int .i64 x.fin.els, .int .i64 x.fin.ins.op, .int .i64 x.fin.ins.a, .int .i64 x.fin.ins.b, .int .i64 x.fin.ins.c, .int .i64 x.fin.ins.imm] 39)
            have q8 := Sub.of_below b8 _ _ q4
            have R8 := R4.below b8
            have hY : YF oBlock (w4.alloc (.cells #[.slice A4 x.ops.length c4, .int .i64 x.fin.kind, .int .i64 x.fin.op, .int .i64 x.fin.a, .int .i64 x.fin.b, .int .i64 x.fin.to, .int .i64 x.fin.els, .int .i64 x.fin.ins.op, .int .i64 x.fin.ins.a, .int .i64 x.fin.ins.b, .int .i64 x.fin.ins.c, .int .i64 x.fin.ins.imm] 39)) (some ⟨w4.heap.size, 0, none⟩) [x] F4 := YF.one rfl ⟨_, rfl, HWF.out, own4⟩
            refine hK.out _ _ (R8.block) (fun hHeld29 => ?_)
            clear hK K hHeld22
            try simp only [List.getElem_toArray, List.getElem_cons_succ, List.getElem_cons_zero, Act.put, List.setIfInBounds_toArray, List.set_cons_zero, List.set_cons_succ]
            refine wpAnyH_ready (rs := [1]) (by kernel_rfl) (by simp) ?_
            refine (AllReadyH.cons (o := _) rfl (fun K hK => ?_) AllReadyH.nil)
            go_simp
            refine hK.out _ _ (hHeld29) (fun hHeld30 => ?_)
            clear hK K hHeld29
            try simp only [List.getElem_toArray, List.getElem_cons_succ, List.getElem_cons_zero, Act.put, List.setIfInBounds_toArray, List.set_cons_zero, List.set_cons_succ]
            refine wpAnyH_ready (rs := [10]) (by kernel_rfl) (by simp) ?_
            refine (AllReadyH.cons (o := _) rfl (fun K hK => ?_) AllReadyH.nil)
            refine step_append_f (k := oBlock) elBlock rfl _ _ rfl (ys := [x]) ((ho5.below b4).below b8) hY (fun b hb h9 => by (have := HLT.out b hb; have := hF4p b h9; have := b5.size; omega)) rfl rfl (by simp; omega) ?_
            intro v9 w9 hg9
            obtain ⟨⟨F9, own9, hF9⟩, hgr9⟩ := hg9
            rw [← HT.out] at own9
            have b48 := b4.trans (b8.mono b4.size)
            have t9 : Below W.heap.size W5 w9 := (b48.mono hwB5).grown hgr9 (Nat.le_trans hwB5 b48.size) (fun j hj => hF j (ho.row hj))
            have hF9' : ∀ b, F9 b → W.heap.size ≤ b := fun b hb => by (rcases hF9 b hb with h | h | h; exact hF b h; (have := hF4p b h; omega); (have := b48.size; omega))
            obtain ⟨A9, d9, rfl, l9, m9, hC9⟩ := own9.read
            rw [HLK.out] at own9 l9 ⊢
            have R9 := (R8.grown hgr9 (fun e => by have := HLT.out _ (ho.row e); omega))
            have h9 := h5.belowAt t9 (by omega)
            have c9 := h9.cell (j := 3) rfl
            have z9 := h9.frozen 3
            refine hK.out _ _ (R9.block) (fun hHeld31 => ?_)
            clear hK K hHeld30
            try simp only [List.getElem_toArray, List.getElem_cons_succ, List.getElem_cons_zero, Act.put, List.setIfInBounds_toArray, List.set_cons_zero, List.set_cons_succ]
            refine wpAnyH_take (i := 11) (oi := _) (v := ?v8m1_32) rfl (by kernel_rfl) (by kernel_rfl) (by kernel_rfl) (fun _ _ _ h => h) (Or.inl ⟨by rfl, ?hy8m1_32⟩) hHeld31 ?_
            case hy8m1_32 => (intro wS hSw; (try dsimp only at hSw); obtain ⟨s0, s1, s2, s3, s4, s5, s6, s7, s8, s9, s10, s11⟩ := hSw; go_simp; try with_reducible rfl)
            try simp only [List.getElem_toArray, List.getElem_cons_succ, List.getElem_cons_zero, Act.put, List.setIfInBounds_toArray, List.set_cons_zero, List.set_cons_succ]
            refine wpAnyH_ready (rs := [12]) (by kernel_rfl) (by simp) ?_
            refine (AllReadyH.cons (o := _) rfl (fun K hK => ?_) AllReadyH.nil)
            go_simp
            have g11 := grown_set w9 (w.heap.size + 1 + 1) 3 (.slice A9 (k + 1) d9)
            have h11 : Row (w9.setCell ⟨w.heap.size + 1 + 1, 3, none⟩ (.slice A9 (k + 1) d9)) (w.heap.size + 1 + 1) 24 (graphCells (.slice A9 (k + 1) d9) ⟨nm, true, lf, bs⟩) := h9.set 3 _
            have R11 := R9.grown g11 (fun e => by injection e with e; omega)
            refine hK.out _ _ (R11.block) (fun hHeld33 => ?_)
            clear hK K hHeld31
            try simp only [List.getElem_toArray, List.getElem_cons_succ, List.getElem_cons_zero, Act.put, List.setIfInBounds_toArray, List.set_cons_zero, List.set_cons_succ]
            refine wpAnyH_done (by kernel_rfl) ?_ _
            go_wp2_with fail
            exact ⟨⟨k + 1, _, F9, by omega, by go_num, own9.grown g11 (fun b hb e => by injection e with e; have := hF9' b hb; omega), hF9', h11, grown_trans (grown_over hgr ((b5.mono hwB).trans t9)) g11⟩, by simp [intOf]; omega⟩
    · obtain rfl : k = bs.length := by omega
      rw [List.take_length] at ho
      obtain ⟨A', c', rfl, l', m', hC'⟩ := ho.read
      have HO := Lib.hid ho
      have HF := Lib.hid hF
      have R2 := HQ2.out.grown hgr (by simp)
      have HR2 := Lib.hid R2
      obtain ⟨y0, y1, y2, y3⟩ := hh3.graph
      clear ho hF R2
      go_wp2_with (refine wpList_put_row rfl 24 _ _ rfl (w.heap.size + 1) (graphCells (.slice A' bs.length c') ⟨nm, true, lf, bs⟩) rfl rfl HR2.out (by kernel_rfl) rfl (graphCells_one _) ?_; intro w6 r6 g6 s6)
      refine bodyPost_ret (results_cell_row rfl _ _ (w.heap.size + 1) 24 (graphCells (.slice A' bs.length c') ⟨nm, true, lf, bs⟩).toArray (0, 0) _ rfl r6 Try.underlying24 rfl (by kernel_rfl)) rfl ?_
      have hz := HB1.out
      refine ⟨A', c', F, rfl, HO.out.grown g6 (fun b hb e => by injection e with e; have := HF.out b hb; omega), fun b hb => by have := HF.out b hb; omega, ?_⟩
      exact (hbW.grown hgr hbW.size (fun j hj => by injection hj with hj; omega)).grown g6 (Nat.le_trans hbW.size hgr.size) (fun j hj => by injection hj with hj; omega)

set_option maxHeartbeats 8000000 in
set_option maxRecDepth 100000 in
theorem foldgraph_false (nm : ByteArray) (lf : Bool) (A : Option Addr) (c : Nat) (bs : List Block) (w : World) (hC : kBlock.C w A bs) (hl : bs.length ≤ 1000) (hok : BsOk bs) (h300 : ∀ b ∈ bs, b.ops.length ≤ 300) (hpos : 0 < bs.length) : Calls Try.prog 25 #[.agg #[.string nm, .bool false, .bool lf, .slice A bs.length c]] w fun e w' =>
    ∃ ins, IsAt bs ins ∧ CopiedG nm false lf (foldBs bs ins) w e w' := by
  have hlo : bs.length ≤ 9223372036854775807 := by omega
  have H3 := Lib.hid h300
  have HOK := Lib.hid hok
  clear h300 hok
  go_enter Try.func25, Try.ntmps25
  go_upto_region 3 with fail
  obtain ⟨W, hW, hbW, hB, q1, q2, q3⟩ := three_rows w #[.string nm, .bool false, .bool lf, .slice A bs.length c] #[.string ⟨#[]⟩, .bool false, .bool false, .slice none 0 0] #[.string nm, .bool false, .bool lf, .slice none 0 0] 24 24 24
  rw [← hW]
  have HBs := Lib.hid hB
  obtain ⟨x0, x1, x2, x3⟩ : W.cell? ⟨w.heap.size, 0, none⟩ = some (.string nm) ∧ W.cell? ⟨w.heap.size, 1, none⟩ = some (.bool false) ∧ W.cell? ⟨w.heap.size, 2, none⟩ = some (.bool lf) ∧ W.cell? ⟨w.heap.size, 3, none⟩ = some (.slice A bs.length c) := ⟨q1.cell rfl, q1.cell rfl, q1.cell rfl, q1.cell rfl⟩
  clear hW hB
  go_wp2_with fail
  refine (at_calls nm false lf A c bs _ (Kd.C_mono hbW hC) hl HOK.out H3.out hpos).mono ?_
  rintro e W1 ⟨H, ins, rfl, hat, hknown, hH, hb1⟩
  have HAT := Lib.hid hat
  have HKN := Lib.hid hknown
  have hHl : H < W1.heap.size := hknown.lt H rfl
  have hB2 : w.heap.size + 1 + 1 + 1 ≤ H := by have := HBs.out; omega
  have hB : w.heap.size + 1 + 1 + 1 ≤ W1.heap.size := by omega
  have HHL := Lib.hid hHl
  have HHB := Lib.hid hB2
  have HB1 := Lib.hid hB
  replace q1 := q1.below hb1
  replace q2 := q2.below hb1
  replace q3 := q3.below hb1
  replace hbW := hbW.trans (hb1.mono hbW.size)
  clear x0 x1 x2 x3 hat hknown hH hb1 HBs hHl hB2 hB
  generalize W1 = W at *
  have HQ2 := Lib.hid q2
  have x3 := q1.cell (j := 3) rfl
  have x1 := q1.cell (j := 1) rfl
  have HQ1 := Lib.hid q1
  clear q2 q1
  go_wp2_with fail
  go_loopw [14] (fun i wr => ∃ (k : Nat) (v : Value) (F : Nat → Prop), k ≤ bs.length ∧ i = .int .i64 k ∧ OwnF oBlock 39 wr v ((foldBs bs ins).take k) F ∧ (∀ b, F b → W.heap.size ≤ b) ∧ Row wr (w.heap.size + 1 + 1) 24 (graphCells v ⟨nm, false, lf, bs⟩) ∧ W.grownBy wr (some (w.heap.size + 1 + 1))) (fun i _ => bs.length - (intOf i).toNat)
  case atStart => exact ⟨0, _, _, Nat.zero_le _, rfl, OwnF.nil _ _ _, fun _ h => h.elim, q3, grown_refl _ _⟩
  case round =>
    obtain ⟨k, v, F, hk, rfl, ho, hF, hh3, hgr⟩ := hrel
    have hz := HB1.out
    have hwB : W.heap.size ≤ wr.heap.size := hgr.size
    clear x3 x1
    by_cases hlt : k < bs.length
    · obtain ⟨x, hx⟩ := get_some bs k hlt
      have h300 := H3.out x (List.mem_of_getElem? hx)
      have hsub : Sub w wr := fun a u hu => hgr.cell ((Sub.of_below hbW) a u hu) (by have := World.lt_of_cell hu; simp; omega)
      have q1 := HQ1.out.grown hgr (fun e => by injection e with e; omega)
      have x1 := q1.cell (j := 1) rfl
      obtain ⟨ad, A0, c0, rfl, f0, f1, f2, f3, f4, f5, f6, f7, f8, f9, f10, f11, hwf, l0, m0, g0⟩ := Block_at (Kd.C_sub hsub hC) hx
      have hl0 := len_le l0 m0
      obtain ⟨y, hy⟩ := get_some ins k (by rw [HAT.out.inv.len]; exact hlt)
      have hgy := HAT.out.inv.good k
      rw [getK_get hy] at hgy
      have HGY := Lib.hid hgy
      have hops := HOK.out.ops (List.mem_of_getElem? hx)
      have HRT := Lib.hid hops
      have hab : x.fin.kind = 2 → (0 ≤ x.fin.a ∧ x.fin.a < 16) ∧ 0 ≤ x.fin.b ∧ x.fin.b < 16 := fun h2 => by
        obtain ⟨f, hf⟩ := HOK.out.fin (List.mem_of_getElem? hx)
        obtain ⟨-, -, -, ha, hb⟩ := Term.right_branch hf h2
        exact ⟨ha, hb⟩
      have HAB := Lib.hid hab
      have hgetp := foldBs_get hx hy
      obtain ⟨p, hp⟩ : ∃ p, p = foldB x y := ⟨_, rfl⟩
      rw [← hp] at hgetp
      have HP := Lib.hid hp
      have hwfp : p.wf := by rw [hp]; exact foldB_wf hwf
      have HWF := Lib.hid hwfp
      have htk := take_snoc hgetp
      have hll : (foldBs bs ins).length = bs.length := foldBs_len HAT.out.inv.len
      have hlk : ((foldBs bs ins).take (k + 1)).length = k + 1 := by rw [List.length_take, hll]; omega
      have hlo2 : ((foldBs bs ins).take k).length ≤ 1000 := by rw [List.length_take, hll]; omega
      have hkr := ((HKN.out.grown hgr (fun b hb e => by injection e with e; have := HHB.out; omega)).krange hy).1
      have hko : k * 33 < 33 * 1000 := by omega
      clear hgy hops hab hp hgetp hy hwfp hll hko
      have HT := Lib.hid htk
      have HLK := Lib.hid hlk
      clear htk hx hlk hwf
      have b5 := below_alloc' wr (.cells #[.slice A0 x.ops.length c0, .int .i64 x.fin.kind, .int .i64 x.fin.op, .int .i64 x.fin.a, .int .i64 x.fin.b, .int .i64 x.fin.to, .int .i64 x.fin.els, .int .i64 x.fin.ins.op, .int .i64 x.fin.ins.a, .int .i64 x.fin.ins.b, .int .i64 x.fin.ins.c, .int .i64 x.fin.ins.imm] 39)
      have r5 : Row (wr.alloc (.cells #[.slice A0 x.ops.length c0, .int .i64 x.fin.kind, .int .i64 x.fin.op, .int .i64 x.fin.a, .int .i64 x.fin.b, .int .i64 x.fin.to, .int .i64 x.fin.els, .int .i64 x.fin.ins.op, .int .i64 x.fin.ins.a, .int .i64 x.fin.ins.b, .int .i64 x.fin.ins.c, .int .i64 x.fin.ins.imm] 39)) wr.heap.size 39 (blockCells (.slice A0 x.ops.length c0) x) := Row.new wr _ _
      go_upto_region 7 with fail
      generalize wr.alloc (.cells #[.slice A0 x.ops.length c0, .int .i64 x.fin.kind, .int .i64 x.fin.op, .int .i64 x.fin.a, .int .i64 x.fin.b, .int .i64 x.fin.to, .int .i64 x.fin.els, .int .i64 x.fin.ins.op, .int .i64 x.fin.ins.a, .int .i64 x.fin.ins.b, .int .i64 x.fin.ins.c, .int .i64 x.fin.ins.imm] 39) = W5 at *
      clear f0 f1 f2 f3 f4 f5 f6 f7 f8 f9 f10 f11 x1
      have x1 := (q1.below b5).cell (j := 1) rfl
      go_upto_region 9 with fail
      clear x1
      have GD : Hid (kOp.C W5.drew A0 x.ops) := Lib.hid (Kd.C_mono (b5.drew) g0)
      have G0 : Hid (kOp.C W5 A0 x.ops) := Lib.hid (Kd.C_mono b5 g0)
      have h5 := hh3.below b5
      have q33 := h5.cell (j := 3) rfl
      have ho5 := ho.below b5
      have hlt5 := ho.lt
      have HLT := Lib.hid hlt5
      have hwB5 : W.heap.size ≤ W5.heap.size := Nat.le_trans hwB b5.size
      have kr5 := rangeAt_below hkr b5
      have hHne : ∀ b, F b → H < b := fun b hb => Nat.lt_of_lt_of_le HHL.out (hF b hb)
      have HNH := Lib.hid hHne
      have hHB := HHB.out
      clear hkr hHne
      clear hlt5 g0 q1
      refine wp_region_held_drew (S := (fun w' => SBlk w' wr.heap.size (.slice A0 x.ops.length c0) x ∧ w'.rangeAt H (k * 33) (knownCells y))) (by kernel_rfl) (⟨r5.block, kr5⟩) (fun hHeld => ?_)
      refine wpAnyH_take (i := 0) (oi := _) (v := ?v9m2_1) rfl (by kernel_rfl) (by kernel_rfl) (by kernel_rfl) (fun _ _ _ h => h) (Or.inl ⟨by rfl, ?hy9m2_1⟩) hHeld ?_
      case hy9m2_1 => (intro wS hSw; (try dsimp only at hSw); have hs0 := hSw.1; clear hSw; obtain ⟨s0, s1, s2, s3, s4, s5, s6, s7, s8, s9, s10, s11⟩ := hs0; go_simp; try with_reducible rfl)
      try simp only [List.getElem_toArray, List.getElem_cons_succ, List.getElem_cons_zero, Act.put, List.setIfInBounds_toArray, List.set_cons_zero, List.set_cons_succ]
      refine wpAnyH_take (i := 2) (oi := _) (v := ?v9m2_2) rfl (by kernel_rfl) (by kernel_rfl) (by kernel_rfl) (fun _ _ _ h => h) (Or.inl ⟨by rfl, ?hy9m2_2⟩) hHeld ?_
      case hy9m2_2 => (intro wS hSw; (try dsimp only at hSw); have hs0 := hSw.1; clear hSw; obtain ⟨s0, s1, s2, s3, s4, s5, s6, s7, s8, s9, s10, s11⟩ := hs0; go_simp; try with_reducible rfl)
      try simp only [List.getElem_toArray, List.getElem_cons_succ, List.getElem_cons_zero, Act.put, List.setIfInBounds_toArray, List.set_cons_zero, List.set_cons_succ]
      refine wpAnyH_take (i := 3) (oi := _) (v := ?v9m2_3) rfl (by kernel_rfl) (by kernel_rfl) (by kernel_rfl) (fun _ _ _ h => h) (Or.inl ⟨by rfl, ?hy9m2_3⟩) hHeld ?_
      case hy9m2_3 => (intro wS hSw; (try dsimp only at hSw); have hs0 := hSw.1; clear hSw; obtain ⟨s0, s1, s2, s3, s4, s5, s6, s7, s8, s9, s10, s11⟩ := hs0; go_simp; try with_reducible rfl)
      try simp only [List.getElem_toArray, List.getElem_cons_succ, List.getElem_cons_zero, Act.put, List.setIfInBounds_toArray, List.set_cons_zero, List.set_cons_succ]
      refine wpAnyH_take (i := 4) (oi := _) (v := ?v9m2_4) rfl (by kernel_rfl) (by kernel_rfl) (by kernel_rfl) (fun _ _ _ h => h) (Or.inl ⟨by rfl, ?hy9m2_4⟩) hHeld ?_
      case hy9m2_4 => (intro wS hSw; (try dsimp only at hSw); have hs0 := hSw.1; clear hSw; obtain ⟨s0, s1, s2, s3, s4, s5, s6, s7, s8, s9, s10, s11⟩ := hs0; go_simp; try with_reducible rfl)
      try simp only [List.getElem_toArray, List.getElem_cons_succ, List.getElem_cons_zero, Act.put, List.setIfInBounds_toArray, List.set_cons_zero, List.set_cons_succ]
      refine wpAnyH_take (i := 5) (oi := _) (v := ?v9m2_5) rfl (by kernel_rfl) (by kernel_rfl) (by kernel_rfl) (fun _ _ _ h => h) (Or.inl ⟨by rfl, ?hy9m2_5⟩) hHeld ?_
      case hy9m2_5 => (intro wS hSw; (try dsimp only at hSw); have hs0 := hSw.1; clear hSw; obtain ⟨s0, s1, s2, s3, s4, s5, s6, s7, s8, s9, s10, s11⟩ := hs0; go_simp; try with_reducible rfl)
      try simp only [List.getElem_toArray, List.getElem_cons_succ, List.getElem_cons_zero, Act.put, List.setIfInBounds_toArray, List.set_cons_zero, List.set_cons_succ]
      refine wpAnyH_take (i := 6) (oi := _) (v := .agg (knownCells y).toArray) rfl (by kernel_rfl) (by kernel_rfl) (by kernel_rfl) (fun _ _ _ h => h) (yieldsIf_load_known _ y H (k * 33) HGY.out.1 (fun wS hS => hS.2) rfl rfl rfl) hHeld ?_
      try simp only [List.getElem_toArray, List.getElem_cons_succ, List.getElem_cons_zero, Act.put, List.setIfInBounds_toArray, List.set_cons_zero, List.set_cons_succ]
      refine wpAnyH_ready (rs := [1, 7]) (by kernel_rfl) (by simp) ?_
      refine (AllReadyH.cons (o := _) rfl (fun K hK => ?_) (AllReadyH.cons (o := _) rfl (fun K hK => ?_) AllReadyH.nil))
      · go_simp
        refine hK.out _ _ (hHeld) (fun hHeld7 => ?_)
        clear hK K hHeld
        try simp only [List.getElem_toArray, List.getElem_cons_succ, List.getElem_cons_zero, Act.put, List.setIfInBounds_toArray, List.set_cons_zero, List.set_cons_succ]
        refine wpAnyH_ready (rs := [7]) (by kernel_rfl) (by simp) ?_
        refine (AllReadyH.cons (o := _) rfl (fun K hK => ?_) AllReadyH.nil)
        go_simp
        refine (foldblock_calls x y _ _ _ GD.out (by omega) HGY.out HRT.out HAB.out).mono ?_
        rintro e w4 ⟨A4, c4, F4, he, own4, hF4, hb4⟩
        rw [← HP.out] at he own4
        replace he : e = .returned (.agg #[.slice A4 p.ops.length c4, .int .i64 p.fin.kind, .int .i64 p.fin.op, .int .i64 p.fin.a, .int .i64 p.fin.b, .int .i64 p.fin.to, .int .i64 p.fin.els, .int .i64 p.fin.ins.op, .int .i64 p.fin.ins.a, .int .i64 p.fin.ins.b, .int .i64 p.fin.ins.c, .int .i64 p.fin.ins.imm]) := he
        subst he
        have b4 : Below W5.heap.size W5 w4 := (Below.refl _ _).drew.trans hb4
        have hF4p : ∀ b, F4 b → W5.heap.size ≤ b := fun b hb => (hF4 b hb).elim (fun h => h.elim) id
        have q4 := Sub.of_below b4 _ _ q33
        have R4 := r5.below b4
        have kr4 := rangeAt_below kr5 b4
        go_wp2_with fail
        refine hK.out _ _ (⟨R4.block, kr4⟩) (fun hHeld8 => ?_)
        clear hK K hHeld7
        try simp only [List.getElem_toArray, List.getElem_cons_succ, List.getElem_cons_zero, Act.put, List.setIfInBounds_toArray, List.set_cons_zero, List.set_cons_succ]
        refine wpAnyH_ready (rs := [8]) (by kernel_rfl) (by simp) ?_
        refine (AllReadyH.cons (o := _) rfl (fun K hK => ?_) AllReadyH.nil)
        go_simp
        have b8 := below_alloc' w4 (.cells #[.slice A4 p.ops.length c4, .int .i64 p.fin.kind, .int .i64 p.fin.op, .int .i64 p.fin.a, .int .i64 p.fin.b, .int .i64 p.fin.to, .int .i64 p.fin.els, .int .i64 p.fin.ins.op, .int .i64 p.fin.ins.a, .int .i64 p.fin.ins.b, .int .i64 p.fin.ins.c, .int .i64 p.fin.ins.imm] 39)
        have q8 := Sub.of_below b8 _ _ q4
        have R8 := R4.below b8
        have hY : YF oBlock (w4.alloc (.cells #[.slice A4 p.ops.length c4, .int .i64 p.fin.kind, .int .i64 p.fin.op, .int .i64 p.fin.a, .int .i64 p.fin.b, .int .i64 p.fin.to, .int .i64 p.fin.els, .int .i64 p.fin.ins.op, .int .i64 p.fin.ins.a, .int .i64 p.fin.ins.b, .int .i64 p.fin.ins.c, .int .i64 p.fin.ins.imm] 39)) (some ⟨w4.heap.size, 0, none⟩) [p] F4 := YF.one rfl ⟨_, rfl, HWF.out, own4⟩
        have kr8 := rangeAt_below kr4 b8
        refine hK.out _ _ (⟨R8.block, kr8⟩) (fun hHeld9 => ?_)
        clear hK K hHeld8
        try simp only [List.getElem_toArray, List.getElem_cons_succ, List.getElem_cons_zero, Act.put, List.setIfInBounds_toArray, List.set_cons_zero, List.set_cons_succ]
        refine wpAnyH_ready (rs := [9]) (by kernel_rfl) (by simp) ?_
        refine (AllReadyH.cons (o := _) rfl (fun K hK => ?_) AllReadyH.nil)
        refine step_append_f (k := oBlock) elBlock rfl _ _ rfl (ys := [p]) ((ho5.below b4).below b8) hY (fun b hb h9 => by (have := HLT.out b hb; have := hF4p b h9; have := b5.size; omega)) rfl rfl (by simp; omega) ?_
        intro v9 w9 hg9
        obtain ⟨⟨F9, own9, hF9⟩, hgr9⟩ := hg9
        rw [← HT.out] at own9
        have b48 := b4.trans (b8.mono b4.size)
        have t9 : Below W.heap.size W5 w9 := (b48.mono hwB5).grown hgr9 (Nat.le_trans hwB5 b48.size) (fun j hj => hF j (ho.row hj))
        have hF9' : ∀ b, F9 b → W.heap.size ≤ b := fun b hb => by (rcases hF9 b hb with h | h | h; exact hF b h; (have := hF4p b h; omega); (have := b48.size; omega))
        obtain ⟨A9, d9, rfl, l9, m9, hC9⟩ := own9.read
        rw [HLK.out] at own9 l9 ⊢
        have R9 := (R8.grown hgr9 (fun e => by have := HLT.out _ (ho.row e); omega))
        have h9 := h5.belowAt t9 (by omega)
        have c9 := h9.cell (j := 3) rfl
        have z9 := h9.frozen 3
        have kr9 := rangeAt_grown kr8 hgr9 (fun e => by have := HNH.out _ (ho.row e); omega)
        refine hK.out _ _ (⟨R9.block, kr9⟩) (fun hHeld10 => ?_)
        clear hK K hHeld9
        try simp only [List.getElem_toArray, List.getElem_cons_succ, List.getElem_cons_zero, Act.put, List.setIfInBounds_toArray, List.set_cons_zero, List.set_cons_succ]
        refine wpAnyH_take (i := 10) (oi := _) (v := ?v9m2_11) rfl (by kernel_rfl) (by kernel_rfl) (by kernel_rfl) (fun _ _ _ h => h) (Or.inl ⟨by rfl, ?hy9m2_11⟩) hHeld10 ?_
        case hy9m2_11 => (intro wS hSw; (try dsimp only at hSw); have hs0 := hSw.1; clear hSw; obtain ⟨s0, s1, s2, s3, s4, s5, s6, s7, s8, s9, s10, s11⟩ := hs0; go_simp; try with_reducible rfl)
        try simp only [List.getElem_toArray, List.getElem_cons_succ, List.getElem_cons_zero, Act.put, List.setIfInBounds_toArray, List.set_cons_zero, List.set_cons_succ]
        refine wpAnyH_ready (rs := [11]) (by kernel_rfl) (by simp) ?_
        refine (AllReadyH.cons (o := _) rfl (fun K hK => ?_) AllReadyH.nil)
        go_simp
        have g11 := grown_set w9 (w.heap.size + 1 + 1) 3 (.slice A9 (k + 1) d9)
        have h11 : Row (w9.setCell ⟨w.heap.size + 1 + 1, 3, none⟩ (.slice A9 (k + 1) d9)) (w.heap.size + 1 + 1) 24 (graphCells (.slice A9 (k + 1) d9) ⟨nm, false, lf, bs⟩) := h9.set 3 _
        have R11 := R9.grown g11 (fun e => by injection e with e; omega)
        have kr11 := rangeAt_grown kr9 g11 (fun e => by injection e with e; omega)
        refine hK.out _ _ (⟨R11.block, kr11⟩) (fun hHeld12 => ?_)
        clear hK K hHeld10
        try simp only [List.getElem_toArray, List.getElem_cons_succ, List.getElem_cons_zero, Act.put, List.setIfInBounds_toArray, List.set_cons_zero, List.set_cons_succ]
        refine wpAnyH_done (by kernel_rfl) ?_ _
        go_wp2_with fail
        exact ⟨⟨k + 1, _, F9, by omega, by go_num, own9.grown g11 (fun b hb e => by injection e with e; have := hF9' b hb; omega), hF9', h11, grown_trans (grown_over hgr ((b5.mono hwB).trans t9)) g11⟩, by simp [intOf]; omega⟩
      · go_simp
        refine (foldblock_calls x y _ _ _ GD.out (by omega) HGY.out HRT.out HAB.out).mono ?_
        rintro e w4 ⟨A4, c4, F4, he, own4, hF4, hb4⟩
        rw [← HP.out] at he own4
        replace he : e = .returned (.agg #[.slice A4 p.ops.length c4, .int .i64 p.fin.kind, .int .i64 p.fin.op, .int .i64 p.fin.a, .int .i64 p.fin.b, .int .i64 p.fin.to, .int .i64 p.fin.els, .int .i64 p.fin.ins.op, .int .i64 p.fin.ins.a, .int .i64 p.fin.ins.b, .int .i64 p.fin.ins.c, .int .i64 p.fin.ins.imm]) := he
        subst he
        have b4 : Below W5.heap.size W5 w4 := (Below.refl _ _).drew.trans hb4
        have hF4p : ∀ b, F4 b → W5.heap.size ≤ b := fun b hb => (hF4 b hb).elim (fun h => h.elim) id
        have q4 := Sub.of_below b4 _ _ q33
        have R4 := r5.below b4
        have kr4 := rangeAt_below kr5 b4
        go_wp2_with fail
        refine hK.out _ _ (⟨R4.block, kr4⟩) (fun hHeld13 => ?_)
        clear hK K hHeld
        try simp only [List.getElem_toArray, List.getElem_cons_succ, List.getElem_cons_zero, Act.put, List.setIfInBounds_toArray, List.set_cons_zero, List.set_cons_succ]
        refine wpAnyH_ready (rs := [1, 8]) (by kernel_rfl) (by simp) ?_
        refine (AllReadyH.cons (o := _) rfl (fun K hK => ?_) (AllReadyH.cons (o := _) rfl (fun K hK => ?_) AllReadyH.nil))
        · go_simp
          refine hK.out _ _ (hHeld13) (fun hHeld14 => ?_)
          clear hK K hHeld13
          try simp only [List.getElem_toArray, List.getElem_cons_succ, List.getElem_cons_zero, Act.put, List.setIfInBounds_toArray, List.set_cons_zero, List.set_cons_succ]
          refine wpAnyH_ready (rs := [8]) (by kernel_rfl) (by simp) ?_
          refine (AllReadyH.cons (o := _) rfl (fun K hK => ?_) AllReadyH.nil)
          go_simp
          have b8 := below_alloc' w4 (.cells #[.slice A4 p.ops.length c4, .int .i64 p.fin.kind, .int .i64 p.fin.op, .int .i64 p.fin.a, .int .i64 p.fin.b, .int .i64 p.fin.to, .int .i64 p.fin.els, .int .i64 p.fin.ins.op, .int .i64 p.fin.ins.a, .int .i64 p.fin.ins.b, .int .i64 p.fin.ins.c, .int .i64 p.fin.ins.imm] 39)
          have q8 := Sub.of_below b8 _ _ q4
          have R8 := R4.below b8
          have hY : YF oBlock (w4.alloc (.cells #[.slice A4 p.ops.length c4, .int .i64 p.fin.kind, .int .i64 p.fin.op, .int .i64 p.fin.a, .int .i64 p.fin.b, .int .i64 p.fin.to, .int .i64 p.fin.els, .int .i64 p.fin.ins.op, .int .i64 p.fin.ins.a, .int .i64 p.fin.ins.b, .int .i64 p.fin.ins.c, .int .i64 p.fin.ins.imm] 39)) (some ⟨w4.heap.size, 0, none⟩) [p] F4 := YF.one rfl ⟨_, rfl, HWF.out, own4⟩
          have kr8 := rangeAt_below kr4 b8
          refine hK.out _ _ (⟨R8.block, kr8⟩) (fun hHeld15 => ?_)
          clear hK K hHeld14
          try simp only [List.getElem_toArray, List.getElem_cons_succ, List.getElem_cons_zero, Act.put, List.setIfInBounds_toArray, List.set_cons_zero, List.set_cons_succ]
          refine wpAnyH_ready (rs := [9]) (by kernel_rfl) (by simp) ?_
          refine (AllReadyH.cons (o := _) rfl (fun K hK => ?_) AllReadyH.nil)
          refine step_append_f (k := oBlock) elBlock rfl _ _ rfl (ys := [p]) ((ho5.below b4).below b8) hY (fun b hb h9 => by (have := HLT.out b hb; have := hF4p b h9; have := b5.size; omega)) rfl rfl (by simp; omega) ?_
          intro v9 w9 hg9
          obtain ⟨⟨F9, own9, hF9⟩, hgr9⟩ := hg9
          rw [← HT.out] at own9
          have b48 := b4.trans (b8.mono b4.size)
          have t9 : Below W.heap.size W5 w9 := (b48.mono hwB5).grown hgr9 (Nat.le_trans hwB5 b48.size) (fun j hj => hF j (ho.row hj))
          have hF9' : ∀ b, F9 b → W.heap.size ≤ b := fun b hb => by (rcases hF9 b hb with h | h | h; exact hF b h; (have := hF4p b h; omega); (have := b48.size; omega))
          obtain ⟨A9, d9, rfl, l9, m9, hC9⟩ := own9.read
          rw [HLK.out] at own9 l9 ⊢
          have R9 := (R8.grown hgr9 (fun e => by have := HLT.out _ (ho.row e); omega))
          have h9 := h5.belowAt t9 (by omega)
          have c9 := h9.cell (j := 3) rfl
          have z9 := h9.frozen 3
          have kr9 := rangeAt_grown kr8 hgr9 (fun e => by have := HNH.out _ (ho.row e); omega)
          refine hK.out _ _ (⟨R9.block, kr9⟩) (fun hHeld16 => ?_)
          clear hK K hHeld15
          try simp only [List.getElem_toArray, List.getElem_cons_succ, List.getElem_cons_zero, Act.put, List.setIfInBounds_toArray, List.set_cons_zero, List.set_cons_succ]
          refine wpAnyH_take (i := 10) (oi := _) (v := ?v9m2_17) rfl (by kernel_rfl) (by kernel_rfl) (by kernel_rfl) (fun _ _ _ h => h) (Or.inl ⟨by rfl, ?hy9m2_17⟩) hHeld16 ?_
          case hy9m2_17 => (intro wS hSw; (try dsimp only at hSw); have hs0 := hSw.1; clear hSw; obtain ⟨s0, s1, s2, s3, s4, s5, s6, s7, s8, s9, s10, s11⟩ := hs0; go_simp; try with_reducible rfl)
          try simp only [List.getElem_toArray, List.getElem_cons_succ, List.getElem_cons_zero, Act.put, List.setIfInBounds_toArray, List.set_cons_zero, List.set_cons_succ]
          refine wpAnyH_ready (rs := [11]) (by kernel_rfl) (by simp) ?_
          refine (AllReadyH.cons (o := _) rfl (fun K hK => ?_) AllReadyH.nil)
          go_simp
          have g11 := grown_set w9 (w.heap.size + 1 + 1) 3 (.slice A9 (k + 1) d9)
          have h11 : Row (w9.setCell ⟨w.heap.size + 1 + 1, 3, none⟩ (.slice A9 (k + 1) d9)) (w.heap.size + 1 + 1) 24 (graphCells (.slice A9 (k + 1) d9) ⟨nm, false, lf, bs⟩) := h9.set 3 _
          have R11 := R9.grown g11 (fun e => by injection e with e; omega)
          have kr11 := rangeAt_grown kr9 g11 (fun e => by injection e with e; omega)
          refine hK.out _ _ (⟨R11.block, kr11⟩) (fun hHeld18 => ?_)
          clear hK K hHeld16
          try simp only [List.getElem_toArray, List.getElem_cons_succ, List.getElem_cons_zero, Act.put, List.setIfInBounds_toArray, List.set_cons_zero, List.set_cons_succ]
          refine wpAnyH_done (by kernel_rfl) ?_ _
          go_wp2_with fail
          exact ⟨⟨k + 1, _, F9, by omega, by go_num, own9.grown g11 (fun b hb e => by injection e with e; have := hF9' b hb; omega), hF9', h11, grown_trans (grown_over hgr ((b5.mono hwB).trans t9)) g11⟩, by simp [intOf]; omega⟩
        · go_simp
          have b8 := below_alloc' w4 (.cells #[.slice A4 p.ops.length c4, .int .i64 p.fin.kind, .int .i64 p.fin.op, .int .i64 p.fin.a, .int .i64 p.fin.b, .int .i64 p.fin.to, .int .i64 p.fin.els, .int .i64 p.fin.ins.op, .int .i64 p.fin.ins.a, .int .i64 p.fin.ins.b, .int .i64 p.fin.ins.c, .int .i64 p.fin.ins.imm] 39)
          have q8 := Sub.of_below b8 _ _ q4
          have R8 := R4.below b8
          have hY : YF oBlock (w4.alloc (.cells #[.slice A4 p.ops.length c4, .int .i64 p.fin.kind, .int .i64 p.fin.op, .int .i64 p.fin.a, .int .i64 p.fin.b, .int .i64 p.fin.to, .int .i64 p.fin.els, .int .i64 p.fin.ins.op, .int .i64 p.fin.ins.a, .int .i64 p.fin.ins.b, .int .i64 p.fin.ins.c, .int .i64 p.fin.ins.imm] 39)) (some ⟨w4.heap.size, 0, none⟩) [p] F4 := YF.one rfl ⟨_, rfl, HWF.out, own4⟩
          have kr8 := rangeAt_below kr4 b8
          refine hK.out _ _ (⟨R8.block, kr8⟩) (fun hHeld19 => ?_)
          clear hK K hHeld13
          try simp only [List.getElem_toArray, List.getElem_cons_succ, List.getElem_cons_zero, Act.put, List.setIfInBounds_toArray, List.set_cons_zero, List.set_cons_succ]
          refine wpAnyH_ready (rs := [1]) (by kernel_rfl) (by simp) ?_
          refine (AllReadyH.cons (o := _) rfl (fun K hK => ?_) AllReadyH.nil)
          go_simp
          refine hK.out _ _ (hHeld19) (fun hHeld20 => ?_)
          clear hK K hHeld19
          try simp only [List.getElem_toArray, List.getElem_cons_succ, List.getElem_cons_zero, Act.put, List.setIfInBounds_toArray, List.set_cons_zero, List.set_cons_succ]
          refine wpAnyH_ready (rs := [9]) (by kernel_rfl) (by simp) ?_
          refine (AllReadyH.cons (o := _) rfl (fun K hK => ?_) AllReadyH.nil)
          refine step_append_f (k := oBlock) elBlock rfl _ _ rfl (ys := [p]) ((ho5.below b4).below b8) hY (fun b hb h9 => by (have := HLT.out b hb; have := hF4p b h9; have := b5.size; omega)) rfl rfl (by simp; omega) ?_
          intro v9 w9 hg9
          obtain ⟨⟨F9, own9, hF9⟩, hgr9⟩ := hg9
          rw [← HT.out] at own9
          have b48 := b4.trans (b8.mono b4.size)
          have t9 : Below W.heap.size W5 w9 := (b48.mono hwB5).grown hgr9 (Nat.le_trans hwB5 b48.size) (fun j hj => hF j (ho.row hj))
          have hF9' : ∀ b, F9 b → W.heap.size ≤ b := fun b hb => by (rcases hF9 b hb with h | h | h; exact hF b h; (have := hF4p b h; omega); (have := b48.size; omega))
          obtain ⟨A9, d9, rfl, l9, m9, hC9⟩ := own9.read
          rw [HLK.out] at own9 l9 ⊢
          have R9 := (R8.grown hgr9 (fun e => by have := HLT.out _ (ho.row e); omega))
          have h9 := h5.belowAt t9 (by omega)
          have c9 := h9.cell (j := 3) rfl
          have z9 := h9.frozen 3
          have kr9 := rangeAt_grown kr8 hgr9 (fun e => by have := HNH.out _ (ho.row e); omega)
          refine hK.out _ _ (⟨R9.block, kr9⟩) (fun hHeld21 => ?_)
          clear hK K hHeld20
          try simp only [List.getElem_toArray, List.getElem_cons_succ, List.getElem_cons_zero, Act.put, List.setIfInBounds_toArray, List.set_cons_zero, List.set_cons_succ]
          refine wpAnyH_take (i := 10) (oi := _) (v := ?v9m2_22) rfl (by kernel_rfl) (by kernel_rfl) (by kernel_rfl) (fun _ _ _ h => h) (Or.inl ⟨by rfl, ?hy9m2_22⟩) hHeld21 ?_
          case hy9m2_22 => (intro wS hSw; (try dsimp only at hSw); have hs0 := hSw.1; clear hSw; obtain ⟨s0, s1, s2, s3, s4, s5, s6, s7, s8, s9, s10, s11⟩ := hs0; go_simp; try with_reducible rfl)
          try simp only [List.getElem_toArray, List.getElem_cons_succ, List.getElem_cons_zero, Act.put, List.setIfInBounds_toArray, List.set_cons_zero, List.set_cons_succ]
          refine wpAnyH_ready (rs := [11]) (by kernel_rfl) (by simp) ?_
          refine (AllReadyH.cons (o := _) rfl (fun K hK => ?_) AllReadyH.nil)
          go_simp
          have g11 := grown_set w9 (w.heap.size + 1 + 1) 3 (.slice A9 (k + 1) d9)
          have h11 : Row (w9.setCell ⟨w.heap.size + 1 + 1, 3, none⟩ (.slice A9 (k + 1) d9)) (w.heap.size + 1 + 1) 24 (graphCells (.slice A9 (k + 1) d9) ⟨nm, false, lf, bs⟩) := h9.set 3 _
          have R11 := R9.grown g11 (fun e => by injection e with e; omega)
          have kr11 := rangeAt_grown kr9 g11 (fun e => by injection e with e; omega)
          refine hK.out _ _ (⟨R11.block, kr11⟩) (fun hHeld23 => ?_)
          clear hK K hHeld21
          try simp only [List.getElem_toArray, List.getElem_cons_succ, List.getElem_cons_zero, Act.put, List.setIfInBounds_toArray, List.set_cons_zero, List.set_cons_succ]
          refine wpAnyH_done (by kernel_rfl) ?_ _
          go_wp2_with fail
          exact ⟨⟨k + 1, _, F9, by omega, by go_num, own9.grown g11 (fun b hb e => by injection e with e; have := hF9' b hb; omega), hF9', h11, grown_trans (grown_over hgr ((b5.mono hwB).trans t9)) g11⟩, by simp [intOf]; omega⟩
    · obtain rfl : k = bs.length := by omega
      have hll : (foldBs bs ins).length = bs.length := foldBs_len HAT.out.inv.len
      rw [← hll, List.take_length] at ho
      obtain ⟨A', c', rfl, l', m', hC'⟩ := ho.read
      have HLL := Lib.hid hll
      clear hll
      have HO := Lib.hid ho
      have HF := Lib.hid hF
      have R2 := HQ2.out.grown hgr (by simp)
      have HR2 := Lib.hid R2
      obtain ⟨y0, y1, y2, y3⟩ := hh3.graph
      clear ho hF R2
      go_wp2_with (refine wpList_put_row rfl 24 _ _ rfl (w.heap.size + 1) (graphCells (.slice A' (foldBs bs ins).length c') ⟨nm, false, lf, bs⟩) rfl rfl HR2.out (by kernel_rfl) rfl (graphCells_one _) ?_; intro w6 r6 g6 s6)
      refine bodyPost_ret (results_cell_row rfl _ _ (w.heap.size + 1) 24 (graphCells (.slice A' (foldBs bs ins).length c') ⟨nm, false, lf, bs⟩).toArray (0, 0) _ rfl r6 Try.underlying24 rfl (by kernel_rfl)) rfl ?_
      have hz := HB1.out
      refine ⟨ins, HAT.out, A', c', F, rfl, HO.out.grown g6 (fun b hb e => by injection e with e; have := HF.out b hb; omega), fun b hb => by have := HF.out b hb; omega, ?_⟩
      exact (hbW.grown hgr hbW.size (fun j hj => by injection hj with hj; omega)).grown g6 (Nat.le_trans hbW.size hgr.size) (fun j hj => by injection hj with hj; omega)
end Go.Proofs.Ytokkngfgppikkab
