/- Layer 23 (inline): all graphs made anew, block by block. -/
import Derived.Test.YtobhjjbhlnbcpaaDc
import Derived.Test.YtobhjjbhlnbcpaaCv
import Derived.Deep.RegionHeld3
namespace Go.Proofs.Ytobhjjbhlnbcpaa
set_option linter.unusedVariables false
set_option linter.unusedSimpArgs false
open Go.RowKit

/-- A function value that makes a block out of a block. -/
def BFn (K : Nat) (caps : Array Value) (w0 : World) (ok : Block → Prop) (f : Block → Block) : Prop :=
  ∀ (w : World) (b : Block) (A0 : Option Addr) (c0 : Nat) (F0 : Nat → Prop), Below w0.heap.size w0 w → ok b → OwnF oOp 45 w (.slice A0 b.ops.length c0) b.ops F0 →
    Calls Try.prog K (#[.agg #[.slice A0 b.ops.length c0, .int .i64 b.fin.kind, .int .i64 b.fin.op, .int .i64 b.fin.a, .int .i64 b.fin.b, .int .i64 b.fin.to, .int .i64 b.fin.els, .int .i64 b.fin.ins.op, .int .i64 b.fin.ins.a, .int .i64 b.fin.ins.b, .int .i64 b.fin.ins.c, .int .i64 b.fin.ins.imm]] ++ caps) w (MadeB w F0 (f b))
def GOk (ok : Block → Prop) (gs : List Graph) : Prop := gs.length ≤ 61 ∧ ∀ g ∈ gs, g.blocks.length ≤ 200 ∧ ∀ b ∈ g.blocks, ok b ∧ b.ops.length ≤ 300

set_option maxHeartbeats 4000000 in
set_option maxRecDepth 100000 in
theorem each_calls (K : Nat) (caps : Array Value) (ok : Block → Prop) (f : Block → Block) (hK : ∀ args W, (callFunc K args).run Try.prog W = .ok (.enter K args) W) (hwf : ∀ b, ok b → b.wf → (f b).wf) (A : Option Addr) (c : Nat) (gs : List Graph) (w : World) (hB : BFn K caps w ok f) (hC : kGraph.C w A gs) (hok : GOk ok gs) :
    Calls Try.prog 38 #[.slice A gs.length c, .func (.func K) #[] caps] w fun e w' => OwnGs w e w' (gs.map (eachG f)) := by
  have hlen := hok.1
  have HB := Lib.hid hB
  have HOK := Lib.hid hok
  have HWF := Lib.hid hwf
  clear hB hok hwf
  go_enter Try.func38, Try.ntmps38
  go_wp2_with fail
  go_loopw [5, 14] (fun v i wr => ∃ (k : Nat) (F : Nat → Prop), k ≤ gs.length ∧ i = .int .i64 k ∧ OwnF oGraph 28 wr v ((gs.take k).map (eachG f)) F ∧ (∀ b, F b → w.heap.size ≤ b) ∧ Below w.heap.size w wr) (fun _ i _ => gs.length - (intOf i).toNat)
  case atStart => exact ⟨0, _, Nat.zero_le _, rfl, OwnF.nil _ _ _, fun _ h => h.elim, Below.refl _ _⟩
  case round =>
    obtain ⟨k, F, hk, rfl, ho, hF, hbr⟩ := hrel
    by_cases hlt : k < gs.length
    · obtain ⟨g, hg⟩ := get_some gs k hlt
      have htk := take_snoc hg
      obtain ⟨hg200, hgb⟩ := HOK.out.2 g (List.mem_of_getElem? hg)
      obtain ⟨ad, A0, c0, rfl, f0, f1, f2, f3, hwfg, l0, m0, g0⟩ := Graph_at (Kd.C_mono hbr hC) hg
      have hl0 := len_le l0 m0
      have HT := Lib.hid htk
      have HG := Lib.hid hg
      have HGB := Lib.hid hgb
      clear hg htk hgb
      obtain ⟨W, hW, hbW, hB, q1, q2⟩ := two_rows wr (#[.string g.name, .bool g.keep, .bool g.leaf, .slice A0 g.blocks.length c0]) (#[.string g.name, .bool g.keep, .bool g.leaf, .slice A0 g.blocks.length c0]) 28 28
      go_upto_region 6 with fail
      rw [← hW]
      replace q1 : Row W wr.heap.size 28 (graphCells (.slice A0 g.blocks.length c0) g) := q1
      replace q2 : Row W (wr.heap.size + 1) 28 (graphCells (.slice A0 g.blocks.length c0) g) := q2
      have x3 := q1.cell (j := 3) rfl
      have y3 := q2.cell (j := 3) rfl
      have z3 := q2.frozen 3
      have s2 : Row (W.setCell ⟨wr.heap.size + 1, 3, none⟩ (.slice none 0 0)) (wr.heap.size + 1) 28 (graphCells (.slice none 0 0) g) := q2.set 3 _
      have g2 := grown_set W (wr.heap.size + 1) 3 (.slice none 0 0)
      have s1 := q1.grown g2 (by simp)
      have e2 : (W.setCell ⟨wr.heap.size + 1, 3, none⟩ (.slice none 0 0)).heap.size = wr.heap.size + 1 + 1 := by simp [hB]
      clear f0 f1 f2 f3 hW q1 q2 x3
      go_upto_region 7 with fail
      have hb2 : Below wr.heap.size wr (W.setCell ⟨wr.heap.size + 1, 3, none⟩ (.slice none 0 0)) := hbW.grown g2 hbW.size (fun j hj => by injection hj with hj; omega)
      generalize W.setCell ⟨wr.heap.size + 1, 3, none⟩ (.slice none 0 0) = X at *
      clear y3 z3 g2 hbW hB
      clear W
      have S1 := Lib.hid s1
      have S2 := Lib.hid s2
      have E2 := Lib.hid e2
      have x3 := s1.cell (j := 3) rfl
      obtain ⟨wo, hwo⟩ : ∃ wo : World, wo = wr := ⟨_, rfl⟩
      subst hwo
      clear s1 s2 e2
      go_wp2_with fail
      go_loopw [23] (fun i wr => ∃ (j : Nat) (v : Value) (F2 : Nat → Prop), j ≤ g.blocks.length ∧ i = .int .i64 j ∧ Row wr (wo.heap.size + 1) 28 (graphCells v g) ∧ OwnF oBlock 43 wr v ((g.blocks.take j).map (eachB f g)) F2 ∧ (∀ b, F2 b → wo.heap.size + 1 + 1 ≤ b) ∧ X.grownBy wr (some (wo.heap.size + 1))) (fun i _ => g.blocks.length - (intOf i).toNat)
      case atStart => exact ⟨0, _, _, Nat.zero_le _, rfl, S2.out, OwnF.nil _ _ _, fun _ h => h.elim, grown_none _ _⟩
      case round =>
        obtain ⟨j, v, F2, hj, rfl, r2, ho2, hF2, hg2⟩ := hrel
        have hz := E2.out
        by_cases hltj : j < g.blocks.length
        · obtain ⟨b, hb⟩ := get_some g.blocks j hltj
          have htb := take_snoc hb
          obtain ⟨hbok, hb300⟩ := HGB.out b (List.mem_of_getElem? hb)
          have hgr : kBlock.C wr A0 g.blocks := Kd.C_sub (fun a u hu => hg2.cell ((Sub.of_below hb2) a u hu) (by have := World.lt_of_cell hu; simp; omega)) g0
          obtain ⟨ab, Ab, cb, rfl, i0, i1, i2, i3, i4, i5, i6, i7, i8, i9, i10, i11, hwb, lb, mb, gb⟩ := Block_at hgr hb
          have hlb := len_le lb mb
          have HTB := Lib.hid htb
          have R2 := Lib.hid r2
          clear hb htb r2 hz hgr
          have b10 := below_alloc' wr (.cells (#[.slice Ab b.ops.length cb, .int .i64 b.fin.kind, .int .i64 b.fin.op, .int .i64 b.fin.a, .int .i64 b.fin.b, .int .i64 b.fin.to, .int .i64 b.fin.els, .int .i64 b.fin.ins.op, .int .i64 b.fin.ins.a, .int .i64 b.fin.ins.b, .int .i64 b.fin.ins.c, .int .i64 b.fin.ins.imm]) 43)
          have r10 : Row (wr.alloc (.cells (#[.slice Ab b.ops.length cb, .int .i64 b.fin.kind, .int .i64 b.fin.op, .int .i64 b.fin.a, .int .i64 b.fin.b, .int .i64 b.fin.to, .int .i64 b.fin.els, .int .i64 b.fin.ins.op, .int .i64 b.fin.ins.a, .int .i64 b.fin.ins.b, .int .i64 b.fin.ins.c, .int .i64 b.fin.ins.imm]) 43)) wr.heap.size 43 (blockCells (.slice Ab b.ops.length cb) b) := Row.new wr _ _
          go_upto_region 10 with fail
          generalize wr.alloc (.cells (#[.slice Ab b.ops.length cb, .int .i64 b.fin.kind, .int .i64 b.fin.op, .int .i64 b.fin.a, .int .i64 b.fin.b, .int .i64 b.fin.to, .int .i64 b.fin.els, .int .i64 b.fin.ins.op, .int .i64 b.fin.ins.a, .int .i64 b.fin.ins.b, .int .i64 b.fin.ins.c, .int .i64 b.fin.ins.imm]) 43) = W1 at *
          clear i0 i1 i2 i3 i4 i5 i6 i7 i8 i9 i10 i11
          have hgb1 := Kd.C_mono (b10.drew) gb
          have r10d : Row W1.drew wr.heap.size 43 (blockCells (.slice Ab b.ops.length cb) b) := r10
          go_cut [11] (fun v wx => ∃ A9 c9 F9 g11, v = .pointer (some ⟨g11, 0, none⟩) ∧ Row wx g11 43 (blockCells (.slice A9 b.ops.length c9) b) ∧ OwnF oOp 45 wx (.slice A9 b.ops.length c9) b.ops F9 ∧ (∀ x, F9 x → W1.heap.size ≤ x) ∧ W1.heap.size ≤ g11 ∧ ¬ F9 g11 ∧ Below W1.heap.size W1 wx)
          case first =>
            -- REGION
            refine wp_region_held_drew (S := (fun w' => w'.cell? ⟨wr.heap.size, 0, none⟩ = some (.slice Ab b.ops.length cb) ∧ w'.cell? ⟨wr.heap.size, 1, none⟩ = some (.int .i64 b.fin.kind) ∧ w'.cell? ⟨wr.heap.size, 2, none⟩ = some (.int .i64 b.fin.op) ∧ w'.cell? ⟨wr.heap.size, 3, none⟩ = some (.int .i64 b.fin.a) ∧ w'.cell? ⟨wr.heap.size, 4, none⟩ = some (.int .i64 b.fin.b) ∧ w'.cell? ⟨wr.heap.size, 5, none⟩ = some (.int .i64 b.fin.to) ∧ w'.cell? ⟨wr.heap.size, 6, none⟩ = some (.int .i64 b.fin.els) ∧ w'.cell? ⟨wr.heap.size, 7, none⟩ = some (.int .i64 b.fin.ins.op) ∧ w'.cell? ⟨wr.heap.size, 8, none⟩ = some (.int .i64 b.fin.ins.a) ∧ w'.cell? ⟨wr.heap.size, 9, none⟩ = some (.int .i64 b.fin.ins.b) ∧ w'.cell? ⟨wr.heap.size, 10, none⟩ = some (.int .i64 b.fin.ins.c) ∧ w'.cell? ⟨wr.heap.size, 11, none⟩ = some (.int .i64 b.fin.ins.imm))) (by kernel_rfl) (r10.block) (fun hHeld => ?_)
            refine wpAnyH_take (i := 0) (oi := _) (v := ?v10_1) rfl (by kernel_rfl) (by kernel_rfl) (by kernel_rfl) (fun _ _ _ h => h) (Or.inl ⟨by rfl, ?hy10_1⟩) hHeld ?_
            case hy10_1 => (intro wS hSw; (try dsimp only at hSw); obtain ⟨s0, s1, s2, s3, s4, s5, s6, s7, s8, s9, s10, s11⟩ := hSw; go_simp; try with_reducible rfl)
            try simp only [List.getElem_toArray, List.getElem_cons_succ, List.getElem_cons_zero, Act.put, List.setIfInBounds_toArray, List.set_cons_zero, List.set_cons_succ]
            refine wpAnyH_take (i := 1) (oi := _) (v := ?v10_2) rfl (by kernel_rfl) (by kernel_rfl) (by kernel_rfl) (fun _ _ _ h => h) (Or.inl ⟨by rfl, ?hy10_2⟩) hHeld ?_
            case hy10_2 => (intro wS hSw; (try dsimp only at hSw); obtain ⟨s0, s1, s2, s3, s4, s5, s6, s7, s8, s9, s10, s11⟩ := hSw; go_simp; try with_reducible rfl)
            try simp only [List.getElem_toArray, List.getElem_cons_succ, List.getElem_cons_zero, Act.put, List.setIfInBounds_toArray, List.set_cons_zero, List.set_cons_succ]
            refine wpAnyH_take (i := 3) (oi := _) (v := ?v10_3) rfl (by kernel_rfl) (by kernel_rfl) (by kernel_rfl) (fun _ _ _ h => h) (Or.inl ⟨by rfl, ?hy10_3⟩) hHeld ?_
            case hy10_3 => (intro wS hSw; (try dsimp only at hSw); obtain ⟨s0, s1, s2, s3, s4, s5, s6, s7, s8, s9, s10, s11⟩ := hSw; go_simp; try with_reducible rfl)
            try simp only [List.getElem_toArray, List.getElem_cons_succ, List.getElem_cons_zero, Act.put, List.setIfInBounds_toArray, List.set_cons_zero, List.set_cons_succ]
            refine wpAnyH_take (i := 4) (oi := _) (v := ?v10_4) rfl (by kernel_rfl) (by kernel_rfl) (by kernel_rfl) (fun _ _ _ h => h) (Or.inl ⟨by rfl, ?hy10_4⟩) hHeld ?_
            case hy10_4 => (intro wS hSw; (try dsimp only at hSw); obtain ⟨s0, s1, s2, s3, s4, s5, s6, s7, s8, s9, s10, s11⟩ := hSw; go_simp; try with_reducible rfl)
            try simp only [List.getElem_toArray, List.getElem_cons_succ, List.getElem_cons_zero, Act.put, List.setIfInBounds_toArray, List.set_cons_zero, List.set_cons_succ]
            refine wpAnyH_ready (rs := [2, 6]) (by kernel_rfl) (by simp) ?_
            refine (AllReadyH.cons (o := _) rfl (fun K hK => ?_) (AllReadyH.cons (o := _) rfl (fun K hK => ?_) AllReadyH.nil))
            · go_simp
              refine (clone_calls _ _ _ _ (by first | exact hgz | exact hgb1) (by omega)).mono ?_
              rintro e w1 ⟨A9, c9, F9, rfl, own9, hF9, hb1⟩
              have hc1 : Row w1 wr.heap.size 43 (blockCells (.slice Ab b.ops.length cb) b) := by first | exact rz.below hb1 | exact r10d.below hb1
              go_wp2_with fail
              refine hK.out _ _ (hc1.block) (fun hHeld5 => ?_)
              clear hK K hHeld
              try simp only [List.getElem_toArray, List.getElem_cons_succ, List.getElem_cons_zero, Act.put, List.setIfInBounds_toArray, List.set_cons_zero, List.set_cons_succ]
              refine wpAnyH_take (i := 5) (oi := _) (v := ?v10_6) rfl (by kernel_rfl) (by kernel_rfl) (by kernel_rfl) (fun _ _ _ h => h) (Or.inl ⟨by rfl, ?hy10_6⟩) hHeld5 ?_
              case hy10_6 => (intro wS hSw; (try dsimp only at hSw); obtain ⟨s0, s1, s2, s3, s4, s5, s6, s7, s8, s9, s10, s11⟩ := hSw; go_simp; try with_reducible rfl)
              try simp only [List.getElem_toArray, List.getElem_cons_succ, List.getElem_cons_zero, Act.put, List.setIfInBounds_toArray, List.set_cons_zero, List.set_cons_succ]
              refine wpAnyH_ready (rs := [6]) (by kernel_rfl) (by simp) ?_
              refine (AllReadyH.cons (o := _) rfl (fun K hK => ?_) AllReadyH.nil)
              go_simp
              refine hK.out _ _ (((hc1.below (below_alloc' w1 (.cells #[.slice none 0 0, .int .i64 0, .int .i64 0, .int .i64 0, .int .i64 0, .int .i64 0, .int .i64 0, .int .i64 0, .int .i64 0, .int .i64 0, .int .i64 0, .int .i64 0] 43))).block)) (fun hHeld7 => ?_)
              clear hK K hHeld5
              try simp only [List.getElem_toArray, List.getElem_cons_succ, List.getElem_cons_zero, Act.put, List.setIfInBounds_toArray, List.set_cons_zero, List.set_cons_succ]
              refine wpAnyH_ready (rs := [7]) (by kernel_rfl) (by simp) ?_
              refine (AllReadyH.cons (o := _) rfl (fun K hK => ?_) AllReadyH.nil)
              refine step_put_row rfl 43 _ _ rfl w1.heap.size (blockCells (.slice A9 b.ops.length c9) b) rfl rfl ((Row.new w1 43 _ : Row (w1.alloc (.cells #[.slice none 0 0, .int .i64 0, .int .i64 0, .int .i64 0, .int .i64 0, .int .i64 0, .int .i64 0, .int .i64 0, .int .i64 0, .int .i64 0, .int .i64 0, .int .i64 0] 43)) w1.heap.size 43 (blockCells (.slice none 0 0) Block.zero))) (by kernel_rfl) rfl (blockCells_one _) ?_
              intro w6 r6 g6 s6
              refine hK.out _ _ (((((hc1.below (below_alloc' w1 (.cells #[.slice none 0 0, .int .i64 0, .int .i64 0, .int .i64 0, .int .i64 0, .int .i64 0, .int .i64 0, .int .i64 0, .int .i64 0, .int .i64 0, .int .i64 0, .int .i64 0] 43)))).grown g6 (by have := hc1.lt; simp; omega)).block)) (fun hHeld8 => ?_)
              clear hK K hHeld7
              try simp only [List.getElem_toArray, List.getElem_cons_succ, List.getElem_cons_zero, Act.put, List.setIfInBounds_toArray, List.set_cons_zero, List.set_cons_succ]
              refine wpAnyH_done (by kernel_rfl) ?_ _
              go_wp2_with fail
              go_meet
              have bz := below_alloc' w1 (.cells #[.slice none 0 0, .int .i64 0, .int .i64 0, .int .i64 0, .int .i64 0, .int .i64 0, .int .i64 0, .int .i64 0, .int .i64 0, .int .i64 0, .int .i64 0, .int .i64 0] 43)
              exact ⟨A9, c9, F9, w1.heap.size, rfl, r6, (own9.below bz).grown g6 (fun x hx e => by injection e with e; have := own9.lt x hx; omega), hF9, hb1.size, fun hx => by have := own9.lt _ hx; omega, ((Below.refl W1.heap.size W1).drew.trans (hb1.trans (bz.mono hb1.size))).grown g6 (Nat.le_trans hb1.size bz.size) (fun j hj => by injection hj with hj; subst hj; exact hb1.size)⟩
            · go_simp
              have bz : Below W1.drew.heap.size W1.drew (W1.drew.alloc (.cells #[.slice none 0 0, .int .i64 0, .int .i64 0, .int .i64 0, .int .i64 0, .int .i64 0, .int .i64 0, .int .i64 0, .int .i64 0, .int .i64 0, .int .i64 0, .int .i64 0] 43)) := below_alloc' W1.drew _
              have rz := r10d.below bz
              have hgz := Kd.C_mono bz hgb1
              have rn : Row (W1.drew.alloc (.cells #[.slice none 0 0, .int .i64 0, .int .i64 0, .int .i64 0, .int .i64 0, .int .i64 0, .int .i64 0, .int .i64 0, .int .i64 0, .int .i64 0, .int .i64 0, .int .i64 0] 43)) W1.drew.heap.size 43 (blockCells (.slice none 0 0) Block.zero) := Row.new W1.drew _ _
              refine hK.out _ _ (rz.block) (fun hHeld9 => ?_)
              clear hK K hHeld
              try simp only [List.getElem_toArray, List.getElem_cons_succ, List.getElem_cons_zero, Act.put, List.setIfInBounds_toArray, List.set_cons_zero, List.set_cons_succ]
              refine wpAnyH_ready (rs := [2]) (by kernel_rfl) (by simp) ?_
              refine (AllReadyH.cons (o := _) rfl (fun K hK => ?_) AllReadyH.nil)
              go_simp
              refine (clone_calls _ _ _ _ (by first | exact hgz | exact hgb1) (by omega)).mono ?_
              rintro e w1 ⟨A9, c9, F9, rfl, own9, hF9, hb1⟩
              have hc1 : Row w1 wr.heap.size 43 (blockCells (.slice Ab b.ops.length cb) b) := by first | exact rz.below hb1 | exact r10d.below hb1
              go_wp2_with fail
              refine hK.out _ _ (hc1.block) (fun hHeld10 => ?_)
              clear hK K hHeld9
              try simp only [List.getElem_toArray, List.getElem_cons_succ, List.getElem_cons_zero, Act.put, List.setIfInBounds_toArray, List.set_cons_zero, List.set_cons_succ]
              refine wpAnyH_take (i := 5) (oi := _) (v := ?v10_11) rfl (by kernel_rfl) (by kernel_rfl) (by kernel_rfl) (fun _ _ _ h => h) (Or.inl ⟨by rfl, ?hy10_11⟩) hHeld10 ?_
              case hy10_11 => (intro wS hSw; (try dsimp only at hSw); obtain ⟨s0, s1, s2, s3, s4, s5, s6, s7, s8, s9, s10, s11⟩ := hSw; go_simp; try with_reducible rfl)
              try simp only [List.getElem_toArray, List.getElem_cons_succ, List.getElem_cons_zero, Act.put, List.setIfInBounds_toArray, List.set_cons_zero, List.set_cons_succ]
              refine wpAnyH_ready (rs := [7]) (by kernel_rfl) (by simp) ?_
              refine (AllReadyH.cons (o := _) rfl (fun K hK => ?_) AllReadyH.nil)
              refine step_put_row rfl 43 _ _ rfl W1.drew.heap.size (blockCells (.slice A9 b.ops.length c9) b) rfl rfl (rn.below hb1) (by kernel_rfl) rfl (blockCells_one _) ?_
              intro w6 r6 g6 s6
              refine hK.out _ _ (((hc1.grown g6 (by have := r10d.lt; simp at this ⊢; omega)).block)) (fun hHeld12 => ?_)
              clear hK K hHeld10
              try simp only [List.getElem_toArray, List.getElem_cons_succ, List.getElem_cons_zero, Act.put, List.setIfInBounds_toArray, List.set_cons_zero, List.set_cons_succ]
              refine wpAnyH_done (by kernel_rfl) ?_ _
              go_wp2_with fail
              go_meet
              exact ⟨A9, c9, F9, W1.heap.size, rfl, r6, own9.grown g6 (fun x hx e => by injection e with e; have := hF9 x hx; simp at this e; omega), fun x hx => by have := hF9 x hx; simp at this; omega, Nat.le_refl _, fun hx => by have := hF9 _ hx; simp at this; omega, ((Below.refl W1.heap.size W1).drew.trans (bz.trans (hb1.mono bz.size))).grown g6 (Nat.le_trans bz.size hb1.size) (fun j hj => by injection hj with hj; subst hj; exact Nat.le_refl _)⟩
            -- END
          case rest =>
            obtain ⟨A9, c9, F9, g11, rfl, r11, own9, hF9, hg11, hn11, hb11⟩ := hcut
            have hz := E2.out
            have hrX : wo.heap.size + 1 + 1 ≤ wr.heap.size := by have := hg2.size; omega
            have hW1 : wr.heap.size ≤ W1.heap.size := b10.size
            have hb1c := b10.trans (hb11.mono hW1)
            have r7 := (S1.out.grown hg2 (by simp)).below hb1c
            have r8 := R2.out.below hb1c
            have o2c := ho2.below hb1c
            have rk := r7.cell (j := 1) rfl
            have hgc : X.grownBy wc (some (wo.heap.size + 1)) := grown_trans hg2 (grown_below hb1c)
            have hwc := hb1c.size
            have hbw : Below w.heap.size w wc := hbr.trans ((hb2.mono hbr.size).grown hgc (Nat.le_trans hbr.size hb2.size) (fun j hj => by injection hj with hj; have := hbr.size; omega))
            have hsucc : (g.blocks.take (j + 1)).map (eachB f g) = (g.blocks.take j).map (eachB f g) ++ [eachB f g b] := by rw [HTB.out, List.map_append]; rfl
            have HSU := Lib.hid hsucc
            have hlen2 : ((g.blocks.take j).map (eachB f g)).length + 1 ≤ 201 := by simp [List.length_take]; omega
            have HL2 := Lib.hid hlen2
            have HLN : Hid (((g.blocks.take (j + 1)).map (eachB f g)).length = j + 1) := Lib.hid (by simp [List.length_take]; omega)
            clear hz hsucc hlen2
            obtain ⟨x0, x1, x2, x3', x4, x5, x6, x7, x8, x9, x10, x11⟩ := r11.block
            rcases Bool.eq_false_or_eq_true g.keep with hke | hke
            rotate_left
            · skip
              have HE : Hid (eachB f g b = f b) := Lib.hid (by unfold eachB; rw [hke]; rfl)
              have hbf := HB.out wc b A9 c9 F9 hbw hbok own9
              have hwfb := HWF.out b hbok hwb
              have HBF := Lib.hid hbf
              have HWB := Lib.hid hwfb
              rw [hke] at rk
              have HKE := Lib.hid hke
              clear hbf hwfb hke
              go_wp2_with fail
              refine HBF.out.mono ?_
              rintro e w2 ⟨A2, c2, F3, rfl, own3, hF3, hb3⟩
              have r11b := r11.below hb3
              have r8b := r8.below hb3
              have o2b := o2c.below hb3
              clear x0 x1 x2 x3' x4 x5 x6 x7 x8 x9 x10 x11 rk
              go_upto_region 13 with (refine wpList_put_row rfl 43 _ _ rfl g11 (blockCells (.slice A2 (f b).ops.length c2) (f b)) rfl rfl r11b (by kernel_rfl) rfl (blockCells_one _) ?_; intro w4 r4 g4 s4; clear s4)
              have hg4 : g11 < wc.heap.size := r11.lt
              have hF4 : ∀ x, F3 x → wr.heap.size ≤ x := fun x hx => by rcases hF3 x hx with h | h; (have := hF9 x h; omega); omega
              have own4 := own3.grown g4 (fun x hx e => by injection e with e; subst e; rcases hF3 _ hx with h | h; exact hn11 h; omega)
              have r8d := r8b.grown g4 (fun e => by injection e with e; omega)
              have o2d := o2b.grown g4 (fun x hx e => by injection e with e; have := ho2.lt x hx; omega)
              have hs4 := Nat.le_trans hb3.size g4.size
              have hgc4 : X.grownBy w4 (some (wo.heap.size + 1)) := grown_past (grown_trans hgc (grown_below hb3)) g4 (fun q hq => by injection hq with hq; have := E2.out; omega)
              obtain ⟨y0, y1, y2, y3, y4, y5, y6, y7, y8, y9, y10, y11⟩ := r4.block
              have HSU2 : Hid ((g.blocks.take j).map (eachB f g) ++ [f b] = (g.blocks.take (j + 1)).map (eachB f g)) := Lib.hid (by rw [HSU.out, HE.out])
              have rv := r8d.cell (j := 3) rfl
              have b5 := below_alloc' w4 (.cells #[.slice A2 (f b).ops.length c2, .int .i64 (f b).fin.kind, .int .i64 (f b).fin.op, .int .i64 (f b).fin.a, .int .i64 (f b).fin.b, .int .i64 (f b).fin.to, .int .i64 (f b).fin.els, .int .i64 (f b).fin.ins.op, .int .i64 (f b).fin.ins.a, .int .i64 (f b).fin.ins.b, .int .i64 (f b).fin.ins.c, .int .i64 (f b).fin.ins.imm] 43)
              go_wp2_with (at_builtin; refine wpList_append_f (k := oBlock) elBlock rfl _ _ rfl (ys := [f b]) (o2d.below (below_alloc' w4 _)) (YF.one rfl ⟨_, rfl, HWB.out, own4⟩) (fun x hx h9 => by (have := ho2.lt x hx; have := hF4 x h9; omega)) rfl rfl (by show _ + 1 ≤ _; have := HL2.out; omega) ?_; intro v5 w5 hg5; obtain ⟨⟨F5, own5, hF5⟩, hgr5⟩ := hg5; rw [HSU2.out] at own5; obtain ⟨A5, c5, hv5, -⟩ := own5.read; rw [HLN.out] at hv5; subst hv5; have r8e := (r8d.below b5).grown hgr5 (fun e => by have := hF2 _ (ho2.row e); omega); have z0 := r8e.cell (j := 3) rfl; have z1 := r8e.frozen 3; have s8 : Row (w5.setCell ⟨wo.heap.size + 1, 3, none⟩ (.slice A5 (j + 1) c5)) (wo.heap.size + 1) 28 (graphCells (.slice A5 (j + 1) c5) g) := r8e.set 3 _; have g8 := grown_set w5 (wo.heap.size + 1) 3 (.slice A5 (j + 1) c5); have S8 := Lib.hid s8; have OW5 := Lib.hid own5; clear s8 own5)
              have own5 := OW5.out
              have hz := E2.out
              have hz4 := b5.size
              have hz5 := hgr5.size
              have hF5' : ∀ x, F5 x → wo.heap.size + 1 + 1 ≤ x := fun x hx => by rcases hF5 x hx with h | h | h; exact hF2 x h; (have := hF4 x h; omega); omega
              refine ⟨⟨j + 1, _, F5, by omega, by go_num, S8.out, own5.grown g8 (fun x hx e => by injection e with e; have := hF5' x hx; omega), hF5', ?_⟩, by simp [intOf]; omega⟩
              exact grown_trans (grown_past (grown_trans hgc4 (grown_below b5)) hgr5 (fun q hq => by have := hF2 q (ho2.row hq); omega)) g8
            · have HE : Hid (eachB f g b = b) := Lib.hid (by unfold eachB; rw [hke]; rfl)
              have HWB := Lib.hid hwb
              rw [hke] at rk
              have HKE := Lib.hid hke
              clear hke
              go_upto_region 13 with fail
              obtain ⟨w4, hw4⟩ : ∃ w4 : World, w4 = wc := ⟨_, rfl⟩
              subst hw4
              have r4 := r11
              have own4 := own9
              have hF4 : ∀ x, F9 x → wr.heap.size ≤ x := fun x hx => by have := hF9 x hx; omega
              have r8d := r8
              have o2d := o2c
              have hgc4 := hgc
              have hs4 := Nat.le_refl w4.heap.size
              obtain ⟨A2, hA2⟩ : ∃ A2, A2 = A9 := ⟨_, rfl⟩
              obtain ⟨c2, hc2⟩ : ∃ c2, c2 = c9 := ⟨_, rfl⟩
              subst hA2 hc2
              clear x0 x1 x2 x3' x4 x5 x6 x7 x8 x9 x10 x11 rk
              obtain ⟨y0, y1, y2, y3, y4, y5, y6, y7, y8, y9, y10, y11⟩ := r4.block
              have HSU2 : Hid ((g.blocks.take j).map (eachB f g) ++ [b] = (g.blocks.take (j + 1)).map (eachB f g)) := Lib.hid (by rw [HSU.out, HE.out])
              have rv := r8d.cell (j := 3) rfl
              have b5 := below_alloc' w4 (.cells #[.slice A2 (b).ops.length c2, .int .i64 (b).fin.kind, .int .i64 (b).fin.op, .int .i64 (b).fin.a, .int .i64 (b).fin.b, .int .i64 (b).fin.to, .int .i64 (b).fin.els, .int .i64 (b).fin.ins.op, .int .i64 (b).fin.ins.a, .int .i64 (b).fin.ins.b, .int .i64 (b).fin.ins.c, .int .i64 (b).fin.ins.imm] 43)
              go_wp2_with (at_builtin; refine wpList_append_f (k := oBlock) elBlock rfl _ _ rfl (ys := [b]) (o2d.below (below_alloc' w4 _)) (YF.one rfl ⟨_, rfl, HWB.out, own4⟩) (fun x hx h9 => by (have := ho2.lt x hx; have := hF4 x h9; omega)) rfl rfl (by show _ + 1 ≤ _; have := HL2.out; omega) ?_; intro v5 w5 hg5; obtain ⟨⟨F5, own5, hF5⟩, hgr5⟩ := hg5; rw [HSU2.out] at own5; obtain ⟨A5, c5, hv5, -⟩ := own5.read; rw [HLN.out] at hv5; subst hv5; have r8e := (r8d.below b5).grown hgr5 (fun e => by have := hF2 _ (ho2.row e); omega); have z0 := r8e.cell (j := 3) rfl; have z1 := r8e.frozen 3; have s8 : Row (w5.setCell ⟨wo.heap.size + 1, 3, none⟩ (.slice A5 (j + 1) c5)) (wo.heap.size + 1) 28 (graphCells (.slice A5 (j + 1) c5) g) := r8e.set 3 _; have g8 := grown_set w5 (wo.heap.size + 1) 3 (.slice A5 (j + 1) c5); have S8 := Lib.hid s8; have OW5 := Lib.hid own5; clear s8 own5)
              have own5 := OW5.out
              have hz := E2.out
              have hz4 := b5.size
              have hz5 := hgr5.size
              have hF5' : ∀ x, F5 x → wo.heap.size + 1 + 1 ≤ x := fun x hx => by rcases hF5 x hx with h | h | h; exact hF2 x h; (have := hF4 x h; omega); omega
              refine ⟨⟨j + 1, _, F5, by omega, by go_num, S8.out, own5.grown g8 (fun x hx e => by injection e with e; have := hF5' x hx; omega), hF5', ?_⟩, by simp [intOf]; omega⟩
              exact grown_trans (grown_past (grown_trans hgc4 (grown_below b5)) hgr5 (fun q hq => by have := hF2 q (ho2.row hq); omega)) g8
        · obtain rfl : j = g.blocks.length := by omega
          rw [List.take_length] at ho2
          obtain ⟨A5, c5, hv5, l5, m5, -⟩ := ho2.read
          have hn5 : (g.blocks.map (eachB f g)).length = g.blocks.length := by simp
          rw [hn5] at hv5
          subst hv5
          have hz := E2.out
          have hrX : wo.heap.size + 1 + 1 ≤ wr.heap.size := by have := hg2.size; omega
          have hgw : Below wo.heap.size wo wr := hb2.grown hg2 hb2.size (fun q hq => by injection hq with hq; omega)
          have ho' := ho.below hgw
          have hsu : (gs.take (k + 1)).map (eachG f) = (gs.take k).map (eachG f) ++ [⟨g.name, g.keep, g.leaf, g.blocks.map (eachB f g)⟩] := by rw [HT.out, List.map_append, ← eachG_eq]; rfl
          have HSU := Lib.hid hsu
          have HWG := Lib.hid hwfg
          have hl3 : ((gs.take k).map (eachG f)).length + 1 ≤ 100 := by simp [List.length_take]; omega
          have HL3 := Lib.hid hl3
          have b6 := below_alloc' wr (.cells #[.string g.name, .bool g.keep, .bool g.leaf, .slice A5 g.blocks.length c5] 28)
          obtain ⟨y0, y1, y2, y3⟩ := r2.graph
          clear hn5 hz hsu hl3 hwfg
          go_wp2_with (at_builtin; refine wpList_append_f (k := oGraph) elGraph rfl _ _ rfl (ys := [⟨g.name, g.keep, g.leaf, g.blocks.map (eachB f g)⟩]) (ho'.below (below_alloc' wr _)) (YF.one rfl ⟨_, rfl, HWG.out, ho2⟩) (fun x hx h9 => by (have := ho.lt x hx; have := hF2 x h9; omega)) rfl rfl (by show _ + 1 ≤ _; have := HL3.out; omega) ?_; intro v6 w6 hg6)
          obtain ⟨⟨F6, own6, hF6⟩, hgr6⟩ := hg6
          have hs0 := hbr.size
          refine ⟨⟨k + 1, F6, by omega, by go_num, by rw [HSU.out]; exact own6, fun x hx => by rcases hF6 x hx with h | h | h; exact hF x h; (have := hF2 x h; omega); (have := b6.size; omega), ?_⟩, by simp [intOf]; omega⟩
          exact ((hbr.trans (hgw.mono hs0)).trans (b6.mono (by omega))).grown hgr6 (by have := b6.size; omega) (fun q hq => hF q (ho.row hq))
    · obtain rfl : k = gs.length := by omega
      rw [List.take_length] at ho
      obtain ⟨A1, c1, rfl, l1, m1, -⟩ := ho.read
      go_wp2_with fail
      go_ret
      exact ⟨A1, c1, F, rfl, ho, hF, hbr⟩
end Go.Proofs.Ytobhjjbhlnbcpaa
