/- The document's End, of layer 20. Printed by genKw.py of this repository. -/
import Derived.Test.YtokkngfgppikkabKk
import Derived.Test.YtokkngfgppikkabKu
namespace Go.Proofs.Ytokkngfgppikkab
set_option linter.unusedVariables false
set_option linter.unusedSimpArgs false
open Go.RowKit

theorem step_load_known {ops : Array Oper} {o : Oper} {a : Act} {w : World} {K : Act → World → Prop} {Q : Exit → Act → World → Prop} {E : Prop} (x : Operand) (k : Known) (g : Nat) (hw : k.wf) (hR : Row w g 77 (knownCells k)) (hgd : o.guard = none) (ho : o.op = .load 77 x) (hx : a.eval x = .pointer (some ⟨g, 0, none⟩))
    (h : K (a.put o.dst (.agg (knownCells k).toArray)) w) : if Region.wanted o (yielded ops a.tmps) = true then Oper.wp Try.prog o a w K Q else E := by
  have hwt : Region.wanted o (yielded ops a.tmps) = true := by simp [Region.wanted, hgd]
  rw [if_pos hwt]
  exact wp_load_row _ x ho g hx 77 _ (0, 0) _ hR Try.underlying77 rfl (infoKnown' hw) h
theorem behindOps_wf {os : List Op} {k : Known} (hk : k.wf) : (behindOps os k).wf := by
  unfold behindOps
  induction os generalizing k with
  | nil => exact hk
  | cons o t ih => exact ih (behindK_wf hk o)
theorem behindOps_snoc {os : List Op} {j : Nat} {o : Op} (h : os[j]? = some o) (k : Known) : behindOps (os.take (j + 1)) k = behindK (behindOps (os.take j) k) o := by
  unfold behindOps
  rw [take_snoc h, List.foldl_append]
  rfl
set_option maxHeartbeats 8000000 in
set_option maxRecDepth 100000 in
theorem refEnd20_calls (k : Known) (b : Block) (A0 : Option Addr) (c0 : Nat) (w : World) (hk : k.wf) (hC : kOp.C w A0 b.ops) (hr : ∀ o ∈ b.ops, o.ins.right = true) (hl : b.ops.length ≤ 1000) : Calls Try.prog 64 #[.agg (knownCells k).toArray, .agg #[.slice A0 b.ops.length c0, .int .i64 b.fin.kind, .int .i64 b.fin.op, .int .i64 b.fin.a, .int .i64 b.fin.b, .int .i64 b.fin.to, .int .i64 b.fin.els, .int .i64 b.fin.ins.op, .int .i64 b.fin.ins.a, .int .i64 b.fin.ins.b, .int .i64 b.fin.ins.c, .int .i64 b.fin.ins.imm]] w fun e w' => e = .returned (.agg (knownCells (behindOps b.ops k)).toArray) ∧ Below w.heap.size w w' := by
  obtain ⟨W, hW, bW, zW, r0, r1, r2⟩ := three_rows w (knownCells k).toArray #[.slice A0 b.ops.length c0, .int .i64 b.fin.kind, .int .i64 b.fin.op, .int .i64 b.fin.a, .int .i64 b.fin.b, .int .i64 b.fin.to, .int .i64 b.fin.els, .int .i64 b.fin.ins.op, .int .i64 b.fin.ins.a, .int .i64 b.fin.ins.b, .int .i64 b.fin.ins.c, .int .i64 b.fin.ins.imm] #[.bool false, .bool false, .bool false, .bool false, .bool false, .bool false, .bool false, .bool false, .bool false, .bool false, .bool false, .bool false, .bool false, .bool false, .bool false, .bool false, .bool false, .int .u32 0, .int .u32 0, .int .u32 0, .int .u32 0, .int .u32 0, .int .u32 0, .int .u32 0, .int .u32 0, .int .u32 0, .int .u32 0, .int .u32 0, .int .u32 0, .int .u32 0, .int .u32 0, .int .u32 0, .int .u32 0] 77 39 77
  replace r0 : Row W w.heap.size 77 (knownCells k) := r0
  replace r2 : Row W (w.heap.size + 1 + 1) 77 (knownCells Known.zero) := r2
  replace r1 : Row W (w.heap.size + 1) 39 (blockCells (.slice A0 b.ops.length c0) b) := r1
  have HW := Lib.hid hW
  have HRI := Lib.hid hr
  have hwf := behindOps_wf (os := b.ops) hk
  clear hW zW hr
  go_enter Try.func64, Try.ntmps64
  go_upto_region 1 with fail
  rw [← HW.out]
  clear HW
  go_wp2_with fail
  go_loopw [5] (fun i wr => ∃ j : Nat, j ≤ b.ops.length ∧ i = .int .i64 (j : Int) ∧ Below w.heap.size w wr ∧ Row wr w.heap.size 77 (knownCells (behindOps (b.ops.take j) k)) ∧ Row wr (w.heap.size + 1) 39 (blockCells (.slice A0 b.ops.length c0) b) ∧ Row wr (w.heap.size + 1 + 1) 77 (knownCells Known.zero)) (fun i _ => (b.ops.length - intOf i).toNat)
  case atStart => exact ⟨0, Nat.zero_le _, rfl, bW, r0, r1, r2⟩
  case round =>
    obtain ⟨j, hj, rfl, hbw, q0, q1, q2⟩ := hrel
    have p0 := q1.cell (j := 0) rfl
    by_cases hlt : j < b.ops.length
    · obtain ⟨o, ho⟩ := get_some b.ops j hlt
      have hro := HRI.out o (List.mem_of_getElem? ho)
      have hsn := behindOps_snoc ho k
      obtain ⟨ad, rfl, e0, e1, e2, e3, e4, e5, e6, e7, e8, -⟩ := Op_at hC ho
      have hx := behindOps_wf (os := b.ops.take j) hk
      generalize behindOps (b.ops.take j) k = x at *
      have hkk := behindK_wf hx o
      generalize hbk2 : behindK x o = kk at *
      have HBK2 := Lib.hid hbk2
      have HSN := Lib.hid hsn
      clear hbk2 hsn ho
      have hltI : (j : Int) < (b.ops.length : Int) := by omega
      have bd := (Below.refl wr.heap.size wr).drew
      have q0d := q0.below bd
      have q2d := q2.below bd
      go_upto_region 4 with fail
      refine wp_region_held_drew (S := (fun w' => Below w.heap.size w w' ∧ Row w' (w.heap.size + 1) 39 (blockCells (.slice (some ad) b.ops.length c0) b))) (by kernel_rfl) (⟨hbw.trans (bd.mono hbw.size), q1.below bd⟩) (fun hHeld => ?_)
      refine wpAnyH_take (i := 1) (oi := _) (v := ?v4m1_1) rfl (by kernel_rfl) (by kernel_rfl) (by kernel_rfl) (fun _ _ _ h => h) (Or.inl ⟨by rfl, ?hy4m1_1⟩) hHeld ?_
      case hy4m1_1 => (intro wS hSw; (try dsimp only at hSw); obtain ⟨hSk, hSb⟩ := hSw; have cp0 := Row.cell hSb (j := 0) rfl; have ce0 := (Below.cell hSk (World.lt_of_cell e0)).trans e0; have ce1 := (Below.cell hSk (World.lt_of_cell e1)).trans e1; have ce2 := (Below.cell hSk (World.lt_of_cell e2)).trans e2; have ce3 := (Below.cell hSk (World.lt_of_cell e3)).trans e3; have ce4 := (Below.cell hSk (World.lt_of_cell e4)).trans e4; have ce5 := (Below.cell hSk (World.lt_of_cell e5)).trans e5; have ce6 := (Below.cell hSk (World.lt_of_cell e6)).trans e6; have ce7 := (Below.cell hSk (World.lt_of_cell e7)).trans e7; have ce8 := (Below.cell hSk (World.lt_of_cell e8)).trans e8; clear hSk hSb; go_simp; try with_reducible rfl)
      try simp only [List.getElem_toArray, List.getElem_cons_succ, List.getElem_cons_zero, Act.put, List.setIfInBounds_toArray, List.set_cons_zero, List.set_cons_succ]
      refine wpAnyH_take (i := 2) (oi := _) (v := ?v4m1_2) rfl (by kernel_rfl) (by kernel_rfl) (by kernel_rfl) (fun _ _ _ h => h) (Or.inl ⟨by rfl, ?hy4m1_2⟩) hHeld ?_
      case hy4m1_2 => (intro wS hSw; (try dsimp only at hSw); obtain ⟨hSk, hSb⟩ := hSw; have cp0 := Row.cell hSb (j := 0) rfl; have ce0 := (Below.cell hSk (World.lt_of_cell e0)).trans e0; have ce1 := (Below.cell hSk (World.lt_of_cell e1)).trans e1; have ce2 := (Below.cell hSk (World.lt_of_cell e2)).trans e2; have ce3 := (Below.cell hSk (World.lt_of_cell e3)).trans e3; have ce4 := (Below.cell hSk (World.lt_of_cell e4)).trans e4; have ce5 := (Below.cell hSk (World.lt_of_cell e5)).trans e5; have ce6 := (Below.cell hSk (World.lt_of_cell e6)).trans e6; have ce7 := (Below.cell hSk (World.lt_of_cell e7)).trans e7; have ce8 := (Below.cell hSk (World.lt_of_cell e8)).trans e8; clear hSk hSb; go_simp; try with_reducible rfl)
      try simp only [List.getElem_toArray, List.getElem_cons_succ, List.getElem_cons_zero, Act.put, List.setIfInBounds_toArray, List.set_cons_zero, List.set_cons_succ]
      refine wpAnyH_take (i := 3) (oi := _) (v := ?v4m1_3) rfl (by kernel_rfl) (by kernel_rfl) (by kernel_rfl) (fun _ _ _ h => h) (Or.inl ⟨by rfl, ?hy4m1_3⟩) hHeld ?_
      case hy4m1_3 => (intro wS hSw; (try dsimp only at hSw); obtain ⟨hSk, hSb⟩ := hSw; have cp0 := Row.cell hSb (j := 0) rfl; have ce0 := (Below.cell hSk (World.lt_of_cell e0)).trans e0; have ce1 := (Below.cell hSk (World.lt_of_cell e1)).trans e1; have ce2 := (Below.cell hSk (World.lt_of_cell e2)).trans e2; have ce3 := (Below.cell hSk (World.lt_of_cell e3)).trans e3; have ce4 := (Below.cell hSk (World.lt_of_cell e4)).trans e4; have ce5 := (Below.cell hSk (World.lt_of_cell e5)).trans e5; have ce6 := (Below.cell hSk (World.lt_of_cell e6)).trans e6; have ce7 := (Below.cell hSk (World.lt_of_cell e7)).trans e7; have ce8 := (Below.cell hSk (World.lt_of_cell e8)).trans e8; clear hSk hSb; go_simp; try with_reducible rfl)
      try simp only [List.getElem_toArray, List.getElem_cons_succ, List.getElem_cons_zero, Act.put, List.setIfInBounds_toArray, List.set_cons_zero, List.set_cons_succ]
      refine wpAnyH_take (i := 4) (oi := _) (v := ?v4m1_4) rfl (by kernel_rfl) (by kernel_rfl) (by kernel_rfl) (fun _ _ _ h => h) (Or.inl ⟨by rfl, ?hy4m1_4⟩) hHeld ?_
      case hy4m1_4 => (intro wS hSw; (try dsimp only at hSw); obtain ⟨hSk, hSb⟩ := hSw; have cp0 := Row.cell hSb (j := 0) rfl; have ce0 := (Below.cell hSk (World.lt_of_cell e0)).trans e0; have ce1 := (Below.cell hSk (World.lt_of_cell e1)).trans e1; have ce2 := (Below.cell hSk (World.lt_of_cell e2)).trans e2; have ce3 := (Below.cell hSk (World.lt_of_cell e3)).trans e3; have ce4 := (Below.cell hSk (World.lt_of_cell e4)).trans e4; have ce5 := (Below.cell hSk (World.lt_of_cell e5)).trans e5; have ce6 := (Below.cell hSk (World.lt_of_cell e6)).trans e6; have ce7 := (Below.cell hSk (World.lt_of_cell e7)).trans e7; have ce8 := (Below.cell hSk (World.lt_of_cell e8)).trans e8; clear hSk hSb; go_simp; try with_reducible rfl)
      try simp only [List.getElem_toArray, List.getElem_cons_succ, List.getElem_cons_zero, Act.put, List.setIfInBounds_toArray, List.set_cons_zero, List.set_cons_succ]
      refine wpAnyH_take (i := 5) (oi := _) (v := ?v4m1_5) rfl (by kernel_rfl) (by kernel_rfl) (by kernel_rfl) (fun _ _ _ h => h) (Or.inl ⟨by rfl, ?hy4m1_5⟩) hHeld ?_
      case hy4m1_5 => (intro wS hSw; (try dsimp only at hSw); obtain ⟨hSk, hSb⟩ := hSw; have cp0 := Row.cell hSb (j := 0) rfl; have ce0 := (Below.cell hSk (World.lt_of_cell e0)).trans e0; have ce1 := (Below.cell hSk (World.lt_of_cell e1)).trans e1; have ce2 := (Below.cell hSk (World.lt_of_cell e2)).trans e2; have ce3 := (Below.cell hSk (World.lt_of_cell e3)).trans e3; have ce4 := (Below.cell hSk (World.lt_of_cell e4)).trans e4; have ce5 := (Below.cell hSk (World.lt_of_cell e5)).trans e5; have ce6 := (Below.cell hSk (World.lt_of_cell e6)).trans e6; have ce7 := (Below.cell hSk (World.lt_of_cell e7)).trans e7; have ce8 := (Below.cell hSk (World.lt_of_cell e8)).trans e8; clear hSk hSb; go_simp; try with_reducible rfl)
      try simp only [List.getElem_toArray, List.getElem_cons_succ, List.getElem_cons_zero, Act.put, List.setIfInBounds_toArray, List.set_cons_zero, List.set_cons_succ]
      refine wpAnyH_ready (rs := [0]) (by kernel_rfl) (by simp) ?_
      refine (AllReadyH.cons (o := _) rfl (fun K hK => ?_) AllReadyH.nil)
      refine step_load_known _ x w.heap.size hx q0d rfl rfl rfl ?_
      refine hK.out _ _ (hHeld) (fun hHeld6 => ?_)
      clear hK K hHeld
      try simp only [List.getElem_toArray, List.getElem_cons_succ, List.getElem_cons_zero, Act.put, List.setIfInBounds_toArray, List.set_cons_zero, List.set_cons_succ]
      refine wpAnyH_ready (rs := [6]) (by kernel_rfl) (by simp) ?_
      refine (AllReadyH.cons (o := _) rfl (fun K hK => ?_) AllReadyH.nil)
      go_simp
      refine (refBehind_calls x o _ hx hro).mono ?_
      rw [HBK2.out]
      rintro e w5 ⟨rfl, hb5⟩
      have q5 := q0d.below hb5
      have z5 := q2d.below hb5
      go_wp2_with fail
      refine hK.out _ _ (⟨(And.left hHeld6).trans (hb5.mono (Below.size (And.left hHeld6))), Row.below (And.right hHeld6) hb5⟩) (fun hHeld7 => ?_)
      clear hK K hHeld6
      try simp only [List.getElem_toArray, List.getElem_cons_succ, List.getElem_cons_zero, Act.put, List.setIfInBounds_toArray, List.set_cons_zero, List.set_cons_succ]
      refine wpAnyH_ready (rs := [7]) (by kernel_rfl) (by simp) ?_
      refine (AllReadyH.cons (o := _) rfl (fun K hK => ?_) AllReadyH.nil)
      refine step_put_row rfl _ _ _ rfl (w.heap.size) (knownCells kk) rfl rfl q5 (infoKnown hkk) (by rw [knownCells_len hkk, knownCells_len hx]) (knownCells_one _) ?_
      intro w6 r6 g6 s6
      clear s6
      replace z5 := z5.grown g6 (fun e => by injection e with e; omega)
      refine hK.out _ _ (⟨Below.grown (And.left hHeld7) g6 (Below.size (And.left hHeld7)) (fun j hj => by injection hj with hj; subst hj; exact Nat.le_refl _), Row.grown (And.right hHeld7) g6 (fun e => by injection e with e; omega)⟩) (fun hHeld8 => ?_)
      clear hK K hHeld7
      try simp only [List.getElem_toArray, List.getElem_cons_succ, List.getElem_cons_zero, Act.put, List.setIfInBounds_toArray, List.set_cons_zero, List.set_cons_succ]
      refine wpAnyH_done (by kernel_rfl) ?_ _
      obtain ⟨bz, qz⟩ := hHeld8
      go_wp2_with fail
      exact ⟨⟨j + 1, by omega, by go_num, bz, by rw [HSN.out]; exact r6, qz, z5⟩, by simp [intOf]; omega⟩
    · obtain rfl : j = b.ops.length := by omega
      rw [List.take_length] at q0
      go_wp2_with (first | (refine wpList_load_known _ _ _ hwf q0 rfl rfl rfl ?_) | (refine wpList_put_known _ _ (behindOps b.ops k) _ hwf Known.zero_wf q2 rfl rfl rfl rfl ?_; intro w9 r9 g9 s9))
      have t9 := hbw.grown g9 hbw.size (fun j hj => by injection hj with hj; subst hj; omega)
      exact bodyPost_ret (results_known rfl _ _ _ _ rfl hwf r9) rfl ⟨rfl, t9⟩
end Go.Proofs.Ytokkngfgppikkab
