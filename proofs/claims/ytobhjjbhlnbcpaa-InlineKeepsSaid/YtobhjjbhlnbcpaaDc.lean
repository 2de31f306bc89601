/- Layer 23 (inline): what Tails does with one block. -/
import Derived.Test.YtobhjjbhlnbcpaaDb
namespace Go.Proofs.Ytobhjjbhlnbcpaa
set_option linter.unusedVariables false
set_option linter.unusedSimpArgs false
open Go.RowKit

set_option maxHeartbeats 4000000 in
set_option maxRecDepth 100000 in
theorem tails1_calls (b : Block) (A0 : Option Addr) (c0 : Nat) (F0 : Nat → Prop) (w : World) (hO : OwnF oOp 45 w (.slice A0 b.ops.length c0) b.ops F0) (hl : b.ops.length ≤ 300) :
    Calls Try.prog 42 #[.agg #[.slice A0 b.ops.length c0, .int .i64 b.fin.kind, .int .i64 b.fin.op, .int .i64 b.fin.a, .int .i64 b.fin.b, .int .i64 b.fin.to, .int .i64 b.fin.els, .int .i64 b.fin.ins.op, .int .i64 b.fin.ins.a, .int .i64 b.fin.ins.b, .int .i64 b.fin.ins.c, .int .i64 b.fin.ins.imm]] w (MadeB w F0 (tailsB b)) := by
  obtain ⟨W, hW, hbW, hB, q1, q2⟩ := two_rows w (#[.slice A0 b.ops.length c0, .int .i64 b.fin.kind, .int .i64 b.fin.op, .int .i64 b.fin.a, .int .i64 b.fin.b, .int .i64 b.fin.to, .int .i64 b.fin.els, .int .i64 b.fin.ins.op, .int .i64 b.fin.ins.a, .int .i64 b.fin.ins.b, .int .i64 b.fin.ins.c, .int .i64 b.fin.ins.imm]) (#[.slice none 0 0, .int .i64 0, .int .i64 0, .int .i64 0, .int .i64 0, .int .i64 0, .int .i64 0, .int .i64 0, .int .i64 0, .int .i64 0, .int .i64 0, .int .i64 0]) 43 43
  have hlt0 := hO.lt
  have ow := hO.below hbW
  have hl0 : b.ops.length ≤ 9223372036854775807 := by omega
  have HW := Lib.hid hW
  have HB := Lib.hid hB
  have R1 : Hid (Row W w.heap.size 43 (blockCells (.slice A0 b.ops.length c0) b)) := Lib.hid q1
  have R2 : Hid (Row W (w.heap.size + 1) 43 (blockCells (.slice none 0 0) Block.zero)) := Lib.hid q2
  have OW := Lib.hid ow
  have HLT := Lib.hid hlt0
  clear hW hB q1 q2 ow hlt0
  by_cases hn : b.ops.length = 0
  · have HT := Lib.hid (tailsB_nil hn)
    have z1 : ((b.ops.length : Int) == 0) = true := by simpa using hn
    have z2 : (b.ops.length == 0) = true := by simpa using hn
    clear hn hO
    go_enter Try.func42, Try.ntmps42
    go_upto_region 1 with fail
    rw [← HW.out]
    obtain ⟨x0, x1, x2, x3, x4, x5, x6, x7, x8, x9, x10, x11⟩ := R1.out.block
    go_wp2_with (refine wpList_put_row rfl 43 _ _ rfl (w.heap.size + 1) (blockCells (.slice A0 b.ops.length c0) b) rfl rfl R2.out (by kernel_rfl) rfl (blockCells_one _) ?_; intro w6 r3 g3 _)
    refine bodyPost_ret (results_cell_row rfl _ _ (w.heap.size + 1) 43 (blockCells (.slice A0 b.ops.length c0) b).toArray (0, 0) _ rfl r3 Try.underlying43 rfl (by kernel_rfl)) rfl ?_
    rw [HT.out]
    exact ⟨A0, c0, F0, rfl, OW.out.grown g3 (fun x hx e => by injection e with e; have := HLT.out x hx; omega), fun x hx => .inl hx, hbW.grown g3 hbW.size (fun j hj => by injection hj with hj; omega)⟩
  · have z1 : ((b.ops.length : Int) == 0) = false := by simpa using hn
    have z2 : (b.ops.length == 0) = false := by simpa using hn
    have hpos : 0 < b.ops.length := by omega
    obtain ⟨o, hoo⟩ := get_some b.ops (b.ops.length - 1) (by omega)
    have hat := tailsB_at hoo
    by_cases h3 : b.fin.kind = 3
    · by_cases h21 : b.fin.ins.op = 21
      · have k1 : (b.fin.kind != 3) = false := by simp [h3]
        have k2 : (b.fin.ins.op != 21) = false := by simp [h21]
        have htake := OW.out.takeA (n := b.ops.length - 1) (Nat.sub_le _ _) hpos
        obtain ⟨A9, c9, e9, l9, m9, hC9⟩ := hO.read
        injection e9 with e91 e92 e93
        subst e91 e93
        obtain ⟨ad, rfl, f0, f1, f2, f3, f4, f5, f6, f7, f8, hwo⟩ := Op_at (Kd.C_mono hbW hC9) hoo
        have hn1 : ((b.ops.length : Int) - 1) = ((b.ops.length - 1 : Nat) : Int) := by omega
        have hc0 := len_le l9 m9
        unfold maxLen at m9
        by_cases hneg : calledI o < 0
        · have HT : Hid (tailsB b = b) := Lib.hid (by rw [hat, if_neg (fun h => by omega)])
          have z3 : decide (0 ≤ calledI o) = false := by simp; omega
          clear hn hat hneg hO hoo htake hC9 h3 h21
          go_enter Try.func42, Try.ntmps42
          go_upto_region 1 with fail
          rw [← HW.out]
          obtain ⟨x0, x1, x2, x3, x4, x5, x6, x7, x8, x9, x10, x11⟩ := R1.out.block
          go_wp2_with fail
          refine (called_op _ _).mono ?_
          rintro e w1 ⟨rfl, hb1⟩
          have r1 := R1.out.below hb1
          have R4 := Lib.hid (R2.out.below hb1)
          clear f0 f1 f2 f3 f4 f5 f6 f7 f8 x0 x1 x2 x3 x4 x5 x6 x7 x8 x9 x10 x11
          obtain ⟨x0, x1, x2, x3, x4, x5, x6, x7, x8, x9, x10, x11⟩ := r1.block
          go_wp2_with (refine wpList_put_row rfl 43 _ _ rfl (w.heap.size + 1) (blockCells (.slice (some ad) b.ops.length c0) b) rfl rfl R4.out (by kernel_rfl) rfl (blockCells_one _) ?_; intro w6 r3 g3 _)
          refine bodyPost_ret (results_cell_row rfl _ _ (w.heap.size + 1) 43 (blockCells (.slice (some ad) b.ops.length c0) b).toArray (0, 0) _ rfl r3 Try.underlying43 rfl (by kernel_rfl)) rfl ?_
          rw [HT.out]
          exact ⟨_, c0, F0, rfl, (OW.out.below hb1).grown g3 (fun x hx e => by injection e with e; have := HLT.out x hx; omega), fun x hx => .inl hx, (hbW.trans (hb1.mono hbW.size)).grown g3 (Nat.le_trans hbW.size hb1.size) (fun j hj => by injection hj with hj; omega)⟩
        · have HT : Hid (tailsB b = ⟨b.ops.dropLast, tailTerm (calledI o)⟩) := Lib.hid (by rw [hat, if_pos ⟨h3, h21, by omega⟩])
          have z3 : decide (0 ≤ calledI o) = true := by simp; omega
          have z4 : 0 ≤ calledI o := by omega
          have hdl : b.ops.take (b.ops.length - 1) = b.ops.dropLast := List.dropLast_eq_take.symm
          have hdn : b.ops.dropLast.length = b.ops.length - 1 := List.length_dropLast
          obtain ⟨F9, own9, hF9⟩ := htake
          rw [hdl] at own9
          have HOW9 := Lib.hid own9
          have HDN := Lib.hid hdn
          clear hn hat hneg hO hoo hC9 h3 h21 own9 hdl hdn
          go_enter Try.func42, Try.ntmps42
          go_upto_region 1 with fail
          rw [← HW.out]
          obtain ⟨x0, x1, x2, x3, x4, x5, x6, x7, x8, x9, x10, x11⟩ := R1.out.block
          go_wp2_with fail
          refine (called_op _ _).mono ?_
          rintro e w1 ⟨rfl, hb1⟩
          have r1 := R1.out.below hb1
          have R4 := Lib.hid (R2.out.below hb1)
          clear f0 f1 f2 f3 f4 f5 f6 f7 f8 x0 x1 x2 x3 x4 x5 x6 x7 x8 x9 x10 x11
          obtain ⟨x0, x1, x2, x3, x4, x5, x6, x7, x8, x9, x10, x11⟩ := r1.block
          generalize calledI o = f at *
          go_wp2_with (refine wpList_put_row rfl 43 _ _ rfl (w.heap.size + 1) (blockCells (.slice (some ad) (b.ops.length - 1) c0) ⟨b.ops.dropLast, tailTerm f⟩) rfl rfl R4.out (by kernel_rfl) rfl (blockCells_one _) ?_; intro w6 r3 g3 _)
          refine bodyPost_ret (results_cell_row rfl _ _ (w.heap.size + 1) 43 (blockCells (.slice (some ad) (b.ops.length - 1) c0) ⟨b.ops.dropLast, tailTerm f⟩).toArray (0, 0) _ rfl r3 Try.underlying43 rfl (by kernel_rfl)) rfl ?_
          rw [HT.out]
          refine ⟨some ad, c0, F9, by rw [HDN.out], ?_, fun x hx => .inl (hF9 x hx), (hbW.trans (hb1.mono hbW.size)).grown g3 (Nat.le_trans hbW.size hb1.size) (fun j hj => by injection hj with hj; omega)⟩
          show OwnF oOp _ w6 (.slice (some ad) b.ops.dropLast.length c0) b.ops.dropLast F9
          rw [HDN.out]
          exact (HOW9.out.below hb1).grown g3 (fun x hx e => by injection e with e; have := HLT.out x (hF9 x hx); omega)
      · have k1 : (b.fin.kind != 3) = false := by simp [h3]
        have k2 : (b.fin.ins.op != 21) = true := by simp [h21]
        have HT : Hid (tailsB b = b) := Lib.hid (by rw [hat, if_neg (fun h => h21 h.2.1)])
        clear hn hat hO hoo h3 h21
        go_enter Try.func42, Try.ntmps42
        go_upto_region 1 with fail
        rw [← HW.out]
        obtain ⟨x0, x1, x2, x3, x4, x5, x6, x7, x8, x9, x10, x11⟩ := R1.out.block
        go_wp2_with (refine wpList_put_row rfl 43 _ _ rfl (w.heap.size + 1) (blockCells (.slice A0 b.ops.length c0) b) rfl rfl R2.out (by kernel_rfl) rfl (blockCells_one _) ?_; intro w6 r3 g3 _)
        refine bodyPost_ret (results_cell_row rfl _ _ (w.heap.size + 1) 43 (blockCells (.slice A0 b.ops.length c0) b).toArray (0, 0) _ rfl r3 Try.underlying43 rfl (by kernel_rfl)) rfl ?_
        rw [HT.out]
        exact ⟨_, c0, F0, rfl, OW.out.grown g3 (fun x hx e => by injection e with e; have := HLT.out x hx; omega), fun x hx => .inl hx, hbW.grown g3 hbW.size (fun j hj => by injection hj with hj; omega)⟩
    · have k1 : (b.fin.kind != 3) = true := by simp [h3]
      have HT : Hid (tailsB b = b) := Lib.hid (by rw [hat, if_neg (fun h => h3 h.1)])
      clear hn hat hO hoo h3
      go_enter Try.func42, Try.ntmps42
      go_upto_region 1 with fail
      rw [← HW.out]
      obtain ⟨x0, x1, x2, x3, x4, x5, x6, x7, x8, x9, x10, x11⟩ := R1.out.block
      go_wp2_with (refine wpList_put_row rfl 43 _ _ rfl (w.heap.size + 1) (blockCells (.slice A0 b.ops.length c0) b) rfl rfl R2.out (by kernel_rfl) rfl (blockCells_one _) ?_; intro w6 r3 g3 _)
      refine bodyPost_ret (results_cell_row rfl _ _ (w.heap.size + 1) 43 (blockCells (.slice A0 b.ops.length c0) b).toArray (0, 0) _ rfl r3 Try.underlying43 rfl (by kernel_rfl)) rfl ?_
      rw [HT.out]
      exact ⟨_, c0, F0, rfl, OW.out.grown g3 (fun x hx e => by injection e with e; have := HLT.out x hx; omega), fun x hx => .inl hx, hbW.grown g3 hbW.size (fun j hj => by injection hj with hj; omega)⟩
end Go.Proofs.Ytobhjjbhlnbcpaa
