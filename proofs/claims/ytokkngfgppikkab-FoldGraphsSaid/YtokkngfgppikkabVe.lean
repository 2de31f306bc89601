/- Layer 21 (fold): what differs between two blocks. -/
import Derived.Test.YtokkngfgppikkabVd
import Derived.Test.YtokkngfgppikkabGd
namespace Go.Proofs.Ytokkngfgppikkab
set_option linter.unusedVariables false
set_option linter.unusedSimpArgs false
open Go.RowKit

theorem eqOp_x (d : Nat) (w : World) (r r' : Bool) (k k' t t' a a' x0 x1 x2 x3 x4 y0 y1 y2 y3 y4 : Int) :
    (Op.equalIn (d + 3) 56 (.agg #[.int .i64 x0, .int .i64 x1, .int .i64 x2, .int .i64 x3, .int .i64 x4, .bool r, .int .i64 k, .int .i64 t, .int .i64 a]) (.agg #[.int .i64 y0, .int .i64 y1, .int .i64 y2, .int .i64 y3, .int .i64 y4, .bool r', .int .i64 k', .int .i64 t', .int .i64 a'])).run Try.prog w = .ok (decide ((⟨⟨x0, x1, x2, x3, x4⟩, r, k, t, a⟩ : Op) = ⟨⟨y0, y1, y2, y3, y4⟩, r', k', t', a'⟩)) w := by
  have hI := fun W => eqIns d W x0 y0 x1 y1 x2 y2 x3 y3 x4 y4
  rw [run_equalIn_struct w (d + 2) 56 _ _ (by kernel_rfl) (by kernel_rfl)]
  simp [Try.underlying56, Try.underlying35, Program.fieldsOf, go_sem, hI]
  (repeat' split) <;> simp_all
theorem eqTerm_x (d : Nat) (w : World) (k k' o o' a a' b b' t t' e e' x0 x1 x2 x3 x4 y0 y1 y2 y3 y4 : Int) :
    (Op.equalIn (d + 3) 37 (.agg #[.int .i64 k, .int .i64 o, .int .i64 a, .int .i64 b, .int .i64 t, .int .i64 e, .int .i64 x0, .int .i64 x1, .int .i64 x2, .int .i64 x3, .int .i64 x4]) (.agg #[.int .i64 k', .int .i64 o', .int .i64 a', .int .i64 b', .int .i64 t', .int .i64 e', .int .i64 y0, .int .i64 y1, .int .i64 y2, .int .i64 y3, .int .i64 y4])).run Try.prog w = .ok (decide ((⟨k, o, a, b, t, e, ⟨x0, x1, x2, x3, x4⟩⟩ : Term) = ⟨k', o', a', b', t', e', ⟨y0, y1, y2, y3, y4⟩⟩)) w := by
  have hI := fun W => eqIns d W x0 y0 x1 y1 x2 y2 x3 y3 x4 y4
  rw [run_equalIn_struct w (d + 2) 37 _ _ (by kernel_rfl) (by kernel_rfl)]
  simp [Try.underlying37, Try.underlying35, Program.fieldsOf, go_sem, hI]
  (repeat' split) <;> simp_all
def sameO (o p : Op) : Bool := decide (o = p)
def sameT (o p : Term) : Bool := decide (o = p)
theorem eqOp_v (d : Nat) (w : World) (o p : Op) : (Op.equalIn (d + 3) 56 (.agg #[.int .i64 o.ins.op, .int .i64 o.ins.a, .int .i64 o.ins.b, .int .i64 o.ins.c, .int .i64 o.ins.imm, .bool o.rel, .int .i64 o.kind, .int .i64 o.to, .int .i64 o.add]) (.agg #[.int .i64 p.ins.op, .int .i64 p.ins.a, .int .i64 p.ins.b, .int .i64 p.ins.c, .int .i64 p.ins.imm, .bool p.rel, .int .i64 p.kind, .int .i64 p.to, .int .i64 p.add])).run Try.prog w = .ok (sameO o p) w := eqOp_x d w _ _ _ _ _ _ _ _ _ _ _ _ _ _ _ _ _ _
theorem eqTerm_v (d : Nat) (w : World) (o p : Term) : (Op.equalIn (d + 3) 37 (.agg #[.int .i64 o.kind, .int .i64 o.op, .int .i64 o.a, .int .i64 o.b, .int .i64 o.to, .int .i64 o.els, .int .i64 o.ins.op, .int .i64 o.ins.a, .int .i64 o.ins.b, .int .i64 o.ins.c, .int .i64 o.ins.imm]) (.agg #[.int .i64 p.kind, .int .i64 p.op, .int .i64 p.a, .int .i64 p.b, .int .i64 p.to, .int .i64 p.els, .int .i64 p.ins.op, .int .i64 p.ins.a, .int .i64 p.ins.b, .int .i64 p.ins.c, .int .i64 p.ins.imm])).run Try.prog w = .ok (sameT o p) w := eqTerm_x d w _ _ _ _ _ _ _ _ _ _ _ _ _ _ _ _ _ _ _ _ _ _
attribute [local go_sem high] eqOp_v eqTerm_v

/-- How many of the first instructions differ. -/
def diffTo (os ps : List Op) : Nat → Nat
  | 0 => 0
  | k + 1 => diffTo os ps k + (if os[k]? = ps[k]? then 0 else 1)
def differN (b c : Block) : Nat := (max b.ops.length c.ops.length - min b.ops.length c.ops.length) + diffTo b.ops c.ops (min b.ops.length c.ops.length) + (if b.fin = c.fin then 0 else 1)
theorem diffTo_le (os ps : List Op) : ∀ k, diffTo os ps k ≤ k
  | 0 => Nat.le_refl _
  | k + 1 => by
    have := diffTo_le os ps k
    show diffTo os ps k + (if os[k]? = ps[k]? then 0 else 1) ≤ k + 1
    split <;> omega
theorem differN_le {b c : Block} (hb : b.ops.length ≤ 300) (hc : c.ops.length ≤ 300) : differN b c ≤ 601 := by
  unfold differN
  have := diffTo_le b.ops c.ops (min b.ops.length c.ops.length)
  split <;> omega

set_option maxHeartbeats 4000000 in
set_option maxRecDepth 100000 in
theorem differ_calls (b d : Block) (A A' : Option Addr) (c c' : Nat) (w : World) (hC : kOp.C w A b.ops) (hC' : kOp.C w A' d.ops) (hl : b.ops.length ≤ 300) (hl' : d.ops.length ≤ 300) : Calls Try.prog 56 #[.agg #[.slice A b.ops.length c, .int .i64 b.fin.kind, .int .i64 b.fin.op, .int .i64 b.fin.a, .int .i64 b.fin.b, .int .i64 b.fin.to, .int .i64 b.fin.els, .int .i64 b.fin.ins.op, .int .i64 b.fin.ins.a, .int .i64 b.fin.ins.b, .int .i64 b.fin.ins.c, .int .i64 b.fin.ins.imm], .agg #[.slice A' d.ops.length c', .int .i64 d.fin.kind, .int .i64 d.fin.op, .int .i64 d.fin.a, .int .i64 d.fin.b, .int .i64 d.fin.to, .int .i64 d.fin.els, .int .i64 d.fin.ins.op, .int .i64 d.fin.ins.a, .int .i64 d.fin.ins.b, .int .i64 d.fin.ins.c, .int .i64 d.fin.ins.imm]] w fun e w' => e = .returned (.int .i64 (differN b d : Int)) ∧ Below w.heap.size w w' := by
  obtain ⟨W, hW, bW, zW, r0, r1⟩ := two_rows w #[.slice A b.ops.length c, .int .i64 b.fin.kind, .int .i64 b.fin.op, .int .i64 b.fin.a, .int .i64 b.fin.b, .int .i64 b.fin.to, .int .i64 b.fin.els, .int .i64 b.fin.ins.op, .int .i64 b.fin.ins.a, .int .i64 b.fin.ins.b, .int .i64 b.fin.ins.c, .int .i64 b.fin.ins.imm] #[.slice A' d.ops.length c', .int .i64 d.fin.kind, .int .i64 d.fin.op, .int .i64 d.fin.a, .int .i64 d.fin.b, .int .i64 d.fin.to, .int .i64 d.fin.els, .int .i64 d.fin.ins.op, .int .i64 d.fin.ins.a, .int .i64 d.fin.ins.b, .int .i64 d.fin.ins.c, .int .i64 d.fin.ins.imm] 39 39
  replace r0 : Row W w.heap.size 39 (blockCells (.slice A b.ops.length c) b) := r0
  replace r1 : Row W (w.heap.size + 1) 39 (blockCells (.slice A' d.ops.length c') d) := r1
  have HW := Lib.hid hW
  have CB := Kd.C_mono bW hC
  have CD := Kd.C_mono bW hC'
  have i0 := r0.cell (j := 0) rfl
  have i1 := r1.cell (j := 0) rfl
  clear hW hC hC' zW
  go_enter Try.func56, Try.ntmps56
  go_upto_region 1 with fail
  rw [← HW.out]
  clear HW
  go_wp2_with fail
  obtain ⟨M, hM⟩ : ∃ M : Nat, M = min b.ops.length d.ops.length := ⟨_, rfl⟩
  obtain ⟨D, hD⟩ : ∃ D : Nat, D = max b.ops.length d.ops.length - min b.ops.length d.ops.length := ⟨_, rfl⟩
  have e1 : min (b.ops.length : Int) (d.ops.length : Int) = (M : Int) := by omega
  have e2 : max (b.ops.length : Int) (d.ops.length : Int) - (M : Int) = (D : Int) := by omega
  rw [e1, e2]
  have hM1 : M ≤ b.ops.length := by omega
  have hM2 : M ≤ d.ops.length := by omega
  have hD3 : D ≤ 300 := by omega
  have hdf : differN b d = D + diffTo b.ops d.ops M + (if b.fin = d.fin then 0 else 1) := by unfold differN; rw [← hM]; rw [← hM] at hD; rw [← hD]
  have HDF := Lib.hid hdf
  have R0 := Lib.hid r0
  have R1 := Lib.hid r1
  clear e1 e2 hM hD hdf i0 i1 r0 r1
  go_loopw [5, 29] (fun v i wr => ∃ k : Nat, k ≤ M ∧ i = .int .i64 k ∧ v = .int .i64 ((D + diffTo b.ops d.ops k : Nat) : Int) ∧ Below W.heap.size W wr) (fun _ i _ => M - (intOf i).toNat)
  case atStart => exact ⟨0, Nat.zero_le _, rfl, rfl, Below.refl _ _⟩
  case round =>
    obtain ⟨k, hk, rfl, rfl, hbr⟩ := hrel
    have r0 := R0.out.below hbr
    have r1 := R1.out.below hbr
    by_cases hlt : k < M
    · obtain ⟨o, ho⟩ := get_some b.ops k (by omega)
      obtain ⟨p, hp⟩ := get_some d.ops k (by omega)
      obtain ⟨ad, rfl, e0, e1, e2, e3, e4, e5, e6, e7, e8, -⟩ := Op_at (Kd.C_mono hbr CB) ho
      obtain ⟨ap, rfl, f0, f1, f2, f3, f4, f5, f6, f7, f8, -⟩ := Op_at (Kd.C_mono hbr CD) hp
      have i0 := r0.cell (j := 0) rfl
      have i1 := r1.cell (j := 0) rfl
      have hle := diffTo_le b.ops d.ops k
      have hsucc : diffTo b.ops d.ops (k + 1) = diffTo b.ops d.ops k + (if o = p then 0 else 1) := by
        show diffTo b.ops d.ops k + (if b.ops[k]? = d.ops[k]? then 0 else 1) = _
        rw [ho, hp]
        simp
      have HS := Lib.hid hsucc
      clear hsucc ho hp r0 r1
      generalize diffTo b.ops d.ops k = x at *
      by_cases hop : o = p
      · have z : sameO o p = true := decide_eq_true hop
        have HO := Lib.hid hop
        clear hop
        go_wp2_with fail
        go_quiet (fail)
        go_wp2_with fail
        exact ⟨⟨k + 1, by omega, by go_num, by rw [HS.out, if_pos HO.out]; rfl, Below.drewN hbr _⟩, by simp [intOf]; omega⟩
      · have z : sameO o p = false := decide_eq_false hop
        have HO := Lib.hid hop
        clear hop
        go_wp2_with fail
        go_quiet (fail)
        go_wp2_with fail
        exact ⟨⟨k + 1, by omega, by go_num, by rw [HS.out, if_neg HO.out]; go_num, Below.drewN hbr _⟩, by simp [intOf]; omega⟩
    · obtain rfl : k = M := by omega
      obtain ⟨x0, x1, x2, x3, x4, x5, x6, x7, x8, x9, x10, x11⟩ := r0.block
      obtain ⟨y0, y1, y2, y3, y4, y5, y6, y7, y8, y9, y10, y11⟩ := r1.block
      have hle := diffTo_le b.ops d.ops k
      clear r0 r1
      generalize diffTo b.ops d.ops k = x at *
      have t9 := bW.trans (hbr.mono bW.size)
      by_cases hf : b.fin = d.fin
      · have z : sameT b.fin d.fin = true := decide_eq_true hf
        have HO := Lib.hid hf
        clear hf
        go_wp2_with fail
        go_ret
        exact ⟨ret_int (by rw [HDF.out, if_pos HO.out]; rfl), t9⟩
      · have z : sameT b.fin d.fin = false := decide_eq_false hf
        have HO := Lib.hid hf
        clear hf
        go_wp2_with fail
        go_ret
        exact ⟨ret_int (by rw [HDF.out, if_neg HO.out]; go_num), t9⟩
end Go.Proofs.Ytokkngfgppikkab
