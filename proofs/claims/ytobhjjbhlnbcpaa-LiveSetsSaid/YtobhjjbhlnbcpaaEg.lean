/- LiveBefore returns true. Printed by genEg.py of this repository. -/
import Derived.Test.YtobhjjbhlnbcpaaEf
import Derived.Test.YtobhjjbhlnbcpaaGc
namespace Go.Proofs.Ytobhjjbhlnbcpaa
set_option linter.unusedVariables false
set_option linter.unusedSimpArgs false
open Go.RowKit

theorem u8_bounds' {x : Int} (h : (Lit.int .u8 x).wf = true) : 0 ≤ x ∧ x ≤ 255 := by
  simp [Lit.wf] at h
  have h1 : IntKind.u8.min = 0 := by decide
  have h2 : IntKind.u8.max = 255 := by decide
  omega
theorem u16_nat {x : Int} (h : (Lit.int .u16 x).wf = true) : ∃ n : Nat, x = n ∧ n < 65536 := by
  simp [Lit.wf] at h
  have h1 : IntKind.u16.min = 0 := by decide
  have h2 : IntKind.u16.max = 65535 := by decide
  exact ⟨x.toNat, by omega, by omega⟩
theorem tmod_index' {x : Int} {n : Nat} (h0 : 0 ≤ x) (hn : 0 < n) : ∃ i : Nat, i < n ∧ x.tmod n = i := by
  refine ⟨(x.tmod n).toNat, ?_, ?_⟩
  · rw [Int.tmod_eq_emod_of_nonneg h0]
    have := Int.emod_lt_of_pos x (show (0 : Int) < n by omega)
    have := Int.emod_nonneg x (show (n : Int) ≠ 0 by omega)
    omega
  · rw [Int.tmod_eq_emod_of_nonneg h0]
    have := Int.emod_nonneg x (show (n : Int) ≠ 0 by omega)
    omega
theorem andNot_one {n : Nat} (h : n < 65536) : bits BinOp.andNot IntKind.u16 (n : Int) 1 = ((n &&& 65534 : Nat) : Int) := u16_andNot_nat n 1 h (by decide)
theorem even_bit (n : Nat) : (n &&& 65534).testBit 0 = false := by
  rw [Nat.testBit_and, show (65534 : Nat).testBit 0 = false from by decide, Bool.and_false]

set_option maxHeartbeats 8000000 in
set_option maxRecDepth 100000 in
theorem liveBefore_law (w : World) (g : Graph) (wf : g.wf) (A : Option Addr) (c : Nat) (hlc : g.blocks.length ≤ c) (hcm : c ≤ maxLen) (hC : kBlock.C w A g.blocks) (x : Int) (hx : (Lit.int .u8 x).wf = true) (y : Int) (hy : (Lit.int .u8 y).wf = true) (z : Int) (hz : (Lit.int .u16 z).wf = true) : Calls Try.prog 8 #[.agg #[.string g.name, .bool g.keep, .bool g.leaf, .slice A g.blocks.length c], .int .u8 x, .int .u8 y, .int .u16 z] w fun e w' => e = .returned (.bool true) ∧ Below w.heap.size w w' := by
  obtain ⟨hx0, hx1⟩ := u8_bounds' hx
  obtain ⟨hy0, hy1⟩ := u8_bounds' hy
  obtain ⟨n, rfl, hn⟩ := u16_nat hz
  clear hx hy hz wf
  have hlm := Nat.le_trans hlc hcm
  have hlm' : g.blocks.length ≤ 9223372036854775807 := hlm
  have b0 := below_alloc' w (.cells #[.string g.name, .bool g.keep, .bool g.leaf, .slice A g.blocks.length c] 28)
  have r0 : Row (w.alloc (.cells #[.string g.name, .bool g.keep, .bool g.leaf, .slice A g.blocks.length c] 28)) w.heap.size 28 (graphCells (.slice A g.blocks.length c) g) := Row.new w _ _
  cases hr : blocksFew g.blocks with
  | false =>
    have HR := Lib.hid hr
    clear hr
    go_enter Try.func8, Try.ntmps8
    go_upto_region 1 with fail
    generalize w.alloc (.cells #[.string g.name, .bool g.keep, .bool g.leaf, .slice A g.blocks.length c] 28) = W at *
    go_wp2_with fail
    refine (awake19_calls _).mono ?_
    rintro e w1 ⟨rfl, hb1⟩
    obtain ⟨x0, x1, x2, x3⟩ := (r0.below hb1).graph
    have t1 := b0.trans (hb1.mono b0.size)
    go_wp2_with fail
    refine (few_calls _ _ _ _ _ _ _ (Kd.C_mono t1 hC) hlm).mono ?_
    rw [HR.out]
    rintro e w2 ⟨rfl, hb2⟩
    have t2 := t1.trans (hb2.mono t1.size)
    go_wp2_with fail
    refine (awake19_calls _).mono ?_
    rintro e w3 ⟨rfl, hb3⟩
    go_wp2_with fail
    go_ret
    exact ⟨rfl, t2.trans (hb3.mono t2.size)⟩
  | true =>
    have HR := Lib.hid hr
    clear hr
    cases hq : blocksRight g.blocks 1000 1000 with
    | false =>
      have HQ := Lib.hid hq
      clear hq
      go_enter Try.func8, Try.ntmps8
      go_upto_region 1 with fail
      generalize w.alloc (.cells #[.string g.name, .bool g.keep, .bool g.leaf, .slice A g.blocks.length c] 28) = W at *
      go_wp2_with fail
      refine (awake19_calls _).mono ?_
      rintro e w1 ⟨rfl, hb1⟩
      have r1 := r0.below hb1
      obtain ⟨x0, x1, x2, x3⟩ := r1.graph
      have t1 := b0.trans (hb1.mono b0.size)
      go_wp2_with fail
      refine (few_calls _ _ _ _ _ _ _ (Kd.C_mono t1 hC) hlm).mono ?_
      rw [HR.out]
      rintro e w2 ⟨rfl, hb2⟩
      have t2 := t1.trans (hb2.mono t1.size)
      clear x0 x1 x2 x3
      obtain ⟨x0, x1, x2, x3⟩ := (r1.below hb2).graph
      go_wp2_with fail
      refine (right_calls _ _ _ _ _ _ _ _ _ (Kd.C_mono t2 hC) hlm).mono ?_
      rw [HQ.out]
      rintro e w3 ⟨rfl, hb3⟩
      have t3 := t2.trans (hb3.mono t2.size)
      go_wp2_with fail
      refine (awake19_calls _).mono ?_
      rintro e w4 ⟨rfl, hb4⟩
      go_wp2_with fail
      go_ret
      exact ⟨rfl, t3.trans (hb4.mono t3.size)⟩
    | true =>
      have hok : BsOk g.blocks := ⟨1000, 1000, hq⟩
      have hpos := blocksRight_pos hq
      have HQ := Lib.hid hq
      have HOK := Lib.hid hok
      have hfew := blocksFew_parts HR.out
      have HFE := Lib.hid hfew
      clear hq hok hfew
      obtain ⟨i, hi, he⟩ := tmod_index' hx0 hpos
      obtain ⟨b, hbk⟩ := get_some g.blocks i hi
      have hops := HOK.out.ops (List.mem_of_getElem? hbk)
      have hol := HFE.out.2 b (List.mem_of_getElem? hbk)
      have HOPS := Lib.hid hops
      have HBK := Lib.hid hbk
      clear hops hbk
      have hne : g.blocks.length ≠ 0 := by omega
      have z2 : (g.blocks.length == 0) = false := by simpa using hne
      have z3 : ((g.blocks.length : Int) == 0) = false := by simpa using hne
      clear hne
      go_enter Try.func8, Try.ntmps8
      go_upto_region 1 with fail
      generalize w.alloc (.cells #[.string g.name, .bool g.keep, .bool g.leaf, .slice A g.blocks.length c] 28) = W at *
      go_wp2_with fail
      refine (awake19_calls _).mono ?_
      rintro e w1 ⟨rfl, hb1⟩
      have r1 := r0.below hb1
      obtain ⟨x0, x1, x2, x3⟩ := r1.graph
      have t1 := b0.trans (hb1.mono b0.size)
      go_wp2_with fail
      refine (few_calls _ _ _ _ _ _ _ (Kd.C_mono t1 hC) hlm).mono ?_
      rw [HR.out]
      rintro e w2 ⟨rfl, hb2⟩
      have t2 := t1.trans (hb2.mono t1.size)
      have r2 := r1.below hb2
      clear x0 x1 x2 x3
      obtain ⟨x0, x1, x2, x3⟩ := r2.graph
      go_wp2_with fail
      refine (right_calls _ _ _ _ _ _ _ _ _ (Kd.C_mono t2 hC) hlm).mono ?_
      rw [HQ.out]
      rintro e w3 ⟨rfl, hb3⟩
      have t3 := t2.trans (hb3.mono t2.size)
      have r3 := r2.below hb3
      clear x0 x1 x2 x3
      obtain ⟨x0, x1, x2, x3⟩ := r3.graph
      obtain ⟨ad, A0, c0, rfl, f0, f1, f2, f3, f4, f5, f6, f7, f8, f9, f10, f11, -, l0, m0, g0⟩ := Block_at (Kd.C_mono t3 hC) HBK.out
      clear hb1 hb2 hb3 t1 t2 r0 r1 r2 b0 f1 f2 f3 f4 f5 f6 f7 f8 f9 f10 f11 r3
      have wx : IntKind.i64.wrap x = x := IntWalk.i64_in _ (by omega)
      go_upto_region 3 with fail
      go_quiet (fail)
      clear wx
      have hol' : b.ops.length ≤ 9223372036854775807 := by omega
      by_cases hz0 : b.ops.length = 0
      · have y1 : ((b.ops.length : Int) == 0) = true := by simpa using hz0
        have y2 : decide (b.ops.length = 0) = true := by simpa using hz0
        have y3 : (b.ops.length == 0) = true := by simpa using hz0
        clear hz0
        go_wp2_with fail
        go_ret
        exact ⟨rfl, Below.drewN t3 _⟩
      · have y1 : ((b.ops.length : Int) == 0) = false := by simpa using hz0
        have y2 : (b.ops.length == 0) = false := by simpa using hz0
        have hpo : 0 < b.ops.length := by omega
        obtain ⟨k, hk, hke⟩ := tmod_index' hy0 hpo
        obtain ⟨o, ho⟩ := get_some b.ops k hk
        have hro := HOPS.out o (List.mem_of_getElem? ho)
        obtain ⟨ao, rfl, e0, e1, e2, e3, e4, e5, e6, e7, e8, -⟩ := Op_at g0 ho
        clear hz0 ho
        have wy : IntKind.i64.wrap y = y := IntWalk.i64_in _ (by omega)
        have bq := below_alloc' (w3.drewN nq) (.cells #[.int .i64 0, .int .i64 0, .int .i64 0, .int .i64 0, .int .i64 0, .bool false, .int .i64 0, .int .i64 0, .int .i64 0] 45)
        have t3' := Below.drewN t3 nq
        go_upto_region 7 with (refine wpList_put_row rfl 45 _ _ rfl w3.heap.size (opCells o) rfl rfl (Row.new (w3.drewN nq) 45 _) (by kernel_rfl) rfl (opCells_one _) ?_; intro w4 r4 g4 s4; clear s4; replace bq := bq.grown g4 bq.size (fun j hj => by injection hj with hj; subst hj; exact Nat.le_refl _); clear g4)
        have t4 := t3'.trans (bq.mono t3.size)
        generalize w3.heap.size = G at *
        clear bq t3' t3 wy e0 e1 e2 e3 e4 e5 e6 e7 e8 f0 g0 x0 x1 x2 x3 hC he hke hi hk hy0 hy1 hx0 hx1
        have hXl : n &&& 65534 < 65536 := Nat.and_lt_two_pow (n := 16) _ (by decide)
        have hX0 := even_bit n
        have hv := andNot_one hn
        generalize n &&& 65534 = X at *
        have hBl := beforeN_lt hro hXl
        have hB0 := beforeN_bit0 hro hX0
        have hBB : ∀ r : Nat, 1 ≤ r → r ≤ 15 → (beforeN o X).testBit r = beforeB o r (X.testBit r) := fun r h1 h2 => beforeN_bit hro X h1 h2
        have HBL := Lib.hid hBl
        have HB0 := Lib.hid hB0
        have HBB := Lib.hid hBB
        have HXL := Lib.hid hXl
        clear hBl hB0 hBB hXl hX0
        obtain ⟨x0, x1, x2, x3, x4, x5, x6, x7, x8⟩ := r4.op
        go_upto_region 8 with fail
        clear hv hn
        go_wp2_with fail
        refine (before_calls _ hro _ HXL.out _).mono ?_
        rintro e w5 ⟨rfl, hb5⟩
        have r3 := r4.below hb5
        have t5 := t4.trans (hb5.mono t4.size)
        clear x0 x1 x2 x3 x4 x5 x6 x7 x8 r4 t4 hb5
        have R3 := Lib.hid r3
        clear r3
        go_wp2_with fail
        go_loopw [12] (fun v wr => ∃ r : Nat, 1 ≤ r ∧ r ≤ 16 ∧ v = .int .i64 r ∧ Below w5.heap.size w5 wr) (fun v _ => 16 - (intOf v).toNat)
        case atStart => exact ⟨1, Nat.le_refl _, by omega, rfl, Below.refl _ _⟩
        case round =>
          obtain ⟨r, h1, h16, rfl, hbr⟩ := hrel
          have r3 := R3.out.below hbr
          by_cases hlt : r < 16
          · obtain ⟨x0, x1, x2, x3, x4, x5, x6, x7, x8⟩ := r3.op
            go_wp2_with fail
            refine (has_calls _ _ HXL.out (by omega) _).mono ?_
            rintro e w6 ⟨rfl, rfl⟩
            go_wp2_with fail
            refine (refWrites_calls _ _ _ _ _ _).mono ?_
            rintro e w6 ⟨rfl, hb4⟩
            clear x0 x1 x2 x3 x4 x5 x6 x7 x8
            by_cases hwr : refWrites o.ins.op o.ins.a = (r : Int)
            · have hw : (refWrites o.ins.op o.ins.a != (r : Int)) = false := by simp [hwr]
              have hwe : (refWrites o.ins.op o.ins.a == (r : Int)) = true := by simp [hwr]
              have hwd : decide (refWrites o.ins.op o.ins.a = (r : Int)) = true := by simp [hwr]
              clear hwr
              have r4 := r3.below hb4
              obtain ⟨x0, x1, x2, x3, x4, x5, x6, x7, x8⟩ := r4.op
              have z20 : (o.ins.op == 20) = true ∨ (o.ins.op == 20) = false := by cases (o.ins.op == 20) <;> simp
              cases hrr : refReads o.ins.op o.ins.a o.ins.b o.ins.c (r : Int) with
              | true =>
                have hbit : (beforeN o X).testBit r = true := by rw [HBB.out r h1 (by omega)]; unfold beforeB; simp [hrr]
                go_wp2_with fail
                refine (refReads_calls _ _ _ _ _ _ _).mono ?_
                rw [hrr]
                rintro e w5 ⟨rfl, hb5⟩
                have BB := (hbr.trans (hb4.mono hbr.size)).trans (hb5.mono (Nat.le_trans hbr.size hb4.size))
                go_wp2_with fail
                refine (has_calls _ _ HBL.out (by omega) _).mono ?_
                rw [hbit]
                rintro e w6 ⟨rfl, rfl⟩
                go_wp2_with fail
                exact ⟨⟨r + 1, by omega, by omega, by go_num, BB⟩, by simp [intOf]; omega⟩
              | false =>
                go_wp2_with fail
                refine (refReads_calls _ _ _ _ _ _ _).mono ?_
                rw [hrr]
                rintro e w5 ⟨rfl, hb5⟩
                have r5 := r4.below hb5
                clear x0 x1 x2 x3 x4 x5 x6 x7 x8
                have x0 := r5.cell (j := 0) rfl
                have BB := (hbr.trans (hb4.mono hbr.size)).trans (hb5.mono (Nat.le_trans hbr.size hb4.size))
                rcases z20 with z20 | z20
                · have hbit : (beforeN o X).testBit r = true := by rw [HBB.out r h1 (by omega)]; unfold beforeB; rw [if_pos (by simpa using z20)]
                  go_wp2_with fail
                  refine (has_calls _ _ HBL.out (by omega) _).mono ?_
                  rw [hbit]
                  rintro e w6 ⟨rfl, rfl⟩
                  go_wp2_with fail
                  exact ⟨⟨r + 1, by omega, by omega, by go_num, BB⟩, by simp [intOf]; omega⟩
                · have hbit : (beforeN o X).testBit r = false := by rw [HBB.out r h1 (by omega)]; unfold beforeB; rw [if_neg (by simpa using z20)]; simp [hrr, hw]
                  go_wp2_with fail
                  refine (has_calls _ _ HBL.out (by omega) _).mono ?_
                  rw [hbit]
                  rintro e w6 ⟨rfl, rfl⟩
                  go_wp2_with fail
                  exact ⟨⟨r + 1, by omega, by omega, by go_num, BB⟩, by simp [intOf]; omega⟩
            · have hw : (refWrites o.ins.op o.ins.a != (r : Int)) = true := by simp [hwr]
              have hwe : (refWrites o.ins.op o.ins.a == (r : Int)) = false := by simp [hwr]
              have hwd : decide (refWrites o.ins.op o.ins.a = (r : Int)) = false := by simp [hwr]
              clear hwr
              have r4 := r3.below hb4
              obtain ⟨x0, x1, x2, x3, x4, x5, x6, x7, x8⟩ := r4.op
              have z20 : (o.ins.op == 20) = true ∨ (o.ins.op == 20) = false := by cases (o.ins.op == 20) <;> simp
              cases hrr : refReads o.ins.op o.ins.a o.ins.b o.ins.c (r : Int) with
              | true =>
                have hbit : (beforeN o X).testBit r = true := by rw [HBB.out r h1 (by omega)]; unfold beforeB; simp [hrr]
                go_wp2_with fail
                refine (refReads_calls _ _ _ _ _ _ _).mono ?_
                rw [hrr]
                rintro e w5 ⟨rfl, hb5⟩
                have BB := (hbr.trans (hb4.mono hbr.size)).trans (hb5.mono (Nat.le_trans hbr.size hb4.size))
                go_wp2_with fail
                refine (has_calls _ _ HBL.out (by omega) _).mono ?_
                rw [hbit]
                rintro e w6 ⟨rfl, rfl⟩
                go_wp2_with fail
                exact ⟨⟨r + 1, by omega, by omega, by go_num, BB⟩, by simp [intOf]; omega⟩
              | false =>
                go_wp2_with fail
                refine (refReads_calls _ _ _ _ _ _ _).mono ?_
                rw [hrr]
                rintro e w5 ⟨rfl, hb5⟩
                have r5 := r4.below hb5
                clear x0 x1 x2 x3 x4 x5 x6 x7 x8
                have x0 := r5.cell (j := 0) rfl
                have BB := (hbr.trans (hb4.mono hbr.size)).trans (hb5.mono (Nat.le_trans hbr.size hb4.size))
                rcases z20 with z20 | z20
                · have hbit : (beforeN o X).testBit r = true := by rw [HBB.out r h1 (by omega)]; unfold beforeB; rw [if_pos (by simpa using z20)]
                  go_wp2_with fail
                  refine (has_calls _ _ HBL.out (by omega) _).mono ?_
                  rw [hbit]
                  rintro e w6 ⟨rfl, rfl⟩
                  go_wp2_with fail
                  exact ⟨⟨r + 1, by omega, by omega, by go_num, BB⟩, by simp [intOf]; omega⟩
                · have hbit : (beforeN o X).testBit r = X.testBit r := by rw [HBB.out r h1 (by omega)]; unfold beforeB; rw [if_neg (by simpa using z20)]; simp [hrr, hw]
                  go_wp2_with fail
                  refine (has_calls _ _ HBL.out (by omega) _).mono ?_
                  rw [hbit]
                  rintro e w6 ⟨rfl, rfl⟩
                  go_wp2_with fail
                  exact ⟨⟨r + 1, by omega, by omega, by go_num, BB⟩, by simp [intOf]; omega⟩
          · obtain rfl : r = 16 := by omega
            go_wp2_with fail
            refine (has_calls _ 0 HBL.out (by omega) _).mono ?_
            rw [HB0.out]
            rintro e w6 ⟨rfl, rfl⟩
            go_wp2_with fail
            go_ret
            exact ⟨rfl, t5.trans (hbr.mono t5.size)⟩
end Go.Proofs.Ytobhjjbhlnbcpaa
