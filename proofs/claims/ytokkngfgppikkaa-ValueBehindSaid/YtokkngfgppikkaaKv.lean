/- ValueBehind returns true. Printed by genKv.py of this repository. -/
import Derived.Test.YtokkngfgppikkaaKm
import Derived.Test.YtokkngfgppikkaaKo
import Derived.Test.YtokkngfgppikkaaKu
namespace Go.Proofs.Ytokkngfgppikkaa
set_option linter.unusedVariables false
set_option linter.unusedSimpArgs false
open Go.RowKit
attribute [local go_sem high] eqKnown eqKnown_zero

theorem u8_bdv {x : Int} (h : (Lit.int .u8 x).wf = true) : 0 ≤ x ∧ x ≤ 255 := by
  simp [Lit.wf] at h
  have h1 : IntKind.u8.min = 0 := by decide
  have h2 : IntKind.u8.max = 255 := by decide
  omega
theorem tmod_indexv {x : Int} {n : Nat} (h0 : 0 ≤ x) (hn : 0 < n) : ∃ i : Nat, i < n ∧ x.tmod n = i := by
  refine ⟨(x.tmod n).toNat, ?_, ?_⟩
  · rw [Int.tmod_eq_emod_of_nonneg h0]
    have := Int.emod_lt_of_pos x (show (0 : Int) < n by omega)
    have := Int.emod_nonneg x (show (n : Int) ≠ 0 by omega)
    omega
  · rw [Int.tmod_eq_emod_of_nonneg h0]
    have := Int.emod_nonneg x (show (n : Int) ≠ 0 by omega)
    omega
theorem ne_of_beq_false {a b : Int} (h : (a == b) = false) : a ≠ b := by simpa using h
set_option maxHeartbeats 8000000 in
set_option maxRecDepth 100000 in
theorem valueBehind_law (w : World) (k : Known) (hk : k.wf) (g : Graph) (wf : g.wf) (A : Option Addr) (c : Nat) (hlc : g.blocks.length ≤ c) (hcm : c ≤ maxLen) (hC : kBlock.C w A g.blocks) (x : Int) (hx : (Lit.int .u8 x).wf = true) (y : Int) (hy : (Lit.int .u8 y).wf = true) : Calls Try.prog 4 #[.agg (knownCells k).toArray, .agg #[.string g.name, .bool g.keep, .bool g.leaf, .slice A g.blocks.length c], .int .u8 x, .int .u8 y] w fun e w' => e = .returned (.bool true) ∧ Below w.heap.size w w' := by
  obtain ⟨hx0, hx1⟩ := u8_bdv hx
  obtain ⟨hy0, hy1⟩ := u8_bdv hy
  clear hx hy wf
  have hlm := Nat.le_trans hlc hcm
  have hlm' : g.blocks.length ≤ 9223372036854775807 := hlm
  obtain ⟨W, hW, bW, zW, r0, r1⟩ := two_rows w (knownCells k).toArray #[.string g.name, .bool g.keep, .bool g.leaf, .slice A g.blocks.length c] 26 33
  replace r0 : Row W w.heap.size 26 (knownCells k) := r0
  replace r1 : Row W (w.heap.size + 1) 33 (graphCells (.slice A g.blocks.length c) g) := r1
  have HW := Lib.hid hW
  clear hW zW
  cases hra : rightK k with
  | false =>
    have HA := Lib.hid hra
    clear hra
    go_enter Try.func4, Try.ntmps4
    go_upto_region 1 with fail
    rw [← HW.out]
    clear HW
    go_wp2_with fail
    refine (awake20_calls _).mono ?_
    rintro e w1 ⟨rfl, hb1⟩
    have t1 := bW.trans (hb1.mono bW.size)
    replace r0 := r0.below hb1
    replace r1 := r1.below hb1
    go_wp2_with (refine wpList_loadg_known _ k _ hk r0 rfl rfl rfl ?_)
    refine (kright_calls k _ hk).mono ?_
    rw [HA.out]
    rintro e w2 ⟨rfl, hb2⟩
    have t2 := t1.trans (hb2.mono t1.size)
    replace r0 := r0.below hb2
    replace r1 := r1.below hb2
    go_wp2_with fail
    refine (awake20_calls _).mono ?_
    rintro e w9 ⟨rfl, hb9⟩
    go_wp2_with fail
    go_ret
    exact ⟨rfl, t2.trans (hb9.mono t2.size)⟩
  | true =>
    have HA := Lib.hid hra
    clear hra
    cases hr : blocksFew g.blocks with
    | false =>
      have HR := Lib.hid hr
      clear hr
      go_enter Try.func4, Try.ntmps4
      go_upto_region 1 with fail
      rw [← HW.out]
      clear HW
      go_wp2_with fail
      refine (awake20_calls _).mono ?_
      rintro e w1 ⟨rfl, hb1⟩
      have t1 := bW.trans (hb1.mono bW.size)
      replace r0 := r0.below hb1
      replace r1 := r1.below hb1
      go_wp2_with (refine wpList_loadg_known _ k _ hk r0 rfl rfl rfl ?_)
      refine (kright_calls k _ hk).mono ?_
      rw [HA.out]
      rintro e w2 ⟨rfl, hb2⟩
      have t2 := t1.trans (hb2.mono t1.size)
      replace r0 := r0.below hb2
      replace r1 := r1.below hb2
      obtain ⟨x0, x1, x2, x3⟩ := r1.graph
      go_wp2_with fail
      refine (few_calls _ _ _ _ _ _ _ (Kd.C_mono t2 hC) hlm).mono ?_
      rw [HR.out]
      rintro e w3 ⟨rfl, hb3⟩
      have t3 := t2.trans (hb3.mono t2.size)
      replace r0 := r0.below hb3
      replace r1 := r1.below hb3
      clear x0 x1 x2 x3
      go_wp2_with fail
      refine (awake20_calls _).mono ?_
      rintro e w9 ⟨rfl, hb9⟩
      go_wp2_with fail
      go_ret
      exact ⟨rfl, t3.trans (hb9.mono t3.size)⟩
    | true =>
      have HR := Lib.hid hr
      clear hr
      cases hq : blocksRight g.blocks 1000 1000 with
      | false =>
        have HQ := Lib.hid hq
        clear hq
        go_enter Try.func4, Try.ntmps4
        go_upto_region 1 with fail
        rw [← HW.out]
        clear HW
        go_wp2_with fail
        refine (awake20_calls _).mono ?_
        rintro e w1 ⟨rfl, hb1⟩
        have t1 := bW.trans (hb1.mono bW.size)
        replace r0 := r0.below hb1
        replace r1 := r1.below hb1
        go_wp2_with (refine wpList_loadg_known _ k _ hk r0 rfl rfl rfl ?_)
        refine (kright_calls k _ hk).mono ?_
        rw [HA.out]
        rintro e w2 ⟨rfl, hb2⟩
        have t2 := t1.trans (hb2.mono t1.size)
        replace r0 := r0.below hb2
        replace r1 := r1.below hb2
        obtain ⟨x0, x1, x2, x3⟩ := r1.graph
        go_wp2_with fail
        refine (few_calls _ _ _ _ _ _ _ (Kd.C_mono t2 hC) hlm).mono ?_
        rw [HR.out]
        rintro e w3 ⟨rfl, hb3⟩
        have t3 := t2.trans (hb3.mono t2.size)
        replace r0 := r0.below hb3
        replace r1 := r1.below hb3
        clear x0 x1 x2 x3
        obtain ⟨x0, x1, x2, x3⟩ := r1.graph
        go_wp2_with fail
        refine (right_calls _ _ _ _ _ _ _ _ _ (Kd.C_mono t3 hC) hlm).mono ?_
        rw [HQ.out]
        rintro e w4 ⟨rfl, hb4⟩
        have t4 := t3.trans (hb4.mono t3.size)
        replace r0 := r0.below hb4
        replace r1 := r1.below hb4
        clear x0 x1 x2 x3
        go_wp2_with fail
        refine (awake20_calls _).mono ?_
        rintro e w9 ⟨rfl, hb9⟩
        go_wp2_with fail
        go_ret
        exact ⟨rfl, t4.trans (hb9.mono t4.size)⟩
      | true =>
        have hok : BsOk g.blocks := ⟨1000, 1000, hq⟩
        have hpos := blocksRight_pos hq
        have HQ := Lib.hid hq
        have HOK := Lib.hid hok
        have hfew := blocksFew_parts HR.out
        have HFE := Lib.hid hfew
        clear hq hok hfew
        obtain ⟨i, hi, he⟩ := tmod_indexv hx0 hpos
        obtain ⟨b, hbk⟩ := get_some g.blocks i hi
        have hops := HOK.out.ops (List.mem_of_getElem? hbk)
        have hol := HFE.out.2 b (List.mem_of_getElem? hbk)
        have HOPS := Lib.hid hops
        have HBK := Lib.hid hbk
        clear hops hbk
        go_enter Try.func4, Try.ntmps4
        go_upto_region 1 with fail
        rw [← HW.out]
        clear HW
        go_wp2_with fail
        refine (awake20_calls _).mono ?_
        rintro e w1 ⟨rfl, hb1⟩
        have t1 := bW.trans (hb1.mono bW.size)
        replace r0 := r0.below hb1
        replace r1 := r1.below hb1
        go_wp2_with (refine wpList_loadg_known _ k _ hk r0 rfl rfl rfl ?_)
        refine (kright_calls k _ hk).mono ?_
        rw [HA.out]
        rintro e w2 ⟨rfl, hb2⟩
        have t2 := t1.trans (hb2.mono t1.size)
        replace r0 := r0.below hb2
        replace r1 := r1.below hb2
        obtain ⟨x0, x1, x2, x3⟩ := r1.graph
        go_wp2_with fail
        refine (few_calls _ _ _ _ _ _ _ (Kd.C_mono t2 hC) hlm).mono ?_
        rw [HR.out]
        rintro e w3 ⟨rfl, hb3⟩
        have t3 := t2.trans (hb3.mono t2.size)
        replace r0 := r0.below hb3
        replace r1 := r1.below hb3
        clear x0 x1 x2 x3
        obtain ⟨x0, x1, x2, x3⟩ := r1.graph
        go_wp2_with fail
        refine (right_calls _ _ _ _ _ _ _ _ _ (Kd.C_mono t3 hC) hlm).mono ?_
        rw [HQ.out]
        rintro e w4 ⟨rfl, hb4⟩
        have t4 := t3.trans (hb4.mono t3.size)
        replace r0 := r0.below hb4
        replace r1 := r1.below hb4
        clear x0 x1 x2 x3
        obtain ⟨x0, x1, x2, x3⟩ := r1.graph
        obtain ⟨ad, A0, c0, rfl, f0, f1, f2, f3, f4, f5, f6, f7, f8, f9, f10, f11, -, l0, m0, g0⟩ := Block_at (Kd.C_mono t4 hC) HBK.out
        clear hb1 hb2 hb3 hb4 t1 t2 t3 bW
        have wx : IntKind.i64.wrap x = x := IntWalk.i64_in _ (by omega)
        have hne : g.blocks.length ≠ 0 := by omega
        have z2 : (g.blocks.length == 0) = false := by simpa using hne
        have z3 : ((g.blocks.length : Int) == 0) = false := by simpa using hne
        have hiI : (i : Int) < (g.blocks.length : Int) := by omega
        have znil : g.blocks ≠ [] := fun e => hne (by rw [e]; rfl)
        clear hne
        go_upto_region 3 with fail
        refine wp_region_held_drew (S := (fun w' => Below w4.heap.size w4 w')) (by kernel_rfl) ((Below.refl w4.heap.size w4).drew) (fun hHeld => ?_)
        refine wpAnyH_take (i := 0) (oi := _) (v := ?v3m1_1) rfl (by kernel_rfl) (by kernel_rfl) (by kernel_rfl) (fun _ _ _ h => h) (Or.inl ⟨by rfl, ?hy3m1_1⟩) hHeld ?_
        case hy3m1_1 => (intro wS hSw; (try dsimp only at hSw); have cx3 := (Below.cell hSw (World.lt_of_cell x3)).trans x3; have cf0 := (Below.cell hSw (World.lt_of_cell f0)).trans f0; have cf1 := (Below.cell hSw (World.lt_of_cell f1)).trans f1; have cf2 := (Below.cell hSw (World.lt_of_cell f2)).trans f2; have cf3 := (Below.cell hSw (World.lt_of_cell f3)).trans f3; have cf4 := (Below.cell hSw (World.lt_of_cell f4)).trans f4; have cf5 := (Below.cell hSw (World.lt_of_cell f5)).trans f5; have cf6 := (Below.cell hSw (World.lt_of_cell f6)).trans f6; have cf7 := (Below.cell hSw (World.lt_of_cell f7)).trans f7; have cf8 := (Below.cell hSw (World.lt_of_cell f8)).trans f8; have cf9 := (Below.cell hSw (World.lt_of_cell f9)).trans f9; have cf10 := (Below.cell hSw (World.lt_of_cell f10)).trans f10; have cf11 := (Below.cell hSw (World.lt_of_cell f11)).trans f11; clear hSw; go_simp; try with_reducible rfl)
        try simp only [List.getElem_toArray, List.getElem_cons_succ, List.getElem_cons_zero, Act.put, List.setIfInBounds_toArray, List.set_cons_zero, List.set_cons_succ]
        refine wpAnyH_take (i := 1) (oi := _) (v := ?v3m1_2) rfl (by kernel_rfl) (by kernel_rfl) (by kernel_rfl) (fun _ _ _ h => h) (Or.inl ⟨by rfl, ?hy3m1_2⟩) hHeld ?_
        case hy3m1_2 => (intro wS hSw; (try dsimp only at hSw); have cx3 := (Below.cell hSw (World.lt_of_cell x3)).trans x3; have cf0 := (Below.cell hSw (World.lt_of_cell f0)).trans f0; have cf1 := (Below.cell hSw (World.lt_of_cell f1)).trans f1; have cf2 := (Below.cell hSw (World.lt_of_cell f2)).trans f2; have cf3 := (Below.cell hSw (World.lt_of_cell f3)).trans f3; have cf4 := (Below.cell hSw (World.lt_of_cell f4)).trans f4; have cf5 := (Below.cell hSw (World.lt_of_cell f5)).trans f5; have cf6 := (Below.cell hSw (World.lt_of_cell f6)).trans f6; have cf7 := (Below.cell hSw (World.lt_of_cell f7)).trans f7; have cf8 := (Below.cell hSw (World.lt_of_cell f8)).trans f8; have cf9 := (Below.cell hSw (World.lt_of_cell f9)).trans f9; have cf10 := (Below.cell hSw (World.lt_of_cell f10)).trans f10; have cf11 := (Below.cell hSw (World.lt_of_cell f11)).trans f11; clear hSw; go_simp; try with_reducible rfl)
        try simp only [List.getElem_toArray, List.getElem_cons_succ, List.getElem_cons_zero, Act.put, List.setIfInBounds_toArray, List.set_cons_zero, List.set_cons_succ]
        refine wpAnyH_take (i := 2) (oi := _) (v := ?v3m1_3) rfl (by kernel_rfl) (by kernel_rfl) (by kernel_rfl) (fun _ _ _ h => h) (Or.inl ⟨by rfl, ?hy3m1_3⟩) hHeld ?_
        case hy3m1_3 => (intro wS hSw; (try dsimp only at hSw); have cx3 := (Below.cell hSw (World.lt_of_cell x3)).trans x3; have cf0 := (Below.cell hSw (World.lt_of_cell f0)).trans f0; have cf1 := (Below.cell hSw (World.lt_of_cell f1)).trans f1; have cf2 := (Below.cell hSw (World.lt_of_cell f2)).trans f2; have cf3 := (Below.cell hSw (World.lt_of_cell f3)).trans f3; have cf4 := (Below.cell hSw (World.lt_of_cell f4)).trans f4; have cf5 := (Below.cell hSw (World.lt_of_cell f5)).trans f5; have cf6 := (Below.cell hSw (World.lt_of_cell f6)).trans f6; have cf7 := (Below.cell hSw (World.lt_of_cell f7)).trans f7; have cf8 := (Below.cell hSw (World.lt_of_cell f8)).trans f8; have cf9 := (Below.cell hSw (World.lt_of_cell f9)).trans f9; have cf10 := (Below.cell hSw (World.lt_of_cell f10)).trans f10; have cf11 := (Below.cell hSw (World.lt_of_cell f11)).trans f11; clear hSw; go_simp; try with_reducible rfl)
        try simp only [List.getElem_toArray, List.getElem_cons_succ, List.getElem_cons_zero, Act.put, List.setIfInBounds_toArray, List.set_cons_zero, List.set_cons_succ]
        refine wpAnyH_take (i := 3) (oi := _) (v := ?v3m1_4) rfl (by kernel_rfl) (by kernel_rfl) (by kernel_rfl) (fun _ _ _ h => h) (Or.inl ⟨by rfl, ?hy3m1_4⟩) hHeld ?_
        case hy3m1_4 => (intro wS hSw; (try dsimp only at hSw); have cx3 := (Below.cell hSw (World.lt_of_cell x3)).trans x3; have cf0 := (Below.cell hSw (World.lt_of_cell f0)).trans f0; have cf1 := (Below.cell hSw (World.lt_of_cell f1)).trans f1; have cf2 := (Below.cell hSw (World.lt_of_cell f2)).trans f2; have cf3 := (Below.cell hSw (World.lt_of_cell f3)).trans f3; have cf4 := (Below.cell hSw (World.lt_of_cell f4)).trans f4; have cf5 := (Below.cell hSw (World.lt_of_cell f5)).trans f5; have cf6 := (Below.cell hSw (World.lt_of_cell f6)).trans f6; have cf7 := (Below.cell hSw (World.lt_of_cell f7)).trans f7; have cf8 := (Below.cell hSw (World.lt_of_cell f8)).trans f8; have cf9 := (Below.cell hSw (World.lt_of_cell f9)).trans f9; have cf10 := (Below.cell hSw (World.lt_of_cell f10)).trans f10; have cf11 := (Below.cell hSw (World.lt_of_cell f11)).trans f11; clear hSw; go_simp; try with_reducible rfl)
        try simp only [List.getElem_toArray, List.getElem_cons_succ, List.getElem_cons_zero, Act.put, List.setIfInBounds_toArray, List.set_cons_zero, List.set_cons_succ]
        refine wpAnyH_take (i := 4) (oi := _) (v := ?v3m1_5) rfl (by kernel_rfl) (by kernel_rfl) (by kernel_rfl) (fun _ _ _ h => h) (Or.inl ⟨by rfl, ?hy3m1_5⟩) hHeld ?_
        case hy3m1_5 => (intro wS hSw; (try dsimp only at hSw); have cx3 := (Below.cell hSw (World.lt_of_cell x3)).trans x3; have cf0 := (Below.cell hSw (World.lt_of_cell f0)).trans f0; have cf1 := (Below.cell hSw (World.lt_of_cell f1)).trans f1; have cf2 := (Below.cell hSw (World.lt_of_cell f2)).trans f2; have cf3 := (Below.cell hSw (World.lt_of_cell f3)).trans f3; have cf4 := (Below.cell hSw (World.lt_of_cell f4)).trans f4; have cf5 := (Below.cell hSw (World.lt_of_cell f5)).trans f5; have cf6 := (Below.cell hSw (World.lt_of_cell f6)).trans f6; have cf7 := (Below.cell hSw (World.lt_of_cell f7)).trans f7; have cf8 := (Below.cell hSw (World.lt_of_cell f8)).trans f8; have cf9 := (Below.cell hSw (World.lt_of_cell f9)).trans f9; have cf10 := (Below.cell hSw (World.lt_of_cell f10)).trans f10; have cf11 := (Below.cell hSw (World.lt_of_cell f11)).trans f11; clear hSw; go_simp; try with_reducible rfl)
        try simp only [List.getElem_toArray, List.getElem_cons_succ, List.getElem_cons_zero, Act.put, List.setIfInBounds_toArray, List.set_cons_zero, List.set_cons_succ]
        refine wpAnyH_take (i := 5) (oi := _) (v := ?v3m1_6) rfl (by kernel_rfl) (by kernel_rfl) (by kernel_rfl) (fun _ _ _ h => h) (Or.inl ⟨by rfl, ?hy3m1_6⟩) hHeld ?_
        case hy3m1_6 => (intro wS hSw; (try dsimp only at hSw); have cx3 := (Below.cell hSw (World.lt_of_cell x3)).trans x3; have cf0 := (Below.cell hSw (World.lt_of_cell f0)).trans f0; have cf1 := (Below.cell hSw (World.lt_of_cell f1)).trans f1; have cf2 := (Below.cell hSw (World.lt_of_cell f2)).trans f2; have cf3 := (Below.cell hSw (World.lt_of_cell f3)).trans f3; have cf4 := (Below.cell hSw (World.lt_of_cell f4)).trans f4; have cf5 := (Below.cell hSw (World.lt_of_cell f5)).trans f5; have cf6 := (Below.cell hSw (World.lt_of_cell f6)).trans f6; have cf7 := (Below.cell hSw (World.lt_of_cell f7)).trans f7; have cf8 := (Below.cell hSw (World.lt_of_cell f8)).trans f8; have cf9 := (Below.cell hSw (World.lt_of_cell f9)).trans f9; have cf10 := (Below.cell hSw (World.lt_of_cell f10)).trans f10; have cf11 := (Below.cell hSw (World.lt_of_cell f11)).trans f11; clear hSw; go_simp; try with_reducible rfl)
        try simp only [List.getElem_toArray, List.getElem_cons_succ, List.getElem_cons_zero, Act.put, List.setIfInBounds_toArray, List.set_cons_zero, List.set_cons_succ]
        refine wpAnyH_take (i := 6) (oi := _) (v := ?v3m1_7) rfl (by kernel_rfl) (by kernel_rfl) (by kernel_rfl) (fun _ _ _ h => h) (Or.inl ⟨by rfl, ?hy3m1_7⟩) hHeld ?_
        case hy3m1_7 => (intro wS hSw; (try dsimp only at hSw); have cx3 := (Below.cell hSw (World.lt_of_cell x3)).trans x3; have cf0 := (Below.cell hSw (World.lt_of_cell f0)).trans f0; have cf1 := (Below.cell hSw (World.lt_of_cell f1)).trans f1; have cf2 := (Below.cell hSw (World.lt_of_cell f2)).trans f2; have cf3 := (Below.cell hSw (World.lt_of_cell f3)).trans f3; have cf4 := (Below.cell hSw (World.lt_of_cell f4)).trans f4; have cf5 := (Below.cell hSw (World.lt_of_cell f5)).trans f5; have cf6 := (Below.cell hSw (World.lt_of_cell f6)).trans f6; have cf7 := (Below.cell hSw (World.lt_of_cell f7)).trans f7; have cf8 := (Below.cell hSw (World.lt_of_cell f8)).trans f8; have cf9 := (Below.cell hSw (World.lt_of_cell f9)).trans f9; have cf10 := (Below.cell hSw (World.lt_of_cell f10)).trans f10; have cf11 := (Below.cell hSw (World.lt_of_cell f11)).trans f11; clear hSw; go_simp; try with_reducible rfl)
        try simp only [List.getElem_toArray, List.getElem_cons_succ, List.getElem_cons_zero, Act.put, List.setIfInBounds_toArray, List.set_cons_zero, List.set_cons_succ]
        refine wpAnyH_take (i := 7) (oi := _) (v := ?v3m1_8) rfl (by kernel_rfl) (by kernel_rfl) (by kernel_rfl) (fun _ _ _ h => h) (Or.inl ⟨by rfl, ?hy3m1_8⟩) hHeld ?_
        case hy3m1_8 => (intro wS hSw; (try dsimp only at hSw); have cx3 := (Below.cell hSw (World.lt_of_cell x3)).trans x3; have cf0 := (Below.cell hSw (World.lt_of_cell f0)).trans f0; have cf1 := (Below.cell hSw (World.lt_of_cell f1)).trans f1; have cf2 := (Below.cell hSw (World.lt_of_cell f2)).trans f2; have cf3 := (Below.cell hSw (World.lt_of_cell f3)).trans f3; have cf4 := (Below.cell hSw (World.lt_of_cell f4)).trans f4; have cf5 := (Below.cell hSw (World.lt_of_cell f5)).trans f5; have cf6 := (Below.cell hSw (World.lt_of_cell f6)).trans f6; have cf7 := (Below.cell hSw (World.lt_of_cell f7)).trans f7; have cf8 := (Below.cell hSw (World.lt_of_cell f8)).trans f8; have cf9 := (Below.cell hSw (World.lt_of_cell f9)).trans f9; have cf10 := (Below.cell hSw (World.lt_of_cell f10)).trans f10; have cf11 := (Below.cell hSw (World.lt_of_cell f11)).trans f11; clear hSw; go_simp; try with_reducible rfl)
        try simp only [List.getElem_toArray, List.getElem_cons_succ, List.getElem_cons_zero, Act.put, List.setIfInBounds_toArray, List.set_cons_zero, List.set_cons_succ]
        refine wpAnyH_take (i := 8) (oi := _) (v := ?v3m1_9) rfl (by kernel_rfl) (by kernel_rfl) (by kernel_rfl) (fun _ _ _ h => h) (Or.inl ⟨by rfl, ?hy3m1_9⟩) hHeld ?_
        case hy3m1_9 => (intro wS hSw; (try dsimp only at hSw); have cx3 := (Below.cell hSw (World.lt_of_cell x3)).trans x3; have cf0 := (Below.cell hSw (World.lt_of_cell f0)).trans f0; have cf1 := (Below.cell hSw (World.lt_of_cell f1)).trans f1; have cf2 := (Below.cell hSw (World.lt_of_cell f2)).trans f2; have cf3 := (Below.cell hSw (World.lt_of_cell f3)).trans f3; have cf4 := (Below.cell hSw (World.lt_of_cell f4)).trans f4; have cf5 := (Below.cell hSw (World.lt_of_cell f5)).trans f5; have cf6 := (Below.cell hSw (World.lt_of_cell f6)).trans f6; have cf7 := (Below.cell hSw (World.lt_of_cell f7)).trans f7; have cf8 := (Below.cell hSw (World.lt_of_cell f8)).trans f8; have cf9 := (Below.cell hSw (World.lt_of_cell f9)).trans f9; have cf10 := (Below.cell hSw (World.lt_of_cell f10)).trans f10; have cf11 := (Below.cell hSw (World.lt_of_cell f11)).trans f11; clear hSw; go_simp; try with_reducible rfl)
        try simp only [List.getElem_toArray, List.getElem_cons_succ, List.getElem_cons_zero, Act.put, List.setIfInBounds_toArray, List.set_cons_zero, List.set_cons_succ]
        refine wpAnyH_take (i := 9) (oi := _) (v := ?v3m1_10) rfl (by kernel_rfl) (by kernel_rfl) (by kernel_rfl) (fun _ _ _ h => h) (Or.inl ⟨by rfl, ?hy3m1_10⟩) hHeld ?_
        case hy3m1_10 => (intro wS hSw; (try dsimp only at hSw); have cx3 := (Below.cell hSw (World.lt_of_cell x3)).trans x3; have cf0 := (Below.cell hSw (World.lt_of_cell f0)).trans f0; have cf1 := (Below.cell hSw (World.lt_of_cell f1)).trans f1; have cf2 := (Below.cell hSw (World.lt_of_cell f2)).trans f2; have cf3 := (Below.cell hSw (World.lt_of_cell f3)).trans f3; have cf4 := (Below.cell hSw (World.lt_of_cell f4)).trans f4; have cf5 := (Below.cell hSw (World.lt_of_cell f5)).trans f5; have cf6 := (Below.cell hSw (World.lt_of_cell f6)).trans f6; have cf7 := (Below.cell hSw (World.lt_of_cell f7)).trans f7; have cf8 := (Below.cell hSw (World.lt_of_cell f8)).trans f8; have cf9 := (Below.cell hSw (World.lt_of_cell f9)).trans f9; have cf10 := (Below.cell hSw (World.lt_of_cell f10)).trans f10; have cf11 := (Below.cell hSw (World.lt_of_cell f11)).trans f11; clear hSw; go_simp; try with_reducible rfl)
        try simp only [List.getElem_toArray, List.getElem_cons_succ, List.getElem_cons_zero, Act.put, List.setIfInBounds_toArray, List.set_cons_zero, List.set_cons_succ]
        refine wpAnyH_ready (rs := [10]) (by kernel_rfl) (by simp) ?_
        refine (AllReadyH.cons (o := _) rfl (fun K hK => ?_) AllReadyH.nil)
        go_simp
        have rn : Row (w4.drew.alloc (.cells #[.slice none 0 0, .int .i64 0, .int .i64 0, .int .i64 0, .int .i64 0, .int .i64 0, .int .i64 0, .int .i64 0, .int .i64 0, .int .i64 0, .int .i64 0, .int .i64 0] 42)) w4.heap.size 42 _ := Row.new _ _ _
        refine hK.out _ _ (Below.alloc hHeld hHeld.size _) (fun hHeld11 => ?_)
        clear hK K hHeld
        try simp only [List.getElem_toArray, List.getElem_cons_succ, List.getElem_cons_zero, Act.put, List.setIfInBounds_toArray, List.set_cons_zero, List.set_cons_succ]
        refine wpAnyH_ready (rs := [11]) (by kernel_rfl) (by simp) ?_
        refine (AllReadyH.cons (o := _) rfl (fun K hK => ?_) AllReadyH.nil)
        refine step_put_row rfl _ _ _ rfl (w4.heap.size) (blockCells (.slice A0 b.ops.length c0) b) rfl rfl rn (by kernel_rfl) rfl (blockCells_one _) ?_
        intro w5 r5 g7 s7
        clear s7
        refine hK.out _ _ (Below.grown hHeld11 g7 (Below.size hHeld11) (fun j hj => by injection hj with hj; subst hj; exact Nat.le_refl _)) (fun hHeld12 => ?_)
        clear hK K hHeld11
        try simp only [List.getElem_toArray, List.getElem_cons_succ, List.getElem_cons_zero, Act.put, List.setIfInBounds_toArray, List.set_cons_zero, List.set_cons_succ]
        refine wpAnyH_done (by kernel_rfl) ?_ _
        have bz := hHeld12
        clear znil wx z2 z3 f0 f1 f2 f3 f4 f5 f6 f7 f8 f9 f10 f11 x0 x1 x2 x3 he hi hiI rn g7 r1
        have t5 := t4.trans (bz.mono t4.size)
        have hlt0 := r0.lt
        replace r0 := r0.below bz
        replace g0 := Kd.C_mono bz g0
        generalize w4.heap.size = Gb at *
        clear bz
        have p0 := r5.cell (j := 0) rfl
        have hltb := r5.lt
        have hol' : b.ops.length ≤ 9223372036854775807 := by omega
        by_cases hz0 : b.ops.length = 0
        · have y1 : decide (0 < b.ops.length) = false := by simp [hz0]
          have y2 : (b.ops.length == 0) = true := by simp [hz0]
          have y3 : decide (0 < (b.ops.length : Int)) = false := by simp [hz0]
          go_upto_region 8 with fail
          clear y1 y2 y3 hz0 p0 g0
          have tz := t5
          obtain ⟨y0, y1, y2, y3, y4, y5, y6, y7, y8, y9, y10, y11⟩ := r5.block
          by_cases hk2 : b.fin.kind = 2
          · have v2 : (b.fin.kind != 2) = false := by simp [hk2]
            obtain ⟨f, hfr⟩ := HOK.out.fin (List.mem_of_getElem? HBK.out)
            obtain ⟨-, -, ho, ha, hb⟩ := Term.right_branch hfr hk2
            have haT : 0 ≤ b.fin.a ∧ b.fin.a < 16 := by omega
            have hbT : 0 ≤ b.fin.b ∧ b.fin.b < 16 := by omega
            obtain ⟨na, hna'⟩ := Int.eq_ofNat_of_zero_le haT.1
            obtain ⟨nb, hnb'⟩ := Int.eq_ofNat_of_zero_le hbT.1
            have hna : na < 16 := by omega
            have hnb : nb < 16 := by omega
            have haI : (na : Int) < 16 := by omega
            have hbI : (nb : Int) < 16 := by omega
            have hta : b.fin.a.toNat = na := by omega
            have htb : b.fin.b.toNat = nb := by omega
            have htk : takenK k b.fin = if (!k.reached || (!k.isAt na || !k.isAt nb)) = true then (false, false) else (aluTaken b.fin.op (k.wAt na) (k.wAt nb), true) := by unfold takenK; rw [hta, htb]
            have hgo : goesK k b.fin b.fin.to = if (k.isAt na && k.isAt nb) = false then b.fin.to == b.fin.to || b.fin.els == b.fin.to else if aluTaken b.fin.op (k.wAt na) (k.wAt nb) = true then b.fin.to == b.fin.to else b.fin.els == b.fin.to := by unfold goesK; rw [if_neg (by rw [hk2]; decide), if_neg (by simp [hk2]), hta, htb]
            have HNA := Lib.hid hna'
            have HNB := Lib.hid hnb'
            have HTK := Lib.hid htk
            have HGO := Lib.hid hgo
            clear hk2 hfr ho ha hb hta htb hna' hnb' htk hgo
            cases hre : k.reached with
            | false =>
              have ht : takenK k b.fin = (false, false) := by rw [HTK.out, hre]; rfl
              have HT := Lib.hid ht
              clear ht
              have H0 := Lib.hid hre
              clear hre
              go_wp2_with (refine wpList_load_known _ k _ hk r0 rfl rfl rfl ?_)
              refine (taken_calls k b.fin _ hk haT hbT).mono ?_
              rw [HT.out]
              rintro e w9 ⟨rfl, hb9⟩
              have t9 := tz.trans (hb9.mono tz.size)
              replace r0 := r0.below hb9
              replace r5 := r5.below hb9
              clear y0 y1 y2 y3 y4 y5 y6 y7 y8 y9 y10 y11
              obtain ⟨y0, y1, y2, y3, y4, y5, y6, y7, y8, y9, y10, y11⟩ := r5.block
              rw [HNA.out] at y3
              rw [HNB.out] at y4
              have c0 := r0.cell (knownCells_re k)
              have c1 := r0.kis hk hna
              have c2 := r0.kis hk hnb
              rw [H0.out] at c0
              go_wp2_with fail
              go_ret
              exact ⟨rfl, t9⟩
            | true =>
              cases hia : k.isAt na with
              | false =>
                have ht : takenK k b.fin = (false, false) := by rw [HTK.out, hre, hia]; rfl
                have HT := Lib.hid ht
                clear ht
                have H0 := Lib.hid hre
                have H1 := Lib.hid hia
                clear hre hia
                go_wp2_with (refine wpList_load_known _ k _ hk r0 rfl rfl rfl ?_)
                refine (taken_calls k b.fin _ hk haT hbT).mono ?_
                rw [HT.out]
                rintro e w9 ⟨rfl, hb9⟩
                have t9 := tz.trans (hb9.mono tz.size)
                replace r0 := r0.below hb9
                replace r5 := r5.below hb9
                clear y0 y1 y2 y3 y4 y5 y6 y7 y8 y9 y10 y11
                obtain ⟨y0, y1, y2, y3, y4, y5, y6, y7, y8, y9, y10, y11⟩ := r5.block
                rw [HNA.out] at y3
                rw [HNB.out] at y4
                have c0 := r0.cell (knownCells_re k)
                have c1 := r0.kis hk hna
                have c2 := r0.kis hk hnb
                rw [H0.out] at c0
                rw [H1.out] at c1
                go_wp2_with fail
                go_ret
                exact ⟨rfl, t9⟩
              | true =>
                cases hib : k.isAt nb with
                | false =>
                  have ht : takenK k b.fin = (false, false) := by rw [HTK.out, hre, hia, hib]; rfl
                  have HT := Lib.hid ht
                  clear ht
                  have H0 := Lib.hid hre
                  have H1 := Lib.hid hia
                  have H2 := Lib.hid hib
                  clear hre hia hib
                  go_wp2_with (refine wpList_load_known _ k _ hk r0 rfl rfl rfl ?_)
                  refine (taken_calls k b.fin _ hk haT hbT).mono ?_
                  rw [HT.out]
                  rintro e w9 ⟨rfl, hb9⟩
                  have t9 := tz.trans (hb9.mono tz.size)
                  replace r0 := r0.below hb9
                  replace r5 := r5.below hb9
                  clear y0 y1 y2 y3 y4 y5 y6 y7 y8 y9 y10 y11
                  obtain ⟨y0, y1, y2, y3, y4, y5, y6, y7, y8, y9, y10, y11⟩ := r5.block
                  rw [HNA.out] at y3
                  rw [HNB.out] at y4
                  have c0 := r0.cell (knownCells_re k)
                  have c1 := r0.kis hk hna
                  have c2 := r0.kis hk hnb
                  rw [H0.out] at c0
                  rw [H1.out] at c1
                  rw [H2.out] at c2
                  go_wp2_with fail
                  go_ret
                  exact ⟨rfl, t9⟩
                | true =>
                  cases hal : aluTaken b.fin.op (k.wAt na) (k.wAt nb) with
                  | true =>
                    have ht : takenK k b.fin = (true, true) := by rw [HTK.out, hre, hia, hib, hal]; rfl
                    have hg : goesK k b.fin b.fin.to = true := by rw [HGO.out, hia, hib, hal]; simp
                    clear hal
                    have HG := Lib.hid hg
                    have HT := Lib.hid ht
                    have H0 := Lib.hid hre
                    have H1 := Lib.hid hia
                    have H2 := Lib.hid hib
                    clear hg ht hre hia hib
                    go_wp2_with (refine wpList_load_known _ k _ hk r0 rfl rfl rfl ?_)
                    refine (taken_calls k b.fin _ hk haT hbT).mono ?_
                    rw [HT.out]
                    rintro e w9 ⟨rfl, hb9⟩
                    have t9 := tz.trans (hb9.mono tz.size)
                    replace r0 := r0.below hb9
                    replace r5 := r5.below hb9
                    clear y0 y1 y2 y3 y4 y5 y6 y7 y8 y9 y10 y11
                    obtain ⟨y0, y1, y2, y3, y4, y5, y6, y7, y8, y9, y10, y11⟩ := r5.block
                    rw [HNA.out] at y3
                    rw [HNB.out] at y4
                    have c0 := r0.cell (knownCells_re k)
                    have c1 := r0.kis hk hna
                    have c2 := r0.kis hk hnb
                    rw [H0.out] at c0
                    rw [H1.out] at c1
                    rw [H2.out] at c2
                    go_wp2_with (refine wpList_loadg_known _ k _ hk r0 rfl rfl rfl ?_)
                    have hgc := fun W => refGoes_calls k b.fin b.fin.to W hk (fun _ => ⟨haT, hbT⟩)
                    simp only [HNA.out, HNB.out, HG.out] at hgc
                    refine (hgc _).mono ?_
                    clear hgc
                    rintro e w10 ⟨rfl, hb10⟩
                    have t10 := t9.trans (hb10.mono t9.size)
                    replace r5 := r5.below hb10
                    clear y0 y1 y2 y3 y4 y5 y6 y7 y8 y9 y10 y11 c0 c1 c2
                    obtain ⟨y0, y1, y2, y3, y4, y5, y6, y7, y8, y9, y10, y11⟩ := r5.block
                    go_wp2_with fail
                    go_ret
                    exact ⟨rfl, t10⟩
                  | false =>
                    have ht : takenK k b.fin = (false, true) := by rw [HTK.out, hre, hia, hib, hal]; rfl
                    cases hz : (b.fin.els == b.fin.to) with
                    | true =>
                      have hz2 : (b.fin.to == b.fin.els) = true := by have := eq_of_beq hz; simp [this]
                      have hg : goesK k b.fin b.fin.to = true := by rw [HGO.out, hia, hib, hal, hz]; rfl
                      clear hal hz
                      have HG := Lib.hid hg
                      have HT := Lib.hid ht
                      have H0 := Lib.hid hre
                      have H1 := Lib.hid hia
                      have H2 := Lib.hid hib
                      clear hg ht hre hia hib
                      go_wp2_with (refine wpList_load_known _ k _ hk r0 rfl rfl rfl ?_)
                      refine (taken_calls k b.fin _ hk haT hbT).mono ?_
                      rw [HT.out]
                      rintro e w9 ⟨rfl, hb9⟩
                      have t9 := tz.trans (hb9.mono tz.size)
                      replace r0 := r0.below hb9
                      replace r5 := r5.below hb9
                      clear y0 y1 y2 y3 y4 y5 y6 y7 y8 y9 y10 y11
                      obtain ⟨y0, y1, y2, y3, y4, y5, y6, y7, y8, y9, y10, y11⟩ := r5.block
                      rw [HNA.out] at y3
                      rw [HNB.out] at y4
                      have c0 := r0.cell (knownCells_re k)
                      have c1 := r0.kis hk hna
                      have c2 := r0.kis hk hnb
                      rw [H0.out] at c0
                      rw [H1.out] at c1
                      rw [H2.out] at c2
                      go_wp2_with (refine wpList_loadg_known _ k _ hk r0 rfl rfl rfl ?_)
                      have hgc := fun W => refGoes_calls k b.fin b.fin.to W hk (fun _ => ⟨haT, hbT⟩)
                      simp only [HNA.out, HNB.out, HG.out] at hgc
                      refine (hgc _).mono ?_
                      clear hgc
                      rintro e w10 ⟨rfl, hb10⟩
                      have t10 := t9.trans (hb10.mono t9.size)
                      replace r5 := r5.below hb10
                      clear y0 y1 y2 y3 y4 y5 y6 y7 y8 y9 y10 y11 c0 c1 c2
                      obtain ⟨y0, y1, y2, y3, y4, y5, y6, y7, y8, y9, y10, y11⟩ := r5.block
                      go_wp2_with fail
                      go_ret
                      exact ⟨rfl, t10⟩
                    | false =>
                      have hz2 : (b.fin.to == b.fin.els) = false := by have := ne_of_beq_false hz; simp; exact fun e => this e.symm
                      have hg : goesK k b.fin b.fin.to = false := by rw [HGO.out, hia, hib, hal, hz]; rfl
                      clear hal hz
                      have HG := Lib.hid hg
                      have HT := Lib.hid ht
                      have H0 := Lib.hid hre
                      have H1 := Lib.hid hia
                      have H2 := Lib.hid hib
                      clear hg ht hre hia hib
                      go_wp2_with (refine wpList_load_known _ k _ hk r0 rfl rfl rfl ?_)
                      refine (taken_calls k b.fin _ hk haT hbT).mono ?_
                      rw [HT.out]
                      rintro e w9 ⟨rfl, hb9⟩
                      have t9 := tz.trans (hb9.mono tz.size)
                      replace r0 := r0.below hb9
                      replace r5 := r5.below hb9
                      clear y0 y1 y2 y3 y4 y5 y6 y7 y8 y9 y10 y11
                      obtain ⟨y0, y1, y2, y3, y4, y5, y6, y7, y8, y9, y10, y11⟩ := r5.block
                      rw [HNA.out] at y3
                      rw [HNB.out] at y4
                      have c0 := r0.cell (knownCells_re k)
                      have c1 := r0.kis hk hna
                      have c2 := r0.kis hk hnb
                      rw [H0.out] at c0
                      rw [H1.out] at c1
                      rw [H2.out] at c2
                      go_wp2_with (refine wpList_loadg_known _ k _ hk r0 rfl rfl rfl ?_)
                      have hgc := fun W => refGoes_calls k b.fin b.fin.to W hk (fun _ => ⟨haT, hbT⟩)
                      simp only [HNA.out, HNB.out, HG.out] at hgc
                      refine (hgc _).mono ?_
                      clear hgc
                      rintro e w10 ⟨rfl, hb10⟩
                      have t10 := t9.trans (hb10.mono t9.size)
                      replace r5 := r5.below hb10
                      clear y0 y1 y2 y3 y4 y5 y6 y7 y8 y9 y10 y11 c0 c1 c2
                      obtain ⟨y0, y1, y2, y3, y4, y5, y6, y7, y8, y9, y10, y11⟩ := r5.block
                      go_wp2_with fail
                      go_ret
                      exact ⟨rfl, t10⟩
          · have v2 : (b.fin.kind != 2) = true := by simp [hk2]
            clear hk2
            go_wp2_with fail
            go_ret
            exact ⟨rfl, tz⟩
        · have hpo : 0 < b.ops.length := by omega
          have y1 : decide (0 < b.ops.length) = true := by simp; omega
          have y3 : decide (0 < (b.ops.length : Int)) = true := by simp; omega
          obtain ⟨m, hm, hme⟩ := tmod_indexv hy0 hpo
          obtain ⟨o, ho⟩ := get_some b.ops m hm
          have hro := HOPS.out o (List.mem_of_getElem? ho)
          obtain ⟨ao, rfl, e0, e1, e2, e3, e4, e5, e6, e7, e8, -⟩ := Op_at g0 ho
          have HRO := Lib.hid hro
          clear ho hro
          have wy : IntKind.i64.wrap y = y := IntWalk.i64_in _ (by omega)
          have z2 : (b.ops.length == 0) = false := by simpa using hz0
          have z3 : ((b.ops.length : Int) == 0) = false := by simpa using hz0
          have hmI : (m : Int) < (b.ops.length : Int) := by omega
          have znil : b.ops ≠ [] := fun e => hz0 (by rw [e]; rfl)
          clear hz0
          go_upto_region 5 with fail
          refine wp_region_held_drew (S := (fun w' => Below w5.heap.size w5 w')) (by kernel_rfl) ((Below.refl w5.heap.size w5).drew) (fun hHeld => ?_)
          refine wpAnyH_take (i := 0) (oi := _) (v := ?v5m2_1) rfl (by kernel_rfl) (by kernel_rfl) (by kernel_rfl) (fun _ _ _ h => h) (Or.inl ⟨by rfl, ?hy5m2_1⟩) hHeld ?_
          case hy5m2_1 => (intro wS hSw; (try dsimp only at hSw); have cp0 := (Below.cell hSw (World.lt_of_cell p0)).trans p0; have ce0 := (Below.cell hSw (World.lt_of_cell e0)).trans e0; have ce1 := (Below.cell hSw (World.lt_of_cell e1)).trans e1; have ce2 := (Below.cell hSw (World.lt_of_cell e2)).trans e2; have ce3 := (Below.cell hSw (World.lt_of_cell e3)).trans e3; have ce4 := (Below.cell hSw (World.lt_of_cell e4)).trans e4; have ce5 := (Below.cell hSw (World.lt_of_cell e5)).trans e5; have ce6 := (Below.cell hSw (World.lt_of_cell e6)).trans e6; have ce7 := (Below.cell hSw (World.lt_of_cell e7)).trans e7; have ce8 := (Below.cell hSw (World.lt_of_cell e8)).trans e8; clear hSw; go_simp; try with_reducible rfl)
          try simp only [List.getElem_toArray, List.getElem_cons_succ, List.getElem_cons_zero, Act.put, List.setIfInBounds_toArray, List.set_cons_zero, List.set_cons_succ]
          refine wpAnyH_take (i := 1) (oi := _) (v := ?v5m2_2) rfl (by kernel_rfl) (by kernel_rfl) (by kernel_rfl) (fun _ _ _ h => h) (Or.inl ⟨by rfl, ?hy5m2_2⟩) hHeld ?_
          case hy5m2_2 => (intro wS hSw; (try dsimp only at hSw); have cp0 := (Below.cell hSw (World.lt_of_cell p0)).trans p0; have ce0 := (Below.cell hSw (World.lt_of_cell e0)).trans e0; have ce1 := (Below.cell hSw (World.lt_of_cell e1)).trans e1; have ce2 := (Below.cell hSw (World.lt_of_cell e2)).trans e2; have ce3 := (Below.cell hSw (World.lt_of_cell e3)).trans e3; have ce4 := (Below.cell hSw (World.lt_of_cell e4)).trans e4; have ce5 := (Below.cell hSw (World.lt_of_cell e5)).trans e5; have ce6 := (Below.cell hSw (World.lt_of_cell e6)).trans e6; have ce7 := (Below.cell hSw (World.lt_of_cell e7)).trans e7; have ce8 := (Below.cell hSw (World.lt_of_cell e8)).trans e8; clear hSw; go_simp; try with_reducible rfl)
          try simp only [List.getElem_toArray, List.getElem_cons_succ, List.getElem_cons_zero, Act.put, List.setIfInBounds_toArray, List.set_cons_zero, List.set_cons_succ]
          refine wpAnyH_take (i := 2) (oi := _) (v := ?v5m2_3) rfl (by kernel_rfl) (by kernel_rfl) (by kernel_rfl) (fun _ _ _ h => h) (Or.inl ⟨by rfl, ?hy5m2_3⟩) hHeld ?_
          case hy5m2_3 => (intro wS hSw; (try dsimp only at hSw); have cp0 := (Below.cell hSw (World.lt_of_cell p0)).trans p0; have ce0 := (Below.cell hSw (World.lt_of_cell e0)).trans e0; have ce1 := (Below.cell hSw (World.lt_of_cell e1)).trans e1; have ce2 := (Below.cell hSw (World.lt_of_cell e2)).trans e2; have ce3 := (Below.cell hSw (World.lt_of_cell e3)).trans e3; have ce4 := (Below.cell hSw (World.lt_of_cell e4)).trans e4; have ce5 := (Below.cell hSw (World.lt_of_cell e5)).trans e5; have ce6 := (Below.cell hSw (World.lt_of_cell e6)).trans e6; have ce7 := (Below.cell hSw (World.lt_of_cell e7)).trans e7; have ce8 := (Below.cell hSw (World.lt_of_cell e8)).trans e8; clear hSw; go_simp; try with_reducible rfl)
          try simp only [List.getElem_toArray, List.getElem_cons_succ, List.getElem_cons_zero, Act.put, List.setIfInBounds_toArray, List.set_cons_zero, List.set_cons_succ]
          refine wpAnyH_take (i := 3) (oi := _) (v := ?v5m2_4) rfl (by kernel_rfl) (by kernel_rfl) (by kernel_rfl) (fun _ _ _ h => h) (Or.inl ⟨by rfl, ?hy5m2_4⟩) hHeld ?_
          case hy5m2_4 => (intro wS hSw; (try dsimp only at hSw); have cp0 := (Below.cell hSw (World.lt_of_cell p0)).trans p0; have ce0 := (Below.cell hSw (World.lt_of_cell e0)).trans e0; have ce1 := (Below.cell hSw (World.lt_of_cell e1)).trans e1; have ce2 := (Below.cell hSw (World.lt_of_cell e2)).trans e2; have ce3 := (Below.cell hSw (World.lt_of_cell e3)).trans e3; have ce4 := (Below.cell hSw (World.lt_of_cell e4)).trans e4; have ce5 := (Below.cell hSw (World.lt_of_cell e5)).trans e5; have ce6 := (Below.cell hSw (World.lt_of_cell e6)).trans e6; have ce7 := (Below.cell hSw (World.lt_of_cell e7)).trans e7; have ce8 := (Below.cell hSw (World.lt_of_cell e8)).trans e8; clear hSw; go_simp; try with_reducible rfl)
          try simp only [List.getElem_toArray, List.getElem_cons_succ, List.getElem_cons_zero, Act.put, List.setIfInBounds_toArray, List.set_cons_zero, List.set_cons_succ]
          refine wpAnyH_take (i := 4) (oi := _) (v := ?v5m2_5) rfl (by kernel_rfl) (by kernel_rfl) (by kernel_rfl) (fun _ _ _ h => h) (Or.inl ⟨by rfl, ?hy5m2_5⟩) hHeld ?_
          case hy5m2_5 => (intro wS hSw; (try dsimp only at hSw); have cp0 := (Below.cell hSw (World.lt_of_cell p0)).trans p0; have ce0 := (Below.cell hSw (World.lt_of_cell e0)).trans e0; have ce1 := (Below.cell hSw (World.lt_of_cell e1)).trans e1; have ce2 := (Below.cell hSw (World.lt_of_cell e2)).trans e2; have ce3 := (Below.cell hSw (World.lt_of_cell e3)).trans e3; have ce4 := (Below.cell hSw (World.lt_of_cell e4)).trans e4; have ce5 := (Below.cell hSw (World.lt_of_cell e5)).trans e5; have ce6 := (Below.cell hSw (World.lt_of_cell e6)).trans e6; have ce7 := (Below.cell hSw (World.lt_of_cell e7)).trans e7; have ce8 := (Below.cell hSw (World.lt_of_cell e8)).trans e8; clear hSw; go_simp; try with_reducible rfl)
          try simp only [List.getElem_toArray, List.getElem_cons_succ, List.getElem_cons_zero, Act.put, List.setIfInBounds_toArray, List.set_cons_zero, List.set_cons_succ]
          refine wpAnyH_take (i := 5) (oi := _) (v := ?v5m2_6) rfl (by kernel_rfl) (by kernel_rfl) (by kernel_rfl) (fun _ _ _ h => h) (Or.inl ⟨by rfl, ?hy5m2_6⟩) hHeld ?_
          case hy5m2_6 => (intro wS hSw; (try dsimp only at hSw); have cp0 := (Below.cell hSw (World.lt_of_cell p0)).trans p0; have ce0 := (Below.cell hSw (World.lt_of_cell e0)).trans e0; have ce1 := (Below.cell hSw (World.lt_of_cell e1)).trans e1; have ce2 := (Below.cell hSw (World.lt_of_cell e2)).trans e2; have ce3 := (Below.cell hSw (World.lt_of_cell e3)).trans e3; have ce4 := (Below.cell hSw (World.lt_of_cell e4)).trans e4; have ce5 := (Below.cell hSw (World.lt_of_cell e5)).trans e5; have ce6 := (Below.cell hSw (World.lt_of_cell e6)).trans e6; have ce7 := (Below.cell hSw (World.lt_of_cell e7)).trans e7; have ce8 := (Below.cell hSw (World.lt_of_cell e8)).trans e8; clear hSw; go_simp; try with_reducible rfl)
          try simp only [List.getElem_toArray, List.getElem_cons_succ, List.getElem_cons_zero, Act.put, List.setIfInBounds_toArray, List.set_cons_zero, List.set_cons_succ]
          refine wpAnyH_take (i := 6) (oi := _) (v := ?v5m2_7) rfl (by kernel_rfl) (by kernel_rfl) (by kernel_rfl) (fun _ _ _ h => h) (Or.inl ⟨by rfl, ?hy5m2_7⟩) hHeld ?_
          case hy5m2_7 => (intro wS hSw; (try dsimp only at hSw); have cp0 := (Below.cell hSw (World.lt_of_cell p0)).trans p0; have ce0 := (Below.cell hSw (World.lt_of_cell e0)).trans e0; have ce1 := (Below.cell hSw (World.lt_of_cell e1)).trans e1; have ce2 := (Below.cell hSw (World.lt_of_cell e2)).trans e2; have ce3 := (Below.cell hSw (World.lt_of_cell e3)).trans e3; have ce4 := (Below.cell hSw (World.lt_of_cell e4)).trans e4; have ce5 := (Below.cell hSw (World.lt_of_cell e5)).trans e5; have ce6 := (Below.cell hSw (World.lt_of_cell e6)).trans e6; have ce7 := (Below.cell hSw (World.lt_of_cell e7)).trans e7; have ce8 := (Below.cell hSw (World.lt_of_cell e8)).trans e8; clear hSw; go_simp; try with_reducible rfl)
          try simp only [List.getElem_toArray, List.getElem_cons_succ, List.getElem_cons_zero, Act.put, List.setIfInBounds_toArray, List.set_cons_zero, List.set_cons_succ]
          refine wpAnyH_take (i := 7) (oi := _) (v := ?v5m2_8) rfl (by kernel_rfl) (by kernel_rfl) (by kernel_rfl) (fun _ _ _ h => h) (Or.inl ⟨by rfl, ?hy5m2_8⟩) hHeld ?_
          case hy5m2_8 => (intro wS hSw; (try dsimp only at hSw); have cp0 := (Below.cell hSw (World.lt_of_cell p0)).trans p0; have ce0 := (Below.cell hSw (World.lt_of_cell e0)).trans e0; have ce1 := (Below.cell hSw (World.lt_of_cell e1)).trans e1; have ce2 := (Below.cell hSw (World.lt_of_cell e2)).trans e2; have ce3 := (Below.cell hSw (World.lt_of_cell e3)).trans e3; have ce4 := (Below.cell hSw (World.lt_of_cell e4)).trans e4; have ce5 := (Below.cell hSw (World.lt_of_cell e5)).trans e5; have ce6 := (Below.cell hSw (World.lt_of_cell e6)).trans e6; have ce7 := (Below.cell hSw (World.lt_of_cell e7)).trans e7; have ce8 := (Below.cell hSw (World.lt_of_cell e8)).trans e8; clear hSw; go_simp; try with_reducible rfl)
          try simp only [List.getElem_toArray, List.getElem_cons_succ, List.getElem_cons_zero, Act.put, List.setIfInBounds_toArray, List.set_cons_zero, List.set_cons_succ]
          refine wpAnyH_take (i := 8) (oi := _) (v := ?v5m2_9) rfl (by kernel_rfl) (by kernel_rfl) (by kernel_rfl) (fun _ _ _ h => h) (Or.inl ⟨by rfl, ?hy5m2_9⟩) hHeld ?_
          case hy5m2_9 => (intro wS hSw; (try dsimp only at hSw); have cp0 := (Below.cell hSw (World.lt_of_cell p0)).trans p0; have ce0 := (Below.cell hSw (World.lt_of_cell e0)).trans e0; have ce1 := (Below.cell hSw (World.lt_of_cell e1)).trans e1; have ce2 := (Below.cell hSw (World.lt_of_cell e2)).trans e2; have ce3 := (Below.cell hSw (World.lt_of_cell e3)).trans e3; have ce4 := (Below.cell hSw (World.lt_of_cell e4)).trans e4; have ce5 := (Below.cell hSw (World.lt_of_cell e5)).trans e5; have ce6 := (Below.cell hSw (World.lt_of_cell e6)).trans e6; have ce7 := (Below.cell hSw (World.lt_of_cell e7)).trans e7; have ce8 := (Below.cell hSw (World.lt_of_cell e8)).trans e8; clear hSw; go_simp; try with_reducible rfl)
          try simp only [List.getElem_toArray, List.getElem_cons_succ, List.getElem_cons_zero, Act.put, List.setIfInBounds_toArray, List.set_cons_zero, List.set_cons_succ]
          refine wpAnyH_take (i := 9) (oi := _) (v := ?v5m2_10) rfl (by kernel_rfl) (by kernel_rfl) (by kernel_rfl) (fun _ _ _ h => h) (Or.inl ⟨by rfl, ?hy5m2_10⟩) hHeld ?_
          case hy5m2_10 => (intro wS hSw; (try dsimp only at hSw); have cp0 := (Below.cell hSw (World.lt_of_cell p0)).trans p0; have ce0 := (Below.cell hSw (World.lt_of_cell e0)).trans e0; have ce1 := (Below.cell hSw (World.lt_of_cell e1)).trans e1; have ce2 := (Below.cell hSw (World.lt_of_cell e2)).trans e2; have ce3 := (Below.cell hSw (World.lt_of_cell e3)).trans e3; have ce4 := (Below.cell hSw (World.lt_of_cell e4)).trans e4; have ce5 := (Below.cell hSw (World.lt_of_cell e5)).trans e5; have ce6 := (Below.cell hSw (World.lt_of_cell e6)).trans e6; have ce7 := (Below.cell hSw (World.lt_of_cell e7)).trans e7; have ce8 := (Below.cell hSw (World.lt_of_cell e8)).trans e8; clear hSw; go_simp; try with_reducible rfl)
          try simp only [List.getElem_toArray, List.getElem_cons_succ, List.getElem_cons_zero, Act.put, List.setIfInBounds_toArray, List.set_cons_zero, List.set_cons_succ]
          refine wpAnyH_ready (rs := [10]) (by kernel_rfl) (by simp) ?_
          refine (AllReadyH.cons (o := _) rfl (fun K hK => ?_) AllReadyH.nil)
          go_simp
          have rn : Row (w5.drew.alloc (.cells #[.int .i64 0, .int .i64 0, .int .i64 0, .int .i64 0, .int .i64 0, .bool false, .int .i64 0, .int .i64 0, .int .i64 0] 44)) w5.heap.size 44 _ := Row.new _ _ _
          refine hK.out _ _ (Below.alloc hHeld hHeld.size _) (fun hHeld11 => ?_)
          clear hK K hHeld
          try simp only [List.getElem_toArray, List.getElem_cons_succ, List.getElem_cons_zero, Act.put, List.setIfInBounds_toArray, List.set_cons_zero, List.set_cons_succ]
          refine wpAnyH_ready (rs := [11]) (by kernel_rfl) (by simp) ?_
          refine (AllReadyH.cons (o := _) rfl (fun K hK => ?_) AllReadyH.nil)
          refine step_put_row rfl _ _ _ rfl (w5.heap.size) (opCells o) rfl rfl rn (by kernel_rfl) rfl (opCells_one _) ?_
          intro w6 r6 g7 s7
          clear s7
          refine hK.out _ _ (Below.grown hHeld11 g7 (Below.size hHeld11) (fun j hj => by injection hj with hj; subst hj; exact Nat.le_refl _)) (fun hHeld12 => ?_)
          clear hK K hHeld11
          try simp only [List.getElem_toArray, List.getElem_cons_succ, List.getElem_cons_zero, Act.put, List.setIfInBounds_toArray, List.set_cons_zero, List.set_cons_succ]
          refine wpAnyH_done (by kernel_rfl) ?_ _
          have bz := hHeld12
          clear znil wy z2 z3 e0 e1 e2 e3 e4 e5 e6 e7 e8 p0 hme hm hmI rn g7 y1 y3 g0 hpo
          have t6 := t5.trans (bz.mono t5.size)
          replace r0 := r0.below bz
          replace r5 := r5.below bz
          generalize w5.heap.size = Go at *
          clear bz t5
          have hbk2 : behindK k o = behindK k o := rfl
          have hwf2 := behindK_wf hk o
          generalize hkk : behindK k o = kk at hbk2 hwf2
          have HBK2 := Lib.hid hkk
          clear hkk hbk2
          have bd := (Below.refl w6.heap.size w6).drew
          go_upto_region 6 with fail
          refine wp_region_held_drew (S := (fun w' => Row w' w.heap.size 26 (knownCells k) ∧ Row w' Go 44 (opCells o))) (by kernel_rfl) (⟨r0.below bd, r6.below bd⟩) (fun hHeld => ?_)
          refine wpAnyH_take (i := 0) (oi := _) (v := .agg (knownCells k).toArray) rfl (by kernel_rfl) (by kernel_rfl) (by kernel_rfl) (fun _ _ _ h => h) (yieldsIf_load_known _ k w.heap.size 0 hk (fun wS hS => Row.range hS.1) rfl rfl rfl) hHeld ?_
          try simp only [List.getElem_toArray, List.getElem_cons_succ, List.getElem_cons_zero, Act.put, List.setIfInBounds_toArray, List.set_cons_zero, List.set_cons_succ]
          refine wpAnyH_take (i := 1) (oi := _) (v := ?v6n1_1) rfl (by kernel_rfl) (by kernel_rfl) (by kernel_rfl) (fun _ _ _ h => h) (Or.inl ⟨by rfl, ?hy6n1_1⟩) hHeld ?_
          case hy6n1_1 => (intro wS hSw; (try dsimp only at hSw); obtain ⟨hSk, hSo⟩ := hSw; obtain ⟨s0, s1, s2, s3, s4, s5, s6, s7, s8⟩ := Row.op hSo; clear hSk hSo; go_simp; try with_reducible rfl)
          try simp only [List.getElem_toArray, List.getElem_cons_succ, List.getElem_cons_zero, Act.put, List.setIfInBounds_toArray, List.set_cons_zero, List.set_cons_succ]
          refine wpAnyH_take (i := 3) (oi := _) (v := .agg (knownCells k).toArray) rfl (by kernel_rfl) (by kernel_rfl) (by kernel_rfl) (fun _ _ _ h => h) (yieldsIf_load_known _ k w.heap.size 0 hk (fun wS hS => Row.range hS.1) rfl rfl rfl) hHeld ?_
          try simp only [List.getElem_toArray, List.getElem_cons_succ, List.getElem_cons_zero, Act.put, List.setIfInBounds_toArray, List.set_cons_zero, List.set_cons_succ]
          refine wpAnyH_take (i := 4) (oi := _) (v := ?v6n1_4) rfl (by kernel_rfl) (by kernel_rfl) (by kernel_rfl) (fun _ _ _ h => h) (Or.inl ⟨by rfl, ?hy6n1_4⟩) hHeld ?_
          case hy6n1_4 => (intro wS hSw; (try dsimp only at hSw); obtain ⟨hSk, hSo⟩ := hSw; obtain ⟨s0, s1, s2, s3, s4, s5, s6, s7, s8⟩ := Row.op hSo; clear hSk hSo; go_simp; try with_reducible rfl)
          try simp only [List.getElem_toArray, List.getElem_cons_succ, List.getElem_cons_zero, Act.put, List.setIfInBounds_toArray, List.set_cons_zero, List.set_cons_succ]
          refine wpAnyH_ready (rs := [2]) (by kernel_rfl) (by simp) ?_
          refine AllReadyH.cons (o := _) rfl (fun K hK => ?_) AllReadyH.nil
          go_simp
          refine (behind_calls k o _ hk HRO.out).mono ?_
          rw [HBK2.out]
          rintro e w7 ⟨rfl, hb7⟩
          go_wp2_with fail
          refine hK.out _ _ (⟨Row.below hHeld.1 hb7, Row.below hHeld.2 hb7⟩) (fun hHeld2 => ?_)
          clear hK K hHeld
          try simp only [List.getElem_toArray, List.getElem_cons_succ, List.getElem_cons_zero, Act.put, List.setIfInBounds_toArray, List.set_cons_zero, List.set_cons_succ]
          refine wpAnyH_ready (rs := [5]) (by kernel_rfl) (by simp) ?_
          refine AllReadyH.cons (o := _) rfl (fun K hK => ?_) AllReadyH.nil
          go_simp
          refine (refBehind_calls k o _ hk HRO.out).mono ?_
          rw [HBK2.out]
          rintro e w8 ⟨rfl, hb8⟩
          go_wp2_with fail
          refine hK.out _ _ (⟨Row.below hHeld2.1 hb8, Row.below hHeld2.2 hb8⟩) (fun hHeld5 => ?_)
          clear hK K hHeld2
          try simp only [List.getElem_toArray, List.getElem_cons_succ, List.getElem_cons_zero, Act.put, List.setIfInBounds_toArray, List.set_cons_zero, List.set_cons_succ]
          refine wpAnyH_take (i := 6) (oi := _) (v := ?v6n1_6) rfl (by kernel_rfl) (by kernel_rfl) (by kernel_rfl) (fun _ _ _ h => h) (Or.inl ⟨by rfl, ?hy6n1_6⟩) hHeld5 ?_
          case hy6n1_6 => (intro wS hSw; (try dsimp only at hSw); obtain ⟨hSk, hSo⟩ := hSw; obtain ⟨s0, s1, s2, s3, s4, s5, s6, s7, s8⟩ := Row.op hSo; clear hSk hSo; go_simp; try with_reducible rfl)
          try simp only [List.getElem_toArray, List.getElem_cons_succ, List.getElem_cons_zero, Act.put, List.setIfInBounds_toArray, List.set_cons_zero, List.set_cons_succ]
          refine wpAnyH_done (by kernel_rfl) ?_ _
          have u8 := bd.trans (hb7.mono bd.size)
          have u9 := u8.trans (hb8.mono u8.size)
          have tz := t6.trans (u9.mono t6.size)
          replace r0 := r0.below u9
          replace r5 := r5.below u9
          clear bd hb7 hb8 u8 u9 r6 t6
          go_upto_region 8 with fail
          obtain ⟨y0, y1, y2, y3, y4, y5, y6, y7, y8, y9, y10, y11⟩ := r5.block
          by_cases hk2 : b.fin.kind = 2
          · have v2 : (b.fin.kind != 2) = false := by simp [hk2]
            obtain ⟨f, hfr⟩ := HOK.out.fin (List.mem_of_getElem? HBK.out)
            obtain ⟨-, -, ho, ha, hb⟩ := Term.right_branch hfr hk2
            have haT : 0 ≤ b.fin.a ∧ b.fin.a < 16 := by omega
            have hbT : 0 ≤ b.fin.b ∧ b.fin.b < 16 := by omega
            obtain ⟨na, hna'⟩ := Int.eq_ofNat_of_zero_le haT.1
            obtain ⟨nb, hnb'⟩ := Int.eq_ofNat_of_zero_le hbT.1
            have hna : na < 16 := by omega
            have hnb : nb < 16 := by omega
            have haI : (na : Int) < 16 := by omega
            have hbI : (nb : Int) < 16 := by omega
            have hta : b.fin.a.toNat = na := by omega
            have htb : b.fin.b.toNat = nb := by omega
            have htk : takenK k b.fin = if (!k.reached || (!k.isAt na || !k.isAt nb)) = true then (false, false) else (aluTaken b.fin.op (k.wAt na) (k.wAt nb), true) := by unfold takenK; rw [hta, htb]
            have hgo : goesK k b.fin b.fin.to = if (k.isAt na && k.isAt nb) = false then b.fin.to == b.fin.to || b.fin.els == b.fin.to else if aluTaken b.fin.op (k.wAt na) (k.wAt nb) = true then b.fin.to == b.fin.to else b.fin.els == b.fin.to := by unfold goesK; rw [if_neg (by rw [hk2]; decide), if_neg (by simp [hk2]), hta, htb]
            have HNA := Lib.hid hna'
            have HNB := Lib.hid hnb'
            have HTK := Lib.hid htk
            have HGO := Lib.hid hgo
            clear hk2 hfr ho ha hb hta htb hna' hnb' htk hgo
            cases hre : k.reached with
            | false =>
              have ht : takenK k b.fin = (false, false) := by rw [HTK.out, hre]; rfl
              have HT := Lib.hid ht
              clear ht
              have H0 := Lib.hid hre
              clear hre
              go_wp2_with (refine wpList_load_known _ k _ hk r0 rfl rfl rfl ?_)
              refine (taken_calls k b.fin _ hk haT hbT).mono ?_
              rw [HT.out]
              rintro e w9 ⟨rfl, hb9⟩
              have t9 := tz.trans (hb9.mono tz.size)
              replace r0 := r0.below hb9
              replace r5 := r5.below hb9
              clear y0 y1 y2 y3 y4 y5 y6 y7 y8 y9 y10 y11
              obtain ⟨y0, y1, y2, y3, y4, y5, y6, y7, y8, y9, y10, y11⟩ := r5.block
              rw [HNA.out] at y3
              rw [HNB.out] at y4
              have c0 := r0.cell (knownCells_re k)
              have c1 := r0.kis hk hna
              have c2 := r0.kis hk hnb
              rw [H0.out] at c0
              go_wp2_with fail
              go_ret
              exact ⟨rfl, t9⟩
            | true =>
              cases hia : k.isAt na with
              | false =>
                have ht : takenK k b.fin = (false, false) := by rw [HTK.out, hre, hia]; rfl
                have HT := Lib.hid ht
                clear ht
                have H0 := Lib.hid hre
                have H1 := Lib.hid hia
                clear hre hia
                go_wp2_with (refine wpList_load_known _ k _ hk r0 rfl rfl rfl ?_)
                refine (taken_calls k b.fin _ hk haT hbT).mono ?_
                rw [HT.out]
                rintro e w9 ⟨rfl, hb9⟩
                have t9 := tz.trans (hb9.mono tz.size)
                replace r0 := r0.below hb9
                replace r5 := r5.below hb9
                clear y0 y1 y2 y3 y4 y5 y6 y7 y8 y9 y10 y11
                obtain ⟨y0, y1, y2, y3, y4, y5, y6, y7, y8, y9, y10, y11⟩ := r5.block
                rw [HNA.out] at y3
                rw [HNB.out] at y4
                have c0 := r0.cell (knownCells_re k)
                have c1 := r0.kis hk hna
                have c2 := r0.kis hk hnb
                rw [H0.out] at c0
                rw [H1.out] at c1
                go_wp2_with fail
                go_ret
                exact ⟨rfl, t9⟩
              | true =>
                cases hib : k.isAt nb with
                | false =>
                  have ht : takenK k b.fin = (false, false) := by rw [HTK.out, hre, hia, hib]; rfl
                  have HT := Lib.hid ht
                  clear ht
                  have H0 := Lib.hid hre
                  have H1 := Lib.hid hia
                  have H2 := Lib.hid hib
                  clear hre hia hib
                  go_wp2_with (refine wpList_load_known _ k _ hk r0 rfl rfl rfl ?_)
                  refine (taken_calls k b.fin _ hk haT hbT).mono ?_
                  rw [HT.out]
                  rintro e w9 ⟨rfl, hb9⟩
                  have t9 := tz.trans (hb9.mono tz.size)
                  replace r0 := r0.below hb9
                  replace r5 := r5.below hb9
                  clear y0 y1 y2 y3 y4 y5 y6 y7 y8 y9 y10 y11
                  obtain ⟨y0, y1, y2, y3, y4, y5, y6, y7, y8, y9, y10, y11⟩ := r5.block
                  rw [HNA.out] at y3
                  rw [HNB.out] at y4
                  have c0 := r0.cell (knownCells_re k)
                  have c1 := r0.kis hk hna
                  have c2 := r0.kis hk hnb
                  rw [H0.out] at c0
                  rw [H1.out] at c1
                  rw [H2.out] at c2
                  go_wp2_with fail
                  go_ret
                  exact ⟨rfl, t9⟩
                | true =>
                  cases hal : aluTaken b.fin.op (k.wAt na) (k.wAt nb) with
                  | true =>
                    have ht : takenK k b.fin = (true, true) := by rw [HTK.out, hre, hia, hib, hal]; rfl
                    have hg : goesK k b.fin b.fin.to = true := by rw [HGO.out, hia, hib, hal]; simp
                    clear hal
                    have HG := Lib.hid hg
                    have HT := Lib.hid ht
                    have H0 := Lib.hid hre
                    have H1 := Lib.hid hia
                    have H2 := Lib.hid hib
                    clear hg ht hre hia hib
                    go_wp2_with (refine wpList_load_known _ k _ hk r0 rfl rfl rfl ?_)
                    refine (taken_calls k b.fin _ hk haT hbT).mono ?_
                    rw [HT.out]
                    rintro e w9 ⟨rfl, hb9⟩
                    have t9 := tz.trans (hb9.mono tz.size)
                    replace r0 := r0.below hb9
                    replace r5 := r5.below hb9
                    clear y0 y1 y2 y3 y4 y5 y6 y7 y8 y9 y10 y11
                    obtain ⟨y0, y1, y2, y3, y4, y5, y6, y7, y8, y9, y10, y11⟩ := r5.block
                    rw [HNA.out] at y3
                    rw [HNB.out] at y4
                    have c0 := r0.cell (knownCells_re k)
                    have c1 := r0.kis hk hna
                    have c2 := r0.kis hk hnb
                    rw [H0.out] at c0
                    rw [H1.out] at c1
                    rw [H2.out] at c2
                    go_wp2_with (refine wpList_loadg_known _ k _ hk r0 rfl rfl rfl ?_)
                    have hgc := fun W => refGoes_calls k b.fin b.fin.to W hk (fun _ => ⟨haT, hbT⟩)
                    simp only [HNA.out, HNB.out, HG.out] at hgc
                    refine (hgc _).mono ?_
                    clear hgc
                    rintro e w10 ⟨rfl, hb10⟩
                    have t10 := t9.trans (hb10.mono t9.size)
                    replace r5 := r5.below hb10
                    clear y0 y1 y2 y3 y4 y5 y6 y7 y8 y9 y10 y11 c0 c1 c2
                    obtain ⟨y0, y1, y2, y3, y4, y5, y6, y7, y8, y9, y10, y11⟩ := r5.block
                    go_wp2_with fail
                    go_ret
                    exact ⟨rfl, t10⟩
                  | false =>
                    have ht : takenK k b.fin = (false, true) := by rw [HTK.out, hre, hia, hib, hal]; rfl
                    cases hz : (b.fin.els == b.fin.to) with
                    | true =>
                      have hz2 : (b.fin.to == b.fin.els) = true := by have := eq_of_beq hz; simp [this]
                      have hg : goesK k b.fin b.fin.to = true := by rw [HGO.out, hia, hib, hal, hz]; rfl
                      clear hal hz
                      have HG := Lib.hid hg
                      have HT := Lib.hid ht
                      have H0 := Lib.hid hre
                      have H1 := Lib.hid hia
                      have H2 := Lib.hid hib
                      clear hg ht hre hia hib
                      go_wp2_with (refine wpList_load_known _ k _ hk r0 rfl rfl rfl ?_)
                      refine (taken_calls k b.fin _ hk haT hbT).mono ?_
                      rw [HT.out]
                      rintro e w9 ⟨rfl, hb9⟩
                      have t9 := tz.trans (hb9.mono tz.size)
                      replace r0 := r0.below hb9
                      replace r5 := r5.below hb9
                      clear y0 y1 y2 y3 y4 y5 y6 y7 y8 y9 y10 y11
                      obtain ⟨y0, y1, y2, y3, y4, y5, y6, y7, y8, y9, y10, y11⟩ := r5.block
                      rw [HNA.out] at y3
                      rw [HNB.out] at y4
                      have c0 := r0.cell (knownCells_re k)
                      have c1 := r0.kis hk hna
                      have c2 := r0.kis hk hnb
                      rw [H0.out] at c0
                      rw [H1.out] at c1
                      rw [H2.out] at c2
                      go_wp2_with (refine wpList_loadg_known _ k _ hk r0 rfl rfl rfl ?_)
                      have hgc := fun W => refGoes_calls k b.fin b.fin.to W hk (fun _ => ⟨haT, hbT⟩)
                      simp only [HNA.out, HNB.out, HG.out] at hgc
                      refine (hgc _).mono ?_
                      clear hgc
                      rintro e w10 ⟨rfl, hb10⟩
                      have t10 := t9.trans (hb10.mono t9.size)
                      replace r5 := r5.below hb10
                      clear y0 y1 y2 y3 y4 y5 y6 y7 y8 y9 y10 y11 c0 c1 c2
                      obtain ⟨y0, y1, y2, y3, y4, y5, y6, y7, y8, y9, y10, y11⟩ := r5.block
                      go_wp2_with fail
                      go_ret
                      exact ⟨rfl, t10⟩
                    | false =>
                      have hz2 : (b.fin.to == b.fin.els) = false := by have := ne_of_beq_false hz; simp; exact fun e => this e.symm
                      have hg : goesK k b.fin b.fin.to = false := by rw [HGO.out, hia, hib, hal, hz]; rfl
                      clear hal hz
                      have HG := Lib.hid hg
                      have HT := Lib.hid ht
                      have H0 := Lib.hid hre
                      have H1 := Lib.hid hia
                      have H2 := Lib.hid hib
                      clear hg ht hre hia hib
                      go_wp2_with (refine wpList_load_known _ k _ hk r0 rfl rfl rfl ?_)
                      refine (taken_calls k b.fin _ hk haT hbT).mono ?_
                      rw [HT.out]
                      rintro e w9 ⟨rfl, hb9⟩
                      have t9 := tz.trans (hb9.mono tz.size)
                      replace r0 := r0.below hb9
                      replace r5 := r5.below hb9
                      clear y0 y1 y2 y3 y4 y5 y6 y7 y8 y9 y10 y11
                      obtain ⟨y0, y1, y2, y3, y4, y5, y6, y7, y8, y9, y10, y11⟩ := r5.block
                      rw [HNA.out] at y3
                      rw [HNB.out] at y4
                      have c0 := r0.cell (knownCells_re k)
                      have c1 := r0.kis hk hna
                      have c2 := r0.kis hk hnb
                      rw [H0.out] at c0
                      rw [H1.out] at c1
                      rw [H2.out] at c2
                      go_wp2_with (refine wpList_loadg_known _ k _ hk r0 rfl rfl rfl ?_)
                      have hgc := fun W => refGoes_calls k b.fin b.fin.to W hk (fun _ => ⟨haT, hbT⟩)
                      simp only [HNA.out, HNB.out, HG.out] at hgc
                      refine (hgc _).mono ?_
                      clear hgc
                      rintro e w10 ⟨rfl, hb10⟩
                      have t10 := t9.trans (hb10.mono t9.size)
                      replace r5 := r5.below hb10
                      clear y0 y1 y2 y3 y4 y5 y6 y7 y8 y9 y10 y11 c0 c1 c2
                      obtain ⟨y0, y1, y2, y3, y4, y5, y6, y7, y8, y9, y10, y11⟩ := r5.block
                      go_wp2_with fail
                      go_ret
                      exact ⟨rfl, t10⟩
          · have v2 : (b.fin.kind != 2) = true := by simp [hk2]
            clear hk2
            go_wp2_with fail
            go_ret
            exact ⟨rfl, tz⟩
end Go.Proofs.Ytokkngfgppikkaa
