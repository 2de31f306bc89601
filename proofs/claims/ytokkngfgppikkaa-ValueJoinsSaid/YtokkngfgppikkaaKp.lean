/- ValueJoins returns true. Printed by genKp.py of this repository. -/
import Derived.Test.YtokkngfgppikkaaKm
import Derived.Test.YtokkngfgppikkaaKo
namespace Go.Proofs.Ytokkngfgppikkaa
set_option linter.unusedVariables false
set_option linter.unusedSimpArgs false
open Go.RowKit
attribute [local go_sem high] eqKnown eqKnown_zero

set_option maxHeartbeats 8000000 in
set_option maxRecDepth 100000 in
theorem valueJoins_law (a : Known) (ha : a.wf) (b : Known) (hb : b.wf) (c : Known) (hc : c.wf) (w : World) : Calls Try.prog 3 #[.agg (knownCells a).toArray, .agg (knownCells b).toArray, .agg (knownCells c).toArray] w fun e w' => e = .returned (.bool true) ∧ Below w.heap.size w w' := by
  obtain ⟨W, hW, bW, zW, r0, r1, r2⟩ := three_rows w (knownCells a).toArray (knownCells b).toArray (knownCells c).toArray 26 26 26
  replace r0 : Row W w.heap.size 26 (knownCells a) := r0
  replace r1 : Row W (w.heap.size + 1) 26 (knownCells b) := r1
  replace r2 : Row W (w.heap.size + 1 + 1) 26 (knownCells c) := r2
  have HW := Lib.hid hW
  clear hW zW
  cases hra : rightK a with
  | false =>
    have HA := Lib.hid hra
    clear hra
    go_enter Try.func3, Try.ntmps3
    go_upto_region 1 with fail
    rw [← HW.out]
    clear HW
    go_wp2_with fail
    refine (awake20_calls _).mono ?_
    rintro e w1 ⟨rfl, hb1⟩
    have t1 := bW.trans (hb1.mono bW.size)
    replace r0 := r0.below hb1
    replace r1 := r1.below hb1
    replace r2 := r2.below hb1
    go_wp2_with (refine wpList_loadg_known _ a _ ha r0 rfl rfl rfl ?_)
    refine (kright_calls a _ ha).mono ?_
    rw [HA.out]
    rintro e w2 ⟨rfl, hb2⟩
    have t2 := t1.trans (hb2.mono t1.size)
    replace r0 := r0.below hb2
    replace r1 := r1.below hb2
    replace r2 := r2.below hb2
    go_wp2_with fail
    refine (awake20_calls _).mono ?_
    rintro e w9 ⟨rfl, hb9⟩
    go_wp2_with fail
    go_ret
    exact ⟨rfl, t2.trans (hb9.mono t2.size)⟩
  | true =>
    have HA := Lib.hid hra
    clear hra
    cases hrb : rightK b with
    | false =>
      have HB := Lib.hid hrb
      clear hrb
      go_enter Try.func3, Try.ntmps3
      go_upto_region 1 with fail
      rw [← HW.out]
      clear HW
      go_wp2_with fail
      refine (awake20_calls _).mono ?_
      rintro e w1 ⟨rfl, hb1⟩
      have t1 := bW.trans (hb1.mono bW.size)
      replace r0 := r0.below hb1
      replace r1 := r1.below hb1
      replace r2 := r2.below hb1
      go_wp2_with (refine wpList_loadg_known _ a _ ha r0 rfl rfl rfl ?_)
      refine (kright_calls a _ ha).mono ?_
      rw [HA.out]
      rintro e w2 ⟨rfl, hb2⟩
      have t2 := t1.trans (hb2.mono t1.size)
      replace r0 := r0.below hb2
      replace r1 := r1.below hb2
      replace r2 := r2.below hb2
      go_wp2_with (refine wpList_loadg_known _ b _ hb r1 rfl rfl rfl ?_)
      refine (kright_calls b _ hb).mono ?_
      rw [HB.out]
      rintro e w3 ⟨rfl, hb3⟩
      have t3 := t2.trans (hb3.mono t2.size)
      replace r0 := r0.below hb3
      replace r1 := r1.below hb3
      replace r2 := r2.below hb3
      go_wp2_with fail
      refine (awake20_calls _).mono ?_
      rintro e w9 ⟨rfl, hb9⟩
      go_wp2_with fail
      go_ret
      exact ⟨rfl, t3.trans (hb9.mono t3.size)⟩
    | true =>
      have HB := Lib.hid hrb
      clear hrb
      cases hrc : rightK c with
      | false =>
        have HC := Lib.hid hrc
        clear hrc
        go_enter Try.func3, Try.ntmps3
        go_upto_region 1 with fail
        rw [← HW.out]
        clear HW
        go_wp2_with fail
        refine (awake20_calls _).mono ?_
        rintro e w1 ⟨rfl, hb1⟩
        have t1 := bW.trans (hb1.mono bW.size)
        replace r0 := r0.below hb1
        replace r1 := r1.below hb1
        replace r2 := r2.below hb1
        go_wp2_with (refine wpList_loadg_known _ a _ ha r0 rfl rfl rfl ?_)
        refine (kright_calls a _ ha).mono ?_
        rw [HA.out]
        rintro e w2 ⟨rfl, hb2⟩
        have t2 := t1.trans (hb2.mono t1.size)
        replace r0 := r0.below hb2
        replace r1 := r1.below hb2
        replace r2 := r2.below hb2
        go_wp2_with (refine wpList_loadg_known _ b _ hb r1 rfl rfl rfl ?_)
        refine (kright_calls b _ hb).mono ?_
        rw [HB.out]
        rintro e w3 ⟨rfl, hb3⟩
        have t3 := t2.trans (hb3.mono t2.size)
        replace r0 := r0.below hb3
        replace r1 := r1.below hb3
        replace r2 := r2.below hb3
        go_wp2_with (refine wpList_loadg_known _ c _ hc r2 rfl rfl rfl ?_)
        refine (kright_calls c _ hc).mono ?_
        rw [HC.out]
        rintro e w4 ⟨rfl, hb4⟩
        have t4 := t3.trans (hb4.mono t3.size)
        replace r0 := r0.below hb4
        replace r1 := r1.below hb4
        replace r2 := r2.below hb4
        go_wp2_with fail
        refine (awake20_calls _).mono ?_
        rintro e w9 ⟨rfl, hb9⟩
        go_wp2_with fail
        go_ret
        exact ⟨rfl, t4.trans (hb9.mono t4.size)⟩
      | true =>
        have HC := Lib.hid hrc
        clear hrc
        have hj := joinK_wf ha hb
        have hbc := joinK_wf hb hc
        have hm := joinK_wf hj hc
        have HC0 := Lib.hid (fun w => join_calls a b w ha hb)
        have hc3 : ∀ w : World, Calls Try.prog 18 #[.agg (knownCells a).toArray, .agg (knownCells b).toArray] w fun e w' => e = .returned (.agg (knownCells (joinK a b)).toArray) ∧ Below w.heap.size w w' := fun w => by rw [joinK_ref ha hb HA.out]; exact refJoin_calls a b w ha hb
        have hc9 : ∀ w : World, Calls Try.prog 17 #[.agg (knownCells b).toArray, .agg (knownCells a).toArray] w fun e w' => e = .returned (.agg (knownCells (joinK a b)).toArray) ∧ Below w.heap.size w w' := fun w => by rw [joinK_comm ha hb HA.out HB.out]; exact join_calls b a w hb ha
        have hc15 : ∀ w : World, Calls Try.prog 17 #[.agg (knownCells a).toArray, .agg (knownCells a).toArray] w fun e w' => e = .returned (.agg (knownCells a).toArray) ∧ Below w.heap.size w w' := fun w => by
          have h := join_calls a a w ha ha
          rw [joinK_self ha HA.out] at h
          exact h
        have HC22 := Lib.hid (fun w => join_calls (joinK a b) c w hj hc)
        have HC26 := Lib.hid (fun w => join_calls b c w hb hc)
        have hc27 : ∀ w : World, Calls Try.prog 17 #[.agg (knownCells a).toArray, .agg (knownCells (joinK b c)).toArray] w fun e w' => e = .returned (.agg (knownCells (joinK (joinK a b) c)).toArray) ∧ Below w.heap.size w w' := fun w => by rw [joinK_assoc ha hb hc HA.out HB.out HC.out]; exact join_calls a (joinK b c) w ha hbc
        have HC3 := Lib.hid hc3
        have HC9 := Lib.hid hc9
        have HC15 := Lib.hid hc15
        have HC27 := Lib.hid hc27
        clear hc3 hc9 hc15 hc27
        generalize joinK (joinK a b) c = m at *
        generalize joinK a b = j at *
        generalize joinK b c = bc at *
        go_enter Try.func3, Try.ntmps3
        go_upto_region 1 with fail
        rw [← HW.out]
        clear HW
        go_wp2_with fail
        refine (awake20_calls _).mono ?_
        rintro e w1 ⟨rfl, hb1⟩
        have t1 := bW.trans (hb1.mono bW.size)
        replace r0 := r0.below hb1
        replace r1 := r1.below hb1
        replace r2 := r2.below hb1
        go_wp2_with (refine wpList_loadg_known _ a _ ha r0 rfl rfl rfl ?_)
        refine (kright_calls a _ ha).mono ?_
        rw [HA.out]
        rintro e w2 ⟨rfl, hb2⟩
        have t2 := t1.trans (hb2.mono t1.size)
        replace r0 := r0.below hb2
        replace r1 := r1.below hb2
        replace r2 := r2.below hb2
        go_wp2_with (refine wpList_loadg_known _ b _ hb r1 rfl rfl rfl ?_)
        refine (kright_calls b _ hb).mono ?_
        rw [HB.out]
        rintro e w3 ⟨rfl, hb3⟩
        have t3 := t2.trans (hb3.mono t2.size)
        replace r0 := r0.below hb3
        replace r1 := r1.below hb3
        replace r2 := r2.below hb3
        go_wp2_with (refine wpList_loadg_known _ c _ hc r2 rfl rfl rfl ?_)
        refine (kright_calls c _ hc).mono ?_
        rw [HC.out]
        rintro e w4 ⟨rfl, hb4⟩
        have t4 := t3.trans (hb4.mono t3.size)
        replace r0 := r0.below hb4
        replace r1 := r1.below hb4
        replace r2 := r2.below hb4
        go_wp2_with (first | (refine wpList_load_known _ a _ ha r0 rfl rfl rfl ?_) | (refine wpList_load_known _ b _ hb r1 rfl rfl rfl ?_))
        refine (HC0.out _).mono ?_
        rintro e w5 ⟨rfl, hb5⟩
        have t5 := t4.trans (hb5.mono t4.size)
        replace r0 := r0.below hb5
        replace r1 := r1.below hb5
        replace r2 := r2.below hb5
        have b6 := below_alloc' w5 (.cells #[.bool false, .bool false, .bool false, .bool false, .bool false, .bool false, .bool false, .bool false, .bool false, .bool false, .bool false, .bool false, .bool false, .bool false, .bool false, .bool false, .bool false, .int .u32 0, .int .u32 0, .int .u32 0, .int .u32 0, .int .u32 0, .int .u32 0, .int .u32 0, .int .u32 0, .int .u32 0, .int .u32 0, .int .u32 0, .int .u32 0, .int .u32 0, .int .u32 0, .int .u32 0, .int .u32 0] 26)
        have r6 : Row (w5.alloc (.cells #[.bool false, .bool false, .bool false, .bool false, .bool false, .bool false, .bool false, .bool false, .bool false, .bool false, .bool false, .bool false, .bool false, .bool false, .bool false, .bool false, .bool false, .int .u32 0, .int .u32 0, .int .u32 0, .int .u32 0, .int .u32 0, .int .u32 0, .int .u32 0, .int .u32 0, .int .u32 0, .int .u32 0, .int .u32 0, .int .u32 0, .int .u32 0, .int .u32 0, .int .u32 0, .int .u32 0] 26)) w5.heap.size 26 (knownCells Known.zero) := Row.new _ _ _
        go_upto_region 4 with (refine wpList_put_known _ _ j _ hj Known.zero_wf r6 rfl rfl rfl rfl ?_; intro w7 r7 g7 s7; clear s7; replace b6 := b6.grown g7 b6.size (fun j hj => by injection hj with hj; subst hj; exact Nat.le_refl _); clear g7)
        have t7 := t5.trans (b6.mono t5.size)
        replace r0 := r0.below b6
        replace r1 := r1.below b6
        replace r2 := r2.below b6
        generalize w5.heap.size = G7 at *
        clear r6 b6 hb5
        have bd := (Below.refl w7.heap.size w7).drew
        refine wp_region_held_drew (S := (fun w' => Row w' w.heap.size 26 (knownCells a) ∧ Row w' (w.heap.size + 1) 26 (knownCells b) ∧ Row w' (w.heap.size + 1 + 1) 26 (knownCells c) ∧ Row w' G7 26 (knownCells j))) (by kernel_rfl) (⟨r0.below bd, r1.below bd, r2.below bd, r7.below bd⟩) (fun hHeld => ?_)
        refine wpAnyH_take (i := 0) (oi := _) (v := .agg (knownCells j).toArray) rfl (by kernel_rfl) (by kernel_rfl) (by kernel_rfl) (fun _ _ _ h => h) (yieldsIf_load_known _ j (G7) 0 hj (fun wS hS => Row.range hS.2.2.2) rfl rfl rfl) hHeld ?_
        try simp only [List.getElem_toArray, List.getElem_cons_succ, List.getElem_cons_zero, Act.put, List.setIfInBounds_toArray, List.set_cons_zero, List.set_cons_succ]
        refine wpAnyH_take (i := 1) (oi := _) (v := .agg (knownCells a).toArray) rfl (by kernel_rfl) (by kernel_rfl) (by kernel_rfl) (fun _ _ _ h => h) (yieldsIf_load_known _ a (w.heap.size) 0 ha (fun wS hS => Row.range hS.1) rfl rfl rfl) hHeld ?_
        try simp only [List.getElem_toArray, List.getElem_cons_succ, List.getElem_cons_zero, Act.put, List.setIfInBounds_toArray, List.set_cons_zero, List.set_cons_succ]
        refine wpAnyH_take (i := 2) (oi := _) (v := .agg (knownCells b).toArray) rfl (by kernel_rfl) (by kernel_rfl) (by kernel_rfl) (fun _ _ _ h => h) (yieldsIf_load_known _ b (w.heap.size + 1) 0 hb (fun wS hS => Row.range hS.2.1) rfl rfl rfl) hHeld ?_
        try simp only [List.getElem_toArray, List.getElem_cons_succ, List.getElem_cons_zero, Act.put, List.setIfInBounds_toArray, List.set_cons_zero, List.set_cons_succ]
        refine wpAnyH_ready (rs := [3]) (by kernel_rfl) (by simp) ?_
        refine AllReadyH.cons (o := _) rfl (fun K hK => ?_) AllReadyH.nil
        go_simp
        refine (HC3.out _).mono ?_
        rintro e wz3 ⟨rfl, hz3⟩
        go_wp2_with fail
        refine hK.out _ _ (⟨Row.below hHeld.1 hz3, Row.below hHeld.2.1 hz3, Row.below hHeld.2.2.1 hz3, Row.below hHeld.2.2.2 hz3⟩) (fun hHeld3 => ?_)
        clear hK K hHeld
        try simp only [List.getElem_toArray, List.getElem_cons_succ, List.getElem_cons_zero, Act.put, List.setIfInBounds_toArray, List.set_cons_zero, List.set_cons_succ]
        refine wpAnyH_take (i := 4) (oi := _) (v := ?v4n1_4) rfl (by kernel_rfl) (by kernel_rfl) (by kernel_rfl) (fun _ _ _ h => h) (Or.inl ⟨by rfl, ?hy4n1_4⟩) hHeld3 ?_
        case hy4n1_4 => (intro wS hSw; (try dsimp only at hSw); clear hSw; go_simp; try with_reducible rfl)
        try simp only [List.getElem_toArray, List.getElem_cons_succ, List.getElem_cons_zero, Act.put, List.setIfInBounds_toArray, List.set_cons_zero, List.set_cons_succ]
        refine wpAnyH_take (i := 5) (oi := _) (v := ?v4n1_5) rfl (by kernel_rfl) (by kernel_rfl) (by kernel_rfl) (fun _ _ _ h => h) (Or.inl ⟨by rfl, ?hy4n1_5⟩) hHeld3 ?_
        case hy4n1_5 => (intro wS hSw; (try dsimp only at hSw); clear hSw; go_simp; try with_reducible rfl)
        try simp only [List.getElem_toArray, List.getElem_cons_succ, List.getElem_cons_zero, Act.put, List.setIfInBounds_toArray, List.set_cons_zero, List.set_cons_succ]
        refine wpAnyH_take (i := 6) (oi := _) (v := .agg (knownCells j).toArray) rfl (by kernel_rfl) (by kernel_rfl) (by kernel_rfl) (fun _ _ _ h => h) (yieldsIf_load_known _ j (G7) 0 hj (fun wS hS => Row.range hS.2.2.2) rfl rfl rfl) hHeld3 ?_
        try simp only [List.getElem_toArray, List.getElem_cons_succ, List.getElem_cons_zero, Act.put, List.setIfInBounds_toArray, List.set_cons_zero, List.set_cons_succ]
        refine wpAnyH_take (i := 7) (oi := _) (v := .agg (knownCells b).toArray) rfl (by kernel_rfl) (by kernel_rfl) (by kernel_rfl) (fun _ _ _ h => h) (yieldsIf_load_known _ b (w.heap.size + 1) 0 hb (fun wS hS => Row.range hS.2.1) rfl rfl rfl) hHeld3 ?_
        try simp only [List.getElem_toArray, List.getElem_cons_succ, List.getElem_cons_zero, Act.put, List.setIfInBounds_toArray, List.set_cons_zero, List.set_cons_succ]
        refine wpAnyH_take (i := 8) (oi := _) (v := .agg (knownCells a).toArray) rfl (by kernel_rfl) (by kernel_rfl) (by kernel_rfl) (fun _ _ _ h => h) (yieldsIf_load_known _ a (w.heap.size) 0 ha (fun wS hS => Row.range hS.1) rfl rfl rfl) hHeld3 ?_
        try simp only [List.getElem_toArray, List.getElem_cons_succ, List.getElem_cons_zero, Act.put, List.setIfInBounds_toArray, List.set_cons_zero, List.set_cons_succ]
        refine wpAnyH_ready (rs := [9]) (by kernel_rfl) (by simp) ?_
        refine AllReadyH.cons (o := _) rfl (fun K hK => ?_) AllReadyH.nil
        go_simp
        refine (HC9.out _).mono ?_
        rintro e wz9 ⟨rfl, hz9⟩
        go_wp2_with fail
        refine hK.out _ _ (⟨Row.below hHeld3.1 hz9, Row.below hHeld3.2.1 hz9, Row.below hHeld3.2.2.1 hz9, Row.below hHeld3.2.2.2 hz9⟩) (fun hHeld9 => ?_)
        clear hK K hHeld3
        try simp only [List.getElem_toArray, List.getElem_cons_succ, List.getElem_cons_zero, Act.put, List.setIfInBounds_toArray, List.set_cons_zero, List.set_cons_succ]
        refine wpAnyH_take (i := 10) (oi := _) (v := ?v4n1_10) rfl (by kernel_rfl) (by kernel_rfl) (by kernel_rfl) (fun _ _ _ h => h) (Or.inl ⟨by rfl, ?hy4n1_10⟩) hHeld9 ?_
        case hy4n1_10 => (intro wS hSw; (try dsimp only at hSw); clear hSw; go_simp; try with_reducible rfl)
        try simp only [List.getElem_toArray, List.getElem_cons_succ, List.getElem_cons_zero, Act.put, List.setIfInBounds_toArray, List.set_cons_zero, List.set_cons_succ]
        refine wpAnyH_take (i := 11) (oi := _) (v := ?v4n1_11) rfl (by kernel_rfl) (by kernel_rfl) (by kernel_rfl) (fun _ _ _ h => h) (Or.inl ⟨by rfl, ?hy4n1_11⟩) hHeld9 ?_
        case hy4n1_11 => (intro wS hSw; (try dsimp only at hSw); clear hSw; go_simp; try with_reducible rfl)
        try simp only [List.getElem_toArray, List.getElem_cons_succ, List.getElem_cons_zero, Act.put, List.setIfInBounds_toArray, List.set_cons_zero, List.set_cons_succ]
        refine wpAnyH_take (i := 12) (oi := _) (v := ?v4n1_12) rfl (by kernel_rfl) (by kernel_rfl) (by kernel_rfl) (fun _ _ _ h => h) (Or.inl ⟨by rfl, ?hy4n1_12⟩) hHeld9 ?_
        case hy4n1_12 => (intro wS hSw; (try dsimp only at hSw); clear hSw; go_simp; try with_reducible rfl)
        try simp only [List.getElem_toArray, List.getElem_cons_succ, List.getElem_cons_zero, Act.put, List.setIfInBounds_toArray, List.set_cons_zero, List.set_cons_succ]
        refine wpAnyH_take (i := 13) (oi := _) (v := .agg (knownCells a).toArray) rfl (by kernel_rfl) (by kernel_rfl) (by kernel_rfl) (fun _ _ _ h => h) (yieldsIf_load_known _ a (w.heap.size) 0 ha (fun wS hS => Row.range hS.1) rfl rfl rfl) hHeld9 ?_
        try simp only [List.getElem_toArray, List.getElem_cons_succ, List.getElem_cons_zero, Act.put, List.setIfInBounds_toArray, List.set_cons_zero, List.set_cons_succ]
        refine wpAnyH_take (i := 14) (oi := _) (v := .agg (knownCells a).toArray) rfl (by kernel_rfl) (by kernel_rfl) (by kernel_rfl) (fun _ _ _ h => h) (yieldsIf_load_known _ a (w.heap.size) 0 ha (fun wS hS => Row.range hS.1) rfl rfl rfl) hHeld9 ?_
        try simp only [List.getElem_toArray, List.getElem_cons_succ, List.getElem_cons_zero, Act.put, List.setIfInBounds_toArray, List.set_cons_zero, List.set_cons_succ]
        refine wpAnyH_take (i := 16) (oi := _) (v := .agg (knownCells a).toArray) rfl (by kernel_rfl) (by kernel_rfl) (by kernel_rfl) (fun _ _ _ h => h) (yieldsIf_load_known _ a (w.heap.size) 0 ha (fun wS hS => Row.range hS.1) rfl rfl rfl) hHeld9 ?_
        try simp only [List.getElem_toArray, List.getElem_cons_succ, List.getElem_cons_zero, Act.put, List.setIfInBounds_toArray, List.set_cons_zero, List.set_cons_succ]
        refine wpAnyH_ready (rs := [15]) (by kernel_rfl) (by simp) ?_
        refine AllReadyH.cons (o := _) rfl (fun K hK => ?_) AllReadyH.nil
        go_simp
        refine (HC15.out _).mono ?_
        rintro e wz15 ⟨rfl, hz15⟩
        go_wp2_with fail
        refine hK.out _ _ (⟨Row.below hHeld9.1 hz15, Row.below hHeld9.2.1 hz15, Row.below hHeld9.2.2.1 hz15, Row.below hHeld9.2.2.2 hz15⟩) (fun hHeld15 => ?_)
        clear hK K hHeld9
        try simp only [List.getElem_toArray, List.getElem_cons_succ, List.getElem_cons_zero, Act.put, List.setIfInBounds_toArray, List.set_cons_zero, List.set_cons_succ]
        refine wpAnyH_take (i := 17) (oi := _) (v := ?v4n1_17) rfl (by kernel_rfl) (by kernel_rfl) (by kernel_rfl) (fun _ _ _ h => h) (Or.inl ⟨by rfl, ?hy4n1_17⟩) hHeld15 ?_
        case hy4n1_17 => (intro wS hSw; (try dsimp only at hSw); clear hSw; go_simp; try with_reducible rfl)
        try simp only [List.getElem_toArray, List.getElem_cons_succ, List.getElem_cons_zero, Act.put, List.setIfInBounds_toArray, List.set_cons_zero, List.set_cons_succ]
        refine wpAnyH_take (i := 18) (oi := _) (v := ?v4n1_18) rfl (by kernel_rfl) (by kernel_rfl) (by kernel_rfl) (fun _ _ _ h => h) (Or.inl ⟨by rfl, ?hy4n1_18⟩) hHeld15 ?_
        case hy4n1_18 => (intro wS hSw; (try dsimp only at hSw); clear hSw; go_simp; try with_reducible rfl)
        try simp only [List.getElem_toArray, List.getElem_cons_succ, List.getElem_cons_zero, Act.put, List.setIfInBounds_toArray, List.set_cons_zero, List.set_cons_succ]
        refine wpAnyH_take (i := 19) (oi := _) (v := ?v4n1_19) rfl (by kernel_rfl) (by kernel_rfl) (by kernel_rfl) (fun _ _ _ h => h) (Or.inl ⟨by rfl, ?hy4n1_19⟩) hHeld15 ?_
        case hy4n1_19 => (intro wS hSw; (try dsimp only at hSw); clear hSw; go_simp; try with_reducible rfl)
        try simp only [List.getElem_toArray, List.getElem_cons_succ, List.getElem_cons_zero, Act.put, List.setIfInBounds_toArray, List.set_cons_zero, List.set_cons_succ]
        refine wpAnyH_take (i := 20) (oi := _) (v := .agg (knownCells j).toArray) rfl (by kernel_rfl) (by kernel_rfl) (by kernel_rfl) (fun _ _ _ h => h) (yieldsIf_load_known _ j (G7) 0 hj (fun wS hS => Row.range hS.2.2.2) rfl rfl rfl) hHeld15 ?_
        try simp only [List.getElem_toArray, List.getElem_cons_succ, List.getElem_cons_zero, Act.put, List.setIfInBounds_toArray, List.set_cons_zero, List.set_cons_succ]
        refine wpAnyH_take (i := 21) (oi := _) (v := .agg (knownCells c).toArray) rfl (by kernel_rfl) (by kernel_rfl) (by kernel_rfl) (fun _ _ _ h => h) (yieldsIf_load_known _ c (w.heap.size + 1 + 1) 0 hc (fun wS hS => Row.range hS.2.2.1) rfl rfl rfl) hHeld15 ?_
        try simp only [List.getElem_toArray, List.getElem_cons_succ, List.getElem_cons_zero, Act.put, List.setIfInBounds_toArray, List.set_cons_zero, List.set_cons_succ]
        refine wpAnyH_take (i := 23) (oi := _) (v := .agg (knownCells a).toArray) rfl (by kernel_rfl) (by kernel_rfl) (by kernel_rfl) (fun _ _ _ h => h) (yieldsIf_load_known _ a (w.heap.size) 0 ha (fun wS hS => Row.range hS.1) rfl rfl rfl) hHeld15 ?_
        try simp only [List.getElem_toArray, List.getElem_cons_succ, List.getElem_cons_zero, Act.put, List.setIfInBounds_toArray, List.set_cons_zero, List.set_cons_succ]
        refine wpAnyH_take (i := 24) (oi := _) (v := .agg (knownCells b).toArray) rfl (by kernel_rfl) (by kernel_rfl) (by kernel_rfl) (fun _ _ _ h => h) (yieldsIf_load_known _ b (w.heap.size + 1) 0 hb (fun wS hS => Row.range hS.2.1) rfl rfl rfl) hHeld15 ?_
        try simp only [List.getElem_toArray, List.getElem_cons_succ, List.getElem_cons_zero, Act.put, List.setIfInBounds_toArray, List.set_cons_zero, List.set_cons_succ]
        refine wpAnyH_take (i := 25) (oi := _) (v := .agg (knownCells c).toArray) rfl (by kernel_rfl) (by kernel_rfl) (by kernel_rfl) (fun _ _ _ h => h) (yieldsIf_load_known _ c (w.heap.size + 1 + 1) 0 hc (fun wS hS => Row.range hS.2.2.1) rfl rfl rfl) hHeld15 ?_
        try simp only [List.getElem_toArray, List.getElem_cons_succ, List.getElem_cons_zero, Act.put, List.setIfInBounds_toArray, List.set_cons_zero, List.set_cons_succ]
        refine wpAnyH_ready (rs := [22]) (by kernel_rfl) (by simp) ?_
        refine AllReadyH.cons (o := _) rfl (fun K hK => ?_) AllReadyH.nil
        go_simp
        refine (HC22.out _).mono ?_
        rintro e wz22 ⟨rfl, hz22⟩
        go_wp2_with fail
        refine hK.out _ _ (⟨Row.below hHeld15.1 hz22, Row.below hHeld15.2.1 hz22, Row.below hHeld15.2.2.1 hz22, Row.below hHeld15.2.2.2 hz22⟩) (fun hHeld22 => ?_)
        clear hK K hHeld15
        try simp only [List.getElem_toArray, List.getElem_cons_succ, List.getElem_cons_zero, Act.put, List.setIfInBounds_toArray, List.set_cons_zero, List.set_cons_succ]
        refine wpAnyH_ready (rs := [26]) (by kernel_rfl) (by simp) ?_
        refine AllReadyH.cons (o := _) rfl (fun K hK => ?_) AllReadyH.nil
        go_simp
        refine (HC26.out _).mono ?_
        rintro e wz26 ⟨rfl, hz26⟩
        go_wp2_with fail
        refine hK.out _ _ (⟨Row.below hHeld22.1 hz26, Row.below hHeld22.2.1 hz26, Row.below hHeld22.2.2.1 hz26, Row.below hHeld22.2.2.2 hz26⟩) (fun hHeld26 => ?_)
        clear hK K hHeld22
        try simp only [List.getElem_toArray, List.getElem_cons_succ, List.getElem_cons_zero, Act.put, List.setIfInBounds_toArray, List.set_cons_zero, List.set_cons_succ]
        refine wpAnyH_ready (rs := [27]) (by kernel_rfl) (by simp) ?_
        refine AllReadyH.cons (o := _) rfl (fun K hK => ?_) AllReadyH.nil
        go_simp
        refine (HC27.out _).mono ?_
        rintro e wz27 ⟨rfl, hz27⟩
        go_wp2_with fail
        refine hK.out _ _ (⟨Row.below hHeld26.1 hz27, Row.below hHeld26.2.1 hz27, Row.below hHeld26.2.2.1 hz27, Row.below hHeld26.2.2.2 hz27⟩) (fun hHeld27 => ?_)
        clear hK K hHeld26
        try simp only [List.getElem_toArray, List.getElem_cons_succ, List.getElem_cons_zero, Act.put, List.setIfInBounds_toArray, List.set_cons_zero, List.set_cons_succ]
        refine wpAnyH_take (i := 28) (oi := _) (v := ?v4n1_28) rfl (by kernel_rfl) (by kernel_rfl) (by kernel_rfl) (fun _ _ _ h => h) (Or.inl ⟨by rfl, ?hy4n1_28⟩) hHeld27 ?_
        case hy4n1_28 => (intro wS hSw; (try dsimp only at hSw); clear hSw; go_simp; try with_reducible rfl)
        try simp only [List.getElem_toArray, List.getElem_cons_succ, List.getElem_cons_zero, Act.put, List.setIfInBounds_toArray, List.set_cons_zero, List.set_cons_succ]
        refine wpAnyH_take (i := 29) (oi := _) (v := ?v4n1_29) rfl (by kernel_rfl) (by kernel_rfl) (by kernel_rfl) (fun _ _ _ h => h) (Or.inl ⟨by rfl, ?hy4n1_29⟩) hHeld27 ?_
        case hy4n1_29 => (intro wS hSw; (try dsimp only at hSw); clear hSw; go_simp; try with_reducible rfl)
        try simp only [List.getElem_toArray, List.getElem_cons_succ, List.getElem_cons_zero, Act.put, List.setIfInBounds_toArray, List.set_cons_zero, List.set_cons_succ]
        refine wpAnyH_take (i := 30) (oi := _) (v := ?v4n1_30) rfl (by kernel_rfl) (by kernel_rfl) (by kernel_rfl) (fun _ _ _ h => h) (Or.inl ⟨by rfl, ?hy4n1_30⟩) hHeld27 ?_
        case hy4n1_30 => (intro wS hSw; (try dsimp only at hSw); clear hSw; go_simp; try with_reducible rfl)
        try simp only [List.getElem_toArray, List.getElem_cons_succ, List.getElem_cons_zero, Act.put, List.setIfInBounds_toArray, List.set_cons_zero, List.set_cons_succ]
        refine wpAnyH_done (by kernel_rfl) ?_ _
        have u1 := bd.trans hz3
        have u2 := u1.trans (hz9.mono u1.size)
        have u3 := u2.trans (hz15.mono u2.size)
        have u4 := u3.trans (hz22.mono u3.size)
        have u5 := u4.trans (hz26.mono u4.size)
        have u6 := u5.trans (hz27.mono u5.size)
        go_wp2_with fail
        go_ret
        exact ⟨rfl, t7.trans (u6.mono t7.size)⟩
end Go.Proofs.Ytokkngfgppikkaa
