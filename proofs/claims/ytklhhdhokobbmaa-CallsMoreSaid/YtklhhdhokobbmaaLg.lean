/- The laws of layer 3: FlowKinds returns true. -/
import Derived.Test.YtklhhdhokobbmaaCi
import Derived.Test.YtklhhdhokobbmaaCa
import Derived.Test.YtklhhdhokobbmaaPd
import Derived.Deep.RegionHeld3
namespace Go.Proofs.Ytklhhdhokobbmaa
set_option linter.unusedVariables false
set_option linter.unusedSimpArgs false
open Go.RowKit

theorem Below.drewN {B : Nat} {a w : World} (h : Below B a w) (n : Nat) : Below B a (w.drewN n) := ⟨h.os, h.tape, h.output, h.size, h.block⟩

/-- An instruction lies in a block's first five cells. -/
def S5 (w : World) (g : Nat) (op a b c imm : Int) : Prop := w.cell? ⟨g, 0, none⟩ = some (.int .i64 op) ∧ w.cell? ⟨g, 1, none⟩ = some (.int .i64 a) ∧ w.cell? ⟨g, 2, none⟩ = some (.int .i64 b) ∧ w.cell? ⟨g, 3, none⟩ = some (.int .i64 c) ∧ w.cell? ⟨g, 4, none⟩ = some (.int .i64 imm)
theorem S5.below {w w1 : World} {g : Nat} {op a b c imm : Int} (hb : Below w.heap.size w w1) (h : S5 w g op a b c imm) : S5 w1 g op a b c imm :=
  ⟨(hb.cell (World.lt_of_cell h.1)).trans h.1, (hb.cell (World.lt_of_cell h.2.1)).trans h.2.1, (hb.cell (World.lt_of_cell h.2.2.1)).trans h.2.2.1, (hb.cell (World.lt_of_cell h.2.2.2.1)).trans h.2.2.2.1, (hb.cell (World.lt_of_cell h.2.2.2.2)).trans h.2.2.2.2⟩

set_option maxHeartbeats 4000000 in
set_option maxRecDepth 100000 in
theorem flowKinds_law (x : Ins) (hwf : x.wf) (w : World) : Calls Try.prog 8 #[.agg #[.int .i64 x.op, .int .i64 x.a, .int .i64 x.b, .int .i64 x.c, .int .i64 x.imm]] w fun e w' => e = .returned (.bool true) ∧ Below w.heap.size w w' := by
  clear hwf
  obtain ⟨op, a, b, c, imm⟩ := x
  cases hr : Ins.right ⟨op, a, b, c, imm⟩ with
  | false =>
    have HR := Lib.hid hr
    clear hr
    go_enter Try.func8, Try.ntmps8
    go_wp2_with fail
    refine (flowAwake_calls _).mono ?_
    rintro e w1 ⟨rfl, hb1⟩
    obtain ⟨hc1, hf1⟩ := bcell hb1
    have hz1 : w.heap.size < w1.heap.size := by (have := hb1.size; simp at this; omega)
    go_wp2_with fail
    refine (insRight_calls _ _ _ _ _ _).mono ?_
    rw [HR.out]
    rintro e w2 ⟨rfl, hb2⟩
    go_wp2_with fail
    refine (flowAwake_calls _).mono ?_
    rintro e w3 ⟨rfl, hb3⟩
    go_wp2_with fail
    go_ret
    exact ⟨rfl, (((Below.refl _ _).alloc (Nat.le_refl _) _).trans (hb1.mono (by simp))).trans ((hb2.mono (by omega)).trans (hb3.mono (by have := hb2.size; omega)))⟩
  | true =>
    obtain ⟨h0, h1⟩ := Ins.right_op hr
    replace h0 : 0 ≤ op := h0
    replace h1 : op < 26 := h1
    have hfk := fkind_kindOf h0 h1
    have hwr := writes_eq hr
    have hrd := readsList_eq hr
    have hfl : falls op = (kindOf op != 3 && kindOf op != 5) := by unfold falls; rw [hfk]
    generalize hk : kindOf op = k at *
    have HR := Lib.hid hr
    have HK := Lib.hid hfk
    have HW := Lib.hid hwr
    have HD := Lib.hid hrd
    have HF := Lib.hid hfl
    have HKK := Lib.hid hk
    clear hr hfk hwr hrd hfl hk
    go_enter Try.func8, Try.ntmps8
    go_wp2_with fail
    refine (flowAwake_calls _).mono ?_
    rintro e w1 ⟨rfl, hb1⟩
    obtain ⟨hc1, hf1⟩ := bcell hb1
    have hz1 : w.heap.size < w1.heap.size := by (have := hb1.size; simp at this; omega)
    go_wp2_with fail
    refine (insRight_calls _ _ _ _ _ _).mono ?_
    rw [HR.out]
    rintro e w2 ⟨rfl, hb2⟩
    obtain ⟨hc2, hf2⟩ := bcell hb2
    have hz2 : w.heap.size < w2.heap.size := by (have := hb2.size; omega)
    go_wp2_with fail
    refine (kind_calls _ _ _ _ _ _ h0 h1).mono ?_
    rw [HKK.out]
    rintro e w3 ⟨rfl, hb3⟩
    obtain ⟨hc3, hf3⟩ := bcell hb3
    have hz3 : w.heap.size < w3.heap.size := by (have := hb3.size; omega)
    have hx0 : w3.cell? ⟨w.heap.size, 0, none⟩ = some (.int .i64 op) := by simp [hc3, hc2, hc1, hz1, hz2]
    have hx1 : w3.cell? ⟨w.heap.size, 1, none⟩ = some (.int .i64 a) := by simp [hc3, hc2, hc1, hz1, hz2]
    have hx2 : w3.cell? ⟨w.heap.size, 2, none⟩ = some (.int .i64 b) := by simp [hc3, hc2, hc1, hz1, hz2]
    have hx3 : w3.cell? ⟨w.heap.size, 3, none⟩ = some (.int .i64 c) := by simp [hc3, hc2, hc1, hz1, hz2]
    have hx4 : w3.cell? ⟨w.heap.size, 4, none⟩ = some (.int .i64 imm) := by simp [hc3, hc2, hc1, hz1, hz2]
    have hbt : Below w.heap.size w w3 := ((((Below.refl _ _).alloc (Nat.le_refl _) _).trans (hb1.mono (by simp))).trans (hb2.mono (by omega))).trans (hb3.mono (by omega))
    clear hc1 hc2 hc3 hf1 hf2 hf3 hb1 hb2 hb3 hz1 hz2
    have F3 : S5 w3 w.heap.size op a b c imm := ⟨hx0, hx1, hx2, hx3, hx4⟩
    have hcase : k = 3 ∨ k = 5 ∨ ((k != 3) = true ∧ (k != 5) = true) := by
      by_cases h3 : k = 3
      · exact .inl h3
      · by_cases h5 : k = 5
        · exact .inr (.inl h5)
        · exact .inr (.inr ⟨by simpa using h3, by simpa using h5⟩)
    have hfv : ∃ v, Hid (falls op = v) ∧ (k = 3 ∧ v = false ∨ k = 5 ∧ v = false ∨ ((k != 3) = true ∧ (k != 5) = true ∧ v = true)) := by
      refine ⟨_, HF, ?_⟩
      rcases hcase with h | h | ⟨h3, h5⟩
      · left; exact ⟨h, by rw [h]; rfl⟩
      · right; left; exact ⟨h, by rw [h]; rfl⟩
      · right; right; exact ⟨h3, h5, by rw [h3, h5]; rfl⟩
    clear hcase HF
    obtain ⟨fv, HF, hv⟩ := hfv
    rcases hv with ⟨rfl, rfl⟩ | ⟨rfl, rfl⟩ | ⟨hk3, hk5, rfl⟩
    · go_wp2_with fail
      -- REGION
      refine wp_region_held_drew (S := (fun w' => S5 w' w.heap.size op a b c imm)) (by kernel_rfl) (F3) (fun hHeld => ?_)
      refine wpAnyH_take (i := 0) (oi := _) (v := ?v4_0) rfl (by kernel_rfl) (by kernel_rfl) (by kernel_rfl) (fun _ _ _ h => h) (Or.inl ⟨by rfl, ?hy4_0⟩) hHeld ?_
      case hy4_0 => (intro wS hSw; (try dsimp only at hSw); obtain ⟨s0, s1, s2, s3, s4⟩ := hSw; go_simp; try with_reducible rfl)
      try simp only [List.getElem_toArray, List.getElem_cons_succ, List.getElem_cons_zero, Act.put, List.setIfInBounds_toArray, List.set_cons_zero, List.set_cons_succ]
      refine wpAnyH_take (i := 2) (oi := _) (v := ?v4_2) rfl (by kernel_rfl) (by kernel_rfl) (by kernel_rfl) (fun _ _ _ h => h) (Or.inl ⟨by rfl, ?hy4_2⟩) hHeld ?_
      case hy4_2 => (intro wS hSw; (try dsimp only at hSw); obtain ⟨s0, s1, s2, s3, s4⟩ := hSw; go_simp; try with_reducible rfl)
      try simp only [List.getElem_toArray, List.getElem_cons_succ, List.getElem_cons_zero, Act.put, List.setIfInBounds_toArray, List.set_cons_zero, List.set_cons_succ]
      refine wpAnyH_ready (rs := [1]) (by kernel_rfl) (by simp) ?_
      refine AllReadyH.cons (o := _) rfl (fun K hK => ?_) AllReadyH.nil
      go_simp
      refine (flowKind_calls _ _ _ _ _ _).mono ?_
      rw [HK.out]
      rintro e w4 ⟨rfl, hb4⟩
      go_wp2_with fail
      refine hK.out _ _ (S5.below hb4 hHeld) (fun hHeld1 => ?_)
      clear hK K hHeld
      try simp only [List.getElem_toArray, List.getElem_cons_succ, List.getElem_cons_zero, Act.put, List.setIfInBounds_toArray, List.set_cons_zero, List.set_cons_succ]
      refine wpAnyH_take (i := 3) (oi := _) (v := ?v4_3) rfl (by kernel_rfl) (by kernel_rfl) (by kernel_rfl) (fun _ _ _ h => h) (Or.inl ⟨by rfl, ?hy4_3⟩) hHeld1 ?_
      case hy4_3 => (intro wS hSw; (try dsimp only at hSw); obtain ⟨s0, s1, s2, s3, s4⟩ := hSw; go_simp; try with_reducible rfl)
      try simp only [List.getElem_toArray, List.getElem_cons_succ, List.getElem_cons_zero, Act.put, List.setIfInBounds_toArray, List.set_cons_zero, List.set_cons_succ]
      refine wpAnyH_take (i := 4) (oi := _) (v := ?v4_4) rfl (by kernel_rfl) (by kernel_rfl) (by kernel_rfl) (fun _ _ _ h => h) (Or.inl ⟨by rfl, ?hy4_4⟩) hHeld1 ?_
      case hy4_4 => (intro wS hSw; (try dsimp only at hSw); obtain ⟨s0, s1, s2, s3, s4⟩ := hSw; go_simp; try with_reducible rfl)
      try simp only [List.getElem_toArray, List.getElem_cons_succ, List.getElem_cons_zero, Act.put, List.setIfInBounds_toArray, List.set_cons_zero, List.set_cons_succ]
      refine wpAnyH_take (i := 5) (oi := _) (v := ?v4_5) rfl (by kernel_rfl) (by kernel_rfl) (by kernel_rfl) (fun _ _ _ h => h) (Or.inl ⟨by rfl, ?hy4_5⟩) hHeld1 ?_
      case hy4_5 => (intro wS hSw; (try dsimp only at hSw); obtain ⟨s0, s1, s2, s3, s4⟩ := hSw; go_simp; try with_reducible rfl)
      try simp only [List.getElem_toArray, List.getElem_cons_succ, List.getElem_cons_zero, Act.put, List.setIfInBounds_toArray, List.set_cons_zero, List.set_cons_succ]
      refine wpAnyH_take (i := 7) (oi := _) (v := ?v4_7) rfl (by kernel_rfl) (by kernel_rfl) (by kernel_rfl) (fun _ _ _ h => h) (Or.inl ⟨by rfl, ?hy4_7⟩) hHeld1 ?_
      case hy4_7 => (intro wS hSw; (try dsimp only at hSw); obtain ⟨s0, s1, s2, s3, s4⟩ := hSw; go_simp; try with_reducible rfl)
      try simp only [List.getElem_toArray, List.getElem_cons_succ, List.getElem_cons_zero, Act.put, List.setIfInBounds_toArray, List.set_cons_zero, List.set_cons_succ]
      refine wpAnyH_ready (rs := [6]) (by kernel_rfl) (by simp) ?_
      refine AllReadyH.cons (o := _) rfl (fun K hK => ?_) AllReadyH.nil
      go_simp
      refine (flowWrites_calls _ _ _ _ _ _).mono ?_
      rw [HW.out]
      rintro e w5 ⟨rfl, hb5⟩
      go_wp2_with fail
      refine hK.out _ _ (S5.below hb5 hHeld1) (fun hHeld6 => ?_)
      clear hK K hHeld1
      try simp only [List.getElem_toArray, List.getElem_cons_succ, List.getElem_cons_zero, Act.put, List.setIfInBounds_toArray, List.set_cons_zero, List.set_cons_succ]
      refine wpAnyH_ready (rs := [8]) (by kernel_rfl) (by simp) ?_
      refine AllReadyH.cons (o := _) rfl (fun K hK => ?_) AllReadyH.nil
      go_simp
      refine (refWrites_calls _ _ _ _ _ _).mono ?_
      rintro e w6 ⟨rfl, hb6⟩
      go_wp2_with fail
      refine hK.out _ _ (S5.below hb6 hHeld6) (fun hHeld8 => ?_)
      clear hK K hHeld6
      try simp only [List.getElem_toArray, List.getElem_cons_succ, List.getElem_cons_zero, Act.put, List.setIfInBounds_toArray, List.set_cons_zero, List.set_cons_succ]
      refine wpAnyH_take (i := 9) (oi := _) (v := ?v4_9) rfl (by kernel_rfl) (by kernel_rfl) (by kernel_rfl) (fun _ _ _ h => h) (Or.inl ⟨by rfl, ?hy4_9⟩) hHeld8 ?_
      case hy4_9 => (intro wS hSw; (try dsimp only at hSw); obtain ⟨s0, s1, s2, s3, s4⟩ := hSw; go_simp; try with_reducible rfl)
      try simp only [List.getElem_toArray, List.getElem_cons_succ, List.getElem_cons_zero, Act.put, List.setIfInBounds_toArray, List.set_cons_zero, List.set_cons_succ]
      refine wpAnyH_take (i := 10) (oi := _) (v := ?v4_10) rfl (by kernel_rfl) (by kernel_rfl) (by kernel_rfl) (fun _ _ _ h => h) (Or.inl ⟨by rfl, ?hy4_10⟩) hHeld8 ?_
      case hy4_10 => (intro wS hSw; (try dsimp only at hSw); obtain ⟨s0, s1, s2, s3, s4⟩ := hSw; go_simp; try with_reducible rfl)
      try simp only [List.getElem_toArray, List.getElem_cons_succ, List.getElem_cons_zero, Act.put, List.setIfInBounds_toArray, List.set_cons_zero, List.set_cons_succ]
      refine wpAnyH_take (i := 11) (oi := _) (v := ?v4_11) rfl (by kernel_rfl) (by kernel_rfl) (by kernel_rfl) (fun _ _ _ h => h) (Or.inl ⟨by rfl, ?hy4_11⟩) hHeld8 ?_
      case hy4_11 => (intro wS hSw; (try dsimp only at hSw); obtain ⟨s0, s1, s2, s3, s4⟩ := hSw; go_simp; try with_reducible rfl)
      try simp only [List.getElem_toArray, List.getElem_cons_succ, List.getElem_cons_zero, Act.put, List.setIfInBounds_toArray, List.set_cons_zero, List.set_cons_succ]
      refine wpAnyH_take (i := 12) (oi := _) (v := ?v4_12) rfl (by kernel_rfl) (by kernel_rfl) (by kernel_rfl) (fun _ _ _ h => h) (Or.inl ⟨by rfl, ?hy4_12⟩) hHeld8 ?_
      case hy4_12 => (intro wS hSw; (try dsimp only at hSw); obtain ⟨s0, s1, s2, s3, s4⟩ := hSw; go_simp; try with_reducible rfl)
      try simp only [List.getElem_toArray, List.getElem_cons_succ, List.getElem_cons_zero, Act.put, List.setIfInBounds_toArray, List.set_cons_zero, List.set_cons_succ]
      refine wpAnyH_take (i := 14) (oi := _) (v := ?v4_14) rfl (by kernel_rfl) (by kernel_rfl) (by kernel_rfl) (fun _ _ _ h => h) (Or.inl ⟨by rfl, ?hy4_14⟩) hHeld8 ?_
      case hy4_14 => (intro wS hSw; (try dsimp only at hSw); obtain ⟨s0, s1, s2, s3, s4⟩ := hSw; go_simp; try with_reducible rfl)
      try simp only [List.getElem_toArray, List.getElem_cons_succ, List.getElem_cons_zero, Act.put, List.setIfInBounds_toArray, List.set_cons_zero, List.set_cons_succ]
      refine wpAnyH_ready (rs := [13]) (by kernel_rfl) (by simp) ?_
      refine AllReadyH.cons (o := _) rfl (fun K hK => ?_) AllReadyH.nil
      go_simp
      refine (flowReads_calls _ _ _ _ _ _).mono ?_
      rw [HD.out]
      rintro e w7 ⟨v7, rfl, ho7, hb7⟩
      obtain ⟨A7, c7, rfl, l7, m7, hC7⟩ := ho7.read
      go_wp2_with fail
      refine hK.out _ _ (S5.below hb7 hHeld8) (fun hHeld13 => ?_)
      clear hK K hHeld8
      try simp only [List.getElem_toArray, List.getElem_cons_succ, List.getElem_cons_zero, Act.put, List.setIfInBounds_toArray, List.set_cons_zero, List.set_cons_succ]
      refine wpAnyH_ready (rs := [15]) (by kernel_rfl) (by simp) ?_
      refine AllReadyH.cons (o := _) rfl (fun K hK => ?_) AllReadyH.nil
      go_simp
      refine (refList_calls _ _ _ _ _ _).mono ?_
      rintro e w8 ⟨v8, rfl, ho8, hb8⟩
      obtain ⟨A8, c8, rfl, l8, m8, hC8⟩ := ho8.read
      have hC7b := hC7.below hb8
      go_wp2_with fail
      refine hK.out _ _ (S5.below hb8 hHeld13) (fun hHeld15 => ?_)
      clear hK K hHeld13
      try simp only [List.getElem_toArray, List.getElem_cons_succ, List.getElem_cons_zero, Act.put, List.setIfInBounds_toArray, List.set_cons_zero, List.set_cons_succ]
      refine wpAnyH_ready (rs := [16]) (by kernel_rfl) (by simp) ?_
      refine AllReadyH.cons (o := _) rfl (fun K hK => ?_) AllReadyH.nil
      go_simp
      refine (ints_calls _ _ _ _ _ _ _ hC7b hC8 (by have := len_le l7 m7; unfold maxLen; omega)).mono ?_
      rw [show (refList op a b c == refList op a b c) = true from by simp]
      rintro e w' ⟨rfl, n, rfl⟩
      go_wp2_with fail
      refine hK.out _ _ (hHeld15) (fun hHeld16 => ?_)
      clear hK K hHeld15
      try simp only [List.getElem_toArray, List.getElem_cons_succ, List.getElem_cons_zero, Act.put, List.setIfInBounds_toArray, List.set_cons_zero, List.set_cons_succ]
      refine wpAnyH_take (i := 17) (oi := _) (v := ?v4_17) rfl (by kernel_rfl) (by kernel_rfl) (by kernel_rfl) (fun _ _ _ h => h) (Or.inl ⟨by rfl, ?hy4_17⟩) hHeld16 ?_
      case hy4_17 => (intro wS hSw; (try dsimp only at hSw); obtain ⟨s0, s1, s2, s3, s4⟩ := hSw; go_simp; try with_reducible rfl)
      try simp only [List.getElem_toArray, List.getElem_cons_succ, List.getElem_cons_zero, Act.put, List.setIfInBounds_toArray, List.set_cons_zero, List.set_cons_succ]
      refine wpAnyH_take (i := 18) (oi := _) (v := ?v4_18) rfl (by kernel_rfl) (by kernel_rfl) (by kernel_rfl) (fun _ _ _ h => h) (Or.inl ⟨by rfl, ?hy4_18⟩) hHeld16 ?_
      case hy4_18 => (intro wS hSw; (try dsimp only at hSw); obtain ⟨s0, s1, s2, s3, s4⟩ := hSw; go_simp; try with_reducible rfl)
      try simp only [List.getElem_toArray, List.getElem_cons_succ, List.getElem_cons_zero, Act.put, List.setIfInBounds_toArray, List.set_cons_zero, List.set_cons_succ]
      refine wpAnyH_take (i := 19) (oi := _) (v := ?v4_19) rfl (by kernel_rfl) (by kernel_rfl) (by kernel_rfl) (fun _ _ _ h => h) (Or.inl ⟨by rfl, ?hy4_19⟩) hHeld16 ?_
      case hy4_19 => (intro wS hSw; (try dsimp only at hSw); obtain ⟨s0, s1, s2, s3, s4⟩ := hSw; go_simp; try with_reducible rfl)
      try simp only [List.getElem_toArray, List.getElem_cons_succ, List.getElem_cons_zero, Act.put, List.setIfInBounds_toArray, List.set_cons_zero, List.set_cons_succ]
      refine wpAnyH_take (i := 21) (oi := _) (v := ?v4_21) rfl (by kernel_rfl) (by kernel_rfl) (by kernel_rfl) (fun _ _ _ h => h) (Or.inl ⟨by rfl, ?hy4_21⟩) hHeld16 ?_
      case hy4_21 => (intro wS hSw; (try dsimp only at hSw); obtain ⟨s0, s1, s2, s3, s4⟩ := hSw; go_simp; try with_reducible rfl)
      try simp only [List.getElem_toArray, List.getElem_cons_succ, List.getElem_cons_zero, Act.put, List.setIfInBounds_toArray, List.set_cons_zero, List.set_cons_succ]
      refine wpAnyH_take (i := 22) (oi := _) (v := ?v4_22) rfl (by kernel_rfl) (by kernel_rfl) (by kernel_rfl) (fun _ _ _ h => h) (Or.inl ⟨by rfl, ?hy4_22⟩) hHeld16 ?_
      case hy4_22 => (intro wS hSw; (try dsimp only at hSw); obtain ⟨s0, s1, s2, s3, s4⟩ := hSw; go_simp; try with_reducible rfl)
      try simp only [List.getElem_toArray, List.getElem_cons_succ, List.getElem_cons_zero, Act.put, List.setIfInBounds_toArray, List.set_cons_zero, List.set_cons_succ]
      refine wpAnyH_ready (rs := [20]) (by kernel_rfl) (by simp) ?_
      refine AllReadyH.cons (o := _) rfl (fun K hK => ?_) AllReadyH.nil
      go_simp
      refine (falls_calls _ _ _ _ _ _).mono ?_
      rw [HF.out]
      rintro e w9 ⟨rfl, hb9⟩
      go_wp2_with fail
      refine hK.out _ _ (S5.below hb9 hHeld16) (fun hHeld20 => ?_)
      clear hK K hHeld16
      try simp only [List.getElem_toArray, List.getElem_cons_succ, List.getElem_cons_zero, Act.put, List.setIfInBounds_toArray, List.set_cons_zero, List.set_cons_succ]
      refine wpAnyH_take (i := 23) (oi := _) (v := ?v4_23) rfl (by kernel_rfl) (by kernel_rfl) (by kernel_rfl) (fun _ _ _ h => h) (Or.inl ⟨by rfl, ?hy4_23⟩) hHeld20 ?_
      case hy4_23 => (intro wS hSw; (try dsimp only at hSw); obtain ⟨s0, s1, s2, s3, s4⟩ := hSw; go_simp; try with_reducible rfl)
      try simp only [List.getElem_toArray, List.getElem_cons_succ, List.getElem_cons_zero, Act.put, List.setIfInBounds_toArray, List.set_cons_zero, List.set_cons_succ]
      refine wpAnyH_take (i := 24) (oi := _) (v := undef) rfl (by kernel_rfl) (by kernel_rfl) (by kernel_rfl) (fun _ _ _ h => h) (Or.inr ⟨by rfl, rfl⟩) hHeld20 ?_
      try simp only [List.getElem_toArray, List.getElem_cons_succ, List.getElem_cons_zero, Act.put, List.setIfInBounds_toArray, List.set_cons_zero, List.set_cons_succ]
      refine wpAnyH_take (i := 25) (oi := _) (v := undef) rfl (by kernel_rfl) (by kernel_rfl) (by kernel_rfl) (fun _ _ _ h => h) (Or.inr ⟨by rfl, rfl⟩) hHeld20 ?_
      try simp only [List.getElem_toArray, List.getElem_cons_succ, List.getElem_cons_zero, Act.put, List.setIfInBounds_toArray, List.set_cons_zero, List.set_cons_succ]
      refine wpAnyH_take (i := 26) (oi := _) (v := ?v4_26) rfl (by kernel_rfl) (by kernel_rfl) (by kernel_rfl) (fun _ _ _ h => h) (Or.inl ⟨by rfl, ?hy4_26⟩) hHeld20 ?_
      case hy4_26 => (intro wS hSw; (try dsimp only at hSw); obtain ⟨s0, s1, s2, s3, s4⟩ := hSw; go_simp; try with_reducible rfl)
      try simp only [List.getElem_toArray, List.getElem_cons_succ, List.getElem_cons_zero, Act.put, List.setIfInBounds_toArray, List.set_cons_zero, List.set_cons_succ]
      refine wpAnyH_take (i := 27) (oi := _) (v := ?v4_27) rfl (by kernel_rfl) (by kernel_rfl) (by kernel_rfl) (fun _ _ _ h => h) (Or.inl ⟨by rfl, ?hy4_27⟩) hHeld20 ?_
      case hy4_27 => (intro wS hSw; (try dsimp only at hSw); obtain ⟨s0, s1, s2, s3, s4⟩ := hSw; go_simp; try with_reducible rfl)
      try simp only [List.getElem_toArray, List.getElem_cons_succ, List.getElem_cons_zero, Act.put, List.setIfInBounds_toArray, List.set_cons_zero, List.set_cons_succ]
      refine wpAnyH_take (i := 28) (oi := _) (v := ?v4_28) rfl (by kernel_rfl) (by kernel_rfl) (by kernel_rfl) (fun _ _ _ h => h) (Or.inl ⟨by rfl, ?hy4_28⟩) hHeld20 ?_
      case hy4_28 => (intro wS hSw; (try dsimp only at hSw); obtain ⟨s0, s1, s2, s3, s4⟩ := hSw; go_simp; try with_reducible rfl)
      try simp only [List.getElem_toArray, List.getElem_cons_succ, List.getElem_cons_zero, Act.put, List.setIfInBounds_toArray, List.set_cons_zero, List.set_cons_succ]
      refine wpAnyH_take (i := 29) (oi := _) (v := ?v4_29) rfl (by kernel_rfl) (by kernel_rfl) (by kernel_rfl) (fun _ _ _ h => h) (Or.inl ⟨by rfl, ?hy4_29⟩) hHeld20 ?_
      case hy4_29 => (intro wS hSw; (try dsimp only at hSw); obtain ⟨s0, s1, s2, s3, s4⟩ := hSw; go_simp; try with_reducible rfl)
      try simp only [List.getElem_toArray, List.getElem_cons_succ, List.getElem_cons_zero, Act.put, List.setIfInBounds_toArray, List.set_cons_zero, List.set_cons_succ]
      refine wpAnyH_done (by kernel_rfl) ?_ _
      -- END
      go_wp2_with fail
      go_ret
      have t4 := (hbt.drew).trans (hb4.mono hbt.size)
      have t5 := t4.trans (hb5.mono t4.size)
      have t6 := t5.trans (hb6.mono t5.size)
      have t7 := t6.trans (hb7.mono t6.size)
      have t8 := t7.trans (hb8.mono t7.size)
      have t9 := (Below.drewN t8 n).trans (hb9.mono t8.size)
      exact ⟨rfl, t9⟩
    · go_wp2_with fail
      go_region_held3 (fun w' => w'.cell? ⟨w.heap.size, 0, none⟩ = some (.int .i64 op) ∧ w'.cell? ⟨w.heap.size, 1, none⟩ = some (.int .i64 a) ∧ w'.cell? ⟨w.heap.size, 2, none⟩ = some (.int .i64 b) ∧ w'.cell? ⟨w.heap.size, 3, none⟩ = some (.int .i64 c) ∧ w'.cell? ⟨w.heap.size, 4, none⟩ = some (.int .i64 imm)) (first | exact F9 | exact F8 | exact F7 | exact F6 | exact F5 | exact F4 | exact F3)
        (first
          | (go_at_call 28; refine (flowKind_calls _ _ _ _ _ _).mono ?_; rw [HK.out]; rintro e w4 ⟨rfl, hb4⟩; have F4 := S5.below hb4 F3)
          | (go_at_call 29; refine (flowWrites_calls _ _ _ _ _ _).mono ?_; rw [HW.out]; rintro e w5 ⟨rfl, hb5⟩; have F5 := S5.below hb5 F4)
          | (go_at_call 30; refine (refWrites_calls _ _ _ _ _ _).mono ?_; rintro e w6 ⟨rfl, hb6⟩; have F6 := S5.below hb6 F5)
          | (go_at_call 31; refine (flowReads_calls _ _ _ _ _ _).mono ?_; rw [HD.out]; rintro e w7 ⟨v7, rfl, ho7, hb7⟩; obtain ⟨A7, c7, rfl, l7, m7, hC7⟩ := ho7.read; have F7 := S5.below hb7 F6)
          | (go_at_call 32; refine (refList_calls _ _ _ _ _ _).mono ?_; rintro e w8 ⟨v8, rfl, ho8, hb8⟩; obtain ⟨A8, c8, rfl, l8, m8, hC8⟩ := ho8.read; have hC7b := hC7.below hb8; have F8 := S5.below hb8 F7)
          | (go_at_call 16; refine (ints_calls _ _ _ _ _ _ _ hC7b hC8 (by have := len_le l7 m7; unfold maxLen; omega)).mono ?_; rw [show (refList op a b c == refList op a b c) = true from by simp]; rintro e w' ⟨rfl, n, rfl⟩)
          | (go_at_call 33; refine (falls_calls _ _ _ _ _ _).mono ?_; rw [HF.out]; rintro e w9 ⟨rfl, hb9⟩; have F9 := S5.below hb9 F8))
      go_wp2_with fail
      go_ret
      have t4 := (hbt.drew).trans (hb4.mono hbt.size)
      have t5 := t4.trans (hb5.mono t4.size)
      have t6 := t5.trans (hb6.mono t5.size)
      have t7 := t6.trans (hb7.mono t6.size)
      have t8 := t7.trans (hb8.mono t7.size)
      have t9 := (Below.drewN t8 n).trans (hb9.mono t8.size)
      exact ⟨rfl, t9⟩
    · have hk3' : (k == 3) = false := by simpa using hk3
      have hk5' : (k == 5) = false := by simpa using hk5
      go_wp2_with fail
      go_region_held3 (fun w' => w'.cell? ⟨w.heap.size, 0, none⟩ = some (.int .i64 op) ∧ w'.cell? ⟨w.heap.size, 1, none⟩ = some (.int .i64 a) ∧ w'.cell? ⟨w.heap.size, 2, none⟩ = some (.int .i64 b) ∧ w'.cell? ⟨w.heap.size, 3, none⟩ = some (.int .i64 c) ∧ w'.cell? ⟨w.heap.size, 4, none⟩ = some (.int .i64 imm)) (first | exact F9 | exact F8 | exact F7 | exact F6 | exact F5 | exact F4 | exact F3)
        (first
          | (go_at_call 28; refine (flowKind_calls _ _ _ _ _ _).mono ?_; rw [HK.out]; rintro e w4 ⟨rfl, hb4⟩; have F4 := S5.below hb4 F3)
          | (go_at_call 29; refine (flowWrites_calls _ _ _ _ _ _).mono ?_; rw [HW.out]; rintro e w5 ⟨rfl, hb5⟩; have F5 := S5.below hb5 F4)
          | (go_at_call 30; refine (refWrites_calls _ _ _ _ _ _).mono ?_; rintro e w6 ⟨rfl, hb6⟩; have F6 := S5.below hb6 F5)
          | (go_at_call 31; refine (flowReads_calls _ _ _ _ _ _).mono ?_; rw [HD.out]; rintro e w7 ⟨v7, rfl, ho7, hb7⟩; obtain ⟨A7, c7, rfl, l7, m7, hC7⟩ := ho7.read; have F7 := S5.below hb7 F6)
          | (go_at_call 32; refine (refList_calls _ _ _ _ _ _).mono ?_; rintro e w8 ⟨v8, rfl, ho8, hb8⟩; obtain ⟨A8, c8, rfl, l8, m8, hC8⟩ := ho8.read; have hC7b := hC7.below hb8; have F8 := S5.below hb8 F7)
          | (go_at_call 16; refine (ints_calls _ _ _ _ _ _ _ hC7b hC8 (by have := len_le l7 m7; unfold maxLen; omega)).mono ?_; rw [show (refList op a b c == refList op a b c) = true from by simp]; rintro e w' ⟨rfl, n, rfl⟩)
          | (go_at_call 33; refine (falls_calls _ _ _ _ _ _).mono ?_; rw [HF.out]; rintro e w9 ⟨rfl, hb9⟩; have F9 := S5.below hb9 F8))
      go_wp2_with fail
      go_ret
      have t4 := (hbt.drew).trans (hb4.mono hbt.size)
      have t5 := t4.trans (hb5.mono t4.size)
      have t6 := t5.trans (hb6.mono t5.size)
      have t7 := t6.trans (hb7.mono t6.size)
      have t8 := t7.trans (hb8.mono t7.size)
      have t9 := (Below.drewN t8 n).trans (hb9.mono t8.size)
      exact ⟨rfl, t9⟩
end Go.Proofs.Ytklhhdhokobbmaa
