/- The laws of layer 3: FlowReads returns true. -/
import Derived.Test.YtklhhdhokobbmaaLi
namespace Go.Proofs.Ytklhhdhokobbmaa
set_option linter.unusedVariables false
set_option linter.unusedSimpArgs false
open Go.RowKit

theorem reads_zero (op : Int) : readsList op 0 0 0 = [] := by
  unfold readsList rawReads
  split
  · rw [sorted_two, if_pos (Int.le_refl _), compact_two, if_pos rfl]; rfl
  · split
    · rw [sorted_one, compact_one]; rfl
    · split
      · rw [sorted_two, if_pos (Int.le_refl _), compact_two, if_pos rfl]; rfl
      · split
        · rw [sorted_one, compact_one]; rfl
        · rw [sorted_nil, compact_nil]; rfl
theorem writes_zero (op : Int) : writes op 0 = -1 := by
  unfold writes
  rw [if_neg (by omega)]

/-- Three instructions lie in three blocks. -/
def S15 (w : World) (g1 g2 g3 : Nat) (op a b c imm z : Int) : Prop := w.cell? ⟨g1, 0, none⟩ = some (.int .i64 op) ∧ w.cell? ⟨g1, 1, none⟩ = some (.int .i64 a) ∧ w.cell? ⟨g1, 2, none⟩ = some (.int .i64 b) ∧ w.cell? ⟨g1, 3, none⟩ = some (.int .i64 c) ∧ w.cell? ⟨g1, 4, none⟩ = some (.int .i64 imm) ∧ w.cell? ⟨g2, 0, none⟩ = some (.int .i64 op) ∧ w.cell? ⟨g2, 1, none⟩ = some (.int .i64 a) ∧ w.cell? ⟨g2, 2, none⟩ = some (.int .i64 b) ∧ w.cell? ⟨g2, 3, none⟩ = some (.int .i64 c) ∧ w.cell? ⟨g2, 4, none⟩ = some (.int .i64 z) ∧ w.cell? ⟨g3, 0, none⟩ = some (.int .i64 op) ∧ w.cell? ⟨g3, 1, none⟩ = some (.int .i64 0) ∧ w.cell? ⟨g3, 2, none⟩ = some (.int .i64 0) ∧ w.cell? ⟨g3, 3, none⟩ = some (.int .i64 0) ∧ w.cell? ⟨g3, 4, none⟩ = some (.int .i64 imm)
theorem S15.below {w w1 : World} {g1 g2 g3 : Nat} {op a b c imm z : Int} (hb : Below w.heap.size w w1) (h : S15 w g1 g2 g3 op a b c imm z) : S15 w1 g1 g2 g3 op a b c imm z := by
  obtain ⟨s0, s1, s2, s3, s4, s5, s6, s7, s8, s9, s10, s11, s12, s13, s14⟩ := h
  exact ⟨(hb.cell (World.lt_of_cell s0)).trans s0, (hb.cell (World.lt_of_cell s1)).trans s1, (hb.cell (World.lt_of_cell s2)).trans s2, (hb.cell (World.lt_of_cell s3)).trans s3, (hb.cell (World.lt_of_cell s4)).trans s4, (hb.cell (World.lt_of_cell s5)).trans s5, (hb.cell (World.lt_of_cell s6)).trans s6, (hb.cell (World.lt_of_cell s7)).trans s7, (hb.cell (World.lt_of_cell s8)).trans s8, (hb.cell (World.lt_of_cell s9)).trans s9, (hb.cell (World.lt_of_cell s10)).trans s10, (hb.cell (World.lt_of_cell s11)).trans s11, (hb.cell (World.lt_of_cell s12)).trans s12, (hb.cell (World.lt_of_cell s13)).trans s13, (hb.cell (World.lt_of_cell s14)).trans s14⟩

set_option maxHeartbeats 4000000 in
set_option maxRecDepth 100000 in
theorem flowReads_law (x : Ins) (hwf : x.wf) (r : Int) (hr8 : (Lit.int .u8 r).wf = true) (w : World) : Calls Try.prog 12 #[.agg #[.int .i64 x.op, .int .i64 x.a, .int .i64 x.b, .int .i64 x.c, .int .i64 x.imm], .int .u8 r] w fun e w' => e = .returned (.bool true) ∧ Below w.heap.size w w' := by
  clear hwf
  obtain ⟨op, a, b, c, imm⟩ := x
  cases hr : Ins.right ⟨op, a, b, c, imm⟩ with
  | false =>
    have HR := Lib.hid hr
    clear hr
    go_enter Try.func12, Try.ntmps12
    go_wp2_with fail
    refine (flowAwake_calls _).mono ?_
    rintro e w1 ⟨rfl, hb1⟩
    obtain ⟨hc1, hf1⟩ := bcell hb1
    have hz1 : w.heap.size < w1.heap.size := by (have := hb1.size; simp at this; omega)
    go_wp2_with fail
    refine (insRight_calls _ _ _ _ _ _).mono ?_
    rw [HR.out]
    rintro e w2 ⟨rfl, hb2⟩
    go_wp2_with fail
    refine (flowAwake_calls _).mono ?_
    rintro e w3 ⟨rfl, hb3⟩
    go_wp2_with fail
    go_ret
    exact ⟨rfl, (((Below.refl _ _).alloc (Nat.le_refl _) _).trans (hb1.mono (by simp))).trans ((hb2.mono (by omega)).trans (hb3.mono (by have := hb2.size; omega)))⟩
  | true =>
    have HR := Lib.hid hr
    clear hr
    clear hr8
    go_enter Try.func12, Try.ntmps12
    go_wp2_with fail
    have hb0 : Below w.heap.size w (w.alloc (.cells #[.int .i64 op, .int .i64 a, .int .i64 b, .int .i64 c, .int .i64 imm] 41)) := (Below.refl _ _).alloc (Nat.le_refl _) _
    have F0 : S5 (w.alloc (.cells #[.int .i64 op, .int .i64 a, .int .i64 b, .int .i64 c, .int .i64 imm] 41)) w.heap.size op a b c imm := ⟨by simp, by simp, by simp, by simp, by simp⟩
    generalize hW : w.alloc (.cells #[.int .i64 op, .int .i64 a, .int .i64 b, .int .i64 c, .int .i64 imm] 41) = W at *
    clear hW
    refine (flowAwake_calls _).mono ?_
    rintro e w1 ⟨rfl, hb1⟩
    have F1 := S5.below hb1 F0
    obtain ⟨x0, x1, x2, x3, x4⟩ := S5.below hb1 F0
    go_wp2_with fail
    refine (insRight_calls _ _ _ _ _ _).mono ?_
    rw [HR.out]
    rintro e w2 ⟨rfl, hb2⟩
    have F2 := S5.below hb2 F1
    clear x0 x1 x2 x3 x4
    obtain ⟨x0, x1, x2, x3, x4⟩ := S5.below hb2 F1
    have hlt : w.heap.size < w2.heap.size := World.lt_of_cell F2.1
    go_wp2_with fail
    have t3 : Below w.heap.size w w2 := hb0.trans ((hb1.mono hb0.size).trans (hb2.mono (Nat.le_trans hb0.size hb1.size)))
    have F3 : S15 ((w2.alloc (.cells #[.int .i64 op, .int .i64 a, .int .i64 b, .int .i64 c, .int .i64 (wrap64 (r.tmod 100))] 41)).alloc (.cells #[.int .i64 op, .int .i64 0, .int .i64 0, .int .i64 0, .int .i64 imm] 41)) w.heap.size w2.heap.size (w2.heap.size + 1) op a b c imm (wrap64 (r.tmod 100)) := by
      refine ⟨?_, ?_, ?_, ?_, ?_, ?_, ?_, ?_, ?_, ?_, ?_, ?_, ?_, ?_, ?_⟩
      all_goals first
        | (simp; done)
        | (refine ((((Below.refl w2.heap.size w2).alloc (Nat.le_refl _) _).alloc (by simp) _).cell hlt).trans ?_; first | exact x0 | exact x1 | exact x2 | exact x3 | exact x4)
        | (rw [show w2.heap.size + 1 = (w2.alloc (.cells #[.int .i64 op, .int .i64 a, .int .i64 b, .int .i64 c, .int .i64 (wrap64 (r.tmod 100))] 41)).heap.size from by simp]; simp)
    clear x0 x1 x2 x3 x4
    replace t3 : Below w.heap.size w ((w2.alloc (.cells #[.int .i64 op, .int .i64 a, .int .i64 b, .int .i64 c, .int .i64 (wrap64 (r.tmod 100))] 41)).alloc (.cells #[.int .i64 op, .int .i64 0, .int .i64 0, .int .i64 0, .int .i64 imm] 41)) := (t3.alloc (Nat.le_of_lt hlt) _).alloc (by simp; omega) _
    generalize (w2.alloc (.cells #[.int .i64 op, .int .i64 a, .int .i64 b, .int .i64 c, .int .i64 (wrap64 (r.tmod 100))] 41)).alloc (.cells #[.int .i64 op, .int .i64 0, .int .i64 0, .int .i64 0, .int .i64 imm] 41) = w3 at *
    generalize wrap64 (r.tmod 100) = z at *
    clear F0 F1 F2 hb0 hb1 hb2 HR
    -- TAIL
    cases hj : Ins.right ⟨op, a, b, c, z⟩ with
    | false =>
      have HJ := Lib.hid hj
      clear hj
      refine wp_region_held_drew (S := (fun w' => S15 w' w.heap.size w2.heap.size (w2.heap.size + 1) op a b c imm z)) (by kernel_rfl) (F3) (fun hHeld => ?_)
      refine wpAnyH_take (i := 0) (oi := _) (v := ?v9_0) rfl (by kernel_rfl) (by kernel_rfl) (by kernel_rfl) (fun _ _ _ h => h) (Or.inl ⟨by rfl, ?hy9_0⟩) hHeld ?_
      case hy9_0 => (intro wS hSw; (try dsimp only at hSw); obtain ⟨s0, s1, s2, s3, s4, s5, s6, s7, s8, s9, s10, s11, s12, s13, s14⟩ := hSw; go_simp; try with_reducible rfl)
      try simp only [List.getElem_toArray, List.getElem_cons_succ, List.getElem_cons_zero, Act.put, List.setIfInBounds_toArray, List.set_cons_zero, List.set_cons_succ]
      refine wpAnyH_ready (rs := [1]) (by kernel_rfl) (by simp) ?_
      refine AllReadyH.cons (o := _) rfl (fun K hK => ?_) AllReadyH.nil
      go_simp
      refine (flowReads_calls _ _ _ _ _ _).mono ?_
      rw [reads_zero]
      rintro e w4 ⟨v4, rfl, ho4, hb4⟩
      obtain ⟨A4, c4, rfl, l4, m4, hC4⟩ := ho4.read
      simp only [List.length_nil] at *
      go_wp2_with fail
      refine hK.out _ _ (S15.below hb4 hHeld) (fun hHeld1 => ?_)
      clear hK K hHeld
      try simp only [List.getElem_toArray, List.getElem_cons_succ, List.getElem_cons_zero, Act.put, List.setIfInBounds_toArray, List.set_cons_zero, List.set_cons_succ]
      refine wpAnyH_take (i := 2) (oi := _) (v := ?v9_2) rfl (by kernel_rfl) (by kernel_rfl) (by kernel_rfl) (fun _ _ _ h => h) (Or.inl ⟨by rfl, ?hy9_2⟩) hHeld1 ?_
      case hy9_2 => (intro wS hSw; (try dsimp only at hSw); obtain ⟨s0, s1, s2, s3, s4, s5, s6, s7, s8, s9, s10, s11, s12, s13, s14⟩ := hSw; go_simp; try with_reducible rfl)
      try simp only [List.getElem_toArray, List.getElem_cons_succ, List.getElem_cons_zero, Act.put, List.setIfInBounds_toArray, List.set_cons_zero, List.set_cons_succ]
      refine wpAnyH_take (i := 3) (oi := _) (v := ?v9_3) rfl (by kernel_rfl) (by kernel_rfl) (by kernel_rfl) (fun _ _ _ h => h) (Or.inl ⟨by rfl, ?hy9_3⟩) hHeld1 ?_
      case hy9_3 => (intro wS hSw; (try dsimp only at hSw); obtain ⟨s0, s1, s2, s3, s4, s5, s6, s7, s8, s9, s10, s11, s12, s13, s14⟩ := hSw; go_simp; try with_reducible rfl)
      try simp only [List.getElem_toArray, List.getElem_cons_succ, List.getElem_cons_zero, Act.put, List.setIfInBounds_toArray, List.set_cons_zero, List.set_cons_succ]
      refine wpAnyH_take (i := 4) (oi := _) (v := ?v9_4) rfl (by kernel_rfl) (by kernel_rfl) (by kernel_rfl) (fun _ _ _ h => h) (Or.inl ⟨by rfl, ?hy9_4⟩) hHeld1 ?_
      case hy9_4 => (intro wS hSw; (try dsimp only at hSw); obtain ⟨s0, s1, s2, s3, s4, s5, s6, s7, s8, s9, s10, s11, s12, s13, s14⟩ := hSw; go_simp; try with_reducible rfl)
      try simp only [List.getElem_toArray, List.getElem_cons_succ, List.getElem_cons_zero, Act.put, List.setIfInBounds_toArray, List.set_cons_zero, List.set_cons_succ]
      refine wpAnyH_take (i := 5) (oi := _) (v := ?v9_5) rfl (by kernel_rfl) (by kernel_rfl) (by kernel_rfl) (fun _ _ _ h => h) (Or.inl ⟨by rfl, ?hy9_5⟩) hHeld1 ?_
      case hy9_5 => (intro wS hSw; (try dsimp only at hSw); obtain ⟨s0, s1, s2, s3, s4, s5, s6, s7, s8, s9, s10, s11, s12, s13, s14⟩ := hSw; go_simp; try with_reducible rfl)
      try simp only [List.getElem_toArray, List.getElem_cons_succ, List.getElem_cons_zero, Act.put, List.setIfInBounds_toArray, List.set_cons_zero, List.set_cons_succ]
      refine wpAnyH_ready (rs := [6]) (by kernel_rfl) (by simp) ?_
      refine AllReadyH.cons (o := _) rfl (fun K hK => ?_) AllReadyH.nil
      go_simp
      refine (flowWrites_calls _ _ _ _ _ _).mono ?_
      rw [writes_zero]
      rintro e w5 ⟨rfl, hb5⟩
      go_wp2_with fail
      refine hK.out _ _ (S15.below hb5 hHeld1) (fun hHeld6 => ?_)
      clear hK K hHeld1
      try simp only [List.getElem_toArray, List.getElem_cons_succ, List.getElem_cons_zero, Act.put, List.setIfInBounds_toArray, List.set_cons_zero, List.set_cons_succ]
      refine wpAnyH_take (i := 7) (oi := _) (v := ?v9_7) rfl (by kernel_rfl) (by kernel_rfl) (by kernel_rfl) (fun _ _ _ h => h) (Or.inl ⟨by rfl, ?hy9_7⟩) hHeld6 ?_
      case hy9_7 => (intro wS hSw; (try dsimp only at hSw); obtain ⟨s0, s1, s2, s3, s4, s5, s6, s7, s8, s9, s10, s11, s12, s13, s14⟩ := hSw; go_simp; try with_reducible rfl)
      try simp only [List.getElem_toArray, List.getElem_cons_succ, List.getElem_cons_zero, Act.put, List.setIfInBounds_toArray, List.set_cons_zero, List.set_cons_succ]
      refine wpAnyH_take (i := 8) (oi := _) (v := ?v9_8) rfl (by kernel_rfl) (by kernel_rfl) (by kernel_rfl) (fun _ _ _ h => h) (Or.inl ⟨by rfl, ?hy9_8⟩) hHeld6 ?_
      case hy9_8 => (intro wS hSw; (try dsimp only at hSw); obtain ⟨s0, s1, s2, s3, s4, s5, s6, s7, s8, s9, s10, s11, s12, s13, s14⟩ := hSw; go_simp; try with_reducible rfl)
      try simp only [List.getElem_toArray, List.getElem_cons_succ, List.getElem_cons_zero, Act.put, List.setIfInBounds_toArray, List.set_cons_zero, List.set_cons_succ]
      refine wpAnyH_take (i := 9) (oi := _) (v := ?v9_9) rfl (by kernel_rfl) (by kernel_rfl) (by kernel_rfl) (fun _ _ _ h => h) (Or.inl ⟨by rfl, ?hy9_9⟩) hHeld6 ?_
      case hy9_9 => (intro wS hSw; (try dsimp only at hSw); obtain ⟨s0, s1, s2, s3, s4, s5, s6, s7, s8, s9, s10, s11, s12, s13, s14⟩ := hSw; go_simp; try with_reducible rfl)
      try simp only [List.getElem_toArray, List.getElem_cons_succ, List.getElem_cons_zero, Act.put, List.setIfInBounds_toArray, List.set_cons_zero, List.set_cons_succ]
      refine wpAnyH_take (i := 10) (oi := _) (v := ?v9_10) rfl (by kernel_rfl) (by kernel_rfl) (by kernel_rfl) (fun _ _ _ h => h) (Or.inl ⟨by rfl, ?hy9_10⟩) hHeld6 ?_
      case hy9_10 => (intro wS hSw; (try dsimp only at hSw); obtain ⟨s0, s1, s2, s3, s4, s5, s6, s7, s8, s9, s10, s11, s12, s13, s14⟩ := hSw; go_simp; try with_reducible rfl)
      try simp only [List.getElem_toArray, List.getElem_cons_succ, List.getElem_cons_zero, Act.put, List.setIfInBounds_toArray, List.set_cons_zero, List.set_cons_succ]
      refine wpAnyH_take (i := 12) (oi := _) (v := ?v9_12) rfl (by kernel_rfl) (by kernel_rfl) (by kernel_rfl) (fun _ _ _ h => h) (Or.inl ⟨by rfl, ?hy9_12⟩) hHeld6 ?_
      case hy9_12 => (intro wS hSw; (try dsimp only at hSw); obtain ⟨s0, s1, s2, s3, s4, s5, s6, s7, s8, s9, s10, s11, s12, s13, s14⟩ := hSw; go_simp; try with_reducible rfl)
      try simp only [List.getElem_toArray, List.getElem_cons_succ, List.getElem_cons_zero, Act.put, List.setIfInBounds_toArray, List.set_cons_zero, List.set_cons_succ]
      refine wpAnyH_ready (rs := [11]) (by kernel_rfl) (by simp) ?_
      refine AllReadyH.cons (o := _) rfl (fun K hK => ?_) AllReadyH.nil
      go_simp
      refine (flowKind_calls _ _ _ _ _ _).mono ?_
      rintro e w6 ⟨rfl, hb6⟩
      go_wp2_with fail
      refine hK.out _ _ (S15.below hb6 hHeld6) (fun hHeld11 => ?_)
      clear hK K hHeld6
      try simp only [List.getElem_toArray, List.getElem_cons_succ, List.getElem_cons_zero, Act.put, List.setIfInBounds_toArray, List.set_cons_zero, List.set_cons_succ]
      refine wpAnyH_ready (rs := [13]) (by kernel_rfl) (by simp) ?_
      refine AllReadyH.cons (o := _) rfl (fun K hK => ?_) AllReadyH.nil
      go_simp
      refine (flowKind_calls _ _ _ _ _ _).mono ?_
      rintro e w7 ⟨rfl, hb7⟩
      go_wp2_with fail
      refine hK.out _ _ (S15.below hb7 hHeld11) (fun hHeld13 => ?_)
      clear hK K hHeld11
      try simp only [List.getElem_toArray, List.getElem_cons_succ, List.getElem_cons_zero, Act.put, List.setIfInBounds_toArray, List.set_cons_zero, List.set_cons_succ]
      refine wpAnyH_take (i := 14) (oi := _) (v := ?v9_14) rfl (by kernel_rfl) (by kernel_rfl) (by kernel_rfl) (fun _ _ _ h => h) (Or.inl ⟨by rfl, ?hy9_14⟩) hHeld13 ?_
      case hy9_14 => (intro wS hSw; (try dsimp only at hSw); obtain ⟨s0, s1, s2, s3, s4, s5, s6, s7, s8, s9, s10, s11, s12, s13, s14⟩ := hSw; go_simp; try with_reducible rfl)
      try simp only [List.getElem_toArray, List.getElem_cons_succ, List.getElem_cons_zero, Act.put, List.setIfInBounds_toArray, List.set_cons_zero, List.set_cons_succ]
      refine wpAnyH_take (i := 15) (oi := _) (v := ?v9_15) rfl (by kernel_rfl) (by kernel_rfl) (by kernel_rfl) (fun _ _ _ h => h) (Or.inl ⟨by rfl, ?hy9_15⟩) hHeld13 ?_
      case hy9_15 => (intro wS hSw; (try dsimp only at hSw); obtain ⟨s0, s1, s2, s3, s4, s5, s6, s7, s8, s9, s10, s11, s12, s13, s14⟩ := hSw; go_simp; try with_reducible rfl)
      try simp only [List.getElem_toArray, List.getElem_cons_succ, List.getElem_cons_zero, Act.put, List.setIfInBounds_toArray, List.set_cons_zero, List.set_cons_succ]
      refine wpAnyH_take (i := 16) (oi := _) (v := ?v9_16) rfl (by kernel_rfl) (by kernel_rfl) (by kernel_rfl) (fun _ _ _ h => h) (Or.inl ⟨by rfl, ?hy9_16⟩) hHeld13 ?_
      case hy9_16 => (intro wS hSw; (try dsimp only at hSw); obtain ⟨s0, s1, s2, s3, s4, s5, s6, s7, s8, s9, s10, s11, s12, s13, s14⟩ := hSw; go_simp; try with_reducible rfl)
      try simp only [List.getElem_toArray, List.getElem_cons_succ, List.getElem_cons_zero, Act.put, List.setIfInBounds_toArray, List.set_cons_zero, List.set_cons_succ]
      refine wpAnyH_take (i := 17) (oi := _) (v := ?v9_17) rfl (by kernel_rfl) (by kernel_rfl) (by kernel_rfl) (fun _ _ _ h => h) (Or.inl ⟨by rfl, ?hy9_17⟩) hHeld13 ?_
      case hy9_17 => (intro wS hSw; (try dsimp only at hSw); obtain ⟨s0, s1, s2, s3, s4, s5, s6, s7, s8, s9, s10, s11, s12, s13, s14⟩ := hSw; go_simp; try with_reducible rfl)
      try simp only [List.getElem_toArray, List.getElem_cons_succ, List.getElem_cons_zero, Act.put, List.setIfInBounds_toArray, List.set_cons_zero, List.set_cons_succ]
      refine wpAnyH_ready (rs := [18]) (by kernel_rfl) (by simp) ?_
      refine AllReadyH.cons (o := _) rfl (fun K hK => ?_) AllReadyH.nil
      go_simp
      refine (insRight_calls _ _ _ _ _ _).mono ?_
      rw [HJ.out]
      rintro e w8 ⟨rfl, hb8⟩
      go_wp2_with fail
      refine hK.out _ _ (S15.below hb8 hHeld13) (fun hHeld18 => ?_)
      clear hK K hHeld13
      try simp only [List.getElem_toArray, List.getElem_cons_succ, List.getElem_cons_zero, Act.put, List.setIfInBounds_toArray, List.set_cons_zero, List.set_cons_succ]
      refine wpAnyH_take (i := 19) (oi := _) (v := ?v9_19) rfl (by kernel_rfl) (by kernel_rfl) (by kernel_rfl) (fun _ _ _ h => h) (Or.inl ⟨by rfl, ?hy9_19⟩) hHeld18 ?_
      case hy9_19 => (intro wS hSw; (try dsimp only at hSw); obtain ⟨s0, s1, s2, s3, s4, s5, s6, s7, s8, s9, s10, s11, s12, s13, s14⟩ := hSw; go_simp; try with_reducible rfl)
      try simp only [List.getElem_toArray, List.getElem_cons_succ, List.getElem_cons_zero, Act.put, List.setIfInBounds_toArray, List.set_cons_zero, List.set_cons_succ]
      refine wpAnyH_take (i := 20) (oi := _) (v := ?v9_20) rfl (by kernel_rfl) (by kernel_rfl) (by kernel_rfl) (fun _ _ _ h => h) (Or.inl ⟨by rfl, ?hy9_20⟩) hHeld18 ?_
      case hy9_20 => (intro wS hSw; (try dsimp only at hSw); obtain ⟨s0, s1, s2, s3, s4, s5, s6, s7, s8, s9, s10, s11, s12, s13, s14⟩ := hSw; go_simp; try with_reducible rfl)
      try simp only [List.getElem_toArray, List.getElem_cons_succ, List.getElem_cons_zero, Act.put, List.setIfInBounds_toArray, List.set_cons_zero, List.set_cons_succ]
      refine wpAnyH_take (i := 21) (oi := _) (v := undef) rfl (by kernel_rfl) (by kernel_rfl) (by kernel_rfl) (fun _ _ _ h => h) (Or.inr ⟨by rfl, rfl⟩) hHeld18 ?_
      try simp only [List.getElem_toArray, List.getElem_cons_succ, List.getElem_cons_zero, Act.put, List.setIfInBounds_toArray, List.set_cons_zero, List.set_cons_succ]
      refine wpAnyH_take (i := 22) (oi := _) (v := undef) rfl (by kernel_rfl) (by kernel_rfl) (by kernel_rfl) (fun _ _ _ h => h) (Or.inr ⟨by rfl, rfl⟩) hHeld18 ?_
      try simp only [List.getElem_toArray, List.getElem_cons_succ, List.getElem_cons_zero, Act.put, List.setIfInBounds_toArray, List.set_cons_zero, List.set_cons_succ]
      refine wpAnyH_take (i := 23) (oi := _) (v := undef) rfl (by kernel_rfl) (by kernel_rfl) (by kernel_rfl) (fun _ _ _ h => h) (Or.inr ⟨by rfl, rfl⟩) hHeld18 ?_
      try simp only [List.getElem_toArray, List.getElem_cons_succ, List.getElem_cons_zero, Act.put, List.setIfInBounds_toArray, List.set_cons_zero, List.set_cons_succ]
      refine wpAnyH_take (i := 24) (oi := _) (v := undef) rfl (by kernel_rfl) (by kernel_rfl) (by kernel_rfl) (fun _ _ _ h => h) (Or.inr ⟨by rfl, rfl⟩) hHeld18 ?_
      try simp only [List.getElem_toArray, List.getElem_cons_succ, List.getElem_cons_zero, Act.put, List.setIfInBounds_toArray, List.set_cons_zero, List.set_cons_succ]
      refine wpAnyH_take (i := 25) (oi := _) (v := undef) rfl (by kernel_rfl) (by kernel_rfl) (by kernel_rfl) (fun _ _ _ h => h) (Or.inr ⟨by rfl, rfl⟩) hHeld18 ?_
      try simp only [List.getElem_toArray, List.getElem_cons_succ, List.getElem_cons_zero, Act.put, List.setIfInBounds_toArray, List.set_cons_zero, List.set_cons_succ]
      refine wpAnyH_take (i := 26) (oi := _) (v := undef) rfl (by kernel_rfl) (by kernel_rfl) (by kernel_rfl) (fun _ _ _ h => h) (Or.inr ⟨by rfl, rfl⟩) hHeld18 ?_
      try simp only [List.getElem_toArray, List.getElem_cons_succ, List.getElem_cons_zero, Act.put, List.setIfInBounds_toArray, List.set_cons_zero, List.set_cons_succ]
      refine wpAnyH_take (i := 27) (oi := _) (v := undef) rfl (by kernel_rfl) (by kernel_rfl) (by kernel_rfl) (fun _ _ _ h => h) (Or.inr ⟨by rfl, rfl⟩) hHeld18 ?_
      try simp only [List.getElem_toArray, List.getElem_cons_succ, List.getElem_cons_zero, Act.put, List.setIfInBounds_toArray, List.set_cons_zero, List.set_cons_succ]
      refine wpAnyH_take (i := 28) (oi := _) (v := undef) rfl (by kernel_rfl) (by kernel_rfl) (by kernel_rfl) (fun _ _ _ h => h) (Or.inr ⟨by rfl, rfl⟩) hHeld18 ?_
      try simp only [List.getElem_toArray, List.getElem_cons_succ, List.getElem_cons_zero, Act.put, List.setIfInBounds_toArray, List.set_cons_zero, List.set_cons_succ]
      refine wpAnyH_take (i := 29) (oi := _) (v := undef) rfl (by kernel_rfl) (by kernel_rfl) (by kernel_rfl) (fun _ _ _ h => h) (Or.inr ⟨by rfl, rfl⟩) hHeld18 ?_
      try simp only [List.getElem_toArray, List.getElem_cons_succ, List.getElem_cons_zero, Act.put, List.setIfInBounds_toArray, List.set_cons_zero, List.set_cons_succ]
      refine wpAnyH_take (i := 30) (oi := _) (v := undef) rfl (by kernel_rfl) (by kernel_rfl) (by kernel_rfl) (fun _ _ _ h => h) (Or.inr ⟨by rfl, rfl⟩) hHeld18 ?_
      try simp only [List.getElem_toArray, List.getElem_cons_succ, List.getElem_cons_zero, Act.put, List.setIfInBounds_toArray, List.set_cons_zero, List.set_cons_succ]
      refine wpAnyH_take (i := 31) (oi := _) (v := undef) rfl (by kernel_rfl) (by kernel_rfl) (by kernel_rfl) (fun _ _ _ h => h) (Or.inr ⟨by rfl, rfl⟩) hHeld18 ?_
      try simp only [List.getElem_toArray, List.getElem_cons_succ, List.getElem_cons_zero, Act.put, List.setIfInBounds_toArray, List.set_cons_zero, List.set_cons_succ]
      refine wpAnyH_take (i := 32) (oi := _) (v := undef) rfl (by kernel_rfl) (by kernel_rfl) (by kernel_rfl) (fun _ _ _ h => h) (Or.inr ⟨by rfl, rfl⟩) hHeld18 ?_
      try simp only [List.getElem_toArray, List.getElem_cons_succ, List.getElem_cons_zero, Act.put, List.setIfInBounds_toArray, List.set_cons_zero, List.set_cons_succ]
      refine wpAnyH_take (i := 33) (oi := _) (v := ?v9_33) rfl (by kernel_rfl) (by kernel_rfl) (by kernel_rfl) (fun _ _ _ h => h) (Or.inl ⟨by rfl, ?hy9_33⟩) hHeld18 ?_
      case hy9_33 => (intro wS hSw; (try dsimp only at hSw); obtain ⟨s0, s1, s2, s3, s4, s5, s6, s7, s8, s9, s10, s11, s12, s13, s14⟩ := hSw; go_simp; try with_reducible rfl)
      try simp only [List.getElem_toArray, List.getElem_cons_succ, List.getElem_cons_zero, Act.put, List.setIfInBounds_toArray, List.set_cons_zero, List.set_cons_succ]
      refine wpAnyH_take (i := 34) (oi := _) (v := ?v9_34) rfl (by kernel_rfl) (by kernel_rfl) (by kernel_rfl) (fun _ _ _ h => h) (Or.inl ⟨by rfl, ?hy9_34⟩) hHeld18 ?_
      case hy9_34 => (intro wS hSw; (try dsimp only at hSw); obtain ⟨s0, s1, s2, s3, s4, s5, s6, s7, s8, s9, s10, s11, s12, s13, s14⟩ := hSw; go_simp; try with_reducible rfl)
      try simp only [List.getElem_toArray, List.getElem_cons_succ, List.getElem_cons_zero, Act.put, List.setIfInBounds_toArray, List.set_cons_zero, List.set_cons_succ]
      refine wpAnyH_take (i := 35) (oi := _) (v := ?v9_35) rfl (by kernel_rfl) (by kernel_rfl) (by kernel_rfl) (fun _ _ _ h => h) (Or.inl ⟨by rfl, ?hy9_35⟩) hHeld18 ?_
      case hy9_35 => (intro wS hSw; (try dsimp only at hSw); obtain ⟨s0, s1, s2, s3, s4, s5, s6, s7, s8, s9, s10, s11, s12, s13, s14⟩ := hSw; go_simp; try with_reducible rfl)
      try simp only [List.getElem_toArray, List.getElem_cons_succ, List.getElem_cons_zero, Act.put, List.setIfInBounds_toArray, List.set_cons_zero, List.set_cons_succ]
      refine wpAnyH_done (by kernel_rfl) ?_ _
      go_wp2_with fail
      go_ret
      have t4 := (t3.drew).trans (hb4.mono t3.size)
      have t5 := t4.trans (hb5.mono t4.size)
      have t6 := t5.trans (hb6.mono t5.size)
      have t7 := t6.trans (hb7.mono t6.size)
      have t8 := t7.trans (hb8.mono t7.size)
      exact ⟨rfl, t8⟩
    | true =>
      have HJ := Lib.hid hj
      clear hj
      go_region_held3 (fun w' => w'.cell? ⟨w.heap.size, 0, none⟩ = some (.int .i64 op) ∧ w'.cell? ⟨w.heap.size, 1, none⟩ = some (.int .i64 a) ∧ w'.cell? ⟨w.heap.size, 2, none⟩ = some (.int .i64 b) ∧ w'.cell? ⟨w.heap.size, 3, none⟩ = some (.int .i64 c) ∧ w'.cell? ⟨w.heap.size, 4, none⟩ = some (.int .i64 imm) ∧ w'.cell? ⟨w2.heap.size, 0, none⟩ = some (.int .i64 op) ∧ w'.cell? ⟨w2.heap.size, 1, none⟩ = some (.int .i64 a) ∧ w'.cell? ⟨w2.heap.size, 2, none⟩ = some (.int .i64 b) ∧ w'.cell? ⟨w2.heap.size, 3, none⟩ = some (.int .i64 c) ∧ w'.cell? ⟨w2.heap.size, 4, none⟩ = some (.int .i64 z) ∧ w'.cell? ⟨(w2.heap.size + 1), 0, none⟩ = some (.int .i64 op) ∧ w'.cell? ⟨(w2.heap.size + 1), 1, none⟩ = some (.int .i64 0) ∧ w'.cell? ⟨(w2.heap.size + 1), 2, none⟩ = some (.int .i64 0) ∧ w'.cell? ⟨(w2.heap.size + 1), 3, none⟩ = some (.int .i64 0) ∧ w'.cell? ⟨(w2.heap.size + 1), 4, none⟩ = some (.int .i64 imm)) (first | exact F13 | exact F12 | exact F11 | exact F10 | exact F9 | exact F8 | exact F7 | exact F6 | exact F5 | exact F4 | exact F3)
        (first
          | (go_at_call 29; refine (flowWrites_calls _ _ _ _ _ _).mono ?_; rintro e w13 ⟨rfl, hb13⟩; have F13 := S15.below hb13 F12)
          | (go_at_call 29; refine (flowWrites_calls _ _ _ _ _ _).mono ?_; rintro e w12 ⟨rfl, hb12⟩; have F12 := S15.below hb12 F11)
          | (go_at_call 16; refine (ints_calls _ _ _ _ _ _ _ hC9b hC10 (by have := len_le l9 m9; unfold maxLen; omega)).mono ?_; rw [show (readsList op a b c == readsList op a b c) = true from by simp]; rintro e w' ⟨rfl, n, rfl⟩; have F11 : S15 (w10.drewN n) w.heap.size w2.heap.size (w2.heap.size + 1) op a b c imm z := F10)
          | (go_at_call 31; refine (flowReads_calls _ _ _ _ _ _).mono ?_; rintro e w10 ⟨v10, rfl, ho10, hb10⟩; obtain ⟨A10, c10, rfl, l10, m10, hC10⟩ := ho10.read; have hC9b := hC9.below hb10; have F10 := S15.below hb10 F9)
          | (go_at_call 31; refine (flowReads_calls _ _ _ _ _ _).mono ?_; rintro e w9 ⟨v9, rfl, ho9, hb9⟩; obtain ⟨A9, c9, rfl, l9, m9, hC9⟩ := ho9.read; have F9 := S15.below hb9 F8)
          | (go_at_call 26; refine (insRight_calls _ _ _ _ _ _).mono ?_; rw [HJ.out]; rintro e w8 ⟨rfl, hb8⟩; have F8 := S15.below hb8 F7)
          | (go_at_call 28; refine (flowKind_calls _ _ _ _ _ _).mono ?_; rintro e w7 ⟨rfl, hb7⟩; have F7 := S15.below hb7 F6)
          | (go_at_call 28; refine (flowKind_calls _ _ _ _ _ _).mono ?_; rintro e w6 ⟨rfl, hb6⟩; have F6 := S15.below hb6 F5)
          | (go_at_call 29; refine (flowWrites_calls _ _ _ _ _ _).mono ?_; rw [writes_zero]; rintro e w5 ⟨rfl, hb5⟩; have F5 := S15.below hb5 F4)
          | (go_at_call 31; refine (flowReads_calls _ _ _ _ _ _).mono ?_; rw [reads_zero]; rintro e w4 ⟨v4, rfl, ho4, hb4⟩; obtain ⟨A4, c4, rfl, l4, m4, hC4⟩ := ho4.read; simp only [List.length_nil] at *; have F4 := S15.below hb4 F3))
      go_wp2_with fail
      go_ret
      have t4 := (t3.drew).trans (hb4.mono t3.size)
      have t5 := t4.trans (hb5.mono t4.size)
      have t6 := t5.trans (hb6.mono t5.size)
      have t7 := t6.trans (hb7.mono t6.size)
      have t8 := t7.trans (hb8.mono t7.size)
      have t9 := t8.trans (hb9.mono t8.size)
      have t10 := t9.trans (hb10.mono t9.size)
      have t12 := (Below.drewN t10 n).trans (hb12.mono t10.size)
      have t13 := t12.trans (hb13.mono t12.size)
      exact ⟨rfl, t13⟩
end Go.Proofs.Ytklhhdhokobbmaa
