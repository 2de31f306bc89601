/- Layer 22's awake answers true. Printed in part by genNm.py of this repository. -/
import Derived.Test.YtokkngfgppikkaaNl
import Derived.Test.YtokkngfgppikkaaDi
namespace Go.Proofs.Ytokkngfgppikkaa
set_option linter.unusedVariables false
set_option linter.unusedSimpArgs false
open Go.RowKit
attribute [local go_sem high] eqTerm_same eqOp_same

def AW22 (w : World) (hx ox : Addr) (gh b1 b3 b4 ch dx : Nat) : Prop := w.cell? ⟨gh, 3, none⟩ = some (.slice (some hx) 2 ch) ∧ w.cell? hx = some (.slice (some ox) 1 dx) ∧ w.cell? ⟨hx.block, hx.off + 5, none⟩ = some (.int .i64 1) ∧ w.cell? ox = some (.int .i64 8) ∧ w.cell? ⟨ox.block, ox.off + 1, none⟩ = some (.int .i64 1) ∧ w.cell? ⟨ox.block, ox.off + 2, none⟩ = some (.int .i64 0) ∧ w.cell? ⟨ox.block, ox.off + 3, none⟩ = some (.int .i64 0) ∧ w.cell? ⟨ox.block, ox.off + 4, none⟩ = some (.int .i64 3) ∧ w.cell? ⟨ox.block, ox.off + 5, none⟩ = some (.bool false) ∧ w.cell? ⟨ox.block, ox.off + 6, none⟩ = some (.int .i64 0) ∧ w.cell? ⟨ox.block, ox.off + 7, none⟩ = some (.int .i64 0) ∧ w.cell? ⟨ox.block, ox.off + 8, none⟩ = some (.int .i64 0) ∧ w.cell? ⟨b1, 0, none⟩ = some (.int .i64 8) ∧ w.cell? ⟨b1, 1, none⟩ = some (.int .i64 1) ∧ w.cell? ⟨b1, 2, none⟩ = some (.int .i64 0) ∧ w.cell? ⟨b1, 3, none⟩ = some (.int .i64 0) ∧ w.cell? ⟨b1, 4, none⟩ = some (.int .i64 3) ∧ w.cell? ⟨b1, 5, none⟩ = some (.bool false) ∧ w.cell? ⟨b1, 6, none⟩ = some (.int .i64 0) ∧ w.cell? ⟨b1, 7, none⟩ = some (.int .i64 0) ∧ w.cell? ⟨b1, 8, none⟩ = some (.int .i64 0) ∧ w.cell? ⟨b4, 0, none⟩ = some (.string (⟨#[]⟩ : ByteArray)) ∧ w.cell? ⟨b4, 1, none⟩ = some (.bool false) ∧ w.cell? ⟨b4, 2, none⟩ = some (.bool false) ∧ w.cell? ⟨b4, 3, none⟩ = some (.slice (some ⟨b3, 0, none⟩) 4 4)
theorem AW22.sub {w w' : World} {hx ox : Addr} {gh b1 b3 b4 ch dx : Nat} (h : AW22 w hx ox gh b1 b3 b4 ch dx) (hs : Sub w w') : AW22 w' hx ox gh b1 b3 b4 ch dx := by
  obtain ⟨s0_, s1_, s2_, s3_, s4_, s5_, s6_, s7_, s8_, s9_, s10_, s11_, s12_, s13_, s14_, s15_, s16_, s17_, s18_, s19_, s20_, s21_, s22_, s23_, s24_⟩ := h
  exact ⟨hs _ _ s0_, hs _ _ s1_, hs _ _ s2_, hs _ _ s3_, hs _ _ s4_, hs _ _ s5_, hs _ _ s6_, hs _ _ s7_, hs _ _ s8_, hs _ _ s9_, hs _ _ s10_, hs _ _ s11_, hs _ _ s12_, hs _ _ s13_, hs _ _ s14_, hs _ _ s15_, hs _ _ s16_, hs _ _ s17_, hs _ _ s18_, hs _ _ s19_, hs _ _ s20_, hs _ _ s21_, hs _ _ s22_, hs _ _ s23_, hs _ _ s24_⟩

set_option maxHeartbeats 8000000 in
set_option maxRecDepth 100000 in
theorem awake22_calls (w : World) : Calls Try.prog 29 #[] w fun e w' => e = .returned (.bool true) ∧ Below w.heap.size w w' := by
  obtain ⟨W, hW, r0, r1, c2, c3, r4, hbW, hsz⟩ := awake22_mem w
  have h300 : ∀ b ∈ aBs, b.ops.length ≤ 300 := (blocksFew_parts aFew).2
  have hL := deadGraph_calls (⟨#[]⟩ : ByteArray) false false _ 4 aBs W c3 aFew aOk (by decide)
  have HL := Lib.hid hL
  have HW := Lib.hid hW
  have HZ := Lib.hid hsz
  clear hW hsz hL
  go_enter Try.func29, Try.ntmps29
  go_upto_region 4 with fail
  rw [← HW.out]
  obtain ⟨x0, x1, x2, x3⟩ := (show Row W (w.heap.size + 1 + 1 + 1 + 1) 33 (graphCells (.slice (some ⟨w.heap.size + 1 + 1 + 1, 0, none⟩) 4 4) ⟨(⟨#[]⟩ : ByteArray), false, false, aBs⟩) from r4).graph
  go_wp2_with fail
  refine HL.out.mono ?_
  rintro e w1 ⟨bs1, hD, A1, c1, F1, rfl, own1, -, hb1⟩
  obtain rfl : bs1 = aOut := DeadG.unique aOk hD aDead
  rw [show aOut.length = 2 from rfl] at own1 ⊢
  have t1 := hbW.trans (hb1.mono hbW.size)
  have b2 := below_alloc' w1 (.cells #[.string (⟨#[]⟩ : ByteArray), .bool false, .bool false, .slice A1 2 c1] 33)
  have rh : Row (w1.alloc (.cells #[.string (⟨#[]⟩ : ByteArray), .bool false, .bool false, .slice A1 2 c1] 33)) w1.heap.size 33 [.string (⟨#[]⟩ : ByteArray), .bool false, .bool false, .slice A1 2 c1] := Row.new w1 _ _
  have t2 := t1.trans (b2.mono t1.size)
  clear x0 x1 x2 x3 hD
  go_upto_region 5 with fail
  generalize w1.alloc (.cells #[.string (⟨#[]⟩ : ByteArray), .bool false, .bool false, .slice A1 2 c1] 33) = w2 at *
  have o2 := own1.below b2
  obtain ⟨hx, X0, dx, rfl, i0, -, -, -, -, i5, -, -, -, -, -, -, -, -, -, gx⟩ := Block_at (i := 0) (x := ⟨[aThree], jumpTo 1⟩) (own_bs_read o2) rfl
  obtain ⟨ox, rfl, q0, q1, q2, q3, q4, q5, q6, q7, q8, -⟩ := Op_at (i := 0) (x := aThree) gx rfl
  rw [add_zero12] at i0 i5
  rw [add_zero9] at q0 q1 q2 q3 q4 q5 q6 q7 q8
  have R1 := (r1.below hb1).below b2
  have R4 := (r4.below hb1).below b2
  obtain ⟨ch, hch⟩ : ∃ ch, ch = c1 := ⟨_, rfl⟩
  subst hch
  have A0 : AW22 w2 hx ox w1.heap.size (w.heap.size + 1) (w.heap.size + 1 + 1 + 1) (w.heap.size + 1 + 1 + 1 + 1) ch dx := ⟨rh.cell rfl, i0, i5, q0, q1, q2, q3, q4, q5, q6, q7, q8, R1.cell rfl, R1.cell rfl, R1.cell rfl, R1.cell rfl, R1.cell rfl, R1.cell rfl, R1.cell rfl, R1.cell rfl, R1.cell rfl, R4.cell rfl, R4.cell rfl, R4.cell rfl, R4.cell rfl⟩
  have CB : kBlock.C w2.drew (some ⟨w.heap.size + 1 + 1 + 1, 0, none⟩) aBs := Kd.C_mono b2.drew (Kd.C_mono hb1 c3)
  have hT := trim_calls (⟨#[]⟩ : ByteArray) false false _ 4 aBs w2.drew CB (by decide) h300 aOk.leads (by decide)
  have HTRIM := Lib.hid hT
  clear hT i0 i5 q0 q1 q2 q3 q4 q5 q6 q7 q8 R1 R4 rh own1 o2 gx r0 r1 c2 c3 r4
  refine wp_region_held_drew (S := (fun w' => AW22 w' hx ox w1.heap.size (w.heap.size + 1) (w.heap.size + 1 + 1 + 1) (w.heap.size + 1 + 1 + 1 + 1) ch dx)) (by kernel_rfl) (A0) (fun hHeld => ?_)
  refine wpAnyH_take (i := 0) (oi := _) (v := ?v5m1_1) rfl (by kernel_rfl) (by kernel_rfl) (by kernel_rfl) (fun _ _ _ h => h) (Or.inl ⟨by rfl, ?hy5m1_1⟩) hHeld ?_
  case hy5m1_1 => (intro wS hSw; (try dsimp only at hSw); obtain ⟨s0, s1, s2, s3, s4, s5, s6, s7, s8, s9, s10, s11, s12, s13, s14, s15, s16, s17, s18, s19, s20, s21, s22, s23, s24⟩ := hSw; go_simp; try with_reducible rfl)
  try simp only [List.getElem_toArray, List.getElem_cons_succ, List.getElem_cons_zero, Act.put, List.setIfInBounds_toArray, List.set_cons_zero, List.set_cons_succ]
  refine wpAnyH_take (i := 1) (oi := _) (v := ?v5m1_2) rfl (by kernel_rfl) (by kernel_rfl) (by kernel_rfl) (fun _ _ _ h => h) (Or.inl ⟨by rfl, ?hy5m1_2⟩) hHeld ?_
  case hy5m1_2 => (intro wS hSw; (try dsimp only at hSw); obtain ⟨s0, s1, s2, s3, s4, s5, s6, s7, s8, s9, s10, s11, s12, s13, s14, s15, s16, s17, s18, s19, s20, s21, s22, s23, s24⟩ := hSw; go_simp; try with_reducible rfl)
  try simp only [List.getElem_toArray, List.getElem_cons_succ, List.getElem_cons_zero, Act.put, List.setIfInBounds_toArray, List.set_cons_zero, List.set_cons_succ]
  refine wpAnyH_take (i := 2) (oi := _) (v := ?v5m1_3) rfl (by kernel_rfl) (by kernel_rfl) (by kernel_rfl) (fun _ _ _ h => h) (Or.inl ⟨by rfl, ?hy5m1_3⟩) hHeld ?_
  case hy5m1_3 => (intro wS hSw; (try dsimp only at hSw); obtain ⟨s0, s1, s2, s3, s4, s5, s6, s7, s8, s9, s10, s11, s12, s13, s14, s15, s16, s17, s18, s19, s20, s21, s22, s23, s24⟩ := hSw; go_simp; try with_reducible rfl)
  try simp only [List.getElem_toArray, List.getElem_cons_succ, List.getElem_cons_zero, Act.put, List.setIfInBounds_toArray, List.set_cons_zero, List.set_cons_succ]
  refine wpAnyH_take (i := 3) (oi := _) (v := ?v5m1_4) rfl (by kernel_rfl) (by kernel_rfl) (by kernel_rfl) (fun _ _ _ h => h) (Or.inl ⟨by rfl, ?hy5m1_4⟩) hHeld ?_
  case hy5m1_4 => (intro wS hSw; (try dsimp only at hSw); obtain ⟨s0, s1, s2, s3, s4, s5, s6, s7, s8, s9, s10, s11, s12, s13, s14, s15, s16, s17, s18, s19, s20, s21, s22, s23, s24⟩ := hSw; go_simp; try with_reducible rfl)
  try simp only [List.getElem_toArray, List.getElem_cons_succ, List.getElem_cons_zero, Act.put, List.setIfInBounds_toArray, List.set_cons_zero, List.set_cons_succ]
  refine wpAnyH_take (i := 4) (oi := _) (v := ?v5m1_5) rfl (by kernel_rfl) (by kernel_rfl) (by kernel_rfl) (fun _ _ _ h => h) (Or.inl ⟨by rfl, ?hy5m1_5⟩) hHeld ?_
  case hy5m1_5 => (intro wS hSw; (try dsimp only at hSw); obtain ⟨s0, s1, s2, s3, s4, s5, s6, s7, s8, s9, s10, s11, s12, s13, s14, s15, s16, s17, s18, s19, s20, s21, s22, s23, s24⟩ := hSw; go_simp; try with_reducible rfl)
  try simp only [List.getElem_toArray, List.getElem_cons_succ, List.getElem_cons_zero, Act.put, List.setIfInBounds_toArray, List.set_cons_zero, List.set_cons_succ]
  refine wpAnyH_take (i := 5) (oi := _) (v := ?v5m1_6) rfl (by kernel_rfl) (by kernel_rfl) (by kernel_rfl) (fun _ _ _ h => h) (Or.inl ⟨by rfl, ?hy5m1_6⟩) hHeld ?_
  case hy5m1_6 => (intro wS hSw; (try dsimp only at hSw); obtain ⟨s0, s1, s2, s3, s4, s5, s6, s7, s8, s9, s10, s11, s12, s13, s14, s15, s16, s17, s18, s19, s20, s21, s22, s23, s24⟩ := hSw; go_simp; try with_reducible rfl)
  try simp only [List.getElem_toArray, List.getElem_cons_succ, List.getElem_cons_zero, Act.put, List.setIfInBounds_toArray, List.set_cons_zero, List.set_cons_succ]
  refine wpAnyH_take (i := 6) (oi := _) (v := ?v5m1_7) rfl (by kernel_rfl) (by kernel_rfl) (by kernel_rfl) (fun _ _ _ h => h) (Or.inl ⟨by rfl, ?hy5m1_7⟩) hHeld ?_
  case hy5m1_7 => (intro wS hSw; (try dsimp only at hSw); obtain ⟨s0, s1, s2, s3, s4, s5, s6, s7, s8, s9, s10, s11, s12, s13, s14, s15, s16, s17, s18, s19, s20, s21, s22, s23, s24⟩ := hSw; go_simp; try with_reducible rfl)
  try simp only [List.getElem_toArray, List.getElem_cons_succ, List.getElem_cons_zero, Act.put, List.setIfInBounds_toArray, List.set_cons_zero, List.set_cons_succ]
  refine wpAnyH_take (i := 7) (oi := _) (v := ?v5m1_8) rfl (by kernel_rfl) (by kernel_rfl) (by kernel_rfl) (fun _ _ _ h => h) (Or.inl ⟨by rfl, ?hy5m1_8⟩) hHeld ?_
  case hy5m1_8 => (intro wS hSw; (try dsimp only at hSw); obtain ⟨s0, s1, s2, s3, s4, s5, s6, s7, s8, s9, s10, s11, s12, s13, s14, s15, s16, s17, s18, s19, s20, s21, s22, s23, s24⟩ := hSw; go_simp; try with_reducible rfl)
  try simp only [List.getElem_toArray, List.getElem_cons_succ, List.getElem_cons_zero, Act.put, List.setIfInBounds_toArray, List.set_cons_zero, List.set_cons_succ]
  refine wpAnyH_take (i := 8) (oi := _) (v := ?v5m1_9) rfl (by kernel_rfl) (by kernel_rfl) (by kernel_rfl) (fun _ _ _ h => h) (Or.inl ⟨by rfl, ?hy5m1_9⟩) hHeld ?_
  case hy5m1_9 => (intro wS hSw; (try dsimp only at hSw); obtain ⟨s0, s1, s2, s3, s4, s5, s6, s7, s8, s9, s10, s11, s12, s13, s14, s15, s16, s17, s18, s19, s20, s21, s22, s23, s24⟩ := hSw; go_simp; try with_reducible rfl)
  try simp only [List.getElem_toArray, List.getElem_cons_succ, List.getElem_cons_zero, Act.put, List.setIfInBounds_toArray, List.set_cons_zero, List.set_cons_succ]
  refine wpAnyH_take (i := 9) (oi := _) (v := ?v5m1_10) rfl (by kernel_rfl) (by kernel_rfl) (by kernel_rfl) (fun _ _ _ h => h) (Or.inl ⟨by rfl, ?hy5m1_10⟩) hHeld ?_
  case hy5m1_10 => (intro wS hSw; (try dsimp only at hSw); obtain ⟨s0, s1, s2, s3, s4, s5, s6, s7, s8, s9, s10, s11, s12, s13, s14, s15, s16, s17, s18, s19, s20, s21, s22, s23, s24⟩ := hSw; go_simp; try with_reducible rfl)
  try simp only [List.getElem_toArray, List.getElem_cons_succ, List.getElem_cons_zero, Act.put, List.setIfInBounds_toArray, List.set_cons_zero, List.set_cons_succ]
  refine wpAnyH_take (i := 10) (oi := _) (v := ?v5m1_11) rfl (by kernel_rfl) (by kernel_rfl) (by kernel_rfl) (fun _ _ _ h => h) (Or.inl ⟨by rfl, ?hy5m1_11⟩) hHeld ?_
  case hy5m1_11 => (intro wS hSw; (try dsimp only at hSw); obtain ⟨s0, s1, s2, s3, s4, s5, s6, s7, s8, s9, s10, s11, s12, s13, s14, s15, s16, s17, s18, s19, s20, s21, s22, s23, s24⟩ := hSw; go_simp; try with_reducible rfl)
  try simp only [List.getElem_toArray, List.getElem_cons_succ, List.getElem_cons_zero, Act.put, List.setIfInBounds_toArray, List.set_cons_zero, List.set_cons_succ]
  refine wpAnyH_take (i := 11) (oi := _) (v := ?v5m1_12) rfl (by kernel_rfl) (by kernel_rfl) (by kernel_rfl) (fun _ _ _ h => h) (Or.inl ⟨by rfl, ?hy5m1_12⟩) hHeld ?_
  case hy5m1_12 => (intro wS hSw; (try dsimp only at hSw); obtain ⟨s0, s1, s2, s3, s4, s5, s6, s7, s8, s9, s10, s11, s12, s13, s14, s15, s16, s17, s18, s19, s20, s21, s22, s23, s24⟩ := hSw; go_simp; try with_reducible rfl)
  try simp only [List.getElem_toArray, List.getElem_cons_succ, List.getElem_cons_zero, Act.put, List.setIfInBounds_toArray, List.set_cons_zero, List.set_cons_succ]
  refine wpAnyH_take (i := 12) (oi := _) (v := ?v5m1_13) rfl (by kernel_rfl) (by kernel_rfl) (by kernel_rfl) (fun _ _ _ h => h) (Or.inl ⟨by rfl, ?hy5m1_13⟩) hHeld ?_
  case hy5m1_13 => (intro wS hSw; (try dsimp only at hSw); obtain ⟨s0, s1, s2, s3, s4, s5, s6, s7, s8, s9, s10, s11, s12, s13, s14, s15, s16, s17, s18, s19, s20, s21, s22, s23, s24⟩ := hSw; go_simp; try with_reducible rfl)
  try simp only [List.getElem_toArray, List.getElem_cons_succ, List.getElem_cons_zero, Act.put, List.setIfInBounds_toArray, List.set_cons_zero, List.set_cons_succ]
  refine wpAnyH_take (i := 13) (oi := _) (v := ?v5m1_14) rfl (by kernel_rfl) (by kernel_rfl) (by kernel_rfl) (fun _ _ _ h => h) (Or.inl ⟨by rfl, ?hy5m1_14⟩) hHeld ?_
  case hy5m1_14 => (intro wS hSw; (try dsimp only at hSw); obtain ⟨s0, s1, s2, s3, s4, s5, s6, s7, s8, s9, s10, s11, s12, s13, s14, s15, s16, s17, s18, s19, s20, s21, s22, s23, s24⟩ := hSw; go_simp; try with_reducible rfl)
  try simp only [List.getElem_toArray, List.getElem_cons_succ, List.getElem_cons_zero, Act.put, List.setIfInBounds_toArray, List.set_cons_zero, List.set_cons_succ]
  refine wpAnyH_take (i := 14) (oi := _) (v := ?v5m1_15) rfl (by kernel_rfl) (by kernel_rfl) (by kernel_rfl) (fun _ _ _ h => h) (Or.inl ⟨by rfl, ?hy5m1_15⟩) hHeld ?_
  case hy5m1_15 => (intro wS hSw; (try dsimp only at hSw); obtain ⟨s0, s1, s2, s3, s4, s5, s6, s7, s8, s9, s10, s11, s12, s13, s14, s15, s16, s17, s18, s19, s20, s21, s22, s23, s24⟩ := hSw; go_simp; try with_reducible rfl)
  try simp only [List.getElem_toArray, List.getElem_cons_succ, List.getElem_cons_zero, Act.put, List.setIfInBounds_toArray, List.set_cons_zero, List.set_cons_succ]
  refine wpAnyH_take (i := 15) (oi := _) (v := ?v5m1_16) rfl (by kernel_rfl) (by kernel_rfl) (by kernel_rfl) (fun _ _ _ h => h) (Or.inl ⟨by rfl, ?hy5m1_16⟩) hHeld ?_
  case hy5m1_16 => (intro wS hSw; (try dsimp only at hSw); obtain ⟨s0, s1, s2, s3, s4, s5, s6, s7, s8, s9, s10, s11, s12, s13, s14, s15, s16, s17, s18, s19, s20, s21, s22, s23, s24⟩ := hSw; go_simp; try with_reducible rfl)
  try simp only [List.getElem_toArray, List.getElem_cons_succ, List.getElem_cons_zero, Act.put, List.setIfInBounds_toArray, List.set_cons_zero, List.set_cons_succ]
  refine wpAnyH_take (i := 16) (oi := _) (v := ?v5m1_17) rfl (by kernel_rfl) (by kernel_rfl) (by kernel_rfl) (fun _ _ _ h => h) (Or.inl ⟨by rfl, ?hy5m1_17⟩) hHeld ?_
  case hy5m1_17 => (intro wS hSw; (try dsimp only at hSw); obtain ⟨s0, s1, s2, s3, s4, s5, s6, s7, s8, s9, s10, s11, s12, s13, s14, s15, s16, s17, s18, s19, s20, s21, s22, s23, s24⟩ := hSw; go_simp; try with_reducible rfl)
  try simp only [List.getElem_toArray, List.getElem_cons_succ, List.getElem_cons_zero, Act.put, List.setIfInBounds_toArray, List.set_cons_zero, List.set_cons_succ]
  refine wpAnyH_take (i := 17) (oi := _) (v := ?v5m1_18) rfl (by kernel_rfl) (by kernel_rfl) (by kernel_rfl) (fun _ _ _ h => h) (Or.inl ⟨by rfl, ?hy5m1_18⟩) hHeld ?_
  case hy5m1_18 => (intro wS hSw; (try dsimp only at hSw); obtain ⟨s0, s1, s2, s3, s4, s5, s6, s7, s8, s9, s10, s11, s12, s13, s14, s15, s16, s17, s18, s19, s20, s21, s22, s23, s24⟩ := hSw; go_simp; try with_reducible rfl)
  try simp only [List.getElem_toArray, List.getElem_cons_succ, List.getElem_cons_zero, Act.put, List.setIfInBounds_toArray, List.set_cons_zero, List.set_cons_succ]
  refine wpAnyH_take (i := 18) (oi := _) (v := ?v5m1_19) rfl (by kernel_rfl) (by kernel_rfl) (by kernel_rfl) (fun _ _ _ h => h) (Or.inl ⟨by rfl, ?hy5m1_19⟩) hHeld ?_
  case hy5m1_19 => (intro wS hSw; (try dsimp only at hSw); obtain ⟨s0, s1, s2, s3, s4, s5, s6, s7, s8, s9, s10, s11, s12, s13, s14, s15, s16, s17, s18, s19, s20, s21, s22, s23, s24⟩ := hSw; go_simp; try with_reducible rfl)
  try simp only [List.getElem_toArray, List.getElem_cons_succ, List.getElem_cons_zero, Act.put, List.setIfInBounds_toArray, List.set_cons_zero, List.set_cons_succ]
  refine wpAnyH_take (i := 19) (oi := _) (v := ?v5m1_20) rfl (by kernel_rfl) (by kernel_rfl) (by kernel_rfl) (fun _ _ _ h => h) (Or.inl ⟨by rfl, ?hy5m1_20⟩) hHeld ?_
  case hy5m1_20 => (intro wS hSw; (try dsimp only at hSw); obtain ⟨s0, s1, s2, s3, s4, s5, s6, s7, s8, s9, s10, s11, s12, s13, s14, s15, s16, s17, s18, s19, s20, s21, s22, s23, s24⟩ := hSw; go_simp; try with_reducible rfl)
  try simp only [List.getElem_toArray, List.getElem_cons_succ, List.getElem_cons_zero, Act.put, List.setIfInBounds_toArray, List.set_cons_zero, List.set_cons_succ]
  refine wpAnyH_take (i := 20) (oi := _) (v := ?v5m1_21) rfl (by kernel_rfl) (by kernel_rfl) (by kernel_rfl) (fun _ _ _ h => h) (Or.inl ⟨by rfl, ?hy5m1_21⟩) hHeld ?_
  case hy5m1_21 => (intro wS hSw; (try dsimp only at hSw); obtain ⟨s0, s1, s2, s3, s4, s5, s6, s7, s8, s9, s10, s11, s12, s13, s14, s15, s16, s17, s18, s19, s20, s21, s22, s23, s24⟩ := hSw; go_simp; try with_reducible rfl)
  try simp only [List.getElem_toArray, List.getElem_cons_succ, List.getElem_cons_zero, Act.put, List.setIfInBounds_toArray, List.set_cons_zero, List.set_cons_succ]
  refine wpAnyH_take (i := 21) (oi := _) (v := ?v5m1_22) rfl (by kernel_rfl) (by kernel_rfl) (by kernel_rfl) (fun _ _ _ h => h) (Or.inl ⟨by rfl, ?hy5m1_22⟩) hHeld ?_
  case hy5m1_22 => (intro wS hSw; (try dsimp only at hSw); obtain ⟨s0, s1, s2, s3, s4, s5, s6, s7, s8, s9, s10, s11, s12, s13, s14, s15, s16, s17, s18, s19, s20, s21, s22, s23, s24⟩ := hSw; go_simp; try with_reducible rfl)
  try simp only [List.getElem_toArray, List.getElem_cons_succ, List.getElem_cons_zero, Act.put, List.setIfInBounds_toArray, List.set_cons_zero, List.set_cons_succ]
  refine wpAnyH_take (i := 22) (oi := _) (v := ?v5m1_23) rfl (by kernel_rfl) (by kernel_rfl) (by kernel_rfl) (fun _ _ _ h => h) (Or.inl ⟨by rfl, ?hy5m1_23⟩) hHeld ?_
  case hy5m1_23 => (intro wS hSw; (try dsimp only at hSw); obtain ⟨s0, s1, s2, s3, s4, s5, s6, s7, s8, s9, s10, s11, s12, s13, s14, s15, s16, s17, s18, s19, s20, s21, s22, s23, s24⟩ := hSw; go_simp; try with_reducible rfl)
  try simp only [List.getElem_toArray, List.getElem_cons_succ, List.getElem_cons_zero, Act.put, List.setIfInBounds_toArray, List.set_cons_zero, List.set_cons_succ]
  refine wpAnyH_take (i := 23) (oi := _) (v := ?v5m1_24) rfl (by kernel_rfl) (by kernel_rfl) (by kernel_rfl) (fun _ _ _ h => h) (Or.inl ⟨by rfl, ?hy5m1_24⟩) hHeld ?_
  case hy5m1_24 => (intro wS hSw; (try dsimp only at hSw); obtain ⟨s0, s1, s2, s3, s4, s5, s6, s7, s8, s9, s10, s11, s12, s13, s14, s15, s16, s17, s18, s19, s20, s21, s22, s23, s24⟩ := hSw; go_simp; try with_reducible rfl)
  try simp only [List.getElem_toArray, List.getElem_cons_succ, List.getElem_cons_zero, Act.put, List.setIfInBounds_toArray, List.set_cons_zero, List.set_cons_succ]
  refine wpAnyH_take (i := 24) (oi := _) (v := ?v5m1_25) rfl (by kernel_rfl) (by kernel_rfl) (by kernel_rfl) (fun _ _ _ h => h) (Or.inl ⟨by rfl, ?hy5m1_25⟩) hHeld ?_
  case hy5m1_25 => (intro wS hSw; (try dsimp only at hSw); obtain ⟨s0, s1, s2, s3, s4, s5, s6, s7, s8, s9, s10, s11, s12, s13, s14, s15, s16, s17, s18, s19, s20, s21, s22, s23, s24⟩ := hSw; go_simp; try with_reducible rfl)
  try simp only [List.getElem_toArray, List.getElem_cons_succ, List.getElem_cons_zero, Act.put, List.setIfInBounds_toArray, List.set_cons_zero, List.set_cons_succ]
  refine wpAnyH_take (i := 25) (oi := _) (v := ?v5m1_26) rfl (by kernel_rfl) (by kernel_rfl) (by kernel_rfl) (fun _ _ _ h => h) (Or.inl ⟨by rfl, ?hy5m1_26⟩) hHeld ?_
  case hy5m1_26 => (intro wS hSw; (try dsimp only at hSw); obtain ⟨s0, s1, s2, s3, s4, s5, s6, s7, s8, s9, s10, s11, s12, s13, s14, s15, s16, s17, s18, s19, s20, s21, s22, s23, s24⟩ := hSw; go_simp; try with_reducible rfl)
  try simp only [List.getElem_toArray, List.getElem_cons_succ, List.getElem_cons_zero, Act.put, List.setIfInBounds_toArray, List.set_cons_zero, List.set_cons_succ]
  refine wpAnyH_take (i := 26) (oi := _) (v := ?v5m1_27) rfl (by kernel_rfl) (by kernel_rfl) (by kernel_rfl) (fun _ _ _ h => h) (Or.inl ⟨by rfl, ?hy5m1_27⟩) hHeld ?_
  case hy5m1_27 => (intro wS hSw; (try dsimp only at hSw); obtain ⟨s0, s1, s2, s3, s4, s5, s6, s7, s8, s9, s10, s11, s12, s13, s14, s15, s16, s17, s18, s19, s20, s21, s22, s23, s24⟩ := hSw; go_simp; try with_reducible rfl)
  try simp only [List.getElem_toArray, List.getElem_cons_succ, List.getElem_cons_zero, Act.put, List.setIfInBounds_toArray, List.set_cons_zero, List.set_cons_succ]
  refine wpAnyH_take (i := 27) (oi := _) (v := ?v5m1_28) rfl (by kernel_rfl) (by kernel_rfl) (by kernel_rfl) (fun _ _ _ h => h) (Or.inl ⟨by rfl, ?hy5m1_28⟩) hHeld ?_
  case hy5m1_28 => (intro wS hSw; (try dsimp only at hSw); obtain ⟨s0, s1, s2, s3, s4, s5, s6, s7, s8, s9, s10, s11, s12, s13, s14, s15, s16, s17, s18, s19, s20, s21, s22, s23, s24⟩ := hSw; go_simp; try with_reducible rfl)
  try simp only [List.getElem_toArray, List.getElem_cons_succ, List.getElem_cons_zero, Act.put, List.setIfInBounds_toArray, List.set_cons_zero, List.set_cons_succ]
  refine wpAnyH_take (i := 28) (oi := _) (v := ?v5m1_29) rfl (by kernel_rfl) (by kernel_rfl) (by kernel_rfl) (fun _ _ _ h => h) (Or.inl ⟨by rfl, ?hy5m1_29⟩) hHeld ?_
  case hy5m1_29 => (intro wS hSw; (try dsimp only at hSw); obtain ⟨s0, s1, s2, s3, s4, s5, s6, s7, s8, s9, s10, s11, s12, s13, s14, s15, s16, s17, s18, s19, s20, s21, s22, s23, s24⟩ := hSw; go_simp; try with_reducible rfl)
  try simp only [List.getElem_toArray, List.getElem_cons_succ, List.getElem_cons_zero, Act.put, List.setIfInBounds_toArray, List.set_cons_zero, List.set_cons_succ]
  refine wpAnyH_take (i := 29) (oi := _) (v := ?v5m1_30) rfl (by kernel_rfl) (by kernel_rfl) (by kernel_rfl) (fun _ _ _ h => h) (Or.inl ⟨by rfl, ?hy5m1_30⟩) hHeld ?_
  case hy5m1_30 => (intro wS hSw; (try dsimp only at hSw); obtain ⟨s0, s1, s2, s3, s4, s5, s6, s7, s8, s9, s10, s11, s12, s13, s14, s15, s16, s17, s18, s19, s20, s21, s22, s23, s24⟩ := hSw; go_simp; try with_reducible rfl)
  try simp only [List.getElem_toArray, List.getElem_cons_succ, List.getElem_cons_zero, Act.put, List.setIfInBounds_toArray, List.set_cons_zero, List.set_cons_succ]
  refine wpAnyH_take (i := 30) (oi := _) (v := ?v5m1_31) rfl (by kernel_rfl) (by kernel_rfl) (by kernel_rfl) (fun _ _ _ h => h) (Or.inl ⟨by rfl, ?hy5m1_31⟩) hHeld ?_
  case hy5m1_31 => (intro wS hSw; (try dsimp only at hSw); obtain ⟨s0, s1, s2, s3, s4, s5, s6, s7, s8, s9, s10, s11, s12, s13, s14, s15, s16, s17, s18, s19, s20, s21, s22, s23, s24⟩ := hSw; go_simp; try with_reducible rfl)
  try simp only [List.getElem_toArray, List.getElem_cons_succ, List.getElem_cons_zero, Act.put, List.setIfInBounds_toArray, List.set_cons_zero, List.set_cons_succ]
  refine wpAnyH_take (i := 31) (oi := _) (v := ?v5m1_32) rfl (by kernel_rfl) (by kernel_rfl) (by kernel_rfl) (fun _ _ _ h => h) (Or.inl ⟨by rfl, ?hy5m1_32⟩) hHeld ?_
  case hy5m1_32 => (intro wS hSw; (try dsimp only at hSw); obtain ⟨s0, s1, s2, s3, s4, s5, s6, s7, s8, s9, s10, s11, s12, s13, s14, s15, s16, s17, s18, s19, s20, s21, s22, s23, s24⟩ := hSw; go_simp; try with_reducible rfl)
  try simp only [List.getElem_toArray, List.getElem_cons_succ, List.getElem_cons_zero, Act.put, List.setIfInBounds_toArray, List.set_cons_zero, List.set_cons_succ]
  refine wpAnyH_take (i := 32) (oi := _) (v := ?v5m1_33) rfl (by kernel_rfl) (by kernel_rfl) (by kernel_rfl) (fun _ _ _ h => h) (Or.inl ⟨by rfl, ?hy5m1_33⟩) hHeld ?_
  case hy5m1_33 => (intro wS hSw; (try dsimp only at hSw); obtain ⟨s0, s1, s2, s3, s4, s5, s6, s7, s8, s9, s10, s11, s12, s13, s14, s15, s16, s17, s18, s19, s20, s21, s22, s23, s24⟩ := hSw; go_simp; try with_reducible rfl)
  try simp only [List.getElem_toArray, List.getElem_cons_succ, List.getElem_cons_zero, Act.put, List.setIfInBounds_toArray, List.set_cons_zero, List.set_cons_succ]
  refine wpAnyH_take (i := 33) (oi := _) (v := ?v5m1_34) rfl (by kernel_rfl) (by kernel_rfl) (by kernel_rfl) (fun _ _ _ h => h) (Or.inl ⟨by rfl, ?hy5m1_34⟩) hHeld ?_
  case hy5m1_34 => (intro wS hSw; (try dsimp only at hSw); obtain ⟨s0, s1, s2, s3, s4, s5, s6, s7, s8, s9, s10, s11, s12, s13, s14, s15, s16, s17, s18, s19, s20, s21, s22, s23, s24⟩ := hSw; go_simp; try with_reducible rfl)
  try simp only [List.getElem_toArray, List.getElem_cons_succ, List.getElem_cons_zero, Act.put, List.setIfInBounds_toArray, List.set_cons_zero, List.set_cons_succ]
  refine wpAnyH_take (i := 34) (oi := _) (v := ?v5m1_35) rfl (by kernel_rfl) (by kernel_rfl) (by kernel_rfl) (fun _ _ _ h => h) (Or.inl ⟨by rfl, ?hy5m1_35⟩) hHeld ?_
  case hy5m1_35 => (intro wS hSw; (try dsimp only at hSw); obtain ⟨s0, s1, s2, s3, s4, s5, s6, s7, s8, s9, s10, s11, s12, s13, s14, s15, s16, s17, s18, s19, s20, s21, s22, s23, s24⟩ := hSw; go_simp; try with_reducible rfl)
  try simp only [List.getElem_toArray, List.getElem_cons_succ, List.getElem_cons_zero, Act.put, List.setIfInBounds_toArray, List.set_cons_zero, List.set_cons_succ]
  refine wpAnyH_ready (rs := [35]) (by kernel_rfl) (by simp) ?_
  refine (AllReadyH.cons (o := _) rfl (fun K hK => ?_) AllReadyH.nil)
  go_simp
  refine HTRIM.out.mono ?_
  rintro e w35 ⟨sn, hsn, A35, c35, F35, rfl, own35, -, hb35⟩
  obtain rfl := hsn.unique aReach
  have e35 := aTrim3
  generalize (trimBs [true, false, true, true] aBs).length = n35 at *
  subst e35
  have fd35 := graph_field3 (⟨#[]⟩ : ByteArray) false false A35 3 c35
  have A1 := A0.sub (Sub.of_below ((Below.refl w2.heap.size w2).drew.trans hb35))
  have CB35 := Kd.C_mono hb35 CB
  clear own35 hsn
  go_wp2_with fail
  refine hK.out _ _ (A1) (fun hHeld36 => ?_)
  clear hK K hHeld
  try simp only [List.getElem_toArray, List.getElem_cons_succ, List.getElem_cons_zero, Act.put, List.setIfInBounds_toArray, List.set_cons_zero, List.set_cons_succ]
  refine wpAnyH_take (i := 36) (oi := _) (v := ?v5m1_37) rfl (by kernel_rfl) (by kernel_rfl) (by kernel_rfl) (fun _ _ _ h => h) (Or.inl ⟨by rfl, ?hy5m1_37⟩) hHeld36 ?_
  case hy5m1_37 => (intro wS hSw; (try dsimp only at hSw); obtain ⟨s0, s1, s2, s3, s4, s5, s6, s7, s8, s9, s10, s11, s12, s13, s14, s15, s16, s17, s18, s19, s20, s21, s22, s23, s24⟩ := hSw; go_simp; try with_reducible rfl)
  try simp only [List.getElem_toArray, List.getElem_cons_succ, List.getElem_cons_zero, Act.put, List.setIfInBounds_toArray, List.set_cons_zero, List.set_cons_succ]
  refine wpAnyH_take (i := 37) (oi := _) (v := ?v5m1_38) rfl (by kernel_rfl) (by kernel_rfl) (by kernel_rfl) (fun _ _ _ h => h) (Or.inl ⟨by rfl, ?hy5m1_38⟩) hHeld36 ?_
  case hy5m1_38 => (intro wS hSw; (try dsimp only at hSw); obtain ⟨s0, s1, s2, s3, s4, s5, s6, s7, s8, s9, s10, s11, s12, s13, s14, s15, s16, s17, s18, s19, s20, s21, s22, s23, s24⟩ := hSw; go_simp; try with_reducible rfl)
  try simp only [List.getElem_toArray, List.getElem_cons_succ, List.getElem_cons_zero, Act.put, List.setIfInBounds_toArray, List.set_cons_zero, List.set_cons_succ]
  refine wpAnyH_take (i := 38) (oi := _) (v := ?v5m1_39) rfl (by kernel_rfl) (by kernel_rfl) (by kernel_rfl) (fun _ _ _ h => h) (Or.inl ⟨by rfl, ?hy5m1_39⟩) hHeld36 ?_
  case hy5m1_39 => (intro wS hSw; (try dsimp only at hSw); obtain ⟨s0, s1, s2, s3, s4, s5, s6, s7, s8, s9, s10, s11, s12, s13, s14, s15, s16, s17, s18, s19, s20, s21, s22, s23, s24⟩ := hSw; go_simp; try with_reducible rfl)
  try simp only [List.getElem_toArray, List.getElem_cons_succ, List.getElem_cons_zero, Act.put, List.setIfInBounds_toArray, List.set_cons_zero, List.set_cons_succ]
  refine wpAnyH_take (i := 39) (oi := _) (v := ?v5m1_40) rfl (by kernel_rfl) (by kernel_rfl) (by kernel_rfl) (fun _ _ _ h => h) (Or.inl ⟨by rfl, ?hy5m1_40⟩) hHeld36 ?_
  case hy5m1_40 => (intro wS hSw; (try dsimp only at hSw); obtain ⟨s0, s1, s2, s3, s4, s5, s6, s7, s8, s9, s10, s11, s12, s13, s14, s15, s16, s17, s18, s19, s20, s21, s22, s23, s24⟩ := hSw; go_simp; try with_reducible rfl)
  try simp only [List.getElem_toArray, List.getElem_cons_succ, List.getElem_cons_zero, Act.put, List.setIfInBounds_toArray, List.set_cons_zero, List.set_cons_succ]
  refine wpAnyH_take (i := 40) (oi := _) (v := ?v5m1_41) rfl (by kernel_rfl) (by kernel_rfl) (by kernel_rfl) (fun _ _ _ h => h) (Or.inl ⟨by rfl, ?hy5m1_41⟩) hHeld36 ?_
  case hy5m1_41 => (intro wS hSw; (try dsimp only at hSw); obtain ⟨s0, s1, s2, s3, s4, s5, s6, s7, s8, s9, s10, s11, s12, s13, s14, s15, s16, s17, s18, s19, s20, s21, s22, s23, s24⟩ := hSw; go_simp; try with_reducible rfl)
  try simp only [List.getElem_toArray, List.getElem_cons_succ, List.getElem_cons_zero, Act.put, List.setIfInBounds_toArray, List.set_cons_zero, List.set_cons_succ]
  refine wpAnyH_take (i := 41) (oi := _) (v := ?v5m1_42) rfl (by kernel_rfl) (by kernel_rfl) (by kernel_rfl) (fun _ _ _ h => h) (Or.inl ⟨by rfl, ?hy5m1_42⟩) hHeld36 ?_
  case hy5m1_42 => (intro wS hSw; (try dsimp only at hSw); obtain ⟨s0, s1, s2, s3, s4, s5, s6, s7, s8, s9, s10, s11, s12, s13, s14, s15, s16, s17, s18, s19, s20, s21, s22, s23, s24⟩ := hSw; go_simp; try with_reducible rfl)
  try simp only [List.getElem_toArray, List.getElem_cons_succ, List.getElem_cons_zero, Act.put, List.setIfInBounds_toArray, List.set_cons_zero, List.set_cons_succ]
  refine wpAnyH_ready (rs := [42]) (by kernel_rfl) (by simp) ?_
  refine (AllReadyH.cons (o := _) rfl (fun K hK => ?_) AllReadyH.nil)
  go_simp
  have hT := thread_calls (⟨#[]⟩ : ByteArray) false false _ 4 aBs w35 CB35 (by decide) h300 aOk.leads
  rw [aThread] at hT
  refine hT.mono ?_
  clear hT
  rintro e w42 ⟨A42, c42, F42, rfl, own42, -, hb42⟩
  rw [show aT.length = 4 from rfl] at own42 ⊢
  have fd42 := graph_field3 (⟨#[]⟩ : ByteArray) false false A42 4 c42
  have A2 := A1.sub (Sub.of_below hb42)
  have CB42 := Kd.C_mono hb42 CB35
  obtain ⟨ay, _, _, rfl, -, -, -, -, -, y5, -⟩ := Block_at (i := 0) (x := ⟨[aTwo, aThree], jumpTo 3⟩) (own_bs_read own42) rfl
  rw [add_zero12] at y5
  replace y5 : w42.cell? ⟨ay.block, ay.off + 5, none⟩ = some (.int .i64 3) := y5
  clear own42
  go_wp2_with fail
  refine hK.out _ _ (A2) (fun hHeld43 => ?_)
  clear hK K hHeld36
  try simp only [List.getElem_toArray, List.getElem_cons_succ, List.getElem_cons_zero, Act.put, List.setIfInBounds_toArray, List.set_cons_zero, List.set_cons_succ]
  refine wpAnyH_take (i := 43) (oi := _) (v := ?v5m1_44) rfl (by kernel_rfl) (by kernel_rfl) (by kernel_rfl) (fun _ _ _ h => h) (Or.inl ⟨by rfl, ?hy5m1_44⟩) hHeld43 ?_
  case hy5m1_44 => (intro wS hSw; (try dsimp only at hSw); obtain ⟨s0, s1, s2, s3, s4, s5, s6, s7, s8, s9, s10, s11, s12, s13, s14, s15, s16, s17, s18, s19, s20, s21, s22, s23, s24⟩ := hSw; go_simp; try with_reducible rfl)
  try simp only [List.getElem_toArray, List.getElem_cons_succ, List.getElem_cons_zero, Act.put, List.setIfInBounds_toArray, List.set_cons_zero, List.set_cons_succ]
  refine wpAnyH_take (i := 44) (oi := _) (v := ?v5m1_45) rfl (by kernel_rfl) (by kernel_rfl) (by kernel_rfl) (fun _ _ _ h => h) (Or.inl ⟨by rfl, ?hy5m1_45⟩) hHeld43 ?_
  case hy5m1_45 => (intro wS hSw; (try dsimp only at hSw); obtain ⟨s0, s1, s2, s3, s4, s5, s6, s7, s8, s9, s10, s11, s12, s13, s14, s15, s16, s17, s18, s19, s20, s21, s22, s23, s24⟩ := hSw; go_simp; try with_reducible rfl)
  try simp only [List.getElem_toArray, List.getElem_cons_succ, List.getElem_cons_zero, Act.put, List.setIfInBounds_toArray, List.set_cons_zero, List.set_cons_succ]
  refine wpAnyH_take (i := 45) (oi := _) (v := ?v5m1_46) rfl (by kernel_rfl) (by kernel_rfl) (by kernel_rfl) (fun _ _ _ h => h) (Or.inl ⟨by rfl, ?hy5m1_46⟩) hHeld43 ?_
  case hy5m1_46 => (intro wS hSw; (try dsimp only at hSw); obtain ⟨s0, s1, s2, s3, s4, s5, s6, s7, s8, s9, s10, s11, s12, s13, s14, s15, s16, s17, s18, s19, s20, s21, s22, s23, s24⟩ := hSw; go_simp; try with_reducible rfl)
  try simp only [List.getElem_toArray, List.getElem_cons_succ, List.getElem_cons_zero, Act.put, List.setIfInBounds_toArray, List.set_cons_zero, List.set_cons_succ]
  refine wpAnyH_take (i := 46) (oi := _) (v := ?v5m1_47) rfl (by kernel_rfl) (by kernel_rfl) (by kernel_rfl) (fun _ _ _ h => h) (Or.inl ⟨by rfl, ?hy5m1_47⟩) hHeld43 ?_
  case hy5m1_47 => (intro wS hSw; (try dsimp only at hSw); obtain ⟨s0, s1, s2, s3, s4, s5, s6, s7, s8, s9, s10, s11, s12, s13, s14, s15, s16, s17, s18, s19, s20, s21, s22, s23, s24⟩ := hSw; go_simp; try with_reducible rfl)
  try simp only [List.getElem_toArray, List.getElem_cons_succ, List.getElem_cons_zero, Act.put, List.setIfInBounds_toArray, List.set_cons_zero, List.set_cons_succ]
  refine wpAnyH_ready (rs := [47]) (by kernel_rfl) (by simp) ?_
  refine (AllReadyH.cons (o := _) rfl (fun K hK => ?_) AllReadyH.nil)
  go_simp
  refine hK.out _ _ (hHeld43) (fun hHeld48 => ?_)
  clear hK K hHeld43
  try simp only [List.getElem_toArray, List.getElem_cons_succ, List.getElem_cons_zero, Act.put, List.setIfInBounds_toArray, List.set_cons_zero, List.set_cons_succ]
  refine wpAnyH_take (i := 48) (oi := _) (v := ?v5m1_49) rfl (by kernel_rfl) (by kernel_rfl) (by kernel_rfl) (fun _ _ _ h => h) (Or.inl ⟨by rfl, ?hy5m1_49⟩) hHeld48 ?_
  case hy5m1_49 => (intro wS hSw; (try dsimp only at hSw); obtain ⟨s0, s1, s2, s3, s4, s5, s6, s7, s8, s9, s10, s11, s12, s13, s14, s15, s16, s17, s18, s19, s20, s21, s22, s23, s24⟩ := hSw; go_simp; try with_reducible rfl)
  try simp only [List.getElem_toArray, List.getElem_cons_succ, List.getElem_cons_zero, Act.put, List.setIfInBounds_toArray, List.set_cons_zero, List.set_cons_succ]
  refine wpAnyH_take (i := 49) (oi := _) (v := ?v5m1_50) rfl (by kernel_rfl) (by kernel_rfl) (by kernel_rfl) (fun _ _ _ h => h) (Or.inl ⟨by rfl, ?hy5m1_50⟩) hHeld48 ?_
  case hy5m1_50 => (intro wS hSw; (try dsimp only at hSw); obtain ⟨s0, s1, s2, s3, s4, s5, s6, s7, s8, s9, s10, s11, s12, s13, s14, s15, s16, s17, s18, s19, s20, s21, s22, s23, s24⟩ := hSw; go_simp; try with_reducible rfl)
  try simp only [List.getElem_toArray, List.getElem_cons_succ, List.getElem_cons_zero, Act.put, List.setIfInBounds_toArray, List.set_cons_zero, List.set_cons_succ]
  refine wpAnyH_take (i := 50) (oi := _) (v := ?v5m1_51) rfl (by kernel_rfl) (by kernel_rfl) (by kernel_rfl) (fun _ _ _ h => h) (Or.inl ⟨by rfl, ?hy5m1_51⟩) hHeld48 ?_
  case hy5m1_51 => (intro wS hSw; (try dsimp only at hSw); obtain ⟨s0, s1, s2, s3, s4, s5, s6, s7, s8, s9, s10, s11, s12, s13, s14, s15, s16, s17, s18, s19, s20, s21, s22, s23, s24⟩ := hSw; go_simp; try with_reducible rfl)
  try simp only [List.getElem_toArray, List.getElem_cons_succ, List.getElem_cons_zero, Act.put, List.setIfInBounds_toArray, List.set_cons_zero, List.set_cons_succ]
  refine wpAnyH_take (i := 51) (oi := _) (v := ?v5m1_52) rfl (by kernel_rfl) (by kernel_rfl) (by kernel_rfl) (fun _ _ _ h => h) (Or.inl ⟨by rfl, ?hy5m1_52⟩) hHeld48 ?_
  case hy5m1_52 => (intro wS hSw; (try dsimp only at hSw); obtain ⟨s0, s1, s2, s3, s4, s5, s6, s7, s8, s9, s10, s11, s12, s13, s14, s15, s16, s17, s18, s19, s20, s21, s22, s23, s24⟩ := hSw; go_simp; try with_reducible rfl)
  try simp only [List.getElem_toArray, List.getElem_cons_succ, List.getElem_cons_zero, Act.put, List.setIfInBounds_toArray, List.set_cons_zero, List.set_cons_succ]
  refine wpAnyH_ready (rs := [52]) (by kernel_rfl) (by simp) ?_
  refine (AllReadyH.cons (o := _) rfl (fun K hK => ?_) AllReadyH.nil)
  go_simp
  refine (sweep_calls (⟨#[]⟩ : ByteArray) false false _ 4 aBs w42 CB42 (by decide) h300 aOk).mono ?_
  rintro e w52 ⟨bs52, hsw, A52, c52, F52, rfl, own52, -, hb52⟩
  obtain rfl := hsw.unique aOk aSwept
  rw [show aSw.length = 4 from rfl] at own52 ⊢
  have fd52 := graph_field3 (⟨#[]⟩ : ByteArray) false false A52 4 c52
  have A3 := A2.sub (Sub.of_below hb52)
  obtain ⟨az, Az, cz, rfl, z0, -⟩ := Block_at (i := 0) (x := ⟨[aThree], aB0.fin⟩) (own_bs_read own52) rfl
  rw [add_zero12] at z0
  replace z0 : w52.cell? az = some (.slice Az 1 cz) := z0
  clear own52 hsw
  go_wp2_with fail
  refine hK.out _ _ (A3) (fun hHeld53 => ?_)
  clear hK K hHeld48
  try simp only [List.getElem_toArray, List.getElem_cons_succ, List.getElem_cons_zero, Act.put, List.setIfInBounds_toArray, List.set_cons_zero, List.set_cons_succ]
  refine wpAnyH_take (i := 53) (oi := _) (v := ?v5m1_54) rfl (by kernel_rfl) (by kernel_rfl) (by kernel_rfl) (fun _ _ _ h => h) (Or.inl ⟨by rfl, ?hy5m1_54⟩) hHeld53 ?_
  case hy5m1_54 => (intro wS hSw; (try dsimp only at hSw); obtain ⟨s0, s1, s2, s3, s4, s5, s6, s7, s8, s9, s10, s11, s12, s13, s14, s15, s16, s17, s18, s19, s20, s21, s22, s23, s24⟩ := hSw; go_simp; try with_reducible rfl)
  try simp only [List.getElem_toArray, List.getElem_cons_succ, List.getElem_cons_zero, Act.put, List.setIfInBounds_toArray, List.set_cons_zero, List.set_cons_succ]
  refine wpAnyH_take (i := 54) (oi := _) (v := ?v5m1_55) rfl (by kernel_rfl) (by kernel_rfl) (by kernel_rfl) (fun _ _ _ h => h) (Or.inl ⟨by rfl, ?hy5m1_55⟩) hHeld53 ?_
  case hy5m1_55 => (intro wS hSw; (try dsimp only at hSw); obtain ⟨s0, s1, s2, s3, s4, s5, s6, s7, s8, s9, s10, s11, s12, s13, s14, s15, s16, s17, s18, s19, s20, s21, s22, s23, s24⟩ := hSw; go_simp; try with_reducible rfl)
  try simp only [List.getElem_toArray, List.getElem_cons_succ, List.getElem_cons_zero, Act.put, List.setIfInBounds_toArray, List.set_cons_zero, List.set_cons_succ]
  refine wpAnyH_take (i := 55) (oi := _) (v := ?v5m1_56) rfl (by kernel_rfl) (by kernel_rfl) (by kernel_rfl) (fun _ _ _ h => h) (Or.inl ⟨by rfl, ?hy5m1_56⟩) hHeld53 ?_
  case hy5m1_56 => (intro wS hSw; (try dsimp only at hSw); obtain ⟨s0, s1, s2, s3, s4, s5, s6, s7, s8, s9, s10, s11, s12, s13, s14, s15, s16, s17, s18, s19, s20, s21, s22, s23, s24⟩ := hSw; go_simp; try with_reducible rfl)
  try simp only [List.getElem_toArray, List.getElem_cons_succ, List.getElem_cons_zero, Act.put, List.setIfInBounds_toArray, List.set_cons_zero, List.set_cons_succ]
  refine wpAnyH_ready (rs := [56]) (by kernel_rfl) (by simp) ?_
  refine (AllReadyH.cons (o := _) rfl (fun K hK => ?_) AllReadyH.nil)
  go_simp
  refine hK.out _ _ (hHeld53) (fun hHeld57 => ?_)
  clear hK K hHeld53
  try simp only [List.getElem_toArray, List.getElem_cons_succ, List.getElem_cons_zero, Act.put, List.setIfInBounds_toArray, List.set_cons_zero, List.set_cons_succ]
  refine wpAnyH_take (i := 57) (oi := _) (v := ?v5m1_58) rfl (by kernel_rfl) (by kernel_rfl) (by kernel_rfl) (fun _ _ _ h => h) (Or.inl ⟨by rfl, ?hy5m1_58⟩) hHeld57 ?_
  case hy5m1_58 => (intro wS hSw; (try dsimp only at hSw); obtain ⟨s0, s1, s2, s3, s4, s5, s6, s7, s8, s9, s10, s11, s12, s13, s14, s15, s16, s17, s18, s19, s20, s21, s22, s23, s24⟩ := hSw; go_simp; try with_reducible rfl)
  try simp only [List.getElem_toArray, List.getElem_cons_succ, List.getElem_cons_zero, Act.put, List.setIfInBounds_toArray, List.set_cons_zero, List.set_cons_succ]
  refine wpAnyH_take (i := 58) (oi := _) (v := ?v5m1_59) rfl (by kernel_rfl) (by kernel_rfl) (by kernel_rfl) (fun _ _ _ h => h) (Or.inl ⟨by rfl, ?hy5m1_59⟩) hHeld57 ?_
  case hy5m1_59 => (intro wS hSw; (try dsimp only at hSw); obtain ⟨s0, s1, s2, s3, s4, s5, s6, s7, s8, s9, s10, s11, s12, s13, s14, s15, s16, s17, s18, s19, s20, s21, s22, s23, s24⟩ := hSw; go_simp; try with_reducible rfl)
  try simp only [List.getElem_toArray, List.getElem_cons_succ, List.getElem_cons_zero, Act.put, List.setIfInBounds_toArray, List.set_cons_zero, List.set_cons_succ]
  refine wpAnyH_take (i := 59) (oi := _) (v := ?v5m1_60) rfl (by kernel_rfl) (by kernel_rfl) (by kernel_rfl) (fun _ _ _ h => h) (Or.inl ⟨by rfl, ?hy5m1_60⟩) hHeld57 ?_
  case hy5m1_60 => (intro wS hSw; (try dsimp only at hSw); obtain ⟨s0, s1, s2, s3, s4, s5, s6, s7, s8, s9, s10, s11, s12, s13, s14, s15, s16, s17, s18, s19, s20, s21, s22, s23, s24⟩ := hSw; go_simp; try with_reducible rfl)
  try simp only [List.getElem_toArray, List.getElem_cons_succ, List.getElem_cons_zero, Act.put, List.setIfInBounds_toArray, List.set_cons_zero, List.set_cons_succ]
  refine wpAnyH_take (i := 60) (oi := _) (v := ?v5m1_61) rfl (by kernel_rfl) (by kernel_rfl) (by kernel_rfl) (fun _ _ _ h => h) (Or.inl ⟨by rfl, ?hy5m1_61⟩) hHeld57 ?_
  case hy5m1_61 => (intro wS hSw; (try dsimp only at hSw); obtain ⟨s0, s1, s2, s3, s4, s5, s6, s7, s8, s9, s10, s11, s12, s13, s14, s15, s16, s17, s18, s19, s20, s21, s22, s23, s24⟩ := hSw; go_simp; try with_reducible rfl)
  try simp only [List.getElem_toArray, List.getElem_cons_succ, List.getElem_cons_zero, Act.put, List.setIfInBounds_toArray, List.set_cons_zero, List.set_cons_succ]
  refine wpAnyH_done (by kernel_rfl) ?_ _
  go_wp2_with fail
  go_ret
  exact ⟨rfl, t2.trans (((Below.refl _ _).drew.trans (hb35.trans ((hb42.trans (hb52.mono hb42.size)).mono hb35.size))).mono t2.size)⟩
end Go.Proofs.Ytokkngfgppikkaa
