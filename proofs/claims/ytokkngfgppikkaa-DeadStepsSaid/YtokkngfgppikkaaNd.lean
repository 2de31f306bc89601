/- Layer 22 (dead): threading a graph. Printed in part by genNd.py of this repository. -/
import Derived.Test.YtokkngfgppikkaaNc
import Derived.Deep.RegionHeld3
namespace Go.Proofs.Ytokkngfgppikkaa
set_option linter.unusedVariables false
set_option linter.unusedSimpArgs false
open Go.RowKit

/-- The first k elements made anew. -/
def mixL {α : Type} (f : α → α) (xs : List α) (k : Nat) : List α := (xs.take k).map f ++ xs.drop k
theorem mixL_len {α : Type} (f : α → α) (xs : List α) (k : Nat) : (mixL f xs k).length = xs.length := by
  unfold mixL
  simp
  omega
theorem mixL_zero {α : Type} (f : α → α) (xs : List α) : mixL f xs 0 = xs := by simp [mixL]
theorem mixL_all {α : Type} (f : α → α) (xs : List α) : mixL f xs xs.length = xs.map f := by simp [mixL]
theorem mixL_at {α : Type} {f : α → α} {xs : List α} {k : Nat} {x : α} (h : xs[k]? = some x) : (mixL f xs k)[k]? = some x := by
  have hk := (List.getElem?_eq_some_iff.1 h).1
  unfold mixL
  rw [List.getElem?_append_right (by simp; omega), List.getElem?_drop]
  simp [Nat.min_eq_left (Nat.le_of_lt hk), h]
theorem mixL_succ {α : Type} {f : α → α} {xs : List α} {k : Nat} {x : α} (h : xs[k]? = some x) : (mixL f xs k).set k (f x) = mixL f xs (k + 1) := by
  have hk := (List.getElem?_eq_some_iff.1 h).1
  unfold mixL
  rw [drop_at h, set_at _ _ _ _ _ (Nat.le_of_lt hk), take_snoc h, List.map_append, List.append_assoc]
  rfl
theorem i64_small {n : Nat} (h : n ≤ 1000000) : (Lit.int .i64 (n : Int)).wf = true := by
  have h1 : IntKind.i64.min = -9223372036854775808 := by decide
  have h2 : IntKind.i64.max = 9223372036854775807 := by decide
  simp [Lit.wf, h1, h2]
  omega
theorem lead_wf {b : Block} (h : b.wf) {x y : Nat} (hx : x ≤ 1000000) (hy : y ≤ 1000000) : (⟨b.ops, b.fin.lead (x : Int) (y : Int)⟩ : Block).wf :=
  ⟨h.1, h.2.1, h.2.2.1, h.2.2.2.1, i64_small hx, i64_small hy, h.2.2.2.2.2.2⟩
theorem lead_wf1 {b : Block} (h : b.wf) {x : Nat} (hx : x ≤ 1000000) : (⟨b.ops, b.fin.lead (x : Int) b.fin.els⟩ : Block).wf :=
  ⟨h.1, h.2.1, h.2.2.1, h.2.2.2.1, i64_small hx, h.2.2.2.2.2.1, h.2.2.2.2.2.2⟩
theorem jumpTo_wf {os : List Op} {x : Nat} (hx : x ≤ 1000000) : (⟨os, jumpTo x⟩ : Block).wf :=
  ⟨(show (Lit.int .i64 1).wf = true by decide), (show (Lit.int .i64 0).wf = true by decide), (show (Lit.int .i64 0).wf = true by decide), (show (Lit.int .i64 0).wf = true by decide), i64_small hx, (show (Lit.int .i64 0).wf = true by decide), (show (Lit.int .i64 0).wf = true by decide), (show (Lit.int .i64 0).wf = true by decide), (show (Lit.int .i64 0).wf = true by decide), (show (Lit.int .i64 0).wf = true by decide), (show (Lit.int .i64 0).wf = true by decide)⟩
/-- A graph's cells. -/
def SGr (w : World) (p : Nat) (v : Value) (g : Graph) : Prop := w.cell? ⟨p, 0, none⟩ = some (.string g.name) ∧ w.cell? ⟨p, 1, none⟩ = some (.bool g.keep) ∧ w.cell? ⟨p, 2, none⟩ = some (.bool g.leaf) ∧ w.cell? ⟨p, 3, none⟩ = some v
set_option maxHeartbeats 8000000 in
set_option maxRecDepth 100000 in
theorem thread_calls (nm : ByteArray) (kp lf : Bool) (A : Option Addr) (c : Nat) (bs : List Block) (w : World) (hC : kBlock.C w A bs) (hl : bs.length ≤ 1000) (h300 : ∀ b ∈ bs, b.ops.length ≤ 300) (hld : Leads bs) : Calls Try.prog 31 #[.agg #[.string nm, .bool kp, .bool lf, .slice A bs.length c]] w fun e w' =>
    CopiedG nm kp lf (threadBs bs) w e w' := by
  have hlo : bs.length ≤ 9223372036854775807 := by omega
  have HLD := Lib.hid hld
  have H3 := Lib.hid h300
  clear hld h300
  obtain ⟨W, hW, b0, hz0, r0, z0⟩ := two_rows w #[.string nm, .bool kp, .bool lf, .slice A bs.length c] #[.string ⟨#[]⟩, .bool false, .bool false, .slice none 0 0] 33 33
  go_enter Try.func31, Try.ntmps31
  go_upto_region 1 with fail
  rw [← hW]
  have HZ0 := Lib.hid hz0
  have HW := Lib.hid hW
  clear hz0 hW
  have r0' : Row W w.heap.size 33 (graphCells (.slice A bs.length c) ⟨nm, kp, lf, bs⟩) := r0
  obtain ⟨x0, x1, x2, x3⟩ := r0'.graph
  go_wp2_with fail
  refine (copied_calls _ _ _ _ _ bs _ (Kd.C_mono b0 hC) hl H3.out).mono ?_
  rintro e w1 ⟨A1, c1, F1, rfl, own1, hF1, hb1⟩
  have t1 := b0.trans (hb1.mono b0.size)
  have bq := below_alloc' w1 (.cells #[.string nm, .bool kp, .bool lf, .slice A1 bs.length c1] 33)
  have r3 : Row (w1.alloc (.cells #[.string nm, .bool kp, .bool lf, .slice A1 bs.length c1] 33)) w1.heap.size 33 (graphCells (.slice A1 bs.length c1) ⟨nm, kp, lf, bs⟩) := Row.new w1 _ _
  go_upto_region 2 with fail
  generalize w1.alloc (.cells #[.string nm, .bool kp, .bool lf, .slice A1 bs.length c1] 33) = W3 at *
  have t3 := t1.trans (bq.mono t1.size)
  have ra := (r0'.below hb1).below bq
  have rz := (z0.below hb1).below bq
  have own3 : OwnF oBlock 42 W3 (.slice A1 bs.length c1) (mixL (threadB bs) bs 0) F1 := by rw [mixL_zero]; exact own1.below bq
  have hg3 : w1.heap.size < W3.heap.size := r3.lt
  have hF1' : ∀ x, F1 x → w.heap.size + 1 + 1 ≤ x ∧ x ≠ w1.heap.size := fun x hx => ⟨by have := hF1 x hx; have := HZ0.out; omega, by have := own1.lt x hx; omega⟩
  have hG3 : w.heap.size + 1 + 1 ≤ w1.heap.size := by have := hb1.size; have := HZ0.out; omega
  generalize w1.heap.size = G3 at *
  have RA := Lib.hid ra
  have RZ := Lib.hid rz
  have R3 := Lib.hid r3
  have HO3 := Lib.hid own3
  have y3 := r3.cell (j := 3) rfl
  clear x0 x1 x2 x3 r0 r0' z0 own1 own3 ra rz r3 hb1 bq
  go_wp2_with fail
  go_loopw [11] (fun i wr => ∃ (k : Nat) (F : Nat → Prop), k ≤ bs.length ∧ i = .int .i64 k ∧ OwnF oBlock 42 wr (.slice A1 bs.length c1) (mixL (threadB bs) bs k) F ∧ (∀ x, F x → w.heap.size + 1 + 1 ≤ x ∧ x ≠ G3) ∧ Row wr w.heap.size 33 (graphCells (.slice A bs.length c) ⟨nm, kp, lf, bs⟩) ∧ Row wr (w.heap.size + 1) 33 [.string ⟨#[]⟩, .bool false, .bool false, .slice none 0 0] ∧ Row wr G3 33 (graphCells (.slice A1 bs.length c1) ⟨nm, kp, lf, bs⟩) ∧ Below w.heap.size w wr) (fun i _ => bs.length - (intOf i).toNat)
  case atStart => exact ⟨0, F1, Nat.zero_le _, rfl, HO3.out, hF1', RA.out, RZ.out, R3.out, t3⟩
  case round =>
    obtain ⟨k, F, hk, rfl, ho, hF, ra, rz, r3, hbr⟩ := hrel
    clear y3
    by_cases hlt : k < bs.length
    · obtain ⟨b, hb⟩ := get_some bs k hlt
      have hmk := mixL_at (f := threadB bs) hb
      obtain ⟨g1, q1, cs, Fi, F0, e0, lq, mq, h0, hO, d0, iff0⟩ := ho.open_ hmk
      injection e0 with e01 e02 e03
      subst e01 e03
      clear e02
      obtain ⟨v, rfl, hwf, oo⟩ := hO
      have hmn := mixL_succ (f := threadB bs) hb
      have hbm := List.mem_of_getElem? hb
      have hlead := HLD.out b hbm
      have hlen := mixL_len (threadB bs) bs k
      have hG1 : w.heap.size + 1 + 1 ≤ g1 ∧ g1 ≠ G3 := hF g1 ((iff0 g1).2 (.inl h0.row))
      have HG1 := Lib.hid hG1
      have HMN := Lib.hid hmn
      have HLEN := Lib.hid hlen
      have HWF := Lib.hid hwf
      have HLEAD := Lib.hid hlead
      have HD0 := Lib.hid d0
      have HIFF := Lib.hid iff0
      have HF := Lib.hid hF
      have OO := Lib.hid oo
      have y3 := r3.cell (j := 3) rfl
      obtain ⟨y0, y1, y2, y3', y4, y5, y6, y7, y8, y9, y10, y11⟩ := h0.block
      clear hb hmk ho hF hmn hbm hlead hlen hwf d0 iff0 oo hG1
      by_cases hk2 : b.fin.kind = 2
      · have z1 : (b.fin.kind == 2) = true := by simp [hk2]
        obtain ⟨⟨ht0, ht1⟩, he0, he1⟩ := And.intro (HLEAD.out.1 (.inr hk2)) (HLEAD.out.2 hk2)
        obtain ⟨nt, hnt⟩ := Int.eq_ofNat_of_zero_le ht0
        obtain ⟨ne, hne⟩ := Int.eq_ofNat_of_zero_le he0
        have Lnt : Hid (nt < bs.length) := Lib.hid (by omega)
        have Lne : Hid (ne < bs.length) := Lib.hid (by omega)
        have twr := hbr
        have G0 := grown_none wr (some g1)
        rw [hne] at y6
        have hnl := thr_lt HLD.out (b := nt) Lnt.out
        have hel := thr_lt HLD.out (b := ne) Lne.out
        have hth : threadB bs b = if thr bs nt = thr bs ne then ⟨b.ops, jumpTo (thr bs nt)⟩ else ⟨b.ops, b.fin.lead (thr bs nt : Int) (thr bs ne : Int)⟩ := by
          unfold threadB threadT
          rw [if_pos hk2, hnt, hne, Int.toNat_natCast, Int.toNat_natCast]
          split <;> rfl
        have HTH := Lib.hid hth
        have hwf2 : (⟨b.ops, b.fin.lead (thr bs nt : Int) (thr bs ne : Int)⟩ : Block).wf := lead_wf HWF.out (by omega) (by omega)
        have HWF2 := Lib.hid hwf2
        clear ht0 ht1 he0 he1 hth hwf2 hk2
        go_upto_region 9 with fail
        refine wp_region_held_drew (S := (fun w' => SGr w' w.heap.size (.slice A bs.length c) ⟨nm, kp, lf, bs⟩)) (by kernel_rfl) (ra.graph) (fun hHeld => ?_)
        refine wpAnyH_take (i := 0) (oi := _) (v := ?v9m1_1) rfl (by kernel_rfl) (by kernel_rfl) (by kernel_rfl) (fun _ _ _ h => h) (Or.inl ⟨by rfl, ?hy9m1_1⟩) hHeld ?_
        case hy9m1_1 => (intro wS hSw; (try dsimp only at hSw); obtain ⟨s0, s1, s2, s3⟩ := hSw; go_simp; try with_reducible rfl)
        try simp only [List.getElem_toArray, List.getElem_cons_succ, List.getElem_cons_zero, Act.put, List.setIfInBounds_toArray, List.set_cons_zero, List.set_cons_succ]
        refine wpAnyH_take (i := 1) (oi := _) (v := ?v9m1_2) rfl (by kernel_rfl) (by kernel_rfl) (by kernel_rfl) (fun _ _ _ h => h) (Or.inl ⟨by rfl, ?hy9m1_2⟩) hHeld ?_
        case hy9m1_2 => (intro wS hSw; (try dsimp only at hSw); obtain ⟨s0, s1, s2, s3⟩ := hSw; go_simp; try with_reducible rfl)
        try simp only [List.getElem_toArray, List.getElem_cons_succ, List.getElem_cons_zero, Act.put, List.setIfInBounds_toArray, List.set_cons_zero, List.set_cons_succ]
        refine wpAnyH_take (i := 2) (oi := _) (v := ?v9m1_3) rfl (by kernel_rfl) (by kernel_rfl) (by kernel_rfl) (fun _ _ _ h => h) (Or.inl ⟨by rfl, ?hy9m1_3⟩) hHeld ?_
        case hy9m1_3 => (intro wS hSw; (try dsimp only at hSw); obtain ⟨s0, s1, s2, s3⟩ := hSw; go_simp; try with_reducible rfl)
        try simp only [List.getElem_toArray, List.getElem_cons_succ, List.getElem_cons_zero, Act.put, List.setIfInBounds_toArray, List.set_cons_zero, List.set_cons_succ]
        refine wpAnyH_take (i := 3) (oi := _) (v := ?v9m1_4) rfl (by kernel_rfl) (by kernel_rfl) (by kernel_rfl) (fun _ _ _ h => h) (Or.inl ⟨by rfl, ?hy9m1_4⟩) hHeld ?_
        case hy9m1_4 => (intro wS hSw; (try dsimp only at hSw); obtain ⟨s0, s1, s2, s3⟩ := hSw; go_simp; try with_reducible rfl)
        try simp only [List.getElem_toArray, List.getElem_cons_succ, List.getElem_cons_zero, Act.put, List.setIfInBounds_toArray, List.set_cons_zero, List.set_cons_succ]
        refine wpAnyH_take (i := 4) (oi := _) (v := ?v9m1_5) rfl (by kernel_rfl) (by kernel_rfl) (by kernel_rfl) (fun _ _ _ h => h) (Or.inl ⟨by rfl, ?hy9m1_5⟩) hHeld ?_
        case hy9m1_5 => (intro wS hSw; (try dsimp only at hSw); obtain ⟨s0, s1, s2, s3⟩ := hSw; go_simp; try with_reducible rfl)
        try simp only [List.getElem_toArray, List.getElem_cons_succ, List.getElem_cons_zero, Act.put, List.setIfInBounds_toArray, List.set_cons_zero, List.set_cons_succ]
        refine wpAnyH_ready (rs := [5]) (by kernel_rfl) (by simp) ?_
        refine (AllReadyH.cons (o := _) rfl (fun K hK => ?_) AllReadyH.nil)
        go_simp
        refine hK.out _ _ (hHeld) (fun hHeld6 => ?_)
        clear hK K hHeld
        try simp only [List.getElem_toArray, List.getElem_cons_succ, List.getElem_cons_zero, Act.put, List.setIfInBounds_toArray, List.set_cons_zero, List.set_cons_succ]
        refine wpAnyH_ready (rs := [6]) (by kernel_rfl) (by simp) ?_
        refine (AllReadyH.cons (o := _) rfl (fun K hK => ?_) AllReadyH.nil)
        go_simp
        refine (through_calls _ _ _ _ _ bs _ _ (Kd.C_mono (twr.drew) hC) hl HLD.out Lne.out).mono ?_
        rintro e w6a ⟨rfl, hb6a⟩
        have b6a : Below wr.heap.size wr w6a := (Below.refl _ _).drew.trans hb6a
        have r6a := ra.below b6a
        have h6a := h0.below b6a
        have f6a := h6a.frozen (k * 12 + 6)
        have c6a : w6a.cell? ⟨g1, k * 12 + 6, none⟩ = some (.int .i64 b.fin.els) := h6a.cell (j := 6) rfl
        go_wp2_with fail
        refine hK.out _ _ (r6a.graph) (fun hHeld7 => ?_)
        clear hK K hHeld6
        try simp only [List.getElem_toArray, List.getElem_cons_succ, List.getElem_cons_zero, Act.put, List.setIfInBounds_toArray, List.set_cons_zero, List.set_cons_succ]
        refine wpAnyH_take (i := 7) (oi := _) (v := ?v9m1_8) rfl (by kernel_rfl) (by kernel_rfl) (by kernel_rfl) (fun _ _ _ h => h) (Or.inl ⟨by rfl, ?hy9m1_8⟩) hHeld7 ?_
        case hy9m1_8 => (intro wS hSw; (try dsimp only at hSw); obtain ⟨s0, s1, s2, s3⟩ := hSw; go_simp; try with_reducible rfl)
        try simp only [List.getElem_toArray, List.getElem_cons_succ, List.getElem_cons_zero, Act.put, List.setIfInBounds_toArray, List.set_cons_zero, List.set_cons_succ]
        refine wpAnyH_take (i := 8) (oi := _) (v := ?v9m1_9) rfl (by kernel_rfl) (by kernel_rfl) (by kernel_rfl) (fun _ _ _ h => h) (Or.inl ⟨by rfl, ?hy9m1_9⟩) hHeld7 ?_
        case hy9m1_9 => (intro wS hSw; (try dsimp only at hSw); obtain ⟨s0, s1, s2, s3⟩ := hSw; go_simp; try with_reducible rfl)
        try simp only [List.getElem_toArray, List.getElem_cons_succ, List.getElem_cons_zero, Act.put, List.setIfInBounds_toArray, List.set_cons_zero, List.set_cons_succ]
        refine wpAnyH_ready (rs := [9]) (by kernel_rfl) (by simp) ?_
        refine (AllReadyH.cons (o := _) rfl (fun K hK => ?_) AllReadyH.nil)
        go_simp
        have h9a := h6a.set (j := 6) (by decide) (.int .i64 (thr bs ne : Int))
        have g9a := grown_set w6a g1 (k * 12 + 6) (.int .i64 (thr bs ne : Int))
        have r9a := r6a.grown g9a (fun e => by injection e with e; have := HG1.out; omega)
        refine hK.out _ _ (r9a.graph) (fun hHeld10 => ?_)
        clear hK K hHeld7
        try simp only [List.getElem_toArray, List.getElem_cons_succ, List.getElem_cons_zero, Act.put, List.setIfInBounds_toArray, List.set_cons_zero, List.set_cons_succ]
        refine wpAnyH_done (by kernel_rfl) ?_ _
        have H9a : HoleF oBlock 42 (w6a.setCell ⟨g1, k * 12 + 6, none⟩ (.int .i64 (thr bs ne : Int))) g1 c1 (mixL (threadB bs) bs k) k (blockCells v ⟨b.ops, b.fin.lead b.fin.to (thr bs ne : Int)⟩) F0 := h9a
        have G9a : wr.grownBy (w6a.setCell ⟨g1, k * 12 + 6, none⟩ (.int .i64 (thr bs ne : Int))) (some g1) := grown_trans G0 (grown_trans (grown_below b6a) g9a)
        clear h9a g9a h6a c6a f6a r6a b6a hb6a y0 y1 y2 y3' y4 y5 y6 y7 y8 y9 y10 y11
        go_wp2_with fail
        generalize w6a.setCell ⟨g1, k * 12 + 6, none⟩ (.int .i64 (thr bs ne : Int)) = w9a at *
        have tw9a := twr.grown G9a twr.size (fun j hj => by injection hj with hj; have := HG1.out; omega)
        obtain ⟨y0, y1, y2, y3', y4, y5, y6, y7, y8, y9, y10, y11⟩ := H9a.block
        replace y5 : w9a.cell? ⟨g1, k * 12 + 5, none⟩ = some (.int .i64 (nt : Int)) := by rw [← hnt]; exact y5
        go_upto_region 10 with fail
        refine wp_region_held_drew (S := (fun w' => SGr w' w.heap.size (.slice A bs.length c) ⟨nm, kp, lf, bs⟩)) (by kernel_rfl) (r9a.graph) (fun hHeld => ?_)
        refine wpAnyH_take (i := 0) (oi := _) (v := ?v10m2_1) rfl (by kernel_rfl) (by kernel_rfl) (by kernel_rfl) (fun _ _ _ h => h) (Or.inl ⟨by rfl, ?hy10m2_1⟩) hHeld ?_
        case hy10m2_1 => (intro wS hSw; (try dsimp only at hSw); obtain ⟨s0, s1, s2, s3⟩ := hSw; go_simp; try with_reducible rfl)
        try simp only [List.getElem_toArray, List.getElem_cons_succ, List.getElem_cons_zero, Act.put, List.setIfInBounds_toArray, List.set_cons_zero, List.set_cons_succ]
        refine wpAnyH_take (i := 1) (oi := _) (v := ?v10m2_2) rfl (by kernel_rfl) (by kernel_rfl) (by kernel_rfl) (fun _ _ _ h => h) (Or.inl ⟨by rfl, ?hy10m2_2⟩) hHeld ?_
        case hy10m2_2 => (intro wS hSw; (try dsimp only at hSw); obtain ⟨s0, s1, s2, s3⟩ := hSw; go_simp; try with_reducible rfl)
        try simp only [List.getElem_toArray, List.getElem_cons_succ, List.getElem_cons_zero, Act.put, List.setIfInBounds_toArray, List.set_cons_zero, List.set_cons_succ]
        refine wpAnyH_take (i := 2) (oi := _) (v := ?v10m2_3) rfl (by kernel_rfl) (by kernel_rfl) (by kernel_rfl) (fun _ _ _ h => h) (Or.inl ⟨by rfl, ?hy10m2_3⟩) hHeld ?_
        case hy10m2_3 => (intro wS hSw; (try dsimp only at hSw); obtain ⟨s0, s1, s2, s3⟩ := hSw; go_simp; try with_reducible rfl)
        try simp only [List.getElem_toArray, List.getElem_cons_succ, List.getElem_cons_zero, Act.put, List.setIfInBounds_toArray, List.set_cons_zero, List.set_cons_succ]
        refine wpAnyH_take (i := 3) (oi := _) (v := ?v10m2_4) rfl (by kernel_rfl) (by kernel_rfl) (by kernel_rfl) (fun _ _ _ h => h) (Or.inl ⟨by rfl, ?hy10m2_4⟩) hHeld ?_
        case hy10m2_4 => (intro wS hSw; (try dsimp only at hSw); obtain ⟨s0, s1, s2, s3⟩ := hSw; go_simp; try with_reducible rfl)
        try simp only [List.getElem_toArray, List.getElem_cons_succ, List.getElem_cons_zero, Act.put, List.setIfInBounds_toArray, List.set_cons_zero, List.set_cons_succ]
        refine wpAnyH_take (i := 4) (oi := _) (v := ?v10m2_5) rfl (by kernel_rfl) (by kernel_rfl) (by kernel_rfl) (fun _ _ _ h => h) (Or.inl ⟨by rfl, ?hy10m2_5⟩) hHeld ?_
        case hy10m2_5 => (intro wS hSw; (try dsimp only at hSw); obtain ⟨s0, s1, s2, s3⟩ := hSw; go_simp; try with_reducible rfl)
        try simp only [List.getElem_toArray, List.getElem_cons_succ, List.getElem_cons_zero, Act.put, List.setIfInBounds_toArray, List.set_cons_zero, List.set_cons_succ]
        refine wpAnyH_ready (rs := [5]) (by kernel_rfl) (by simp) ?_
        refine (AllReadyH.cons (o := _) rfl (fun K hK => ?_) AllReadyH.nil)
        go_simp
        refine hK.out _ _ (hHeld) (fun hHeld6 => ?_)
        clear hK K hHeld
        try simp only [List.getElem_toArray, List.getElem_cons_succ, List.getElem_cons_zero, Act.put, List.setIfInBounds_toArray, List.set_cons_zero, List.set_cons_succ]
        refine wpAnyH_ready (rs := [6]) (by kernel_rfl) (by simp) ?_
        refine (AllReadyH.cons (o := _) rfl (fun K hK => ?_) AllReadyH.nil)
        go_simp
        refine (through_calls _ _ _ _ _ bs _ _ (Kd.C_mono (tw9a.drew) hC) hl HLD.out Lnt.out).mono ?_
        rintro e w6b ⟨rfl, hb6b⟩
        have b6b : Below w9a.heap.size w9a w6b := (Below.refl _ _).drew.trans hb6b
        have r6b := r9a.below b6b
        have h6b := H9a.below b6b
        have f6b := h6b.frozen (k * 12 + 5)
        have c6b : w6b.cell? ⟨g1, k * 12 + 5, none⟩ = some (.int .i64 b.fin.to) := h6b.cell (j := 5) rfl
        go_wp2_with fail
        refine hK.out _ _ (r6b.graph) (fun hHeld7 => ?_)
        clear hK K hHeld6
        try simp only [List.getElem_toArray, List.getElem_cons_succ, List.getElem_cons_zero, Act.put, List.setIfInBounds_toArray, List.set_cons_zero, List.set_cons_succ]
        refine wpAnyH_take (i := 7) (oi := _) (v := ?v10m2_8) rfl (by kernel_rfl) (by kernel_rfl) (by kernel_rfl) (fun _ _ _ h => h) (Or.inl ⟨by rfl, ?hy10m2_8⟩) hHeld7 ?_
        case hy10m2_8 => (intro wS hSw; (try dsimp only at hSw); obtain ⟨s0, s1, s2, s3⟩ := hSw; go_simp; try with_reducible rfl)
        try simp only [List.getElem_toArray, List.getElem_cons_succ, List.getElem_cons_zero, Act.put, List.setIfInBounds_toArray, List.set_cons_zero, List.set_cons_succ]
        refine wpAnyH_take (i := 8) (oi := _) (v := ?v10m2_9) rfl (by kernel_rfl) (by kernel_rfl) (by kernel_rfl) (fun _ _ _ h => h) (Or.inl ⟨by rfl, ?hy10m2_9⟩) hHeld7 ?_
        case hy10m2_9 => (intro wS hSw; (try dsimp only at hSw); obtain ⟨s0, s1, s2, s3⟩ := hSw; go_simp; try with_reducible rfl)
        try simp only [List.getElem_toArray, List.getElem_cons_succ, List.getElem_cons_zero, Act.put, List.setIfInBounds_toArray, List.set_cons_zero, List.set_cons_succ]
        refine wpAnyH_ready (rs := [9]) (by kernel_rfl) (by simp) ?_
        refine (AllReadyH.cons (o := _) rfl (fun K hK => ?_) AllReadyH.nil)
        go_simp
        have h9b := h6b.set (j := 5) (by decide) (.int .i64 (thr bs nt : Int))
        have g9b := grown_set w6b g1 (k * 12 + 5) (.int .i64 (thr bs nt : Int))
        have r9b := r6b.grown g9b (fun e => by injection e with e; have := HG1.out; omega)
        refine hK.out _ _ (r9b.graph) (fun hHeld10 => ?_)
        clear hK K hHeld7
        try simp only [List.getElem_toArray, List.getElem_cons_succ, List.getElem_cons_zero, Act.put, List.setIfInBounds_toArray, List.set_cons_zero, List.set_cons_succ]
        refine wpAnyH_done (by kernel_rfl) ?_ _
        have H9b : HoleF oBlock 42 (w6b.setCell ⟨g1, k * 12 + 5, none⟩ (.int .i64 (thr bs nt : Int))) g1 c1 (mixL (threadB bs) bs k) k (blockCells v ⟨b.ops, b.fin.lead (thr bs nt : Int) (thr bs ne : Int)⟩) F0 := h9b
        have G9b : wr.grownBy (w6b.setCell ⟨g1, k * 12 + 5, none⟩ (.int .i64 (thr bs nt : Int))) (some g1) := grown_trans G9a (grown_trans (grown_below b6b) g9b)
        clear h9b g9b h6b c6b f6b r6b b6b hb6b
        go_wp2_with fail
        generalize w6b.setCell ⟨g1, k * 12 + 5, none⟩ (.int .i64 (thr bs nt : Int)) = w9b at *
        generalize thr bs nt = x1 at *
        generalize thr bs ne = x2 at *
        obtain ⟨y0, y1, y2, y3', y4, y5, y6, y7, y8, y9, y10, y11⟩ := H9b.block
        replace y1 : w9b.cell? ⟨g1, k * 12 + 1, none⟩ = some (.int .i64 b.fin.kind) := y1
        replace y5 : w9b.cell? ⟨g1, k * 12 + 5, none⟩ = some (.int .i64 (x1 : Int)) := y5
        replace y6 : w9b.cell? ⟨g1, k * 12 + 6, none⟩ = some (.int .i64 (x2 : Int)) := y6
        by_cases hx : x1 = x2
        · have z3 : ((x1 : Int) == (x2 : Int)) = true := by simp [hx]
          have z4 : (x1 == x2) = true := by simp [hx]
          have z5 : decide (x1 = x2) = true := by simp [hx]
          have hB : threadB bs b = (⟨b.ops, jumpTo x1⟩ : Block) := by rw [HTH.out, if_pos hx]
          have HBE := Lib.hid hB
          clear hB hx
          go_quiet (fail)
          have hq : Below w9b.heap.size w9b (w9b.drewN nq) := Below.drewN (Below.refl _ _) nq
          have hd := H9b.below hq
          have GD := grown_trans G9b (grown_below hq (r := some g1))
          clear H9b G9b hq
          go_wp2_with (refine wpList_put_part (k := oBlock) rfl 40 _ _ rfl g1 1 (finCells (jumpTo (x1))) rfl rfl hd (by kernel_rfl) (by show 1 + 11 ≤ 12; decide) (finCells_one _) ?_; intro w11 h11 g11 s11)
          have h12 : HoleF oBlock 42 w11 g1 c1 (mixL (threadB bs) bs k) k (blockCells v (⟨b.ops, jumpTo x1⟩ : Block)) F0 := h11
          have gT := grown_trans GD g11
          have hcl := (h12).close (y := (⟨b.ops, jumpTo x1⟩ : Block)) (Gi := Fi) ⟨v, rfl, (jumpTo_wf (by omega)), OO.out.grown gT (fun x hx e => by injection e with e; subst e; exact HD0.out _ hx h0.row)⟩ (fun x hx => HD0.out x hx)
          rw [HLEN.out] at hcl
          have hmn := HMN.out
          rw [HBE.out] at hmn
          rw [hmn] at hcl
          exact ⟨⟨k + 1, _, by omega, by go_num, hcl, fun x hx => HF.out x ((HIFF.out x).2 hx), ra.grown gT (fun e => by injection e with e; have := HG1.out; omega), rz.grown gT (fun e => by injection e with e; have := HG1.out; omega), r3.grown gT (fun e => by injection e with e; have := HG1.out; omega), hbr.grown gT hbr.size (fun j hj => by injection hj with hj; have := HG1.out; omega)⟩, by simp [intOf]; omega⟩
        · have z3 : ((x1 : Int) == (x2 : Int)) = false := ibeq (by omega)
          have z4 : (x1 == x2) = false := nbeq hx
          have z5 : decide (x1 = x2) = false := decide_eq_false hx
          have hB : threadB bs b = (⟨b.ops, b.fin.lead (x1 : Int) (x2 : Int)⟩ : Block) := by rw [HTH.out, if_neg hx]
          have HBE := Lib.hid hB
          clear hB hx
          go_quiet (fail)
          go_wp2_with fail
          have gT := grown_trans G9b (grown_below (Below.drewN (Below.refl _ _) nq))
          have hcl := (H9b.below (Below.drewN (Below.refl _ _) nq)).close (y := (⟨b.ops, b.fin.lead (x1 : Int) (x2 : Int)⟩ : Block)) (Gi := Fi) ⟨v, rfl, HWF2.out, OO.out.grown gT (fun x hx e => by injection e with e; subst e; exact HD0.out _ hx h0.row)⟩ (fun x hx => HD0.out x hx)
          rw [HLEN.out] at hcl
          have hmn := HMN.out
          rw [HBE.out] at hmn
          rw [hmn] at hcl
          exact ⟨⟨k + 1, _, by omega, by go_num, hcl, fun x hx => HF.out x ((HIFF.out x).2 hx), ra.grown gT (fun e => by injection e with e; have := HG1.out; omega), rz.grown gT (fun e => by injection e with e; have := HG1.out; omega), r3.grown gT (fun e => by injection e with e; have := HG1.out; omega), hbr.grown gT hbr.size (fun j hj => by injection hj with hj; have := HG1.out; omega)⟩, by simp [intOf]; omega⟩
      · have z1 : (b.fin.kind == 2) = false := ibeq hk2
        by_cases hk1 : b.fin.kind = 1
        · have z2 : (b.fin.kind == 1) = true := by simp [hk1]
          obtain ⟨ht0, ht1⟩ := HLEAD.out.1 (.inl hk1)
          obtain ⟨nt, hnt⟩ := Int.eq_ofNat_of_zero_le ht0
          have Lnt : Hid (nt < bs.length) := Lib.hid (by omega)
          have hB : threadB bs b = ⟨b.ops, b.fin.lead (thr bs nt : Int) b.fin.els⟩ := by
            unfold threadB threadT
            rw [if_neg hk2, if_pos hk1, hnt, Int.toNat_natCast]
          have HB := Lib.hid hB
          have hnl := thr_lt HLD.out (b := nt) Lnt.out
          have hwf : (⟨b.ops, b.fin.lead (thr bs nt : Int) b.fin.els⟩ : Block).wf := lead_wf1 HWF.out (by omega)
          have HWB := Lib.hid hwf
          have twr := hbr
          have G0 := grown_none wr (some g1)
          rw [hnt] at y5
          clear ht0 ht1 hB hwf hk1 hk2
          go_upto_region 10 with fail
          refine wp_region_held_drew (S := (fun w' => SGr w' w.heap.size (.slice A bs.length c) ⟨nm, kp, lf, bs⟩)) (by kernel_rfl) (ra.graph) (fun hHeld => ?_)
          refine wpAnyH_take (i := 0) (oi := _) (v := ?v10m3_1) rfl (by kernel_rfl) (by kernel_rfl) (by kernel_rfl) (fun _ _ _ h => h) (Or.inl ⟨by rfl, ?hy10m3_1⟩) hHeld ?_
          case hy10m3_1 => (intro wS hSw; (try dsimp only at hSw); obtain ⟨s0, s1, s2, s3⟩ := hSw; go_simp; try with_reducible rfl)
          try simp only [List.getElem_toArray, List.getElem_cons_succ, List.getElem_cons_zero, Act.put, List.setIfInBounds_toArray, List.set_cons_zero, List.set_cons_succ]
          refine wpAnyH_take (i := 1) (oi := _) (v := ?v10m3_2) rfl (by kernel_rfl) (by kernel_rfl) (by kernel_rfl) (fun _ _ _ h => h) (Or.inl ⟨by rfl, ?hy10m3_2⟩) hHeld ?_
          case hy10m3_2 => (intro wS hSw; (try dsimp only at hSw); obtain ⟨s0, s1, s2, s3⟩ := hSw; go_simp; try with_reducible rfl)
          try simp only [List.getElem_toArray, List.getElem_cons_succ, List.getElem_cons_zero, Act.put, List.setIfInBounds_toArray, List.set_cons_zero, List.set_cons_succ]
          refine wpAnyH_take (i := 2) (oi := _) (v := ?v10m3_3) rfl (by kernel_rfl) (by kernel_rfl) (by kernel_rfl) (fun _ _ _ h => h) (Or.inl ⟨by rfl, ?hy10m3_3⟩) hHeld ?_
          case hy10m3_3 => (intro wS hSw; (try dsimp only at hSw); obtain ⟨s0, s1, s2, s3⟩ := hSw; go_simp; try with_reducible rfl)
          try simp only [List.getElem_toArray, List.getElem_cons_succ, List.getElem_cons_zero, Act.put, List.setIfInBounds_toArray, List.set_cons_zero, List.set_cons_succ]
          refine wpAnyH_take (i := 3) (oi := _) (v := ?v10m3_4) rfl (by kernel_rfl) (by kernel_rfl) (by kernel_rfl) (fun _ _ _ h => h) (Or.inl ⟨by rfl, ?hy10m3_4⟩) hHeld ?_
          case hy10m3_4 => (intro wS hSw; (try dsimp only at hSw); obtain ⟨s0, s1, s2, s3⟩ := hSw; go_simp; try with_reducible rfl)
          try simp only [List.getElem_toArray, List.getElem_cons_succ, List.getElem_cons_zero, Act.put, List.setIfInBounds_toArray, List.set_cons_zero, List.set_cons_succ]
          refine wpAnyH_take (i := 4) (oi := _) (v := ?v10m3_5) rfl (by kernel_rfl) (by kernel_rfl) (by kernel_rfl) (fun _ _ _ h => h) (Or.inl ⟨by rfl, ?hy10m3_5⟩) hHeld ?_
          case hy10m3_5 => (intro wS hSw; (try dsimp only at hSw); obtain ⟨s0, s1, s2, s3⟩ := hSw; go_simp; try with_reducible rfl)
          try simp only [List.getElem_toArray, List.getElem_cons_succ, List.getElem_cons_zero, Act.put, List.setIfInBounds_toArray, List.set_cons_zero, List.set_cons_succ]
          refine wpAnyH_ready (rs := [5]) (by kernel_rfl) (by simp) ?_
          refine (AllReadyH.cons (o := _) rfl (fun K hK => ?_) AllReadyH.nil)
          go_simp
          refine hK.out _ _ (hHeld) (fun hHeld6 => ?_)
          clear hK K hHeld
          try simp only [List.getElem_toArray, List.getElem_cons_succ, List.getElem_cons_zero, Act.put, List.setIfInBounds_toArray, List.set_cons_zero, List.set_cons_succ]
          refine wpAnyH_ready (rs := [6]) (by kernel_rfl) (by simp) ?_
          refine (AllReadyH.cons (o := _) rfl (fun K hK => ?_) AllReadyH.nil)
          go_simp
          refine (through_calls _ _ _ _ _ bs _ _ (Kd.C_mono (twr.drew) hC) hl HLD.out Lnt.out).mono ?_
          rintro e w6c ⟨rfl, hb6c⟩
          have b6c : Below wr.heap.size wr w6c := (Below.refl _ _).drew.trans hb6c
          have r6c := ra.below b6c
          have h6c := h0.below b6c
          have f6c := h6c.frozen (k * 12 + 5)
          have c6c : w6c.cell? ⟨g1, k * 12 + 5, none⟩ = some (.int .i64 b.fin.to) := h6c.cell (j := 5) rfl
          go_wp2_with fail
          refine hK.out _ _ (r6c.graph) (fun hHeld7 => ?_)
          clear hK K hHeld6
          try simp only [List.getElem_toArray, List.getElem_cons_succ, List.getElem_cons_zero, Act.put, List.setIfInBounds_toArray, List.set_cons_zero, List.set_cons_succ]
          refine wpAnyH_take (i := 7) (oi := _) (v := ?v10m3_8) rfl (by kernel_rfl) (by kernel_rfl) (by kernel_rfl) (fun _ _ _ h => h) (Or.inl ⟨by rfl, ?hy10m3_8⟩) hHeld7 ?_
          case hy10m3_8 => (intro wS hSw; (try dsimp only at hSw); obtain ⟨s0, s1, s2, s3⟩ := hSw; go_simp; try with_reducible rfl)
          try simp only [List.getElem_toArray, List.getElem_cons_succ, List.getElem_cons_zero, Act.put, List.setIfInBounds_toArray, List.set_cons_zero, List.set_cons_succ]
          refine wpAnyH_take (i := 8) (oi := _) (v := ?v10m3_9) rfl (by kernel_rfl) (by kernel_rfl) (by kernel_rfl) (fun _ _ _ h => h) (Or.inl ⟨by rfl, ?hy10m3_9⟩) hHeld7 ?_
          case hy10m3_9 => (intro wS hSw; (try dsimp only at hSw); obtain ⟨s0, s1, s2, s3⟩ := hSw; go_simp; try with_reducible rfl)
          try simp only [List.getElem_toArray, List.getElem_cons_succ, List.getElem_cons_zero, Act.put, List.setIfInBounds_toArray, List.set_cons_zero, List.set_cons_succ]
          refine wpAnyH_ready (rs := [9]) (by kernel_rfl) (by simp) ?_
          refine (AllReadyH.cons (o := _) rfl (fun K hK => ?_) AllReadyH.nil)
          go_simp
          have h9c := h6c.set (j := 5) (by decide) (.int .i64 (thr bs nt : Int))
          have g9c := grown_set w6c g1 (k * 12 + 5) (.int .i64 (thr bs nt : Int))
          have r9c := r6c.grown g9c (fun e => by injection e with e; have := HG1.out; omega)
          refine hK.out _ _ (r9c.graph) (fun hHeld10 => ?_)
          clear hK K hHeld7
          try simp only [List.getElem_toArray, List.getElem_cons_succ, List.getElem_cons_zero, Act.put, List.setIfInBounds_toArray, List.set_cons_zero, List.set_cons_succ]
          refine wpAnyH_done (by kernel_rfl) ?_ _
          have H9c : HoleF oBlock 42 (w6c.setCell ⟨g1, k * 12 + 5, none⟩ (.int .i64 (thr bs nt : Int))) g1 c1 (mixL (threadB bs) bs k) k (blockCells v ⟨b.ops, b.fin.lead (thr bs nt : Int) b.fin.els⟩) F0 := h9c
          have G9c : wr.grownBy (w6c.setCell ⟨g1, k * 12 + 5, none⟩ (.int .i64 (thr bs nt : Int))) (some g1) := grown_trans G0 (grown_trans (grown_below b6c) g9c)
          clear h9c g9c h6c c6c f6c r6c b6c hb6c y0 y1 y2 y3' y4 y5 y6 y7 y8 y9 y10 y11
          go_wp2_with fail
          generalize w6c.setCell ⟨g1, k * 12 + 5, none⟩ (.int .i64 (thr bs nt : Int)) = w9c at *
          obtain ⟨y0, y1, y2, y3', y4, y5, y6, y7, y8, y9, y10, y11⟩ := H9c.block
          replace y1 : w9c.cell? ⟨g1, k * 12 + 1, none⟩ = some (.int .i64 b.fin.kind) := y1
          go_quiet (fail)
          go_wp2_with fail
          have gT := grown_trans G9c (grown_below (Below.drewN (Below.refl _ _) nq))
          have hcl := (H9c.below (Below.drewN (Below.refl _ _) nq)).close (y := (⟨b.ops, b.fin.lead (thr bs nt : Int) b.fin.els⟩ : Block)) (Gi := Fi) ⟨v, rfl, HWB.out, OO.out.grown gT (fun x hx e => by injection e with e; subst e; exact HD0.out _ hx h0.row)⟩ (fun x hx => HD0.out x hx)
          rw [HLEN.out] at hcl
          have hmn := HMN.out
          rw [HB.out] at hmn
          rw [hmn] at hcl
          exact ⟨⟨k + 1, _, by omega, by go_num, hcl, fun x hx => HF.out x ((HIFF.out x).2 hx), ra.grown gT (fun e => by injection e with e; have := HG1.out; omega), rz.grown gT (fun e => by injection e with e; have := HG1.out; omega), r3.grown gT (fun e => by injection e with e; have := HG1.out; omega), hbr.grown gT hbr.size (fun j hj => by injection hj with hj; have := HG1.out; omega)⟩, by simp [intOf]; omega⟩
        · have z2 : (b.fin.kind == 1) = false := ibeq hk1
          have hB : threadB bs b = b := by
            unfold threadB threadT
            rw [if_neg hk2, if_neg hk1]
          have HB := Lib.hid hB
          clear hB hk1 hk2
          go_upto_region 11 with fail
          go_quiet (fail)
          go_wp2_with fail
          have hq : Below wr.heap.size wr (wr.drewN nq) := Below.drewN (Below.refl _ _) nq
          have hcl := (h0.below hq).close (y := b) (Gi := Fi) ⟨v, rfl, HWF.out, OO.out.below hq⟩ (fun x hx => HD0.out x hx)
          rw [HLEN.out] at hcl
          have hmn := HMN.out
          rw [HB.out] at hmn
          rw [hmn] at hcl
          exact ⟨⟨k + 1, _, by omega, by go_num, hcl, fun x hx => HF.out x ((HIFF.out x).2 hx), ra.below hq, rz.below hq, r3.below hq, Below.drewN hbr nq⟩, by simp [intOf]; omega⟩
    · obtain rfl : k = bs.length := by omega
      rw [mixL_all] at ho
      have HO := Lib.hid ho
      have HF := Lib.hid hF
      obtain ⟨y0, y1, y2, y3⟩ := r3.graph
      clear ho hF
      go_wp2_with (refine wpList_put_row rfl 33 _ _ rfl (w.heap.size + 1) (graphCells (.slice A1 bs.length c1) ⟨nm, kp, lf, bs⟩) rfl rfl rz (by kernel_rfl) rfl (graphCells_one _) ?_; intro w6 r6 g6 s6)
      refine bodyPost_ret (results_cell_row rfl _ _ (w.heap.size + 1) 33 (graphCells (.slice A1 bs.length c1) ⟨nm, kp, lf, bs⟩).toArray (0, 0) _ rfl r6 Try.underlying33 rfl (by kernel_rfl)) rfl ?_
      have hlt : (threadBs bs).length = bs.length := threadBs_len bs
      refine ⟨A1, c1, F, by rw [hlt]; rfl, ?_, fun x hx => by have := HF.out x hx; omega, hbr.grown g6 hbr.size (fun j hj => by injection hj with hj; omega)⟩
      have hfin : OwnF oBlock 42 w6 (.slice A1 bs.length c1) (threadBs bs) F := HO.out.grown g6 (fun x hx e => by injection e with e; have := HF.out x hx; omega)
      rw [hlt]
      exact hfin
end Go.Proofs.Ytokkngfgppikkaa
