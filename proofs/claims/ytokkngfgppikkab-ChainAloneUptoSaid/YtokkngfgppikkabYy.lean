/- ChainAlone returns true, for names of no more than 2^62 letters: for every graph, right and small, and edges: edges of another function and those without weight change nothing of the order. Printed in part by genYy.py of this repository. -/
import Derived.Test.YtokkngfgppikkabYx
namespace Go.Proofs.Ytokkngfgppikkab
set_option linter.unusedVariables false
set_option linter.unusedSimpArgs false
open Go.RowKit Go.Lib
attribute [local go_sem] run_store_float

theorem extra_lit {nm : ByteArray} {e : Edge} (W : World) (hw : ∀ x ∈ extra nm e, x.wf) : kEdge.C (W.alloc (.cells #[.string (xName nm), .int .i64 e.src, .int .i64 e.to, .float .f64 4636666922610458624, .string nm, .int .i64 e.to, .int .i64 e.src, .float .f64 13837309855095848960] 42)) (some ⟨W.heap.size, 0, none⟩) (extra nm e) := by
  refine C_lit kEdge W _ rfl _ (extra nm e) [[.string (xName nm), .int .i64 e.src, .int .i64 e.to, .float .f64 4636666922610458624], [.string nm, .int .i64 e.to, .int .i64 e.src, .float .f64 13837309855095848960]] _ rfl rfl ?_
  intro i x cs hx hc
  match i, hx, hc with
  | 0, hx, hc =>
    injection hx with hx
    injection hc with hc
    subst hx hc
    exact kEdge_mk W _ (hw _ (List.mem_cons_self ..))
  | 1, hx, hc =>
    injection hx with hx
    injection hc with hc
    subst hx hc
    exact kEdge_mk W _ (hw _ (List.mem_cons_of_mem _ (List.mem_cons_self ..)))
  | i + 2, hx, hc => simp [extra] at hx

set_option maxHeartbeats 8000000 in
set_option maxRecDepth 100000 in
theorem chainAlone_lawU (w : World) (g : Graph) (hnm : g.name.size ≤ 4611686018427387904) (A : Option Addr) (c : Nat) (hlc : g.blocks.length ≤ c) (hcm : c ≤ maxLen) (hC : kBlock.C w A g.blocks) (LA : Option Addr) (lc : Nat) (l : List Edge) (hll : l.length ≤ lc) (hlm2 : lc ≤ maxLen) (hL : kEdge.C w LA l) : Calls Try.prog 7 #[.agg #[.string g.name, .bool g.keep, .bool g.leaf, .slice A g.blocks.length c], .slice LA l.length lc] w fun e w' => e = .returned (.bool true) ∧ Below w.heap.size w w' := by
  have hlm := Nat.le_trans hlc hcm
  have hlm' : g.blocks.length ≤ 9223372036854775807 := hlm
  have hl2 := Nat.le_trans hll hlm2
  have hl2' : l.length ≤ 9223372036854775807 := hl2
  have HWF := Lib.hid (edges_wf hL)
  have HNM := Lib.hid hnm
  have b0 := below_alloc' w (.cells #[.string g.name, .bool g.keep, .bool g.leaf, .slice A g.blocks.length c] 24)
  have r0 : Row (w.alloc (.cells #[.string g.name, .bool g.keep, .bool g.leaf, .slice A g.blocks.length c] 24)) w.heap.size 24 (graphCells (.slice A g.blocks.length c) g) := Row.new w _ _
  clear hnm
  go_enter Try.func7, Try.ntmps7
  go_upto_region 1 with fail
  generalize w.alloc (.cells #[.string g.name, .bool g.keep, .bool g.leaf, .slice A g.blocks.length c] 24) = W0 at *
  go_wp2_with fail
  refine (awake25_calls _).mono ?_
  rintro e w1 ⟨rfl, hb1⟩
  have r1 := r0.below hb1
  obtain ⟨x0, x1, x2, x3⟩ := r1.graph
  have t1 := b0.trans (hb1.mono b0.size)
  go_wp2_with fail
  cases hf : fine25B g.blocks with
  | false =>
    refine (fine25_calls _ _ _ _ _ _ _ (Kd.C_mono t1 hC) hlm).mono ?_
    rw [hf]
    rintro e w2 ⟨rfl, hb2⟩
    have t2 := t1.trans (hb2.mono t1.size)
    clear x0 x1 x2 x3 hf
    go_wp2_with fail
    refine (awake25_calls _).mono ?_
    rintro e w3 ⟨rfl, hb3⟩
    go_wp2_with fail
    go_ret
    exact ⟨rfl, t2.trans (hb3.mono t2.size)⟩
  | true =>
    refine (fine25_calls _ _ _ _ _ _ _ (Kd.C_mono t1 hC) hlm).mono ?_
    rw [hf]
    rintro e W ⟨rfl, hb2⟩
    obtain ⟨hfew, h25, hright⟩ := fine25_parts hf
    have hok : BsOk g.blocks := ⟨1000, 1000, hright⟩
    have hpos := (blocksRight_iff.1 hright).2
    have HLD := Lib.hid hok.leads
    have t2 := t1.trans (hb2.mono t1.size)
    have r2 := r1.below hb2
    clear x0 x1 x2 x3 hf hfew hright hok
    by_cases h60 : l.length ≤ 60
    · have z2 : decide (60 < (l.length : Int)) = false := decide_eq_false (by omega)
      have z2' : ¬ (60 < l.length) := by omega
      have hLW := Kd.C_mono t2 hL
      have bE := below_alloc' W (.cells #[] 42)
      have oE := OwnF.empty oEdge 42 W
      have hLE := Kd.C_mono bE hLW
      have hap0 : ([] : List Edge).length + l.length ≤ 100000000 := by simp; omega
      have HAP0 := Lib.hid hap0
      have HL60 := Lib.hid h60
      clear hap0 h60
      go_upto_region 4 with (refine wpList_append_f (k := oEdge) elEdge rfl _ _ rfl (A := LA) (c := lc) (v := .slice (some ⟨W.heap.size, 0, none⟩) 0 0) (xs := []) (ys := l) (F := fun b => b = W.heap.size) (G := noF) (by exact oE) (by exact YF.flat hLE) (fun _ _ h => h) rfl rfl HAP0.out ?_; intro v3 w3 hg3)
      obtain ⟨⟨F3, own3, hF3⟩, hgr3⟩ := hg3
      rw [List.nil_append] at own3
      have u3 : Below W.heap.size W w3 := bE.grown hgr3 bE.size (fun j hj => by injection hj with hj; subst hj; exact Nat.le_refl _)
      have hF3' : ∀ b, F3 b → W.heap.size ≤ b := fun b hb => by
        rcases hF3 b hb with h | h | h
        · exact Nat.le_of_eq h.symm
        · exact h.elim
        · exact Nat.le_trans bE.size h
      have HO3 := Lib.hid own3
      clear own3 hF3 hgr3 bE oE hLE z2 z2'
      have hcat : ∀ w, (Op.stringOp .add g.name ⟨#[120]⟩).run Try.prog w = .ok (.string (xName g.name)) w := fun w => run_string_add_sum w g.name ⟨#[120]⟩ (by have := HNM.out; show g.name.size + 1 ≤ _; omega)
      have hnm1 : g.name.size + 1 ≤ maxLen := by have := HNM.out; unfold maxLen; omega
      have HNM1 := Lib.hid hnm1
      have HR2 := Lib.hid r2
      have xn := r2.cell (j := 0) rfl
      clear hnm1 r2
      go_wp2_with fail
      go_loopw [5, 6] (fun v i wr => ∃ (k : Nat) (F : Nat → Prop), k ≤ l.length ∧ i = .int .i64 (k : Int) ∧ OwnF oEdge 42 wr v (moreTo g.name l k) F ∧ (∀ b, F b → W.heap.size ≤ b) ∧ Below W.heap.size W wr) (fun _ i _ => l.length - (intOf i).toNat)
      case atStart => exact ⟨0, F3, Nat.zero_le _, rfl, by rw [moreTo_zero]; exact HO3.out, hF3', u3⟩
      case round =>
        obtain ⟨k, F, hk, rfl, ho, hF, hWr⟩ := hrel
        by_cases hlt : k < l.length
        · obtain ⟨e, he⟩ := get_some l k hlt
          obtain ⟨ad, rfl, f0, f1, f2, f3, hew⟩ := Edge_at hLW he
          have hms := moreTo_succ (nm := g.name) he
          have hml := moreTo_len g.name l k
          have hex := extra_wf HNM1.out hew
          have hap : (moreTo g.name l k).length + (extra g.name e).length ≤ 100000000 := by
            show _ + 2 ≤ _
            have := HL60.out
            omega
          have HMS := Lib.hid hms
          have HX := Lib.hid hex
          have HAP := Lib.hid hap
          have HO := Lib.hid ho
          have HF := Lib.hid hF
          have hltI : (k : Int) < (l.length : Int) := by omega
          clear he hms hml hex hap ho hF hew
          go_upto_region 7 with fail
          refine wp_region_held_drew (S := (fun w' => Below W.heap.size W w')) (by kernel_rfl) (hWr.drew) (fun hHeld => ?_)
          refine wpAnyH_take (i := 0) (oi := _) (v := ?v7m1_1) rfl (by kernel_rfl) (by kernel_rfl) (by kernel_rfl) (fun _ _ _ h => h) (Or.inl ⟨by rfl, ?hy7m1_1⟩) hHeld ?_
          case hy7m1_1 => (intro wS hSw; (try dsimp only at hSw); have cxn := (Below.cell hSw (World.lt_of_cell xn)).trans xn; have cf1 := (Below.cell hSw (World.lt_of_cell f1)).trans f1; have cf2 := (Below.cell hSw (World.lt_of_cell f2)).trans f2; clear hSw; go_simp; try with_reducible rfl)
          try simp only [List.getElem_toArray, List.getElem_cons_succ, List.getElem_cons_zero, Act.put, List.setIfInBounds_toArray, List.set_cons_zero, List.set_cons_succ]
          refine wpAnyH_take (i := 1) (oi := _) (v := ?v7m1_2) rfl (by kernel_rfl) (by kernel_rfl) (by kernel_rfl) (fun _ _ _ h => h) (Or.inl ⟨by rfl, ?hy7m1_2⟩) hHeld ?_
          case hy7m1_2 => (intro wS hSw; (try dsimp only at hSw); have cxn := (Below.cell hSw (World.lt_of_cell xn)).trans xn; have cf1 := (Below.cell hSw (World.lt_of_cell f1)).trans f1; have cf2 := (Below.cell hSw (World.lt_of_cell f2)).trans f2; clear hSw; go_simp; try with_reducible rfl)
          try simp only [List.getElem_toArray, List.getElem_cons_succ, List.getElem_cons_zero, Act.put, List.setIfInBounds_toArray, List.set_cons_zero, List.set_cons_succ]
          refine wpAnyH_take (i := 2) (oi := _) (v := ?v7m1_3) rfl (by kernel_rfl) (by kernel_rfl) (by kernel_rfl) (fun _ _ _ h => h) (Or.inl ⟨by rfl, ?hy7m1_3⟩) hHeld ?_
          case hy7m1_3 => (intro wS hSw; (try dsimp only at hSw); have cxn := (Below.cell hSw (World.lt_of_cell xn)).trans xn; have cf1 := (Below.cell hSw (World.lt_of_cell f1)).trans f1; have cf2 := (Below.cell hSw (World.lt_of_cell f2)).trans f2; clear hSw; go_simp; try with_reducible rfl)
          try simp only [List.getElem_toArray, List.getElem_cons_succ, List.getElem_cons_zero, Act.put, List.setIfInBounds_toArray, List.set_cons_zero, List.set_cons_succ]
          refine wpAnyH_take (i := 3) (oi := _) (v := ?v7m1_4) rfl (by kernel_rfl) (by kernel_rfl) (by kernel_rfl) (fun _ _ _ h => h) (Or.inl ⟨by rfl, ?hy7m1_4⟩) hHeld ?_
          case hy7m1_4 => (intro wS hSw; (try dsimp only at hSw); have cxn := (Below.cell hSw (World.lt_of_cell xn)).trans xn; have cf1 := (Below.cell hSw (World.lt_of_cell f1)).trans f1; have cf2 := (Below.cell hSw (World.lt_of_cell f2)).trans f2; clear hSw; go_simp; try with_reducible rfl)
          try simp only [List.getElem_toArray, List.getElem_cons_succ, List.getElem_cons_zero, Act.put, List.setIfInBounds_toArray, List.set_cons_zero, List.set_cons_succ]
          refine wpAnyH_take (i := 4) (oi := _) (v := ?v7m1_5) rfl (by kernel_rfl) (by kernel_rfl) (by kernel_rfl) (fun _ _ _ h => h) (Or.inl ⟨by rfl, ?hy7m1_5⟩) hHeld ?_
          case hy7m1_5 => (intro wS hSw; (try dsimp only at hSw); have cxn := (Below.cell hSw (World.lt_of_cell xn)).trans xn; have cf1 := (Below.cell hSw (World.lt_of_cell f1)).trans f1; have cf2 := (Below.cell hSw (World.lt_of_cell f2)).trans f2; clear hSw; go_simp; try with_reducible rfl)
          try simp only [List.getElem_toArray, List.getElem_cons_succ, List.getElem_cons_zero, Act.put, List.setIfInBounds_toArray, List.set_cons_zero, List.set_cons_succ]
          refine wpAnyH_take (i := 5) (oi := _) (v := ?v7m1_6) rfl (by kernel_rfl) (by kernel_rfl) (by kernel_rfl) (fun _ _ _ h => h) (Or.inl ⟨by rfl, ?hy7m1_6⟩) hHeld ?_
          case hy7m1_6 => (intro wS hSw; (try dsimp only at hSw); have cxn := (Below.cell hSw (World.lt_of_cell xn)).trans xn; have cf1 := (Below.cell hSw (World.lt_of_cell f1)).trans f1; have cf2 := (Below.cell hSw (World.lt_of_cell f2)).trans f2; clear hSw; go_simp; try with_reducible rfl)
          try simp only [List.getElem_toArray, List.getElem_cons_succ, List.getElem_cons_zero, Act.put, List.setIfInBounds_toArray, List.set_cons_zero, List.set_cons_succ]
          refine wpAnyH_take (i := 6) (oi := _) (v := ?v7m1_7) rfl (by kernel_rfl) (by kernel_rfl) (by kernel_rfl) (fun _ _ _ h => h) (Or.inl ⟨by rfl, ?hy7m1_7⟩) hHeld ?_
          case hy7m1_7 => (intro wS hSw; (try dsimp only at hSw); have cxn := (Below.cell hSw (World.lt_of_cell xn)).trans xn; have cf1 := (Below.cell hSw (World.lt_of_cell f1)).trans f1; have cf2 := (Below.cell hSw (World.lt_of_cell f2)).trans f2; clear hSw; go_simp; try with_reducible rfl)
          try simp only [List.getElem_toArray, List.getElem_cons_succ, List.getElem_cons_zero, Act.put, List.setIfInBounds_toArray, List.set_cons_zero, List.set_cons_succ]
          refine wpAnyH_take (i := 7) (oi := _) (v := ?v7m1_8) rfl (by kernel_rfl) (by kernel_rfl) (by kernel_rfl) (fun _ _ _ h => h) (Or.inl ⟨by rfl, ?hy7m1_8⟩) hHeld ?_
          case hy7m1_8 => (intro wS hSw; (try dsimp only at hSw); have cxn := (Below.cell hSw (World.lt_of_cell xn)).trans xn; have cf1 := (Below.cell hSw (World.lt_of_cell f1)).trans f1; have cf2 := (Below.cell hSw (World.lt_of_cell f2)).trans f2; clear hSw; go_simp; try with_reducible rfl)
          try simp only [List.getElem_toArray, List.getElem_cons_succ, List.getElem_cons_zero, Act.put, List.setIfInBounds_toArray, List.set_cons_zero, List.set_cons_succ]
          refine wpAnyH_take (i := 8) (oi := _) (v := ?v7m1_9) rfl (by kernel_rfl) (by kernel_rfl) (by kernel_rfl) (fun _ _ _ h => h) (Or.inl ⟨by rfl, ?hy7m1_9⟩) hHeld ?_
          case hy7m1_9 => (intro wS hSw; (try dsimp only at hSw); have cxn := (Below.cell hSw (World.lt_of_cell xn)).trans xn; have cf1 := (Below.cell hSw (World.lt_of_cell f1)).trans f1; have cf2 := (Below.cell hSw (World.lt_of_cell f2)).trans f2; clear hSw; go_simp; try with_reducible rfl)
          try simp only [List.getElem_toArray, List.getElem_cons_succ, List.getElem_cons_zero, Act.put, List.setIfInBounds_toArray, List.set_cons_zero, List.set_cons_succ]
          refine wpAnyH_take (i := 9) (oi := _) (v := ?v7m1_10) rfl (by kernel_rfl) (by kernel_rfl) (by kernel_rfl) (fun _ _ _ h => h) (Or.inl ⟨by rfl, ?hy7m1_10⟩) hHeld ?_
          case hy7m1_10 => (intro wS hSw; (try dsimp only at hSw); have cxn := (Below.cell hSw (World.lt_of_cell xn)).trans xn; have cf1 := (Below.cell hSw (World.lt_of_cell f1)).trans f1; have cf2 := (Below.cell hSw (World.lt_of_cell f2)).trans f2; clear hSw; go_simp; try with_reducible rfl)
          try simp only [List.getElem_toArray, List.getElem_cons_succ, List.getElem_cons_zero, Act.put, List.setIfInBounds_toArray, List.set_cons_zero, List.set_cons_succ]
          refine wpAnyH_take (i := 10) (oi := _) (v := ?v7m1_11) rfl (by kernel_rfl) (by kernel_rfl) (by kernel_rfl) (fun _ _ _ h => h) (Or.inl ⟨by rfl, ?hy7m1_11⟩) hHeld ?_
          case hy7m1_11 => (intro wS hSw; (try dsimp only at hSw); have cxn := (Below.cell hSw (World.lt_of_cell xn)).trans xn; have cf1 := (Below.cell hSw (World.lt_of_cell f1)).trans f1; have cf2 := (Below.cell hSw (World.lt_of_cell f2)).trans f2; clear hSw; go_simp; try with_reducible rfl)
          try simp only [List.getElem_toArray, List.getElem_cons_succ, List.getElem_cons_zero, Act.put, List.setIfInBounds_toArray, List.set_cons_zero, List.set_cons_succ]
          refine wpAnyH_take (i := 11) (oi := _) (v := ?v7m1_12) rfl (by kernel_rfl) (by kernel_rfl) (by kernel_rfl) (fun _ _ _ h => h) (Or.inl ⟨by rfl, ?hy7m1_12⟩) hHeld ?_
          case hy7m1_12 => (intro wS hSw; (try dsimp only at hSw); have cxn := (Below.cell hSw (World.lt_of_cell xn)).trans xn; have cf1 := (Below.cell hSw (World.lt_of_cell f1)).trans f1; have cf2 := (Below.cell hSw (World.lt_of_cell f2)).trans f2; clear hSw; go_simp; try with_reducible rfl)
          try simp only [List.getElem_toArray, List.getElem_cons_succ, List.getElem_cons_zero, Act.put, List.setIfInBounds_toArray, List.set_cons_zero, List.set_cons_succ]
          refine wpAnyH_take (i := 12) (oi := _) (v := ?v7m1_13) rfl (by kernel_rfl) (by kernel_rfl) (by kernel_rfl) (fun _ _ _ h => h) (Or.inl ⟨by rfl, ?hy7m1_13⟩) hHeld ?_
          case hy7m1_13 => (intro wS hSw; (try dsimp only at hSw); have cxn := (Below.cell hSw (World.lt_of_cell xn)).trans xn; have cf1 := (Below.cell hSw (World.lt_of_cell f1)).trans f1; have cf2 := (Below.cell hSw (World.lt_of_cell f2)).trans f2; clear hSw; go_simp; try with_reducible rfl)
          try simp only [List.getElem_toArray, List.getElem_cons_succ, List.getElem_cons_zero, Act.put, List.setIfInBounds_toArray, List.set_cons_zero, List.set_cons_succ]
          refine wpAnyH_take (i := 13) (oi := _) (v := ?v7m1_14) rfl (by kernel_rfl) (by kernel_rfl) (by kernel_rfl) (fun _ _ _ h => h) (Or.inl ⟨by rfl, ?hy7m1_14⟩) hHeld ?_
          case hy7m1_14 => (intro wS hSw; (try dsimp only at hSw); have cxn := (Below.cell hSw (World.lt_of_cell xn)).trans xn; have cf1 := (Below.cell hSw (World.lt_of_cell f1)).trans f1; have cf2 := (Below.cell hSw (World.lt_of_cell f2)).trans f2; clear hSw; go_simp; try with_reducible rfl)
          try simp only [List.getElem_toArray, List.getElem_cons_succ, List.getElem_cons_zero, Act.put, List.setIfInBounds_toArray, List.set_cons_zero, List.set_cons_succ]
          refine wpAnyH_take (i := 14) (oi := _) (v := ?v7m1_15) rfl (by kernel_rfl) (by kernel_rfl) (by kernel_rfl) (fun _ _ _ h => h) (Or.inl ⟨by rfl, ?hy7m1_15⟩) hHeld ?_
          case hy7m1_15 => (intro wS hSw; (try dsimp only at hSw); have cxn := (Below.cell hSw (World.lt_of_cell xn)).trans xn; have cf1 := (Below.cell hSw (World.lt_of_cell f1)).trans f1; have cf2 := (Below.cell hSw (World.lt_of_cell f2)).trans f2; clear hSw; go_simp; try with_reducible rfl)
          try simp only [List.getElem_toArray, List.getElem_cons_succ, List.getElem_cons_zero, Act.put, List.setIfInBounds_toArray, List.set_cons_zero, List.set_cons_succ]
          refine wpAnyH_take (i := 15) (oi := _) (v := ?v7m1_16) rfl (by kernel_rfl) (by kernel_rfl) (by kernel_rfl) (fun _ _ _ h => h) (Or.inl ⟨by rfl, ?hy7m1_16⟩) hHeld ?_
          case hy7m1_16 => (intro wS hSw; (try dsimp only at hSw); have cxn := (Below.cell hSw (World.lt_of_cell xn)).trans xn; have cf1 := (Below.cell hSw (World.lt_of_cell f1)).trans f1; have cf2 := (Below.cell hSw (World.lt_of_cell f2)).trans f2; clear hSw; go_simp; try with_reducible rfl)
          try simp only [List.getElem_toArray, List.getElem_cons_succ, List.getElem_cons_zero, Act.put, List.setIfInBounds_toArray, List.set_cons_zero, List.set_cons_succ]
          refine wpAnyH_take (i := 16) (oi := _) (v := ?v7m1_17) rfl (by kernel_rfl) (by kernel_rfl) (by kernel_rfl) (fun _ _ _ h => h) (Or.inl ⟨by rfl, ?hy7m1_17⟩) hHeld ?_
          case hy7m1_17 => (intro wS hSw; (try dsimp only at hSw); have cxn := (Below.cell hSw (World.lt_of_cell xn)).trans xn; have cf1 := (Below.cell hSw (World.lt_of_cell f1)).trans f1; have cf2 := (Below.cell hSw (World.lt_of_cell f2)).trans f2; clear hSw; go_simp; try with_reducible rfl)
          try simp only [List.getElem_toArray, List.getElem_cons_succ, List.getElem_cons_zero, Act.put, List.setIfInBounds_toArray, List.set_cons_zero, List.set_cons_succ]
          refine wpAnyH_take (i := 17) (oi := _) (v := ?v7m1_18) rfl (by kernel_rfl) (by kernel_rfl) (by kernel_rfl) (fun _ _ _ h => h) (Or.inl ⟨by rfl, ?hy7m1_18⟩) hHeld ?_
          case hy7m1_18 => (intro wS hSw; (try dsimp only at hSw); have cxn := (Below.cell hSw (World.lt_of_cell xn)).trans xn; have cf1 := (Below.cell hSw (World.lt_of_cell f1)).trans f1; have cf2 := (Below.cell hSw (World.lt_of_cell f2)).trans f2; clear hSw; go_simp; try with_reducible rfl)
          try simp only [List.getElem_toArray, List.getElem_cons_succ, List.getElem_cons_zero, Act.put, List.setIfInBounds_toArray, List.set_cons_zero, List.set_cons_succ]
          refine wpAnyH_take (i := 18) (oi := _) (v := ?v7m1_19) rfl (by kernel_rfl) (by kernel_rfl) (by kernel_rfl) (fun _ _ _ h => h) (Or.inl ⟨by rfl, ?hy7m1_19⟩) hHeld ?_
          case hy7m1_19 => (intro wS hSw; (try dsimp only at hSw); have cxn := (Below.cell hSw (World.lt_of_cell xn)).trans xn; have cf1 := (Below.cell hSw (World.lt_of_cell f1)).trans f1; have cf2 := (Below.cell hSw (World.lt_of_cell f2)).trans f2; clear hSw; go_simp; try with_reducible rfl)
          try simp only [List.getElem_toArray, List.getElem_cons_succ, List.getElem_cons_zero, Act.put, List.setIfInBounds_toArray, List.set_cons_zero, List.set_cons_succ]
          refine wpAnyH_take (i := 19) (oi := _) (v := ?v7m1_20) rfl (by kernel_rfl) (by kernel_rfl) (by kernel_rfl) (fun _ _ _ h => h) (Or.inl ⟨by rfl, ?hy7m1_20⟩) hHeld ?_
          case hy7m1_20 => (intro wS hSw; (try dsimp only at hSw); have cxn := (Below.cell hSw (World.lt_of_cell xn)).trans xn; have cf1 := (Below.cell hSw (World.lt_of_cell f1)).trans f1; have cf2 := (Below.cell hSw (World.lt_of_cell f2)).trans f2; clear hSw; go_simp; try with_reducible rfl)
          try simp only [List.getElem_toArray, List.getElem_cons_succ, List.getElem_cons_zero, Act.put, List.setIfInBounds_toArray, List.set_cons_zero, List.set_cons_succ]
          refine wpAnyH_take (i := 20) (oi := _) (v := ?v7m1_21) rfl (by kernel_rfl) (by kernel_rfl) (by kernel_rfl) (fun _ _ _ h => h) (Or.inl ⟨by rfl, ?hy7m1_21⟩) hHeld ?_
          case hy7m1_21 => (intro wS hSw; (try dsimp only at hSw); have cxn := (Below.cell hSw (World.lt_of_cell xn)).trans xn; have cf1 := (Below.cell hSw (World.lt_of_cell f1)).trans f1; have cf2 := (Below.cell hSw (World.lt_of_cell f2)).trans f2; clear hSw; go_simp; try with_reducible rfl)
          try simp only [List.getElem_toArray, List.getElem_cons_succ, List.getElem_cons_zero, Act.put, List.setIfInBounds_toArray, List.set_cons_zero, List.set_cons_succ]
          refine wpAnyH_take (i := 21) (oi := _) (v := ?v7m1_22) rfl (by kernel_rfl) (by kernel_rfl) (by kernel_rfl) (fun _ _ _ h => h) (Or.inl ⟨by rfl, ?hy7m1_22⟩) hHeld ?_
          case hy7m1_22 => (intro wS hSw; (try dsimp only at hSw); have cxn := (Below.cell hSw (World.lt_of_cell xn)).trans xn; have cf1 := (Below.cell hSw (World.lt_of_cell f1)).trans f1; have cf2 := (Below.cell hSw (World.lt_of_cell f2)).trans f2; clear hSw; go_simp; try with_reducible rfl)
          try simp only [List.getElem_toArray, List.getElem_cons_succ, List.getElem_cons_zero, Act.put, List.setIfInBounds_toArray, List.set_cons_zero, List.set_cons_succ]
          refine wpAnyH_take (i := 22) (oi := _) (v := ?v7m1_23) rfl (by kernel_rfl) (by kernel_rfl) (by kernel_rfl) (fun _ _ _ h => h) (Or.inl ⟨by rfl, ?hy7m1_23⟩) hHeld ?_
          case hy7m1_23 => (intro wS hSw; (try dsimp only at hSw); have cxn := (Below.cell hSw (World.lt_of_cell xn)).trans xn; have cf1 := (Below.cell hSw (World.lt_of_cell f1)).trans f1; have cf2 := (Below.cell hSw (World.lt_of_cell f2)).trans f2; clear hSw; go_simp; try with_reducible rfl)
          try simp only [List.getElem_toArray, List.getElem_cons_succ, List.getElem_cons_zero, Act.put, List.setIfInBounds_toArray, List.set_cons_zero, List.set_cons_succ]
          refine wpAnyH_take (i := 23) (oi := _) (v := ?v7m1_24) rfl (by kernel_rfl) (by kernel_rfl) (by kernel_rfl) (fun _ _ _ h => h) (Or.inl ⟨by rfl, ?hy7m1_24⟩) hHeld ?_
          case hy7m1_24 => (intro wS hSw; (try dsimp only at hSw); have cxn := (Below.cell hSw (World.lt_of_cell xn)).trans xn; have cf1 := (Below.cell hSw (World.lt_of_cell f1)).trans f1; have cf2 := (Below.cell hSw (World.lt_of_cell f2)).trans f2; clear hSw; go_simp; try with_reducible rfl)
          try simp only [List.getElem_toArray, List.getElem_cons_succ, List.getElem_cons_zero, Act.put, List.setIfInBounds_toArray, List.set_cons_zero, List.set_cons_succ]
          refine wpAnyH_take (i := 24) (oi := _) (v := ?v7m1_25) rfl (by kernel_rfl) (by kernel_rfl) (by kernel_rfl) (fun _ _ _ h => h) (Or.inl ⟨by rfl, ?hy7m1_25⟩) hHeld ?_
          case hy7m1_25 => (intro wS hSw; (try dsimp only at hSw); have cxn := (Below.cell hSw (World.lt_of_cell xn)).trans xn; have cf1 := (Below.cell hSw (World.lt_of_cell f1)).trans f1; have cf2 := (Below.cell hSw (World.lt_of_cell f2)).trans f2; clear hSw; go_simp; try with_reducible rfl)
          try simp only [List.getElem_toArray, List.getElem_cons_succ, List.getElem_cons_zero, Act.put, List.setIfInBounds_toArray, List.set_cons_zero, List.set_cons_succ]
          refine wpAnyH_take (i := 25) (oi := _) (v := ?v7m1_26) rfl (by kernel_rfl) (by kernel_rfl) (by kernel_rfl) (fun _ _ _ h => h) (Or.inl ⟨by rfl, ?hy7m1_26⟩) hHeld ?_
          case hy7m1_26 => (intro wS hSw; (try dsimp only at hSw); have cxn := (Below.cell hSw (World.lt_of_cell xn)).trans xn; have cf1 := (Below.cell hSw (World.lt_of_cell f1)).trans f1; have cf2 := (Below.cell hSw (World.lt_of_cell f2)).trans f2; clear hSw; go_simp; try with_reducible rfl)
          try simp only [List.getElem_toArray, List.getElem_cons_succ, List.getElem_cons_zero, Act.put, List.setIfInBounds_toArray, List.set_cons_zero, List.set_cons_succ]
          refine wpAnyH_take (i := 26) (oi := _) (v := ?v7m1_27) rfl (by kernel_rfl) (by kernel_rfl) (by kernel_rfl) (fun _ _ _ h => h) (Or.inl ⟨by rfl, ?hy7m1_27⟩) hHeld ?_
          case hy7m1_27 => (intro wS hSw; (try dsimp only at hSw); have cxn := (Below.cell hSw (World.lt_of_cell xn)).trans xn; have cf1 := (Below.cell hSw (World.lt_of_cell f1)).trans f1; have cf2 := (Below.cell hSw (World.lt_of_cell f2)).trans f2; clear hSw; go_simp; try with_reducible rfl)
          try simp only [List.getElem_toArray, List.getElem_cons_succ, List.getElem_cons_zero, Act.put, List.setIfInBounds_toArray, List.set_cons_zero, List.set_cons_succ]
          refine wpAnyH_take (i := 27) (oi := _) (v := ?v7m1_28) rfl (by kernel_rfl) (by kernel_rfl) (by kernel_rfl) (fun _ _ _ h => h) (Or.inl ⟨by rfl, ?hy7m1_28⟩) hHeld ?_
          case hy7m1_28 => (intro wS hSw; (try dsimp only at hSw); have cxn := (Below.cell hSw (World.lt_of_cell xn)).trans xn; have cf1 := (Below.cell hSw (World.lt_of_cell f1)).trans f1; have cf2 := (Below.cell hSw (World.lt_of_cell f2)).trans f2; clear hSw; go_simp; try with_reducible rfl)
          try simp only [List.getElem_toArray, List.getElem_cons_succ, List.getElem_cons_zero, Act.put, List.setIfInBounds_toArray, List.set_cons_zero, List.set_cons_succ]
          refine wpAnyH_ready (rs := [28]) (by kernel_rfl) (by simp) ?_
          refine (AllReadyH.cons (o := _) rfl (fun K hK => ?_) AllReadyH.nil)
          go_simp
          have b8 := below_alloc' wr (.cells #[.string (xName g.name), .int .i64 e.src, .int .i64 e.to, .float .f64 4636666922610458624, .string g.name, .int .i64 e.to, .int .i64 e.src, .float .f64 13837309855095848960] 42)
          have u8 := (hWr.trans (b8.mono hWr.size)).drew
          have hY : YF oEdge (wr.alloc (.cells #[.string (xName g.name), .int .i64 e.src, .int .i64 e.to, .float .f64 4636666922610458624, .string g.name, .int .i64 e.to, .int .i64 e.src, .float .f64 13837309855095848960] 42)).drew (some ⟨wr.heap.size, 0, none⟩) (extra g.name e) noF := YF.flat (extra_lit wr HX.out)
          refine hK.out _ _ (u8) (fun hHeld29 => ?_)
          clear hK K hHeld
          try simp only [List.getElem_toArray, List.getElem_cons_succ, List.getElem_cons_zero, Act.put, List.setIfInBounds_toArray, List.set_cons_zero, List.set_cons_succ]
          refine wpAnyH_ready (rs := [29]) (by kernel_rfl) (by simp) ?_
          refine (AllReadyH.cons (o := _) rfl (fun K hK => ?_) AllReadyH.nil)
          refine step_append_f (k := oEdge) elEdge rfl _ _ rfl (A := some ⟨wr.heap.size, 0, none⟩) (c := 2) (v := u5) (xs := moreTo g.name l k) (ys := extra g.name e) (F := F) (G := noF) (by exact (HO.out.below b8).keep (fun _ _ => rfl)) (by exact hY) (fun _ _ h => h) rfl rfl HAP.out ?_
          intro v9 w9 hg9
          obtain ⟨⟨F9, own9, hF9⟩, hgr9⟩ := hg9
          have u9 := u8.grown hgr9 u8.size (fun j hj => HF.out j (HO.out.row hj))
          refine hK.out _ _ (u9) (fun hHeld30 => ?_)
          clear hK K hHeld29
          try simp only [List.getElem_toArray, List.getElem_cons_succ, List.getElem_cons_zero, Act.put, List.setIfInBounds_toArray, List.set_cons_zero, List.set_cons_succ]
          refine wpAnyH_take (i := 30) (oi := _) (v := ?v7m1_31) rfl (by kernel_rfl) (by kernel_rfl) (by kernel_rfl) (fun _ _ _ h => h) (Or.inl ⟨by rfl, ?hy7m1_31⟩) hHeld30 ?_
          case hy7m1_31 => (intro wS hSw; (try dsimp only at hSw); have cxn := (Below.cell hSw (World.lt_of_cell xn)).trans xn; have cf1 := (Below.cell hSw (World.lt_of_cell f1)).trans f1; have cf2 := (Below.cell hSw (World.lt_of_cell f2)).trans f2; clear hSw; go_simp; try with_reducible rfl)
          try simp only [List.getElem_toArray, List.getElem_cons_succ, List.getElem_cons_zero, Act.put, List.setIfInBounds_toArray, List.set_cons_zero, List.set_cons_succ]
          refine wpAnyH_done (by kernel_rfl) ?_ _
          go_wp2_with fail
          exact ⟨⟨k + 1, F9, by omega, by go_num, by rw [HMS.out]; exact own9, fun b hb => by (rcases hF9 b hb with h | h | h; exact HF.out b h; exact h.elim; exact Nat.le_trans u8.size h), u9⟩, by simp [intOf]; omega⟩

        · obtain rfl : k = l.length := by omega
          have hml := moreTo_len g.name l l.length
          have hMW : ∀ x ∈ moreTo g.name l l.length, x.wf := by
            intro x hx
            unfold moreTo at hx
            rcases List.mem_append.1 hx with h | h
            · exact HWF.out x h
            · obtain ⟨e, he, hx⟩ := List.mem_flatMap.1 h
              exact extra_wf HNM1.out (HWF.out e (List.mem_of_mem_take he)) x hx
          have hsame := edgesD_same (l := l) (l' := moreTo g.name l l.length) (nm := g.name) (fun i t => ofW_more HWF.out l.length i t) g.blocks
          obtain ⟨hol, -, -, -⟩ := order_facts (l := l) (nm := g.name) HLD.out hpos
          obtain ⟨more, hmore⟩ : ∃ more, more = moreTo g.name l l.length := ⟨_, rfl⟩
          rw [← hmore] at hml hMW hsame ho
          obtain ⟨AM, cM, rfl, lM, mM, CM⟩ := ho.read
          have hml2 := Nat.le_trans lM mM
          have HMW := Lib.hid hMW
          have HSAME := Lib.hid hsame
          have HOL := Lib.hid hol
          have t9 := t2.trans (hWr.mono t2.size)
          have bd := (Below.refl wr.heap.size wr).drew
          have td := t9.trans (bd.mono t9.size)
          have CMd : kEdge.C wr.drew AM more := Kd.C_mono bd CM
          have r9d := (HR2.out.below hWr).below bd
          clear hmore hml hMW hsame hol ho hF CM xn hcat lM mM hlt
          go_upto_region 8 with fail
          refine wp_region_held_drew (S := (fun w' => Row w' w.heap.size 24 (graphCells (.slice A g.blocks.length c) g))) (by kernel_rfl) (r9d) (fun hHeld => ?_)
          refine wpAnyH_take (i := 0) (oi := _) (v := ?v8m2_1) rfl (by kernel_rfl) (by kernel_rfl) (by kernel_rfl) (fun _ _ _ h => h) (Or.inl ⟨by rfl, ?hy8m2_1⟩) hHeld ?_
          case hy8m2_1 => (intro wS hSw; (try dsimp only at hSw); obtain ⟨s0, s1, s2, s3⟩ := Row.graph hSw; go_simp; try with_reducible rfl)
          try simp only [List.getElem_toArray, List.getElem_cons_succ, List.getElem_cons_zero, Act.put, List.setIfInBounds_toArray, List.set_cons_zero, List.set_cons_succ]
          refine wpAnyH_take (i := 1) (oi := _) (v := ?v8m2_2) rfl (by kernel_rfl) (by kernel_rfl) (by kernel_rfl) (fun _ _ _ h => h) (Or.inl ⟨by rfl, ?hy8m2_2⟩) hHeld ?_
          case hy8m2_2 => (intro wS hSw; (try dsimp only at hSw); obtain ⟨s0, s1, s2, s3⟩ := Row.graph hSw; go_simp; try with_reducible rfl)
          try simp only [List.getElem_toArray, List.getElem_cons_succ, List.getElem_cons_zero, Act.put, List.setIfInBounds_toArray, List.set_cons_zero, List.set_cons_succ]
          refine wpAnyH_take (i := 3) (oi := _) (v := ?v8m2_3) rfl (by kernel_rfl) (by kernel_rfl) (by kernel_rfl) (fun _ _ _ h => h) (Or.inl ⟨by rfl, ?hy8m2_3⟩) hHeld ?_
          case hy8m2_3 => (intro wS hSw; (try dsimp only at hSw); obtain ⟨s0, s1, s2, s3⟩ := Row.graph hSw; go_simp; try with_reducible rfl)
          try simp only [List.getElem_toArray, List.getElem_cons_succ, List.getElem_cons_zero, Act.put, List.setIfInBounds_toArray, List.set_cons_zero, List.set_cons_succ]
          refine wpAnyH_take (i := 4) (oi := _) (v := ?v8m2_4) rfl (by kernel_rfl) (by kernel_rfl) (by kernel_rfl) (fun _ _ _ h => h) (Or.inl ⟨by rfl, ?hy8m2_4⟩) hHeld ?_
          case hy8m2_4 => (intro wS hSw; (try dsimp only at hSw); obtain ⟨s0, s1, s2, s3⟩ := Row.graph hSw; go_simp; try with_reducible rfl)
          try simp only [List.getElem_toArray, List.getElem_cons_succ, List.getElem_cons_zero, Act.put, List.setIfInBounds_toArray, List.set_cons_zero, List.set_cons_succ]
          refine wpAnyH_ready (rs := [2]) (by kernel_rfl) (by simp) ?_
          refine (AllReadyH.cons (o := _) rfl (fun K hK => ?_) AllReadyH.nil)
          go_simp
          refine (blocks_calls g.name g.keep g.leaf _ c g.blocks LA lc l _ (Kd.C_mono td hC) (Kd.C_mono td hL) HWF.out hl2 (by omega) (edgesD_in HLD.out)).mono ?_
          rintro e v2 ⟨v2v, F2, rfl, own2, hF2, hv2⟩
          obtain ⟨A2, c2, rfl, -, -, C2, -⟩ := own2.readN
          have tv2 := td.trans (hv2.mono td.size)
          have CM2 := Kd.C_mono hv2 CMd
          have CI2 := C2.ints
          have HCI2 := Lib.hid CI2
          clear own2 C2 CI2
          go_wp2_with fail
          refine hK.out _ _ ((hHeld).below hv2) (fun hHeld5 => ?_)
          clear hK K hHeld
          try simp only [List.getElem_toArray, List.getElem_cons_succ, List.getElem_cons_zero, Act.put, List.setIfInBounds_toArray, List.set_cons_zero, List.set_cons_succ]
          refine wpAnyH_ready (rs := [5]) (by kernel_rfl) (by simp) ?_
          refine (AllReadyH.cons (o := _) rfl (fun K hK => ?_) AllReadyH.nil)
          go_simp
          refine (blocks_calls g.name g.keep g.leaf _ c g.blocks AM cM more _ (Kd.C_mono tv2 hC) CM2 HMW.out hml2 (by omega) (edgesD_in HLD.out)).mono ?_
          rintro e v5 ⟨v5v, F5, rfl, own5, hF5, hv5⟩
          rw [HSAME.out] at own5
          obtain ⟨A5, c5, rfl, -, -, C5, -⟩ := own5.readN
          have tv5 := tv2.trans (hv5.mono tv2.size)
          have CI5 := C5.ints
          have HCI5 := Lib.hid CI5
          clear own5 C5 CI5
          go_wp2_with fail
          refine hK.out _ _ ((hHeld5).below hv5) (fun hHeld6 => ?_)
          clear hK K hHeld5
          try simp only [List.getElem_toArray, List.getElem_cons_succ, List.getElem_cons_zero, Act.put, List.setIfInBounds_toArray, List.set_cons_zero, List.set_cons_succ]
          refine wpAnyH_ready (rs := [6]) (by kernel_rfl) (by simp) ?_
          refine (AllReadyH.cons (o := _) rfl (fun K hK => ?_) AllReadyH.nil)
          go_simp
          have hil := ints_calls A2 A5 c2 c5 (toI (blocksD g.blocks.length (edgesD l g.name g.blocks))) (toI (blocksD g.blocks.length (edgesD l g.name g.blocks))) v5 (HCI2.out.below hv5) HCI5.out (by rw [toI_len, HOL.out]; exact hlm)
          rw [toI_len] at hil
          refine hil.mono ?_
          rw [show (toI (blocksD g.blocks.length (edgesD l g.name g.blocks)) == toI (blocksD g.blocks.length (edgesD l g.name g.blocks))) = true from beq_self_eq_true _]
          rintro e v6 ⟨rfl, n6, rfl⟩
          have tv6 := Below.drewN tv5 n6
          go_wp2_with fail
          refine hK.out _ _ (Row.keep (hHeld6) rfl) (fun hHeld7 => ?_)
          clear hK K hHeld6
          try simp only [List.getElem_toArray, List.getElem_cons_succ, List.getElem_cons_zero, Act.put, List.setIfInBounds_toArray, List.set_cons_zero, List.set_cons_succ]
          refine wpAnyH_take (i := 7) (oi := _) (v := ?v8m2_8) rfl (by kernel_rfl) (by kernel_rfl) (by kernel_rfl) (fun _ _ _ h => h) (Or.inl ⟨by rfl, ?hy8m2_8⟩) hHeld7 ?_
          case hy8m2_8 => (intro wS hSw; (try dsimp only at hSw); obtain ⟨s0, s1, s2, s3⟩ := Row.graph hSw; go_simp; try with_reducible rfl)
          try simp only [List.getElem_toArray, List.getElem_cons_succ, List.getElem_cons_zero, Act.put, List.setIfInBounds_toArray, List.set_cons_zero, List.set_cons_succ]
          refine wpAnyH_done (by kernel_rfl) ?_ _
          go_wp2_with fail
          go_ret
          exact ⟨rfl, tv6⟩

    · have z2 : decide (60 < (l.length : Int)) = true := decide_eq_true (by omega)
      have z2' : 60 < l.length := by omega
      clear h60
      go_wp2_with fail
      refine (awake25_calls _).mono ?_
      rintro e w4 ⟨rfl, hb4⟩
      go_wp2_with fail
      go_ret
      exact ⟨rfl, t2.trans (hb4.mono t2.size)⟩
end Go.Proofs.Ytokkngfgppikkab
