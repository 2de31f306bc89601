/- FoldRight returns true: for every graph, right and small, what fold.Graph answers is right, no block of it is longer, one that is Keep stays, and folding once more changes nothing. Printed by genVi.py of this repository. -/
import Derived.Test.YtokkngfgppikkabVh
namespace Go.Proofs.Ytokkngfgppikkab
set_option linter.unusedVariables false
set_option linter.unusedSimpArgs false
open Go.RowKit

/-- What fold.Graph answers. -/
def FoldR (kp : Bool) (bs L : List Block) : Prop := if kp = true then L = bs else ∃ ins, IsAt bs ins ∧ L = foldBs bs ins
theorem foldgraph_calls (nm : ByteArray) (kp lf : Bool) (A : Option Addr) (c : Nat) (bs : List Block) (w : World) (hC : kBlock.C w A bs) (hl : bs.length ≤ 1000) (hok : BsOk bs) (h300 : ∀ b ∈ bs, b.ops.length ≤ 300) (hpos : 0 < bs.length) : Calls Try.prog 25 #[.agg #[.string nm, .bool kp, .bool lf, .slice A bs.length c]] w fun e w' =>
    ∃ L, FoldR kp bs L ∧ CopiedG nm kp lf L w e w' := by
  cases kp with
  | true =>
    refine (foldgraph_true nm lf A c bs w hC hl hok h300 hpos).mono ?_
    intro e w' h
    exact ⟨bs, rfl, h⟩
  | false =>
    refine (foldgraph_false nm lf A c bs w hC hl hok h300 hpos).mono ?_
    rintro e w' ⟨ins, h1, h2⟩
    exact ⟨_, (by unfold FoldR; rw [if_neg (by decide)]; exact ⟨ins, h1, rfl⟩), h2⟩
theorem FoldR.len {kp : Bool} {bs L : List Block} (h : FoldR kp bs L) : L.length = bs.length := by
  unfold FoldR at h
  split at h
  · rw [h]
  · obtain ⟨ins, h1, rfl⟩ := h
    exact foldBs_len h1.inv.len
theorem FoldR.right {kp : Bool} {bs L : List Block} {f d : Int} (hr : blocksRight bs f d = true) (h : FoldR kp bs L) : blocksRight L f d = true := by
  unfold FoldR at h
  split at h
  · rw [h]; exact hr
  · obtain ⟨ins, h1, rfl⟩ := h
    exact foldBs_right h1.inv.len h1.inv.good hr
theorem FoldR.ops {kp : Bool} {bs L : List Block} {n : Nat} (hb : ∀ b ∈ bs, b.ops.length ≤ n) (h : FoldR kp bs L) : ∀ b ∈ L, b.ops.length ≤ n := by
  unfold FoldR at h
  split at h
  · rw [h]; exact hb
  · obtain ⟨ins, h1, rfl⟩ := h
    exact foldBs_ops hb
theorem FoldR.at {kp : Bool} {bs L : List Block} (h : FoldR kp bs L) {i : Nat} {b l : Block} (hb : bs[i]? = some b) (hl : L[i]? = some l) : l.ops.length ≤ b.ops.length := by
  unfold FoldR at h
  split at h
  · rw [h, hb] at hl
    injection hl with hl
    rw [hl]
    exact Nat.le_refl _
  · obtain ⟨ins, h1, rfl⟩ := h
    obtain ⟨b', k, h2, h3, rfl⟩ := foldBs_from hl
    rw [hb] at h2
    injection h2 with h2
    subst h2
    exact foldB_ops b k
theorem FoldR.twice {kp : Bool} {bs L M : List Block} (hok : BsOk bs) (h : FoldR kp bs L) (h2 : FoldR kp L M) : M = L := by
  unfold FoldR at h h2
  split at h
  · rename_i hk
    rw [if_pos hk] at h2
    exact h2
  · rename_i hk
    rw [if_neg hk] at h2
    obtain ⟨ins, h1, rfl⟩ := h
    obtain ⟨ys, h3, rfl⟩ := h2
    rw [fold_at hok h1 h3]
    exact foldBs_twice hok h1.inv.len h1.inv.good

set_option maxHeartbeats 8000000 in
set_option maxRecDepth 100000 in
theorem foldRight_law (w : World) (g : Graph) (wf : g.wf) (A : Option Addr) (c : Nat) (hlc : g.blocks.length ≤ c) (hcm : c ≤ maxLen) (hC : kBlock.C w A g.blocks) : Calls Try.prog 9 #[.agg #[.string g.name, .bool g.keep, .bool g.leaf, .slice A g.blocks.length c]] w fun e w' => e = .returned (.bool true) ∧ Below w.heap.size w w' := by
  clear wf
  have hlm := Nat.le_trans hlc hcm
  have hlm' : g.blocks.length ≤ 9223372036854775807 := hlm
  have b0 := below_alloc' w (.cells #[.string g.name, .bool g.keep, .bool g.leaf, .slice A g.blocks.length c] 24)
  have r0 : Row (w.alloc (.cells #[.string g.name, .bool g.keep, .bool g.leaf, .slice A g.blocks.length c] 24)) w.heap.size 24 (graphCells (.slice A g.blocks.length c) g) := Row.new w _ _
  cases hf : fine21B g.blocks with
  | false =>
    have HF := Lib.hid hf
    clear hf
    go_enter Try.func9, Try.ntmps9
    go_upto_region 1 with fail
    generalize w.alloc (.cells #[.string g.name, .bool g.keep, .bool g.leaf, .slice A g.blocks.length c] 24) = W at *
    go_wp2_with fail
    refine (awake21_calls _).mono ?_
    rintro e w1 ⟨rfl, hb1⟩
    have r1 := r0.below hb1
    obtain ⟨x0, x1, x2, x3⟩ := r1.graph
    have t1 := b0.trans (hb1.mono b0.size)
    go_wp2_with fail
    refine (fine21_calls _ _ _ _ _ _ _ (Kd.C_mono t1 hC) hlm).mono ?_
    rw [HF.out]
    rintro e w2 ⟨rfl, hb2⟩
    have t2 := t1.trans (hb2.mono t1.size)
    have r2 := r1.below hb2
    clear x0 x1 x2 x3
    obtain ⟨x0, x1, x2, x3⟩ := r2.graph
    go_wp2_with fail
    refine (awake21_calls _).mono ?_
    rintro e w3 ⟨rfl, hb3⟩
    go_wp2_with fail
    go_ret
    exact ⟨rfl, t2.trans (hb3.mono t2.size)⟩
  | true =>
    have HF := Lib.hid hf
    obtain ⟨hfw, h60, hright⟩ := fine21_parts hf
    have hok : BsOk g.blocks := ⟨1000, 1000, hright⟩
    have hpos := (blocksRight_iff.1 hright).2
    have h300 := (blocksFew_parts hfw).2
    have hl : g.blocks.length ≤ 1000 := by omega
    have HFW := Lib.hid hfw
    have HR := Lib.hid hright
    have HOK := Lib.hid hok
    have H3 := Lib.hid h300
    clear hf hfw hright hok h300
    go_enter Try.func9, Try.ntmps9
    go_upto_region 1 with fail
    generalize w.alloc (.cells #[.string g.name, .bool g.keep, .bool g.leaf, .slice A g.blocks.length c] 24) = W at *
    go_wp2_with fail
    refine (awake21_calls _).mono ?_
    rintro e w1 ⟨rfl, hb1⟩
    have r1 := r0.below hb1
    obtain ⟨x0, x1, x2, x3⟩ := r1.graph
    have t1 := b0.trans (hb1.mono b0.size)
    go_wp2_with fail
    refine (fine21_calls _ _ _ _ _ _ _ (Kd.C_mono t1 hC) hlm).mono ?_
    rw [HF.out]
    rintro e w2 ⟨rfl, hb2⟩
    have t2 := t1.trans (hb2.mono t1.size)
    have r2 := r1.below hb2
    clear x0 x1 x2 x3
    obtain ⟨x0, x1, x2, x3⟩ := r2.graph
    have C2 := Kd.C_mono t2 hC
    clear hb1 hb2 t1 r0 r1 b0 hC
    go_wp2_with fail
    refine (foldgraph_calls g.name g.keep g.leaf _ c g.blocks _ C2 hl HOK.out H3.out hpos).mono ?_
    rintro e w4 ⟨L, hD, A4, c4, F4, rfl, own4, hF4, hb4⟩
    have hll := hD.len
    have hr4 := hD.right HR.out
    have H34 := Lib.hid (hD.ops H3.out)
    have HOK4 : Hid (BsOk L) := Lib.hid ⟨1000, 1000, hr4⟩
    have HR4 := Lib.hid hr4
    have hpos4 := (blocksRight_iff.1 hr4).2
    have hLl : L.length ≤ 1000 := by omega
    have hLm : L.length ≤ maxLen := by omega
    have HD := Lib.hid hD
    have HLL := Lib.hid hll
    have bq := below_alloc' w4 (.cells #[.string g.name, .bool g.keep, .bool g.leaf, .slice A4 L.length c4] 24)
    have r5 : Row (w4.alloc (.cells #[.string g.name, .bool g.keep, .bool g.leaf, .slice A4 L.length c4] 24)) w4.heap.size 24 (graphCells (.slice A4 L.length c4) ⟨g.name, g.keep, g.leaf, L⟩) := Row.new w4 _ _
    have C4' := own_bsF own4
    clear hD hll hr4 own4 hF4 x0 x1 x2 x3
    go_upto_region 4 with fail
    generalize w4.alloc (.cells #[.string g.name, .bool g.keep, .bool g.leaf, .slice A4 L.length c4] 24) = w5 at *
    have bd5 := hb4.trans (bq.mono hb4.size)
    have C4 := Kd.C_mono bq C4'
    have C2b := Kd.C_mono bd5 C2
    generalize w4.heap.size = GH at *
    clear hb4 bq C4'
    obtain ⟨y0, y1, y2, y3⟩ := r5.graph
    obtain ⟨x0, x1, x2, x3⟩ := (r2.below bd5).graph
    have zl : ((L.length : Int) != (g.blocks.length : Int)) = false := by rw [HLL.out]; simp
    have zl' : (L.length != g.blocks.length) = false := by rw [HLL.out]; simp
    go_wp2_with fail
    refine (right_calls _ _ _ _ _ _ _ _ _ C4 hLm).mono ?_
    rw [HR4.out]
    rintro e v1 ⟨rfl, hv1⟩
    clear x0 x1 x2 x3 y0 y1 y2 y3
    obtain ⟨y0, y1, y2, y3⟩ := (r5.below hv1).graph
    obtain ⟨x0, x1, x2, x3⟩ := (r2.below (bd5.trans (hv1.mono bd5.size))).graph
    have hcont : True := trivial
    rcases Bool.eq_false_or_eq_true g.keep with hke | hke
    · rw [hke] at x1
      have hkp : L = g.blocks := by
        have := HD.out
        rw [hke] at this
        exact this
      have CX := C4
      rw [hkp] at CX
      clear hkp
      go_wp2_with fail
      rw [HLL.out]
      refine (same_calls g.name true g.leaf _ _ c c4 g.blocks v1 (Kd.C_mono (bd5.trans (hv1.mono bd5.size)) C2) (Kd.C_mono hv1 CX) hlm).mono ?_
      rintro e v2 ⟨rfl, hv2⟩
      have hv12 := hv1.trans (hv2.mono hv1.size)
      clear x0 x1 x2 x3 y0 y1 y2 y3 CX
      obtain ⟨y0, y1, y2, y3⟩ := (r5.below hv12).graph
      obtain ⟨x0, x1, x2, x3⟩ := (r2.below (bd5.trans (hv12.mono bd5.size))).graph
      go_wp2_with fail
      go_loopw [4] (fun i wr => ∃ k : Nat, k ≤ L.length ∧ i = .int .i64 (k : Int) ∧ Below w5.heap.size w5 wr) (fun i _ => L.length - (intOf i).toNat)
      case atStart => exact ⟨0, Nat.zero_le _, rfl, hv12⟩
      case round =>
        obtain ⟨k, hk, rfl, hbr⟩ := hrel
        obtain ⟨y0, y1, y2, y3⟩ := (r5.below hbr).graph
        obtain ⟨x0, x1, x2, x3⟩ := (r2.below (bd5.trans (hbr.mono bd5.size))).graph
        by_cases hlt : k < L.length
        · have hlt2 : k < g.blocks.length := by have := HLL.out; omega
          obtain ⟨l, hlk⟩ := get_some L k hlt
          obtain ⟨b, hbk⟩ := get_some g.blocks k hlt2
          have hle := HD.out.at hbk hlk
          have hbl := H3.out b (List.mem_of_getElem? hbk)
          obtain ⟨al, Al, cl, rfl, i0, -, -, -, -, -, -, -, -, -, -, -, -, -, -, -⟩ := Block_at (Kd.C_mono hbr C4) hlk
          obtain ⟨ag, Ag, cg, rfl, j0, -, -, -, -, -, -, -, -, -, -, -, -, -, -, -⟩ := Block_at (Kd.C_mono hbr C2b) hbk
          have z1 : decide ((b.ops.length : Int) < (l.ops.length : Int)) = false := decide_eq_false (by omega)
          have z1' : decide (b.ops.length < l.ops.length) = false := decide_eq_false (by omega)
          clear hlk hbk
          go_wp2_with fail
          go_quiet (fail)
          go_wp2_with fail
          exact ⟨⟨k + 1, by omega, by go_num, Below.drewN hbr _⟩, by simp [intOf]; omega⟩
        · obtain rfl : k = L.length := by omega
          go_upto_region 11 with fail
          clear x0 x1 x2 x3 y0 y1 y2 y3
          refine wp_region_held_drew (S := (fun w' => (w'.cell? ⟨w.heap.size, 0, none⟩ = some (.string g.name) ∧ w'.cell? ⟨w.heap.size, 1, none⟩ = some (.bool g.keep) ∧ w'.cell? ⟨w.heap.size, 2, none⟩ = some (.bool g.leaf) ∧ w'.cell? ⟨w.heap.size, 3, none⟩ = some (.slice A g.blocks.length c)) ∧ w'.cell? ⟨GH, 0, none⟩ = some (.string g.name) ∧ w'.cell? ⟨GH, 1, none⟩ = some (.bool g.keep) ∧ w'.cell? ⟨GH, 2, none⟩ = some (.bool g.leaf) ∧ w'.cell? ⟨GH, 3, none⟩ = some (.slice A4 L.length c4))) (by kernel_rfl) (⟨(r2.below (bd5.trans (hbr.mono bd5.size))).graph, (r5.below hbr).graph⟩) (fun hHeld => ?_)
          refine wpAnyH_take (i := 0) (oi := _) (v := ?v11n1_0) rfl (by kernel_rfl) (by kernel_rfl) (by kernel_rfl) (fun _ _ _ h => h) (Or.inl ⟨by rfl, ?hy11n1_0⟩) hHeld ?_
          case hy11n1_0 => (intro wS hSw; (try dsimp only at hSw); obtain ⟨⟨s0, s1, s2, s3⟩, v0, v1, v2, v3⟩ := hSw; go_simp; try with_reducible rfl)
          try simp only [List.getElem_toArray, List.getElem_cons_succ, List.getElem_cons_zero, Act.put, List.setIfInBounds_toArray, List.set_cons_zero, List.set_cons_succ]
          refine wpAnyH_take (i := 2) (oi := _) (v := ?v11n1_2) rfl (by kernel_rfl) (by kernel_rfl) (by kernel_rfl) (fun _ _ _ h => h) (Or.inl ⟨by rfl, ?hy11n1_2⟩) hHeld ?_
          case hy11n1_2 => (intro wS hSw; (try dsimp only at hSw); obtain ⟨⟨s0, s1, s2, s3⟩, v0, v1, v2, v3⟩ := hSw; go_simp; try with_reducible rfl)
          try simp only [List.getElem_toArray, List.getElem_cons_succ, List.getElem_cons_zero, Act.put, List.setIfInBounds_toArray, List.set_cons_zero, List.set_cons_succ]
          refine wpAnyH_ready (rs := [1]) (by kernel_rfl) (by simp) ?_
          refine AllReadyH.cons (o := _) rfl (fun K hK => ?_) AllReadyH.nil
          go_simp
          refine (foldgraph_calls g.name _ g.leaf _ _ L _ (Kd.C_mono (hbr.drew) C4) hLl HOK4.out H34.out hpos4).mono ?_
          rintro e y1 ⟨L2, hD2, A6, c6, F6, rfl, own6, -, hy1⟩
          have hL2 := FoldR.twice HOK.out HD.out (by rw [hke]; exact hD2)
          subst hL2
          have by1 := hbr.trans (((Below.refl wr.heap.size wr).drew.trans hy1).mono hbr.size)
          have C6 := own_bsF own6
          clear own6 hD2
          go_wp2_with fail
          refine hK.out _ _ (⟨(r2.below (bd5.trans (by1.mono bd5.size))).graph, (r5.below by1).graph⟩) (fun hHeld1 => ?_)
          clear hK K hHeld
          try simp only [List.getElem_toArray, List.getElem_cons_succ, List.getElem_cons_zero, Act.put, List.setIfInBounds_toArray, List.set_cons_zero, List.set_cons_succ]
          refine wpAnyH_ready (rs := [3]) (by kernel_rfl) (by simp) ?_
          refine AllReadyH.cons (o := _) rfl (fun K hK => ?_) AllReadyH.nil
          go_simp
          refine (same_calls _ _ _ _ _ _ _ _ _ C6 (Kd.C_mono by1 C4) hLm).mono ?_
          rintro e y3 ⟨rfl, hy3⟩
          have by3 := by1.trans (hy3.mono by1.size)
          go_wp2_with fail
          refine hK.out _ _ (⟨(r2.below (bd5.trans (by3.mono bd5.size))).graph, (r5.below by3).graph⟩) (fun hHeld3 => ?_)
          clear hK K hHeld1
          try simp only [List.getElem_toArray, List.getElem_cons_succ, List.getElem_cons_zero, Act.put, List.setIfInBounds_toArray, List.set_cons_zero, List.set_cons_succ]
          refine wpAnyH_take (i := 4) (oi := _) (v := ?v11n1_4) rfl (by kernel_rfl) (by kernel_rfl) (by kernel_rfl) (fun _ _ _ h => h) (Or.inl ⟨by rfl, ?hy11n1_4⟩) hHeld3 ?_
          case hy11n1_4 => (intro wS hSw; (try dsimp only at hSw); obtain ⟨⟨s0, s1, s2, s3⟩, v0, v1, v2, v3⟩ := hSw; go_simp; try with_reducible rfl)
          try simp only [List.getElem_toArray, List.getElem_cons_succ, List.getElem_cons_zero, Act.put, List.setIfInBounds_toArray, List.set_cons_zero, List.set_cons_succ]
          refine wpAnyH_take (i := 5) (oi := _) (v := ?v11n1_5) rfl (by kernel_rfl) (by kernel_rfl) (by kernel_rfl) (fun _ _ _ h => h) (Or.inl ⟨by rfl, ?hy11n1_5⟩) hHeld3 ?_
          case hy11n1_5 => (intro wS hSw; (try dsimp only at hSw); obtain ⟨⟨s0, s1, s2, s3⟩, v0, v1, v2, v3⟩ := hSw; go_simp; try with_reducible rfl)
          try simp only [List.getElem_toArray, List.getElem_cons_succ, List.getElem_cons_zero, Act.put, List.setIfInBounds_toArray, List.set_cons_zero, List.set_cons_succ]
          refine wpAnyH_take (i := 6) (oi := _) (v := ?v11n1_6) rfl (by kernel_rfl) (by kernel_rfl) (by kernel_rfl) (fun _ _ _ h => h) (Or.inl ⟨by rfl, ?hy11n1_6⟩) hHeld3 ?_
          case hy11n1_6 => (intro wS hSw; (try dsimp only at hSw); obtain ⟨⟨s0, s1, s2, s3⟩, v0, v1, v2, v3⟩ := hSw; go_simp; try with_reducible rfl)
          try simp only [List.getElem_toArray, List.getElem_cons_succ, List.getElem_cons_zero, Act.put, List.setIfInBounds_toArray, List.set_cons_zero, List.set_cons_succ]
          refine wpAnyH_take (i := 7) (oi := _) (v := ?v11n1_7) rfl (by kernel_rfl) (by kernel_rfl) (by kernel_rfl) (fun _ _ _ h => h) (Or.inl ⟨by rfl, ?hy11n1_7⟩) hHeld3 ?_
          case hy11n1_7 => (intro wS hSw; (try dsimp only at hSw); obtain ⟨⟨s0, s1, s2, s3⟩, v0, v1, v2, v3⟩ := hSw; go_simp; try with_reducible rfl)
          try simp only [List.getElem_toArray, List.getElem_cons_succ, List.getElem_cons_zero, Act.put, List.setIfInBounds_toArray, List.set_cons_zero, List.set_cons_succ]
          refine wpAnyH_take (i := 8) (oi := _) (v := ?v11n1_8) rfl (by kernel_rfl) (by kernel_rfl) (by kernel_rfl) (fun _ _ _ h => h) (Or.inl ⟨by rfl, ?hy11n1_8⟩) hHeld3 ?_
          case hy11n1_8 => (intro wS hSw; (try dsimp only at hSw); obtain ⟨⟨s0, s1, s2, s3⟩, v0, v1, v2, v3⟩ := hSw; go_simp; try with_reducible rfl)
          try simp only [List.getElem_toArray, List.getElem_cons_succ, List.getElem_cons_zero, Act.put, List.setIfInBounds_toArray, List.set_cons_zero, List.set_cons_succ]
          refine wpAnyH_take (i := 9) (oi := _) (v := ?v11n1_9) rfl (by kernel_rfl) (by kernel_rfl) (by kernel_rfl) (fun _ _ _ h => h) (Or.inl ⟨by rfl, ?hy11n1_9⟩) hHeld3 ?_
          case hy11n1_9 => (intro wS hSw; (try dsimp only at hSw); obtain ⟨⟨s0, s1, s2, s3⟩, v0, v1, v2, v3⟩ := hSw; go_simp; try with_reducible rfl)
          try simp only [List.getElem_toArray, List.getElem_cons_succ, List.getElem_cons_zero, Act.put, List.setIfInBounds_toArray, List.set_cons_zero, List.set_cons_succ]
          refine wpAnyH_take (i := 10) (oi := _) (v := ?v11n1_10) rfl (by kernel_rfl) (by kernel_rfl) (by kernel_rfl) (fun _ _ _ h => h) (Or.inl ⟨by rfl, ?hy11n1_10⟩) hHeld3 ?_
          case hy11n1_10 => (intro wS hSw; (try dsimp only at hSw); obtain ⟨⟨s0, s1, s2, s3⟩, v0, v1, v2, v3⟩ := hSw; go_simp; try with_reducible rfl)
          try simp only [List.getElem_toArray, List.getElem_cons_succ, List.getElem_cons_zero, Act.put, List.setIfInBounds_toArray, List.set_cons_zero, List.set_cons_succ]
          refine wpAnyH_take (i := 11) (oi := _) (v := ?v11n1_11) rfl (by kernel_rfl) (by kernel_rfl) (by kernel_rfl) (fun _ _ _ h => h) (Or.inl ⟨by rfl, ?hy11n1_11⟩) hHeld3 ?_
          case hy11n1_11 => (intro wS hSw; (try dsimp only at hSw); obtain ⟨⟨s0, s1, s2, s3⟩, v0, v1, v2, v3⟩ := hSw; go_simp; try with_reducible rfl)
          try simp only [List.getElem_toArray, List.getElem_cons_succ, List.getElem_cons_zero, Act.put, List.setIfInBounds_toArray, List.set_cons_zero, List.set_cons_succ]
          refine wpAnyH_take (i := 12) (oi := _) (v := ?v11n1_12) rfl (by kernel_rfl) (by kernel_rfl) (by kernel_rfl) (fun _ _ _ h => h) (Or.inl ⟨by rfl, ?hy11n1_12⟩) hHeld3 ?_
          case hy11n1_12 => (intro wS hSw; (try dsimp only at hSw); obtain ⟨⟨s0, s1, s2, s3⟩, v0, v1, v2, v3⟩ := hSw; go_simp; try with_reducible rfl)
          try simp only [List.getElem_toArray, List.getElem_cons_succ, List.getElem_cons_zero, Act.put, List.setIfInBounds_toArray, List.set_cons_zero, List.set_cons_succ]
          refine wpAnyH_take (i := 13) (oi := _) (v := ?v11n1_13) rfl (by kernel_rfl) (by kernel_rfl) (by kernel_rfl) (fun _ _ _ h => h) (Or.inl ⟨by rfl, ?hy11n1_13⟩) hHeld3 ?_
          case hy11n1_13 => (intro wS hSw; (try dsimp only at hSw); obtain ⟨⟨s0, s1, s2, s3⟩, v0, v1, v2, v3⟩ := hSw; go_simp; try with_reducible rfl)
          try simp only [List.getElem_toArray, List.getElem_cons_succ, List.getElem_cons_zero, Act.put, List.setIfInBounds_toArray, List.set_cons_zero, List.set_cons_succ]
          refine wpAnyH_take (i := 14) (oi := _) (v := ?v11n1_14) rfl (by kernel_rfl) (by kernel_rfl) (by kernel_rfl) (fun _ _ _ h => h) (Or.inl ⟨by rfl, ?hy11n1_14⟩) hHeld3 ?_
          case hy11n1_14 => (intro wS hSw; (try dsimp only at hSw); obtain ⟨⟨s0, s1, s2, s3⟩, v0, v1, v2, v3⟩ := hSw; go_simp; try with_reducible rfl)
          try simp only [List.getElem_toArray, List.getElem_cons_succ, List.getElem_cons_zero, Act.put, List.setIfInBounds_toArray, List.set_cons_zero, List.set_cons_succ]
          refine wpAnyH_take (i := 15) (oi := _) (v := ?v11n1_15) rfl (by kernel_rfl) (by kernel_rfl) (by kernel_rfl) (fun _ _ _ h => h) (Or.inl ⟨by rfl, ?hy11n1_15⟩) hHeld3 ?_
          case hy11n1_15 => (intro wS hSw; (try dsimp only at hSw); obtain ⟨⟨s0, s1, s2, s3⟩, v0, v1, v2, v3⟩ := hSw; go_simp; try with_reducible rfl)
          try simp only [List.getElem_toArray, List.getElem_cons_succ, List.getElem_cons_zero, Act.put, List.setIfInBounds_toArray, List.set_cons_zero, List.set_cons_succ]
          refine wpAnyH_take (i := 16) (oi := _) (v := ?v11n1_16) rfl (by kernel_rfl) (by kernel_rfl) (by kernel_rfl) (fun _ _ _ h => h) (Or.inl ⟨by rfl, ?hy11n1_16⟩) hHeld3 ?_
          case hy11n1_16 => (intro wS hSw; (try dsimp only at hSw); obtain ⟨⟨s0, s1, s2, s3⟩, v0, v1, v2, v3⟩ := hSw; go_simp; try with_reducible rfl)
          try simp only [List.getElem_toArray, List.getElem_cons_succ, List.getElem_cons_zero, Act.put, List.setIfInBounds_toArray, List.set_cons_zero, List.set_cons_succ]
          refine wpAnyH_take (i := 17) (oi := _) (v := ?v11n1_17) rfl (by kernel_rfl) (by kernel_rfl) (by kernel_rfl) (fun _ _ _ h => h) (Or.inl ⟨by rfl, ?hy11n1_17⟩) hHeld3 ?_
          case hy11n1_17 => (intro wS hSw; (try dsimp only at hSw); obtain ⟨⟨s0, s1, s2, s3⟩, v0, v1, v2, v3⟩ := hSw; go_simp; try with_reducible rfl)
          try simp only [List.getElem_toArray, List.getElem_cons_succ, List.getElem_cons_zero, Act.put, List.setIfInBounds_toArray, List.set_cons_zero, List.set_cons_succ]
          refine wpAnyH_take (i := 18) (oi := _) (v := ?v11n1_18) rfl (by kernel_rfl) (by kernel_rfl) (by kernel_rfl) (fun _ _ _ h => h) (Or.inl ⟨by rfl, ?hy11n1_18⟩) hHeld3 ?_
          case hy11n1_18 => (intro wS hSw; (try dsimp only at hSw); obtain ⟨⟨s0, s1, s2, s3⟩, v0, v1, v2, v3⟩ := hSw; go_simp; try with_reducible rfl)
          try simp only [List.getElem_toArray, List.getElem_cons_succ, List.getElem_cons_zero, Act.put, List.setIfInBounds_toArray, List.set_cons_zero, List.set_cons_succ]
          refine wpAnyH_done (by kernel_rfl) ?_ _
          go_wp2_with fail
          go_ret
          exact ⟨rfl, t2.trans ((bd5.trans (by3.mono bd5.size)).mono t2.size)⟩
    · rw [hke] at x1
      go_wp2_with fail
      go_loopw [4] (fun i wr => ∃ k : Nat, k ≤ L.length ∧ i = .int .i64 (k : Int) ∧ Below w5.heap.size w5 wr) (fun i _ => L.length - (intOf i).toNat)
      case atStart => exact ⟨0, Nat.zero_le _, rfl, hv1⟩
      case round =>
        obtain ⟨k, hk, rfl, hbr⟩ := hrel
        obtain ⟨y0, y1, y2, y3⟩ := (r5.below hbr).graph
        obtain ⟨x0, x1, x2, x3⟩ := (r2.below (bd5.trans (hbr.mono bd5.size))).graph
        by_cases hlt : k < L.length
        · have hlt2 : k < g.blocks.length := by have := HLL.out; omega
          obtain ⟨l, hlk⟩ := get_some L k hlt
          obtain ⟨b, hbk⟩ := get_some g.blocks k hlt2
          have hle := HD.out.at hbk hlk
          have hbl := H3.out b (List.mem_of_getElem? hbk)
          obtain ⟨al, Al, cl, rfl, i0, -, -, -, -, -, -, -, -, -, -, -, -, -, -, -⟩ := Block_at (Kd.C_mono hbr C4) hlk
          obtain ⟨ag, Ag, cg, rfl, j0, -, -, -, -, -, -, -, -, -, -, -, -, -, -, -⟩ := Block_at (Kd.C_mono hbr C2b) hbk
          have z1 : decide ((b.ops.length : Int) < (l.ops.length : Int)) = false := decide_eq_false (by omega)
          have z1' : decide (b.ops.length < l.ops.length) = false := decide_eq_false (by omega)
          clear hlk hbk
          go_wp2_with fail
          go_quiet (fail)
          go_wp2_with fail
          exact ⟨⟨k + 1, by omega, by go_num, Below.drewN hbr _⟩, by simp [intOf]; omega⟩
        · obtain rfl : k = L.length := by omega
          go_upto_region 11 with fail
          clear x0 x1 x2 x3 y0 y1 y2 y3
          refine wp_region_held_drew (S := (fun w' => (w'.cell? ⟨w.heap.size, 0, none⟩ = some (.string g.name) ∧ w'.cell? ⟨w.heap.size, 1, none⟩ = some (.bool g.keep) ∧ w'.cell? ⟨w.heap.size, 2, none⟩ = some (.bool g.leaf) ∧ w'.cell? ⟨w.heap.size, 3, none⟩ = some (.slice A g.blocks.length c)) ∧ w'.cell? ⟨GH, 0, none⟩ = some (.string g.name) ∧ w'.cell? ⟨GH, 1, none⟩ = some (.bool g.keep) ∧ w'.cell? ⟨GH, 2, none⟩ = some (.bool g.leaf) ∧ w'.cell? ⟨GH, 3, none⟩ = some (.slice A4 L.length c4))) (by kernel_rfl) (⟨(r2.below (bd5.trans (hbr.mono bd5.size))).graph, (r5.below hbr).graph⟩) (fun hHeld => ?_)
          refine wpAnyH_take (i := 0) (oi := _) (v := ?v11n2_0) rfl (by kernel_rfl) (by kernel_rfl) (by kernel_rfl) (fun _ _ _ h => h) (Or.inl ⟨by rfl, ?hy11n2_0⟩) hHeld ?_
          case hy11n2_0 => (intro wS hSw; (try dsimp only at hSw); obtain ⟨⟨s0, s1, s2, s3⟩, v0, v1, v2, v3⟩ := hSw; go_simp; try with_reducible rfl)
          try simp only [List.getElem_toArray, List.getElem_cons_succ, List.getElem_cons_zero, Act.put, List.setIfInBounds_toArray, List.set_cons_zero, List.set_cons_succ]
          refine wpAnyH_take (i := 2) (oi := _) (v := ?v11n2_2) rfl (by kernel_rfl) (by kernel_rfl) (by kernel_rfl) (fun _ _ _ h => h) (Or.inl ⟨by rfl, ?hy11n2_2⟩) hHeld ?_
          case hy11n2_2 => (intro wS hSw; (try dsimp only at hSw); obtain ⟨⟨s0, s1, s2, s3⟩, v0, v1, v2, v3⟩ := hSw; go_simp; try with_reducible rfl)
          try simp only [List.getElem_toArray, List.getElem_cons_succ, List.getElem_cons_zero, Act.put, List.setIfInBounds_toArray, List.set_cons_zero, List.set_cons_succ]
          refine wpAnyH_ready (rs := [1]) (by kernel_rfl) (by simp) ?_
          refine AllReadyH.cons (o := _) rfl (fun K hK => ?_) AllReadyH.nil
          go_simp
          refine (foldgraph_calls g.name _ g.leaf _ _ L _ (Kd.C_mono (hbr.drew) C4) hLl HOK4.out H34.out hpos4).mono ?_
          rintro e y1 ⟨L2, hD2, A6, c6, F6, rfl, own6, -, hy1⟩
          have hL2 := FoldR.twice HOK.out HD.out (by rw [hke]; exact hD2)
          subst hL2
          have by1 := hbr.trans (((Below.refl wr.heap.size wr).drew.trans hy1).mono hbr.size)
          have C6 := own_bsF own6
          clear own6 hD2
          go_wp2_with fail
          refine hK.out _ _ (⟨(r2.below (bd5.trans (by1.mono bd5.size))).graph, (r5.below by1).graph⟩) (fun hHeld1 => ?_)
          clear hK K hHeld
          try simp only [List.getElem_toArray, List.getElem_cons_succ, List.getElem_cons_zero, Act.put, List.setIfInBounds_toArray, List.set_cons_zero, List.set_cons_succ]
          refine wpAnyH_ready (rs := [3]) (by kernel_rfl) (by simp) ?_
          refine AllReadyH.cons (o := _) rfl (fun K hK => ?_) AllReadyH.nil
          go_simp
          refine (same_calls _ _ _ _ _ _ _ _ _ C6 (Kd.C_mono by1 C4) hLm).mono ?_
          rintro e y3 ⟨rfl, hy3⟩
          have by3 := by1.trans (hy3.mono by1.size)
          go_wp2_with fail
          refine hK.out _ _ (⟨(r2.below (bd5.trans (by3.mono bd5.size))).graph, (r5.below by3).graph⟩) (fun hHeld3 => ?_)
          clear hK K hHeld1
          try simp only [List.getElem_toArray, List.getElem_cons_succ, List.getElem_cons_zero, Act.put, List.setIfInBounds_toArray, List.set_cons_zero, List.set_cons_succ]
          refine wpAnyH_take (i := 4) (oi := _) (v := ?v11n2_4) rfl (by kernel_rfl) (by kernel_rfl) (by kernel_rfl) (fun _ _ _ h => h) (Or.inl ⟨by rfl, ?hy11n2_4⟩) hHeld3 ?_
          case hy11n2_4 => (intro wS hSw; (try dsimp only at hSw); obtain ⟨⟨s0, s1, s2, s3⟩, v0, v1, v2, v3⟩ := hSw; go_simp; try with_reducible rfl)
          try simp only [List.getElem_toArray, List.getElem_cons_succ, List.getElem_cons_zero, Act.put, List.setIfInBounds_toArray, List.set_cons_zero, List.set_cons_succ]
          refine wpAnyH_take (i := 5) (oi := _) (v := ?v11n2_5) rfl (by kernel_rfl) (by kernel_rfl) (by kernel_rfl) (fun _ _ _ h => h) (Or.inl ⟨by rfl, ?hy11n2_5⟩) hHeld3 ?_
          case hy11n2_5 => (intro wS hSw; (try dsimp only at hSw); obtain ⟨⟨s0, s1, s2, s3⟩, v0, v1, v2, v3⟩ := hSw; go_simp; try with_reducible rfl)
          try simp only [List.getElem_toArray, List.getElem_cons_succ, List.getElem_cons_zero, Act.put, List.setIfInBounds_toArray, List.set_cons_zero, List.set_cons_succ]
          refine wpAnyH_take (i := 6) (oi := _) (v := ?v11n2_6) rfl (by kernel_rfl) (by kernel_rfl) (by kernel_rfl) (fun _ _ _ h => h) (Or.inl ⟨by rfl, ?hy11n2_6⟩) hHeld3 ?_
          case hy11n2_6 => (intro wS hSw; (try dsimp only at hSw); obtain ⟨⟨s0, s1, s2, s3⟩, v0, v1, v2, v3⟩ := hSw; go_simp; try with_reducible rfl)
          try simp only [List.getElem_toArray, List.getElem_cons_succ, List.getElem_cons_zero, Act.put, List.setIfInBounds_toArray, List.set_cons_zero, List.set_cons_succ]
          refine wpAnyH_take (i := 7) (oi := _) (v := ?v11n2_7) rfl (by kernel_rfl) (by kernel_rfl) (by kernel_rfl) (fun _ _ _ h => h) (Or.inl ⟨by rfl, ?hy11n2_7⟩) hHeld3 ?_
          case hy11n2_7 => (intro wS hSw; (try dsimp only at hSw); obtain ⟨⟨s0, s1, s2, s3⟩, v0, v1, v2, v3⟩ := hSw; go_simp; try with_reducible rfl)
          try simp only [List.getElem_toArray, List.getElem_cons_succ, List.getElem_cons_zero, Act.put, List.setIfInBounds_toArray, List.set_cons_zero, List.set_cons_succ]
          refine wpAnyH_take (i := 8) (oi := _) (v := ?v11n2_8) rfl (by kernel_rfl) (by kernel_rfl) (by kernel_rfl) (fun _ _ _ h => h) (Or.inl ⟨by rfl, ?hy11n2_8⟩) hHeld3 ?_
          case hy11n2_8 => (intro wS hSw; (try dsimp only at hSw); obtain ⟨⟨s0, s1, s2, s3⟩, v0, v1, v2, v3⟩ := hSw; go_simp; try with_reducible rfl)
          try simp only [List.getElem_toArray, List.getElem_cons_succ, List.getElem_cons_zero, Act.put, List.setIfInBounds_toArray, List.set_cons_zero, List.set_cons_succ]
          refine wpAnyH_take (i := 9) (oi := _) (v := ?v11n2_9) rfl (by kernel_rfl) (by kernel_rfl) (by kernel_rfl) (fun _ _ _ h => h) (Or.inl ⟨by rfl, ?hy11n2_9⟩) hHeld3 ?_
          case hy11n2_9 => (intro wS hSw; (try dsimp only at hSw); obtain ⟨⟨s0, s1, s2, s3⟩, v0, v1, v2, v3⟩ := hSw; go_simp; try with_reducible rfl)
          try simp only [List.getElem_toArray, List.getElem_cons_succ, List.getElem_cons_zero, Act.put, List.setIfInBounds_toArray, List.set_cons_zero, List.set_cons_succ]
          refine wpAnyH_take (i := 10) (oi := _) (v := ?v11n2_10) rfl (by kernel_rfl) (by kernel_rfl) (by kernel_rfl) (fun _ _ _ h => h) (Or.inl ⟨by rfl, ?hy11n2_10⟩) hHeld3 ?_
          case hy11n2_10 => (intro wS hSw; (try dsimp only at hSw); obtain ⟨⟨s0, s1, s2, s3⟩, v0, v1, v2, v3⟩ := hSw; go_simp; try with_reducible rfl)
          try simp only [List.getElem_toArray, List.getElem_cons_succ, List.getElem_cons_zero, Act.put, List.setIfInBounds_toArray, List.set_cons_zero, List.set_cons_succ]
          refine wpAnyH_take (i := 11) (oi := _) (v := ?v11n2_11) rfl (by kernel_rfl) (by kernel_rfl) (by kernel_rfl) (fun _ _ _ h => h) (Or.inl ⟨by rfl, ?hy11n2_11⟩) hHeld3 ?_
          case hy11n2_11 => (intro wS hSw; (try dsimp only at hSw); obtain ⟨⟨s0, s1, s2, s3⟩, v0, v1, v2, v3⟩ := hSw; go_simp; try with_reducible rfl)
          try simp only [List.getElem_toArray, List.getElem_cons_succ, List.getElem_cons_zero, Act.put, List.setIfInBounds_toArray, List.set_cons_zero, List.set_cons_succ]
          refine wpAnyH_take (i := 12) (oi := _) (v := ?v11n2_12) rfl (by kernel_rfl) (by kernel_rfl) (by kernel_rfl) (fun _ _ _ h => h) (Or.inl ⟨by rfl, ?hy11n2_12⟩) hHeld3 ?_
          case hy11n2_12 => (intro wS hSw; (try dsimp only at hSw); obtain ⟨⟨s0, s1, s2, s3⟩, v0, v1, v2, v3⟩ := hSw; go_simp; try with_reducible rfl)
          try simp only [List.getElem_toArray, List.getElem_cons_succ, List.getElem_cons_zero, Act.put, List.setIfInBounds_toArray, List.set_cons_zero, List.set_cons_succ]
          refine wpAnyH_take (i := 13) (oi := _) (v := ?v11n2_13) rfl (by kernel_rfl) (by kernel_rfl) (by kernel_rfl) (fun _ _ _ h => h) (Or.inl ⟨by rfl, ?hy11n2_13⟩) hHeld3 ?_
          case hy11n2_13 => (intro wS hSw; (try dsimp only at hSw); obtain ⟨⟨s0, s1, s2, s3⟩, v0, v1, v2, v3⟩ := hSw; go_simp; try with_reducible rfl)
          try simp only [List.getElem_toArray, List.getElem_cons_succ, List.getElem_cons_zero, Act.put, List.setIfInBounds_toArray, List.set_cons_zero, List.set_cons_succ]
          refine wpAnyH_take (i := 14) (oi := _) (v := ?v11n2_14) rfl (by kernel_rfl) (by kernel_rfl) (by kernel_rfl) (fun _ _ _ h => h) (Or.inl ⟨by rfl, ?hy11n2_14⟩) hHeld3 ?_
          case hy11n2_14 => (intro wS hSw; (try dsimp only at hSw); obtain ⟨⟨s0, s1, s2, s3⟩, v0, v1, v2, v3⟩ := hSw; go_simp; try with_reducible rfl)
          try simp only [List.getElem_toArray, List.getElem_cons_succ, List.getElem_cons_zero, Act.put, List.setIfInBounds_toArray, List.set_cons_zero, List.set_cons_succ]
          refine wpAnyH_take (i := 15) (oi := _) (v := ?v11n2_15) rfl (by kernel_rfl) (by kernel_rfl) (by kernel_rfl) (fun _ _ _ h => h) (Or.inl ⟨by rfl, ?hy11n2_15⟩) hHeld3 ?_
          case hy11n2_15 => (intro wS hSw; (try dsimp only at hSw); obtain ⟨⟨s0, s1, s2, s3⟩, v0, v1, v2, v3⟩ := hSw; go_simp; try with_reducible rfl)
          try simp only [List.getElem_toArray, List.getElem_cons_succ, List.getElem_cons_zero, Act.put, List.setIfInBounds_toArray, List.set_cons_zero, List.set_cons_succ]
          refine wpAnyH_take (i := 16) (oi := _) (v := ?v11n2_16) rfl (by kernel_rfl) (by kernel_rfl) (by kernel_rfl) (fun _ _ _ h => h) (Or.inl ⟨by rfl, ?hy11n2_16⟩) hHeld3 ?_
          case hy11n2_16 => (intro wS hSw; (try dsimp only at hSw); obtain ⟨⟨s0, s1, s2, s3⟩, v0, v1, v2, v3⟩ := hSw; go_simp; try with_reducible rfl)
          try simp only [List.getElem_toArray, List.getElem_cons_succ, List.getElem_cons_zero, Act.put, List.setIfInBounds_toArray, List.set_cons_zero, List.set_cons_succ]
          refine wpAnyH_take (i := 17) (oi := _) (v := ?v11n2_17) rfl (by kernel_rfl) (by kernel_rfl) (by kernel_rfl) (fun _ _ _ h => h) (Or.inl ⟨by rfl, ?hy11n2_17⟩) hHeld3 ?_
          case hy11n2_17 => (intro wS hSw; (try dsimp only at hSw); obtain ⟨⟨s0, s1, s2, s3⟩, v0, v1, v2, v3⟩ := hSw; go_simp; try with_reducible rfl)
          try simp only [List.getElem_toArray, List.getElem_cons_succ, List.getElem_cons_zero, Act.put, List.setIfInBounds_toArray, List.set_cons_zero, List.set_cons_succ]
          refine wpAnyH_take (i := 18) (oi := _) (v := ?v11n2_18) rfl (by kernel_rfl) (by kernel_rfl) (by kernel_rfl) (fun _ _ _ h => h) (Or.inl ⟨by rfl, ?hy11n2_18⟩) hHeld3 ?_
          case hy11n2_18 => (intro wS hSw; (try dsimp only at hSw); obtain ⟨⟨s0, s1, s2, s3⟩, v0, v1, v2, v3⟩ := hSw; go_simp; try with_reducible rfl)
          try simp only [List.getElem_toArray, List.getElem_cons_succ, List.getElem_cons_zero, Act.put, List.setIfInBounds_toArray, List.set_cons_zero, List.set_cons_succ]
          refine wpAnyH_done (by kernel_rfl) ?_ _
          go_wp2_with fail
          go_ret
          exact ⟨rfl, t2.trans ((bd5.trans (by3.mono bd5.size)).mono t2.size)⟩
end Go.Proofs.Ytokkngfgppikkab
