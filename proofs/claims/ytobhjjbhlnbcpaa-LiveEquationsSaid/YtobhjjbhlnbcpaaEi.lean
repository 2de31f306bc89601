/- LiveEquations returns true. Printed by genEi.py of this repository. -/
import Derived.Test.YtobhjjbhlnbcpaaEh
import Derived.Test.YtobhjjbhlnbcpaaGe
import Derived.Deep.RegionHeld3
namespace Go.Proofs.Ytobhjjbhlnbcpaa
set_option linter.unusedVariables false
set_option linter.unusedSimpArgs false
open Go.RowKit

/-- What the asking for one instruction reads. -/
def OQ (w : World) (p : Addr) (o : Op) (g m y : Nat) : Prop := w.cell? p = some (.int .i64 o.ins.op) ∧ w.cell? ⟨p.block, p.off + 1, none⟩ = some (.int .i64 o.ins.a) ∧ w.cell? ⟨p.block, p.off + 2, none⟩ = some (.int .i64 o.ins.b) ∧ w.cell? ⟨p.block, p.off + 3, none⟩ = some (.int .i64 o.ins.c) ∧ w.cell? ⟨p.block, p.off + 4, none⟩ = some (.int .i64 o.ins.imm) ∧ w.cell? ⟨p.block, p.off + 5, none⟩ = some (.bool o.rel) ∧ w.cell? ⟨p.block, p.off + 6, none⟩ = some (.int .i64 o.kind) ∧ w.cell? ⟨p.block, p.off + 7, none⟩ = some (.int .i64 o.to) ∧ w.cell? ⟨p.block, p.off + 8, none⟩ = some (.int .i64 o.add) ∧ w.cell? ⟨g, m, none⟩ = some (.int .u16 (y : Int))
theorem OQ.sub {w w' : World} {p : Addr} {o : Op} {g m y : Nat} (h : OQ w p o g m y) (hs : Sub w w') : OQ w' p o g m y := by
  obtain ⟨h0, h1, h2, h3, h4, h5, h6, h7, h8, h9⟩ := h
  exact ⟨hs _ _ h0, hs _ _ h1, hs _ _ h2, hs _ _ h3, hs _ _ h4, hs _ _ h5, hs _ _ h6, hs _ _ h7, hs _ _ h8, hs _ _ h9⟩

theorem IsLive.lt0 {bs : List Block} {ins : List Nat} (h : IsLive bs ins) : ∀ i, ins.getD i 0 < 65536 := fun i => by
  rw [List.getD_eq_getElem?_getD]
  cases hx : ins[i]? with
  | none => decide
  | some x => exact h.inv.lt x (List.mem_of_getElem? hx)
set_option maxHeartbeats 8000000 in
set_option maxRecDepth 100000 in
theorem liveEquations_law (w : World) (g : Graph) (wf : g.wf) (A : Option Addr) (c : Nat) (hlc : g.blocks.length ≤ c) (hcm : c ≤ maxLen) (hC : kBlock.C w A g.blocks) : Calls Try.prog 9 #[.agg #[.string g.name, .bool g.keep, .bool g.leaf, .slice A g.blocks.length c]] w fun e w' => e = .returned (.bool true) ∧ Below w.heap.size w w' := by
  clear wf
  have hlm := Nat.le_trans hlc hcm
  have hlm' : g.blocks.length ≤ 9223372036854775807 := hlm
  have b0 := below_alloc' w (.cells #[.string g.name, .bool g.keep, .bool g.leaf, .slice A g.blocks.length c] 28)
  have r0 : Row (w.alloc (.cells #[.string g.name, .bool g.keep, .bool g.leaf, .slice A g.blocks.length c] 28)) w.heap.size 28 (graphCells (.slice A g.blocks.length c) g) := Row.new w _ _
  cases hr : blocksFew g.blocks with
  | false =>
    have HR := Lib.hid hr
    clear hr
    go_enter Try.func9, Try.ntmps9
    go_upto_region 1 with fail
    generalize w.alloc (.cells #[.string g.name, .bool g.keep, .bool g.leaf, .slice A g.blocks.length c] 28) = W at *
    go_wp2_with fail
    refine (awake19_calls _).mono ?_
    rintro e w1 ⟨rfl, hb1⟩
    obtain ⟨x0, x1, x2, x3⟩ := (r0.below hb1).graph
    have t1 := b0.trans (hb1.mono b0.size)
    go_wp2_with fail
    refine (few_calls _ _ _ _ _ _ _ (Kd.C_mono t1 hC) hlm).mono ?_
    rw [HR.out]
    rintro e w2 ⟨rfl, hb2⟩
    have t2 := t1.trans (hb2.mono t1.size)
    go_wp2_with fail
    refine (awake19_calls _).mono ?_
    rintro e w3 ⟨rfl, hb3⟩
    go_wp2_with fail
    go_ret
    exact ⟨rfl, t2.trans (hb3.mono t2.size)⟩
  | true =>
    have HR := Lib.hid hr
    clear hr
    cases hq : blocksRight g.blocks 1000 1000 with
    | false =>
      have HQ := Lib.hid hq
      clear hq
      go_enter Try.func9, Try.ntmps9
      go_upto_region 1 with fail
      generalize w.alloc (.cells #[.string g.name, .bool g.keep, .bool g.leaf, .slice A g.blocks.length c] 28) = W at *
      go_wp2_with fail
      refine (awake19_calls _).mono ?_
      rintro e w1 ⟨rfl, hb1⟩
      have r1 := r0.below hb1
      obtain ⟨x0, x1, x2, x3⟩ := r1.graph
      have t1 := b0.trans (hb1.mono b0.size)
      go_wp2_with fail
      refine (few_calls _ _ _ _ _ _ _ (Kd.C_mono t1 hC) hlm).mono ?_
      rw [HR.out]
      rintro e w2 ⟨rfl, hb2⟩
      have t2 := t1.trans (hb2.mono t1.size)
      clear x0 x1 x2 x3
      obtain ⟨x0, x1, x2, x3⟩ := (r1.below hb2).graph
      go_wp2_with fail
      refine (right_calls _ _ _ _ _ _ _ _ _ (Kd.C_mono t2 hC) hlm).mono ?_
      rw [HQ.out]
      rintro e w3 ⟨rfl, hb3⟩
      have t3 := t2.trans (hb3.mono t2.size)
      go_wp2_with fail
      refine (awake19_calls _).mono ?_
      rintro e w4 ⟨rfl, hb4⟩
      go_wp2_with fail
      go_ret
      exact ⟨rfl, t3.trans (hb4.mono t3.size)⟩
    | true =>
      have hok : BsOk g.blocks := ⟨1000, 1000, hq⟩
      have hpos := blocksRight_pos hq
      have HQ := Lib.hid hq
      have HOK := Lib.hid hok
      have hfew := blocksFew_parts HR.out
      have HFE := Lib.hid hfew
      clear hq hok hfew
      go_enter Try.func9, Try.ntmps9
      go_upto_region 1 with fail
      generalize w.alloc (.cells #[.string g.name, .bool g.keep, .bool g.leaf, .slice A g.blocks.length c] 28) = W at *
      go_wp2_with fail
      refine (awake19_calls _).mono ?_
      rintro e w1 ⟨rfl, hb1⟩
      have r1 := r0.below hb1
      obtain ⟨x0, x1, x2, x3⟩ := r1.graph
      have t1 := b0.trans (hb1.mono b0.size)
      go_wp2_with fail
      refine (few_calls _ _ _ _ _ _ _ (Kd.C_mono t1 hC) hlm).mono ?_
      rw [HR.out]
      rintro e w2 ⟨rfl, hb2⟩
      have t2 := t1.trans (hb2.mono t1.size)
      have r2 := r1.below hb2
      clear x0 x1 x2 x3
      obtain ⟨x0, x1, x2, x3⟩ := r2.graph
      go_wp2_with fail
      refine (right_calls _ _ _ _ _ _ _ _ _ (Kd.C_mono t2 hC) hlm).mono ?_
      rw [HQ.out]
      rintro e w3 ⟨rfl, hb3⟩
      have t3 := t2.trans (hb3.mono t2.size)
      have r3 := r2.below hb3
      clear x0 x1 x2 x3
      obtain ⟨x0, x1, x2, x3⟩ := r3.graph
      clear hb1 hb2 hb3 t1 t2 r0 r1 r2 b0
      have C3 := Kd.C_mono t3 hC
      clear hC
      have hl1000 : g.blocks.length ≤ 1000 := Nat.le_trans HFE.out.1 (by decide)
      go_wp2_with fail
      refine (liveIn_calls _ _ _ _ _ _ _ C3 hl1000 HOK.out HFE.out.2).mono ?_
      rintro e w4 ⟨g4, ins, rfl, hL, own4, hg4, hb4⟩
      have r4 := r3.below hb4
      have C4 := Kd.C_mono hb4 C3
      have t4 := t3.trans (hb4.mono t3.size)
      have HL := Lib.hid hL
      have HO4 := Lib.hid own4
      clear hL own4 C3 r3 t3 x0 x1 x2 x3 hb4 hg4
      go_wp2_with fail
      go_loopw [4] (fun i wr => ∃ k : Nat, k ≤ g.blocks.length ∧ i = .int .i64 k ∧ Below w4.heap.size w4 wr) (fun i _ => g.blocks.length - (intOf i).toNat)
      case atStart => exact ⟨0, Nat.zero_le _, rfl, Below.refl _ _⟩
      case round =>
        obtain ⟨k, hk, rfl, hbr⟩ := hrel
        obtain ⟨x0, x1, x2, x3⟩ := (r4.below hbr).graph
        by_cases hlt : k < g.blocks.length
        · obtain ⟨b, hb⟩ := get_some g.blocks k hlt
          have Cr := Kd.C_mono hbr C4
          obtain ⟨ad, Ab, cb, hA, i0, i1, i2, i3, i4, i5, i6, i7, i8, i9, i10, i11, -, lb, mb, gb⟩ := Block_at Cr hb
          subst hA
          have hol := HFE.out.2 b (List.mem_of_getElem? hb)
          have hol' : b.ops.length ≤ 9223372036854775807 := by omega
          have hfix := HL.out.fix k b hb
          have HFX := Lib.hid hfix
          have HB := Lib.hid hb
          clear hb hfix
          go_wp2_with fail
          refine (liveAfter_calls _ _ _ _ _ _ _ _ _ Cr hl1000 HOK.out HFE.out.2 HB.out).mono ?_
          rintro e w6 ⟨g6, ins', rfl, hL', own6, hg6, hb6⟩
          obtain rfl := HL.out.unique hL'
          have t6 := hbr.trans (hb6.mono hbr.size)
          have c4 := (HO4.out.below t6).cellU HFX.out
          have HO6 := Lib.hid own6
          have gb6 := Kd.C_mono hb6 gb
          clear hL' own6 x0 x1 x2 x3 i0 i1 i2 i3 i4 i5 i6 i7 i8 i9 i10 i11 gb
          obtain ⟨f, hfr⟩ := HOK.out.fin (List.mem_of_getElem? HB.out)
          have hEN : endN b.fin ins < 65536 := endN_lt (f := f) (by rw [HL.out.inv.len]; exact hfr) HL.out.inv.lt
          have HEN := Lib.hid hEN
          have HFR := Lib.hid hfr
          have HOPS := Lib.hid (HOK.out.ops (List.mem_of_getElem? HB.out))
          clear hEN hfr
          go_wp2_with fail
          clear c4
          go_loopw [7, 8] (fun v i wr => ∃ m : Nat, m ≤ b.ops.length ∧ i = .int .i64 m ∧ v = .int .u16 (aheadOps (b.ops.drop m) (endN b.fin ins) : Int) ∧ Below w6.heap.size w6 wr) (fun _ i _ => b.ops.length - (intOf i).toNat)
          case atStart => exact ⟨0, Nat.zero_le _, rfl, rfl, Below.refl _ _⟩
          case round =>
            obtain ⟨m, hm, rfl, rfl, hbq⟩ := hrel
            by_cases hltm : m < b.ops.length
            · obtain ⟨o, ho⟩ := get_some b.ops m hltm
              have hro := HOPS.out o (List.mem_of_getElem? ho)
              obtain ⟨ao, hAo, e0, e1, e2, e3, e4, e5, e6, e7, e8, -⟩ := Op_at (Kd.C_mono hbq gb6) ho
              subst hAo
              have hst : aheadOps (b.ops.drop m) (endN b.fin ins) = beforeN o (aheadOps (b.ops.drop (m + 1)) (endN b.fin ins)) := by rw [drop_at ho]; rfl
              have hylt := aheadOps_lt (fun o h => HOPS.out o (List.mem_of_mem_drop h)) HEN.out (os := b.ops.drop (m + 1))
              have c6 := (HO6.out.below hbq).cellU (afterL_at (e := endN b.fin ins) hltm)
              have A0q : OQ wr (ao.add (m * 9)) o g6 m (aheadOps (b.ops.drop (m + 1)) (endN b.fin ins)) := ⟨e0, e1, e2, e3, e4, e5, e6, e7, e8, c6⟩
              have HST := Lib.hid hst
              clear hst e0 e1 e2 e3 e4 e5 e6 e7 e8 c6 ho
              obtain ⟨y, hy⟩ : ∃ y, y = aheadOps (b.ops.drop (m + 1)) (endN b.fin ins) := ⟨_, rfl⟩
              have HY := Lib.hid hy
              rw [← hy] at A0q hylt HST
              clear hy
              go_upto_region 13 with fail
              refine wp_region_held_drew (S := (fun w' => OQ w' (ao.add (m * 9)) o g6 m y)) (by kernel_rfl) (A0q) (fun hHeld => ?_)
              refine wpAnyH_take (i := 0) (oi := _) (v := ?v13n1_0) rfl (by kernel_rfl) (by kernel_rfl) (by kernel_rfl) (fun _ _ _ h => h) (Or.inl ⟨by rfl, ?hy13n1_0⟩) hHeld ?_
              case hy13n1_0 => (intro wS hSw; (try dsimp only at hSw); obtain ⟨s0, s1, s2, s3, s4, s5, s6, s7, s8, s9⟩ := hSw; go_simp; try with_reducible rfl)
              try simp only [List.getElem_toArray, List.getElem_cons_succ, List.getElem_cons_zero, Act.put, List.setIfInBounds_toArray, List.set_cons_zero, List.set_cons_succ]
              refine wpAnyH_take (i := 1) (oi := _) (v := ?v13n1_1) rfl (by kernel_rfl) (by kernel_rfl) (by kernel_rfl) (fun _ _ _ h => h) (Or.inl ⟨by rfl, ?hy13n1_1⟩) hHeld ?_
              case hy13n1_1 => (intro wS hSw; (try dsimp only at hSw); obtain ⟨s0, s1, s2, s3, s4, s5, s6, s7, s8, s9⟩ := hSw; go_simp; try with_reducible rfl)
              try simp only [List.getElem_toArray, List.getElem_cons_succ, List.getElem_cons_zero, Act.put, List.setIfInBounds_toArray, List.set_cons_zero, List.set_cons_succ]
              refine wpAnyH_take (i := 2) (oi := _) (v := ?v13n1_2) rfl (by kernel_rfl) (by kernel_rfl) (by kernel_rfl) (fun _ _ _ h => h) (Or.inl ⟨by rfl, ?hy13n1_2⟩) hHeld ?_
              case hy13n1_2 => (intro wS hSw; (try dsimp only at hSw); obtain ⟨s0, s1, s2, s3, s4, s5, s6, s7, s8, s9⟩ := hSw; go_simp; try with_reducible rfl)
              try simp only [List.getElem_toArray, List.getElem_cons_succ, List.getElem_cons_zero, Act.put, List.setIfInBounds_toArray, List.set_cons_zero, List.set_cons_succ]
              refine wpAnyH_take (i := 3) (oi := _) (v := ?v13n1_3) rfl (by kernel_rfl) (by kernel_rfl) (by kernel_rfl) (fun _ _ _ h => h) (Or.inl ⟨by rfl, ?hy13n1_3⟩) hHeld ?_
              case hy13n1_3 => (intro wS hSw; (try dsimp only at hSw); obtain ⟨s0, s1, s2, s3, s4, s5, s6, s7, s8, s9⟩ := hSw; go_simp; try with_reducible rfl)
              try simp only [List.getElem_toArray, List.getElem_cons_succ, List.getElem_cons_zero, Act.put, List.setIfInBounds_toArray, List.set_cons_zero, List.set_cons_succ]
              refine wpAnyH_take (i := 4) (oi := _) (v := ?v13n1_4) rfl (by kernel_rfl) (by kernel_rfl) (by kernel_rfl) (fun _ _ _ h => h) (Or.inl ⟨by rfl, ?hy13n1_4⟩) hHeld ?_
              case hy13n1_4 => (intro wS hSw; (try dsimp only at hSw); obtain ⟨s0, s1, s2, s3, s4, s5, s6, s7, s8, s9⟩ := hSw; go_simp; try with_reducible rfl)
              try simp only [List.getElem_toArray, List.getElem_cons_succ, List.getElem_cons_zero, Act.put, List.setIfInBounds_toArray, List.set_cons_zero, List.set_cons_succ]
              refine wpAnyH_take (i := 5) (oi := _) (v := ?v13n1_5) rfl (by kernel_rfl) (by kernel_rfl) (by kernel_rfl) (fun _ _ _ h => h) (Or.inl ⟨by rfl, ?hy13n1_5⟩) hHeld ?_
              case hy13n1_5 => (intro wS hSw; (try dsimp only at hSw); obtain ⟨s0, s1, s2, s3, s4, s5, s6, s7, s8, s9⟩ := hSw; go_simp; try with_reducible rfl)
              try simp only [List.getElem_toArray, List.getElem_cons_succ, List.getElem_cons_zero, Act.put, List.setIfInBounds_toArray, List.set_cons_zero, List.set_cons_succ]
              refine wpAnyH_take (i := 6) (oi := _) (v := ?v13n1_6) rfl (by kernel_rfl) (by kernel_rfl) (by kernel_rfl) (fun _ _ _ h => h) (Or.inl ⟨by rfl, ?hy13n1_6⟩) hHeld ?_
              case hy13n1_6 => (intro wS hSw; (try dsimp only at hSw); obtain ⟨s0, s1, s2, s3, s4, s5, s6, s7, s8, s9⟩ := hSw; go_simp; try with_reducible rfl)
              try simp only [List.getElem_toArray, List.getElem_cons_succ, List.getElem_cons_zero, Act.put, List.setIfInBounds_toArray, List.set_cons_zero, List.set_cons_succ]
              refine wpAnyH_take (i := 7) (oi := _) (v := ?v13n1_7) rfl (by kernel_rfl) (by kernel_rfl) (by kernel_rfl) (fun _ _ _ h => h) (Or.inl ⟨by rfl, ?hy13n1_7⟩) hHeld ?_
              case hy13n1_7 => (intro wS hSw; (try dsimp only at hSw); obtain ⟨s0, s1, s2, s3, s4, s5, s6, s7, s8, s9⟩ := hSw; go_simp; try with_reducible rfl)
              try simp only [List.getElem_toArray, List.getElem_cons_succ, List.getElem_cons_zero, Act.put, List.setIfInBounds_toArray, List.set_cons_zero, List.set_cons_succ]
              refine wpAnyH_take (i := 9) (oi := _) (v := ?v13n1_9) rfl (by kernel_rfl) (by kernel_rfl) (by kernel_rfl) (fun _ _ _ h => h) (Or.inl ⟨by rfl, ?hy13n1_9⟩) hHeld ?_
              case hy13n1_9 => (intro wS hSw; (try dsimp only at hSw); obtain ⟨s0, s1, s2, s3, s4, s5, s6, s7, s8, s9⟩ := hSw; go_simp; try with_reducible rfl)
              try simp only [List.getElem_toArray, List.getElem_cons_succ, List.getElem_cons_zero, Act.put, List.setIfInBounds_toArray, List.set_cons_zero, List.set_cons_succ]
              refine wpAnyH_ready (rs := [8]) (by kernel_rfl) (by simp) ?_
              refine AllReadyH.cons (o := _) rfl (fun K hK => ?_) AllReadyH.nil
              go_simp
              refine (before_calls _ hro _ hylt _).mono ?_
              rintro e w7 ⟨rfl, hb7⟩
              rw [← HST.out]
              go_wp2_with fail
              refine hK.out _ _ (OQ.sub hHeld (Sub.of_below hb7)) (fun hHeld8 => ?_)
              clear hK K hHeld
              try simp only [List.getElem_toArray, List.getElem_cons_succ, List.getElem_cons_zero, Act.put, List.setIfInBounds_toArray, List.set_cons_zero, List.set_cons_succ]
              refine wpAnyH_take (i := 10) (oi := _) (v := ?v13n1_10) rfl (by kernel_rfl) (by kernel_rfl) (by kernel_rfl) (fun _ _ _ h => h) (Or.inl ⟨by rfl, ?hy13n1_10⟩) hHeld8 ?_
              case hy13n1_10 => (intro wS hSw; (try dsimp only at hSw); obtain ⟨s0, s1, s2, s3, s4, s5, s6, s7, s8, s9⟩ := hSw; go_simp; try with_reducible rfl)
              try simp only [List.getElem_toArray, List.getElem_cons_succ, List.getElem_cons_zero, Act.put, List.setIfInBounds_toArray, List.set_cons_zero, List.set_cons_succ]
              refine wpAnyH_done (by kernel_rfl) ?_ _
              obtain ⟨-, -, -, -, -, -, -, -, -, s9⟩ := hHeld8
              have u7 : Below wr.heap.size wr w7 := (Below.refl wr.heap.size wr).drew.trans hb7
              go_wp2_with fail
              exact ⟨⟨m + 1, by omega, by go_num, by rw [HY.out], hbq.trans (u7.mono hbq.size)⟩, by simp [intOf]; omega⟩
            · obtain rfl : m = b.ops.length := by omega
              have hE : aheadOps (b.ops.drop b.ops.length) (endN b.fin ins) = endN b.fin ins := by rw [List.drop_length]; rfl
              rw [hE]
              clear hE
              obtain ⟨ad', Ab', cb', hA', i0, i1, i2, i3, i4, i5, i6, i7, i8, i9, i10, i11, -⟩ := Block_at (Kd.C_mono (t6.trans (hbq.mono t6.size)) C4) HB.out
              injection hA' with hA'
              subst hA'
              obtain ⟨y0, y1, y2, y3⟩ := (r4.below (t6.trans (hbq.mono t6.size))).graph
              have bq := below_alloc' wr (.cells #[.int .i64 0, .int .i64 0, .int .i64 0, .int .i64 0, .int .i64 0, .int .i64 0, .int .i64 0, .int .i64 0, .int .i64 0, .int .i64 0, .int .i64 0] 41)
              go_upto_region 17 with (refine wpList_put_row rfl 41 _ _ rfl wr.heap.size (finCells b.fin) rfl rfl (Row.new wr 41 _) (by kernel_rfl) rfl (finCells_one _) ?_; intro w8 r8 g8 s8; clear s8; replace bq := bq.grown g8 bq.size (fun j hj => by injection hj with hj; subst hj; exact Nat.le_refl _); clear g8)
              have t8 := t6.trans ((hbq.trans (bq.mono hbq.size)).mono t6.size)
              have u4 := HO4.out.below t8
              generalize wr.heap.size = G8 at *
              have z0 := r8.cell (j := 0) rfl
              have z2 := r8.cell (j := 2) rfl
              have z3 := r8.cell (j := 3) rfl
              have z4 := r8.cell (j := 4) rfl
              have z5 := r8.cell (j := 5) rfl
              clear i0 i1 i2 i3 i4 i5 i6 i7 i8 i9 i10 i11 y0 y1 y2 y3 bq
              have hlen := HL.out.inv.len
              have HLN := Lib.hid hlen
              have hfr := HFR.out
              clear hlen
              by_cases h1 : b.fin.kind = 1
              · obtain ⟨ht0, ht1⟩ := Term.right_jump hfr h1
                obtain ⟨t, ht⟩ := Int.eq_ofNat_of_zero_le ht0
                obtain ⟨x, hx⟩ := get_some ins t (by rw [HLN.out]; omega)
                have f4 := u4.cellU hx
                have hE : endN b.fin ins = x := by unfold endN; rw [if_pos h1, ht]; exact getD_get hx
                have htl : t < g.blocks.length := by omega
                rw [hE]
                clear hE hx ht0 ht1
                rw [h1] at z0
                rw [ht] at z4
                go_wp2_with fail
                go_quiet (fail)
                go_wp2_with fail
                exact ⟨⟨k + 1, by omega, by go_num, Below.drewN t8 _⟩, by simp [intOf]; omega⟩
              · have n1 : (b.fin.kind == 1) = false := by simpa using h1
                by_cases h2 : b.fin.kind = 2
                · obtain ⟨⟨ht0, ht1⟩, ⟨he0, he1⟩, -, ⟨ha0, ha1⟩, ⟨hb0, hb1⟩⟩ := Term.right_branch hfr h2
                  obtain ⟨t, ht⟩ := Int.eq_ofNat_of_zero_le ht0
                  obtain ⟨s, hs⟩ := Int.eq_ofNat_of_zero_le he0
                  obtain ⟨na, hna⟩ := Int.eq_ofNat_of_zero_le ha0
                  obtain ⟨nb, hnb⟩ := Int.eq_ofNat_of_zero_le hb0
                  obtain ⟨x, hx⟩ := get_some ins t (by rw [HLN.out]; omega)
                  obtain ⟨y, hy⟩ := get_some ins s (by rw [HLN.out]; omega)
                  have f4 := u4.cellU hx
                  have f5 := u4.cellU hy
                  have hxl := HL.out.inv.lt x (List.mem_of_getElem? hx)
                  have hyl := HL.out.inv.lt y (List.mem_of_getElem? hy)
                  have hE := endN_branch hfr h2 (HL.out.bit0 HOK.out) HL.out.lt0
                  rw [ht, hs, hna, hnb] at hE
                  simp only [Int.toNat_natCast, getD_get hx, getD_get hy] at hE
                  have htl : t < g.blocks.length := by omega
                  have hsl : s < g.blocks.length := by omega
                  have hna5 : na ≤ 15 := by omega
                  have hnb5 : nb ≤ 15 := by omega
                  have ho1 := u16_or_nat x y hxl hyl
                  have hl1 : (x ||| y) < 65536 := Nat.or_lt_two_pow (n := 16) hxl hyl
                  have ho2 := or_pow hl1 hna5
                  have hl2 : (x ||| y ||| 2 ^ na) < 65536 := Nat.or_lt_two_pow (n := 16) hl1 (pow_lt hna5)
                  have ho3 := or_pow hl2 hnb5
                  have hl3 : (x ||| y ||| 2 ^ na ||| 2 ^ nb) < 65536 := Nat.or_lt_two_pow (n := 16) hl2 (pow_lt hnb5)
                  have ho4 : bits BinOp.and IntKind.u16 (((x ||| y ||| 2 ^ na ||| 2 ^ nb : Nat)) : Int) 65534 = (((x ||| y ||| 2 ^ na ||| 2 ^ nb) &&& 65534 : Nat) : Int) := u16_and_nat _ 65534 hl3 (by decide)
                  rw [hE]
                  clear hE hx hy ht0 he0 ha0 hb0 hl1 hl2 hl3
                  rw [h2] at z0
                  rw [ht] at z4
                  rw [hs] at z5
                  rw [hna] at z2
                  rw [hnb] at z3
                  clear ht hs hna hnb
                  go_wp2_with fail
                  go_quiet (fail)
                  go_wp2_with fail
                  exact ⟨⟨k + 1, by omega, by go_num, Below.drewN t8 _⟩, by simp [intOf]; omega⟩
                · have n2 : (b.fin.kind == 2) = false := by simpa using h2
                  by_cases h4 : b.fin.kind = 4
                  · have hE : endN b.fin ins = 65534 := by unfold endN; rw [if_neg h1, if_neg h2, if_neg (by omega)]
                    rw [hE]
                    clear hE
                    rw [h4] at z0
                    go_wp2_with fail
                    go_quiet (fail)
                    go_wp2_with fail
                    exact ⟨⟨k + 1, by omega, by go_num, Below.drewN t8 _⟩, by simp [intOf]; omega⟩
                  · have n4 : (b.fin.kind == 4) = false := by simpa using h4
                    go_wp2_with fail
                    go_quiet (fail)
                    go_wp2_with fail
                    exact ⟨⟨k + 1, by omega, by go_num, Below.drewN t8 _⟩, by simp [intOf]; omega⟩
        · go_wp2_with fail
          go_ret
          exact ⟨rfl, t4.trans (hbr.mono t4.size)⟩
end Go.Proofs.Ytobhjjbhlnbcpaa
