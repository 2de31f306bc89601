/- ChainHeavy returns true: for every graph, right and small, and every number: the blocks of the one edge with a weight stand side by side in the order. -/
import Derived.Test.YtokkngfgppikkabYt
import Derived.Test.YtokkngfgppikkabYu
import Derived.Deep.RegionHeld3
namespace Go.Proofs.Ytokkngfgppikkab
set_option linter.unusedVariables false
set_option linter.unusedSimpArgs false
open Go.RowKit Go.Lib
attribute [local go_sem] run_store_float

theorem u8_bdy {x : Int} (h : (Lit.int .u8 x).wf = true) : 0 ≤ x ∧ x ≤ 255 := by
  simp [Lit.wf] at h
  have h1 : IntKind.u8.min = 0 := by decide
  have h2 : IntKind.u8.max = 255 := by decide
  omega
theorem tmod_indexy {x : Int} {n : Nat} (h0 : 0 ≤ x) (hn : 0 < n) : ∃ i : Nat, i < n ∧ x.tmod n = i := by
  refine ⟨(x.tmod n).toNat, ?_, ?_⟩
  · rw [Int.tmod_eq_emod_of_nonneg h0]
    have := Int.emod_lt_of_pos x (show (0 : Int) < n by omega)
    have := Int.emod_nonneg x (show (n : Int) ≠ 0 by omega)
    omega
  · rw [Int.tmod_eq_emod_of_nonneg h0]
    have := Int.emod_nonneg x (show (n : Int) ≠ 0 by omega)
    omega
theorem lit_i64y {x : Int} (h1 : -9223372036854775808 ≤ x) (h2 : x ≤ 9223372036854775807) : (Lit.int .i64 x).wf = true := by
  have h3 : IntKind.i64.min = -9223372036854775808 := by decide
  have h4 : IntKind.i64.max = 9223372036854775807 := by decide
  simp [Lit.wf, h3, h4]
  omega
theorem hv_wf {nm : ByteArray} {k t : Int} (h1 : nm.size ≤ maxLen) (h2 : (Lit.int .i64 k).wf = true) (h3 : (Lit.int .i64 t).wf = true) : (hvE nm k t).wf := ⟨h1, h2, h3, by show (Lit.float .f64 4617315517961601024).wf = true; decide⟩

set_option maxHeartbeats 8000000 in
set_option maxRecDepth 100000 in
theorem chainHeavy_law (w : World) (g : Graph) (wf : g.wf) (A : Option Addr) (c : Nat) (hlc : g.blocks.length ≤ c) (hcm : c ≤ maxLen) (hC : kBlock.C w A g.blocks) (x : Int) (hx : (Lit.int .u8 x).wf = true) : Calls Try.prog 4 #[.agg #[.string g.name, .bool g.keep, .bool g.leaf, .slice A g.blocks.length c], .int .u8 x] w fun e w' => e = .returned (.bool true) ∧ Below w.heap.size w w' := by
  have hnm : g.name.size ≤ maxLen := wf
  have hlm := Nat.le_trans hlc hcm
  have hlm' : g.blocks.length ≤ 9223372036854775807 := hlm
  obtain ⟨hx0, hx1⟩ := u8_bdy hx
  have b0 := below_alloc' w (.cells #[.string g.name, .bool g.keep, .bool g.leaf, .slice A g.blocks.length c] 24)
  have r0 : Row (w.alloc (.cells #[.string g.name, .bool g.keep, .bool g.leaf, .slice A g.blocks.length c] 24)) w.heap.size 24 (graphCells (.slice A g.blocks.length c) g) := Row.new w _ _
  have HN := Lib.hid hnm
  clear wf hx hnm
  go_enter Try.func4, Try.ntmps4
  go_upto_region 1 with fail
  generalize w.alloc (.cells #[.string g.name, .bool g.keep, .bool g.leaf, .slice A g.blocks.length c] 24) = W at *
  go_wp2_with fail
  refine (awake25_calls _).mono ?_
  rintro e w1 ⟨rfl, hb1⟩
  have r1 := r0.below hb1
  obtain ⟨x0, x1, x2, x3⟩ := r1.graph
  have t1 := b0.trans (hb1.mono b0.size)
  go_wp2_with fail
  cases hf : fine25B g.blocks with
  | false =>
    refine (fine25_calls _ _ _ _ _ _ _ (Kd.C_mono t1 hC) hlm).mono ?_
    rw [hf]
    rintro e w2 ⟨rfl, hb2⟩
    have t2 := t1.trans (hb2.mono t1.size)
    clear x0 x1 x2 x3 hf
    go_wp2_with fail
    refine (awake25_calls _).mono ?_
    rintro e w3 ⟨rfl, hb3⟩
    go_wp2_with fail
    go_ret
    exact ⟨rfl, t2.trans (hb3.mono t2.size)⟩
  | true =>
    refine (fine25_calls _ _ _ _ _ _ _ (Kd.C_mono t1 hC) hlm).mono ?_
    rw [hf]
    rintro e w2 ⟨rfl, hb2⟩
    obtain ⟨hfew, h25, hright⟩ := fine25_parts hf
    have hok : BsOk g.blocks := ⟨1000, 1000, hright⟩
    have hpos := (blocksRight_iff.1 hright).2
    have HLD := Lib.hid hok.leads
    have t2 := t1.trans (hb2.mono t1.size)
    have r2 := r1.below hb2
    clear x0 x1 x2 x3 hf hfew hright hok
    obtain ⟨x0, x1, x2, x3⟩ := r2.graph
    obtain ⟨k, hkl, hke⟩ := tmod_indexy hx0 hpos
    obtain ⟨b, hb⟩ := get_some g.blocks k hkl
    obtain ⟨ad, A0, c0, rfl, f0, f1, f2, f3, f4, f5, f6, f7, f8, f9, f10, f11, hbwf, -⟩ := Block_at (Kd.C_mono t2 hC) hb
    have hnz : ¬ ((g.blocks.length : Int) = 0) := by omega
    have hnz2 : ¬ (g.blocks.length = 0) := by omega
    have hkI : (k : Int) < (g.blocks.length : Int) := by omega
    have HB := Lib.hid hb
    have HBW := Lib.hid hbwf
    clear hb hbwf
    go_upto_region 4 with fail
    have b5 := below_alloc' w2 (.cells #[.int .i64 b.fin.kind, .int .i64 b.fin.op, .int .i64 b.fin.a, .int .i64 b.fin.b, .int .i64 b.fin.to, .int .i64 b.fin.els, .int .i64 b.fin.ins.op, .int .i64 b.fin.ins.a, .int .i64 b.fin.ins.b, .int .i64 b.fin.ins.c, .int .i64 b.fin.ins.imm] 37)
    have rt : Row (w2.alloc (.cells #[.int .i64 b.fin.kind, .int .i64 b.fin.op, .int .i64 b.fin.a, .int .i64 b.fin.b, .int .i64 b.fin.to, .int .i64 b.fin.els, .int .i64 b.fin.ins.op, .int .i64 b.fin.ins.a, .int .i64 b.fin.ins.b, .int .i64 b.fin.ins.c, .int .i64 b.fin.ins.imm] 37)) w2.heap.size 37 (finCells b.fin) := Row.new w2 _ _
    have r5 := r2.below b5
    have t5 := t2.trans (b5.mono t2.size)
    go_upto_region 5 with fail
    clear f0 f1 f2 f3 f4 f5 f6 f7 f8 f9 f10 f11 x0 x1 x2 x3
    generalize w2.alloc (.cells #[.int .i64 b.fin.kind, .int .i64 b.fin.op, .int .i64 b.fin.a, .int .i64 b.fin.b, .int .i64 b.fin.to, .int .i64 b.fin.els, .int .i64 b.fin.ins.op, .int .i64 b.fin.ins.a, .int .i64 b.fin.ins.b, .int .i64 b.fin.ins.c, .int .i64 b.fin.ins.imm] 37) = w5 at *
    generalize w2.heap.size = GT at *
    have y0 := rt.cell (j := 0) rfl
    have y4 := rt.cell (j := 4) rfl
    by_cases hk12 : b.fin.kind = 1 ∨ b.fin.kind = 2
    · by_cases ht0 : b.fin.to = 0
      · have q0 : (b.fin.to == 0) = true := by simp [ht0]
        rcases hk12 with h1 | h2
        · have q1 : (b.fin.kind != 1) = false := by simp [h1]
          clear h1 ht0
          go_wp2_with fail
          go_ret
          exact ⟨rfl, t5⟩
        · have q1 : (b.fin.kind != 1) = true := by simp [h2]
          have q2 : (b.fin.kind != 2) = false := by simp [h2]
          clear h2 ht0
          go_wp2_with fail
          go_ret
          exact ⟨rfl, t5⟩
      · have q0 : (b.fin.to == 0) = false := by simp [ht0]
        by_cases htk : b.fin.to = (k : Int)
        · have q3 : (b.fin.to == (k : Int)) = true := by simp [htk]
          rcases hk12 with h1 | h2
          · have q1 : (b.fin.kind != 1) = false := by simp [h1]
            clear h1 ht0 htk
            go_wp2_with fail
            go_ret
            exact ⟨rfl, t5⟩
          · have q1 : (b.fin.kind != 1) = true := by simp [h2]
            have q2 : (b.fin.kind != 2) = false := by simp [h2]
            clear h2 ht0 htk
            go_wp2_with fail
            go_ret
            exact ⟨rfl, t5⟩
        · have q3 : (b.fin.to == (k : Int)) = false := by simp [htk]
          rcases Decidable.em (b.fin.kind = 1) with h1 | h1
          · have q1 : (b.fin.kind != 1) = false := by simp [h1]
            clear h1
            obtain ⟨nt, hnt⟩ := Int.eq_ofNat_of_zero_le (((HLD.out b (List.mem_of_getElem? HB.out)).1 hk12).1)
            have hntl : nt < g.blocks.length := by have := ((HLD.out b (List.mem_of_getElem? HB.out)).1 hk12).2; omega
            have hside := heavy_side (nm := g.name) HLD.out HB.out hk12 hnt (by omega) (by omega)
            obtain ⟨P, Q, hPQ⟩ := hside
            obtain ⟨o1, -, -, o4⟩ := order_facts (l := [hvE g.name k b.fin.to]) (nm := g.name) HLD.out hpos
            have hwe : (hvE g.name (k : Int) b.fin.to).wf := hv_wf HN.out (lit_i64y (by omega) (by omega)) HBW.out.2.2.2.2.1
            have hC5 := Kd.C_mono t5 hC
            have b6 := below_alloc' w5 (.cells #[.string g.name, .int .i64 (k : Int), .int .i64 b.fin.to, .float .f64 4617315517961601024] 42)
            have cE : kEdge.C (w5.alloc (.cells #[.string g.name, .int .i64 (k : Int), .int .i64 b.fin.to, .float .f64 4617315517961601024] 42)) (some ⟨w5.heap.size, 0, none⟩) [hvE g.name k b.fin.to] := C_one kEdge w5 _ rfl _ _ _ (kEdge_mk w5 (hvE g.name k b.fin.to) hwe)
            have hw1 : ∀ e ∈ [hvE g.name (k : Int) b.fin.to], e.wf := fun e he => by rw [List.mem_singleton] at he; subst he; exact hwe
            have con := blocks_calls g.name g.keep g.leaf (some ad) c g.blocks (some ⟨w5.heap.size, 0, none⟩) 1 [hvE g.name k b.fin.to] _ (Kd.C_mono b6 hC5) cE hw1 (by show 1 ≤ maxLen; decide) (by omega) (edgesD_in HLD.out)
            have CON := Lib.hid con
            have HPQ := Lib.hid hPQ
            have HO1 := Lib.hid o1
            have HO4 := Lib.hid o4
            have HNT := Lib.hid hnt
            have t6 := t5.trans (b6.mono t5.size)
            have r6 := r5.below b6
            have rt6 := rt.below b6
            have R6 := Lib.hid rt6
            have hk1000 : k ≤ 1000 := by omega
            clear hnt hPQ o1 o4 hwe cE hw1 con b6 rt6
            obtain ⟨x0, x1, x2, x3⟩ := r5.graph
            go_wp2_with fail
            refine CON.out.mono ?_
            rintro e w7 ⟨v, F, rfl, own, hF, hb7⟩
            obtain ⟨order, hord⟩ : ∃ order, order = blocksD g.blocks.length (edgesD [hvE g.name k b.fin.to] g.name g.blocks) := ⟨_, rfl⟩
            have hPQ := HPQ.out
            have ho1 := HO1.out
            have ho4 := HO4.out
            rw [← hord] at own hPQ ho1 ho4
            obtain ⟨OA, oc, rfl, -, -, CO, -⟩ := own.readN
            have t7 := t6.trans (hb7.mono t6.size)
            have rt7 := R6.out.below hb7
            have hlen : order.length = P.length + 2 + Q.length := by rw [hPQ]; simp; omega
            have hol : order.length ≤ 1000 := by omega
            have hnk : ∀ i, i < P.length → order[i]? ≠ some k := fun i hi e => by
              have h1 : k ∈ P := by
                rw [hPQ, List.getElem?_append_left hi] at e
                exact List.mem_of_getElem? e
              have h2 := ho4 k hkl
              rw [hPQ, List.count_append, List.count_cons] at h2
              have h3 := List.one_le_count_iff.2 h1
              simp at h2
              omega
            have hatk : order[P.length]? = some k := by rw [hPQ, List.getElem?_append_right (Nat.le_refl _), Nat.sub_self]; rfl
            have hatt : order[P.length + 1]? = some nt := by rw [hPQ, List.getElem?_append_right (by omega), show P.length + 1 - P.length = 1 from by omega]; rfl
            obtain ⟨go, hgo, -, -⟩ := CO _ _ hatk
            subst hgo
            have HCO := Lib.hid CO
            have HNK := Lib.hid hnk
            have HAK := Lib.hid hatk
            have HAT := Lib.hid hatt
            have HLEN := Lib.hid hlen
            have HRT := Lib.hid rt7
            clear hord hPQ ho1 ho4 own CO hF hnk hatk hatt y0 y4 x0 x1 x2 x3 hlen rt7
            go_wp2_with fail
            go_loopw [8] (fun i wr => ∃ j : Nat, j ≤ P.length ∧ i = .int .i64 (j : Int) ∧ Below w7.heap.size w7 wr) (fun i _ => P.length + 1 - (intOf i).toNat)
            case atStart => exact ⟨0, Nat.zero_le _, rfl, Below.refl _ _⟩
            case round =>
              obtain ⟨j, hj, rfl, hbr⟩ := hrel
              have hlen := HLEN.out
              have hjI : (j : Int) + 1 < (order.length : Int) := by omega
              have hjI' : (j : Int) < (order.length : Int) := by omega
              have y4 := (HRT.out.below hbr).cell (j := 4) rfl
              rw [HNT.out] at y4
              by_cases hjp : j = P.length
              · obtain ⟨g1, e1, -, c1⟩ := (HCO.out.belowAt hbr) j k (by rw [hjp]; exact HAK.out)
                obtain ⟨g2, e2, -, c2⟩ := (HCO.out.belowAt hbr) (j + 1) nt (by rw [hjp]; exact HAT.out)
                injection e1 with e1
                injection e1 with e1
                injection e2 with e2
                injection e2 with e2
                subst e1 e2
                clear hlen hjp
                go_wp2_with fail
                go_quiet (fail)
                go_wp2_with fail
                go_ret
                exact ⟨rfl, Below.drewN (t7.trans (hbr.mono t7.size)) _⟩
              · obtain ⟨z, hz⟩ := get_some order j (by omega)
                obtain ⟨g1, e1, -, c1⟩ := (HCO.out.belowAt hbr) j z hz
                injection e1 with e1
                injection e1 with e1
                subst e1
                have hzk : z ≠ k := fun e => HNK.out j (by omega) (by rw [hz, e])
                have q1 : ((z : Int) == (k : Int)) = false := beq_eq_false_iff_ne.2 (by omega)
                have q1' : (z == k) = false := beq_eq_false_iff_ne.2 hzk
                have hjp' : j + 1 ≤ P.length := by omega
                clear hlen hjp hz hzk
                go_wp2_with fail
                exact ⟨⟨j + 1, hjp', by go_num, hbr⟩, by simp [intOf]; omega⟩
          · have q1 : (b.fin.kind != 1) = true := by simp [h1]
            have q2 : (b.fin.kind != 2) = false := by simp [hk12.resolve_left h1]
            clear h1
            obtain ⟨nt, hnt⟩ := Int.eq_ofNat_of_zero_le (((HLD.out b (List.mem_of_getElem? HB.out)).1 hk12).1)
            have hntl : nt < g.blocks.length := by have := ((HLD.out b (List.mem_of_getElem? HB.out)).1 hk12).2; omega
            have hside := heavy_side (nm := g.name) HLD.out HB.out hk12 hnt (by omega) (by omega)
            obtain ⟨P, Q, hPQ⟩ := hside
            obtain ⟨o1, -, -, o4⟩ := order_facts (l := [hvE g.name k b.fin.to]) (nm := g.name) HLD.out hpos
            have hwe : (hvE g.name (k : Int) b.fin.to).wf := hv_wf HN.out (lit_i64y (by omega) (by omega)) HBW.out.2.2.2.2.1
            have hC5 := Kd.C_mono t5 hC
            have b6 := below_alloc' w5 (.cells #[.string g.name, .int .i64 (k : Int), .int .i64 b.fin.to, .float .f64 4617315517961601024] 42)
            have cE : kEdge.C (w5.alloc (.cells #[.string g.name, .int .i64 (k : Int), .int .i64 b.fin.to, .float .f64 4617315517961601024] 42)) (some ⟨w5.heap.size, 0, none⟩) [hvE g.name k b.fin.to] := C_one kEdge w5 _ rfl _ _ _ (kEdge_mk w5 (hvE g.name k b.fin.to) hwe)
            have hw1 : ∀ e ∈ [hvE g.name (k : Int) b.fin.to], e.wf := fun e he => by rw [List.mem_singleton] at he; subst he; exact hwe
            have con := blocks_calls g.name g.keep g.leaf (some ad) c g.blocks (some ⟨w5.heap.size, 0, none⟩) 1 [hvE g.name k b.fin.to] _ (Kd.C_mono b6 hC5) cE hw1 (by show 1 ≤ maxLen; decide) (by omega) (edgesD_in HLD.out)
            have CON := Lib.hid con
            have HPQ := Lib.hid hPQ
            have HO1 := Lib.hid o1
            have HO4 := Lib.hid o4
            have HNT := Lib.hid hnt
            have t6 := t5.trans (b6.mono t5.size)
            have r6 := r5.below b6
            have rt6 := rt.below b6
            have R6 := Lib.hid rt6
            have hk1000 : k ≤ 1000 := by omega
            clear hnt hPQ o1 o4 hwe cE hw1 con b6 rt6
            obtain ⟨x0, x1, x2, x3⟩ := r5.graph
            go_wp2_with fail
            refine CON.out.mono ?_
            rintro e w7 ⟨v, F, rfl, own, hF, hb7⟩
            obtain ⟨order, hord⟩ : ∃ order, order = blocksD g.blocks.length (edgesD [hvE g.name k b.fin.to] g.name g.blocks) := ⟨_, rfl⟩
            have hPQ := HPQ.out
            have ho1 := HO1.out
            have ho4 := HO4.out
            rw [← hord] at own hPQ ho1 ho4
            obtain ⟨OA, oc, rfl, -, -, CO, -⟩ := own.readN
            have t7 := t6.trans (hb7.mono t6.size)
            have rt7 := R6.out.below hb7
            have hlen : order.length = P.length + 2 + Q.length := by rw [hPQ]; simp; omega
            have hol : order.length ≤ 1000 := by omega
            have hnk : ∀ i, i < P.length → order[i]? ≠ some k := fun i hi e => by
              have h1 : k ∈ P := by
                rw [hPQ, List.getElem?_append_left hi] at e
                exact List.mem_of_getElem? e
              have h2 := ho4 k hkl
              rw [hPQ, List.count_append, List.count_cons] at h2
              have h3 := List.one_le_count_iff.2 h1
              simp at h2
              omega
            have hatk : order[P.length]? = some k := by rw [hPQ, List.getElem?_append_right (Nat.le_refl _), Nat.sub_self]; rfl
            have hatt : order[P.length + 1]? = some nt := by rw [hPQ, List.getElem?_append_right (by omega), show P.length + 1 - P.length = 1 from by omega]; rfl
            obtain ⟨go, hgo, -, -⟩ := CO _ _ hatk
            subst hgo
            have HCO := Lib.hid CO
            have HNK := Lib.hid hnk
            have HAK := Lib.hid hatk
            have HAT := Lib.hid hatt
            have HLEN := Lib.hid hlen
            have HRT := Lib.hid rt7
            clear hord hPQ ho1 ho4 own CO hF hnk hatk hatt y0 y4 x0 x1 x2 x3 hlen rt7
            go_wp2_with fail
            go_loopw [8] (fun i wr => ∃ j : Nat, j ≤ P.length ∧ i = .int .i64 (j : Int) ∧ Below w7.heap.size w7 wr) (fun i _ => P.length + 1 - (intOf i).toNat)
            case atStart => exact ⟨0, Nat.zero_le _, rfl, Below.refl _ _⟩
            case round =>
              obtain ⟨j, hj, rfl, hbr⟩ := hrel
              have hlen := HLEN.out
              have hjI : (j : Int) + 1 < (order.length : Int) := by omega
              have hjI' : (j : Int) < (order.length : Int) := by omega
              have y4 := (HRT.out.below hbr).cell (j := 4) rfl
              rw [HNT.out] at y4
              by_cases hjp : j = P.length
              · obtain ⟨g1, e1, -, c1⟩ := (HCO.out.belowAt hbr) j k (by rw [hjp]; exact HAK.out)
                obtain ⟨g2, e2, -, c2⟩ := (HCO.out.belowAt hbr) (j + 1) nt (by rw [hjp]; exact HAT.out)
                injection e1 with e1
                injection e1 with e1
                injection e2 with e2
                injection e2 with e2
                subst e1 e2
                clear hlen hjp
                go_wp2_with fail
                go_quiet (fail)
                go_wp2_with fail
                go_ret
                exact ⟨rfl, Below.drewN (t7.trans (hbr.mono t7.size)) _⟩
              · obtain ⟨z, hz⟩ := get_some order j (by omega)
                obtain ⟨g1, e1, -, c1⟩ := (HCO.out.belowAt hbr) j z hz
                injection e1 with e1
                injection e1 with e1
                subst e1
                have hzk : z ≠ k := fun e => HNK.out j (by omega) (by rw [hz, e])
                have q1 : ((z : Int) == (k : Int)) = false := beq_eq_false_iff_ne.2 (by omega)
                have q1' : (z == k) = false := beq_eq_false_iff_ne.2 hzk
                have hjp' : j + 1 ≤ P.length := by omega
                clear hlen hjp hz hzk
                go_wp2_with fail
                exact ⟨⟨j + 1, hjp', by go_num, hbr⟩, by simp [intOf]; omega⟩
    · have q1 : (b.fin.kind != 1) = true := by simp; exact fun e => hk12 (.inl e)
      have q2 : (b.fin.kind != 2) = true := by simp; exact fun e => hk12 (.inr e)
      clear hk12
      go_wp2_with fail
      go_ret
      exact ⟨rfl, t5⟩
end Go.Proofs.Ytokkngfgppikkab
