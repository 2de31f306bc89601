/- The document's Tails. Printed in part by genDg.py of this repository. -/
import Derived.Test.YtobhjjbhlnbcpaaDf
import Derived.Deep.RegionHeld3
import Derived.IntWalk
namespace Go.Proofs.Ytobhjjbhlnbcpaa
set_option linter.unusedVariables false
set_option linter.unusedSimpArgs false
open Go.RowKit

/-- What the making of a tail reads. -/
def ST (w : World) (p0 k : Nat) (v3 : Value) (g6 : Nat) (v0 : Value) (a7 : Addr) (t : Int) : Prop := w.cell? ⟨p0, k * 4 + 3, none⟩ = some v3 ∧ w.cell? ⟨g6, 0, none⟩ = some v0 ∧ w.cell? ⟨a7.block, a7.off + 7, none⟩ = some (.int .i64 t)
theorem ST.sub {w w' : World} {p0 k : Nat} {v3 : Value} {g6 : Nat} {v0 : Value} {a7 : Addr} {t : Int} (h : ST w p0 k v3 g6 v0 a7 t) (hs : Sub w w') : ST w' p0 k v3 g6 v0 a7 t := ⟨hs _ _ h.1, hs _ _ h.2.1, hs _ _ h.2.2⟩
theorem ST.grown {w w' : World} {p0 k : Nat} {v3 : Value} {g6 : Nat} {v0 : Value} {a7 : Addr} {t : Int} {p1 : Nat} (h : ST w p0 k v3 g6 v0 a7 t) (hg : w.grownBy w' (some p1)) (n1 : p0 ≠ p1) (n2 : g6 ≠ p1) (n3 : a7.block ≠ p1) : ST w' p0 k v3 g6 v0 a7 t :=
  ⟨hg.cell h.1 (by simpa using n1), hg.cell h.2.1 (by simpa using n2), hg.cell h.2.2 (by simpa using n3)⟩
theorem C_take {α : Type} {k : Kd α} {w : World} {A : Option Addr} {xs : List α} (h : k.C w A xs) (n : Nat) : k.C w A (xs.take n) := fun i x hx => h i x (by
  rw [List.getElem?_take] at hx
  split at hx
  · exact hx
  · cases hx)

set_option maxHeartbeats 8000000 in
set_option maxRecDepth 100000 in
theorem refTails_calls (A : Option Addr) (c : Nat) (gs : List Graph) (w : World) (hC : kGraph.C w A gs) (hok : GsOk gs) (hright : ∀ g ∈ gs, blocksRight g.blocks gs.length 1000 = true) : Calls Try.prog 19 #[.slice A gs.length c] w fun e w' => OwnGs w e w' (gs.map tailsG) := by
  have hlen := hok.1
  have hlen' : gs.length ≤ 9223372036854775807 := by omega
  have HOK := Lib.hid hok
  have HR := Lib.hid hright
  have hfw : ∀ g ∈ gs, blocksFew g.blocks = true := fun g hg => (hok.2 g hg).1
  have HFW := Lib.hid hfw
  clear hok hright hfw
  go_enter Try.func19, Try.ntmps19
  go_wp2_with fail
  refine (copies_calls _ _ _ _ hC (by omega) HFW.out).mono ?_
  rintro e w1 ⟨A1, c1, F1, rfl, own1, hF1, hb1⟩
  have own1' : OwnF oGraph 28 w1 (.slice A1 gs.length c1) (outG tailsB gs 0) F1 := by rw [outG_zero]; exact own1
  have HO1 := Lib.hid own1'
  clear own1 own1'
  go_wp2_with fail
  go_loopw [4] (fun i wr => ∃ (k : Nat) (F : Nat → Prop), k ≤ gs.length ∧ i = .int .i64 k ∧ OwnF oGraph 28 wr (.slice A1 gs.length c1) (outG tailsB gs k) F ∧ (∀ x, F x → w.heap.size ≤ x) ∧ Below w.heap.size w wr) (fun i _ => gs.length - (intOf i).toNat)
  case atStart => exact ⟨0, F1, Nat.zero_le _, rfl, HO1.out, hF1, hb1⟩
  case round =>
    obtain ⟨k, F, hk, rfl, ho, hF, hbr⟩ := hrel
    by_cases hlt : k < gs.length
    · obtain ⟨g, hg⟩ := get_some gs k hlt
      have hgm := List.mem_of_getElem? hg
      have hgr := HR.out g hgm
      obtain ⟨ad, A0, c0, rfl, f0, f1, f2, f3, -, l0, m0, g0⟩ := Graph_at hC hg
      have hl0 := len_le l0 m0
      have f1r := Sub.of_below hbr _ _ f1
      have f3r := Sub.of_below hbr _ _ f3
      have hst := outG_start (f := tailsB) hg
      have hst' : (outG tailsB gs k).set k (mixB (eachB tailsB g) g 0) = outG tailsB gs k := by rw [mixB_zero]; rw [mixB_zero] at hst; exact hst
      have hsu := outG_succ (f := tailsB) hg
      have ho' : OwnF oGraph 28 wr (.slice A1 gs.length c1) ((outG tailsB gs k).set k (mixB (eachB tailsB g) g 0)) F := by rw [hst']; exact ho
      have HO := Lib.hid ho'
      have HSU := Lib.hid hsu
      have HGR := Lib.hid hgr
      obtain ⟨hfew200, hfew300⟩ := blocksFew_parts (HFW.out g hgm)
      have H300 := Lib.hid hfew300
      have HGM := Lib.hid hgm
      clear hg hgm hgr hst hst' hsu ho ho' hfew300
      obtain ⟨wo, hwo⟩ : ∃ wo : World, wo = wr := ⟨_, rfl⟩
      subst hwo
      go_wp2_with fail
      go_loopw [5] (fun i wr => ∃ (j : Nat) (F : Nat → Prop), j ≤ g.blocks.length ∧ i = .int .i64 j ∧ OwnF oGraph 28 wr (.slice A1 gs.length c1) ((outG tailsB gs k).set k (mixB (eachB tailsB g) g j)) F ∧ (∀ x, F x → w.heap.size ≤ x) ∧ Below w.heap.size w wr) (fun i _ => g.blocks.length - (intOf i).toNat)
      case atStart => exact ⟨0, F, Nat.zero_le _, rfl, HO.out, hF, hbr⟩
      case round =>
        obtain ⟨j, F, hj, rfl, ho, hF, hbr⟩ := hrel
        have f1r := Sub.of_below hbr _ _ f1
        have f3r := Sub.of_below hbr _ _ f3
        by_cases hltj : j < g.blocks.length
        · obtain ⟨b, hb⟩ := get_some g.blocks j hltj
          have hbm := List.mem_of_getElem? hb
          have h300 := H300.out b hbm
          have hokb : okB gs b := ⟨g, HGM.out, hbm⟩
          obtain ⟨ax, Ab, cb, rfl, i0', i1', i2', i3', i4', i5', i6', i7', i8', i9', i10', i11', hwb, lb, mb, gbo⟩ := Block_at g0 hb
          have hCw := Sub.of_below hbr
          have i0 := hCw _ _ i0'
          have i1 := hCw _ _ i1'
          have i2 := hCw _ _ i2'
          have i3 := hCw _ _ i3'
          have i4 := hCw _ _ i4'
          have i5 := hCw _ _ i5'
          have i6 := hCw _ _ i6'
          have i7 := hCw _ _ i7'
          have i8 := hCw _ _ i8'
          have i9 := hCw _ _ i9'
          have i10 := hCw _ _ i10'
          have i11 := hCw _ _ i11'
          have gb := Kd.C_sub hCw gbo
          clear i0' i1' i2' i3' i4' i5' i6' i7' i8' i9' i10' i11'
          have hlb := len_le lb mb
          have hrt : ∀ o ∈ b.ops, o.right gs.length 1000 = true := fun o h => blocksRight_ops HGR.out hbm h
          have HRT := Lib.hid hrt
          have HB := Lib.hid hb
          have HO2 := Lib.hid ho
          have HF2 := Lib.hid hF
          have hlt2 := ho.lt
          have HLT := Lib.hid hlt2
          have HWB := Lib.hid hwb
          have hsame : tailsB b = b ∨ g.keep = true → (outG tailsB gs k).set k (mixB (eachB tailsB g) g j) = (outG tailsB gs k).set k (mixB (eachB tailsB g) g (j + 1)) := fun h => by
            rw [mixB_same hb (by unfold eachB; rcases h with h | h; rw [h]; exact ite_self _; rw [if_pos h])]
          have HSAME := Lib.hid hsame
          clear hb hbm hokb hrt ho hF hlt2 hsame hwb
          have b2 := below_alloc' wr (.cells #[.slice Ab b.ops.length cb, .int .i64 b.fin.kind, .int .i64 b.fin.op, .int .i64 b.fin.a, .int .i64 b.fin.b, .int .i64 b.fin.to, .int .i64 b.fin.els, .int .i64 b.fin.ins.op, .int .i64 b.fin.ins.a, .int .i64 b.fin.ins.b, .int .i64 b.fin.ins.c, .int .i64 b.fin.ins.imm] 43)
          have r2 : Row (wr.alloc (.cells #[.slice Ab b.ops.length cb, .int .i64 b.fin.kind, .int .i64 b.fin.op, .int .i64 b.fin.a, .int .i64 b.fin.b, .int .i64 b.fin.to, .int .i64 b.fin.els, .int .i64 b.fin.ins.op, .int .i64 b.fin.ins.a, .int .i64 b.fin.ins.b, .int .i64 b.fin.ins.c, .int .i64 b.fin.ins.imm] 43)) wr.heap.size 43 (blockCells (.slice Ab b.ops.length cb) b) := Row.new wr _ _
          go_upto_region 9 with fail
          generalize wr.alloc (.cells #[.slice Ab b.ops.length cb, .int .i64 b.fin.kind, .int .i64 b.fin.op, .int .i64 b.fin.a, .int .i64 b.fin.b, .int .i64 b.fin.to, .int .i64 b.fin.els, .int .i64 b.fin.ins.op, .int .i64 b.fin.ins.a, .int .i64 b.fin.ins.b, .int .i64 b.fin.ins.c, .int .i64 b.fin.ins.imm] 43) = W2 at *
          clear i0 i1 i2 i3 i4 i5 i6 i7 i8 i9 i10 i11
          obtain ⟨x0, x1, x2, x3, x4, x5, x6, x7, x8, x9, x10, x11⟩ := r2.block
          have f1w := Sub.of_below b2 _ _ f1r
          have f3w := Sub.of_below b2 _ _ f3r
          clear f1r f3r
          rcases Bool.eq_false_or_eq_true g.keep with hke | hke
          · have HSM := Lib.hid (HSAME.out (.inr hke))
            rw [hke] at f1w
            clear hke
            go_wp2_with fail
            exact ⟨⟨j + 1, F, by omega, by go_num, HSM.out ▸ HO2.out.below b2, HF2.out, hbr.trans (b2.mono hbr.size)⟩, by simp [intOf]; omega⟩
          · rw [hke] at f1w
            by_cases hn : b.ops.length = 0
            · have HSM := Lib.hid (HSAME.out (.inl (tailsB_nil hn)))
              have z1 : decide (0 < b.ops.length) = false := by simp [hn]
              clear hke hn
              go_wp2_with fail
              exact ⟨⟨j + 1, F, by omega, by go_num, HSM.out ▸ HO2.out.below b2, HF2.out, hbr.trans (b2.mono hbr.size)⟩, by simp [intOf]; omega⟩
            · have hpos : 0 < b.ops.length := by omega
              have z1 : decide (0 < b.ops.length) = true := by simpa using hpos
              obtain ⟨o, hoo⟩ := get_some b.ops (b.ops.length - 1) (by omega)
              obtain ⟨hr1, hr2⟩ := right_call (HRT.out o (List.mem_of_getElem? hoo))
              have hat := tailsB_at hoo
              have hn1 : ((b.ops.length : Int) - 1) = ((b.ops.length - 1 : Nat) : Int) := by omega
              have gb2 := Kd.C_mono b2 gb
              obtain ⟨ao, rfl, e0, e1, e2, e3, e4, e5, e6, e7, e8, hwo⟩ := Op_at gb2 hoo
              by_cases h20 : o.ins.op = 20
              · have y0 : (o.ins.op == 20) = true := by simp [h20]
                obtain ⟨hrel1, hkind1, hcall, hto0, hton⟩ := hr1 h20
                by_cases h3 : b.fin.kind = 3
                · have y1 : (b.fin.kind == 3) = true := by simp [h3]
                  by_cases h21 : b.fin.ins.op = 21
                  · have y2 : (b.fin.ins.op == 21) = true := by simp [h21]
                    have htb : tailsB b = ⟨b.ops.dropLast, tailTerm o.to⟩ := by rw [hat, if_pos ⟨h3, h21, by omega⟩, hcall]
                    have htbe : eachB tailsB g b = ⟨b.ops.dropLast, tailTerm o.to⟩ := by unfold eachB; rw [hke]; exact htb
                    have HTB := Lib.hid htbe
                    have hmk := set_get (xs := outG tailsB gs k) (x := mixB (eachB tailsB g) g j) (by rw [outG_len]; exact hlt)
                    obtain ⟨p0, q0, p1, q1, v0, G0, G1, G2, e0', h0, hm, h1, hwb2, oo, d1, d2, iff, lq0, mq0, lq1, mq1⟩ := (HO2.out.below b2).open2 hmk (mixB_at HB.out)
                    injection e0' with e01 e02 e03
                    subst e01 e03
                    clear e02
                    have hmb := mixB_succ (f := eachB tailsB g) HB.out
                    have hnl : ((outG tailsB gs k).set k (mixB (eachB tailsB g) g j)).length = gs.length := by rw [List.length_set, outG_len]
                    have hml := mixB_len (eachB tailsB g) g j
                    obtain ⟨-, -, -, t3⟩ := h0.graph
                    rw [hml] at t3
                    have hdn : b.ops.dropLast.length = b.ops.length - 1 := List.length_dropLast
                    have hct : kOp.C W2 (some ao) b.ops.dropLast := by rw [List.dropLast_eq_take]; exact C_take gb2 _
                    have hFa : ∀ x, G0 x → w.heap.size ≤ x ∧ x < wr.heap.size := fun x hx => ⟨HF2.out x ((iff x).2 (.inl hx)), HLT.out x ((iff x).2 (.inl hx))⟩
                    have hFb : ∀ x, G1 x → w.heap.size ≤ x ∧ x < wr.heap.size := fun x hx => ⟨HF2.out x ((iff x).2 (.inr (.inl hx))), HLT.out x ((iff x).2 (.inr (.inl hx)))⟩
                    have hp1 := h1.row
                    have hadlt : (ao.add ((b.ops.length - 1) * 9)).block < w.heap.size := by
                      obtain ⟨ao', eao, u0, -⟩ := Op_at gbo hoo
                      injection eao with eao
                      rw [eao]
                      exact World.lt_of_cell u0
                    have hcb : b.ops.length ≤ cb := lb
                    have HDN := Lib.hid hdn
                    have HCT := Lib.hid hct
                    have HFa := Lib.hid hFa
                    have HFb := Lib.hid hFb
                    have HP1 := Lib.hid hp1
                    have HP1L : Hid (p1 < wr.heap.size) := Lib.hid (hFb _ hp1).2
                    have HN1 : Hid (p0 ≠ p1) := Lib.hid (fun e => d1 _ hp1 (e ▸ h0.row))
                    have HN2 : Hid (wr.heap.size ≠ p1) := Lib.hid (by have := (hFb _ hp1).2; omega)
                    have HN3 : Hid ((ao.add ((b.ops.length - 1) * 9)).block ≠ p1) := Lib.hid (by have := (hFb _ hp1).1; omega)
                    have HH0 := Lib.hid h0
                    have HH1 := Lib.hid h1
                    have HD1 := Lib.hid d1
                    have HM := Lib.hid hm
                    have HMB := Lib.hid hmb
                    have HNL := Lib.hid hnl
                    have HTO : Hid (0 ≤ o.to ∧ o.to < gs.length) := Lib.hid ⟨hto0, hton⟩
                    have S0 : ST W2 p0 k (.slice (some ⟨p1, 0, none⟩) g.blocks.length q1) wr.heap.size (.slice (some ao) b.ops.length cb) (ao.add ((b.ops.length - 1) * 9)) o.to := ⟨t3, x0, e7⟩
                    have hlq1 := len_le lq1 mq1
                    rw [hml] at lq1 hlq1
                    clear hke hn hat hr1 hr2 hoo hrel1 hkind1 hcall hto0 hton h20 h3 h21 htb htbe hmk h0 hm h1 hwb2 oo d1 d2 iff hmb hnl hml hdn hct hFa hFb hp1 gb gb2 gbo hCw
                    go_upto_region 11 with fail
                    have hwr : IntKind.i64.wrap ((b.ops.length - 1 : Nat) : Int) = ((b.ops.length - 1 : Nat) : Int) := IntWalk.i64_in _ (by omega)
                    have hwz : (0 : Int) ≤ ((b.ops.length - 1 : Nat) : Int) := by omega
                    have hwc : ((b.ops.length - 1 : Nat) : Int) ≤ (cb : Int) := by omega
                    have hwl : b.ops.length - 1 < b.ops.length := by omega
                    have hwt : ((b.ops.length - 1 : Nat) : Int).toNat = b.ops.length - 1 := by omega
                    clear e0 e1 e2 e3 e4 e5 e6 e7 e8 x0 x1 x2 x3 x4 x5 x6 x7 x8 x9 x10 x11 t3
                    refine wp_region_held_drew (S := (fun w' => ST w' p0 k (.slice (some ⟨p1, 0, none⟩) g.blocks.length q1) wr.heap.size (.slice (some ao) b.ops.length cb) (ao.add ((b.ops.length - 1) * 9)) o.to)) (by kernel_rfl) (S0) (fun hHeld => ?_)
                    refine wpAnyH_take (i := 0) (oi := _) (v := ?v11_1) rfl (by kernel_rfl) (by kernel_rfl) (by kernel_rfl) (fun _ _ _ h => h) (Or.inl ⟨by rfl, ?hy11_1⟩) hHeld ?_
                    case hy11_1 => (intro wS hSw; (try dsimp only at hSw); obtain ⟨s0, s1, s2⟩ := hSw; go_simp; try with_reducible rfl)
                    try simp only [List.getElem_toArray, List.getElem_cons_succ, List.getElem_cons_zero, Act.put, List.setIfInBounds_toArray, List.set_cons_zero, List.set_cons_succ]
                    refine wpAnyH_take (i := 1) (oi := _) (v := ?v11_2) rfl (by kernel_rfl) (by kernel_rfl) (by kernel_rfl) (fun _ _ _ h => h) (Or.inl ⟨by rfl, ?hy11_2⟩) hHeld ?_
                    case hy11_2 => (intro wS hSw; (try dsimp only at hSw); obtain ⟨s0, s1, s2⟩ := hSw; go_simp; try with_reducible rfl)
                    try simp only [List.getElem_toArray, List.getElem_cons_succ, List.getElem_cons_zero, Act.put, List.setIfInBounds_toArray, List.set_cons_zero, List.set_cons_succ]
                    refine wpAnyH_take (i := 2) (oi := _) (v := ?v11_3) rfl (by kernel_rfl) (by kernel_rfl) (by kernel_rfl) (fun _ _ _ h => h) (Or.inl ⟨by rfl, ?hy11_3⟩) hHeld ?_
                    case hy11_3 => (intro wS hSw; (try dsimp only at hSw); obtain ⟨s0, s1, s2⟩ := hSw; go_simp; try with_reducible rfl)
                    try simp only [List.getElem_toArray, List.getElem_cons_succ, List.getElem_cons_zero, Act.put, List.setIfInBounds_toArray, List.set_cons_zero, List.set_cons_succ]
                    refine wpAnyH_take (i := 3) (oi := _) (v := ?v11_4) rfl (by kernel_rfl) (by kernel_rfl) (by kernel_rfl) (fun _ _ _ h => h) (Or.inl ⟨by rfl, ?hy11_4⟩) hHeld ?_
                    case hy11_4 => (intro wS hSw; (try dsimp only at hSw); obtain ⟨s0, s1, s2⟩ := hSw; go_simp; try with_reducible rfl)
                    try simp only [List.getElem_toArray, List.getElem_cons_succ, List.getElem_cons_zero, Act.put, List.setIfInBounds_toArray, List.set_cons_zero, List.set_cons_succ]
                    refine wpAnyH_take (i := 4) (oi := _) (v := ?v11_5) rfl (by kernel_rfl) (by kernel_rfl) (by kernel_rfl) (fun _ _ _ h => h) (Or.inl ⟨by rfl, ?hy11_5⟩) hHeld ?_
                    case hy11_5 => (intro wS hSw; (try dsimp only at hSw); obtain ⟨s0, s1, s2⟩ := hSw; go_simp; try with_reducible rfl)
                    try simp only [List.getElem_toArray, List.getElem_cons_succ, List.getElem_cons_zero, Act.put, List.setIfInBounds_toArray, List.set_cons_zero, List.set_cons_succ]
                    refine wpAnyH_take (i := 5) (oi := _) (v := ?v11_6) rfl (by kernel_rfl) (by kernel_rfl) (by kernel_rfl) (fun _ _ _ h => h) (Or.inl ⟨by rfl, ?hy11_6⟩) hHeld ?_
                    case hy11_6 => (intro wS hSw; (try dsimp only at hSw); obtain ⟨s0, s1, s2⟩ := hSw; go_simp; try with_reducible rfl)
                    try simp only [List.getElem_toArray, List.getElem_cons_succ, List.getElem_cons_zero, Act.put, List.setIfInBounds_toArray, List.set_cons_zero, List.set_cons_succ]
                    refine wpAnyH_take (i := 7) (oi := _) (v := ?v11_7) rfl (by kernel_rfl) (by kernel_rfl) (by kernel_rfl) (fun _ _ _ h => h) (Or.inl ⟨by rfl, ?hy11_7⟩) hHeld ?_
                    case hy11_7 => (intro wS hSw; (try dsimp only at hSw); obtain ⟨s0, s1, s2⟩ := hSw; go_simp; try with_reducible rfl)
                    try simp only [List.getElem_toArray, List.getElem_cons_succ, List.getElem_cons_zero, Act.put, List.setIfInBounds_toArray, List.set_cons_zero, List.set_cons_succ]
                    refine wpAnyH_take (i := 8) (oi := _) (v := ?v11_8) rfl (by kernel_rfl) (by kernel_rfl) (by kernel_rfl) (fun _ _ _ h => h) (Or.inl ⟨by rfl, ?hy11_8⟩) hHeld ?_
                    case hy11_8 => (intro wS hSw; (try dsimp only at hSw); obtain ⟨s0, s1, s2⟩ := hSw; go_simp; try with_reducible rfl)
                    try simp only [List.getElem_toArray, List.getElem_cons_succ, List.getElem_cons_zero, Act.put, List.setIfInBounds_toArray, List.set_cons_zero, List.set_cons_succ]
                    refine wpAnyH_take (i := 9) (oi := _) (v := ?v11_9) rfl (by kernel_rfl) (by kernel_rfl) (by kernel_rfl) (fun _ _ _ h => h) (Or.inl ⟨by rfl, ?hy11_9⟩) hHeld ?_
                    case hy11_9 => (intro wS hSw; (try dsimp only at hSw); obtain ⟨s0, s1, s2⟩ := hSw; go_simp; try with_reducible rfl)
                    try simp only [List.getElem_toArray, List.getElem_cons_succ, List.getElem_cons_zero, Act.put, List.setIfInBounds_toArray, List.set_cons_zero, List.set_cons_succ]
                    refine wpAnyH_take (i := 10) (oi := _) (v := ?v11_10) rfl (by kernel_rfl) (by kernel_rfl) (by kernel_rfl) (fun _ _ _ h => h) (Or.inl ⟨by rfl, ?hy11_10⟩) hHeld ?_
                    case hy11_10 => (intro wS hSw; (try dsimp only at hSw); obtain ⟨s0, s1, s2⟩ := hSw; go_simp; try with_reducible rfl)
                    try simp only [List.getElem_toArray, List.getElem_cons_succ, List.getElem_cons_zero, Act.put, List.setIfInBounds_toArray, List.set_cons_zero, List.set_cons_succ]
                    refine wpAnyH_take (i := 11) (oi := _) (v := ?v11_11) rfl (by kernel_rfl) (by kernel_rfl) (by kernel_rfl) (fun _ _ _ h => h) (Or.inl ⟨by rfl, ?hy11_11⟩) hHeld ?_
                    case hy11_11 => (intro wS hSw; (try dsimp only at hSw); obtain ⟨s0, s1, s2⟩ := hSw; go_simp; try with_reducible rfl)
                    try simp only [List.getElem_toArray, List.getElem_cons_succ, List.getElem_cons_zero, Act.put, List.setIfInBounds_toArray, List.set_cons_zero, List.set_cons_succ]
                    refine wpAnyH_take (i := 13) (oi := _) (v := ?v11_12) rfl (by kernel_rfl) (by kernel_rfl) (by kernel_rfl) (fun _ _ _ h => h) (Or.inl ⟨by rfl, ?hy11_12⟩) hHeld ?_
                    case hy11_12 => (intro wS hSw; (try dsimp only at hSw); obtain ⟨s0, s1, s2⟩ := hSw; go_simp; try with_reducible rfl)
                    try simp only [List.getElem_toArray, List.getElem_cons_succ, List.getElem_cons_zero, Act.put, List.setIfInBounds_toArray, List.set_cons_zero, List.set_cons_succ]
                    refine wpAnyH_take (i := 14) (oi := _) (v := ?v11_13) rfl (by kernel_rfl) (by kernel_rfl) (by kernel_rfl) (fun _ _ _ h => h) (Or.inl ⟨by rfl, ?hy11_13⟩) hHeld ?_
                    case hy11_13 => (intro wS hSw; (try dsimp only at hSw); obtain ⟨s0, s1, s2⟩ := hSw; go_simp; try with_reducible rfl)
                    try simp only [List.getElem_toArray, List.getElem_cons_succ, List.getElem_cons_zero, Act.put, List.setIfInBounds_toArray, List.set_cons_zero, List.set_cons_succ]
                    refine wpAnyH_take (i := 15) (oi := _) (v := ?v11_14) rfl (by kernel_rfl) (by kernel_rfl) (by kernel_rfl) (fun _ _ _ h => h) (Or.inl ⟨by rfl, ?hy11_14⟩) hHeld ?_
                    case hy11_14 => (intro wS hSw; (try dsimp only at hSw); obtain ⟨s0, s1, s2⟩ := hSw; go_simp; try with_reducible rfl)
                    try simp only [List.getElem_toArray, List.getElem_cons_succ, List.getElem_cons_zero, Act.put, List.setIfInBounds_toArray, List.set_cons_zero, List.set_cons_succ]
                    refine wpAnyH_take (i := 16) (oi := _) (v := ?v11_15) rfl (by kernel_rfl) (by kernel_rfl) (by kernel_rfl) (fun _ _ _ h => h) (Or.inl ⟨by rfl, ?hy11_15⟩) hHeld ?_
                    case hy11_15 => (intro wS hSw; (try dsimp only at hSw); obtain ⟨s0, s1, s2⟩ := hSw; go_simp; try with_reducible rfl)
                    try simp only [List.getElem_toArray, List.getElem_cons_succ, List.getElem_cons_zero, Act.put, List.setIfInBounds_toArray, List.set_cons_zero, List.set_cons_succ]
                    refine wpAnyH_take (i := 17) (oi := _) (v := ?v11_16) rfl (by kernel_rfl) (by kernel_rfl) (by kernel_rfl) (fun _ _ _ h => h) (Or.inl ⟨by rfl, ?hy11_16⟩) hHeld ?_
                    case hy11_16 => (intro wS hSw; (try dsimp only at hSw); obtain ⟨s0, s1, s2⟩ := hSw; go_simp; try with_reducible rfl)
                    try simp only [List.getElem_toArray, List.getElem_cons_succ, List.getElem_cons_zero, Act.put, List.setIfInBounds_toArray, List.set_cons_zero, List.set_cons_succ]
                    refine wpAnyH_take (i := 18) (oi := _) (v := ?v11_17) rfl (by kernel_rfl) (by kernel_rfl) (by kernel_rfl) (fun _ _ _ h => h) (Or.inl ⟨by rfl, ?hy11_17⟩) hHeld ?_
                    case hy11_17 => (intro wS hSw; (try dsimp only at hSw); obtain ⟨s0, s1, s2⟩ := hSw; go_simp; try with_reducible rfl)
                    try simp only [List.getElem_toArray, List.getElem_cons_succ, List.getElem_cons_zero, Act.put, List.setIfInBounds_toArray, List.set_cons_zero, List.set_cons_succ]
                    refine wpAnyH_take (i := 19) (oi := _) (v := ?v11_18) rfl (by kernel_rfl) (by kernel_rfl) (by kernel_rfl) (fun _ _ _ h => h) (Or.inl ⟨by rfl, ?hy11_18⟩) hHeld ?_
                    case hy11_18 => (intro wS hSw; (try dsimp only at hSw); obtain ⟨s0, s1, s2⟩ := hSw; go_simp; try with_reducible rfl)
                    try simp only [List.getElem_toArray, List.getElem_cons_succ, List.getElem_cons_zero, Act.put, List.setIfInBounds_toArray, List.set_cons_zero, List.set_cons_succ]
                    refine wpAnyH_take (i := 20) (oi := _) (v := ?v11_19) rfl (by kernel_rfl) (by kernel_rfl) (by kernel_rfl) (fun _ _ _ h => h) (Or.inl ⟨by rfl, ?hy11_19⟩) hHeld ?_
                    case hy11_19 => (intro wS hSw; (try dsimp only at hSw); obtain ⟨s0, s1, s2⟩ := hSw; go_simp; try with_reducible rfl)
                    try simp only [List.getElem_toArray, List.getElem_cons_succ, List.getElem_cons_zero, Act.put, List.setIfInBounds_toArray, List.set_cons_zero, List.set_cons_succ]
                    refine wpAnyH_ready (rs := [6]) (by kernel_rfl) (by simp) ?_
                    refine (AllReadyH.cons (o := _) rfl (fun K hK => ?_) AllReadyH.nil)
                    go_simp
                    clear hwr hwz hwc hwt hwl
                    have b6 : Below W2.heap.size W2 (W2.drew.alloc (.cells #[] 45)) := (Below.refl _ _).drew.trans (below_alloc' W2.drew _)
                    have S6 := S0.sub (Sub.of_below b6)
                    have C6 := Kd.C_mono b6 HCT.out
                    refine hK.out _ _ (S6) (fun hHeld20 => ?_)
                    clear hK K hHeld
                    try simp only [List.getElem_toArray, List.getElem_cons_succ, List.getElem_cons_zero, Act.put, List.setIfInBounds_toArray, List.set_cons_zero, List.set_cons_succ]
                    refine wpAnyH_ready (rs := [12]) (by kernel_rfl) (by simp) ?_
                    refine (AllReadyH.cons (o := _) rfl (fun K hK => ?_) AllReadyH.nil)
                    refine step_append_f (k := oOp) elOp rfl _ _ rfl (A := some ao) (c := cb) (OwnF.empty oOp 45 W2.drew) (YF.flat C6) (fun _ _ h => h) rfl (by show _ = Value.slice _ b.ops.dropLast.length _; rw [HDN.out]; rfl) (by rw [HDN.out]; simp; omega) ?_
                    intro v9 w9 hg9
                    obtain ⟨⟨F9, own9, hF9⟩, hgr9⟩ := hg9
                    rw [List.nil_append] at own9
                    have t9 : Below W2.heap.size W2 w9 := b6.grown hgr9 b6.size (fun j hj => by (injection hj with hj; subst hj; exact Nat.le_refl _))
                    have hF9' : ∀ b, F9 b → W2.heap.size ≤ b := fun b hb => by (rcases hF9 b hb with h | h | h; exact Nat.le_of_eq h.symm; exact h.elim; exact Nat.le_trans b6.size h)
                    obtain ⟨A9, c9, hv9, l9, m9, hC9⟩ := own9.read
                    rw [HDN.out] at hv9
                    subst hv9
                    have S9 := S0.sub (Sub.of_below t9)
                    have HF9 := Lib.hid hF9'
                    have OW9 := Lib.hid own9
                    clear hF9 hF9' own9 hC9 l9 m9
                    refine hK.out _ _ (S9) (fun hHeld21 => ?_)
                    clear hK K hHeld20
                    try simp only [List.getElem_toArray, List.getElem_cons_succ, List.getElem_cons_zero, Act.put, List.setIfInBounds_toArray, List.set_cons_zero, List.set_cons_succ]
                    refine wpAnyH_take (i := 21) (oi := _) (v := ?v11_22) rfl (by kernel_rfl) (by kernel_rfl) (by kernel_rfl) (fun _ _ _ h => h) (Or.inl ⟨by rfl, ?hy11_22⟩) hHeld21 ?_
                    case hy11_22 => (intro wS hSw; (try dsimp only at hSw); obtain ⟨s0, s1, s2⟩ := hSw; go_simp; try with_reducible rfl)
                    try simp only [List.getElem_toArray, List.getElem_cons_succ, List.getElem_cons_zero, Act.put, List.setIfInBounds_toArray, List.set_cons_zero, List.set_cons_succ]
                    refine wpAnyH_take (i := 22) (oi := _) (v := ?v11_23) rfl (by kernel_rfl) (by kernel_rfl) (by kernel_rfl) (fun _ _ _ h => h) (Or.inl ⟨by rfl, ?hy11_23⟩) hHeld21 ?_
                    case hy11_23 => (intro wS hSw; (try dsimp only at hSw); obtain ⟨s0, s1, s2⟩ := hSw; go_simp; try with_reducible rfl)
                    try simp only [List.getElem_toArray, List.getElem_cons_succ, List.getElem_cons_zero, Act.put, List.setIfInBounds_toArray, List.set_cons_zero, List.set_cons_succ]
                    refine wpAnyH_ready (rs := [23]) (by kernel_rfl) (by simp) ?_
                    refine (AllReadyH.cons (o := _) rfl (fun K hK => ?_) AllReadyH.nil)
                    have hh1 := HH1.out.below t9
                    refine step_put_hole rfl 43 _ _ rfl p1 (blockCells (.slice A9 (b.ops.length - 1) c9) ⟨b.ops.dropLast, tailTerm o.to⟩) rfl rfl hh1 (by kernel_rfl) rfl (blockCells_one _) ?_
                    intro w5 hh5 g5 s5
                    have S5 : ST w5 p0 k (.slice (some ⟨p1, 0, none⟩) g.blocks.length q1) wr.heap.size (.slice (some ao) b.ops.length cb) (ao.add ((b.ops.length - 1) * 9)) o.to := S9.grown g5 HN1.out HN2.out HN3.out
                    refine hK.out _ _ (S5) (fun hHeld24 => ?_)
                    clear hK K hHeld21
                    try simp only [List.getElem_toArray, List.getElem_cons_succ, List.getElem_cons_zero, Act.put, List.setIfInBounds_toArray, List.set_cons_zero, List.set_cons_succ]
                    refine wpAnyH_done (by kernel_rfl) ?_ _
                    clear s5
                    have h0' := (HH0.out.below t9).grown g5 (fun x hx e => by injection e with e; subst e; exact HD1.out _ HP1.out hx)
                    have o9' := OW9.out.grown g5 (fun x hx e => by injection e with e; subst e; have := HF9.out _ hx; have := HP1L.out; have := b2.size; omega)
                    have hcl := close2 (b' := ⟨b.ops.dropLast, tailTerm o.to⟩) (v' := .slice A9 (b.ops.length - 1) c9) (F2 := F9) h0' HM.out hh5 (tailTerm_wf HWB.out HTO.out.1 (by have := HTO.out.2; omega)) o9' HD1.out (fun x hx => ⟨fun hx' => by have := (HFa.out x hx').2; have := HF9.out x hx; have := b2.size; omega, fun hx' => by have := (HFb.out x hx').2; have := HF9.out x hx; have := b2.size; omega⟩)
                    rw [← HTB.out, HMB.out, List.set_set, HNL.out] at hcl
                    have hgrow := (hbr.trans ((b2.trans (t9.mono b2.size)).mono hbr.size)).grown g5 (Nat.le_trans hbr.size (Nat.le_trans b2.size t9.size)) (fun x hx => by injection hx with hx; subst hx; exact (HFb.out _ HP1.out).1)
                    have HCL := Lib.hid hcl
                    have HGW := Lib.hid hgrow
                    clear h0' o9' hcl hgrow hh5 hh1 g5
                    go_wp2_with fail
                    exact ⟨⟨j + 1, _, by omega, by go_num, HCL.out, fun x hx => by (rcases hx with h | h | h; exact (HFa.out x h).1; exact (HFb.out x h).1; exact Nat.le_trans hbr.size (Nat.le_trans b2.size (HF9.out x h))), HGW.out⟩, by simp [intOf]; omega⟩
                  · have y2 : (b.fin.ins.op == 21) = false := by simp [h21]
                    have HSM := Lib.hid (HSAME.out (.inl (by rw [hat, if_neg (fun h => h21 h.2.1)])))
                    clear hke hn hat hr1 hr2 hoo hrel1 hkind1 hcall hto0 hton h20 h3 h21
                    go_wp2_with fail
                    exact ⟨⟨j + 1, F, by omega, by go_num, HSM.out ▸ HO2.out.below b2, HF2.out, hbr.trans (b2.mono hbr.size)⟩, by simp [intOf]; omega⟩
                · have y1 : (b.fin.kind == 3) = false := by simp [h3]
                  have HSM := Lib.hid (HSAME.out (.inl (by rw [hat, if_neg (fun h => h3 h.1)])))
                  clear hke hn hat hr1 hr2 hoo hrel1 hkind1 hcall hto0 hton h20 h3
                  go_wp2_with fail
                  exact ⟨⟨j + 1, F, by omega, by go_num, HSM.out ▸ HO2.out.below b2, HF2.out, hbr.trans (b2.mono hbr.size)⟩, by simp [intOf]; omega⟩
              · have y0 : (o.ins.op == 20) = false := by simp [h20]
                have HSM := Lib.hid (HSAME.out (.inl (by rw [hat, if_neg (fun h => by have := hr2 h20; omega)])))
                clear hke hn hat hr1 hr2 hoo h20
                go_wp2_with fail
                exact ⟨⟨j + 1, F, by omega, by go_num, HSM.out ▸ HO2.out.below b2, HF2.out, hbr.trans (b2.mono hbr.size)⟩, by simp [intOf]; omega⟩
        · obtain rfl : j = g.blocks.length := by omega
          rw [mixB_each, HSU.out] at ho
          have HO3 := Lib.hid ho
          clear ho
          go_wp2_with fail
          exact ⟨⟨k + 1, F, by omega, by go_num, HO3.out, hF, hbr⟩, by simp [intOf]; omega⟩
    · obtain rfl : k = gs.length := by omega
      rw [outG_all] at ho
      have hl : (gs.map (eachG tailsB)).length = gs.length := by simp
      have HL := Lib.hid hl
      have HO := Lib.hid ho
      clear hl ho
      go_wp2_with fail
      go_ret
      refine ⟨A1, c1, F, by simp, ?_, hF, hbr⟩
      show OwnF _ _ _ (.slice A1 (gs.map (eachG tailsB)).length c1) (gs.map (eachG tailsB)) F
      rw [HL.out]
      exact HO.out
end Go.Proofs.Ytobhjjbhlnbcpaa
