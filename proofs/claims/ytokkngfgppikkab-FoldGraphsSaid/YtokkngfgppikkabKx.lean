/- The document's At, of layer 20. Printed by genKx.py of this repository. -/
import Derived.Test.YtokkngfgppikkabKl
import Derived.Test.YtokkngfgppikkabKw
namespace Go.Proofs.Ytokkngfgppikkab
set_option linter.unusedVariables false
set_option linter.unusedSimpArgs false
open Go.RowKit
attribute [local go_sem high] eqKnown eqKnown_zero

theorem upto_succ {P : Nat → Prop} {n : Nat} (h : ∀ d, d < n → P d) (hn : P n) : ∀ d, d < n + 1 → P d := fun d hd => by
  by_cases e : d = n
  · subst e; exact hn
  · exact h d (by omega)
set_option maxHeartbeats 8000000 in
set_option maxRecDepth 100000 in
theorem refAt_calls (nm : ByteArray) (kp lf : Bool) (A : Option Addr) (c : Nat) (bs : List Block) (w : World) (hC : kBlock.C w A bs) (hl : bs.length ≤ 1000) (hok : BsOk bs) (h300 : ∀ b ∈ bs, b.ops.length ≤ 300) (hpos : 0 < bs.length) : Calls Try.prog 39 #[.agg #[.string nm, .bool kp, .bool lf, .slice A bs.length c]] w (MadeK w bs) := by
  have b0 := below_alloc' w (.cells #[.string nm, .bool kp, .bool lf, .slice A bs.length c] 24)
  have r0 : Row (w.alloc (.cells #[.string nm, .bool kp, .bool lf, .slice A bs.length c] 24)) w.heap.size 24 [.string nm, .bool kp, .bool lf, .slice A bs.length c] := Row.new w _ _
  have hlo : bs.length ≤ 9223372036854775807 := by omega
  have HOK := Lib.hid hok
  have H3 := Lib.hid h300
  clear hok h300
  go_enter Try.func39, Try.ntmps39
  go_upto_region 1 with fail
  generalize w.alloc (.cells #[.string nm, .bool kp, .bool lf, .slice A bs.length c] 24) = W at *
  have x3 := r0.cell (j := 3) rfl
  obtain ⟨W1, hmk, own1, hb1, hz1⟩ := make_knowns bs.length (by omega) W
  have HO1 := Lib.hid own1
  clear own1 hz1
  go_upto_region 2 with fail
  have t1 := b0.trans (hb1.mono b0.size)
  have r1 := r0.below hb1
  have hGl := r0.lt
  have hGw := b0.size
  clear x3 hmk r0 b0 hb1
  generalize hH : W.heap.size = H at *
  clear hH
  go_wp2_with fail
  refine (zero_calls _).mono ?_
  rintro e w2 ⟨rfl, hb2⟩
  obtain ⟨-, hole2, -⟩ := (HO1.out.below hb2).openKnown (q := 0) (x := Known.zero) (by rw [List.getElem?_replicate, if_pos hpos])
  have r2 := r1.below hb2
  have t2 := t1.trans (hb2.mono t1.size)
  clear r1 t1 HO1
  go_wp2_with (refine wpList_put_hole rfl 77 _ _ rfl H (knownCells Known.none) rfl rfl hole2 (infoKnown Known.none_wf) (knownCells_len Known.none_wf) (knownCells_one _) ?_; intro w3 h3 g3 s3)
  have own3 := h3.closeKnown Known.none_wf
  rw [List.length_replicate] at own3
  have r3 := r2.grown g3 (fun e => by injection e with e; omega)
  have t3 := t2.grown g3 t2.size (fun j hj => by injection hj with hj; subst hj; omega)
  have HR3 := Lib.hid r3
  have HO3 := Lib.hid own3
  have HST := Lib.hid (AtI.start hpos)
  clear own3 r3 r2 hole2 h3 g3 s3 hb2 t2
  simp only [Act.put]
  go_loopg [] (roomK ((List.replicate bs.length Known.zero).set 0 Known.none)) (fun g wr => ∃ (ins : List Known), g = roomK ins ∧ AtI bs ins ∧ OwnF oKnown 77 wr (.slice (some ⟨H, 0, none⟩) bs.length bs.length) ins (fun b => b = H) ∧ Below w.heap.size w wr ∧ w3.grownBy wr (some H))
  case atStart => exact ⟨_, rfl, HST.out, HO3.out, t3, grown_none _ _⟩
  case round =>
    obtain ⟨ins0, hgk, hinv, ho, hbr, hgr⟩ := hrel
    have HIV := Lib.hid hinv
    have HO := Lib.hid ho
    have HGK := Lib.hid hgk
    clear hinv ho hgk
    go_wp2_with fail
    go_loopw [4, 5] (fun v4 v5 wr => ∃ (i : Nat) (ins : List Known) (fin : Bool), i ≤ bs.length ∧ v5 = .int .i64 i ∧ v4 = .bool fin ∧ AtI bs ins ∧ OwnF oKnown 77 wr (.slice (some ⟨H, 0, none⟩) bs.length bs.length) ins (fun b => b = H) ∧ (fin = false → roomK ins < roomK ins0) ∧ (fin = true → ins = ins0 ∧ PostTo bs ins i) ∧ Below w.heap.size w wr ∧ w3.grownBy wr (some H)) (fun _ v _ => bs.length - (intOf v).toNat)
    case atStart => exact ⟨0, ins0, true, Nat.zero_le _, rfl, rfl, HIV.out, HO.out, fun h => (by cases h), fun _ => ⟨rfl, fun i b hi => absurd hi (Nat.not_lt_zero _)⟩, hbr, hgr⟩
    case round =>
      clear HIV HO hbr hgr
      obtain ⟨i, ins, fin, hi, rfl, rfl, hinv, ho, hmt, hmf, hbr, hgr⟩ := hrel
      by_cases hil : i < bs.length
      · obtain ⟨b, hb⟩ := get_some bs i hil
        have hbm := List.mem_of_getElem? hb
        obtain ⟨f, hf⟩ := HOK.out.fin hbm
        have hops := HOK.out.ops hbm
        have hol : b.ops.length ≤ 1000 := Nat.le_trans (H3.out b hbm) (by decide)
        obtain ⟨x, hx⟩ := get_some ins i (by rw [hinv.len]; exact hil)
        have hgx := hinv.good i
        rw [getK_get hx] at hgx
        have hwx := hgx.1
        have hxr := (ho.krange hx).1
        obtain ⟨ab, Ab, cb, rfl, i0, i1, i2, i3, i4, i5, i6, i7, i8, i9, i10, i11, hbwf, lb, mb, gb⟩ := Block_at (Kd.C_mono hbr hC) hb
        have x3 := (HR3.out.grown hgr (fun e => by injection e with e; omega)).cell (j := 3) rfl
        have HB := Lib.hid hb
        have HBM := Lib.hid hbm
        have HF := Lib.hid hf
        have HOPS := Lib.hid hops
        have HOL := Lib.hid hol
        have HINV := Lib.hid hinv
        have HO := Lib.hid ho
        have HMT := Lib.hid hmt
        have HMF := Lib.hid hmf
        have HX := Lib.hid hx
        have HGX := Lib.hid hgx
        have hHl : H < wr.heap.size := ho.lt H rfl
        have hilI : (i : Int) < (bs.length : Int) := by omega
        clear hb hbm hf hops hinv ho hmt hmf hx hgx
        have hc8 := rangeAt_re hxr
        cases hre : x.reached with
        | false =>
          rw [hre] at hc8
          have HRE := Lib.hid hre
          clear hre
          go_wp2_with fail
          exact ⟨⟨i + 1, ins, fin, by omega, by go_num, rfl, HINV.out, HO.out, HMT.out, fun h => ⟨(HMF.out h).1, (HMF.out h).2.succ HB.out (fun hr => by rw [getK_get HX.out, HRE.out] at hr; cases hr)⟩, hbr, hgr⟩, by first | (simp [intOf]; done) | (simp [intOf]; omega)⟩
        | true =>
          rw [hre] at hc8
          have HRE := Lib.hid hre
          clear hre
          go_upto_region 8 with fail
          have hh := HINV.out.hand HOK.out HB.out (by rw [getK_get HX.out]; exact HRE.out)
          rw [getK_get HX.out] at hh
          generalize hkk0 : behindOps b.ops x = kk at *
          have HKK := Lib.hid hkk0
          have HH := Lib.hid hh
          have hkk := hh.good.1
          clear hkk0 hh hc8
          go_cut [6] (fun v wx => ∃ Gk, v = .pointer (some ⟨Gk, 0, none⟩) ∧ Row wx Gk 77 (knownCells kk) ∧ wr.heap.size ≤ Gk ∧ Below wr.heap.size wr wx)
          case first =>
            refine wp_region_held_drew (S := (fun w' => Below wr.heap.size wr w')) (by kernel_rfl) ((Below.refl wr.heap.size wr).drew) (fun hHeld => ?_)
            refine wpAnyH_take (i := 0) (oi := _) (v := ?v8m1_1) rfl (by kernel_rfl) (by kernel_rfl) (by kernel_rfl) (fun _ _ _ h => h) (Or.inl ⟨by rfl, ?hy8m1_1⟩) hHeld ?_
            case hy8m1_1 => (intro wS hSw; (try dsimp only at hSw); have cx3 := (Below.cell hSw (World.lt_of_cell x3)).trans x3; have ci0 := (Below.cell hSw (World.lt_of_cell i0)).trans i0; have ci1 := (Below.cell hSw (World.lt_of_cell i1)).trans i1; have ci2 := (Below.cell hSw (World.lt_of_cell i2)).trans i2; have ci3 := (Below.cell hSw (World.lt_of_cell i3)).trans i3; have ci4 := (Below.cell hSw (World.lt_of_cell i4)).trans i4; have ci5 := (Below.cell hSw (World.lt_of_cell i5)).trans i5; have ci6 := (Below.cell hSw (World.lt_of_cell i6)).trans i6; have ci7 := (Below.cell hSw (World.lt_of_cell i7)).trans i7; have ci8 := (Below.cell hSw (World.lt_of_cell i8)).trans i8; have ci9 := (Below.cell hSw (World.lt_of_cell i9)).trans i9; have ci10 := (Below.cell hSw (World.lt_of_cell i10)).trans i10; have ci11 := (Below.cell hSw (World.lt_of_cell i11)).trans i11; clear hSw; go_simp; try with_reducible rfl)
            try simp only [List.getElem_toArray, List.getElem_cons_succ, List.getElem_cons_zero, Act.put, List.setIfInBounds_toArray, List.set_cons_zero, List.set_cons_succ]
            refine wpAnyH_take (i := 1) (oi := _) (v := ?v8m1_2) rfl (by kernel_rfl) (by kernel_rfl) (by kernel_rfl) (fun _ _ _ h => h) (Or.inl ⟨by rfl, ?hy8m1_2⟩) hHeld ?_
            case hy8m1_2 => (intro wS hSw; (try dsimp only at hSw); have cx3 := (Below.cell hSw (World.lt_of_cell x3)).trans x3; have ci0 := (Below.cell hSw (World.lt_of_cell i0)).trans i0; have ci1 := (Below.cell hSw (World.lt_of_cell i1)).trans i1; have ci2 := (Below.cell hSw (World.lt_of_cell i2)).trans i2; have ci3 := (Below.cell hSw (World.lt_of_cell i3)).trans i3; have ci4 := (Below.cell hSw (World.lt_of_cell i4)).trans i4; have ci5 := (Below.cell hSw (World.lt_of_cell i5)).trans i5; have ci6 := (Below.cell hSw (World.lt_of_cell i6)).trans i6; have ci7 := (Below.cell hSw (World.lt_of_cell i7)).trans i7; have ci8 := (Below.cell hSw (World.lt_of_cell i8)).trans i8; have ci9 := (Below.cell hSw (World.lt_of_cell i9)).trans i9; have ci10 := (Below.cell hSw (World.lt_of_cell i10)).trans i10; have ci11 := (Below.cell hSw (World.lt_of_cell i11)).trans i11; clear hSw; go_simp; try with_reducible rfl)
            try simp only [List.getElem_toArray, List.getElem_cons_succ, List.getElem_cons_zero, Act.put, List.setIfInBounds_toArray, List.set_cons_zero, List.set_cons_succ]
            refine wpAnyH_take (i := 2) (oi := _) (v := ?v8m1_3) rfl (by kernel_rfl) (by kernel_rfl) (by kernel_rfl) (fun _ _ _ h => h) (Or.inl ⟨by rfl, ?hy8m1_3⟩) hHeld ?_
            case hy8m1_3 => (intro wS hSw; (try dsimp only at hSw); have cx3 := (Below.cell hSw (World.lt_of_cell x3)).trans x3; have ci0 := (Below.cell hSw (World.lt_of_cell i0)).trans i0; have ci1 := (Below.cell hSw (World.lt_of_cell i1)).trans i1; have ci2 := (Below.cell hSw (World.lt_of_cell i2)).trans i2; have ci3 := (Below.cell hSw (World.lt_of_cell i3)).trans i3; have ci4 := (Below.cell hSw (World.lt_of_cell i4)).trans i4; have ci5 := (Below.cell hSw (World.lt_of_cell i5)).trans i5; have ci6 := (Below.cell hSw (World.lt_of_cell i6)).trans i6; have ci7 := (Below.cell hSw (World.lt_of_cell i7)).trans i7; have ci8 := (Below.cell hSw (World.lt_of_cell i8)).trans i8; have ci9 := (Below.cell hSw (World.lt_of_cell i9)).trans i9; have ci10 := (Below.cell hSw (World.lt_of_cell i10)).trans i10; have ci11 := (Below.cell hSw (World.lt_of_cell i11)).trans i11; clear hSw; go_simp; try with_reducible rfl)
            try simp only [List.getElem_toArray, List.getElem_cons_succ, List.getElem_cons_zero, Act.put, List.setIfInBounds_toArray, List.set_cons_zero, List.set_cons_succ]
            refine wpAnyH_take (i := 3) (oi := _) (v := .agg (knownCells x).toArray) rfl (by kernel_rfl) (by kernel_rfl) (by kernel_rfl) (fun _ _ _ h => h) (yieldsIf_load_known _ x H (i * 33) hwx (fun wS hS => rangeAt_below hxr hS) rfl rfl rfl) hHeld ?_
            try simp only [List.getElem_toArray, List.getElem_cons_succ, List.getElem_cons_zero, Act.put, List.setIfInBounds_toArray, List.set_cons_zero, List.set_cons_succ]
            refine wpAnyH_take (i := 4) (oi := _) (v := ?v8m1_5) rfl (by kernel_rfl) (by kernel_rfl) (by kernel_rfl) (fun _ _ _ h => h) (Or.inl ⟨by rfl, ?hy8m1_5⟩) hHeld ?_
            case hy8m1_5 => (intro wS hSw; (try dsimp only at hSw); have cx3 := (Below.cell hSw (World.lt_of_cell x3)).trans x3; have ci0 := (Below.cell hSw (World.lt_of_cell i0)).trans i0; have ci1 := (Below.cell hSw (World.lt_of_cell i1)).trans i1; have ci2 := (Below.cell hSw (World.lt_of_cell i2)).trans i2; have ci3 := (Below.cell hSw (World.lt_of_cell i3)).trans i3; have ci4 := (Below.cell hSw (World.lt_of_cell i4)).trans i4; have ci5 := (Below.cell hSw (World.lt_of_cell i5)).trans i5; have ci6 := (Below.cell hSw (World.lt_of_cell i6)).trans i6; have ci7 := (Below.cell hSw (World.lt_of_cell i7)).trans i7; have ci8 := (Below.cell hSw (World.lt_of_cell i8)).trans i8; have ci9 := (Below.cell hSw (World.lt_of_cell i9)).trans i9; have ci10 := (Below.cell hSw (World.lt_of_cell i10)).trans i10; have ci11 := (Below.cell hSw (World.lt_of_cell i11)).trans i11; clear hSw; go_simp; try with_reducible rfl)
            try simp only [List.getElem_toArray, List.getElem_cons_succ, List.getElem_cons_zero, Act.put, List.setIfInBounds_toArray, List.set_cons_zero, List.set_cons_succ]
            refine wpAnyH_take (i := 5) (oi := _) (v := ?v8m1_6) rfl (by kernel_rfl) (by kernel_rfl) (by kernel_rfl) (fun _ _ _ h => h) (Or.inl ⟨by rfl, ?hy8m1_6⟩) hHeld ?_
            case hy8m1_6 => (intro wS hSw; (try dsimp only at hSw); have cx3 := (Below.cell hSw (World.lt_of_cell x3)).trans x3; have ci0 := (Below.cell hSw (World.lt_of_cell i0)).trans i0; have ci1 := (Below.cell hSw (World.lt_of_cell i1)).trans i1; have ci2 := (Below.cell hSw (World.lt_of_cell i2)).trans i2; have ci3 := (Below.cell hSw (World.lt_of_cell i3)).trans i3; have ci4 := (Below.cell hSw (World.lt_of_cell i4)).trans i4; have ci5 := (Below.cell hSw (World.lt_of_cell i5)).trans i5; have ci6 := (Below.cell hSw (World.lt_of_cell i6)).trans i6; have ci7 := (Below.cell hSw (World.lt_of_cell i7)).trans i7; have ci8 := (Below.cell hSw (World.lt_of_cell i8)).trans i8; have ci9 := (Below.cell hSw (World.lt_of_cell i9)).trans i9; have ci10 := (Below.cell hSw (World.lt_of_cell i10)).trans i10; have ci11 := (Below.cell hSw (World.lt_of_cell i11)).trans i11; clear hSw; go_simp; try with_reducible rfl)
            try simp only [List.getElem_toArray, List.getElem_cons_succ, List.getElem_cons_zero, Act.put, List.setIfInBounds_toArray, List.set_cons_zero, List.set_cons_succ]
            refine wpAnyH_take (i := 6) (oi := _) (v := ?v8m1_7) rfl (by kernel_rfl) (by kernel_rfl) (by kernel_rfl) (fun _ _ _ h => h) (Or.inl ⟨by rfl, ?hy8m1_7⟩) hHeld ?_
            case hy8m1_7 => (intro wS hSw; (try dsimp only at hSw); have cx3 := (Below.cell hSw (World.lt_of_cell x3)).trans x3; have ci0 := (Below.cell hSw (World.lt_of_cell i0)).trans i0; have ci1 := (Below.cell hSw (World.lt_of_cell i1)).trans i1; have ci2 := (Below.cell hSw (World.lt_of_cell i2)).trans i2; have ci3 := (Below.cell hSw (World.lt_of_cell i3)).trans i3; have ci4 := (Below.cell hSw (World.lt_of_cell i4)).trans i4; have ci5 := (Below.cell hSw (World.lt_of_cell i5)).trans i5; have ci6 := (Below.cell hSw (World.lt_of_cell i6)).trans i6; have ci7 := (Below.cell hSw (World.lt_of_cell i7)).trans i7; have ci8 := (Below.cell hSw (World.lt_of_cell i8)).trans i8; have ci9 := (Below.cell hSw (World.lt_of_cell i9)).trans i9; have ci10 := (Below.cell hSw (World.lt_of_cell i10)).trans i10; have ci11 := (Below.cell hSw (World.lt_of_cell i11)).trans i11; clear hSw; go_simp; try with_reducible rfl)
            try simp only [List.getElem_toArray, List.getElem_cons_succ, List.getElem_cons_zero, Act.put, List.setIfInBounds_toArray, List.set_cons_zero, List.set_cons_succ]
            refine wpAnyH_take (i := 7) (oi := _) (v := ?v8m1_8) rfl (by kernel_rfl) (by kernel_rfl) (by kernel_rfl) (fun _ _ _ h => h) (Or.inl ⟨by rfl, ?hy8m1_8⟩) hHeld ?_
            case hy8m1_8 => (intro wS hSw; (try dsimp only at hSw); have cx3 := (Below.cell hSw (World.lt_of_cell x3)).trans x3; have ci0 := (Below.cell hSw (World.lt_of_cell i0)).trans i0; have ci1 := (Below.cell hSw (World.lt_of_cell i1)).trans i1; have ci2 := (Below.cell hSw (World.lt_of_cell i2)).trans i2; have ci3 := (Below.cell hSw (World.lt_of_cell i3)).trans i3; have ci4 := (Below.cell hSw (World.lt_of_cell i4)).trans i4; have ci5 := (Below.cell hSw (World.lt_of_cell i5)).trans i5; have ci6 := (Below.cell hSw (World.lt_of_cell i6)).trans i6; have ci7 := (Below.cell hSw (World.lt_of_cell i7)).trans i7; have ci8 := (Below.cell hSw (World.lt_of_cell i8)).trans i8; have ci9 := (Below.cell hSw (World.lt_of_cell i9)).trans i9; have ci10 := (Below.cell hSw (World.lt_of_cell i10)).trans i10; have ci11 := (Below.cell hSw (World.lt_of_cell i11)).trans i11; clear hSw; go_simp; try with_reducible rfl)
            try simp only [List.getElem_toArray, List.getElem_cons_succ, List.getElem_cons_zero, Act.put, List.setIfInBounds_toArray, List.set_cons_zero, List.set_cons_succ]
            refine wpAnyH_take (i := 8) (oi := _) (v := ?v8m1_9) rfl (by kernel_rfl) (by kernel_rfl) (by kernel_rfl) (fun _ _ _ h => h) (Or.inl ⟨by rfl, ?hy8m1_9⟩) hHeld ?_
            case hy8m1_9 => (intro wS hSw; (try dsimp only at hSw); have cx3 := (Below.cell hSw (World.lt_of_cell x3)).trans x3; have ci0 := (Below.cell hSw (World.lt_of_cell i0)).trans i0; have ci1 := (Below.cell hSw (World.lt_of_cell i1)).trans i1; have ci2 := (Below.cell hSw (World.lt_of_cell i2)).trans i2; have ci3 := (Below.cell hSw (World.lt_of_cell i3)).trans i3; have ci4 := (Below.cell hSw (World.lt_of_cell i4)).trans i4; have ci5 := (Below.cell hSw (World.lt_of_cell i5)).trans i5; have ci6 := (Below.cell hSw (World.lt_of_cell i6)).trans i6; have ci7 := (Below.cell hSw (World.lt_of_cell i7)).trans i7; have ci8 := (Below.cell hSw (World.lt_of_cell i8)).trans i8; have ci9 := (Below.cell hSw (World.lt_of_cell i9)).trans i9; have ci10 := (Below.cell hSw (World.lt_of_cell i10)).trans i10; have ci11 := (Below.cell hSw (World.lt_of_cell i11)).trans i11; clear hSw; go_simp; try with_reducible rfl)
            try simp only [List.getElem_toArray, List.getElem_cons_succ, List.getElem_cons_zero, Act.put, List.setIfInBounds_toArray, List.set_cons_zero, List.set_cons_succ]
            refine wpAnyH_ready (rs := [9, 10]) (by kernel_rfl) (by simp) ?_
            refine (AllReadyH.cons (o := _) rfl (fun K hK => ?_) (AllReadyH.cons (o := _) rfl (fun K hK => ?_) AllReadyH.nil))
            · go_simp
              have hE := hHeld
              refine (refEnd20_calls x b Ab cb _ hwx (Kd.C_mono hE gb) HOPS.out HOL.out).mono ?_
              rw [HKK.out]
              rintro e w5 ⟨rfl, hb5⟩
              clear hE
              go_wp2_with fail
              refine hK.out _ _ (hHeld.trans (hb5.mono (Below.size hHeld))) (fun hHeld10 => ?_)
              clear hK K hHeld
              try simp only [List.getElem_toArray, List.getElem_cons_succ, List.getElem_cons_zero, Act.put, List.setIfInBounds_toArray, List.set_cons_zero, List.set_cons_succ]
              refine wpAnyH_ready (rs := [10]) (by kernel_rfl) (by simp) ?_
              refine (AllReadyH.cons (o := _) rfl (fun K hK => ?_) AllReadyH.nil)
              go_simp
              have b6 := below_alloc' w5 (.cells #[.bool false, .bool false, .bool false, .bool false, .bool false, .bool false, .bool false, .bool false, .bool false, .bool false, .bool false, .bool false, .bool false, .bool false, .bool false, .bool false, .bool false, .int .u32 0, .int .u32 0, .int .u32 0, .int .u32 0, .int .u32 0, .int .u32 0, .int .u32 0, .int .u32 0, .int .u32 0, .int .u32 0, .int .u32 0, .int .u32 0, .int .u32 0, .int .u32 0, .int .u32 0, .int .u32 0] 77)
              have rn6 : Row (w5.alloc (.cells #[.bool false, .bool false, .bool false, .bool false, .bool false, .bool false, .bool false, .bool false, .bool false, .bool false, .bool false, .bool false, .bool false, .bool false, .bool false, .bool false, .bool false, .int .u32 0, .int .u32 0, .int .u32 0, .int .u32 0, .int .u32 0, .int .u32 0, .int .u32 0, .int .u32 0, .int .u32 0, .int .u32 0, .int .u32 0, .int .u32 0, .int .u32 0, .int .u32 0, .int .u32 0, .int .u32 0] 77)) w5.heap.size 77 (knownCells Known.zero) := Row.new w5 _ _
              refine hK.out _ _ (hHeld10.trans (b6.mono (Below.size hHeld10))) (fun hHeld11 => ?_)
              clear hK K hHeld10
              try simp only [List.getElem_toArray, List.getElem_cons_succ, List.getElem_cons_zero, Act.put, List.setIfInBounds_toArray, List.set_cons_zero, List.set_cons_succ]
              refine wpAnyH_ready (rs := [11]) (by kernel_rfl) (by simp) ?_
              refine (AllReadyH.cons (o := _) rfl (fun K hK => ?_) AllReadyH.nil)
              have hj0 : wr.heap.size ≤ w5.heap.size := Nat.le_trans (Below.size (Below.refl wr.heap.size wr).drew) hb5.size
              refine step_put_row rfl _ _ _ rfl (w5.heap.size) (knownCells kk) rfl rfl rn6 (infoKnown hkk) (by rw [knownCells_len hkk]; rfl) (knownCells_one _) ?_
              intro w7 r7 g7 s7
              clear s7
              refine hK.out _ _ (hHeld11.grown g7 (Below.size hHeld11) (fun j hj => by injection hj with hj; subst hj; exact hj0)) (fun hHeld12 => ?_)
              clear hK K hHeld11
              try simp only [List.getElem_toArray, List.getElem_cons_succ, List.getElem_cons_zero, Act.put, List.setIfInBounds_toArray, List.set_cons_zero, List.set_cons_succ]
              refine wpAnyH_done (by kernel_rfl) ?_ _
              (go_wp2_with fail; go_meet; exact ⟨_, rfl, r7, hj0, hHeld12⟩)
            · go_simp
              have b6 := below_alloc' wr.drew (.cells #[.bool false, .bool false, .bool false, .bool false, .bool false, .bool false, .bool false, .bool false, .bool false, .bool false, .bool false, .bool false, .bool false, .bool false, .bool false, .bool false, .bool false, .int .u32 0, .int .u32 0, .int .u32 0, .int .u32 0, .int .u32 0, .int .u32 0, .int .u32 0, .int .u32 0, .int .u32 0, .int .u32 0, .int .u32 0, .int .u32 0, .int .u32 0, .int .u32 0, .int .u32 0, .int .u32 0] 77)
              have rn6 : Row (wr.drew.alloc (.cells #[.bool false, .bool false, .bool false, .bool false, .bool false, .bool false, .bool false, .bool false, .bool false, .bool false, .bool false, .bool false, .bool false, .bool false, .bool false, .bool false, .bool false, .int .u32 0, .int .u32 0, .int .u32 0, .int .u32 0, .int .u32 0, .int .u32 0, .int .u32 0, .int .u32 0, .int .u32 0, .int .u32 0, .int .u32 0, .int .u32 0, .int .u32 0, .int .u32 0, .int .u32 0, .int .u32 0] 77)) wr.drew.heap.size 77 (knownCells Known.zero) := Row.new wr.drew _ _
              refine hK.out _ _ (hHeld.trans (b6.mono (Below.size hHeld))) (fun hHeld13 => ?_)
              clear hK K hHeld
              try simp only [List.getElem_toArray, List.getElem_cons_succ, List.getElem_cons_zero, Act.put, List.setIfInBounds_toArray, List.set_cons_zero, List.set_cons_succ]
              refine wpAnyH_ready (rs := [9]) (by kernel_rfl) (by simp) ?_
              refine (AllReadyH.cons (o := _) rfl (fun K hK => ?_) AllReadyH.nil)
              go_simp
              have hE := hHeld13
              refine (refEnd20_calls x b Ab cb _ hwx (Kd.C_mono hE gb) HOPS.out HOL.out).mono ?_
              rw [HKK.out]
              rintro e w5 ⟨rfl, hb5⟩
              clear hE
              have rn5 := rn6.below hb5
              go_wp2_with fail
              refine hK.out _ _ (hHeld13.trans (hb5.mono (Below.size hHeld13))) (fun hHeld14 => ?_)
              clear hK K hHeld13
              try simp only [List.getElem_toArray, List.getElem_cons_succ, List.getElem_cons_zero, Act.put, List.setIfInBounds_toArray, List.set_cons_zero, List.set_cons_succ]
              refine wpAnyH_ready (rs := [11]) (by kernel_rfl) (by simp) ?_
              refine (AllReadyH.cons (o := _) rfl (fun K hK => ?_) AllReadyH.nil)
              have hj0 : wr.heap.size ≤ wr.heap.size := Nat.le_refl _
              refine step_put_row rfl _ _ _ rfl (wr.heap.size) (knownCells kk) rfl rfl rn5 (infoKnown hkk) (by rw [knownCells_len hkk]; rfl) (knownCells_one _) ?_
              intro w7 r7 g7 s7
              clear s7
              refine hK.out _ _ (hHeld14.grown g7 (Below.size hHeld14) (fun j hj => by injection hj with hj; subst hj; exact hj0)) (fun hHeld15 => ?_)
              clear hK K hHeld14
              try simp only [List.getElem_toArray, List.getElem_cons_succ, List.getElem_cons_zero, Act.put, List.setIfInBounds_toArray, List.set_cons_zero, List.set_cons_succ]
              refine wpAnyH_done (by kernel_rfl) ?_ _
              (go_wp2_with fail; go_meet; exact ⟨_, rfl, r7, hj0, hHeld15⟩)
          case rest =>
            obtain ⟨Gk, rfl, RK0, hGk0, bc⟩ := hcut
            have hwin : ∀ d ∈ waysK kk b.fin, 0 ≤ d ∧ d < (bs.length : Int) := fun d hd => waysK_in HOK.out HBM.out kk hd
            have hgw : ∀ d : Nat, goesK kk b.fin (d : Int) = decide ((d : Int) ∈ waysK kk b.fin) := fun d => goesK_ways b.fin d HH.out.re
            have hab : b.fin.kind = 2 → (0 ≤ b.fin.a ∧ b.fin.a < 16) ∧ 0 ≤ b.fin.b ∧ b.fin.b < 16 := fun e => (Term.right_branch HF.out e).2.2.2
            have HWIN := Lib.hid hwin
            have HGW := Lib.hid hgw
            have HAB := Lib.hid hab
            have HGkH : H ≠ Gk := by omega
            have O9 := HO.out.below bc
            have t9 := hbr.trans (bc.mono hbr.size)
            have g9 := grown_trans hgr (grown_below bc (r := some H))
            have gc := grown_none wc (some H)
            generalize hBCE : wc = wb at *
            clear hBCE
            go_wp2_with fail
            go_loopw [4, 7] (fun v4 v7 wr => ∃ (dn : Nat) (ins' : List Known) (fin' : Bool), dn ≤ bs.length ∧ v7 = .int .i64 dn ∧ v4 = .bool fin' ∧ AtI bs ins' ∧ OwnF oKnown 77 wr (.slice (some ⟨H, 0, none⟩) bs.length bs.length) ins' (fun b => b = H) ∧ (fin' = false → roomK ins' < roomK ins0) ∧ (fin' = true → fin = true ∧ ins' = ins ∧ ∀ d : Nat, d < dn → (d : Int) ∈ waysK kk b.fin → LeK kk (getK ins' d)) ∧ Below w.heap.size w wr ∧ w3.grownBy wr (some H) ∧ wb.grownBy wr (some H)) (fun _ v _ => bs.length - (intOf v).toNat)
            case atStart => exact ⟨0, ins, fin, Nat.zero_le _, rfl, rfl, HINV.out, O9, HMT.out, fun h => ⟨h, rfl, fun d hd => absurd hd (Nat.not_lt_zero _)⟩, t9, g9, gc⟩
            case round =>
              clear O9 t9 g9 gc hxr i0 i1 i2 i3 i4 i5 i6 i7 i8 i9 i10 i11 x3 bc
              obtain ⟨dn, ins', fin', hdl, rfl, rfl, hinv, ho, hmt, hmf, hbr, hgr, hgb⟩ := hrel
              have HINV' := Lib.hid hinv
              have HMT' := Lib.hid hmt
              have HMF' := Lib.hid hmf
              by_cases hdn : dn < bs.length
              · obtain ⟨y, hy'⟩ := get_some ins' dn (by rw [hinv.len]; exact hdn)
                obtain ⟨hyr, hy⟩ := ho.krange hy'
                have gy := hinv.good dn
                rw [getK_get hy'] at gy
                have hjr := joinK_ref hy hkk gy.2
                have hjw := joinK_wf hy hkk
                have hset : (dn : Int) ∈ waysK kk b.fin → AtI bs (ins'.set dn (joinK y kk)) := fun hm => by
                  have h := hinv.set HOK.out HH.out hm hdn
                  rw [getK_get hy'] at h
                  exact h
                have hlow : joinK y kk ≠ y → roomK (ins'.set dn (joinK y kk)) < roomK ins' := fun h => roomK_set hy' (rankK_lt gy HH.out.good HH.out.re h)
                generalize hz : joinK y kk = z at *
                have HZ := Lib.hid hz
                have HJR := Lib.hid hjr.symm
                have HY := Lib.hid hy'
                have HSET := Lib.hid hset
                have HLOW := Lib.hid hlow
                have RK := RK0.grown hgb (fun e => HGkH (by injection e))
                obtain ⟨ab2, Ab2, cb2, hae, i0, i1, i2, i3, i4, i5, i6, i7, i8, i9, i10, i11, -⟩ := Block_at (Kd.C_mono hbr hC) HB.out
                injection hae with hae
                subst hae
                have x3 := (HR3.out.grown hgr (fun e => by injection e with e; omega)).cell (j := 3) rfl
                have hdnI : (dn : Int) < (bs.length : Int) := by omega
                have bd := (Below.refl wr.heap.size wr).drew
                clear hz hjr hy' hset hlow hinv hmt hmf gy
                go_upto_region 12 with fail
                cases hin : decide ((dn : Int) ∈ waysK kk b.fin) with
                | false =>
                  have hgo := (HGW.out dn).trans hin
                  have HGO := Lib.hid hgo
                  have hnin : ¬ (dn : Int) ∈ waysK kk b.fin := by simpa using hin
                  have HNIN := Lib.hid hnin
                  clear hgo hin hnin
                  refine wp_region_held_drew (S := (fun w' => Row w' Gk 77 (knownCells kk) ∧ Below wr.heap.size wr w')) (by kernel_rfl) (⟨RK.below bd, bd⟩) (fun hHeld => ?_)
                  refine wpAnyH_take (i := 0) (oi := _) (v := .agg (knownCells kk).toArray) rfl (by kernel_rfl) (by kernel_rfl) (by kernel_rfl) (fun _ _ _ h => h) (yieldsIf_load_known _ kk Gk 0 hkk (fun wS hS => Row.range hS.1) rfl rfl rfl) hHeld ?_
                  try simp only [List.getElem_toArray, List.getElem_cons_succ, List.getElem_cons_zero, Act.put, List.setIfInBounds_toArray, List.set_cons_zero, List.set_cons_succ]
                  refine wpAnyH_take (i := 1) (oi := _) (v := ?v12n1_1) rfl (by kernel_rfl) (by kernel_rfl) (by kernel_rfl) (fun _ _ _ h => h) (Or.inl ⟨by rfl, ?hy12n1_1⟩) hHeld ?_
                  case hy12n1_1 => (intro wS hSw; (try dsimp only at hSw); obtain ⟨hSk, hSb⟩ := hSw; have cx3 := (Below.cell hSb (World.lt_of_cell x3)).trans x3; have ci0 := (Below.cell hSb (World.lt_of_cell i0)).trans i0; have ci1 := (Below.cell hSb (World.lt_of_cell i1)).trans i1; have ci2 := (Below.cell hSb (World.lt_of_cell i2)).trans i2; have ci3 := (Below.cell hSb (World.lt_of_cell i3)).trans i3; have ci4 := (Below.cell hSb (World.lt_of_cell i4)).trans i4; have ci5 := (Below.cell hSb (World.lt_of_cell i5)).trans i5; have ci6 := (Below.cell hSb (World.lt_of_cell i6)).trans i6; have ci7 := (Below.cell hSb (World.lt_of_cell i7)).trans i7; have ci8 := (Below.cell hSb (World.lt_of_cell i8)).trans i8; have ci9 := (Below.cell hSb (World.lt_of_cell i9)).trans i9; have ci10 := (Below.cell hSb (World.lt_of_cell i10)).trans i10; have ci11 := (Below.cell hSb (World.lt_of_cell i11)).trans i11; clear hSk hSb; go_simp; try with_reducible rfl)
                  try simp only [List.getElem_toArray, List.getElem_cons_succ, List.getElem_cons_zero, Act.put, List.setIfInBounds_toArray, List.set_cons_zero, List.set_cons_succ]
                  refine wpAnyH_take (i := 2) (oi := _) (v := ?v12n1_2) rfl (by kernel_rfl) (by kernel_rfl) (by kernel_rfl) (fun _ _ _ h => h) (Or.inl ⟨by rfl, ?hy12n1_2⟩) hHeld ?_
                  case hy12n1_2 => (intro wS hSw; (try dsimp only at hSw); obtain ⟨hSk, hSb⟩ := hSw; have cx3 := (Below.cell hSb (World.lt_of_cell x3)).trans x3; have ci0 := (Below.cell hSb (World.lt_of_cell i0)).trans i0; have ci1 := (Below.cell hSb (World.lt_of_cell i1)).trans i1; have ci2 := (Below.cell hSb (World.lt_of_cell i2)).trans i2; have ci3 := (Below.cell hSb (World.lt_of_cell i3)).trans i3; have ci4 := (Below.cell hSb (World.lt_of_cell i4)).trans i4; have ci5 := (Below.cell hSb (World.lt_of_cell i5)).trans i5; have ci6 := (Below.cell hSb (World.lt_of_cell i6)).trans i6; have ci7 := (Below.cell hSb (World.lt_of_cell i7)).trans i7; have ci8 := (Below.cell hSb (World.lt_of_cell i8)).trans i8; have ci9 := (Below.cell hSb (World.lt_of_cell i9)).trans i9; have ci10 := (Below.cell hSb (World.lt_of_cell i10)).trans i10; have ci11 := (Below.cell hSb (World.lt_of_cell i11)).trans i11; clear hSk hSb; go_simp; try with_reducible rfl)
                  try simp only [List.getElem_toArray, List.getElem_cons_succ, List.getElem_cons_zero, Act.put, List.setIfInBounds_toArray, List.set_cons_zero, List.set_cons_succ]
                  refine wpAnyH_take (i := 3) (oi := _) (v := ?v12n1_3) rfl (by kernel_rfl) (by kernel_rfl) (by kernel_rfl) (fun _ _ _ h => h) (Or.inl ⟨by rfl, ?hy12n1_3⟩) hHeld ?_
                  case hy12n1_3 => (intro wS hSw; (try dsimp only at hSw); obtain ⟨hSk, hSb⟩ := hSw; have cx3 := (Below.cell hSb (World.lt_of_cell x3)).trans x3; have ci0 := (Below.cell hSb (World.lt_of_cell i0)).trans i0; have ci1 := (Below.cell hSb (World.lt_of_cell i1)).trans i1; have ci2 := (Below.cell hSb (World.lt_of_cell i2)).trans i2; have ci3 := (Below.cell hSb (World.lt_of_cell i3)).trans i3; have ci4 := (Below.cell hSb (World.lt_of_cell i4)).trans i4; have ci5 := (Below.cell hSb (World.lt_of_cell i5)).trans i5; have ci6 := (Below.cell hSb (World.lt_of_cell i6)).trans i6; have ci7 := (Below.cell hSb (World.lt_of_cell i7)).trans i7; have ci8 := (Below.cell hSb (World.lt_of_cell i8)).trans i8; have ci9 := (Below.cell hSb (World.lt_of_cell i9)).trans i9; have ci10 := (Below.cell hSb (World.lt_of_cell i10)).trans i10; have ci11 := (Below.cell hSb (World.lt_of_cell i11)).trans i11; clear hSk hSb; go_simp; try with_reducible rfl)
                  try simp only [List.getElem_toArray, List.getElem_cons_succ, List.getElem_cons_zero, Act.put, List.setIfInBounds_toArray, List.set_cons_zero, List.set_cons_succ]
                  refine wpAnyH_take (i := 4) (oi := _) (v := ?v12n1_4) rfl (by kernel_rfl) (by kernel_rfl) (by kernel_rfl) (fun _ _ _ h => h) (Or.inl ⟨by rfl, ?hy12n1_4⟩) hHeld ?_
                  case hy12n1_4 => (intro wS hSw; (try dsimp only at hSw); obtain ⟨hSk, hSb⟩ := hSw; have cx3 := (Below.cell hSb (World.lt_of_cell x3)).trans x3; have ci0 := (Below.cell hSb (World.lt_of_cell i0)).trans i0; have ci1 := (Below.cell hSb (World.lt_of_cell i1)).trans i1; have ci2 := (Below.cell hSb (World.lt_of_cell i2)).trans i2; have ci3 := (Below.cell hSb (World.lt_of_cell i3)).trans i3; have ci4 := (Below.cell hSb (World.lt_of_cell i4)).trans i4; have ci5 := (Below.cell hSb (World.lt_of_cell i5)).trans i5; have ci6 := (Below.cell hSb (World.lt_of_cell i6)).trans i6; have ci7 := (Below.cell hSb (World.lt_of_cell i7)).trans i7; have ci8 := (Below.cell hSb (World.lt_of_cell i8)).trans i8; have ci9 := (Below.cell hSb (World.lt_of_cell i9)).trans i9; have ci10 := (Below.cell hSb (World.lt_of_cell i10)).trans i10; have ci11 := (Below.cell hSb (World.lt_of_cell i11)).trans i11; clear hSk hSb; go_simp; try with_reducible rfl)
                  try simp only [List.getElem_toArray, List.getElem_cons_succ, List.getElem_cons_zero, Act.put, List.setIfInBounds_toArray, List.set_cons_zero, List.set_cons_succ]
                  refine wpAnyH_take (i := 5) (oi := _) (v := ?v12n1_5) rfl (by kernel_rfl) (by kernel_rfl) (by kernel_rfl) (fun _ _ _ h => h) (Or.inl ⟨by rfl, ?hy12n1_5⟩) hHeld ?_
                  case hy12n1_5 => (intro wS hSw; (try dsimp only at hSw); obtain ⟨hSk, hSb⟩ := hSw; have cx3 := (Below.cell hSb (World.lt_of_cell x3)).trans x3; have ci0 := (Below.cell hSb (World.lt_of_cell i0)).trans i0; have ci1 := (Below.cell hSb (World.lt_of_cell i1)).trans i1; have ci2 := (Below.cell hSb (World.lt_of_cell i2)).trans i2; have ci3 := (Below.cell hSb (World.lt_of_cell i3)).trans i3; have ci4 := (Below.cell hSb (World.lt_of_cell i4)).trans i4; have ci5 := (Below.cell hSb (World.lt_of_cell i5)).trans i5; have ci6 := (Below.cell hSb (World.lt_of_cell i6)).trans i6; have ci7 := (Below.cell hSb (World.lt_of_cell i7)).trans i7; have ci8 := (Below.cell hSb (World.lt_of_cell i8)).trans i8; have ci9 := (Below.cell hSb (World.lt_of_cell i9)).trans i9; have ci10 := (Below.cell hSb (World.lt_of_cell i10)).trans i10; have ci11 := (Below.cell hSb (World.lt_of_cell i11)).trans i11; clear hSk hSb; go_simp; try with_reducible rfl)
                  try simp only [List.getElem_toArray, List.getElem_cons_succ, List.getElem_cons_zero, Act.put, List.setIfInBounds_toArray, List.set_cons_zero, List.set_cons_succ]
                  refine wpAnyH_take (i := 6) (oi := _) (v := ?v12n1_6) rfl (by kernel_rfl) (by kernel_rfl) (by kernel_rfl) (fun _ _ _ h => h) (Or.inl ⟨by rfl, ?hy12n1_6⟩) hHeld ?_
                  case hy12n1_6 => (intro wS hSw; (try dsimp only at hSw); obtain ⟨hSk, hSb⟩ := hSw; have cx3 := (Below.cell hSb (World.lt_of_cell x3)).trans x3; have ci0 := (Below.cell hSb (World.lt_of_cell i0)).trans i0; have ci1 := (Below.cell hSb (World.lt_of_cell i1)).trans i1; have ci2 := (Below.cell hSb (World.lt_of_cell i2)).trans i2; have ci3 := (Below.cell hSb (World.lt_of_cell i3)).trans i3; have ci4 := (Below.cell hSb (World.lt_of_cell i4)).trans i4; have ci5 := (Below.cell hSb (World.lt_of_cell i5)).trans i5; have ci6 := (Below.cell hSb (World.lt_of_cell i6)).trans i6; have ci7 := (Below.cell hSb (World.lt_of_cell i7)).trans i7; have ci8 := (Below.cell hSb (World.lt_of_cell i8)).trans i8; have ci9 := (Below.cell hSb (World.lt_of_cell i9)).trans i9; have ci10 := (Below.cell hSb (World.lt_of_cell i10)).trans i10; have ci11 := (Below.cell hSb (World.lt_of_cell i11)).trans i11; clear hSk hSb; go_simp; try with_reducible rfl)
                  try simp only [List.getElem_toArray, List.getElem_cons_succ, List.getElem_cons_zero, Act.put, List.setIfInBounds_toArray, List.set_cons_zero, List.set_cons_succ]
                  refine wpAnyH_take (i := 7) (oi := _) (v := ?v12n1_7) rfl (by kernel_rfl) (by kernel_rfl) (by kernel_rfl) (fun _ _ _ h => h) (Or.inl ⟨by rfl, ?hy12n1_7⟩) hHeld ?_
                  case hy12n1_7 => (intro wS hSw; (try dsimp only at hSw); obtain ⟨hSk, hSb⟩ := hSw; have cx3 := (Below.cell hSb (World.lt_of_cell x3)).trans x3; have ci0 := (Below.cell hSb (World.lt_of_cell i0)).trans i0; have ci1 := (Below.cell hSb (World.lt_of_cell i1)).trans i1; have ci2 := (Below.cell hSb (World.lt_of_cell i2)).trans i2; have ci3 := (Below.cell hSb (World.lt_of_cell i3)).trans i3; have ci4 := (Below.cell hSb (World.lt_of_cell i4)).trans i4; have ci5 := (Below.cell hSb (World.lt_of_cell i5)).trans i5; have ci6 := (Below.cell hSb (World.lt_of_cell i6)).trans i6; have ci7 := (Below.cell hSb (World.lt_of_cell i7)).trans i7; have ci8 := (Below.cell hSb (World.lt_of_cell i8)).trans i8; have ci9 := (Below.cell hSb (World.lt_of_cell i9)).trans i9; have ci10 := (Below.cell hSb (World.lt_of_cell i10)).trans i10; have ci11 := (Below.cell hSb (World.lt_of_cell i11)).trans i11; clear hSk hSb; go_simp; try with_reducible rfl)
                  try simp only [List.getElem_toArray, List.getElem_cons_succ, List.getElem_cons_zero, Act.put, List.setIfInBounds_toArray, List.set_cons_zero, List.set_cons_succ]
                  refine wpAnyH_ready (rs := [8]) (by kernel_rfl) (by simp) ?_
                  refine AllReadyH.cons (o := _) rfl (fun K hK => ?_) AllReadyH.nil
                  go_simp
                  refine (refGoes_calls kk b.fin _ _ hkk HAB.out).mono ?_
                  rw [HGO.out]
                  rintro e w4 ⟨rfl, hb4⟩
                  go_wp2_with fail
                  refine hK.out _ _ (⟨Row.below (And.left hHeld) hb4, (And.right hHeld).trans (hb4.mono (Below.size (And.right hHeld)))⟩) (fun hHeld8 => ?_)
                  clear hK K hHeld
                  try simp only [List.getElem_toArray, List.getElem_cons_succ, List.getElem_cons_zero, Act.put, List.setIfInBounds_toArray, List.set_cons_zero, List.set_cons_succ]
                  refine wpAnyH_done (by kernel_rfl) ?_ _

                  have u4 := bd.trans (hb4.mono bd.size)
                  have o4 := Lib.hid (ho.below u4)
                  have t4 := hbr.trans (u4.mono hbr.size)
                  have gr4 := grown_trans hgr (grown_below u4 (r := some H))
                  have gs4 := grown_trans hgb (grown_below u4 (r := some H))
                  clear hyr i0 i1 i2 i3 i4 i5 i6 i7 i8 i9 i10 i11 x3 ho RK
                  go_wp2_with fail
                  exact ⟨⟨dn + 1, ins', fin', by omega, by go_num, rfl, HINV'.out, o4.out, HMT'.out, fun h => ⟨(HMF'.out h).1, (HMF'.out h).2.1, upto_succ (HMF'.out h).2.2 (fun hm => absurd hm HNIN.out)⟩, t4, gr4, gs4⟩, by first | (simp [intOf]; done) | (simp [intOf]; omega)⟩
                | true =>
                  have hgo := (HGW.out dn).trans hin
                  have HGO := Lib.hid hgo
                  have hmem : (dn : Int) ∈ waysK kk b.fin := by simpa using hin
                  have HMEM := Lib.hid hmem
                  clear hgo hin hmem
                  refine wp_region_held_drew (S := (fun w' => Row w' Gk 77 (knownCells kk) ∧ Below wr.heap.size wr w')) (by kernel_rfl) (⟨RK.below bd, bd⟩) (fun hHeld => ?_)
                  refine wpAnyH_take (i := 0) (oi := _) (v := .agg (knownCells kk).toArray) rfl (by kernel_rfl) (by kernel_rfl) (by kernel_rfl) (fun _ _ _ h => h) (yieldsIf_load_known _ kk Gk 0 hkk (fun wS hS => Row.range hS.1) rfl rfl rfl) hHeld ?_
                  try simp only [List.getElem_toArray, List.getElem_cons_succ, List.getElem_cons_zero, Act.put, List.setIfInBounds_toArray, List.set_cons_zero, List.set_cons_succ]
                  refine wpAnyH_take (i := 1) (oi := _) (v := ?v12n2_1) rfl (by kernel_rfl) (by kernel_rfl) (by kernel_rfl) (fun _ _ _ h => h) (Or.inl ⟨by rfl, ?hy12n2_1⟩) hHeld ?_
                  case hy12n2_1 => (intro wS hSw; (try dsimp only at hSw); obtain ⟨hSk, hSb⟩ := hSw; have cx3 := (Below.cell hSb (World.lt_of_cell x3)).trans x3; have ci0 := (Below.cell hSb (World.lt_of_cell i0)).trans i0; have ci1 := (Below.cell hSb (World.lt_of_cell i1)).trans i1; have ci2 := (Below.cell hSb (World.lt_of_cell i2)).trans i2; have ci3 := (Below.cell hSb (World.lt_of_cell i3)).trans i3; have ci4 := (Below.cell hSb (World.lt_of_cell i4)).trans i4; have ci5 := (Below.cell hSb (World.lt_of_cell i5)).trans i5; have ci6 := (Below.cell hSb (World.lt_of_cell i6)).trans i6; have ci7 := (Below.cell hSb (World.lt_of_cell i7)).trans i7; have ci8 := (Below.cell hSb (World.lt_of_cell i8)).trans i8; have ci9 := (Below.cell hSb (World.lt_of_cell i9)).trans i9; have ci10 := (Below.cell hSb (World.lt_of_cell i10)).trans i10; have ci11 := (Below.cell hSb (World.lt_of_cell i11)).trans i11; clear hSk hSb; go_simp; try with_reducible rfl)
                  try simp only [List.getElem_toArray, List.getElem_cons_succ, List.getElem_cons_zero, Act.put, List.setIfInBounds_toArray, List.set_cons_zero, List.set_cons_succ]
                  refine wpAnyH_take (i := 2) (oi := _) (v := ?v12n2_2) rfl (by kernel_rfl) (by kernel_rfl) (by kernel_rfl) (fun _ _ _ h => h) (Or.inl ⟨by rfl, ?hy12n2_2⟩) hHeld ?_
                  case hy12n2_2 => (intro wS hSw; (try dsimp only at hSw); obtain ⟨hSk, hSb⟩ := hSw; have cx3 := (Below.cell hSb (World.lt_of_cell x3)).trans x3; have ci0 := (Below.cell hSb (World.lt_of_cell i0)).trans i0; have ci1 := (Below.cell hSb (World.lt_of_cell i1)).trans i1; have ci2 := (Below.cell hSb (World.lt_of_cell i2)).trans i2; have ci3 := (Below.cell hSb (World.lt_of_cell i3)).trans i3; have ci4 := (Below.cell hSb (World.lt_of_cell i4)).trans i4; have ci5 := (Below.cell hSb (World.lt_of_cell i5)).trans i5; have ci6 := (Below.cell hSb (World.lt_of_cell i6)).trans i6; have ci7 := (Below.cell hSb (World.lt_of_cell i7)).trans i7; have ci8 := (Below.cell hSb (World.lt_of_cell i8)).trans i8; have ci9 := (Below.cell hSb (World.lt_of_cell i9)).trans i9; have ci10 := (Below.cell hSb (World.lt_of_cell i10)).trans i10; have ci11 := (Below.cell hSb (World.lt_of_cell i11)).trans i11; clear hSk hSb; go_simp; try with_reducible rfl)
                  try simp only [List.getElem_toArray, List.getElem_cons_succ, List.getElem_cons_zero, Act.put, List.setIfInBounds_toArray, List.set_cons_zero, List.set_cons_succ]
                  refine wpAnyH_take (i := 3) (oi := _) (v := ?v12n2_3) rfl (by kernel_rfl) (by kernel_rfl) (by kernel_rfl) (fun _ _ _ h => h) (Or.inl ⟨by rfl, ?hy12n2_3⟩) hHeld ?_
                  case hy12n2_3 => (intro wS hSw; (try dsimp only at hSw); obtain ⟨hSk, hSb⟩ := hSw; have cx3 := (Below.cell hSb (World.lt_of_cell x3)).trans x3; have ci0 := (Below.cell hSb (World.lt_of_cell i0)).trans i0; have ci1 := (Below.cell hSb (World.lt_of_cell i1)).trans i1; have ci2 := (Below.cell hSb (World.lt_of_cell i2)).trans i2; have ci3 := (Below.cell hSb (World.lt_of_cell i3)).trans i3; have ci4 := (Below.cell hSb (World.lt_of_cell i4)).trans i4; have ci5 := (Below.cell hSb (World.lt_of_cell i5)).trans i5; have ci6 := (Below.cell hSb (World.lt_of_cell i6)).trans i6; have ci7 := (Below.cell hSb (World.lt_of_cell i7)).trans i7; have ci8 := (Below.cell hSb (World.lt_of_cell i8)).trans i8; have ci9 := (Below.cell hSb (World.lt_of_cell i9)).trans i9; have ci10 := (Below.cell hSb (World.lt_of_cell i10)).trans i10; have ci11 := (Below.cell hSb (World.lt_of_cell i11)).trans i11; clear hSk hSb; go_simp; try with_reducible rfl)
                  try simp only [List.getElem_toArray, List.getElem_cons_succ, List.getElem_cons_zero, Act.put, List.setIfInBounds_toArray, List.set_cons_zero, List.set_cons_succ]
                  refine wpAnyH_take (i := 4) (oi := _) (v := ?v12n2_4) rfl (by kernel_rfl) (by kernel_rfl) (by kernel_rfl) (fun _ _ _ h => h) (Or.inl ⟨by rfl, ?hy12n2_4⟩) hHeld ?_
                  case hy12n2_4 => (intro wS hSw; (try dsimp only at hSw); obtain ⟨hSk, hSb⟩ := hSw; have cx3 := (Below.cell hSb (World.lt_of_cell x3)).trans x3; have ci0 := (Below.cell hSb (World.lt_of_cell i0)).trans i0; have ci1 := (Below.cell hSb (World.lt_of_cell i1)).trans i1; have ci2 := (Below.cell hSb (World.lt_of_cell i2)).trans i2; have ci3 := (Below.cell hSb (World.lt_of_cell i3)).trans i3; have ci4 := (Below.cell hSb (World.lt_of_cell i4)).trans i4; have ci5 := (Below.cell hSb (World.lt_of_cell i5)).trans i5; have ci6 := (Below.cell hSb (World.lt_of_cell i6)).trans i6; have ci7 := (Below.cell hSb (World.lt_of_cell i7)).trans i7; have ci8 := (Below.cell hSb (World.lt_of_cell i8)).trans i8; have ci9 := (Below.cell hSb (World.lt_of_cell i9)).trans i9; have ci10 := (Below.cell hSb (World.lt_of_cell i10)).trans i10; have ci11 := (Below.cell hSb (World.lt_of_cell i11)).trans i11; clear hSk hSb; go_simp; try with_reducible rfl)
                  try simp only [List.getElem_toArray, List.getElem_cons_succ, List.getElem_cons_zero, Act.put, List.setIfInBounds_toArray, List.set_cons_zero, List.set_cons_succ]
                  refine wpAnyH_take (i := 5) (oi := _) (v := ?v12n2_5) rfl (by kernel_rfl) (by kernel_rfl) (by kernel_rfl) (fun _ _ _ h => h) (Or.inl ⟨by rfl, ?hy12n2_5⟩) hHeld ?_
                  case hy12n2_5 => (intro wS hSw; (try dsimp only at hSw); obtain ⟨hSk, hSb⟩ := hSw; have cx3 := (Below.cell hSb (World.lt_of_cell x3)).trans x3; have ci0 := (Below.cell hSb (World.lt_of_cell i0)).trans i0; have ci1 := (Below.cell hSb (World.lt_of_cell i1)).trans i1; have ci2 := (Below.cell hSb (World.lt_of_cell i2)).trans i2; have ci3 := (Below.cell hSb (World.lt_of_cell i3)).trans i3; have ci4 := (Below.cell hSb (World.lt_of_cell i4)).trans i4; have ci5 := (Below.cell hSb (World.lt_of_cell i5)).trans i5; have ci6 := (Below.cell hSb (World.lt_of_cell i6)).trans i6; have ci7 := (Below.cell hSb (World.lt_of_cell i7)).trans i7; have ci8 := (Below.cell hSb (World.lt_of_cell i8)).trans i8; have ci9 := (Below.cell hSb (World.lt_of_cell i9)).trans i9; have ci10 := (Below.cell hSb (World.lt_of_cell i10)).trans i10; have ci11 := (Below.cell hSb (World.lt_of_cell i11)).trans i11; clear hSk hSb; go_simp; try with_reducible rfl)
                  try simp only [List.getElem_toArray, List.getElem_cons_succ, List.getElem_cons_zero, Act.put, List.setIfInBounds_toArray, List.set_cons_zero, List.set_cons_succ]
                  refine wpAnyH_take (i := 6) (oi := _) (v := ?v12n2_6) rfl (by kernel_rfl) (by kernel_rfl) (by kernel_rfl) (fun _ _ _ h => h) (Or.inl ⟨by rfl, ?hy12n2_6⟩) hHeld ?_
                  case hy12n2_6 => (intro wS hSw; (try dsimp only at hSw); obtain ⟨hSk, hSb⟩ := hSw; have cx3 := (Below.cell hSb (World.lt_of_cell x3)).trans x3; have ci0 := (Below.cell hSb (World.lt_of_cell i0)).trans i0; have ci1 := (Below.cell hSb (World.lt_of_cell i1)).trans i1; have ci2 := (Below.cell hSb (World.lt_of_cell i2)).trans i2; have ci3 := (Below.cell hSb (World.lt_of_cell i3)).trans i3; have ci4 := (Below.cell hSb (World.lt_of_cell i4)).trans i4; have ci5 := (Below.cell hSb (World.lt_of_cell i5)).trans i5; have ci6 := (Below.cell hSb (World.lt_of_cell i6)).trans i6; have ci7 := (Below.cell hSb (World.lt_of_cell i7)).trans i7; have ci8 := (Below.cell hSb (World.lt_of_cell i8)).trans i8; have ci9 := (Below.cell hSb (World.lt_of_cell i9)).trans i9; have ci10 := (Below.cell hSb (World.lt_of_cell i10)).trans i10; have ci11 := (Below.cell hSb (World.lt_of_cell i11)).trans i11; clear hSk hSb; go_simp; try with_reducible rfl)
                  try simp only [List.getElem_toArray, List.getElem_cons_succ, List.getElem_cons_zero, Act.put, List.setIfInBounds_toArray, List.set_cons_zero, List.set_cons_succ]
                  refine wpAnyH_take (i := 7) (oi := _) (v := ?v12n2_7) rfl (by kernel_rfl) (by kernel_rfl) (by kernel_rfl) (fun _ _ _ h => h) (Or.inl ⟨by rfl, ?hy12n2_7⟩) hHeld ?_
                  case hy12n2_7 => (intro wS hSw; (try dsimp only at hSw); obtain ⟨hSk, hSb⟩ := hSw; have cx3 := (Below.cell hSb (World.lt_of_cell x3)).trans x3; have ci0 := (Below.cell hSb (World.lt_of_cell i0)).trans i0; have ci1 := (Below.cell hSb (World.lt_of_cell i1)).trans i1; have ci2 := (Below.cell hSb (World.lt_of_cell i2)).trans i2; have ci3 := (Below.cell hSb (World.lt_of_cell i3)).trans i3; have ci4 := (Below.cell hSb (World.lt_of_cell i4)).trans i4; have ci5 := (Below.cell hSb (World.lt_of_cell i5)).trans i5; have ci6 := (Below.cell hSb (World.lt_of_cell i6)).trans i6; have ci7 := (Below.cell hSb (World.lt_of_cell i7)).trans i7; have ci8 := (Below.cell hSb (World.lt_of_cell i8)).trans i8; have ci9 := (Below.cell hSb (World.lt_of_cell i9)).trans i9; have ci10 := (Below.cell hSb (World.lt_of_cell i10)).trans i10; have ci11 := (Below.cell hSb (World.lt_of_cell i11)).trans i11; clear hSk hSb; go_simp; try with_reducible rfl)
                  try simp only [List.getElem_toArray, List.getElem_cons_succ, List.getElem_cons_zero, Act.put, List.setIfInBounds_toArray, List.set_cons_zero, List.set_cons_succ]
                  refine wpAnyH_ready (rs := [8]) (by kernel_rfl) (by simp) ?_
                  refine AllReadyH.cons (o := _) rfl (fun K hK => ?_) AllReadyH.nil
                  go_simp
                  refine (refGoes_calls kk b.fin _ _ hkk HAB.out).mono ?_
                  rw [HGO.out]
                  rintro e w4 ⟨rfl, hb4⟩
                  go_wp2_with fail
                  refine hK.out _ _ (⟨Row.below (And.left hHeld) hb4, (And.right hHeld).trans (hb4.mono (Below.size (And.right hHeld)))⟩) (fun hHeld8 => ?_)
                  clear hK K hHeld
                  try simp only [List.getElem_toArray, List.getElem_cons_succ, List.getElem_cons_zero, Act.put, List.setIfInBounds_toArray, List.set_cons_zero, List.set_cons_succ]
                  refine wpAnyH_done (by kernel_rfl) ?_ _

                  have u4 := bd.trans (hb4.mono bd.size)
                  replace ho := ho.below u4
                  replace RK := RK.below u4
                  replace hyr := (ho.krange HY.out).1
                  have t4 := hbr.trans (u4.mono hbr.size)
                  have gr4 := grown_trans hgr (grown_below u4 (r := some H))
                  have gs4 := grown_trans hgb (grown_below u4 (r := some H))
                  have HO' := Lib.hid ho
                  have hHw := ho.lt H rfl
                  have hGkw := RK.lt
                  clear i0 i1 i2 i3 i4 i5 i6 i7 i8 i9 i10 i11 x3 ho bd u4 hb4
                  generalize w4 = wd at *
                  have bd := (Below.refl wd.heap.size wd).drew
                  go_upto_region 13 with fail
                  go_cut [8] (fun v wx => ∃ Gj, v = .pointer (some ⟨Gj, 0, none⟩) ∧ Row wx Gj 77 (knownCells z) ∧ (H < Gj ∧ Gk < Gj) ∧ Below wd.heap.size wd wx)
                  case first =>
                    refine wp_region_held_drew (S := (fun w' => w'.rangeAt H (dn * 33) (knownCells y) ∧ Row w' Gk 77 (knownCells kk))) (by kernel_rfl) (⟨rangeAt_below hyr bd, RK.below bd⟩) (fun hHeld => ?_)
                    refine wpAnyH_take (i := 0) (oi := _) (v := ?v13m2_1) rfl (by kernel_rfl) (by kernel_rfl) (by kernel_rfl) (fun _ _ _ h => h) (Or.inl ⟨by rfl, ?hy13m2_1⟩) hHeld ?_
                    case hy13m2_1 => (intro wS hSw; (try dsimp only at hSw); skip; go_simp; try with_reducible rfl)
                    try simp only [List.getElem_toArray, List.getElem_cons_succ, List.getElem_cons_zero, Act.put, List.setIfInBounds_toArray, List.set_cons_zero, List.set_cons_succ]
                    refine wpAnyH_take (i := 1) (oi := _) (v := ?v13m2_2) rfl (by kernel_rfl) (by kernel_rfl) (by kernel_rfl) (fun _ _ _ h => h) (Or.inl ⟨by rfl, ?hy13m2_2⟩) hHeld ?_
                    case hy13m2_2 => (intro wS hSw; (try dsimp only at hSw); skip; go_simp; try with_reducible rfl)
                    try simp only [List.getElem_toArray, List.getElem_cons_succ, List.getElem_cons_zero, Act.put, List.setIfInBounds_toArray, List.set_cons_zero, List.set_cons_succ]
                    refine wpAnyH_take (i := 2) (oi := _) (v := ?v13m2_3) rfl (by kernel_rfl) (by kernel_rfl) (by kernel_rfl) (fun _ _ _ h => h) (Or.inl ⟨by rfl, ?hy13m2_3⟩) hHeld ?_
                    case hy13m2_3 => (intro wS hSw; (try dsimp only at hSw); skip; go_simp; try with_reducible rfl)
                    try simp only [List.getElem_toArray, List.getElem_cons_succ, List.getElem_cons_zero, Act.put, List.setIfInBounds_toArray, List.set_cons_zero, List.set_cons_succ]
                    refine wpAnyH_take (i := 3) (oi := _) (v := .agg (knownCells y).toArray) rfl (by kernel_rfl) (by kernel_rfl) (by kernel_rfl) (fun _ _ _ h => h) (yieldsIf_load_known _ y H (dn * 33) hy (fun wS hS => hS.1) rfl rfl rfl) hHeld ?_
                    try simp only [List.getElem_toArray, List.getElem_cons_succ, List.getElem_cons_zero, Act.put, List.setIfInBounds_toArray, List.set_cons_zero, List.set_cons_succ]
                    refine wpAnyH_take (i := 4) (oi := _) (v := .agg (knownCells kk).toArray) rfl (by kernel_rfl) (by kernel_rfl) (by kernel_rfl) (fun _ _ _ h => h) (yieldsIf_load_known _ kk Gk 0 hkk (fun wS hS => Row.range hS.2) rfl rfl rfl) hHeld ?_
                    try simp only [List.getElem_toArray, List.getElem_cons_succ, List.getElem_cons_zero, Act.put, List.setIfInBounds_toArray, List.set_cons_zero, List.set_cons_succ]
                    refine wpAnyH_ready (rs := [5, 6]) (by kernel_rfl) (by simp) ?_
                    refine (AllReadyH.cons (o := _) rfl (fun K hK => ?_) (AllReadyH.cons (o := _) rfl (fun K hK => ?_) AllReadyH.nil))
                    · go_simp
                      refine (refJoin_calls y kk _ hy hkk).mono ?_
                      rw [HJR.out]
                      rintro e w5 ⟨rfl, hb5⟩
                      go_wp2_with fail
                      refine hK.out _ _ (⟨rangeAt_below hHeld.1 hb5, hHeld.2.below hb5⟩) (fun hHeld6 => ?_)
                      clear hK K hHeld
                      try simp only [List.getElem_toArray, List.getElem_cons_succ, List.getElem_cons_zero, Act.put, List.setIfInBounds_toArray, List.set_cons_zero, List.set_cons_succ]
                      refine wpAnyH_ready (rs := [6]) (by kernel_rfl) (by simp) ?_
                      refine (AllReadyH.cons (o := _) rfl (fun K hK => ?_) AllReadyH.nil)
                      go_simp
                      have b6 := below_alloc' w5 (.cells #[.bool false, .bool false, .bool false, .bool false, .bool false, .bool false, .bool false, .bool false, .bool false, .bool false, .bool false, .bool false, .bool false, .bool false, .bool false, .bool false, .bool false, .int .u32 0, .int .u32 0, .int .u32 0, .int .u32 0, .int .u32 0, .int .u32 0, .int .u32 0, .int .u32 0, .int .u32 0, .int .u32 0, .int .u32 0, .int .u32 0, .int .u32 0, .int .u32 0, .int .u32 0, .int .u32 0] 77)
                      have rn6 : Row (w5.alloc (.cells #[.bool false, .bool false, .bool false, .bool false, .bool false, .bool false, .bool false, .bool false, .bool false, .bool false, .bool false, .bool false, .bool false, .bool false, .bool false, .bool false, .bool false, .int .u32 0, .int .u32 0, .int .u32 0, .int .u32 0, .int .u32 0, .int .u32 0, .int .u32 0, .int .u32 0, .int .u32 0, .int .u32 0, .int .u32 0, .int .u32 0, .int .u32 0, .int .u32 0, .int .u32 0, .int .u32 0] 77)) w5.heap.size 77 (knownCells Known.zero) := Row.new w5 _ _
                      refine hK.out _ _ (⟨rangeAt_below hHeld6.1 b6, hHeld6.2.below b6⟩) (fun hHeld7 => ?_)
                      clear hK K hHeld6
                      try simp only [List.getElem_toArray, List.getElem_cons_succ, List.getElem_cons_zero, Act.put, List.setIfInBounds_toArray, List.set_cons_zero, List.set_cons_succ]
                      refine wpAnyH_ready (rs := [7]) (by kernel_rfl) (by simp) ?_
                      refine (AllReadyH.cons (o := _) rfl (fun K hK => ?_) AllReadyH.nil)
                      have hj1 : H < w5.heap.size := Nat.lt_of_lt_of_le hHw (Nat.le_trans bd.size hb5.size)
                      have hj2 : Gk < w5.heap.size := Nat.lt_of_lt_of_le hGkw (Nat.le_trans bd.size hb5.size)
                      have hj0 : wd.heap.size ≤ w5.heap.size := Nat.le_trans bd.size hb5.size
                      refine step_put_row rfl _ _ _ rfl (w5.heap.size) (knownCells z) rfl rfl rn6 (infoKnown hjw) (by rw [knownCells_len hjw]; rfl) (knownCells_one _) ?_
                      intro w7 r7 g7 s7
                      clear s7
                      have u7 : Below wd.heap.size wd w7 := ((bd.trans hb5).trans (b6.mono (Nat.le_trans bd.size hb5.size))).grown g7 (Nat.le_trans (Nat.le_trans bd.size hb5.size) b6.size) (fun j hj => by injection hj with hj; subst hj; exact hj0)
                      refine hK.out _ _ (⟨rangeAt_grown hHeld7.1 g7 (fun e => by injection e with e; omega), hHeld7.2.grown g7 (fun e => by injection e with e; omega)⟩) (fun hHeld8 => ?_)
                      clear hK K hHeld7
                      try simp only [List.getElem_toArray, List.getElem_cons_succ, List.getElem_cons_zero, Act.put, List.setIfInBounds_toArray, List.set_cons_zero, List.set_cons_succ]
                      refine wpAnyH_done (by kernel_rfl) ?_ _
                      (go_wp2_with fail; go_meet; exact ⟨_, rfl, r7, ⟨hj1, hj2⟩, u7⟩)
                    · go_simp
                      have b6 := below_alloc' wd.drew (.cells #[.bool false, .bool false, .bool false, .bool false, .bool false, .bool false, .bool false, .bool false, .bool false, .bool false, .bool false, .bool false, .bool false, .bool false, .bool false, .bool false, .bool false, .int .u32 0, .int .u32 0, .int .u32 0, .int .u32 0, .int .u32 0, .int .u32 0, .int .u32 0, .int .u32 0, .int .u32 0, .int .u32 0, .int .u32 0, .int .u32 0, .int .u32 0, .int .u32 0, .int .u32 0, .int .u32 0] 77)
                      have rn6 : Row (wd.drew.alloc (.cells #[.bool false, .bool false, .bool false, .bool false, .bool false, .bool false, .bool false, .bool false, .bool false, .bool false, .bool false, .bool false, .bool false, .bool false, .bool false, .bool false, .bool false, .int .u32 0, .int .u32 0, .int .u32 0, .int .u32 0, .int .u32 0, .int .u32 0, .int .u32 0, .int .u32 0, .int .u32 0, .int .u32 0, .int .u32 0, .int .u32 0, .int .u32 0, .int .u32 0, .int .u32 0, .int .u32 0] 77)) wd.drew.heap.size 77 (knownCells Known.zero) := Row.new wd.drew _ _
                      refine hK.out _ _ (⟨rangeAt_below hHeld.1 b6, hHeld.2.below b6⟩) (fun hHeld9 => ?_)
                      clear hK K hHeld
                      try simp only [List.getElem_toArray, List.getElem_cons_succ, List.getElem_cons_zero, Act.put, List.setIfInBounds_toArray, List.set_cons_zero, List.set_cons_succ]
                      refine wpAnyH_ready (rs := [5]) (by kernel_rfl) (by simp) ?_
                      refine (AllReadyH.cons (o := _) rfl (fun K hK => ?_) AllReadyH.nil)
                      go_simp
                      refine (refJoin_calls y kk _ hy hkk).mono ?_
                      rw [HJR.out]
                      rintro e w5 ⟨rfl, hb5⟩
                      have rn5 := rn6.below hb5
                      go_wp2_with fail
                      refine hK.out _ _ (⟨rangeAt_below hHeld9.1 hb5, hHeld9.2.below hb5⟩) (fun hHeld10 => ?_)
                      clear hK K hHeld9
                      try simp only [List.getElem_toArray, List.getElem_cons_succ, List.getElem_cons_zero, Act.put, List.setIfInBounds_toArray, List.set_cons_zero, List.set_cons_succ]
                      refine wpAnyH_ready (rs := [7]) (by kernel_rfl) (by simp) ?_
                      refine (AllReadyH.cons (o := _) rfl (fun K hK => ?_) AllReadyH.nil)
                      have hj1 : H < wd.heap.size := hHw
                      have hj2 : Gk < wd.heap.size := hGkw
                      have hj0 : wd.heap.size ≤ wd.heap.size := Nat.le_refl _
                      refine step_put_row rfl _ _ _ rfl (wd.heap.size) (knownCells z) rfl rfl rn5 (infoKnown hjw) (by rw [knownCells_len hjw]; rfl) (knownCells_one _) ?_
                      intro w7 r7 g7 s7
                      clear s7
                      have u7 : Below wd.heap.size wd w7 := ((bd.trans b6).trans (hb5.mono (Nat.le_trans bd.size b6.size))).grown g7 (Nat.le_trans (Nat.le_trans bd.size b6.size) hb5.size) (fun j hj => by injection hj with hj; subst hj; exact hj0)
                      refine hK.out _ _ (⟨rangeAt_grown hHeld10.1 g7 (fun e => by injection e with e; omega), hHeld10.2.grown g7 (fun e => by injection e with e; omega)⟩) (fun hHeld11 => ?_)
                      clear hK K hHeld10
                      try simp only [List.getElem_toArray, List.getElem_cons_succ, List.getElem_cons_zero, Act.put, List.setIfInBounds_toArray, List.set_cons_zero, List.set_cons_succ]
                      refine wpAnyH_done (by kernel_rfl) ?_ _
                      (go_wp2_with fail; go_meet; exact ⟨_, rfl, r7, ⟨hj1, hj2⟩, u7⟩)

                  case rest =>
                    obtain ⟨Gj, rfl, r7, ⟨hj1, hj2⟩, u7⟩ := hcut
                    have o7 := HO'.out.below u7
                    have y7 := (o7.krange HY.out).1
                    have t7 := t4.trans (u7.mono t4.size)
                    have gr7 := grown_trans gr4 (grown_below u7 (r := some H))
                    have gs7 := grown_trans gs4 (grown_below u7 (r := some H))
                    have O7 := Lib.hid o7
                    clear o7 hyr u7 bd RK hHw hGkw
                    generalize wc = w7 at *
                    have bd7 := (Below.refl w7.heap.size w7).drew
                    by_cases hzy : z = y
                    · have z1 : decide (z = y) = true := by simp [hzy]
                      have hle : LeK kk y := joinK_eq_le (HZ.out.trans hzy)
                      have HLE := Lib.hid hle
                      clear hzy hle
                      go_upto_region 14 with fail
                      refine wp_region_held_drew (S := (fun w' => w'.rangeAt H (dn * 33) (knownCells y) ∧ Row w' Gj 77 (knownCells z))) (by kernel_rfl) (⟨rangeAt_below y7 bd7, r7.below bd7⟩) (fun hHeld => ?_)
                      refine wpAnyH_take (i := 0) (oi := _) (v := .agg (knownCells z).toArray) rfl (by kernel_rfl) (by kernel_rfl) (by kernel_rfl) (fun _ _ _ h => h) (yieldsIf_load_known _ z Gj 0 hjw (fun wS hS => Row.range hS.2) rfl rfl rfl) hHeld ?_
                      try simp only [List.getElem_toArray, List.getElem_cons_succ, List.getElem_cons_zero, Act.put, List.setIfInBounds_toArray, List.set_cons_zero, List.set_cons_succ]
                      refine wpAnyH_take (i := 1) (oi := _) (v := ?v14m3_2) rfl (by kernel_rfl) (by kernel_rfl) (by kernel_rfl) (fun _ _ _ h => h) (Or.inl ⟨by rfl, ?hy14m3_2⟩) hHeld ?_
                      case hy14m3_2 => (intro wS hSw; (try dsimp only at hSw); obtain ⟨hS1, hS2⟩ := hSw; clear hS1 hS2; go_simp; try with_reducible rfl)
                      try simp only [List.getElem_toArray, List.getElem_cons_succ, List.getElem_cons_zero, Act.put, List.setIfInBounds_toArray, List.set_cons_zero, List.set_cons_succ]
                      refine wpAnyH_take (i := 2) (oi := _) (v := ?v14m3_3) rfl (by kernel_rfl) (by kernel_rfl) (by kernel_rfl) (fun _ _ _ h => h) (Or.inl ⟨by rfl, ?hy14m3_3⟩) hHeld ?_
                      case hy14m3_3 => (intro wS hSw; (try dsimp only at hSw); obtain ⟨hS1, hS2⟩ := hSw; clear hS1 hS2; go_simp; try with_reducible rfl)
                      try simp only [List.getElem_toArray, List.getElem_cons_succ, List.getElem_cons_zero, Act.put, List.setIfInBounds_toArray, List.set_cons_zero, List.set_cons_succ]
                      refine wpAnyH_take (i := 3) (oi := _) (v := ?v14m3_4) rfl (by kernel_rfl) (by kernel_rfl) (by kernel_rfl) (fun _ _ _ h => h) (Or.inl ⟨by rfl, ?hy14m3_4⟩) hHeld ?_
                      case hy14m3_4 => (intro wS hSw; (try dsimp only at hSw); obtain ⟨hS1, hS2⟩ := hSw; clear hS1 hS2; go_simp; try with_reducible rfl)
                      try simp only [List.getElem_toArray, List.getElem_cons_succ, List.getElem_cons_zero, Act.put, List.setIfInBounds_toArray, List.set_cons_zero, List.set_cons_succ]
                      refine wpAnyH_take (i := 4) (oi := _) (v := .agg (knownCells y).toArray) rfl (by kernel_rfl) (by kernel_rfl) (by kernel_rfl) (fun _ _ _ h => h) (yieldsIf_load_known _ y H (dn * 33) hy (fun wS hS => hS.1) rfl rfl rfl) hHeld ?_
                      try simp only [List.getElem_toArray, List.getElem_cons_succ, List.getElem_cons_zero, Act.put, List.setIfInBounds_toArray, List.set_cons_zero, List.set_cons_succ]
                      refine wpAnyH_take (i := 5) (oi := _) (v := ?v14m3_6) rfl (by kernel_rfl) (by kernel_rfl) (by kernel_rfl) (fun _ _ _ h => h) (Or.inl ⟨by rfl, ?hy14m3_6⟩) hHeld ?_
                      case hy14m3_6 => (intro wS hSw; (try dsimp only at hSw); obtain ⟨hS1, hS2⟩ := hSw; clear hS1 hS2; go_simp; try with_reducible rfl)
                      try simp only [List.getElem_toArray, List.getElem_cons_succ, List.getElem_cons_zero, Act.put, List.setIfInBounds_toArray, List.set_cons_zero, List.set_cons_succ]
                      refine wpAnyH_done (by kernel_rfl) ?_ _
                      have o8 := O7.out.below bd7
                      have r8 := r7.below bd7
                      have t8' := t7.trans (bd7.mono t7.size)
                      have gr8' := grown_trans gr7 (grown_below bd7 (r := some H))
                      have gs8' := grown_trans gs7 (grown_below bd7 (r := some H))
                      have O8' := Lib.hid o8
                      clear o8 r8 r7 y7
                      go_wp2_with fail
                      exact ⟨⟨dn + 1, ins', fin', by omega, by go_num, rfl, HINV'.out, O8'.out, HMT'.out, fun h => ⟨(HMF'.out h).1, (HMF'.out h).2.1, upto_succ (HMF'.out h).2.2 (fun _ => by rw [getK_get HY.out]; exact HLE.out)⟩, t8', gr8', gs8'⟩, by first | (simp [intOf]; done) | (simp [intOf]; omega)⟩
                    · have z1 : decide (z = y) = false := by simp [hzy]
                      have HNE := Lib.hid hzy
                      clear hzy
                      go_upto_region 14 with fail
                      refine wp_region_held_drew (S := (fun w' => w'.rangeAt H (dn * 33) (knownCells y) ∧ Row w' Gj 77 (knownCells z))) (by kernel_rfl) (⟨rangeAt_below y7 bd7, r7.below bd7⟩) (fun hHeld => ?_)
                      refine wpAnyH_take (i := 0) (oi := _) (v := .agg (knownCells z).toArray) rfl (by kernel_rfl) (by kernel_rfl) (by kernel_rfl) (fun _ _ _ h => h) (yieldsIf_load_known _ z Gj 0 hjw (fun wS hS => Row.range hS.2) rfl rfl rfl) hHeld ?_
                      try simp only [List.getElem_toArray, List.getElem_cons_succ, List.getElem_cons_zero, Act.put, List.setIfInBounds_toArray, List.set_cons_zero, List.set_cons_succ]
                      refine wpAnyH_take (i := 1) (oi := _) (v := ?v14m4_2) rfl (by kernel_rfl) (by kernel_rfl) (by kernel_rfl) (fun _ _ _ h => h) (Or.inl ⟨by rfl, ?hy14m4_2⟩) hHeld ?_
                      case hy14m4_2 => (intro wS hSw; (try dsimp only at hSw); obtain ⟨hS1, hS2⟩ := hSw; clear hS1 hS2; go_simp; try with_reducible rfl)
                      try simp only [List.getElem_toArray, List.getElem_cons_succ, List.getElem_cons_zero, Act.put, List.setIfInBounds_toArray, List.set_cons_zero, List.set_cons_succ]
                      refine wpAnyH_take (i := 2) (oi := _) (v := ?v14m4_3) rfl (by kernel_rfl) (by kernel_rfl) (by kernel_rfl) (fun _ _ _ h => h) (Or.inl ⟨by rfl, ?hy14m4_3⟩) hHeld ?_
                      case hy14m4_3 => (intro wS hSw; (try dsimp only at hSw); obtain ⟨hS1, hS2⟩ := hSw; clear hS1 hS2; go_simp; try with_reducible rfl)
                      try simp only [List.getElem_toArray, List.getElem_cons_succ, List.getElem_cons_zero, Act.put, List.setIfInBounds_toArray, List.set_cons_zero, List.set_cons_succ]
                      refine wpAnyH_take (i := 3) (oi := _) (v := ?v14m4_4) rfl (by kernel_rfl) (by kernel_rfl) (by kernel_rfl) (fun _ _ _ h => h) (Or.inl ⟨by rfl, ?hy14m4_4⟩) hHeld ?_
                      case hy14m4_4 => (intro wS hSw; (try dsimp only at hSw); obtain ⟨hS1, hS2⟩ := hSw; clear hS1 hS2; go_simp; try with_reducible rfl)
                      try simp only [List.getElem_toArray, List.getElem_cons_succ, List.getElem_cons_zero, Act.put, List.setIfInBounds_toArray, List.set_cons_zero, List.set_cons_succ]
                      refine wpAnyH_take (i := 4) (oi := _) (v := .agg (knownCells y).toArray) rfl (by kernel_rfl) (by kernel_rfl) (by kernel_rfl) (fun _ _ _ h => h) (yieldsIf_load_known _ y H (dn * 33) hy (fun wS hS => hS.1) rfl rfl rfl) hHeld ?_
                      try simp only [List.getElem_toArray, List.getElem_cons_succ, List.getElem_cons_zero, Act.put, List.setIfInBounds_toArray, List.set_cons_zero, List.set_cons_succ]
                      refine wpAnyH_take (i := 5) (oi := _) (v := ?v14m4_6) rfl (by kernel_rfl) (by kernel_rfl) (by kernel_rfl) (fun _ _ _ h => h) (Or.inl ⟨by rfl, ?hy14m4_6⟩) hHeld ?_
                      case hy14m4_6 => (intro wS hSw; (try dsimp only at hSw); obtain ⟨hS1, hS2⟩ := hSw; clear hS1 hS2; go_simp; try with_reducible rfl)
                      try simp only [List.getElem_toArray, List.getElem_cons_succ, List.getElem_cons_zero, Act.put, List.setIfInBounds_toArray, List.set_cons_zero, List.set_cons_succ]
                      refine wpAnyH_done (by kernel_rfl) ?_ _
                      have o8 := O7.out.below bd7
                      have r8 := r7.below bd7
                      have t8' := t7.trans (bd7.mono t7.size)
                      have gr8' := grown_trans gr7 (grown_below bd7 (r := some H))
                      have gs8' := grown_trans gs7 (grown_below bd7 (r := some H))
                      obtain ⟨-, hole, -⟩ := o8.openKnown HY.out
                      clear o8 r7 y7
                      go_wp2_with (first | (refine wpList_load_known _ z Gj hjw r8 rfl rfl rfl ?_) | (refine wpList_put_hole rfl 77 _ _ rfl H (knownCells z) rfl rfl hole (infoKnown hjw) (knownCells_len hjw) (knownCells_one _) ?_; intro w9 h9 g9 s9; clear s9))
                      have o9 := h9.closeKnown hjw
                      rw [HINV'.out.len] at o9
                      have O9 := Lib.hid o9
                      have t9 := t8'.grown g9 t8'.size (fun j hj => by injection hj with hj; omega)
                      have gr9 := grown_trans gr8' g9
                      have gs9 := grown_trans gs8' g9
                      clear o9 h9 g9
                      have hroom : roomK (ins'.set dn z) < roomK ins0 := by
                        have h1 := HLOW.out HNE.out
                        cases hm : fin' with
                        | false => have := HMT'.out hm; omega
                        | true =>
                          have h2 := HMF'.out hm
                          rw [h2.2.1, (HMF.out h2.1).1] at h1 ⊢
                          exact h1
                      exact ⟨⟨dn + 1, _, false, by omega, by go_num, rfl, HSET.out HMEM.out, O9.out, fun _ => hroom, fun h => (by cases h), t9, gr9, gs9⟩, by first | (simp [intOf]; done) | (simp [intOf]; omega)⟩
              · obtain rfl : dn = bs.length := by omega
                have HO' := Lib.hid ho
                clear hinv ho hmt hmf
                go_wp2_with fail
                exact ⟨⟨i + 1, ins', fin', by omega, by go_num, rfl, HINV'.out, HO'.out, HMT'.out, fun h => by
                  obtain ⟨h1, h2, h3⟩ := HMF'.out h
                  obtain ⟨h4, h5⟩ := HMF.out h1
                  subst h2
                  refine ⟨h4, h5.succ HB.out (fun hr d hd => ?_)⟩
                  rw [getK_get HX.out, HKK.out] at hd ⊢
                  obtain ⟨d0, d1⟩ := HWIN.out d hd
                  obtain ⟨m, rfl⟩ := Int.eq_ofNat_of_zero_le d0
                  exact h3 m (by omega) hd, hbr, hgr⟩, by first | (simp [intOf]; done) | (simp [intOf]; omega)⟩
      · obtain rfl : i = bs.length := by omega
        have HINV := Lib.hid hinv
        have HO := Lib.hid ho
        have HMT := Lib.hid hmt
        have HMF := Lib.hid hmf
        clear hinv ho hmt hmf
        cases fin with
        | false =>
          go_wp2_with fail
          go_roundg (roomK ins)
          case rel => exact ⟨ins, rfl, HINV.out, HO.out, hbr, hgr⟩
          case measure => have := HMT.out (by first | rfl | trivial); have := HGK.out; omega
        | true =>
          go_wp2_with fail
          go_ret
          exact ⟨H, ins, rfl, PostTo.done HINV.out (HMF.out (by first | rfl | trivial)).2, HO.out, by omega, hbr⟩
end Go.Proofs.Ytokkngfgppikkab
