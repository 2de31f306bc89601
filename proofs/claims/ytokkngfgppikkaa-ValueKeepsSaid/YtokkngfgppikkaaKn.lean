/- ValueKeeps returns true. Printed by genKn.py of this repository. -/
import Derived.Test.YtokkngfgppikkaaKm
import Derived.Test.YtokkngfgppikkaaGd
namespace Go.Proofs.Ytokkngfgppikkaa
set_option linter.unusedVariables false
set_option linter.unusedSimpArgs false
open Go.RowKit

theorem own_blocks_read {w : World} {A : Option Addr} {c n : Nat} {bs : List Block} {F : Nat → Prop} (h : OwnF oBlock 42 w (.slice A n c) bs F) : kBlock.C w A bs := by
  obtain ⟨A', c', e, -, -, hC⟩ := h.read
  injection e with e1 e2 e3
  rw [e1]
  exact hC

set_option maxHeartbeats 8000000 in
set_option maxRecDepth 100000 in
theorem valueKeeps_law (w : World) (g : Graph) (wf : g.wf) (A : Option Addr) (c : Nat) (hlc : g.blocks.length ≤ c) (hcm : c ≤ maxLen) (hC : kBlock.C w A g.blocks) : Calls Try.prog 6 #[.agg #[.string g.name, .bool g.keep, .bool g.leaf, .slice A g.blocks.length c]] w fun e w' => e = .returned (.bool true) ∧ Below w.heap.size w w' := by
  clear wf
  have hlm := Nat.le_trans hlc hcm
  have hlm' : g.blocks.length ≤ 9223372036854775807 := hlm
  have b0 := below_alloc' w (.cells #[.string g.name, .bool g.keep, .bool g.leaf, .slice A g.blocks.length c] 33)
  have r0 : Row (w.alloc (.cells #[.string g.name, .bool g.keep, .bool g.leaf, .slice A g.blocks.length c] 33)) w.heap.size 33 (graphCells (.slice A g.blocks.length c) g) := Row.new w _ _
  cases hr : blocksFew g.blocks with
  | false =>
    have HR := Lib.hid hr
    clear hr
    go_enter Try.func6, Try.ntmps6
    go_upto_region 1 with fail
    generalize w.alloc (.cells #[.string g.name, .bool g.keep, .bool g.leaf, .slice A g.blocks.length c] 33) = W at *
    go_wp2_with fail
    refine (awake20_calls _).mono ?_
    rintro e w1 ⟨rfl, hb1⟩
    have r1 := r0.below hb1
    obtain ⟨x0, x1, x2, x3⟩ := r1.graph
    have t1 := b0.trans (hb1.mono b0.size)
    go_wp2_with fail
    refine (few_calls _ _ _ _ _ _ _ (Kd.C_mono t1 hC) hlm).mono ?_
    rw [HR.out]
    rintro e w2 ⟨rfl, hb2⟩
    have t2 := t1.trans (hb2.mono t1.size)
    have r2 := r1.below hb2
    clear x0 x1 x2 x3
    obtain ⟨x0, x1, x2, x3⟩ := r2.graph
    go_wp2_with fail
    refine (awake20_calls _).mono ?_
    rintro e w3 ⟨rfl, hb3⟩
    go_wp2_with fail
    go_ret
    exact ⟨rfl, t2.trans (hb3.mono t2.size)⟩
  | true =>
    have HR := Lib.hid hr
    clear hr
    by_cases h60 : 60 < g.blocks.length
    · skip
      go_enter Try.func6, Try.ntmps6
      go_upto_region 1 with fail
      generalize w.alloc (.cells #[.string g.name, .bool g.keep, .bool g.leaf, .slice A g.blocks.length c] 33) = W at *
      go_wp2_with fail
      refine (awake20_calls _).mono ?_
      rintro e w1 ⟨rfl, hb1⟩
      have r1 := r0.below hb1
      obtain ⟨x0, x1, x2, x3⟩ := r1.graph
      have t1 := b0.trans (hb1.mono b0.size)
      go_wp2_with fail
      refine (few_calls _ _ _ _ _ _ _ (Kd.C_mono t1 hC) hlm).mono ?_
      rw [HR.out]
      rintro e w2 ⟨rfl, hb2⟩
      have t2 := t1.trans (hb2.mono t1.size)
      have r2 := r1.below hb2
      clear x0 x1 x2 x3
      obtain ⟨x0, x1, x2, x3⟩ := r2.graph
      go_wp2_with fail
      refine (awake20_calls _).mono ?_
      rintro e w3 ⟨rfl, hb3⟩
      go_wp2_with fail
      go_ret
      exact ⟨rfl, t2.trans (hb3.mono t2.size)⟩
    · have hle : g.blocks.length ≤ 60 := by omega
      cases hq : blocksRight g.blocks 1000 1000 with
      | false =>
        have HQ := Lib.hid hq
        clear hq
        go_enter Try.func6, Try.ntmps6
        go_upto_region 1 with fail
        generalize w.alloc (.cells #[.string g.name, .bool g.keep, .bool g.leaf, .slice A g.blocks.length c] 33) = W at *
        go_wp2_with fail
        refine (awake20_calls _).mono ?_
        rintro e w1 ⟨rfl, hb1⟩
        have r1 := r0.below hb1
        obtain ⟨x0, x1, x2, x3⟩ := r1.graph
        have t1 := b0.trans (hb1.mono b0.size)
        go_wp2_with fail
        refine (few_calls _ _ _ _ _ _ _ (Kd.C_mono t1 hC) hlm).mono ?_
        rw [HR.out]
        rintro e w2 ⟨rfl, hb2⟩
        have t2 := t1.trans (hb2.mono t1.size)
        have r2 := r1.below hb2
        clear x0 x1 x2 x3
        obtain ⟨x0, x1, x2, x3⟩ := r2.graph
        go_wp2_with fail
        refine (right_calls _ _ _ _ _ _ _ _ _ (Kd.C_mono t2 hC) hlm).mono ?_
        rw [HQ.out]
        rintro e w3 ⟨rfl, hb3⟩
        have t3 := t2.trans (hb3.mono t2.size)
        have r3 := r2.below hb3
        clear x0 x1 x2 x3
        obtain ⟨x0, x1, x2, x3⟩ := r3.graph
        go_wp2_with fail
        refine (awake20_calls _).mono ?_
        rintro e w4 ⟨rfl, hb4⟩
        go_wp2_with fail
        go_ret
        exact ⟨rfl, t3.trans (hb4.mono t3.size)⟩
      | true =>
        have hok : BsOk g.blocks := ⟨1000, 1000, hq⟩
        have hpos := blocksRight_pos hq
        have HQ := Lib.hid hq
        have HOK := Lib.hid hok
        have hfew := blocksFew_parts HR.out
        have HFE := Lib.hid hfew
        clear hq hok hfew
        go_enter Try.func6, Try.ntmps6
        go_upto_region 1 with fail
        generalize w.alloc (.cells #[.string g.name, .bool g.keep, .bool g.leaf, .slice A g.blocks.length c] 33) = W at *
        go_wp2_with fail
        refine (awake20_calls _).mono ?_
        rintro e w1 ⟨rfl, hb1⟩
        have r1 := r0.below hb1
        obtain ⟨x0, x1, x2, x3⟩ := r1.graph
        have t1 := b0.trans (hb1.mono b0.size)
        go_wp2_with fail
        refine (few_calls _ _ _ _ _ _ _ (Kd.C_mono t1 hC) hlm).mono ?_
        rw [HR.out]
        rintro e w2 ⟨rfl, hb2⟩
        have t2 := t1.trans (hb2.mono t1.size)
        have r2 := r1.below hb2
        clear x0 x1 x2 x3
        obtain ⟨x0, x1, x2, x3⟩ := r2.graph
        go_wp2_with fail
        refine (right_calls _ _ _ _ _ _ _ _ _ (Kd.C_mono t2 hC) hlm).mono ?_
        rw [HQ.out]
        rintro e w3 ⟨rfl, hb3⟩
        have t3 := t2.trans (hb3.mono t2.size)
        have r3 := r2.below hb3
        clear x0 x1 x2 x3
        obtain ⟨x0, x1, x2, x3⟩ := r3.graph
        clear hb1 hb2 hb3 t1 t2 r0 r1 r2 b0
        have C3 := Kd.C_mono t3 hC
        clear hC
        have hl1000 : g.blocks.length ≤ 1000 := Nat.le_trans HFE.out.1 (by decide)
        go_wp2_with fail
        refine (copy_calls _ _ _ _ _ _ _ C3 hlm HR.out).mono ?_
        rintro e w4 ⟨A4, c4, F4, rfl, own4, hF4, hb4⟩
        have C4 := own_blocks_read own4
        have r4 := r3.below hb4
        clear x0 x1 x2 x3 r3 own4 hF4
        have bq := below_alloc' w4 (.cells #[.string ByteArray.empty, .bool false, .bool false, .slice none 0 0] 33)
        go_upto_region 4 with (refine wpList_put_row rfl 33 _ _ rfl w4.heap.size (graphCells (.slice A4 g.blocks.length c4) g) rfl rfl (Row.new w4 33 _) (by kernel_rfl) rfl (graphCells_one _) ?_; intro w5 r5 g5 s5; clear s5; replace bq := bq.grown g5 bq.size (fun j hj => by injection hj with hj; subst hj; exact Nat.le_refl _); clear g5)
        have C5 := Kd.C_mono (hb4.trans (bq.mono hb4.size)) C3
        have C45 := Kd.C_mono bq C4
        have rr := r4.below bq
        have t5 := t3.trans ((hb4.trans (bq.mono hb4.size)).mono t3.size)
        clear C3 C4 hb4 bq t3 r4
        generalize w4.heap.size = G5 at *
        obtain ⟨x0, x1, x2, x3⟩ := rr.graph
        go_wp2_with fail
        refine (at_calls _ _ _ _ _ _ _ C5 hl1000 HOK.out HFE.out.2 hpos).mono ?_
        rintro e w6 ⟨g6, ins, rfl, hL, own6, hg6, hb6⟩
        have hlen := hL.inv.len
        have HLN := Lib.hid hlen
        have HO6 := Lib.hid own6
        clear hL x0 x1 x2 x3 own6 hlen
        go_wp2_with fail
        go_loopw [5] (fun i wr => ∃ (k : Nat) (xs : List Known), k ≤ g.blocks.length ∧ i = .int .i64 k ∧ xs.length = g.blocks.length ∧ OwnF oKnown 26 wr (.slice (some ⟨g6, 0, none⟩) g.blocks.length g.blocks.length) xs (fun b => b = g6) ∧ Below w5.heap.size w5 wr) (fun i _ => g.blocks.length - (intOf i).toNat)
        case atStart => exact ⟨0, ins, Nat.zero_le _, rfl, HLN.out, HO6.out, hb6⟩
        case round =>
          clear hb6
          obtain ⟨k, xs, hk, rfl, hxl, o6, hbr⟩ := hrel
          have HX := Lib.hid hxl
          by_cases hlt : k < g.blocks.length
          · obtain ⟨x, hx⟩ := get_some xs k (by rw [hxl]; exact hlt)
            obtain ⟨-, hole, -⟩ := o6.openKnown hx
            clear hxl hx o6
            go_wp2_with (refine wpList_put_hole rfl 26 _ _ rfl g6 (knownCells Known.zero) rfl rfl hole (infoKnown Known.zero_wf) (knownCells_len Known.zero_wf) (knownCells_one _) ?_; intro w8 h8 g8 s8; clear s8)
            have o8 := h8.closeKnown Known.zero_wf
            rw [HX.out] at o8
            have O8 := Lib.hid o8
            have hbr' := hbr.grown g8 hbr.size (fun j hj => by injection hj with hj; subst hj; exact hg6)
            clear o8 h8 g8
            exact ⟨⟨k + 1, xs.set k Known.zero, by omega, by go_num, by rw [List.length_set]; exact HX.out, O8.out, hbr'⟩, by first | (simp [intOf]; done) | (simp [intOf]; omega)⟩
          · obtain rfl : k = g.blocks.length := by omega
            obtain ⟨x0, x1, x2, x3⟩ := (rr.below hbr).graph
            clear o6 hxl HO6
            go_wp2_with fail
            refine (at_calls _ _ _ _ _ _ _ (Kd.C_mono hbr C5) hl1000 HOK.out HFE.out.2 hpos).mono ?_
            rintro e w9 ⟨g9, ins', rfl, hL', own9, hg9, hb9⟩
            have t9 := hbr.trans (hb9.mono hbr.size)
            obtain ⟨x, hx⟩ := get_some ins' 0 (by rw [hL'.inv.len]; exact hpos)
            have hre := (hL'.inv.zero rfl).1
            rw [getK_get hx] at hre
            have H9 := Lib.hid own9
            have HX9 := Lib.hid hx
            have HRE := Lib.hid hre
            clear x0 x1 x2 x3 hL' own9 hbr hb9 hx hre
            obtain ⟨x0, x1, x2, x3⟩ := (rr.below t9).graph
            obtain ⟨y0, y1, y2, y3⟩ := (r5.below t9).graph
            have CA := Kd.C_mono t9 C5
            have CB := Kd.C_mono t9 C45
            go_wp2_with fail
            refine (same_calls _ _ _ _ _ _ _ _ _ CA CB hlm).mono ?_
            rintro e w10 ⟨rfl, hb10⟩
            have c10 := rangeAt_re ((H9.out.below hb10).krange HX9.out).1
            rw [HRE.out, Nat.zero_mul] at c10
            have t10 := t5.trans ((t9.trans (hb10.mono t9.size)).mono t5.size)
            go_wp2_with fail
            go_ret
            exact ⟨rfl, t10⟩
end Go.Proofs.Ytokkngfgppikkaa
