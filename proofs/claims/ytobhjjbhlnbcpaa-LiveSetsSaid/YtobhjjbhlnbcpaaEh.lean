/- LiveKeeps returns true. Printed by genEh.py of this repository. -/
import Derived.Test.YtobhjjbhlnbcpaaEg
import Derived.Test.YtobhjjbhlnbcpaaGd
namespace Go.Proofs.Ytobhjjbhlnbcpaa
set_option linter.unusedVariables false
set_option linter.unusedSimpArgs false
open Go.RowKit

theorem own_bs_read {w : World} {A : Option Addr} {c n : Nat} {bs : List Block} {F : Nat → Prop} (h : OwnF oBlock 43 w (.slice A n c) bs F) : kBlock.C w A bs := by
  obtain ⟨A', c', e, -, -, hC⟩ := h.read
  injection e with e1 e2 e3
  rw [e1]
  exact hC
theorem yU {w : World} {A : Option Addr} {n c : Nat} {xs : List Nat} {F : Nat → Prop} (h : OwnF oU 51 w (.slice A n c) xs F) : kU.C w A xs := by
  obtain ⟨A', c', e, -, -, hC⟩ := h.read
  injection e with e1 e2 e3
  rw [e1]
  exact hC

set_option maxHeartbeats 8000000 in
set_option maxRecDepth 100000 in
theorem liveKeeps_law (w : World) (g : Graph) (wf : g.wf) (A : Option Addr) (c : Nat) (hlc : g.blocks.length ≤ c) (hcm : c ≤ maxLen) (hC : kBlock.C w A g.blocks) : Calls Try.prog 10 #[.agg #[.string g.name, .bool g.keep, .bool g.leaf, .slice A g.blocks.length c]] w fun e w' => e = .returned (.bool true) ∧ Below w.heap.size w w' := by
  clear wf
  have hlm := Nat.le_trans hlc hcm
  have hlm' : g.blocks.length ≤ 9223372036854775807 := hlm
  have b0 := below_alloc' w (.cells #[.string g.name, .bool g.keep, .bool g.leaf, .slice A g.blocks.length c] 28)
  have r0 : Row (w.alloc (.cells #[.string g.name, .bool g.keep, .bool g.leaf, .slice A g.blocks.length c] 28)) w.heap.size 28 (graphCells (.slice A g.blocks.length c) g) := Row.new w _ _
  cases hr : blocksFew g.blocks with
  | false =>
    have HR := Lib.hid hr
    clear hr
    go_enter Try.func10, Try.ntmps10
    go_upto_region 1 with fail
    generalize w.alloc (.cells #[.string g.name, .bool g.keep, .bool g.leaf, .slice A g.blocks.length c] 28) = W at *
    go_wp2_with fail
    refine (awake19_calls _).mono ?_
    rintro e w1 ⟨rfl, hb1⟩
    obtain ⟨x0, x1, x2, x3⟩ := (r0.below hb1).graph
    have t1 := b0.trans (hb1.mono b0.size)
    go_wp2_with fail
    refine (few_calls _ _ _ _ _ _ _ (Kd.C_mono t1 hC) hlm).mono ?_
    rw [HR.out]
    rintro e w2 ⟨rfl, hb2⟩
    have t2 := t1.trans (hb2.mono t1.size)
    go_wp2_with fail
    refine (awake19_calls _).mono ?_
    rintro e w3 ⟨rfl, hb3⟩
    go_wp2_with fail
    go_ret
    exact ⟨rfl, t2.trans (hb3.mono t2.size)⟩
  | true =>
    have HR := Lib.hid hr
    clear hr
    cases hq : blocksRight g.blocks 1000 1000 with
    | false =>
      have HQ := Lib.hid hq
      clear hq
      go_enter Try.func10, Try.ntmps10
      go_upto_region 1 with fail
      generalize w.alloc (.cells #[.string g.name, .bool g.keep, .bool g.leaf, .slice A g.blocks.length c] 28) = W at *
      go_wp2_with fail
      refine (awake19_calls _).mono ?_
      rintro e w1 ⟨rfl, hb1⟩
      have r1 := r0.below hb1
      obtain ⟨x0, x1, x2, x3⟩ := r1.graph
      have t1 := b0.trans (hb1.mono b0.size)
      go_wp2_with fail
      refine (few_calls _ _ _ _ _ _ _ (Kd.C_mono t1 hC) hlm).mono ?_
      rw [HR.out]
      rintro e w2 ⟨rfl, hb2⟩
      have t2 := t1.trans (hb2.mono t1.size)
      clear x0 x1 x2 x3
      obtain ⟨x0, x1, x2, x3⟩ := (r1.below hb2).graph
      go_wp2_with fail
      refine (right_calls _ _ _ _ _ _ _ _ _ (Kd.C_mono t2 hC) hlm).mono ?_
      rw [HQ.out]
      rintro e w3 ⟨rfl, hb3⟩
      have t3 := t2.trans (hb3.mono t2.size)
      go_wp2_with fail
      refine (awake19_calls _).mono ?_
      rintro e w4 ⟨rfl, hb4⟩
      go_wp2_with fail
      go_ret
      exact ⟨rfl, t3.trans (hb4.mono t3.size)⟩
    | true =>
      have hok : BsOk g.blocks := ⟨1000, 1000, hq⟩
      have hpos := blocksRight_pos hq
      have HQ := Lib.hid hq
      have HOK := Lib.hid hok
      have hfew := blocksFew_parts HR.out
      have HFE := Lib.hid hfew
      clear hq hok hfew
      go_enter Try.func10, Try.ntmps10
      go_upto_region 1 with fail
      generalize w.alloc (.cells #[.string g.name, .bool g.keep, .bool g.leaf, .slice A g.blocks.length c] 28) = W at *
      go_wp2_with fail
      refine (awake19_calls _).mono ?_
      rintro e w1 ⟨rfl, hb1⟩
      have r1 := r0.below hb1
      obtain ⟨x0, x1, x2, x3⟩ := r1.graph
      have t1 := b0.trans (hb1.mono b0.size)
      go_wp2_with fail
      refine (few_calls _ _ _ _ _ _ _ (Kd.C_mono t1 hC) hlm).mono ?_
      rw [HR.out]
      rintro e w2 ⟨rfl, hb2⟩
      have t2 := t1.trans (hb2.mono t1.size)
      have r2 := r1.below hb2
      clear x0 x1 x2 x3
      obtain ⟨x0, x1, x2, x3⟩ := r2.graph
      go_wp2_with fail
      refine (right_calls _ _ _ _ _ _ _ _ _ (Kd.C_mono t2 hC) hlm).mono ?_
      rw [HQ.out]
      rintro e w3 ⟨rfl, hb3⟩
      have t3 := t2.trans (hb3.mono t2.size)
      have r3 := r2.below hb3
      clear x0 x1 x2 x3
      obtain ⟨x0, x1, x2, x3⟩ := r3.graph
      clear hb1 hb2 hb3 t1 t2 r0 r1 r2 b0
      have C3 := Kd.C_mono t3 hC
      go_wp2_with fail
      refine (copy_calls _ _ _ _ _ _ _ C3 hlm HR.out).mono ?_
      rintro e w4 ⟨A4, c4, F4, rfl, own4, hF4, hb4⟩
      have C4 := own_bs_read own4
      have r4 := r3.below hb4
      clear x0 x1 x2 x3 r3 own4 hF4
      have bq := below_alloc' w4 (.cells #[.string ByteArray.empty, .bool false, .bool false, .slice none 0 0] 28)
      go_upto_region 4 with (refine wpList_put_row rfl 28 _ _ rfl w4.heap.size (graphCells (.slice A4 g.blocks.length c4) g) rfl rfl (Row.new w4 28 _) (by kernel_rfl) rfl (graphCells_one _) ?_; intro w5 r5 g5 s5; clear s5; replace bq := bq.grown g5 bq.size (fun j hj => by injection hj with hj; subst hj; exact Nat.le_refl _); clear g5)
      have C5 := Kd.C_mono (hb4.trans (bq.mono hb4.size)) C3
      have C45 := Kd.C_mono bq C4
      have rr := r4.below bq
      have t5 := t3.trans ((hb4.trans (bq.mono hb4.size)).mono t3.size)
      clear C3 C4 hb4 bq t3 r4 hC
      have hl1000 : g.blocks.length ≤ 1000 := Nat.le_trans HFE.out.1 (by decide)
      have hl200 := HFE.out.1
      generalize w4.heap.size = G5 at *
      obtain ⟨x0, x1, x2, x3⟩ := rr.graph
      go_wp2_with fail
      refine (liveIn_calls _ _ _ _ _ _ _ C5 hl1000 HOK.out HFE.out.2).mono ?_
      rintro e w6 ⟨g6, ins, rfl, hL, own6, hg6, hb6⟩
      have hlen := hL.inv.len
      have HLN := Lib.hid hlen
      have HL := Lib.hid hL
      clear hL x0 x1 x2 x3
      have hb7 := below_alloc' w6 (.cells #[] 51)
      have hC6 := Kd.C_mono hb7 (yU own6)
      have hlt6 := own6.lt g6 rfl
      clear hlen
      go_wp2_with (at_builtin; refine wpList_append_f (k := oU) elU rfl _ _ rfl (OwnF.empty oU 51 w6) (YF.flat hC6) (fun _ _ h => h) rfl (by show _ = Value.slice _ ins.length _; rw [HLN.out]; rfl) (by rw [HLN.out]; show 0 + _ ≤ _; omega) ?_; intro v7 w7 hg7; obtain ⟨⟨F7, own7, hF7⟩, hgr7⟩ := hg7; rw [List.nil_append] at own7; obtain ⟨A7, c7, hv7, l7, m7, -⟩ := own7.read; rw [HLN.out] at hv7; subst hv7)
      have o6 := (own6.below hb7).grown hgr7 (fun b hb e => by injection e with e; have e1 : w6.heap.size = b := e; omega)
      have hbb : Below w6.heap.size w6 w7 := hb7.grown hgr7 hb7.size (fun j hj => by injection hj with hj; subst hj; exact Nat.le_refl _)
      have hne7 : ∀ x, F7 x → x ≠ g6 := fun x hx e => by
        subst e
        rcases hF7 x hx with h | h | h
        · exact Nat.lt_irrefl _ (h ▸ hlt6)
        · exact h
        · exact absurd (Nat.le_trans hb7.size h) (Nat.not_le_of_lt hlt6)
      have hbw : Below w5.heap.size w5 w7 := hb6.trans (hbb.mono hb6.size)
      have HO6 := Lib.hid o6
      have HO7 := Lib.hid own7
      have HNE := Lib.hid hne7
      clear o6 own7 own6 hC6 hb7 hbb hgr7 hF7 hne7 hb6 l7 m7 hlt6
      have hlm3 : g.blocks.length ≤ 200 := hl200
      go_wp2_with fail
      go_loopw [6] (fun i wr => ∃ (k : Nat) (xs : List Nat), k ≤ g.blocks.length ∧ i = .int .i64 k ∧ xs.length = g.blocks.length ∧ OwnF oU 51 wr (.slice (some ⟨g6, 0, none⟩) g.blocks.length g.blocks.length) xs (fun b => b = g6) ∧ OwnF oU 51 wr (.slice A7 g.blocks.length c7) ins F7 ∧ Below w5.heap.size w5 wr) (fun i _ => g.blocks.length - (intOf i).toNat)
      case atStart => exact ⟨0, ins, Nat.zero_le _, rfl, HLN.out, HO6.out, HO7.out, hbw⟩
      case round =>
        obtain ⟨k, xs, hk, rfl, hxl, o6, o7, hbr⟩ := hrel
        have HX := Lib.hid hxl
        by_cases hlt : k < g.blocks.length
        · obtain ⟨s1, s2, s3, -⟩ := o6.setU hxl hlt (show 7 < 65536 by decide)
          have o7' := o7.grown s2 (fun b hb e => by injection e with e; exact HNE.out b hb e.symm)
          have hbr' := hbr.grown s2 hbr.size (fun j hj => by injection hj with hj; subst hj; exact hg6)
          have H1 := Lib.hid s1
          have H7 := Lib.hid o7'
          obtain ⟨x, hx⟩ := get_some xs k (by rw [hxl]; exact hlt)
          have f6 := o6.cellU hx
          clear s1 s2 o7' o7 o6 hxl hx
          go_wp2_with fail
          exact ⟨⟨k + 1, xs.set k 7, by omega, by go_num, by rw [List.length_set]; exact HX.out, H1.out, H7.out, hbr'⟩, by simp [intOf]; omega⟩
        · obtain rfl : k = g.blocks.length := by omega
          have hrow := rr.below hbr
          obtain ⟨x0, x1, x2, x3⟩ := hrow.graph
          have H7 := Lib.hid o7
          clear o6 o7 hxl HO6 HO7
          go_wp2_with fail
          refine (liveIn_calls _ _ _ _ _ _ _ (Kd.C_mono hbr C5) hl1000 HOK.out HFE.out.2).mono ?_
          rintro e w9 ⟨g9, ins', rfl, hL', own9, hg9, hb9⟩
          obtain rfl := HL.out.unique hL'
          have C7 := (H7.out.below hb9).cellsU
          have H7' := Lib.hid C7
          have H9 := Lib.hid own9
          have t9 := hbr.trans (hb9.mono hbr.size)
          clear x0 x1 x2 x3 hL' own9 hbr C7 hb9
          go_wp2_with fail
          go_loopw [8] (fun v wr => ∃ k : Nat, k ≤ g.blocks.length ∧ v = .int .i64 k ∧ ∃ n, wr = w9.drewN n) (fun v _ => g.blocks.length - (intOf v).toNat)
          case atStart => exact ⟨0, Nat.zero_le _, rfl, 0, rfl⟩
          case round =>
            obtain ⟨k, hk, rfl, n, rfl⟩ := hrel
            by_cases hlt : k < g.blocks.length
            · obtain ⟨x, hx⟩ := get_some ins k (by rw [HLN.out]; exact hlt)
              have f9 := H9.out.cellU hx
              obtain ⟨ad, rfl, f7, -⟩ := H7'.out k x hx
              clear hx
              go_wp2_with fail
              go_quiet (fail)
              go_wp2_with fail
              exact ⟨⟨k + 1, by omega, by go_num, _, rfl⟩, by simp [intOf]; omega⟩
            · have hbn : Below w5.heap.size w5 (w9.drewN n) := Below.drewN t9 n
              obtain ⟨x0, x1, x2, x3⟩ := (rr.below hbn).graph
              obtain ⟨y0, y1, y2, y3⟩ := (r5.below hbn).graph
              have CA := Kd.C_mono hbn C5
              have CB := Kd.C_mono hbn C45
              have t10 := t5.trans (hbn.mono t5.size)
              generalize w9.drewN n = W9 at *
              go_wp2_with fail
              refine (same_calls _ _ _ _ _ _ _ _ _ CA CB hlm).mono ?_
              rintro e w10 ⟨rfl, hb10⟩
              go_wp2_with fail
              go_ret
              exact ⟨rfl, t10.trans (hb10.mono t10.size)⟩
end Go.Proofs.Ytobhjjbhlnbcpaa
