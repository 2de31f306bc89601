/- LiveSets returns true. Printed by genEm.py of this repository. -/
import Derived.Test.YtobhjjbhlnbcpaaEl
import Derived.Test.YtobhjjbhlnbcpaaEh
namespace Go.Proofs.Ytobhjjbhlnbcpaa
set_option linter.unusedVariables false
set_option linter.unusedSimpArgs false
open Go.RowKit

theorem bitL_at {ins : List Nat} {k x : Nat} (h : ins[k]? = some x) (r : Nat) : (bitL ins r)[k]? = some (x.testBit r) := by
  unfold bitL
  rw [List.getElem?_map, h]
  rfl
theorem bitL_zero {bs : List Block} (hok : BsOk bs) {ins : List Nat} (h : IsLive bs ins) : bitL ins 0 = List.replicate bs.length false := by
  have h0 := h.bit0 hok
  apply List.ext_getElem?
  intro i
  rw [List.getElem?_replicate]
  by_cases hi : i < bs.length
  · obtain ⟨x, hx⟩ := get_some ins i (by rw [h.inv.len]; exact hi)
    have := h0 i
    rw [getD_get hx] at this
    rw [if_pos hi, bitL_at hx, this]
  · rw [if_neg hi, List.getElem?_eq_none (by unfold bitL; rw [List.length_map, h.inv.len]; omega)]
theorem aheadOps_bit0' {os : List Op} {k : Nat} (h : ∀ o ∈ os, o.ins.right = true) {a : Nat} (ha : a.testBit 0 = false) : (aheadOps (os.drop k) a).testBit 0 = false := aheadOps_bit0 (fun o ho => h o (List.mem_of_mem_drop ho)) ha
theorem afterB_bit {bs : List Block} (hok : BsOk bs) {b : Block} (hb : b ∈ bs) (ins : List Nat) {r k : Nat} (h1 : 1 ≤ r) (h2 : r ≤ 15) (hk : k < b.ops.length) : (afterB b.ops r (endB b.fin r (bitL ins r)))[k]? = some ((aheadOps (b.ops.drop (k + 1)) (endN b.fin ins)).testBit r) := by
  obtain ⟨f, hf⟩ := hok.fin hb
  rw [afterB_at hk, aheadOps_bit (fun o ho => hok.ops hb o (List.mem_of_mem_drop ho)) h1 h2, endN_bit hf h1 h2]
  rfl

set_option maxHeartbeats 8000000 in
set_option maxRecDepth 100000 in
theorem liveSets_law (w : World) (g : Graph) (wf : g.wf) (A : Option Addr) (c : Nat) (hlc : g.blocks.length ≤ c) (hcm : c ≤ maxLen) (hC : kBlock.C w A g.blocks) : Calls Try.prog 7 #[.agg #[.string g.name, .bool g.keep, .bool g.leaf, .slice A g.blocks.length c]] w fun e w' => e = .returned (.bool true) ∧ Below w.heap.size w w' := by
  clear wf
  have hlm := Nat.le_trans hlc hcm
  have hlm' : g.blocks.length ≤ 9223372036854775807 := hlm
  have b0 := below_alloc' w (.cells #[.string g.name, .bool g.keep, .bool g.leaf, .slice A g.blocks.length c] 28)
  have r0 : Row (w.alloc (.cells #[.string g.name, .bool g.keep, .bool g.leaf, .slice A g.blocks.length c] 28)) w.heap.size 28 (graphCells (.slice A g.blocks.length c) g) := Row.new w _ _
  cases hr : blocksFew g.blocks with
  | false =>
    have HR := Lib.hid hr
    clear hr
    go_enter Try.func7, Try.ntmps7
    go_upto_region 1 with fail
    generalize w.alloc (.cells #[.string g.name, .bool g.keep, .bool g.leaf, .slice A g.blocks.length c] 28) = W at *
    go_wp2_with fail
    refine (awake19_calls _).mono ?_
    rintro e w1 ⟨rfl, hb1⟩
    have r1 := r0.below hb1
    obtain ⟨x0, x1, x2, x3⟩ := r1.graph
    have t1 := b0.trans (hb1.mono b0.size)
    go_wp2_with fail
    refine (few_calls _ _ _ _ _ _ _ (Kd.C_mono t1 hC) hlm).mono ?_
    rw [HR.out]
    rintro e w2 ⟨rfl, hb2⟩
    have t2 := t1.trans (hb2.mono t1.size)
    have r2 := r1.below hb2
    clear x0 x1 x2 x3
    obtain ⟨x0, x1, x2, x3⟩ := r2.graph
    go_wp2_with fail
    refine (awake19_calls _).mono ?_
    rintro e w3 ⟨rfl, hb3⟩
    go_wp2_with fail
    go_ret
    exact ⟨rfl, t2.trans (hb3.mono t2.size)⟩
  | true =>
    have HR := Lib.hid hr
    clear hr
    by_cases h60 : 60 < g.blocks.length
    · skip
      go_enter Try.func7, Try.ntmps7
      go_upto_region 1 with fail
      generalize w.alloc (.cells #[.string g.name, .bool g.keep, .bool g.leaf, .slice A g.blocks.length c] 28) = W at *
      go_wp2_with fail
      refine (awake19_calls _).mono ?_
      rintro e w1 ⟨rfl, hb1⟩
      have r1 := r0.below hb1
      obtain ⟨x0, x1, x2, x3⟩ := r1.graph
      have t1 := b0.trans (hb1.mono b0.size)
      go_wp2_with fail
      refine (few_calls _ _ _ _ _ _ _ (Kd.C_mono t1 hC) hlm).mono ?_
      rw [HR.out]
      rintro e w2 ⟨rfl, hb2⟩
      have t2 := t1.trans (hb2.mono t1.size)
      have r2 := r1.below hb2
      clear x0 x1 x2 x3
      obtain ⟨x0, x1, x2, x3⟩ := r2.graph
      go_wp2_with fail
      refine (awake19_calls _).mono ?_
      rintro e w3 ⟨rfl, hb3⟩
      go_wp2_with fail
      go_ret
      exact ⟨rfl, t2.trans (hb3.mono t2.size)⟩
    · have hle : g.blocks.length ≤ 60 := by omega
      cases hq : blocksRight g.blocks 1000 1000 with
      | false =>
        have HQ := Lib.hid hq
        clear hq
        go_enter Try.func7, Try.ntmps7
        go_upto_region 1 with fail
        generalize w.alloc (.cells #[.string g.name, .bool g.keep, .bool g.leaf, .slice A g.blocks.length c] 28) = W at *
        go_wp2_with fail
        refine (awake19_calls _).mono ?_
        rintro e w1 ⟨rfl, hb1⟩
        have r1 := r0.below hb1
        obtain ⟨x0, x1, x2, x3⟩ := r1.graph
        have t1 := b0.trans (hb1.mono b0.size)
        go_wp2_with fail
        refine (few_calls _ _ _ _ _ _ _ (Kd.C_mono t1 hC) hlm).mono ?_
        rw [HR.out]
        rintro e w2 ⟨rfl, hb2⟩
        have t2 := t1.trans (hb2.mono t1.size)
        have r2 := r1.below hb2
        clear x0 x1 x2 x3
        obtain ⟨x0, x1, x2, x3⟩ := r2.graph
        go_wp2_with fail
        refine (right_calls _ _ _ _ _ _ _ _ _ (Kd.C_mono t2 hC) hlm).mono ?_
        rw [HQ.out]
        rintro e w3 ⟨rfl, hb3⟩
        have t3 := t2.trans (hb3.mono t2.size)
        have r3 := r2.below hb3
        clear x0 x1 x2 x3
        obtain ⟨x0, x1, x2, x3⟩ := r3.graph
        go_wp2_with fail
        refine (awake19_calls _).mono ?_
        rintro e w4 ⟨rfl, hb4⟩
        go_wp2_with fail
        go_ret
        exact ⟨rfl, t3.trans (hb4.mono t3.size)⟩
      | true =>
        have hok : BsOk g.blocks := ⟨1000, 1000, hq⟩
        have HQ := Lib.hid hq
        have HOK := Lib.hid hok
        have hfew := blocksFew_parts HR.out
        have HFE := Lib.hid hfew
        clear hq hok hfew
        go_enter Try.func7, Try.ntmps7
        go_upto_region 1 with fail
        generalize w.alloc (.cells #[.string g.name, .bool g.keep, .bool g.leaf, .slice A g.blocks.length c] 28) = W at *
        go_wp2_with fail
        refine (awake19_calls _).mono ?_
        rintro e w1 ⟨rfl, hb1⟩
        have r1 := r0.below hb1
        obtain ⟨x0, x1, x2, x3⟩ := r1.graph
        have t1 := b0.trans (hb1.mono b0.size)
        go_wp2_with fail
        refine (few_calls _ _ _ _ _ _ _ (Kd.C_mono t1 hC) hlm).mono ?_
        rw [HR.out]
        rintro e w2 ⟨rfl, hb2⟩
        have t2 := t1.trans (hb2.mono t1.size)
        have r2 := r1.below hb2
        clear x0 x1 x2 x3
        obtain ⟨x0, x1, x2, x3⟩ := r2.graph
        go_wp2_with fail
        refine (right_calls _ _ _ _ _ _ _ _ _ (Kd.C_mono t2 hC) hlm).mono ?_
        rw [HQ.out]
        rintro e w3 ⟨rfl, hb3⟩
        have t3 := t2.trans (hb3.mono t2.size)
        have r3 := r2.below hb3
        clear x0 x1 x2 x3
        obtain ⟨x0, x1, x2, x3⟩ := r3.graph
        clear hb1 hb2 hb3 t1 t2 r0 r1 r2 b0
        have C3 := Kd.C_mono t3 hC
        clear hC
        have hl1000 : g.blocks.length ≤ 1000 := Nat.le_trans HFE.out.1 (by decide)
        go_wp2_with fail
        refine (liveIn_calls _ _ _ _ _ _ _ C3 hl1000 HOK.out HFE.out.2).mono ?_
        rintro e w4 ⟨g4, ins, rfl, hL, own4, hg4, hb4⟩
        have r4 := r3.below hb4
        have C4 := Kd.C_mono hb4 C3
        have t4 := t3.trans (hb4.mono t3.size)
        have HLN := Lib.hid hL.inv.len
        have HBZ := Lib.hid (bitL_zero HOK.out hL)
        have HL := Lib.hid hL
        have HO4 := Lib.hid own4
        clear hL own4 C3 r3 t3 x0 x1 x2 x3 hb4 hg4
        have HRW := Lib.hid r4
        obtain ⟨x0, x1, x2, x3⟩ := r4.graph
        clear r4
        go_wp2_with fail
        clear x0 x1 x2 x3
        go_loopw [4] (fun v wr => ∃ r : Nat, r ≤ 16 ∧ v = .int .i64 r ∧ Below w4.heap.size w4 wr) (fun v _ => 16 - (intOf v).toNat)
        case atStart => exact ⟨0, Nat.zero_le _, rfl, Below.refl _ _⟩
        case round =>
          obtain ⟨r, hr16, rfl, hbr⟩ := hrel
          obtain ⟨x0, x1, x2, x3⟩ := (HRW.out.below hbr).graph
          by_cases hlt : r < 16
          · obtain ⟨W5, hmk, own5, hb5, hz5⟩ := make_bools g.blocks.length (by omega) wr
            have R5 := Lib.hid own5
            clear hz5 own5
            have hbr5 := hbr.trans (hb5.mono hbr.size)
            by_cases hr0 : 0 < r
            · clear x0 x1 x2 x3
              go_upto_region 10 with fail
              obtain ⟨x0, x1, x2, x3⟩ := (HRW.out.below hbr5).graph
              clear hmk R5
              go_wp2_with fail
              refine (refIn_calls _ _ _ _ _ _ _ _ _ (Kd.C_mono hbr5 C4) hl1000 HOK.out HFE.out.2 HL.out hr0 (by omega)).mono ?_
              rintro e w6 ⟨g6, rfl, hR6, hg6, hb6⟩
              have hbr6 := hbr5.trans (hb6.mono hbr5.size)
              have R6 := Lib.hid hR6
              have O6 := Lib.hid (HO4.out.below hbr6)
              clear x0 x1 x2 x3 hR6 hb6 hb5 hbr hbr5
              go_wp2_with fail
              go_loopw [6] (fun v wr => ∃ k : Nat, k ≤ g.blocks.length ∧ v = .int .i64 k ∧ Below w6.heap.size w6 wr) (fun v _ => g.blocks.length - (intOf v).toNat)
              case atStart => exact ⟨0, Nat.zero_le _, rfl, Below.refl _ _⟩
              case round =>
                obtain ⟨k, hk, rfl, hqq⟩ := hrel
                by_cases hkl : k < g.blocks.length
                · obtain ⟨x, hx⟩ := get_some ins k (by rw [HLN.out]; exact hkl)
                  have f6 := (O6.out.below hqq).cellU hx
                  have hxl := HL.out.inv.lt x (List.mem_of_getElem? hx)
                  have f5 := (R6.out.below hqq).cell (bitL_at hx r)
                  have hasq : ∀ w, Calls Try.prog 30 #[.int .u16 (x : Int), .int .i64 (r : Int)] w fun e w' => e = .returned (.bool (x.testBit r)) ∧ w' = w := fun w => has_calls x r hxl (by omega) w
                  have HASQ := Lib.hid hasq
                  clear hx hxl hasq
                  go_wp2_with fail
                  go_quiet ((go_at_call 30; exact Calls.quiet_of_same (HASQ.out _)))
                  go_wp2_with fail
                  exact ⟨⟨k + 1, by omega, by go_num, Below.drewN hqq _⟩, by first | (simp [intOf]; done) | (simp [intOf]; omega)⟩
                · go_wp2_with fail
                  exact ⟨⟨r + 1, by omega, by go_num, hbr6.trans (hqq.mono hbr6.size)⟩, by first | (simp [intOf]; done) | (simp [intOf]; omega)⟩
            · obtain rfl : r = 0 := by omega
              have hrow := R5.out
              rw [← HBZ.out] at hrow
              have R6 := Lib.hid hrow
              have hbr6 := hbr5
              have O6 := Lib.hid (HO4.out.below hbr6)
              clear x0 x1 x2 x3 hrow R5 hb5 hbr hbr5
              go_wp2_with fail
              clear hmk
              generalize hw6 : W5 = w6 at *
              clear hw6
              go_loopw [6] (fun v wr => ∃ k : Nat, k ≤ g.blocks.length ∧ v = .int .i64 k ∧ Below w6.heap.size w6 wr) (fun v _ => g.blocks.length - (intOf v).toNat)
              case atStart => exact ⟨0, Nat.zero_le _, rfl, Below.refl _ _⟩
              case round =>
                obtain ⟨k, hk, rfl, hqq⟩ := hrel
                by_cases hkl : k < g.blocks.length
                · obtain ⟨x, hx⟩ := get_some ins k (by rw [HLN.out]; exact hkl)
                  have f6 := (O6.out.below hqq).cellU hx
                  have hxl := HL.out.inv.lt x (List.mem_of_getElem? hx)
                  have f5 := (R6.out.below hqq).cell (bitL_at hx 0)
                  have hasq : ∀ w, Calls Try.prog 30 #[.int .u16 (x : Int), .int .i64 (0 : Int)] w fun e w' => e = .returned (.bool (x.testBit 0)) ∧ w' = w := fun w => has_calls x 0 hxl (by omega) w
                  have HASQ := Lib.hid hasq
                  clear hx hxl hasq
                  go_wp2_with fail
                  go_quiet ((go_at_call 30; exact Calls.quiet_of_same (HASQ.out _)))
                  go_wp2_with fail
                  exact ⟨⟨k + 1, by omega, by go_num, Below.drewN hqq _⟩, by first | (simp [intOf]; done) | (simp [intOf]; omega)⟩
                · go_wp2_with fail
                  exact ⟨⟨0 + 1, by omega, by go_num, hbr6.trans (hqq.mono hbr6.size)⟩, by first | (simp [intOf]; done) | (simp [intOf]; omega)⟩
          · obtain rfl : r = 16 := by omega
            rw [show ((16 : Nat) : Int) = 16 from rfl]
            go_wp2_with fail
            clear x0 x1 x2 x3
            go_loopw [7] (fun v wr => ∃ k : Nat, k ≤ g.blocks.length ∧ k ≤ 8 ∧ v = .int .i64 k ∧ Below w4.heap.size w4 wr) (fun v _ => 8 - (intOf v).toNat)
            case atStart => exact ⟨0, Nat.zero_le _, Nat.zero_le _, rfl, hbr⟩
            case round =>
              clear hr16 hlt
              obtain ⟨k, hk, hk8, rfl, hbr⟩ := hrel
              obtain ⟨x0, x1, x2, x3⟩ := (HRW.out.below hbr).graph
              by_cases hkl : k < g.blocks.length
              · by_cases hk8l : k < 8
                · obtain ⟨b, hb⟩ := get_some g.blocks k hkl
                  have HB := Lib.hid hb
                  have HBM := Lib.hid (List.mem_of_getElem? hb)
                  have hol := HFE.out.2 b (List.mem_of_getElem? hb)
                  have hol' : b.ops.length ≤ 9223372036854775807 := by omega
                  clear hb
                  go_wp2_with fail
                  refine (liveAfter_calls _ _ _ _ _ _ _ _ _ (Kd.C_mono hbr C4) hl1000 HOK.out HFE.out.2 HB.out).mono ?_
                  rintro e w6 ⟨g6, ins', rfl, hL', own6, hg6, hb6⟩
                  obtain rfl := HL.out.unique hL'
                  have hbr6 := hbr.trans (hb6.mono hbr.size)
                  have HO6 := Lib.hid own6
                  clear x0 x1 x2 x3
                  have HR6 := Lib.hid (HRW.out.below hbr6)
                  obtain ⟨x0, x1, x2, x3⟩ := (HRW.out.below hbr6).graph
                  have C6 := Kd.C_mono hbr6 C4
                  obtain ⟨ad, Ab, cb, hA, i0, i1, i2, i3, i4, i5, i6, i7, i8, i9, i10, i11, -, lb, mb, gb⟩ := Block_at C6 HB.out
                  subst hA
                  clear hL' own6 i1 i2 i3 i4 i5 i6 i7 i8 i9 i10 i11 gb hb6 hbr
                  go_wp2_with fail
                  clear x0 x1 x2 x3 i0
                  go_loopw [9] (fun v wr => ∃ r : Nat, 1 ≤ r ∧ r ≤ 16 ∧ v = .int .i64 r ∧ Below w6.heap.size w6 wr) (fun v _ => 16 - (intOf v).toNat)
                  case atStart => exact ⟨1, by omega, by omega, rfl, Below.refl _ _⟩
                  case round =>
                    obtain ⟨r, hr1, hr16, rfl, hbq⟩ := hrel
                    obtain ⟨x0, x1, x2, x3⟩ := (HR6.out.below hbq).graph
                    by_cases hlt : r < 16
                    · go_wp2_with fail
                      refine (refAfter_calls _ _ _ _ _ _ _ _ _ _ _ (Kd.C_mono hbq C6) hl1000 HOK.out HFE.out.2 HL.out hr1 (by omega) HB.out).mono ?_
                      rintro e w8 ⟨g8, rfl, hR8, hg8, hb8⟩
                      have hbq8 := hbq.trans (hb8.mono hbq.size)
                      have R8 := Lib.hid hR8
                      have O8 := Lib.hid (HO6.out.below hbq8)
                      clear x0 x1 x2 x3 hR8 hb8 hbq
                      go_wp2_with fail
                      go_loopw [11] (fun v wr => ∃ m : Nat, m ≤ b.ops.length ∧ v = .int .i64 m ∧ Below w8.heap.size w8 wr) (fun v _ => b.ops.length - (intOf v).toNat)
                      case atStart => exact ⟨0, Nat.zero_le _, rfl, Below.refl _ _⟩
                      case round =>
                        obtain ⟨m, hm, rfl, hqq⟩ := hrel
                        by_cases hml : m < b.ops.length
                        · have f8 := (R8.out.below hqq).cell (afterB_bit HOK.out HBM.out ins hr1 (by omega) hml)
                          have f6 := (O8.out.below hqq).cellU (afterL_at (e := endN b.fin ins) hml)
                          have hend : (endN b.fin ins).testBit 0 = false := by
                            obtain ⟨f, hf⟩ := HOK.out.fin HBM.out
                            exact endN_bit0 hf (HL.out.bit0 HOK.out)
                          have hz := aheadOps_bit0' (k := m + 1) (HOK.out.ops HBM.out) hend
                          have hxl : aheadOps (b.ops.drop (m + 1)) (endN b.fin ins) < 65536 := by
                            obtain ⟨f, hf⟩ := HOK.out.fin HBM.out
                            exact aheadOps_lt (fun o ho => HOK.out.ops HBM.out o (List.mem_of_mem_drop ho)) (endN_lt (f := f) (by rw [HLN.out]; exact hf) HL.out.inv.lt)
                          generalize aheadOps (b.ops.drop (m + 1)) (endN b.fin ins) = x at *
                          have hasq : ∀ w, Calls Try.prog 30 #[.int .u16 (x : Int), .int .i64 (r : Int)] w fun e w' => e = .returned (.bool (x.testBit r)) ∧ w' = w := fun w => has_calls x r hxl (by omega) w
                          have hasz : ∀ w, Calls Try.prog 30 #[.int .u16 (x : Int), .int .i64 0] w fun e w' => e = .returned (.bool false) ∧ w' = w := fun w => by
                            have := has_calls x 0 hxl (by omega) w
                            rw [hz] at this
                            exact this
                          have HASQ := Lib.hid hasq
                          have HASZ := Lib.hid hasz
                          clear hxl hasq hasz hend hz
                          go_wp2_with fail
                          go_quiet ((go_at_call 30; first | exact Calls.quiet_of_same (HASQ.out _) | exact Calls.quiet_of_same (HASZ.out _)))
                          go_wp2_with fail
                          exact ⟨⟨m + 1, by omega, by go_num, Below.drewN hqq _⟩, by first | (simp [intOf]; done) | (simp [intOf]; omega)⟩
                        · go_wp2_with fail
                          exact ⟨⟨r + 1, by omega, by omega, by go_num, hbq8.trans (hqq.mono hbq8.size)⟩, by first | (simp [intOf]; done) | (simp [intOf]; omega)⟩
                    · go_wp2_with fail
                      exact ⟨⟨k + 1, by omega, by omega, by go_num, hbr6.trans (hbq.mono hbr6.size)⟩, by first | (simp [intOf]; done) | (simp [intOf]; omega)⟩
                · go_wp2_with fail
                  go_ret
                  exact ⟨rfl, t4.trans (hbr.mono t4.size)⟩
              · go_wp2_with fail
                go_ret
                exact ⟨rfl, t4.trans (hbr.mono t4.size)⟩
end Go.Proofs.Ytobhjjbhlnbcpaa
