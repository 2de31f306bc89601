/- ChainKeeps returns true: what is handed in stays, what is answered is new memory. -/
import Derived.Test.YthnkikdbllkmkaaZk
import Derived.Test.YthnkikdbllkmkaaGd
namespace Go.Proofs.Ythnkikdbllkmkaa
set_option linter.unusedVariables false
set_option linter.unusedSimpArgs false
open Go.RowKit Go.Lib

theorem add_zeroZ (ad : Addr) : ad.add (0 * 4) = ad := by simp [Addr.add]
theorem OwnI.setZ {w : World} {base g n c i : Nat} {xs : List Int} (h : OwnI w base (.slice (some ⟨g, 0, none⟩) n c) xs) (hi : i < xs.length) (y : Int) : OwnI (w.setCell ⟨g, i, none⟩ (.int .i64 y)) base (.slice (some ⟨g, 0, none⟩) n c) (xs.set i y) ∧ Below base w (w.setCell ⟨g, i, none⟩ (.int .i64 y)) ∧ n = xs.length := by
  rcases h.cases with ⟨h1, _⟩ | ⟨g', cap, cur, h1, h2, h3, h4, h5, h6, h7⟩
  · cases h1
  · injection h1 with e1 e2 e3
    injection e1 with e1
    injection e1 with e1
    subst e1 e2 e3
    refine ⟨?_, (Below.refl base w).setCell h2 _, rfl⟩
    have hh : (w.setCell ⟨g, i, none⟩ (.int .i64 y)).heap[g]? = some (.cells (cur.setIfInBounds i (.int .i64 y)) 3 (0, 0)) := by
      simp [World.setCell, Array.getElem?_modify, h3]
    have := OwnI.mk (xs := xs.set i y) h2 hh (by simpa using h4) h5 (by simp [h6]) (by
      simp only [List.length_set, List.map_set, ← h7]
      rw [Array.toList_setIfInBounds, List.take_set])
    simpa using this
theorem own_gsF {w : World} {A : Option Addr} {c n : Nat} {gs : List Graph} {F : Nat → Prop} (h : OwnF oGraph 24 w (.slice A n c) gs F) : kGraph.C w A gs := by
  obtain ⟨A', c', e, -, -, hC⟩ := h.read
  injection e with e1 e2 e3
  rw [e1]
  exact hC
/-- A slice of numbers of the call's own, as one of whole numbers. -/
theorem numsI {w : World} {v : Value} {xs : List Nat} {F : Nat → Prop} {B : Nat} (h : OwnF oN 3 w v xs F) (hF : ∀ b, F b → B ≤ b) : OwnI w B v (toI xs) := by
  obtain ⟨h1, h2⟩ := h.nums
  have e : xs.map (fun x : Nat => Value.int .i64 (x : Int)) = (toI xs).map (Value.int .i64) := by simp [toI]
  rw [e, ← toI_len xs] at h1
  obtain ⟨h0, hc | ⟨g, cap, cur, hv, -, hr⟩⟩ := h1
  · exact ⟨h0, .inl hc⟩
  · exact ⟨h0, .inr ⟨g, cap, cur, hv, hF g ((h2 g).2 (by rw [hv]; rfl)), hr⟩⟩
theorem rowB_C {w : World} {g : Nat} {bs : List Bool} (h : RowB w g bs) : Kd.bool.C w (some ⟨g, 0, none⟩) bs := fun i x hx => by
  refine ⟨⟨g, 0, none⟩, [.bool x], rfl, rfl, fun j u hu => ?_⟩
  cases j with
  | zero =>
    injection hu with hu
    subst hu
    have := h.cell hx
    by_cases c : i = 0
    · subst c; simpa [Addr.add, Kd.bool] using this
    · simpa [Addr.add, Kd.bool, c] using this
  | succ j => simp at hu

set_option maxHeartbeats 8000000 in
set_option maxRecDepth 100000 in
theorem chainKeeps_law (w : World) (A : Option Addr) (c : Nat) (gs : List Graph) (hlc : gs.length ≤ c) (hcm : c ≤ maxLen) (hC : kGraph.C w A gs) (LA : Option Addr) (lc : Nat) (l : List Edge) (hll : l.length ≤ lc) (hlm2 : lc ≤ maxLen) (hL : kEdge.C w LA l) : Calls Try.prog 6 #[.slice A gs.length c, .slice LA l.length lc] w fun e w' => e = .returned (.bool true) ∧ Below w.heap.size w w' := by
  have hlm := Nat.le_trans hlc hcm
  have hlm' : gs.length ≤ 9223372036854775807 := hlm
  have hl2 := Nat.le_trans hll hlm2
  have hl2' : l.length ≤ 9223372036854775807 := hl2
  have HWF := Lib.hid (edges_wf hL)
  cases hr : gsFew gs 1000 with
  | false =>
    have HR := Lib.hid hr
    clear hr
    go_enter Try.func6, Try.ntmps6
    go_wp2_with fail
    refine (awake25_calls _).mono ?_
    rintro e w1 ⟨rfl, hb1⟩
    go_wp2_with fail
    refine (gsFew_calls _ _ _ _ _ (Kd.C_mono hb1 hC) hlm).mono ?_
    rw [HR.out]
    rintro e w2 ⟨rfl, hb2⟩
    go_wp2_with fail
    refine (awake25_calls _).mono ?_
    rintro e w3 ⟨rfl, hb3⟩
    go_wp2_with fail
    go_ret
    exact ⟨rfl, hb1.trans ((hb2.mono hb1.size).trans (hb3.mono (Nat.le_trans hb1.size hb2.size)))⟩
  | true =>
    obtain ⟨h60, hall⟩ := gsFew_parts hr
    have HR := Lib.hid hr
    clear hr
    by_cases hn0 : gs.length = 0
    · have z1 : ((gs.length : Int) == 0) = true := by simpa using hn0
      have z2 : (gs.length == 0) = true := by simpa using hn0
      have z3 : decide (gs.length = 0) = true := by simpa using hn0
      clear hn0 hall
      go_enter Try.func6, Try.ntmps6
      go_wp2_with fail
      refine (awake25_calls _).mono ?_
      rintro e w1 ⟨rfl, hb1⟩
      go_wp2_with fail
      refine (gsFew_calls _ _ _ _ _ (Kd.C_mono hb1 hC) hlm).mono ?_
      rw [HR.out]
      rintro e w2 ⟨rfl, hb2⟩
      go_wp2_with fail
      refine (awake25_calls _).mono ?_
      rintro e w3 ⟨rfl, hb3⟩
      go_wp2_with fail
      go_ret
      exact ⟨rfl, hb1.trans ((hb2.mono hb1.size).trans (hb3.mono (Nat.le_trans hb1.size hb2.size)))⟩
    · have z1 : ((gs.length : Int) == 0) = false := by simpa using hn0
      have z2 : (gs.length == 0) = false := by simpa using hn0
      have hpos : 0 < gs.length := by omega
      by_cases hl60 : 60 < l.length
      · have z3 : decide (60 < (l.length : Int)) = true := by simp; omega
        clear hn0 hall
        go_enter Try.func6, Try.ntmps6
        go_wp2_with fail
        refine (awake25_calls _).mono ?_
        rintro e w1 ⟨rfl, hb1⟩
        go_wp2_with fail
        refine (gsFew_calls _ _ _ _ _ (Kd.C_mono hb1 hC) hlm).mono ?_
        rw [HR.out]
        rintro e w2 ⟨rfl, hb2⟩
        go_wp2_with fail
        refine (awake25_calls _).mono ?_
        rintro e w3 ⟨rfl, hb3⟩
        go_wp2_with fail
        go_ret
        exact ⟨rfl, hb1.trans ((hb2.mono hb1.size).trans (hb3.mono (Nat.le_trans hb1.size hb2.size)))⟩
      · have z3 : decide (60 < (l.length : Int)) = false := by simp; omega
        obtain ⟨g0, hg0⟩ := get_some gs 0 hpos
        obtain ⟨hfew, hright⟩ := hall g0 (List.mem_of_getElem? hg0)
        have hok : BsOk g0.blocks := ⟨_, _, hright⟩
        have hbpos := (blocksRight_iff.1 hright).2
        have hbl := (blocksFew_parts hfew).1
        have HFS : Hid (∀ g ∈ gs, blocksFew g.blocks = true) := Lib.hid (fun g hg => (hall g hg).1)
        have HLD := Lib.hid hok.leads
        have HG := Lib.hid hg0
        have H60 := Lib.hid h60
        clear hn0 hall hg0 hfew hright hok
        go_enter Try.func6, Try.ntmps6
        go_wp2_with fail
        refine (awake25_calls _).mono ?_
        rintro e w1 ⟨rfl, hb1⟩
        go_wp2_with fail
        refine (gsFew_calls _ _ _ _ _ (Kd.C_mono hb1 hC) hlm).mono ?_
        rw [HR.out]
        rintro e w2 ⟨rfl, hb2⟩
        have t2 := hb1.trans (hb2.mono hb1.size)
        go_wp2_with fail
        refine (copies_calls _ _ _ _ (Kd.C_mono t2 hC) (by omega) HFS.out).mono ?_
        rintro e w3 ⟨A3, c3, F3, rfl, own3, -, hb3⟩
        have hC3 := own_gsF own3
        have t3 := t2.trans (hb3.mono t2.size)
        clear hb1 hb2 hb3 t2 own3
        obtain ⟨w4, hm4, row4, hb4, hz4⟩ := make_bools gs.length (by omega) w3
        clear hz4
        go_wp2_with fail
        go_loopw [7] (fun v wr => ∃ (k : Nat) (us : List Bool), k ≤ gs.length ∧ v = .int .i64 (k : Int) ∧ us.length = gs.length ∧ Hid (∀ j, j < k → us[j]? = some true) ∧ RowB wr w3.heap.size us ∧ Below w3.heap.size w3 wr) (fun v _ => gs.length - (intOf v).toNat)
        case atStart => exact ⟨0, _, Nat.zero_le _, rfl, by simp, Lib.hid (fun j h => by omega), row4, hb4⟩
        case round =>
          clear row4 hb4 hm4
          obtain ⟨k, us, hk, rfl, hul, HUS, hrow, hbr⟩ := hrel
          by_cases hlt : k < gs.length
          · obtain ⟨u, hu⟩ := get_some us k (by rw [hul]; exact hlt)
            have cu := hrow.cell hu
            have fz := hrow.frozen k
            obtain ⟨hset, hgr⟩ := hrow.set k true
            have hb5 := hbr.grown hgr hbr.size (fun j hj => by injection hj with hj; omega)
            have HS := Lib.hid (And.intro hset hb5)
            have HUL := Lib.hid hul
            have HUS' : Hid (∀ j, j < k + 1 → (us.set k true)[j]? = some true) := Lib.hid (fun j hj => by
              rw [List.getElem?_set]
              by_cases c : k = j
              · rw [if_pos c, if_pos (by rw [HUL.out]; omega)]
              · rw [if_neg c]; exact HUS.out j (by omega))
            clear hu hset hgr hb5 hul hrow hbr
            go_wp2_with fail
            exact ⟨⟨k + 1, _, by omega, by go_num, by rw [List.length_set]; exact HUL.out, HUS', HS.out⟩, by simp [intOf]; omega⟩
          · obtain rfl : k = gs.length := by omega
            have HUL := Lib.hid hul
            have u4 := t3.trans (hbr.mono t3.size)
            have hU4 := rowB_C hrow
            have hC4 := Kd.C_mono hbr hC3
            have HUS' : Hid (∀ x b, us[x]? = some b → b = true) := Lib.hid (fun x b hx => by
              have := HUS.out x (by rw [← HUL.out]; exact (List.getElem?_eq_some_iff.1 hx).1)
              rw [hx] at this
              injection this)
            rename World => wa
            clear hul hrow HUS
            go_wp2_with fail
            have hf1 := funcs_calls A c gs 0 LA lc l (some ⟨w3.heap.size, 0, none⟩) gs.length us wa hpos (Kd.C_mono u4 hC) (Kd.C_mono u4 hL) HWF.out hl2 hU4 HUL.out (by omega)
            rw [HUL.out] at hf1
            refine hf1.mono ?_
            rintro r w5 ⟨v5, F5, ts5, rfl, own5, hF5, hb5, hp5, -⟩
            have ho5 := numsI own5 hF5
            obtain ⟨n5, hn5⟩ : ∃ n, n = (toI (0 :: ts5)).length := ⟨_, rfl⟩
            have HN5 := Lib.hid hn5
            obtain ⟨A5, c5, rfl, hl5, hm5, hC5⟩ := ho5.cells
            rw [← hn5] at ho5 hl5 ⊢
            have hn5l : n5 ≤ 9223372036854775807 := Nat.le_trans hl5 hm5
            have u5 := u4.trans (hb5.mono u4.size)
            have hwa : w3.heap.size ≤ wa.heap.size := hbr.size
            clear own5 hF5 hf1 hn5 hC5
            go_wp2_with fail
            go_loopw [9] (fun v wr => ∃ (k : Nat) (zs : List Int), v = .int .i64 (k : Int) ∧ k ≤ n5 ∧ zs.length = n5 ∧ OwnI wr wa.heap.size (.slice A5 n5 c5) zs ∧ Below wa.heap.size wa wr) (fun v _ => n5 - (intOf v).toNat)
            case atStart => exact ⟨0, _, rfl, Nat.zero_le _, HN5.out.symm, ho5, hb5⟩
            case round =>
              clear ho5 hb5 HN5
              obtain ⟨k, zs, rfl, hk, hzl, ho, hbr2⟩ := hrel
              by_cases hlt : k < n5
              · obtain ⟨Az, cz, eA, hc1, hc2, hCz⟩ := ho.cells
                injection eA with e1 e2 e3
                subst e1 e3
                obtain ⟨y, hy⟩ := get_some zs k (by omega)
                obtain ⟨gz, rfl, h4, h5, h6⟩ := hCz k y hy
                have HS := Lib.hid (OwnI.setZ ho (i := k) (by omega) (-7))
                have HL := Lib.hid hzl
                have HB := Lib.hid hbr2
                clear hy hCz e2 hzl hbr2 ho hc1
                go_wp2_with fail
                obtain ⟨s1, s2, s3⟩ := HS.out
                exact ⟨⟨k + 1, _, by go_num, by omega, by rw [List.length_set]; exact HL.out, s1, HB.out.trans s2⟩, by simp [intOf]; omega⟩
              · have u6 := u4.trans (hbr2.mono u4.size)
                have s6 := hbr.trans (hbr2.mono hbr.size)
                rename World => wb
                clear hzl ho
                go_wp2_with fail
                have hf2 := funcs_calls A c gs 0 LA lc l (some ⟨w3.heap.size, 0, none⟩) gs.length us wb hpos (Kd.C_mono u6 hC) (Kd.C_mono u6 hL) HWF.out hl2 (Kd.C_mono hbr2 hU4) HUL.out (by omega)
                rw [HUL.out] at hf2
                refine hf2.mono ?_
                rintro r w7 ⟨v7, F7, ts7, rfl, own7, hF7, hb7, hp7, -⟩
                obtain ⟨A7, c7, rfl, hl7, hm7, C7, -⟩ := own7.readN
                have u7 := u6.trans (hb7.mono u6.size)
                have s7 := s6.trans (hb7.mono s6.size)
                obtain ⟨n7, hn7⟩ : ∃ n, n = (0 :: ts7).length := ⟨_, rfl⟩
                have hn7p : 0 < n7 := by rw [hn7]; simp
                rw [← hn7] at hl7 ⊢
                have hn7l : n7 ≤ 9223372036854775807 := Nat.le_trans hl7 hm7
                obtain ⟨ad, A0, c0, rfl, f0, f1, f2, f3, -, l0, m0, k0⟩ := Graph_at (Kd.C_mono u7 hC) HG.out
                rw [add_zeroZ] at f0 f1 f2 f3
                have C7' := Lib.hid C7
                clear hf2 own7 hF7 hp7 hn7 C7
                go_wp2_with fail
                refine (blocks_calls g0.name g0.keep g0.leaf A0 c0 g0.blocks LA lc l _ k0 (Kd.C_mono u7 hL) HWF.out hl2 (by omega) (edgesD_in HLD.out)).mono ?_
                rintro r w8 ⟨v8, F8, rfl, own8, hF8, hb8⟩
                have ho8 := numsI own8 hF8
                obtain ⟨n8, hn8⟩ : ∃ n, n = (toI (blocksD g0.blocks.length (edgesD l g0.name g0.blocks))).length := ⟨_, rfl⟩
                have HN8 := Lib.hid hn8
                obtain ⟨A8, c8, rfl, hl8, hm8, hC8⟩ := ho8.cells
                rw [← hn8] at ho8 hl8 ⊢
                have hn8l : n8 ≤ 9223372036854775807 := Nat.le_trans hl8 hm8
                clear own8 hF8 hn8 hC8 f0 f1 f2 f3 k0
                go_wp2_with fail
                go_loopw [12] (fun v wr => ∃ (k : Nat) (zs : List Int), v = .int .i64 (k : Int) ∧ k ≤ n8 ∧ zs.length = n8 ∧ OwnI wr w7.heap.size (.slice A8 n8 c8) zs ∧ Below w7.heap.size w7 wr) (fun v _ => n8 - (intOf v).toNat)
                case atStart => exact ⟨0, _, rfl, Nat.zero_le _, HN8.out.symm, ho8, hb8⟩
                case round =>
                  clear ho8 hb8 HN8
                  obtain ⟨k, zs, rfl, hk, hzl, ho, hbr3⟩ := hrel
                  by_cases hlt : k < n8
                  · obtain ⟨Az, cz, eA, hc1, hc2, hCz⟩ := ho.cells
                    injection eA with e1 e2 e3
                    subst e1 e3
                    obtain ⟨y, hy⟩ := get_some zs k (by omega)
                    obtain ⟨gz, rfl, h4, h5, h6⟩ := hCz k y hy
                    have HS := Lib.hid (OwnI.setZ ho (i := k) (by omega) (-7))
                    have HL := Lib.hid hzl
                    have HB := Lib.hid hbr3
                    clear hy hCz e2 hzl hbr3 ho hc1
                    go_wp2_with fail
                    obtain ⟨s1, s2, s3⟩ := HS.out
                    exact ⟨⟨k + 1, _, by go_num, by omega, by rw [List.length_set]; exact HL.out, s1, HB.out.trans s2⟩, by simp [intOf]; omega⟩
                  · rename World => wc
                    have u9 := u7.trans (hbr3.mono u7.size)
                    have s9 := s7.trans (hbr3.mono s7.size)
                    obtain ⟨g7, rfl, hg7, cz7⟩ := C7'.out 0 0 rfl
                    have cz9 := (Below.cell hbr3 hg7).trans cz7
                    have hC9 := Kd.C_mono u9 hC
                    have hL9 := Kd.C_mono u9 hL
                    have hC39 := Kd.C_mono s9 hC3
                    clear hzl ho cz7
                    go_wp2_with fail
                    refine (sames_calls _ _ _ _ _ _ hC9 hC39 (by omega)).mono ?_
                    rintro r w10 ⟨rfl, hb10⟩
                    have u10 := u9.trans (hb10.mono u9.size)
                    obtain ⟨ad', A0', c0', ea, f0, f1, f2, f3, -, l0', m0', k0'⟩ := Graph_at (Kd.C_mono u10 hC) HG.out
                    injection ea with ea
                    subst ea
                    rw [add_zeroZ] at f0 f1 f2 f3
                    clear hC9 hC39 cz9
                    go_wp2_with fail
                    refine (blocks_calls g0.name g0.keep g0.leaf A0' c0' g0.blocks LA lc l _ k0' (Kd.C_mono u10 hL) HWF.out hl2 (by omega) (edgesD_in HLD.out)).mono ?_
                    rintro r w11 ⟨v11, F11, rfl, own11, -, hb11⟩
                    obtain ⟨o1, o2, -, -⟩ := order_facts (l := l) (nm := g0.name) HLD.out hbpos
                    obtain ⟨A11, c11, rfl, hl11, hm11, C11, -⟩ := own11.readN
                    obtain ⟨g11, rfl, -, cz11⟩ := C11 0 0 o2
                    have hop : 0 < (blocksD g0.blocks.length (edgesD l g0.name g0.blocks)).length := by rw [o1]; exact hbpos
                    have hon : (blocksD g0.blocks.length (edgesD l g0.name g0.blocks)).length ≤ 9223372036854775807 := Nat.le_trans hl11 hm11
                    obtain ⟨order, hord⟩ : ∃ order, order = blocksD g0.blocks.length (edgesD l g0.name g0.blocks) := ⟨_, rfl⟩
                    rw [← hord] at hop hon ⊢
                    clear own11 C11 o1 o2 hord f0 f1 f2 f3 k0' hl11
                    go_wp2_with fail
                    go_ret
                    exact ⟨rfl, u10.trans (hb11.mono u10.size)⟩
end Go.Proofs.Ythnkikdbllkmkaa
