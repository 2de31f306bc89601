/- The document's Sweep. Printed in part by genNj.py of this repository. -/
import Derived.Test.YtokkngfgppikkaaNi
import Derived.Test.YtokkngfgppikkaaNb
import Derived.Deep.RegionHeld3
import Derived.IntWalk
namespace Go.Proofs.Ytokkngfgppikkaa
set_option linter.unusedVariables false
set_option linter.unusedSimpArgs false
open Go.RowKit

theorem C_takeN {α : Type} {k : Kd α} {w : World} {A : Option Addr} {xs : List α} (h : k.C w A xs) (n : Nat) : k.C w A (xs.take n) := fun i x hx => h i x (by
  rw [List.getElem?_take] at hx
  split at hx
  · exact hx
  · cases hx)
theorem addr_zero (g n : Nat) : (⟨g, 0, none⟩ : Addr).add n = ⟨g, n, none⟩ := by
  unfold Addr.add
  split
  · rename_i e; rw [e]
  · simp
theorem addr_add (ad : Addr) (a b : Nat) : (ad.add a).add b = ad.add (a + b) := by
  unfold Addr.add
  by_cases ha : a = 0
  · subst ha; simp
  · by_cases hb : b = 0
    · subst hb; simp [ha]
    · rw [if_neg ha, if_neg hb, if_neg (by omega)]
      simp [Nat.add_assoc]
theorem C_dropN {α : Type} {k : Kd α} {w : World} {ad : Addr} {xs : List α} (h : k.C w (some ad) xs) (n cap s : Nat) (hs : s = n * k.size) (hc : xs.length ≤ cap) : k.C w (if cap = n then some ad else some (ad.add s)) (xs.drop n) := by
  intro i x hx
  rw [List.getElem?_drop] at hx
  obtain ⟨ad', cs, e, hk, hcell⟩ := h (n + i) x hx
  injection e with e
  subst e
  have hl := (List.getElem?_eq_some_iff.1 hx).1
  rw [if_neg (by omega)]
  refine ⟨_, cs, rfl, hk, fun j v hv => ?_⟩
  have := hcell j v hv
  rw [addr_add]
  rwa [show s + (i * k.size + j) = (n + i) * k.size + j from by rw [hs, Nat.add_mul]; omega]
/-- The first q instructions have nothing to sweep. -/
def CleanQ (b : Block) (ins : List Nat) (q : Nat) : Prop := ∀ p o r, b.ops = p ++ o :: r → p.length < q → ¬ idleO o (aheadOps r (endN b.fin ins))
theorem split_at {os : List Op} {q : Nat} {o : Op} (h : os[q]? = some o) : os = os.take q ++ o :: os.drop (q + 1) := by
  rw [← drop_at h, List.take_append_drop]
theorem CleanQ.step {b : Block} {ins : List Nat} {q : Nat} {o : Op} (h : CleanQ b ins q) (ho : b.ops[q]? = some o) (hi : ¬ idleO o (aheadOps (b.ops.drop (q + 1)) (endN b.fin ins))) : CleanQ b ins (q + 1) := by
  intro p x r e hp
  by_cases hpq : p.length < q
  · exact h p x r e hpq
  · have hpl : p.length = q := by omega
    subst hpl
    rw [e] at ho hi
    simp at ho
    subst ho
    rw [show (p ++ x :: r).drop (p.length + 1) = r from by rw [List.drop_append]; simp] at hi
    exact hi
theorem CleanQ.all {b : Block} {ins : List Nat} (h : CleanQ b ins b.ops.length) : CleanB b ins := fun p o r e => h p o r e (by rw [e]; simp)
theorem CleanTo.one {bs : List Block} {k : Nat} {b : Block} {ins : List Nat} (h : CleanTo bs k) (hb : bs[k]? = some b) (hL : IsLive bs ins) (hc : CleanB b ins) : CleanTo bs (k + 1) := by
  intro ins' hL' j d hj hd
  obtain rfl := hL.unique hL'
  by_cases hjk : j < k
  · exact h ins hL j d hjk hd
  · obtain rfl : j = k := by omega
    rw [hb] at hd
    injection hd with e
    subst e
    exact hc

set_option maxHeartbeats 16000000 in
set_option maxRecDepth 100000 in
theorem refSweep_calls (nm : ByteArray) (kp lf : Bool) (A : Option Addr) (c : Nat) (bs : List Block) (w : World) (hC : kBlock.C w A bs) (hl : bs.length ≤ 1000) (hfew : blocksFew bs = true) (hok : BsOk bs) : Calls Try.prog 36 #[.agg #[.string nm, .bool kp, .bool lf, .slice A bs.length c]] w
    (SweptG nm kp lf bs w) := by
  have hlo : bs.length ≤ 9223372036854775807 := by omega
  obtain ⟨-, h300⟩ := blocksFew_parts hfew
  have HOK := Lib.hid hok
  have HFW := Lib.hid hfew
  have H3 := Lib.hid h300
  clear hok hfew h300
  obtain ⟨W, hW, b0, hz0, r0, z0⟩ := two_rows w #[.string nm, .bool kp, .bool lf, .slice A bs.length c] #[.string ⟨#[]⟩, .bool false, .bool false, .slice none 0 0] 33 33
  go_enter Try.func36, Try.ntmps36
  go_upto_region 1 with fail
  rw [← hW]
  have HZ0 := Lib.hid hz0
  have HW := Lib.hid hW
  clear hz0 hW
  have r0' : Row W w.heap.size 33 (graphCells (.slice A bs.length c) ⟨nm, kp, lf, bs⟩) := r0
  obtain ⟨x0, x1, x2, x3⟩ := r0'.graph
  go_wp2_with fail
  refine (copy_calls _ _ _ _ _ bs _ (Kd.C_mono b0 hC) (Nat.le_trans hl (by decide)) HFW.out).mono ?_
  rintro e w1 ⟨A1, c1, F1, rfl, own1, hF1, hb1⟩
  have t1 := b0.trans (hb1.mono b0.size)
  have bq := below_alloc' w1 (.cells #[.string nm, .bool kp, .bool lf, .slice A1 bs.length c1] 33)
  have r3 : Row (w1.alloc (.cells #[.string nm, .bool kp, .bool lf, .slice A1 bs.length c1] 33)) w1.heap.size 33 (graphCells (.slice A1 bs.length c1) ⟨nm, kp, lf, bs⟩) := Row.new w1 _ _
  go_upto_region 2 with fail
  generalize w1.alloc (.cells #[.string nm, .bool kp, .bool lf, .slice A1 bs.length c1] 33) = W3 at *
  have t3 := t1.trans (bq.mono t1.size)
  have rz := (z0.below hb1).below bq
  have own3 := own1.below bq
  have hg3 : w1.heap.size < W3.heap.size := r3.lt
  have hF1' : ∀ x, F1 x → w.heap.size + 1 + 1 ≤ x ∧ x ≠ w1.heap.size := fun x hx => ⟨by have := hF1 x hx; have := HZ0.out; omega, by have := own1.lt x hx; omega⟩
  have hG3 : w.heap.size + 1 + 1 ≤ w1.heap.size := by have := hb1.size; have := HZ0.out; omega
  generalize w1.heap.size = G3 at *
  have RZ := Lib.hid rz
  have R3 := Lib.hid r3
  have HO3 := Lib.hid own3
  clear x0 x1 x2 x3 r0 r0' z0 own1 own3 rz r3 hb1 bq
  go_loopg [4] (opsN bs) (fun g v4 wr => ∃ (bs1 : List Block) (F : Nat → Prop), g = opsN bs1 ∧ SwR bs bs1 ∧ OwnF oBlock 42 wr (.slice A1 bs.length c1) bs1 F ∧ (∀ x, F x → w.heap.size + 1 + 1 ≤ x ∧ x ≠ G3) ∧ Row wr (w.heap.size + 1) 33 [.string ⟨#[]⟩, .bool false, .bool false, .slice none 0 0] ∧ Row wr G3 33 (graphCells (.slice A1 bs.length c1) ⟨nm, kp, lf, bs⟩) ∧ Below w.heap.size w wr)
  case atStart => exact ⟨bs, F1, rfl, .refl, HO3.out, hF1', RZ.out, R3.out, t3⟩
  case round =>
    obtain ⟨bs1, F, hgk, hsw1, ho, hF, rz, r3, hbr⟩ := hrel
    have y3 := r3.cell (j := 3) rfl
    have hsl1 := hsw1.len
    have hok1 := hsw1.ok HOK.out
    have h3001 := hsw1.ops H3.out
    obtain ⟨ins, hL⟩ := live_exists hok1
    have HSW1 := Lib.hid hsw1
    have HO := Lib.hid ho
    have HF := Lib.hid hF
    have HGK := Lib.hid hgk
    have RZ1 := Lib.hid rz
    have R31 := Lib.hid r3
    have HSL1 := Lib.hid hsl1
    have HOK1 := Lib.hid hok1
    have H31 := Lib.hid h3001
    have HL := Lib.hid hL
    clear hsw1 ho hF hgk rz r3 hsl1 hok1 h3001 hL
    go_wp2_with fail
    go_loopw [5, 4] (fun i v4 wr => ∃ (k : Nat) (bs2 : List Block) (F : Nat → Prop) (found : Bool), k ≤ bs.length ∧ i = .int .i64 k ∧ v4 = .bool found ∧ SwR bs bs2 ∧ OwnF oBlock 42 wr (.slice A1 bs.length c1) bs2 F ∧ (found = true → opsN bs2 < opsN bs1) ∧ (found = false → bs2 = bs1 ∧ CleanTo bs1 k) ∧ (∀ x, F x → w.heap.size + 1 + 1 ≤ x ∧ x ≠ G3) ∧ Row wr (w.heap.size + 1) 33 [.string ⟨#[]⟩, .bool false, .bool false, .slice none 0 0] ∧ Row wr G3 33 (graphCells (.slice A1 bs.length c1) ⟨nm, kp, lf, bs⟩) ∧ Below w.heap.size w wr) (fun i _ _ => bs.length - (intOf i).toNat)
    case atStart => exact ⟨0, bs1, F, false, Nat.zero_le _, rfl, rfl, HSW1.out, HO.out, fun h => (by cases h), fun _ => ⟨rfl, fun _ _ k b hk => absurd hk (Nat.not_lt_zero _)⟩, HF.out, RZ1.out, R31.out, hbr⟩
    case round =>
      clear y3
      obtain ⟨k, bs2, F, found, hk, rfl, rfl, hsw, ho, hft, hff, hF, rz, r3, hbr⟩ := hrel
      have y3 := r3.cell (j := 3) rfl
      have HSW2 := Lib.hid hsw
      have HO2 := Lib.hid ho
      have HFx := Lib.hid hF
      have HFT := Lib.hid hft
      have HFF := Lib.hid hff
      have RZ2 := Lib.hid rz
      have R32 := Lib.hid r3
      clear hsw ho hF hft hff rz
      cases found with
      | true =>
        by_cases hlt : k < bs.length
        · have z1 : decide (k < bs.length) = true := decide_eq_true hlt
          go_wp2_with fail
          go_roundg (opsN bs2)
          case rel => exact ⟨bs2, F, rfl, HSW2.out, HO2.out, HFx.out, RZ2.out, R32.out, hbr⟩
          case measure => have h3 := HFT.out (by trivial); have h1 := HGK.out; omega
        · have z1 : decide (k < bs.length) = false := decide_eq_false hlt
          go_wp2_with fail
          go_roundg (opsN bs2)
          case rel => exact ⟨bs2, F, rfl, HSW2.out, HO2.out, HFx.out, RZ2.out, R32.out, hbr⟩
          case measure => have h3 := HFT.out (by trivial); have h1 := HGK.out; omega
      | false =>
        obtain ⟨e2, hcl⟩ := HFF.out rfl
        subst e2
        by_cases hlt : k < bs.length
        · have z1 : decide (k < bs.length) = true := decide_eq_true hlt
          obtain ⟨b, hb⟩ := get_some bs2 k (by rw [HSL1.out]; exact hlt)
          have h3b := H31.out b (List.mem_of_getElem? hb)
          have HB := Lib.hid hb
          have HCLT := Lib.hid hcl
          clear hb hcl
          go_wp2_with fail
          go_loopw [6, 4] (fun i v4 wr => ∃ (q : Nat) (bs3 : List Block) (F : Nat → Prop) (found : Bool), q ≤ 301 ∧ i = .int .i64 q ∧ v4 = .bool found ∧ SwR bs bs3 ∧ OwnF oBlock 42 wr (.slice A1 bs.length c1) bs3 F ∧ (found = true → opsN bs3 < opsN bs2) ∧ (found = false → bs3 = bs2 ∧ q ≤ b.ops.length ∧ CleanQ b ins q) ∧ (∀ x, F x → w.heap.size + 1 + 1 ≤ x ∧ x ≠ G3) ∧ Row wr (w.heap.size + 1) 33 [.string ⟨#[]⟩, .bool false, .bool false, .slice none 0 0] ∧ Row wr G3 33 (graphCells (.slice A1 bs.length c1) ⟨nm, kp, lf, bs⟩) ∧ Below w.heap.size w wr) (fun i _ _ => 302 - (intOf i).toNat)
          case atStart => exact ⟨0, bs2, F, false, Nat.zero_le _, rfl, rfl, HSW2.out, HO2.out, fun h => (by cases h), fun _ => ⟨rfl, Nat.zero_le _, fun _ _ _ _ h => absurd h (Nat.not_lt_zero _)⟩, HFx.out, RZ2.out, R32.out, hbr⟩
          case round =>
            clear y3
            obtain ⟨q, bs3, F, found, hq, rfl, rfl, hsw, ho, hft, hff, hF, rz, r3, hbr⟩ := hrel
            have y3 := r3.cell (j := 3) rfl
            have hsl3 := hsw.len
            cases found with
            | true =>
              obtain ⟨b3, hb3⟩ := get_some bs3 k (by rw [hsl3]; exact hlt)
              obtain ⟨ad, Ab, cb, rfl, i0, -, -, -, -, -, -, -, -, -, -, -, -, lb, mb, gb⟩ := Block_at (own_bs_read ho) hb3
              have hlb := len_le lb mb
              have HSW3 := Lib.hid hsw
              have HO3x := Lib.hid ho
              have HFT3 := Lib.hid hft
              clear hsw ho hft hff hb3 gb
              by_cases hq2 : q < b3.ops.length
              · have z2 : decide (q < b3.ops.length) = true := decide_eq_true hq2
                clear hq2
                go_wp2_with fail
                exact ⟨⟨k + 1, bs3, F, true, by omega, by go_num, rfl, HSW3.out, HO3x.out, HFT3.out, fun h => (by cases h), hF, rz, r3, hbr⟩, by simp [intOf]; omega⟩
              · have z2 : decide (q < b3.ops.length) = false := decide_eq_false hq2
                clear hq2
                go_wp2_with fail
                exact ⟨⟨k + 1, bs3, F, true, by omega, by go_num, rfl, HSW3.out, HO3x.out, HFT3.out, fun h => (by cases h), hF, rz, r3, hbr⟩, by simp [intOf]; omega⟩
            | false =>
              obtain ⟨e3, hqb, hcq⟩ := hff rfl
              subst e3
              obtain ⟨ad, Ab, cb, rfl, i0, -, -, -, -, -, -, -, -, -, -, -, hwb, lb, mb, gb⟩ := Block_at (own_bs_read ho) HB.out
              have hlb := len_le lb mb
              have HWB := Lib.hid hwb
              have HCQ := Lib.hid hcq
              clear hwb hcq hff hft
              by_cases hq2 : q < b.ops.length
              · have z2 : decide (q < b.ops.length) = true := decide_eq_true hq2
                obtain ⟨o, hoo⟩ := get_some b.ops q hq2
                have hcall := refIdle_calls nm kp lf (some ad) c1 bs3 ins k q b o wr (own_bs_read ho) (by rw [hsl3]; exact hl) HOK1.out H31.out HL.out HB.out hoo
                rw [hsl3] at hcall
                have HCALL := Lib.hid hcall
                have HOO := Lib.hid hoo
                have HO3x := Lib.hid ho
                have HSW3 := Lib.hid hsw
                have HFx3 := Lib.hid hF
                have HSL := Lib.hid hsl3
                obtain ⟨x0, x1, x2, x3⟩ := r3.graph
                clear hcall hoo ho hsw hF hsl3
                go_wp2_with fail
                refine HCALL.out.mono ?_
                rintro e w9 ⟨rfl, hb9⟩
                have t9 := hbr.trans (hb9.mono hbr.size)
                have r39 := r3.below hb9
                have rz9 := rz.below hb9
                have i9 := Sub.of_below hb9 _ _ i0
                clear x0 x1 x2 x3 y3 i0
                have y3 := r39.cell (j := 3) rfl
                rcases Bool.eq_false_or_eq_true (decide (idleO o (aheadOps (b.ops.drop (q + 1)) (endN b.fin ins)))) with hid | hid
                · have hidle := of_decide_eq_true hid
                  generalize decide (idleO o (aheadOps (b.ops.drop (q + 1)) (endN b.fin ins))) = di at *
                  subst hid
                  have hsp := split_at HOO.out
                  have hswn : Sw bs3 (bs3.set k ⟨b.ops.take q ++ b.ops.drop (q + 1), b.fin⟩) := ⟨k, b, b.ops.take q, o, b.ops.drop (q + 1), ins, HB.out, hsp, HL.out, hidle, rfl⟩
                  have hdec := hswn.opsN
                  have HDEC : Hid (opsN (bs3.set k ⟨b.ops.take q ++ b.ops.drop (q + 1), b.fin⟩) < opsN bs3) := Lib.hid (by omega)
                  have HSWN := Lib.hid (HSW3.out.step hswn)
                  have htl : (b.ops.take q).length = q := by simp; omega
                  have hdl : (b.ops.drop (q + 1)).length = b.ops.length - (q + 1) := by simp
                  have HTL := Lib.hid htl
                  have HDL := Lib.hid hdl
                  have g9 := Kd.C_mono hb9 gb
                  obtain ⟨ao, rfl, -⟩ := Op_at g9 HOO.out
                  have CT9 := C_takeN g9 q
                  have CD9 := C_dropN g9 (q + 1) cb ((q + 1) * 9) rfl lb
                  obtain ⟨g1, q1, cs, Fi, F0, e0, lq, mq, h0, hO, d0, iff0⟩ := (HO3x.out.below hb9).open_ HB.out
                  injection e0 with e01 e02 e03
                  injection e01 with e01
                  subst e01 e03
                  clear e02
                  rw [addr_zero] at i9
                  obtain ⟨vold, rfl, hwf, oold⟩ := hO
                  have hF0 : ∀ x, F0 x → (w.heap.size + 1 + 1 ≤ x ∧ x ≠ G3) ∧ x < w9.heap.size := fun x hx => ⟨HFx3.out x ((iff0 x).2 (.inl hx)), (HO3x.out.below hb9).lt x ((iff0 x).2 (.inl hx))⟩
                  have HF0 := Lib.hid hF0
                  have HG1 := Lib.hid (hF0 g1 h0.row)
                  have HH := Lib.hid h0
                  have hG3w : G3 < w9.heap.size := r39.lt
                  have hcb : q ≤ cb ∧ q + 1 ≤ cb ∧ cb ≤ 9223372036854775807 := by unfold maxLen at mb; omega
                  clear hidle hsp hswn hdec htl hdl oold hF0 d0 iff0 h0 gb
                  go_upto_region 12 with fail
                  generalize hos : b.ops.take q ++ b.ops.drop (q + 1) = os1 at *
                  have HOS := Lib.hid hos
                  clear hos
                  have hwr : IntKind.i64.wrap ((q : Int) + 1) = (q : Int) + 1 := IntWalk.i64_in _ (by omega)
                  have hwz : (0 : Int) ≤ (q : Int) + 1 := by omega
                  have hwc : (q : Int) + 1 ≤ (b.ops.length : Int) := by omega
                  have hwt : ((q : Int) + 1).toNat = q + 1 := by omega
                  refine wp_region_held_drew (S := (fun w' => w'.cell? ⟨G3, 3, none⟩ = some (.slice (some ⟨g1, 0, none⟩) bs.length c1))) (by kernel_rfl) (y3) (fun hHeld => ?_)
                  refine wpAnyH_take (i := 0) (oi := _) (v := ?v12m1_1) rfl (by kernel_rfl) (by kernel_rfl) (by kernel_rfl) (fun _ _ _ h => h) (Or.inl ⟨by rfl, ?hy12m1_1⟩) hHeld ?_
                  case hy12m1_1 => (intro wS hSw; (try dsimp only at hSw); skip; go_simp; try with_reducible rfl)
                  try simp only [List.getElem_toArray, List.getElem_cons_succ, List.getElem_cons_zero, Act.put, List.setIfInBounds_toArray, List.set_cons_zero, List.set_cons_succ]
                  refine wpAnyH_take (i := 1) (oi := _) (v := ?v12m1_2) rfl (by kernel_rfl) (by kernel_rfl) (by kernel_rfl) (fun _ _ _ h => h) (Or.inl ⟨by rfl, ?hy12m1_2⟩) hHeld ?_
                  case hy12m1_2 => (intro wS hSw; (try dsimp only at hSw); skip; go_simp; try with_reducible rfl)
                  try simp only [List.getElem_toArray, List.getElem_cons_succ, List.getElem_cons_zero, Act.put, List.setIfInBounds_toArray, List.set_cons_zero, List.set_cons_succ]
                  refine wpAnyH_take (i := 2) (oi := _) (v := ?v12m1_3) rfl (by kernel_rfl) (by kernel_rfl) (by kernel_rfl) (fun _ _ _ h => h) (Or.inl ⟨by rfl, ?hy12m1_3⟩) hHeld ?_
                  case hy12m1_3 => (intro wS hSw; (try dsimp only at hSw); skip; go_simp; try with_reducible rfl)
                  try simp only [List.getElem_toArray, List.getElem_cons_succ, List.getElem_cons_zero, Act.put, List.setIfInBounds_toArray, List.set_cons_zero, List.set_cons_succ]
                  refine wpAnyH_take (i := 4) (oi := _) (v := ?v12m1_4) rfl (by kernel_rfl) (by kernel_rfl) (by kernel_rfl) (fun _ _ _ h => h) (Or.inl ⟨by rfl, ?hy12m1_4⟩) hHeld ?_
                  case hy12m1_4 => (intro wS hSw; (try dsimp only at hSw); skip; go_simp; try with_reducible rfl)
                  try simp only [List.getElem_toArray, List.getElem_cons_succ, List.getElem_cons_zero, Act.put, List.setIfInBounds_toArray, List.set_cons_zero, List.set_cons_succ]
                  refine wpAnyH_take (i := 5) (oi := _) (v := ?v12m1_5) rfl (by kernel_rfl) (by kernel_rfl) (by kernel_rfl) (fun _ _ _ h => h) (Or.inl ⟨by rfl, ?hy12m1_5⟩) hHeld ?_
                  case hy12m1_5 => (intro wS hSw; (try dsimp only at hSw); skip; go_simp; try with_reducible rfl)
                  try simp only [List.getElem_toArray, List.getElem_cons_succ, List.getElem_cons_zero, Act.put, List.setIfInBounds_toArray, List.set_cons_zero, List.set_cons_succ]
                  refine wpAnyH_take (i := 6) (oi := _) (v := ?v12m1_6) rfl (by kernel_rfl) (by kernel_rfl) (by kernel_rfl) (fun _ _ _ h => h) (Or.inl ⟨by rfl, ?hy12m1_6⟩) hHeld ?_
                  case hy12m1_6 => (intro wS hSw; (try dsimp only at hSw); skip; go_simp; try with_reducible rfl)
                  try simp only [List.getElem_toArray, List.getElem_cons_succ, List.getElem_cons_zero, Act.put, List.setIfInBounds_toArray, List.set_cons_zero, List.set_cons_succ]
                  refine wpAnyH_take (i := 8) (oi := _) (v := ?v12m1_7) rfl (by kernel_rfl) (by kernel_rfl) (by kernel_rfl) (fun _ _ _ h => h) (Or.inl ⟨by rfl, ?hy12m1_7⟩) hHeld ?_
                  case hy12m1_7 => (intro wS hSw; (try dsimp only at hSw); skip; go_simp; try with_reducible rfl)
                  try simp only [List.getElem_toArray, List.getElem_cons_succ, List.getElem_cons_zero, Act.put, List.setIfInBounds_toArray, List.set_cons_zero, List.set_cons_succ]
                  refine wpAnyH_take (i := 9) (oi := _) (v := ?v12m1_8) rfl (by kernel_rfl) (by kernel_rfl) (by kernel_rfl) (fun _ _ _ h => h) (Or.inl ⟨by rfl, ?hy12m1_8⟩) hHeld ?_
                  case hy12m1_8 => (intro wS hSw; (try dsimp only at hSw); skip; go_simp; try with_reducible rfl)
                  try simp only [List.getElem_toArray, List.getElem_cons_succ, List.getElem_cons_zero, Act.put, List.setIfInBounds_toArray, List.set_cons_zero, List.set_cons_succ]
                  refine wpAnyH_take (i := 10) (oi := _) (v := ?v12m1_9) rfl (by kernel_rfl) (by kernel_rfl) (by kernel_rfl) (fun _ _ _ h => h) (Or.inl ⟨by rfl, ?hy12m1_9⟩) hHeld ?_
                  case hy12m1_9 => (intro wS hSw; (try dsimp only at hSw); skip; go_simp; try with_reducible rfl)
                  try simp only [List.getElem_toArray, List.getElem_cons_succ, List.getElem_cons_zero, Act.put, List.setIfInBounds_toArray, List.set_cons_zero, List.set_cons_succ]
                  refine wpAnyH_take (i := 11) (oi := _) (v := ?v12m1_10) rfl (by kernel_rfl) (by kernel_rfl) (by kernel_rfl) (fun _ _ _ h => h) (Or.inl ⟨by rfl, ?hy12m1_10⟩) hHeld ?_
                  case hy12m1_10 => (intro wS hSw; (try dsimp only at hSw); skip; go_simp; try with_reducible rfl)
                  try simp only [List.getElem_toArray, List.getElem_cons_succ, List.getElem_cons_zero, Act.put, List.setIfInBounds_toArray, List.set_cons_zero, List.set_cons_succ]
                  refine wpAnyH_ready (rs := [3]) (by kernel_rfl) (by simp) ?_
                  refine (AllReadyH.cons (o := _) rfl (fun K hK => ?_) AllReadyH.nil)
                  go_simp
                  clear hwr hwz hwc hwt
                  have b3 : Below w9.heap.size w9 (w9.drew.alloc (.cells #[] 44)) := (Below.refl _ _).drew.trans (below_alloc' w9.drew _)
                  have q3 := Sub.of_below b3 _ _ y3
                  have CT := Kd.C_mono b3 CT9
                  have CD := Kd.C_mono b3 CD9
                  refine hK.out _ _ (q3) (fun hHeld11 => ?_)
                  clear hK K hHeld
                  try simp only [List.getElem_toArray, List.getElem_cons_succ, List.getElem_cons_zero, Act.put, List.setIfInBounds_toArray, List.set_cons_zero, List.set_cons_succ]
                  refine wpAnyH_ready (rs := [7]) (by kernel_rfl) (by simp) ?_
                  refine (AllReadyH.cons (o := _) rfl (fun K hK => ?_) AllReadyH.nil)
                  refine step_append_f (k := oOp) elOp rfl _ _ rfl (OwnF.empty oOp 44 w9.drew) (YF.flat CT) (fun _ _ h => h) rfl (by show _ = Value.slice _ (b.ops.take q).length _; rw [HTL.out]; rfl) (by rw [HTL.out]; show 0 + _ ≤ _; omega) ?_
                  intro v11 w11 hg11
                  obtain ⟨⟨F11, own11, hF11⟩, hgr11⟩ := hg11
                  rw [List.nil_append] at own11
                  have t11 : Below w9.heap.size w9 w11 := b3.grown hgr11 b3.size (fun j hj => by (injection hj with hj; subst hj; exact Nat.le_refl _))
                  have hF11p : ∀ b, F11 b → w9.heap.size ≤ b := fun b hb => by (rcases hF11 b hb with h | h | h; exact Nat.le_of_eq h.symm; exact h.elim; exact Nat.le_trans b3.size h)
                  have q11 := Sub.of_below t11 _ _ y3
                  have CD11 := Kd.C_mono t11 CD9
                  obtain ⟨A11, d11, hv11, l11, m11, -⟩ := own11.read
                  have O11 := Lib.hid own11
                  refine hK.out _ _ (q11) (fun hHeld12 => ?_)
                  clear hK K hHeld11
                  try simp only [List.getElem_toArray, List.getElem_cons_succ, List.getElem_cons_zero, Act.put, List.setIfInBounds_toArray, List.set_cons_zero, List.set_cons_succ]
                  refine wpAnyH_ready (rs := [12]) (by kernel_rfl) (by simp) ?_
                  refine (AllReadyH.cons (o := _) rfl (fun K hK => ?_) AllReadyH.nil)
                  refine step_append_f (k := oOp) elOp rfl _ _ rfl O11.out (YF.flat CD11) (fun _ _ h => h) rfl (by show _ = Value.slice _ (b.ops.drop (q + 1)).length _; rw [HDL.out]; rfl) (by rw [HTL.out, HDL.out]; omega) ?_
                  intro v12 w12 hg12
                  obtain ⟨⟨F12, own12, hF12⟩, hgr12⟩ := hg12
                  rw [HOS.out] at own12
                  have t12 : Below w9.heap.size w9 w12 := t11.grown hgr12 t11.size (fun j hj => hF11p j (O11.out.row hj))
                  have hF12p : ∀ b, F12 b → w9.heap.size ≤ b := fun b hb => by (rcases hF12 b hb with h | h | h; exact hF11p b h; exact h.elim; exact Nat.le_trans t11.size h)
                  have q12 := Sub.of_below t12 _ _ y3
                  obtain ⟨A12, d12, rfl, l12, m12, -⟩ := own12.read
                  have O12 := Lib.hid own12
                  have h12 := HH.out.below t12
                  have f12 := h12.frozen (k * 12)
                  have c12 : w12.cell? ⟨g1, k * 12, none⟩ = some vold := h12.cell (j := 0) rfl
                  refine hK.out _ _ (q12) (fun hHeld13 => ?_)
                  clear hK K hHeld12
                  try simp only [List.getElem_toArray, List.getElem_cons_succ, List.getElem_cons_zero, Act.put, List.setIfInBounds_toArray, List.set_cons_zero, List.set_cons_succ]
                  refine wpAnyH_take (i := 13) (oi := _) (v := ?v12m1_14) rfl (by kernel_rfl) (by kernel_rfl) (by kernel_rfl) (fun _ _ _ h => h) (Or.inl ⟨by rfl, ?hy12m1_14⟩) hHeld13 ?_
                  case hy12m1_14 => (intro wS hSw; (try dsimp only at hSw); skip; go_simp; try with_reducible rfl)
                  try simp only [List.getElem_toArray, List.getElem_cons_succ, List.getElem_cons_zero, Act.put, List.setIfInBounds_toArray, List.set_cons_zero, List.set_cons_succ]
                  refine wpAnyH_take (i := 14) (oi := _) (v := ?v12m1_15) rfl (by kernel_rfl) (by kernel_rfl) (by kernel_rfl) (fun _ _ _ h => h) (Or.inl ⟨by rfl, ?hy12m1_15⟩) hHeld13 ?_
                  case hy12m1_15 => (intro wS hSw; (try dsimp only at hSw); skip; go_simp; try with_reducible rfl)
                  try simp only [List.getElem_toArray, List.getElem_cons_succ, List.getElem_cons_zero, Act.put, List.setIfInBounds_toArray, List.set_cons_zero, List.set_cons_succ]
                  refine wpAnyH_ready (rs := [15]) (by kernel_rfl) (by simp) ?_
                  refine (AllReadyH.cons (o := _) rfl (fun K hK => ?_) AllReadyH.nil)
                  go_simp
                  have hs15 := h12.set (j := 0) (by decide) (.slice A12 os1.length d12)
                  have g15 := grown_set w12 g1 (k * 12) (.slice A12 os1.length d12)
                  have q15 := g15.cell q12 (by simp; have := HG1.out; omega)
                  refine hK.out _ _ (q15) (fun hHeld16 => ?_)
                  clear hK K hHeld13
                  try simp only [List.getElem_toArray, List.getElem_cons_succ, List.getElem_cons_zero, Act.put, List.setIfInBounds_toArray, List.set_cons_zero, List.set_cons_succ]
                  refine wpAnyH_done (by kernel_rfl) ?_ _
                  have h16 : HoleF oBlock 42 (w12.setCell ⟨g1, k * 12, none⟩ (.slice A12 os1.length d12)) g1 c1 bs3 k (blockCells (.slice A12 os1.length d12) ⟨os1, b.fin⟩) F0 := hs15
                  have hcl := h16.close (y := ⟨os1, b.fin⟩) (Gi := F12) ⟨_, rfl, HWB.out, O12.out.grown g15 (fun x hx e => by injection e with e; subst e; have := hF12p _ hx; have := HG1.out.2; omega)⟩ (fun x hx hx' => by have := hF12p x hx; have := (HF0.out x hx').2; omega)
                  rw [HSL.out] at hcl
                  have hFn : ∀ x, F0 x ∨ F12 x → w.heap.size + 1 + 1 ≤ x ∧ x ≠ G3 := fun x hx => by
                    rcases hx with h | h
                    · exact (HF0.out x h).1
                    · have := hF12p x h; have := t9.size; constructor <;> omega
                  have rzS := (rz9.below t12).grown g15 (fun e => by injection e with e; have := HG1.out.1; omega)
                  have r3S := (r39.below t12).grown g15 (fun e => by injection e with e; exact HG1.out.1.2 e)
                  have tS := (t9.trans (t12.mono t9.size)).grown g15 (t9.trans (t12.mono t9.size)).size (fun j hj => by injection hj with hj; have := HG1.out.1; omega)
                  have HCL := Lib.hid hcl
                  clear hs15 h16 hcl own12
                  go_wp2_with fail
                  exact ⟨⟨q + 1, _, _, true, by omega, by go_num, rfl, HSWN.out, HCL.out, fun _ => HDEC.out, fun h => (by cases h), hFn, rzS, r3S, tS⟩, by simp [intOf]; omega⟩
                · have hidle := of_decide_eq_false hid
                  generalize decide (idleO o (aheadOps (b.ops.drop (q + 1)) (endN b.fin ins))) = di at *
                  subst hid
                  have hcq := HCQ.out.step HOO.out hidle
                  have HCQ2 := Lib.hid hcq
                  clear hidle hcq
                  go_wp2_with fail
                  exact ⟨⟨q + 1, bs3, F, false, by omega, by go_num, rfl, HSW3.out, HO3x.out.below hb9, fun h => (by cases h), fun _ => ⟨rfl, by omega, HCQ2.out⟩, HFx3.out, rz9, r39, t9⟩, by simp [intOf]; omega⟩
              · have z2 : decide (q < b.ops.length) = false := decide_eq_false hq2
                obtain rfl : q = b.ops.length := by omega
                have hcl2 := HCLT.out.one HB.out HL.out HCQ.out.all
                have HCL2 := Lib.hid hcl2
                have HO3x := Lib.hid ho
                have HSW3 := Lib.hid hsw
                clear hcl2 ho hsw hq2 gb
                go_wp2_with fail
                exact ⟨⟨k + 1, bs3, F, false, by omega, by go_num, rfl, HSW3.out, HO3x.out, fun h => (by cases h), fun _ => ⟨rfl, HCL2.out⟩, hF, rz, r3, hbr⟩, by simp [intOf]; omega⟩
        · have z1 : decide (k < bs.length) = false := decide_eq_false hlt
          obtain rfl : k = bs.length := by omega
          have hfin : Swept bs bs2 := ⟨HSW2.out, CleanTo.normal HOK1.out (by rw [HSL1.out]; exact hcl)⟩
          have HFIN := Lib.hid hfin
          obtain ⟨y0, y1, y2, y3⟩ := r3.graph
          clear hfin hcl hlt
          go_wp2_with (refine wpList_put_row rfl 33 _ _ rfl (w.heap.size + 1) (graphCells (.slice A1 bs.length c1) ⟨nm, kp, lf, bs⟩) rfl rfl RZ2.out (by kernel_rfl) rfl (graphCells_one _) ?_; intro w6 r6 g6 s6)
          refine bodyPost_ret (results_cell_row rfl _ _ (w.heap.size + 1) 33 (graphCells (.slice A1 bs.length c1) ⟨nm, kp, lf, bs⟩).toArray (0, 0) _ rfl r6 Try.underlying33 rfl (by kernel_rfl)) rfl ?_
          refine ⟨bs2, HFIN.out, A1, c1, F, by rw [HSL1.out]; rfl, ?_, fun x hx => by have := HFx.out x hx; omega, hbr.grown g6 hbr.size (fun j hj => by injection hj with hj; omega)⟩
          rw [HSL1.out]
          exact HO2.out.grown g6 (fun x hx e => by injection e with e; have := HFx.out x hx; omega)
end Go.Proofs.Ytokkngfgppikkaa
