/- The document's live, one register: behind a block's instructions. Printed in part by genEl.py of this repository. -/
import Derived.Test.YtokkngfgppikkaaEk
import Derived.Deep.RegionHeld3
namespace Go.Proofs.Ytokkngfgppikkaa
set_option linter.unusedVariables false
set_option linter.unusedSimpArgs false
open Go.RowKit

/-- One register behind each instruction. -/
def afterB (os : List Op) (r : Nat) (v : Bool) : List Bool := (List.range os.length).map (fun k => aheadOpsB (os.drop (k + 1)) r v)
theorem afterB_len (os : List Op) (r : Nat) (v : Bool) : (afterB os r v).length = os.length := by simp [afterB]
theorem afterB_at {os : List Op} {r : Nat} {v : Bool} {k : Nat} (h : k < os.length) : (afterB os r v)[k]? = some (aheadOpsB (os.drop (k + 1)) r v) := by
  unfold afterB
  rw [List.getElem?_map, List.getElem?_range h]
  rfl
theorem afterB_ext {os : List Op} {r : Nat} {v : Bool} {xs : List Bool} (hl : xs.length = os.length) (h : ∀ k, k < os.length → xs[k]? = some (aheadOpsB (os.drop (k + 1)) r v)) : xs = afterB os r v := by
  apply List.ext_getElem?
  intro i
  by_cases hi : i < os.length
  · rw [h i hi, afterB_at hi]
  · rw [List.getElem?_eq_none (by omega), List.getElem?_eq_none (by rw [afterB_len]; omega)]

set_option maxHeartbeats 8000000 in
set_option maxRecDepth 100000 in
theorem refAfter_calls (nm : ByteArray) (kp lf : Bool) (A : Option Addr) (c : Nat) (bs : List Block) (ins : List Nat) (k r : Nat) (b : Block) (w : World) (hC : kBlock.C w A bs) (hl : bs.length ≤ 1000) (hok : BsOk bs) (h300 : ∀ b ∈ bs, b.ops.length ≤ 300) (hL : IsLive bs ins) (h1 : 1 ≤ r) (h2 : r ≤ 15) (hb : bs[k]? = some b) : Calls Try.prog 94 #[.agg #[.string nm, .bool kp, .bool lf, .slice A bs.length c], .int .i64 (k : Int), .int .i64 (r : Int)] w (MadeBits w b.ops.length (afterB b.ops r (endB b.fin r (bitL ins r)))) := by
  have b0 := below_alloc' w (.cells #[.string nm, .bool kp, .bool lf, .slice A bs.length c] 33)
  have r0 : Row (w.alloc (.cells #[.string nm, .bool kp, .bool lf, .slice A bs.length c] 33)) w.heap.size 33 [.string nm, .bool kp, .bool lf, .slice A bs.length c] := Row.new w _ _
  have hbm := List.mem_of_getElem? hb
  have hkl : k < bs.length := (List.getElem?_eq_some_iff.1 hb).1
  have hlo : bs.length ≤ 9223372036854775807 := by omega
  have h3b := h300 b hbm
  have hno : b.ops.length ≤ 9223372036854775807 := by omega
  obtain ⟨f, hf⟩ := hok.fin hbm
  have hbl : (bitL ins r).length = bs.length := by unfold bitL; rw [List.length_map]; exact hL.inv.len
  obtain ⟨ad, Ab, cb, rfl, i0, i1, i2, i3, i4, i5, i6, i7, i8, i9, i10, i11, -, lb, mb, gb⟩ := Block_at hC hb
  have HOK := Lib.hid hok
  have H3 := Lib.hid h300
  have HF := Lib.hid hf
  have HL := Lib.hid hL
  have HBL := Lib.hid hbl
  have H12 := Lib.hid (And.intro h1 h2)
  clear hok h300 hf hb hbm hL hbl h1 h2
  go_enter Try.func94, Try.ntmps94
  go_upto_region 1 with fail
  generalize w.alloc (.cells #[.string nm, .bool kp, .bool lf, .slice (some ad) bs.length c] 33) = W at *
  have x3 := r0.cell (j := 3) rfl
  have s0 := Sub.of_below b0
  have j0 := s0 _ _ i0
  clear s0
  obtain ⟨W1, hmk, own1, hb1, hz1⟩ := make_bools b.ops.length (by omega) W
  have HO1 := Lib.hid own1
  clear hz1 own1
  go_upto_region 3 with fail
  have t1 := b0.trans (hb1.mono b0.size)
  have r1 := r0.below hb1
  have hGl := r0.lt
  have su := Sub.of_below t1
  have A0 : AF W1 w.heap.size nm kp lf (.slice (some ad) bs.length c) (ad.add (k * 12)) b.fin := ⟨r1.cell rfl, r1.cell rfl, r1.cell rfl, r1.cell rfl, su _ _ i1, su _ _ i2, su _ _ i3, su _ _ i4, su _ _ i5, su _ _ i6, su _ _ i7, su _ _ i8, su _ _ i9, su _ _ i10, su _ _ i11⟩
  have GB := Kd.C_mono ((Below.refl W1.heap.size W1).drew) (Kd.C_mono t1 hC)
  generalize hG : W.heap.size = G at *
  have hG1 : G < W1.heap.size := HO1.out.lt
  clear x3 hmk r0 r1 su j0 hG i0 i1 i2 i3 i4 i5 i6 i7 i8 i9 i10 i11
  refine wp_region_held_drew (S := (fun w' => AF w' w.heap.size nm kp lf (.slice (some ad) bs.length c) (ad.add (k * 12)) b.fin)) (by kernel_rfl) (A0) (fun hHeld => ?_)
  refine wpAnyH_take (i := 0) (oi := _) (v := ?v3n1_0) rfl (by kernel_rfl) (by kernel_rfl) (by kernel_rfl) (fun _ _ _ h => h) (Or.inl ⟨by rfl, ?hy3n1_0⟩) hHeld ?_
  case hy3n1_0 => (intro wS hSw; (try dsimp only at hSw); obtain ⟨s0, s1, s2, s3, s4, s5, s6, s7, s8, s9, s10, s11, s12, s13, s14⟩ := hSw; go_simp; try with_reducible rfl)
  try simp only [List.getElem_toArray, List.getElem_cons_succ, List.getElem_cons_zero, Act.put, List.setIfInBounds_toArray, List.set_cons_zero, List.set_cons_succ]
  refine wpAnyH_take (i := 1) (oi := _) (v := ?v3n1_1) rfl (by kernel_rfl) (by kernel_rfl) (by kernel_rfl) (fun _ _ _ h => h) (Or.inl ⟨by rfl, ?hy3n1_1⟩) hHeld ?_
  case hy3n1_1 => (intro wS hSw; (try dsimp only at hSw); obtain ⟨s0, s1, s2, s3, s4, s5, s6, s7, s8, s9, s10, s11, s12, s13, s14⟩ := hSw; go_simp; try with_reducible rfl)
  try simp only [List.getElem_toArray, List.getElem_cons_succ, List.getElem_cons_zero, Act.put, List.setIfInBounds_toArray, List.set_cons_zero, List.set_cons_succ]
  refine wpAnyH_take (i := 2) (oi := _) (v := ?v3n1_2) rfl (by kernel_rfl) (by kernel_rfl) (by kernel_rfl) (fun _ _ _ h => h) (Or.inl ⟨by rfl, ?hy3n1_2⟩) hHeld ?_
  case hy3n1_2 => (intro wS hSw; (try dsimp only at hSw); obtain ⟨s0, s1, s2, s3, s4, s5, s6, s7, s8, s9, s10, s11, s12, s13, s14⟩ := hSw; go_simp; try with_reducible rfl)
  try simp only [List.getElem_toArray, List.getElem_cons_succ, List.getElem_cons_zero, Act.put, List.setIfInBounds_toArray, List.set_cons_zero, List.set_cons_succ]
  refine wpAnyH_take (i := 3) (oi := _) (v := ?v3n1_3) rfl (by kernel_rfl) (by kernel_rfl) (by kernel_rfl) (fun _ _ _ h => h) (Or.inl ⟨by rfl, ?hy3n1_3⟩) hHeld ?_
  case hy3n1_3 => (intro wS hSw; (try dsimp only at hSw); obtain ⟨s0, s1, s2, s3, s4, s5, s6, s7, s8, s9, s10, s11, s12, s13, s14⟩ := hSw; go_simp; try with_reducible rfl)
  try simp only [List.getElem_toArray, List.getElem_cons_succ, List.getElem_cons_zero, Act.put, List.setIfInBounds_toArray, List.set_cons_zero, List.set_cons_succ]
  refine wpAnyH_take (i := 4) (oi := _) (v := ?v3n1_4) rfl (by kernel_rfl) (by kernel_rfl) (by kernel_rfl) (fun _ _ _ h => h) (Or.inl ⟨by rfl, ?hy3n1_4⟩) hHeld ?_
  case hy3n1_4 => (intro wS hSw; (try dsimp only at hSw); obtain ⟨s0, s1, s2, s3, s4, s5, s6, s7, s8, s9, s10, s11, s12, s13, s14⟩ := hSw; go_simp; try with_reducible rfl)
  try simp only [List.getElem_toArray, List.getElem_cons_succ, List.getElem_cons_zero, Act.put, List.setIfInBounds_toArray, List.set_cons_zero, List.set_cons_succ]
  refine wpAnyH_take (i := 5) (oi := _) (v := ?v3n1_5) rfl (by kernel_rfl) (by kernel_rfl) (by kernel_rfl) (fun _ _ _ h => h) (Or.inl ⟨by rfl, ?hy3n1_5⟩) hHeld ?_
  case hy3n1_5 => (intro wS hSw; (try dsimp only at hSw); obtain ⟨s0, s1, s2, s3, s4, s5, s6, s7, s8, s9, s10, s11, s12, s13, s14⟩ := hSw; go_simp; try with_reducible rfl)
  try simp only [List.getElem_toArray, List.getElem_cons_succ, List.getElem_cons_zero, Act.put, List.setIfInBounds_toArray, List.set_cons_zero, List.set_cons_succ]
  refine wpAnyH_take (i := 6) (oi := _) (v := ?v3n1_6) rfl (by kernel_rfl) (by kernel_rfl) (by kernel_rfl) (fun _ _ _ h => h) (Or.inl ⟨by rfl, ?hy3n1_6⟩) hHeld ?_
  case hy3n1_6 => (intro wS hSw; (try dsimp only at hSw); obtain ⟨s0, s1, s2, s3, s4, s5, s6, s7, s8, s9, s10, s11, s12, s13, s14⟩ := hSw; go_simp; try with_reducible rfl)
  try simp only [List.getElem_toArray, List.getElem_cons_succ, List.getElem_cons_zero, Act.put, List.setIfInBounds_toArray, List.set_cons_zero, List.set_cons_succ]
  refine wpAnyH_take (i := 7) (oi := _) (v := ?v3n1_7) rfl (by kernel_rfl) (by kernel_rfl) (by kernel_rfl) (fun _ _ _ h => h) (Or.inl ⟨by rfl, ?hy3n1_7⟩) hHeld ?_
  case hy3n1_7 => (intro wS hSw; (try dsimp only at hSw); obtain ⟨s0, s1, s2, s3, s4, s5, s6, s7, s8, s9, s10, s11, s12, s13, s14⟩ := hSw; go_simp; try with_reducible rfl)
  try simp only [List.getElem_toArray, List.getElem_cons_succ, List.getElem_cons_zero, Act.put, List.setIfInBounds_toArray, List.set_cons_zero, List.set_cons_succ]
  refine wpAnyH_take (i := 8) (oi := _) (v := ?v3n1_8) rfl (by kernel_rfl) (by kernel_rfl) (by kernel_rfl) (fun _ _ _ h => h) (Or.inl ⟨by rfl, ?hy3n1_8⟩) hHeld ?_
  case hy3n1_8 => (intro wS hSw; (try dsimp only at hSw); obtain ⟨s0, s1, s2, s3, s4, s5, s6, s7, s8, s9, s10, s11, s12, s13, s14⟩ := hSw; go_simp; try with_reducible rfl)
  try simp only [List.getElem_toArray, List.getElem_cons_succ, List.getElem_cons_zero, Act.put, List.setIfInBounds_toArray, List.set_cons_zero, List.set_cons_succ]
  refine wpAnyH_ready (rs := [9]) (by kernel_rfl) (by simp) ?_
  refine AllReadyH.cons (o := _) rfl (fun K hK => ?_) AllReadyH.nil
  go_simp
  refine (refIn_calls _ _ _ _ _ _ _ _ _ GB hl HOK.out H3.out HL.out H12.out.1 H12.out.2).mono ?_
  rintro e w3 ⟨g3, rfl, hR3, hg3, hb3⟩
  have hec := refEnd_calls b.fin f r g3 bs.length bs.length (bitL ins r) w3 HBL.out HF.out hR3 (by omega)
  have HEC := Lib.hid hec
  clear hec hR3
  go_wp2_with fail
  refine hK.out _ _ (AF.sub hHeld (Sub.of_below hb3)) (fun hHeld9 => ?_)
  clear hK K hHeld
  try simp only [List.getElem_toArray, List.getElem_cons_succ, List.getElem_cons_zero, Act.put, List.setIfInBounds_toArray, List.set_cons_zero, List.set_cons_succ]
  refine wpAnyH_ready (rs := [10]) (by kernel_rfl) (by simp) ?_
  refine AllReadyH.cons (o := _) rfl (fun K hK => ?_) AllReadyH.nil
  go_simp
  refine HEC.out.mono ?_
  rintro e w4 ⟨rfl, hb4⟩
  go_wp2_with fail
  refine hK.out _ _ (AF.sub hHeld9 (Sub.of_below hb4)) (fun hHeld10 => ?_)
  clear hK K hHeld9
  try simp only [List.getElem_toArray, List.getElem_cons_succ, List.getElem_cons_zero, Act.put, List.setIfInBounds_toArray, List.set_cons_zero, List.set_cons_succ]
  refine wpAnyH_take (i := 11) (oi := _) (v := ?v3n1_11) rfl (by kernel_rfl) (by kernel_rfl) (by kernel_rfl) (fun _ _ _ h => h) (Or.inl ⟨by rfl, ?hy3n1_11⟩) hHeld10 ?_
  case hy3n1_11 => (intro wS hSw; (try dsimp only at hSw); obtain ⟨s0, s1, s2, s3, s4, s5, s6, s7, s8, s9, s10, s11, s12, s13, s14⟩ := hSw; go_simp; try with_reducible rfl)
  try simp only [List.getElem_toArray, List.getElem_cons_succ, List.getElem_cons_zero, Act.put, List.setIfInBounds_toArray, List.set_cons_zero, List.set_cons_succ]
  refine wpAnyH_done (by kernel_rfl) ?_ _
  have u4 : Below W1.heap.size W1 w4 := (Below.refl W1.heap.size W1).drew.trans (hb3.trans (hb4.mono hb3.size))
  have t4 := t1.trans (u4.mono t1.size)
  have HO4 := Lib.hid (HO1.out.below u4)
  go_wp2_with fail
  go_loopw [9, 10] (fun v i wr => ∃ (m : Nat) (xs : List Bool), m ≤ b.ops.length ∧ i = .int .i64 ((m : Int) - 1) ∧ v = .bool (aheadOpsB (b.ops.drop m) r (endB b.fin r (bitL ins r))) ∧ xs.length = b.ops.length ∧ (∀ q, m ≤ q → q < b.ops.length → xs[q]? = some (aheadOpsB (b.ops.drop (q + 1)) r (endB b.fin r (bitL ins r)))) ∧ RowB wr G xs ∧ Below w.heap.size w wr) (fun _ i _ => (intOf i + 1).toNat)
  case atStart => exact ⟨b.ops.length, _, Nat.le_refl _, rfl, by rw [aheadOpsB_nil], by simp, fun q h1 h2 => by omega, HO4.out, t4⟩
  case round =>
    obtain ⟨m, xs, hm, rfl, rfl, hxl, hxs, ho, hbr⟩ := hrel
    by_cases hp : 0 < m
    · obtain ⟨q, rfl⟩ : ∃ q, m = q + 1 := ⟨m - 1, by omega⟩
      obtain ⟨o, hoo⟩ := get_some b.ops q (by omega)
      have hst := aheadOpsB_cons hoo r (endB b.fin r (bitL ins r))
      obtain ⟨ao, rfl, e0, e1, e2, e3, e4, e5, e6, e7, e8, -⟩ := Op_at gb hoo
      have hkq : q < b.ops.length := by omega
      obtain ⟨x, hx⟩ := get_some xs q (by omega)
      obtain ⟨s1, s2⟩ := ho.set q (aheadOpsB (b.ops.drop (q + 1)) r (endB b.fin r (bitL ins r)))
      have s3 := ho.frozen q
      have hcx := ho.cell hx
      have hxs' : ∀ p, q ≤ p → p < b.ops.length → (xs.set q (aheadOpsB (b.ops.drop (q + 1)) r (endB b.fin r (bitL ins r))))[p]? = some (aheadOpsB (b.ops.drop (p + 1)) r (endB b.fin r (bitL ins r))) := fun p h1 h2 => by
        by_cases hpq : p = q
        · subst hpq; exact set_get (by omega)
        · rw [List.getElem?_set, if_neg (fun e => hpq e.symm)]; exact hxs p (by omega) h2
      have HST := Lib.hid hst
      have HXS := Lib.hid hxs'
      have HXL := Lib.hid hxl
      have HS1 := Lib.hid s1
      have e : (((q + 1 : Nat) : Int) - 1) = (q : Int) := by omega
      rw [e]
      have hne : some (ao.add (q * 9)).block ≠ some G := fun e => by have := World.lt_of_cell e0; injection e with e; have e' : (ao.add (q * 9)).block = G := e; omega
      have f0 := s2.cell (Sub.of_below hbr _ _ e0) hne
      have f1 := s2.cell (Sub.of_below hbr _ _ e1) hne
      have f2 := s2.cell (Sub.of_below hbr _ _ e2) hne
      have f3 := s2.cell (Sub.of_below hbr _ _ e3) hne
      have f4 := s2.cell (Sub.of_below hbr _ _ e4) hne
      have f5 := s2.cell (Sub.of_below hbr _ _ e5) hne
      have f6 := s2.cell (Sub.of_below hbr _ _ e6) hne
      have f7 := s2.cell (Sub.of_below hbr _ _ e7) hne
      have f8 := s2.cell (Sub.of_below hbr _ _ e8) hne
      have hbr1 := hbr.grown s2 hbr.size (fun x hx => by injection hx with hx; omega)
      clear hst hoo e hp hxs hxs' hxl s1 s2 ho hx e0 e1 e2 e3 e4 e5 e6 e7 e8 hne
      generalize aheadOpsB (b.ops.drop (q + 1)) r (endB b.fin r (bitL ins r)) = s at *
      go_upto_region 8 with fail
      generalize wr.setCell ⟨G, q, none⟩ (.bool s) = X at *
      clear hcx s3
      go_wp2_with fail
      refine (refBefore_calls _ _ _ _).mono ?_
      rintro e w5 ⟨rfl, hb5⟩
      rw [← HST.out]
      have HO5 := Lib.hid (HS1.out.below hb5)
      clear f0 f1 f2 f3 f4 f5 f6 f7 f8
      go_wp2_with fail
      exact ⟨⟨q, _, by omega, rfl, rfl, by rw [List.length_set]; exact HXL.out, HXS.out, HO5.out, hbr1.trans (hb5.mono hbr1.size)⟩, by simp [intOf]⟩
    · obtain rfl : m = 0 := by omega
      have hxe := afterB_ext hxl (fun q h => hxs q (Nat.zero_le _) h)
      subst hxe
      have HO := Lib.hid ho
      clear ho hxs hxl
      go_wp2_with fail
      go_ret
      exact ⟨G, rfl, HO.out, by omega, hbr⟩
end Go.Proofs.Ytokkngfgppikkaa
