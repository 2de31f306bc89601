/- Layer 19 (live): what is live behind a block's instructions, After. Printed in part by genEe.py of this repository. -/
import Derived.Test.YtobhjjbhlnbcpaaEd
import Derived.Deep.RegionHeld3
namespace Go.Proofs.Ytobhjjbhlnbcpaa
set_option linter.unusedVariables false
set_option linter.unusedSimpArgs false
open Go.RowKit

/-- What is live behind each instruction. -/
def afterL (os : List Op) (e : Nat) : List Nat := (List.range os.length).map (fun k => aheadOps (os.drop (k + 1)) e)
theorem afterL_len (os : List Op) (e : Nat) : (afterL os e).length = os.length := by simp [afterL]
theorem afterL_at {os : List Op} {e k : Nat} (h : k < os.length) : (afterL os e)[k]? = some (aheadOps (os.drop (k + 1)) e) := by
  unfold afterL
  rw [List.getElem?_map, List.getElem?_range h]
  rfl
theorem afterL_ext {os : List Op} {e : Nat} {xs : List Nat} (hl : xs.length = os.length) (h : ∀ k, k < os.length → xs[k]? = some (aheadOps (os.drop (k + 1)) e)) : xs = afterL os e := by
  apply List.ext_getElem?
  intro i
  by_cases hi : i < os.length
  · rw [h i hi, afterL_at hi]
  · rw [List.getElem?_eq_none (by omega), List.getElem?_eq_none (by rw [afterL_len]; omega)]
/-- What the asking for an end's set reads. -/
def AF (w : World) (g : Nat) (nm : ByteArray) (kp lf : Bool) (v : Value) (ad : Addr) (t : Term) : Prop := w.cell? ⟨g, 0, none⟩ = some (.string nm) ∧ w.cell? ⟨g, 1, none⟩ = some (.bool kp) ∧ w.cell? ⟨g, 2, none⟩ = some (.bool lf) ∧ w.cell? ⟨g, 3, none⟩ = some v ∧ w.cell? ⟨ad.block, ad.off + 1, none⟩ = some (.int .i64 t.kind) ∧ w.cell? ⟨ad.block, ad.off + 2, none⟩ = some (.int .i64 t.op) ∧ w.cell? ⟨ad.block, ad.off + 3, none⟩ = some (.int .i64 t.a) ∧ w.cell? ⟨ad.block, ad.off + 4, none⟩ = some (.int .i64 t.b) ∧ w.cell? ⟨ad.block, ad.off + 5, none⟩ = some (.int .i64 t.to) ∧ w.cell? ⟨ad.block, ad.off + 6, none⟩ = some (.int .i64 t.els) ∧ w.cell? ⟨ad.block, ad.off + 7, none⟩ = some (.int .i64 t.ins.op) ∧ w.cell? ⟨ad.block, ad.off + 8, none⟩ = some (.int .i64 t.ins.a) ∧ w.cell? ⟨ad.block, ad.off + 9, none⟩ = some (.int .i64 t.ins.b) ∧ w.cell? ⟨ad.block, ad.off + 10, none⟩ = some (.int .i64 t.ins.c) ∧ w.cell? ⟨ad.block, ad.off + 11, none⟩ = some (.int .i64 t.ins.imm)
theorem AF.sub {w w' : World} {g : Nat} {nm : ByteArray} {kp lf : Bool} {v : Value} {ad : Addr} {t : Term} (h : AF w g nm kp lf v ad t) (hs : Sub w w') : AF w' g nm kp lf v ad t := by
  obtain ⟨s0, s1, s2, s3, s4, s5, s6, s7, s8, s9, s10, s11, s12, s13, s14⟩ := h
  exact ⟨hs _ _ s0, hs _ _ s1, hs _ _ s2, hs _ _ s3, hs _ _ s4, hs _ _ s5, hs _ _ s6, hs _ _ s7, hs _ _ s8, hs _ _ s9, hs _ _ s10, hs _ _ s11, hs _ _ s12, hs _ _ s13, hs _ _ s14⟩
/-- What After leaves: a row of the call's own. -/
def MadeAfter (w : World) (bs : List Block) (b : Block) (e : Ending) (w' : World) : Prop :=
  ∃ g ins, e = .returned (.slice (some ⟨g, 0, none⟩) b.ops.length b.ops.length) ∧ IsLive bs ins ∧ OwnF oU 51 w' (.slice (some ⟨g, 0, none⟩) b.ops.length b.ops.length) (afterL b.ops (endN b.fin ins)) (fun x => x = g) ∧ w.heap.size ≤ g ∧ Below w.heap.size w w'

set_option maxHeartbeats 8000000 in
set_option maxRecDepth 100000 in
theorem liveAfter_calls (nm : ByteArray) (kp lf : Bool) (A : Option Addr) (c : Nat) (bs : List Block) (k : Nat) (b : Block) (w : World) (hC : kBlock.C w A bs) (hl : bs.length ≤ 1000) (hok : BsOk bs) (h300 : ∀ b ∈ bs, b.ops.length ≤ 300) (hb : bs[k]? = some b) : Calls Try.prog 31 #[.agg #[.string nm, .bool kp, .bool lf, .slice A bs.length c], .int .i64 (k : Int)] w (MadeAfter w bs b) := by
  have b0 := below_alloc' w (.cells #[.string nm, .bool kp, .bool lf, .slice A bs.length c] 28)
  have r0 : Row (w.alloc (.cells #[.string nm, .bool kp, .bool lf, .slice A bs.length c] 28)) w.heap.size 28 [.string nm, .bool kp, .bool lf, .slice A bs.length c] := Row.new w _ _
  have hbm := List.mem_of_getElem? hb
  have hkl : k < bs.length := (List.getElem?_eq_some_iff.1 hb).1
  have hlo : bs.length ≤ 9223372036854775807 := by omega
  have h3b := h300 b hbm
  have hno : b.ops.length ≤ 9223372036854775807 := by omega
  obtain ⟨f, hf⟩ := hok.fin hbm
  have hops := hok.ops hbm
  obtain ⟨ad, Ab, cb, rfl, i0, i1, i2, i3, i4, i5, i6, i7, i8, i9, i10, i11, -, lb, mb, gb⟩ := Block_at hC hb
  have HOK := Lib.hid hok
  have H3 := Lib.hid h300
  have HF := Lib.hid hf
  have HOPS := Lib.hid hops
  clear hok h300 hf hops hb hbm
  go_enter Try.func31, Try.ntmps31
  go_upto_region 1 with fail
  generalize w.alloc (.cells #[.string nm, .bool kp, .bool lf, .slice (some ad) bs.length c] 28) = W at *
  have x3 := r0.cell (j := 3) rfl
  have s0 := Sub.of_below b0
  have j0 := s0 _ _ i0
  clear s0
  obtain ⟨W1, hmk, own1, hb1, hz1⟩ := make_words b.ops.length (by omega) W
  have HO1 := Lib.hid own1
  clear hz1 own1
  go_upto_region 3 with fail
  have t1 := b0.trans (hb1.mono b0.size)
  have r1 := r0.below hb1
  have hGl := r0.lt
  have su := Sub.of_below t1
  have A0 : AF W1 w.heap.size nm kp lf (.slice (some ad) bs.length c) (ad.add (k * 12)) b.fin := ⟨r1.cell rfl, r1.cell rfl, r1.cell rfl, r1.cell rfl, su _ _ i1, su _ _ i2, su _ _ i3, su _ _ i4, su _ _ i5, su _ _ i6, su _ _ i7, su _ _ i8, su _ _ i9, su _ _ i10, su _ _ i11⟩
  have GB := Kd.C_mono ((Below.refl W1.heap.size W1).drew) (Kd.C_mono t1 hC)
  generalize hG : W.heap.size = G at *
  have hG1 : G < W1.heap.size := HO1.out.lt G rfl
  clear x3 hmk r0 r1 su j0 hG i0 i1 i2 i3 i4 i5 i6 i7 i8 i9 i10 i11
  refine wp_region_held_drew (S := (fun w' => AF w' w.heap.size nm kp lf (.slice (some ad) bs.length c) (ad.add (k * 12)) b.fin)) (by kernel_rfl) (A0) (fun hHeld => ?_)
  refine wpAnyH_take (i := 0) (oi := _) (v := ?v3n1_0) rfl (by kernel_rfl) (by kernel_rfl) (by kernel_rfl) (fun _ _ _ h => h) (Or.inl ⟨by rfl, ?hy3n1_0⟩) hHeld ?_
  case hy3n1_0 => (intro wS hSw; (try dsimp only at hSw); obtain ⟨s0, s1, s2, s3, s4, s5, s6, s7, s8, s9, s10, s11, s12, s13, s14⟩ := hSw; go_simp; try with_reducible rfl)
  try simp only [List.getElem_toArray, List.getElem_cons_succ, List.getElem_cons_zero, Act.put, List.setIfInBounds_toArray, List.set_cons_zero, List.set_cons_succ]
  refine wpAnyH_take (i := 1) (oi := _) (v := ?v3n1_1) rfl (by kernel_rfl) (by kernel_rfl) (by kernel_rfl) (fun _ _ _ h => h) (Or.inl ⟨by rfl, ?hy3n1_1⟩) hHeld ?_
  case hy3n1_1 => (intro wS hSw; (try dsimp only at hSw); obtain ⟨s0, s1, s2, s3, s4, s5, s6, s7, s8, s9, s10, s11, s12, s13, s14⟩ := hSw; go_simp; try with_reducible rfl)
  try simp only [List.getElem_toArray, List.getElem_cons_succ, List.getElem_cons_zero, Act.put, List.setIfInBounds_toArray, List.set_cons_zero, List.set_cons_succ]
  refine wpAnyH_take (i := 2) (oi := _) (v := ?v3n1_2) rfl (by kernel_rfl) (by kernel_rfl) (by kernel_rfl) (fun _ _ _ h => h) (Or.inl ⟨by rfl, ?hy3n1_2⟩) hHeld ?_
  case hy3n1_2 => (intro wS hSw; (try dsimp only at hSw); obtain ⟨s0, s1, s2, s3, s4, s5, s6, s7, s8, s9, s10, s11, s12, s13, s14⟩ := hSw; go_simp; try with_reducible rfl)
  try simp only [List.getElem_toArray, List.getElem_cons_succ, List.getElem_cons_zero, Act.put, List.setIfInBounds_toArray, List.set_cons_zero, List.set_cons_succ]
  refine wpAnyH_take (i := 3) (oi := _) (v := ?v3n1_3) rfl (by kernel_rfl) (by kernel_rfl) (by kernel_rfl) (fun _ _ _ h => h) (Or.inl ⟨by rfl, ?hy3n1_3⟩) hHeld ?_
  case hy3n1_3 => (intro wS hSw; (try dsimp only at hSw); obtain ⟨s0, s1, s2, s3, s4, s5, s6, s7, s8, s9, s10, s11, s12, s13, s14⟩ := hSw; go_simp; try with_reducible rfl)
  try simp only [List.getElem_toArray, List.getElem_cons_succ, List.getElem_cons_zero, Act.put, List.setIfInBounds_toArray, List.set_cons_zero, List.set_cons_succ]
  refine wpAnyH_take (i := 4) (oi := _) (v := ?v3n1_4) rfl (by kernel_rfl) (by kernel_rfl) (by kernel_rfl) (fun _ _ _ h => h) (Or.inl ⟨by rfl, ?hy3n1_4⟩) hHeld ?_
  case hy3n1_4 => (intro wS hSw; (try dsimp only at hSw); obtain ⟨s0, s1, s2, s3, s4, s5, s6, s7, s8, s9, s10, s11, s12, s13, s14⟩ := hSw; go_simp; try with_reducible rfl)
  try simp only [List.getElem_toArray, List.getElem_cons_succ, List.getElem_cons_zero, Act.put, List.setIfInBounds_toArray, List.set_cons_zero, List.set_cons_succ]
  refine wpAnyH_take (i := 5) (oi := _) (v := ?v3n1_5) rfl (by kernel_rfl) (by kernel_rfl) (by kernel_rfl) (fun _ _ _ h => h) (Or.inl ⟨by rfl, ?hy3n1_5⟩) hHeld ?_
  case hy3n1_5 => (intro wS hSw; (try dsimp only at hSw); obtain ⟨s0, s1, s2, s3, s4, s5, s6, s7, s8, s9, s10, s11, s12, s13, s14⟩ := hSw; go_simp; try with_reducible rfl)
  try simp only [List.getElem_toArray, List.getElem_cons_succ, List.getElem_cons_zero, Act.put, List.setIfInBounds_toArray, List.set_cons_zero, List.set_cons_succ]
  refine wpAnyH_take (i := 6) (oi := _) (v := ?v3n1_6) rfl (by kernel_rfl) (by kernel_rfl) (by kernel_rfl) (fun _ _ _ h => h) (Or.inl ⟨by rfl, ?hy3n1_6⟩) hHeld ?_
  case hy3n1_6 => (intro wS hSw; (try dsimp only at hSw); obtain ⟨s0, s1, s2, s3, s4, s5, s6, s7, s8, s9, s10, s11, s12, s13, s14⟩ := hSw; go_simp; try with_reducible rfl)
  try simp only [List.getElem_toArray, List.getElem_cons_succ, List.getElem_cons_zero, Act.put, List.setIfInBounds_toArray, List.set_cons_zero, List.set_cons_succ]
  refine wpAnyH_ready (rs := [7]) (by kernel_rfl) (by simp) ?_
  refine AllReadyH.cons (o := _) rfl (fun K hK => ?_) AllReadyH.nil
  go_simp
  refine (liveIn_calls _ _ _ _ _ _ _ GB hl HOK.out H3.out).mono ?_
  rintro e w3 ⟨g3, ins, rfl, hlive, own3, hg3, hb3⟩
  have hCU := own3.cellsU
  have hln := hlive.inv.len
  have hfr : b.fin.right ins.length f = true := by rw [hln]; exact HF.out
  have hec := liveEnd_calls b.fin f (some ⟨g3, 0, none⟩) bs.length ins w3 hfr hCU (by omega)
  rw [hln] at hec
  have HEC := Lib.hid hec
  have HLIVE := Lib.hid hlive
  have HFR := Lib.hid hfr
  clear hec hlive hfr hln own3 hCU
  go_wp2_with fail
  refine hK.out _ _ (AF.sub hHeld (Sub.of_below hb3)) (fun hHeld7 => ?_)
  clear hK K hHeld
  try simp only [List.getElem_toArray, List.getElem_cons_succ, List.getElem_cons_zero, Act.put, List.setIfInBounds_toArray, List.set_cons_zero, List.set_cons_succ]
  refine wpAnyH_ready (rs := [8]) (by kernel_rfl) (by simp) ?_
  refine AllReadyH.cons (o := _) rfl (fun K hK => ?_) AllReadyH.nil
  go_simp
  refine HEC.out.mono ?_
  rintro e w4 ⟨rfl, hb4⟩
  go_wp2_with fail
  refine hK.out _ _ (AF.sub hHeld7 (Sub.of_below hb4)) (fun hHeld8 => ?_)
  clear hK K hHeld7
  try simp only [List.getElem_toArray, List.getElem_cons_succ, List.getElem_cons_zero, Act.put, List.setIfInBounds_toArray, List.set_cons_zero, List.set_cons_succ]
  refine wpAnyH_take (i := 9) (oi := _) (v := ?v3n1_9) rfl (by kernel_rfl) (by kernel_rfl) (by kernel_rfl) (fun _ _ _ h => h) (Or.inl ⟨by rfl, ?hy3n1_9⟩) hHeld8 ?_
  case hy3n1_9 => (intro wS hSw; (try dsimp only at hSw); obtain ⟨s0, s1, s2, s3, s4, s5, s6, s7, s8, s9, s10, s11, s12, s13, s14⟩ := hSw; go_simp; try with_reducible rfl)
  try simp only [List.getElem_toArray, List.getElem_cons_succ, List.getElem_cons_zero, Act.put, List.setIfInBounds_toArray, List.set_cons_zero, List.set_cons_succ]
  refine wpAnyH_done (by kernel_rfl) ?_ _
  have u4 : Below W1.heap.size W1 w4 := (Below.refl W1.heap.size W1).drew.trans (hb3.trans (hb4.mono hb3.size))
  have t4 := t1.trans (u4.mono t1.size)
  have own4 := HO1.out.below u4
  have HO4 := Lib.hid own4
  clear own4
  have hend := endN_lt HFR.out HLIVE.out.inv.lt
  have HEND := Lib.hid hend
  clear hend
  go_wp2_with fail
  go_loopw [7, 8] (fun v i wr => ∃ (m : Nat) (xs : List Nat), m ≤ b.ops.length ∧ i = .int .i64 ((m : Int) - 1) ∧ v = .int .u16 (aheadOps (b.ops.drop m) (endN b.fin ins) : Int) ∧ xs.length = b.ops.length ∧ (∀ q, m ≤ q → q < b.ops.length → xs[q]? = some (aheadOps (b.ops.drop (q + 1)) (endN b.fin ins))) ∧ OwnF oU 51 wr (.slice (some ⟨G, 0, none⟩) b.ops.length b.ops.length) xs (fun x => x = G) ∧ Below w.heap.size w wr) (fun _ i _ => (intOf i + 1).toNat)
  case atStart => exact ⟨b.ops.length, _, Nat.le_refl _, rfl, by rw [List.drop_length]; rfl, by simp, fun q h1 h2 => by omega, HO4.out, t4⟩
  case round =>
    obtain ⟨m, xs, hm, rfl, rfl, hxl, hxs, ho, hbr⟩ := hrel
    by_cases hp : 0 < m
    · obtain ⟨q, rfl⟩ : ∃ q, m = q + 1 := ⟨m - 1, by omega⟩
      obtain ⟨o, hoo⟩ := get_some b.ops q (by omega)
      have hdr := drop_at hoo
      have hlt := aheadOps_lt (fun o h => HOPS.out o (List.mem_of_mem_drop h)) HEND.out (os := b.ops.drop (q + 1))
      have hst : aheadOps (b.ops.drop q) (endN b.fin ins) = beforeN o (aheadOps (b.ops.drop (q + 1)) (endN b.fin ins)) := by rw [hdr]; rfl
      have hro := HOPS.out o (List.mem_of_getElem? hoo)
      obtain ⟨ao, rfl, e0, e1, e2, e3, e4, e5, e6, e7, e8, -⟩ := Op_at gb hoo
      have hkq : q < b.ops.length := by omega
      obtain ⟨x, hx⟩ := get_some xs q (by omega)
      obtain ⟨s1, s2, s3, -⟩ := ho.setU hxl hkq hlt
      have hcx := ho.cellU hx
      have hxs' : ∀ p, q ≤ p → p < b.ops.length → (xs.set q (aheadOps (b.ops.drop (q + 1)) (endN b.fin ins)))[p]? = some (aheadOps (b.ops.drop (p + 1)) (endN b.fin ins)) := fun p h1 h2 => by
        by_cases hpq : p = q
        · subst hpq; exact set_get (by omega)
        · rw [List.getElem?_set, if_neg (fun e => hpq e.symm)]; exact hxs p (by omega) h2
      have HST := Lib.hid hst
      have HXS := Lib.hid hxs'
      have HXL := Lib.hid hxl
      have HS1 := Lib.hid s1
      have e : (((q + 1 : Nat) : Int) - 1) = (q : Int) := by omega
      rw [e]
      have f0 := s2.cell (Sub.of_below hbr _ _ e0) (fun e => by have := World.lt_of_cell e0; injection e with e; have e' : (ao.add (q * 9)).block = G := e; omega)
      have f1 := s2.cell (Sub.of_below hbr _ _ e1) (fun e => by have := World.lt_of_cell e0; injection e with e; have e' : (ao.add (q * 9)).block = G := e; omega)
      have f2 := s2.cell (Sub.of_below hbr _ _ e2) (fun e => by have := World.lt_of_cell e0; injection e with e; have e' : (ao.add (q * 9)).block = G := e; omega)
      have f3 := s2.cell (Sub.of_below hbr _ _ e3) (fun e => by have := World.lt_of_cell e0; injection e with e; have e' : (ao.add (q * 9)).block = G := e; omega)
      have f4 := s2.cell (Sub.of_below hbr _ _ e4) (fun e => by have := World.lt_of_cell e0; injection e with e; have e' : (ao.add (q * 9)).block = G := e; omega)
      have f5 := s2.cell (Sub.of_below hbr _ _ e5) (fun e => by have := World.lt_of_cell e0; injection e with e; have e' : (ao.add (q * 9)).block = G := e; omega)
      have f6 := s2.cell (Sub.of_below hbr _ _ e6) (fun e => by have := World.lt_of_cell e0; injection e with e; have e' : (ao.add (q * 9)).block = G := e; omega)
      have f7 := s2.cell (Sub.of_below hbr _ _ e7) (fun e => by have := World.lt_of_cell e0; injection e with e; have e' : (ao.add (q * 9)).block = G := e; omega)
      have f8 := s2.cell (Sub.of_below hbr _ _ e8) (fun e => by have := World.lt_of_cell e0; injection e with e; have e' : (ao.add (q * 9)).block = G := e; omega)
      have hs2 := s2.size
      have hbr1 := hbr.grown s2 hbr.size (fun x hx => by injection hx with hx; omega)
      clear hdr hst hoo e hp hxs hxs' hxl s1 s2 ho hx e0 e1 e2 e3 e4 e5 e6 e7 e8 hs2
      generalize aheadOps (b.ops.drop (q + 1)) (endN b.fin ins) = s at *
      go_upto_region 8 with fail
      generalize wr.setCell ⟨G, q, none⟩ (.int .u16 (s : Int)) = X at *
      clear hcx s3
      go_wp2_with fail
      refine (before_calls _ hro _ hlt _).mono ?_
      rintro e w5 ⟨rfl, hb5⟩
      rw [← HST.out]
      have o5 := HS1.out.below hb5
      have HO5 := Lib.hid o5
      clear o5 f0 f1 f2 f3 f4 f5 f6 f7 f8
      go_wp2_with fail
      exact ⟨⟨q, _, by omega, rfl, rfl, by rw [List.length_set]; exact HXL.out, HXS.out, HO5.out, hbr1.trans (hb5.mono hbr1.size)⟩, by simp [intOf]⟩
    · obtain rfl : m = 0 := by omega
      have hxe := afterL_ext hxl (fun q h => hxs q (Nat.zero_le _) h)
      subst hxe
      have HO := Lib.hid ho
      clear ho hxs hxl
      go_wp2_with fail
      go_ret
      exact ⟨G, ins, rfl, HLIVE.out, HO.out, by omega, hbr⟩
end Go.Proofs.Ytobhjjbhlnbcpaa
