/- The document's Copy of a graph. The document's Copy of many graphs. The document's Same, of one graph in two places. The document's Same, of many graphs in two places. -/
import Derived.Test.YthnkikdbllkmkaaGc
import Derived.Test.YthnkikdbllkmkaaGh
import Derived.Deep.RegionHeld3
import Derived.Test.YthnkikdbllkmkaaGb
import Derived.BigQuiet
namespace Go.Proofs.Ythnkikdbllkmkaa
set_option linter.unusedVariables false
set_option linter.unusedSimpArgs false
open Go.RowKit

/-- What the copying of one block reads. -/
def SC (w : World) (g1 : Nat) (A : Option Addr) (n c : Nat) (ad : Addr) (A0 : Option Addr) (c0 : Nat) (b : Block) : Prop := w.cell? ⟨g1, 3, none⟩ = some (.slice A n c) ∧ w.cell? ad = some (.slice A0 b.ops.length c0) ∧ w.cell? ⟨ad.block, ad.off + 1, none⟩ = some (.int .i64 b.fin.kind) ∧ w.cell? ⟨ad.block, ad.off + 2, none⟩ = some (.int .i64 b.fin.op) ∧ w.cell? ⟨ad.block, ad.off + 3, none⟩ = some (.int .i64 b.fin.a) ∧ w.cell? ⟨ad.block, ad.off + 4, none⟩ = some (.int .i64 b.fin.b) ∧ w.cell? ⟨ad.block, ad.off + 5, none⟩ = some (.int .i64 b.fin.to) ∧ w.cell? ⟨ad.block, ad.off + 6, none⟩ = some (.int .i64 b.fin.els) ∧ w.cell? ⟨ad.block, ad.off + 7, none⟩ = some (.int .i64 b.fin.ins.op) ∧ w.cell? ⟨ad.block, ad.off + 8, none⟩ = some (.int .i64 b.fin.ins.a) ∧ w.cell? ⟨ad.block, ad.off + 9, none⟩ = some (.int .i64 b.fin.ins.b) ∧ w.cell? ⟨ad.block, ad.off + 10, none⟩ = some (.int .i64 b.fin.ins.c) ∧ w.cell? ⟨ad.block, ad.off + 11, none⟩ = some (.int .i64 b.fin.ins.imm)
theorem SC.sub {w w' : World} {g1 : Nat} {A : Option Addr} {n c : Nat} {ad : Addr} {A0 : Option Addr} {c0 : Nat} {b : Block} (hs : Sub w w') (h : SC w g1 A n c ad A0 c0 b) : SC w' g1 A n c ad A0 c0 b := by
  obtain ⟨s0, s1, s2, s3, s4, s5, s6, s7, s8, s9, s10, s11, s12⟩ := h
  exact ⟨hs _ _ s0, hs _ _ s1, hs _ _ s2, hs _ _ s3, hs _ _ s4, hs _ _ s5, hs _ _ s6, hs _ _ s7, hs _ _ s8, hs _ _ s9, hs _ _ s10, hs _ _ s11, hs _ _ s12⟩
theorem SC.turn {w w' : World} {g1 : Nat} {A : Option Addr} {n c : Nat} {ad : Addr} {A0 : Option Addr} {c0 : Nat} {b : Block} (h1 : w'.heap[g1]? = w.heap[g1]?) (h2 : w'.heap[ad.block]? = w.heap[ad.block]?) (h : SC w g1 A n c ad A0 c0 b) : SC w' g1 A n c ad A0 c0 b := by
  obtain ⟨s0, s1, s2, s3, s4, s5, s6, s7, s8, s9, s10, s11, s12⟩ := h
  have e : ∀ a : Addr, a.block = ad.block → w'.cell? a = w.cell? a := fun a ha => World.cell?_of_block (a := a) (by rw [ha]; exact h2)
  exact ⟨(World.cell?_of_block (a := ⟨g1, 3, none⟩) h1).trans s0, (e ad rfl).trans s1, (e ⟨ad.block, ad.off + 1, none⟩ rfl).trans s2, (e ⟨ad.block, ad.off + 2, none⟩ rfl).trans s3, (e ⟨ad.block, ad.off + 3, none⟩ rfl).trans s4, (e ⟨ad.block, ad.off + 4, none⟩ rfl).trans s5, (e ⟨ad.block, ad.off + 5, none⟩ rfl).trans s6, (e ⟨ad.block, ad.off + 6, none⟩ rfl).trans s7, (e ⟨ad.block, ad.off + 7, none⟩ rfl).trans s8, (e ⟨ad.block, ad.off + 8, none⟩ rfl).trans s9, (e ⟨ad.block, ad.off + 9, none⟩ rfl).trans s10, (e ⟨ad.block, ad.off + 10, none⟩ rfl).trans s11, (e ⟨ad.block, ad.off + 11, none⟩ rfl).trans s12⟩

/-- A graph of the call's own. -/
def CopiedG (nm : ByteArray) (kp lf : Bool) (bs : List Block) (w : World) (e : Ending) (w' : World) : Prop :=
    ∃ A' c' F, e = .returned (.agg #[.string nm, .bool kp, .bool lf, .slice A' bs.length c']) ∧ OwnF oBlock 46 w' (.slice A' bs.length c') bs F ∧ (∀ b, F b → w.heap.size ≤ b) ∧ Below w.heap.size w w'

set_option maxHeartbeats 4000000 in
set_option maxRecDepth 100000 in
theorem copy_calls (nm : ByteArray) (kp lf : Bool) (A : Option Addr) (c : Nat) (bs : List Block) (w : World) (hC : kBlock.C w A bs) (hl : bs.length ≤ maxLen) (hf : blocksFew bs = true) : Calls Try.prog 28 #[.agg #[.string nm, .bool kp, .bool lf, .slice A bs.length c]] w fun e w' =>
    CopiedG nm kp lf bs w e w' := by
  unfold maxLen at hl
  obtain ⟨h200, h300⟩ := blocksFew_parts hf
  have H3 := Lib.hid h300
  clear h300 hf
  go_enter Try.func28, Try.ntmps28
  go_upto_region 3 with fail
  have hall : ∃ W : World, W = ((w.alloc (.cells #[.string nm, .bool kp, .bool lf, .slice A bs.length c] 24)).alloc (.cells #[.string ⟨#[]⟩, .bool false, .bool false, .slice none 0 0] 24)).alloc (.cells #[.string nm, .bool kp, .bool lf, .slice none 0 0] 24) ∧ Below w.heap.size w W ∧ W.heap.size = w.heap.size + 1 + 1 + 1 ∧ W.cell? ⟨w.heap.size, 3, none⟩ = some (.slice A bs.length c) ∧ W.heap[w.heap.size + 1]? = some (.cells #[.string ⟨#[]⟩, .bool false, .bool false, .slice none 0 0] 24 (0, 0)) ∧ W.heap[w.heap.size + 1 + 1]? = some (.cells #[.string nm, .bool kp, .bool lf, .slice none 0 0] 24 (0, 0)) := by
    have e1 : (w.alloc (.cells #[.string nm, .bool kp, .bool lf, .slice A bs.length c] 24)).heap.size = w.heap.size + 1 := by simp
    have b1 := below_alloc' w (.cells #[.string nm, .bool kp, .bool lf, .slice A bs.length c] 24)
    have c1 : (w.alloc (.cells #[.string nm, .bool kp, .bool lf, .slice A bs.length c] 24)).cell? ⟨w.heap.size, 3, none⟩ = some (.slice A bs.length c) := by simp
    generalize w.alloc (.cells #[.string nm, .bool kp, .bool lf, .slice A bs.length c] 24) = W1 at *
    have e2 : (W1.alloc (.cells #[.string ⟨#[]⟩, .bool false, .bool false, .slice none 0 0] 24)).heap.size = w.heap.size + 1 + 1 := by simp [e1]
    have b2 := below_alloc' W1 (.cells #[.string ⟨#[]⟩, .bool false, .bool false, .slice none 0 0] 24)
    have h2 : (W1.alloc (.cells #[.string ⟨#[]⟩, .bool false, .bool false, .slice none 0 0] 24)).heap[w.heap.size + 1]? = some (.cells #[.string ⟨#[]⟩, .bool false, .bool false, .slice none 0 0] 24 (0, 0)) := by
      rw [← e1]; exact heap_alloc_new W1 _
    generalize W1.alloc (.cells #[.string ⟨#[]⟩, .bool false, .bool false, .slice none 0 0] 24) = W2 at *
    have b3 := below_alloc' W2 (.cells #[.string nm, .bool kp, .bool lf, .slice none 0 0] 24)
    have h3 : (W2.alloc (.cells #[.string nm, .bool kp, .bool lf, .slice none 0 0] 24)).heap[w.heap.size + 1 + 1]? = some (.cells #[.string nm, .bool kp, .bool lf, .slice none 0 0] 24 (0, 0)) := by
      rw [← e2]; exact heap_alloc_new W2 _
    exact ⟨_, rfl, b1.trans ((b2.trans (b3.mono b2.size)).mono b1.size), by simp [e2], (Sub.of_below b3) _ _ ((Sub.of_below b2) _ _ c1), by rw [b3.block _ (by omega)]; exact h2, h3⟩
  obtain ⟨W, hW, hbW, hB, q1, q2, q3⟩ := hall
  rw [← hW]
  have HBs := Lib.hid hB
  have HQ2 := Lib.hid q2
  clear hW q2 hB
  go_wp2_with fail
  go_loopw [4] (fun i wr => ∃ (k : Nat) (v : Value) (F : Nat → Prop), k ≤ bs.length ∧ i = .int .i64 k ∧ OwnF oBlock 46 wr v (bs.take k) F ∧ (∀ b, F b → W.heap.size ≤ b) ∧ wr.heap[w.heap.size + 1 + 1]? = some (.cells #[.string nm, .bool kp, .bool lf, v] 24 (0, 0)) ∧ W.grownBy wr (some (w.heap.size + 1 + 1))) (fun i _ => bs.length - (intOf i).toNat)
  case atStart => exact ⟨0, _, _, Nat.zero_le _, rfl, OwnF.nil _ _ _, fun _ h => h.elim, q3, grown_refl _ _⟩
  case round =>
    obtain ⟨k, v, F, hk, rfl, ho, hF, hh3, hgr⟩ := hrel
    have hz := HBs.out
    have r1 := hgr.cell q1 (by simp; omega)
    by_cases hlt : k < bs.length
    · obtain ⟨b, hb⟩ := get_some bs k hlt
      have htk := take_snoc hb
      have h300 := H3.out b (List.mem_of_getElem? hb)
      obtain ⟨ad, A0, c0, rfl, f0, f1, f2, f3, f4, f5, f6, f7, f8, f9, f10, f11, hwf, l0, m0, g0⟩ := Block_at hC hb
      have hl0 := len_le l0 m0
      have hsub : Sub w wr := fun a u hu => hgr.cell ((Sub.of_below hbW) a u hu) (by have := World.lt_of_cell hu; simp; omega)
      have F3 : SC wr w.heap.size (some ad) bs.length c (ad.add (k * 12)) A0 c0 b := ⟨r1, hsub _ _ f0, hsub _ _ f1, hsub _ _ f2, hsub _ _ f3, hsub _ _ f4, hsub _ _ f5, hsub _ _ f6, hsub _ _ f7, hsub _ _ f8, hsub _ _ f9, hsub _ _ f10, hsub _ _ f11⟩
      have G0 := Kd.C_sub hsub g0
      have HT := Lib.hid htk
      have hwB : W.heap.size ≤ wr.heap.size := hgr.size
      have hlo : (bs.take k).length ≤ 200 := Nat.le_trans (by simp [List.length_take]; omega) h200
      have q33 : wr.cell? ⟨w.heap.size + 1 + 1, 3, none⟩ = some v := by
        have := cell_of_row wr (w.heap.size + 1 + 1) 3 _ _ _ hh3
        simpa using this
      have hadlt : (ad.add (k * 12)).block < w.heap.size := World.lt_of_cell f0
      have hv3 : w.heap.size + 1 + 1 < wr.heap.size := (Array.getElem?_eq_some_iff.1 hh3).1
      clear f0 f1 f2 f3 f4 f5 f6 f7 f8 f9 f10 f11 hb htk g0
      go_wp2_with fail
      -- REGION
      refine wp_region_held_drew (S := (fun w' => SC w' w.heap.size (some ad) bs.length c (ad.add (k * 12)) A0 c0 b)) (by kernel_rfl) (F3) (fun hHeld => ?_)
      refine wpAnyH_take (i := 0) (oi := _) (v := ?v6_1) rfl (by kernel_rfl) (by kernel_rfl) (by kernel_rfl) (fun _ _ _ h => h) (Or.inl ⟨by rfl, ?hy6_1⟩) hHeld ?_
      case hy6_1 => (intro wS hSw; (try dsimp only at hSw); obtain ⟨s0, s1, s2, s3, s4, s5, s6, s7, s8, s9, s10, s11, s12⟩ := hSw; go_simp; try with_reducible rfl)
      try simp only [List.getElem_toArray, List.getElem_cons_succ, List.getElem_cons_zero, Act.put, List.setIfInBounds_toArray, List.set_cons_zero, List.set_cons_succ]
      refine wpAnyH_take (i := 3) (oi := _) (v := ?v6_2) rfl (by kernel_rfl) (by kernel_rfl) (by kernel_rfl) (fun _ _ _ h => h) (Or.inl ⟨by rfl, ?hy6_2⟩) hHeld ?_
      case hy6_2 => (intro wS hSw; (try dsimp only at hSw); obtain ⟨s0, s1, s2, s3, s4, s5, s6, s7, s8, s9, s10, s11, s12⟩ := hSw; go_simp; try with_reducible rfl)
      try simp only [List.getElem_toArray, List.getElem_cons_succ, List.getElem_cons_zero, Act.put, List.setIfInBounds_toArray, List.set_cons_zero, List.set_cons_succ]
      refine wpAnyH_take (i := 4) (oi := _) (v := ?v6_3) rfl (by kernel_rfl) (by kernel_rfl) (by kernel_rfl) (fun _ _ _ h => h) (Or.inl ⟨by rfl, ?hy6_3⟩) hHeld ?_
      case hy6_3 => (intro wS hSw; (try dsimp only at hSw); obtain ⟨s0, s1, s2, s3, s4, s5, s6, s7, s8, s9, s10, s11, s12⟩ := hSw; go_simp; try with_reducible rfl)
      try simp only [List.getElem_toArray, List.getElem_cons_succ, List.getElem_cons_zero, Act.put, List.setIfInBounds_toArray, List.set_cons_zero, List.set_cons_succ]
      refine wpAnyH_take (i := 5) (oi := _) (v := ?v6_4) rfl (by kernel_rfl) (by kernel_rfl) (by kernel_rfl) (fun _ _ _ h => h) (Or.inl ⟨by rfl, ?hy6_4⟩) hHeld ?_
      case hy6_4 => (intro wS hSw; (try dsimp only at hSw); obtain ⟨s0, s1, s2, s3, s4, s5, s6, s7, s8, s9, s10, s11, s12⟩ := hSw; go_simp; try with_reducible rfl)
      try simp only [List.getElem_toArray, List.getElem_cons_succ, List.getElem_cons_zero, Act.put, List.setIfInBounds_toArray, List.set_cons_zero, List.set_cons_succ]
      refine wpAnyH_take (i := 6) (oi := _) (v := ?v6_5) rfl (by kernel_rfl) (by kernel_rfl) (by kernel_rfl) (fun _ _ _ h => h) (Or.inl ⟨by rfl, ?hy6_5⟩) hHeld ?_
      case hy6_5 => (intro wS hSw; (try dsimp only at hSw); obtain ⟨s0, s1, s2, s3, s4, s5, s6, s7, s8, s9, s10, s11, s12⟩ := hSw; go_simp; try with_reducible rfl)
      try simp only [List.getElem_toArray, List.getElem_cons_succ, List.getElem_cons_zero, Act.put, List.setIfInBounds_toArray, List.set_cons_zero, List.set_cons_succ]
      refine wpAnyH_take (i := 7) (oi := _) (v := ?v6_6) rfl (by kernel_rfl) (by kernel_rfl) (by kernel_rfl) (fun _ _ _ h => h) (Or.inl ⟨by rfl, ?hy6_6⟩) hHeld ?_
      case hy6_6 => (intro wS hSw; (try dsimp only at hSw); obtain ⟨s0, s1, s2, s3, s4, s5, s6, s7, s8, s9, s10, s11, s12⟩ := hSw; go_simp; try with_reducible rfl)
      try simp only [List.getElem_toArray, List.getElem_cons_succ, List.getElem_cons_zero, Act.put, List.setIfInBounds_toArray, List.set_cons_zero, List.set_cons_succ]
      refine wpAnyH_take (i := 8) (oi := _) (v := ?v6_7) rfl (by kernel_rfl) (by kernel_rfl) (by kernel_rfl) (fun _ _ _ h => h) (Or.inl ⟨by rfl, ?hy6_7⟩) hHeld ?_
      case hy6_7 => (intro wS hSw; (try dsimp only at hSw); obtain ⟨s0, s1, s2, s3, s4, s5, s6, s7, s8, s9, s10, s11, s12⟩ := hSw; go_simp; try with_reducible rfl)
      try simp only [List.getElem_toArray, List.getElem_cons_succ, List.getElem_cons_zero, Act.put, List.setIfInBounds_toArray, List.set_cons_zero, List.set_cons_succ]
      refine wpAnyH_take (i := 10) (oi := _) (v := ?v6_8) rfl (by kernel_rfl) (by kernel_rfl) (by kernel_rfl) (fun _ _ _ h => h) (Or.inl ⟨by rfl, ?hy6_8⟩) hHeld ?_
      case hy6_8 => (intro wS hSw; (try dsimp only at hSw); obtain ⟨s0, s1, s2, s3, s4, s5, s6, s7, s8, s9, s10, s11, s12⟩ := hSw; go_simp; try with_reducible rfl)
      try simp only [List.getElem_toArray, List.getElem_cons_succ, List.getElem_cons_zero, Act.put, List.setIfInBounds_toArray, List.set_cons_zero, List.set_cons_succ]
      refine wpAnyH_take (i := 11) (oi := _) (v := ?v6_9) rfl (by kernel_rfl) (by kernel_rfl) (by kernel_rfl) (fun _ _ _ h => h) (Or.inl ⟨by rfl, ?hy6_9⟩) hHeld ?_
      case hy6_9 => (intro wS hSw; (try dsimp only at hSw); obtain ⟨s0, s1, s2, s3, s4, s5, s6, s7, s8, s9, s10, s11, s12⟩ := hSw; go_simp; try with_reducible rfl)
      try simp only [List.getElem_toArray, List.getElem_cons_succ, List.getElem_cons_zero, Act.put, List.setIfInBounds_toArray, List.set_cons_zero, List.set_cons_succ]
      refine wpAnyH_take (i := 12) (oi := _) (v := ?v6_10) rfl (by kernel_rfl) (by kernel_rfl) (by kernel_rfl) (fun _ _ _ h => h) (Or.inl ⟨by rfl, ?hy6_10⟩) hHeld ?_
      case hy6_10 => (intro wS hSw; (try dsimp only at hSw); obtain ⟨s0, s1, s2, s3, s4, s5, s6, s7, s8, s9, s10, s11, s12⟩ := hSw; go_simp; try with_reducible rfl)
      try simp only [List.getElem_toArray, List.getElem_cons_succ, List.getElem_cons_zero, Act.put, List.setIfInBounds_toArray, List.set_cons_zero, List.set_cons_succ]
      refine wpAnyH_take (i := 13) (oi := _) (v := ?v6_11) rfl (by kernel_rfl) (by kernel_rfl) (by kernel_rfl) (fun _ _ _ h => h) (Or.inl ⟨by rfl, ?hy6_11⟩) hHeld ?_
      case hy6_11 => (intro wS hSw; (try dsimp only at hSw); obtain ⟨s0, s1, s2, s3, s4, s5, s6, s7, s8, s9, s10, s11, s12⟩ := hSw; go_simp; try with_reducible rfl)
      try simp only [List.getElem_toArray, List.getElem_cons_succ, List.getElem_cons_zero, Act.put, List.setIfInBounds_toArray, List.set_cons_zero, List.set_cons_succ]
      refine wpAnyH_take (i := 14) (oi := _) (v := ?v6_12) rfl (by kernel_rfl) (by kernel_rfl) (by kernel_rfl) (fun _ _ _ h => h) (Or.inl ⟨by rfl, ?hy6_12⟩) hHeld ?_
      case hy6_12 => (intro wS hSw; (try dsimp only at hSw); obtain ⟨s0, s1, s2, s3, s4, s5, s6, s7, s8, s9, s10, s11, s12⟩ := hSw; go_simp; try with_reducible rfl)
      try simp only [List.getElem_toArray, List.getElem_cons_succ, List.getElem_cons_zero, Act.put, List.setIfInBounds_toArray, List.set_cons_zero, List.set_cons_succ]
      refine wpAnyH_take (i := 15) (oi := _) (v := ?v6_13) rfl (by kernel_rfl) (by kernel_rfl) (by kernel_rfl) (fun _ _ _ h => h) (Or.inl ⟨by rfl, ?hy6_13⟩) hHeld ?_
      case hy6_13 => (intro wS hSw; (try dsimp only at hSw); obtain ⟨s0, s1, s2, s3, s4, s5, s6, s7, s8, s9, s10, s11, s12⟩ := hSw; go_simp; try with_reducible rfl)
      try simp only [List.getElem_toArray, List.getElem_cons_succ, List.getElem_cons_zero, Act.put, List.setIfInBounds_toArray, List.set_cons_zero, List.set_cons_succ]
      refine wpAnyH_ready (rs := [1, 2]) (by kernel_rfl) (by simp) ?_
      refine (AllReadyH.cons (o := _) rfl (fun K hK => ?_) (AllReadyH.cons (o := _) rfl (fun K hK => ?_) AllReadyH.nil))
      · go_simp
        refine hK.out _ _ (hHeld) (fun hHeld14 => ?_)
        clear hK K hHeld
        try simp only [List.getElem_toArray, List.getElem_cons_succ, List.getElem_cons_zero, Act.put, List.setIfInBounds_toArray, List.set_cons_zero, List.set_cons_succ]
        refine wpAnyH_ready (rs := [2]) (by kernel_rfl) (by simp) ?_
        refine (AllReadyH.cons (o := _) rfl (fun K hK => ?_) AllReadyH.nil)
        go_simp
        have b2 : Below wr.heap.size wr (wr.drew.alloc (.cells #[] 66)) := (Below.refl _ _).drew.trans (below_alloc' wr.drew _)
        have q33_2 := (Sub.of_below b2) _ _ q33
        have F2 := F3.sub (Sub.of_below b2)
        have G2 := Kd.C_mono b2 G0
        refine hK.out _ _ (F2) (fun hHeld15 => ?_)
        clear hK K hHeld14
        try simp only [List.getElem_toArray, List.getElem_cons_succ, List.getElem_cons_zero, Act.put, List.setIfInBounds_toArray, List.set_cons_zero, List.set_cons_succ]
        refine wpAnyH_ready (rs := [9]) (by kernel_rfl) (by simp) ?_
        refine (AllReadyH.cons (o := _) rfl (fun K hK => ?_) AllReadyH.nil)
        refine step_append_f (k := oOp) elOp rfl _ _ rfl (OwnF.empty oOp 66 wr.drew) (YF.flat G2) (fun _ _ h => h) rfl rfl (by simp; omega) ?_
        intro v9 w9 hg9
        obtain ⟨⟨F9, own9, hF9⟩, hgr9⟩ := hg9
        rw [List.nil_append] at own9
        have t9 : Below wr.heap.size wr w9 := b2.grown hgr9 b2.size (fun j hj => by (injection hj with hj; subst hj; exact Nat.le_refl _))
        have hF9' : ∀ b, F9 b → wr.heap.size ≤ b := fun b hb => by (rcases hF9 b hb with h | h | h; exact Nat.le_of_eq h.symm; exact h.elim; exact Nat.le_trans b2.size h)
        obtain ⟨A9, c9, rfl, l9, m9, hC9⟩ := own9.read
        have q33_9 := (Sub.of_below t9) _ _ q33
        have Fc9 := F3.sub (Sub.of_below t9)
        have ho9 := ho.below t9
        have hl9 := len_le l9 m9
        refine hK.out _ _ (Fc9) (fun hHeld16 => ?_)
        clear hK K hHeld15
        try simp only [List.getElem_toArray, List.getElem_cons_succ, List.getElem_cons_zero, Act.put, List.setIfInBounds_toArray, List.set_cons_zero, List.set_cons_succ]
        refine wpAnyH_take (i := 16) (oi := _) (v := ?v6_17) rfl (by kernel_rfl) (by kernel_rfl) (by kernel_rfl) (fun _ _ _ h => h) (Or.inl ⟨by rfl, ?hy6_17⟩) hHeld16 ?_
        case hy6_17 => (intro wS hSw; (try dsimp only at hSw); obtain ⟨s0, s1, s2, s3, s4, s5, s6, s7, s8, s9, s10, s11, s12⟩ := hSw; go_simp; try with_reducible rfl)
        try simp only [List.getElem_toArray, List.getElem_cons_succ, List.getElem_cons_zero, Act.put, List.setIfInBounds_toArray, List.set_cons_zero, List.set_cons_succ]
        refine wpAnyH_ready (rs := [17]) (by kernel_rfl) (by simp) ?_
        refine (AllReadyH.cons (o := _) rfl (fun K hK => ?_) AllReadyH.nil)
        go_simp
        have b17 := below_alloc' w9 (.cells #[.slice A9 b.ops.length c9, .int .i64 b.fin.kind, .int .i64 b.fin.op, .int .i64 b.fin.a, .int .i64 b.fin.b, .int .i64 b.fin.to, .int .i64 b.fin.els, .int .i64 b.fin.ins.op, .int .i64 b.fin.ins.a, .int .i64 b.fin.ins.b, .int .i64 b.fin.ins.c, .int .i64 b.fin.ins.imm] 46)
        have q33_17 := (Sub.of_below b17) _ _ q33_9
        have F17 := Fc9.sub (Sub.of_below b17)
        have hY : YF oBlock (w9.alloc (.cells #[.slice A9 b.ops.length c9, .int .i64 b.fin.kind, .int .i64 b.fin.op, .int .i64 b.fin.a, .int .i64 b.fin.b, .int .i64 b.fin.to, .int .i64 b.fin.els, .int .i64 b.fin.ins.op, .int .i64 b.fin.ins.a, .int .i64 b.fin.ins.b, .int .i64 b.fin.ins.c, .int .i64 b.fin.ins.imm] 46)) (some ⟨w9.heap.size, 0, none⟩) [b] F9 := YF.one rfl ⟨_, rfl, hwf, own9⟩
        refine hK.out _ _ (F17) (fun hHeld18 => ?_)
        clear hK K hHeld16
        try simp only [List.getElem_toArray, List.getElem_cons_succ, List.getElem_cons_zero, Act.put, List.setIfInBounds_toArray, List.set_cons_zero, List.set_cons_succ]
        refine wpAnyH_ready (rs := [18]) (by kernel_rfl) (by simp) ?_
        refine (AllReadyH.cons (o := _) rfl (fun K hK => ?_) AllReadyH.nil)
        refine step_append_f (k := oBlock) elBlock rfl _ _ rfl (ys := [b]) (ho9.below b17) hY (fun b hb h9 => by (have := ho.lt b hb; have := hF9' b h9; omega)) rfl rfl (by simp; omega) ?_
        intro v18 w18 hg18
        obtain ⟨⟨F18, own18, hF18⟩, hgr18⟩ := hg18
        rw [← HT.out] at own18
        have t18 : Below W.heap.size wr w18 := ((t9.mono hwB).trans (b17.mono (Nat.le_trans hwB t9.size))).grown hgr18 (Nat.le_trans hwB (Nat.le_trans t9.size b17.size)) (fun j hj => hF j (ho.row hj))
        have hF18' : ∀ b, F18 b → W.heap.size ≤ b := fun b hb => by (rcases hF18 b hb with h | h | h; exact hF b h; exact Nat.le_trans hwB (hF9' b h); exact Nat.le_trans hwB (Nat.le_trans t9.size (Nat.le_trans b17.size h)))
        obtain ⟨A18, d18, rfl, l18, m18, hC18⟩ := own18.read
        rw [show (bs.take (k + 1)).length = k + 1 from by simp; omega] at own18 l18 ⊢
        have hh18 : w18.heap[w.heap.size + 1 + 1]? = some (.cells #[.string nm, .bool kp, .bool lf, v] 24 (0, 0)) := (t18.block _ (by omega)).trans hh3
        have c18 : w18.cell? ⟨w.heap.size + 1 + 1, 3, none⟩ = some v := by (have := cell_of_row w18 (w.heap.size + 1 + 1) 3 _ _ _ hh18; simpa using this)
        have z18 := frozen_of_row w18 (w.heap.size + 1 + 1) 3 _ _ hh18
        have Fc18 := SC.turn (t18.block _ (by omega)) (t18.block _ (by omega)) F3
        refine hK.out _ _ (Fc18) (fun hHeld19 => ?_)
        clear hK K hHeld18
        try simp only [List.getElem_toArray, List.getElem_cons_succ, List.getElem_cons_zero, Act.put, List.setIfInBounds_toArray, List.set_cons_zero, List.set_cons_succ]
        refine wpAnyH_take (i := 19) (oi := _) (v := ?v6_20) rfl (by kernel_rfl) (by kernel_rfl) (by kernel_rfl) (fun _ _ _ h => h) (Or.inl ⟨by rfl, ?hy6_20⟩) hHeld19 ?_
        case hy6_20 => (intro wS hSw; (try dsimp only at hSw); obtain ⟨s0, s1, s2, s3, s4, s5, s6, s7, s8, s9, s10, s11, s12⟩ := hSw; go_simp; try with_reducible rfl)
        try simp only [List.getElem_toArray, List.getElem_cons_succ, List.getElem_cons_zero, Act.put, List.setIfInBounds_toArray, List.set_cons_zero, List.set_cons_succ]
        refine wpAnyH_ready (rs := [20]) (by kernel_rfl) (by simp) ?_
        refine (AllReadyH.cons (o := _) rfl (fun K hK => ?_) AllReadyH.nil)
        go_simp
        have g20 := grown_set w18 (w.heap.size + 1 + 1) 3 (.slice A18 (k + 1) d18)
        have h20 := heap_setCell_same w18 (w.heap.size + 1 + 1) 3 _ _ (.slice A18 (k + 1) d18) hh18
        have Fc20 := SC.turn (heap_setCell_other w18 ⟨w.heap.size + 1 + 1, 3, none⟩ w.heap.size (.slice A18 (k + 1) d18) (by simp; omega)) (heap_setCell_other w18 ⟨w.heap.size + 1 + 1, 3, none⟩ (ad.add (k * 12)).block (.slice A18 (k + 1) d18) (by simp; omega)) Fc18
        refine hK.out _ _ (Fc20) (fun hHeld21 => ?_)
        clear hK K hHeld19
        try simp only [List.getElem_toArray, List.getElem_cons_succ, List.getElem_cons_zero, Act.put, List.setIfInBounds_toArray, List.set_cons_zero, List.set_cons_succ]
        refine wpAnyH_done (by kernel_rfl) ?_ _
        go_wp2_with fail
        exact ⟨⟨k + 1, _, F18, by omega, by go_num, own18.grown g20 (fun b hb e => by injection e with e; have := hF18' b hb; omega), hF18', by simpa using h20, ⟨g20.os.trans (t18.os.trans hgr.os), g20.tape.trans (t18.tape.trans hgr.tape), g20.output.trans (t18.output.trans hgr.output), Nat.le_trans hgr.size (Nat.le_trans t18.size g20.size), fun j hj hn => (g20.block j (Nat.lt_of_lt_of_le hj (Nat.le_trans hwB t18.size)) hn).trans ((t18.block j hj).trans (hgr.block j hj hn))⟩⟩, by simp [intOf]; omega⟩
      · go_simp
        have b2 : Below wr.heap.size wr (wr.drew.alloc (.cells #[] 66)) := (Below.refl _ _).drew.trans (below_alloc' wr.drew _)
        have q33_2 := (Sub.of_below b2) _ _ q33
        have F2 := F3.sub (Sub.of_below b2)
        have G2 := Kd.C_mono b2 G0
        refine hK.out _ _ (F2) (fun hHeld22 => ?_)
        clear hK K hHeld
        try simp only [List.getElem_toArray, List.getElem_cons_succ, List.getElem_cons_zero, Act.put, List.setIfInBounds_toArray, List.set_cons_zero, List.set_cons_succ]
        refine wpAnyH_ready (rs := [1, 9]) (by kernel_rfl) (by simp) ?_
        refine (AllReadyH.cons (o := _) rfl (fun K hK => ?_) (AllReadyH.cons (o := _) rfl (fun K hK => ?_) AllReadyH.nil))
        · go_simp
          refine hK.out _ _ (hHeld22) (fun hHeld23 => ?_)
          clear hK K hHeld22
          try simp only [List.getElem_toArray, List.getElem_cons_succ, List.getElem_cons_zero, Act.put, List.setIfInBounds_toArray, List.set_cons_zero, List.set_cons_succ]
          refine wpAnyH_ready (rs := [9]) (by kernel_rfl) (by simp) ?_
          refine (AllReadyH.cons (o := _) rfl (fun K hK => ?_) AllReadyH.nil)
          refine step_append_f (k := oOp) elOp rfl _ _ rfl (OwnF.empty oOp 66 wr.drew) (YF.flat G2) (fun _ _ h => h) rfl rfl (by simp; omega) ?_
          intro v9 w9 hg9
          obtain ⟨⟨F9, own9, hF9⟩, hgr9⟩ := hg9
          rw [List.nil_append] at own9
          have t9 : Below wr.heap.size wr w9 := b2.grown hgr9 b2.size (fun j hj => by (injection hj with hj; subst hj; exact Nat.le_refl _))
          have hF9' : ∀ b, F9 b → wr.heap.size ≤ b := fun b hb => by (rcases hF9 b hb with h | h | h; exact Nat.le_of_eq h.symm; exact h.elim; exact Nat.le_trans b2.size h)
          obtain ⟨A9, c9, rfl, l9, m9, hC9⟩ := own9.read
          have q33_9 := (Sub.of_below t9) _ _ q33
          have Fc9 := F3.sub (Sub.of_below t9)
          have ho9 := ho.below t9
          have hl9 := len_le l9 m9
          refine hK.out _ _ (Fc9) (fun hHeld24 => ?_)
          clear hK K hHeld23
          try simp only [List.getElem_toArray, List.getElem_cons_succ, List.getElem_cons_zero, Act.put, List.setIfInBounds_toArray, List.set_cons_zero, List.set_cons_succ]
          refine wpAnyH_take (i := 16) (oi := _) (v := ?v6_25) rfl (by kernel_rfl) (by kernel_rfl) (by kernel_rfl) (fun _ _ _ h => h) (Or.inl ⟨by rfl, ?hy6_25⟩) hHeld24 ?_
          case hy6_25 => (intro wS hSw; (try dsimp only at hSw); obtain ⟨s0, s1, s2, s3, s4, s5, s6, s7, s8, s9, s10, s11, s12⟩ := hSw; go_simp; try with_reducible rfl)
          try simp only [List.getElem_toArray, List.getElem_cons_succ, List.getElem_cons_zero, Act.put, List.setIfInBounds_toArray, List.set_cons_zero, List.set_cons_succ]
          refine wpAnyH_ready (rs := [17]) (by kernel_rfl) (by simp) ?_
          refine (AllReadyH.cons (o := _) rfl (fun K hK => ?_) AllReadyH.nil)
          go_simp
          have b17 := below_alloc' w9 (.cells #[.slice A9 b.ops.length c9, .int .i64 b.fin.kind, .int .i64 b.fin.op, .int .i64 b.fin.a, .int .i64 b.fin.b, .int .i64 b.fin.to, .int .i64 b.fin.els, .int .i64 b.fin.ins.op, .int .i64 b.fin.ins.a, .int .i64 b.fin.ins.b, .int .i64 b.fin.ins.c, .int .i64 b.fin.ins.imm] 46)
          have q33_17 := (Sub.of_below b17) _ _ q33_9
          have F17 := Fc9.sub (Sub.of_below b17)
          have hY : YF oBlock (w9.alloc (.cells #[.slice A9 b.ops.length c9, .int .i64 b.fin.kind, .int .i64 b.fin.op, .int .i64 b.fin.a, .int .i64 b.fin.b, .int .i64 b.fin.to, .int .i64 b.fin.els, .int .i64 b.fin.ins.op, .int .i64 b.fin.ins.a, .int .i64 b.fin.ins.b, .int .i64 b.fin.ins.c, .int .i64 b.fin.ins.imm] 46)) (some ⟨w9.heap.size, 0, none⟩) [b] F9 := YF.one rfl ⟨_, rfl, hwf, own9⟩
          refine hK.out _ _ (F17) (fun hHeld26 => ?_)
          clear hK K hHeld24
          try simp only [List.getElem_toArray, List.getElem_cons_succ, List.getElem_cons_zero, Act.put, List.setIfInBounds_toArray, List.set_cons_zero, List.set_cons_succ]
          refine wpAnyH_ready (rs := [18]) (by kernel_rfl) (by simp) ?_
          refine (AllReadyH.cons (o := _) rfl (fun K hK => ?_) AllReadyH.nil)
          refine step_append_f (k := oBlock) elBlock rfl _ _ rfl (ys := [b]) (ho9.below b17) hY (fun b hb h9 => by (have := ho.lt b hb; have := hF9' b h9; omega)) rfl rfl (by simp; omega) ?_
          intro v18 w18 hg18
          obtain ⟨⟨F18, own18, hF18⟩, hgr18⟩ := hg18
          rw [← HT.out] at own18
          have t18 : Below W.heap.size wr w18 := ((t9.mono hwB).trans (b17.mono (Nat.le_trans hwB t9.size))).grown hgr18 (Nat.le_trans hwB (Nat.le_trans t9.size b17.size)) (fun j hj => hF j (ho.row hj))
          have hF18' : ∀ b, F18 b → W.heap.size ≤ b := fun b hb => by (rcases hF18 b hb with h | h | h; exact hF b h; exact Nat.le_trans hwB (hF9' b h); exact Nat.le_trans hwB (Nat.le_trans t9.size (Nat.le_trans b17.size h)))
          obtain ⟨A18, d18, rfl, l18, m18, hC18⟩ := own18.read
          rw [show (bs.take (k + 1)).length = k + 1 from by simp; omega] at own18 l18 ⊢
          have hh18 : w18.heap[w.heap.size + 1 + 1]? = some (.cells #[.string nm, .bool kp, .bool lf, v] 24 (0, 0)) := (t18.block _ (by omega)).trans hh3
          have c18 : w18.cell? ⟨w.heap.size + 1 + 1, 3, none⟩ = some v := by (have := cell_of_row w18 (w.heap.size + 1 + 1) 3 _ _ _ hh18; simpa using this)
          have z18 := frozen_of_row w18 (w.heap.size + 1 + 1) 3 _ _ hh18
          have Fc18 := SC.turn (t18.block _ (by omega)) (t18.block _ (by omega)) F3
          refine hK.out _ _ (Fc18) (fun hHeld27 => ?_)
          clear hK K hHeld26
          try simp only [List.getElem_toArray, List.getElem_cons_succ, List.getElem_cons_zero, Act.put, List.setIfInBounds_toArray, List.set_cons_zero, List.set_cons_succ]
          refine wpAnyH_take (i := 19) (oi := _) (v := ?v6_28) rfl (by kernel_rfl) (by kernel_rfl) (by kernel_rfl) (fun _ _ _ h => h) (Or.inl ⟨by rfl, ?hy6_28⟩) hHeld27 ?_
          case hy6_28 => (intro wS hSw; (try dsimp only at hSw); obtain ⟨s0, s1, s2, s3, s4, s5, s6, s7, s8, s9, s10, s11, s12⟩ := hSw; go_simp; try with_reducible rfl)
          try simp only [List.getElem_toArray, List.getElem_cons_succ, List.getElem_cons_zero, Act.put, List.setIfInBounds_toArray, List.set_cons_zero, List.set_cons_succ]
          refine wpAnyH_ready (rs := [20]) (by kernel_rfl) (by simp) ?_
          refine (AllReadyH.cons (o := _) rfl (fun K hK => ?_) AllReadyH.nil)
          go_simp
          have g20 := grown_set w18 (w.heap.size + 1 + 1) 3 (.slice A18 (k + 1) d18)
          have h20 := heap_setCell_same w18 (w.heap.size + 1 + 1) 3 _ _ (.slice A18 (k + 1) d18) hh18
          have Fc20 := SC.turn (heap_setCell_other w18 ⟨w.heap.size + 1 + 1, 3, none⟩ w.heap.size (.slice A18 (k + 1) d18) (by simp; omega)) (heap_setCell_other w18 ⟨w.heap.size + 1 + 1, 3, none⟩ (ad.add (k * 12)).block (.slice A18 (k + 1) d18) (by simp; omega)) Fc18
          refine hK.out _ _ (Fc20) (fun hHeld29 => ?_)
          clear hK K hHeld27
          try simp only [List.getElem_toArray, List.getElem_cons_succ, List.getElem_cons_zero, Act.put, List.setIfInBounds_toArray, List.set_cons_zero, List.set_cons_succ]
          refine wpAnyH_done (by kernel_rfl) ?_ _
          go_wp2_with fail
          exact ⟨⟨k + 1, _, F18, by omega, by go_num, own18.grown g20 (fun b hb e => by injection e with e; have := hF18' b hb; omega), hF18', by simpa using h20, ⟨g20.os.trans (t18.os.trans hgr.os), g20.tape.trans (t18.tape.trans hgr.tape), g20.output.trans (t18.output.trans hgr.output), Nat.le_trans hgr.size (Nat.le_trans t18.size g20.size), fun j hj hn => (g20.block j (Nat.lt_of_lt_of_le hj (Nat.le_trans hwB t18.size)) hn).trans ((t18.block j hj).trans (hgr.block j hj hn))⟩⟩, by simp [intOf]; omega⟩
        · refine step_append_f (k := oOp) elOp rfl _ _ rfl (OwnF.empty oOp 66 wr.drew) (YF.flat G2) (fun _ _ h => h) rfl rfl (by simp; omega) ?_
          intro v9 w9 hg9
          obtain ⟨⟨F9, own9, hF9⟩, hgr9⟩ := hg9
          rw [List.nil_append] at own9
          have t9 : Below wr.heap.size wr w9 := b2.grown hgr9 b2.size (fun j hj => by (injection hj with hj; subst hj; exact Nat.le_refl _))
          have hF9' : ∀ b, F9 b → wr.heap.size ≤ b := fun b hb => by (rcases hF9 b hb with h | h | h; exact Nat.le_of_eq h.symm; exact h.elim; exact Nat.le_trans b2.size h)
          obtain ⟨A9, c9, rfl, l9, m9, hC9⟩ := own9.read
          have q33_9 := (Sub.of_below t9) _ _ q33
          have Fc9 := F3.sub (Sub.of_below t9)
          have ho9 := ho.below t9
          have hl9 := len_le l9 m9
          refine hK.out _ _ (Fc9) (fun hHeld30 => ?_)
          clear hK K hHeld22
          try simp only [List.getElem_toArray, List.getElem_cons_succ, List.getElem_cons_zero, Act.put, List.setIfInBounds_toArray, List.set_cons_zero, List.set_cons_succ]
          refine wpAnyH_take (i := 16) (oi := _) (v := ?v6_31) rfl (by kernel_rfl) (by kernel_rfl) (by kernel_rfl) (fun _ _ _ h => h) (Or.inl ⟨by rfl, ?hy6_31⟩) hHeld30 ?_
          case hy6_31 => (intro wS hSw; (try dsimp only at hSw); obtain ⟨s0, s1, s2, s3, s4, s5, s6, s7, s8, s9, s10, s11, s12⟩ := hSw; go_simp; try with_reducible rfl)
          try simp only [List.getElem_toArray, List.getElem_cons_succ, List.getElem_cons_zero, Act.put, List.setIfInBounds_toArray, List.set_cons_zero, List.set_cons_succ]
          refine wpAnyH_ready (rs := [1, 17]) (by kernel_rfl) (by simp) ?_
          refine (AllReadyH.cons (o := _) rfl (fun K hK => ?_) (AllReadyH.cons (o := _) rfl (fun K hK => ?_) AllReadyH.nil))
          · go_simp
            refine hK.out _ _ (hHeld30) (fun hHeld32 => ?_)
            clear hK K hHeld30
            try simp only [List.getElem_toArray, List.getElem_cons_succ, List.getElem_cons_zero, Act.put, List.setIfInBounds_toArray, List.set_cons_zero, List.set_cons_succ]
            refine wpAnyH_ready (rs := [17]) (by kernel_rfl) (by simp) ?_
            refine (AllReadyH.cons (o := _) rfl (fun K hK => ?_) AllReadyH.nil)
            go_simp
            have b17 := below_alloc' w9 (.cells #[.slice A9 b.ops.length c9, .int .i64 b.fin.kind, .int .i64 b.fin.op, .int .i64 b.fin.a, .int .i64 b.fin.b, .int .i64 b.fin.to, .int .i64 b.fin.els, .int .i64 b.fin.ins.op, .int .i64 b.fin.ins.a, .int .i64 b.fin.ins.b, .int .i64 b.fin.ins.c, .int .i64 b.fin.ins.imm] 46)
            have q33_17 := (Sub.of_below b17) _ _ q33_9
            have F17 := Fc9.sub (Sub.of_below b17)
            have hY : YF oBlock (w9.alloc (.cells #[.slice A9 b.ops.length c9, .int .i64 b.fin.kind, .int .i64 b.fin.op, .int .i64 b.fin.a, .int .i64 b.fin.b, .int .i64 b.fin.to, .int .i64 b.fin.els, .int .i64 b.fin.ins.op, .int .i64 b.fin.ins.a, .int .i64 b.fin.ins.b, .int .i64 b.fin.ins.c, .int .i64 b.fin.ins.imm] 46)) (some ⟨w9.heap.size, 0, none⟩) [b] F9 := YF.one rfl ⟨_, rfl, hwf, own9⟩
            refine hK.out _ _ (F17) (fun hHeld33 => ?_)
            clear hK K hHeld32
            try simp only [List.getElem_toArray, List.getElem_cons_succ, List.getElem_cons_zero, Act.put, List.setIfInBounds_toArray, List.set_cons_zero, List.set_cons_succ]
            refine wpAnyH_ready (rs := [18]) (by kernel_rfl) (by simp) ?_
            refine (AllReadyH.cons (o := _) rfl (fun K hK => ?_) AllReadyH.nil)
            refine step_append_f (k := oBlock) elBlock rfl _ _ rfl (ys := [b]) (ho9.below b17) hY (fun b hb h9 => by (have := ho.lt b hb; have := hF9' b h9; omega)) rfl rfl (by simp; omega) ?_
            intro v18 w18 hg18
            obtain ⟨⟨F18, own18, hF18⟩, hgr18⟩ := hg18
            rw [← HT.out] at own18
            have t18 : Below W.heap.size wr w18 := ((t9.mono hwB).trans (b17.mono (Nat.le_trans hwB t9.size))).grown hgr18 (Nat.le_trans hwB (Nat.le_trans t9.size b17.size)) (fun j hj => hF j (ho.row hj))
            have hF18' : ∀ b, F18 b → W.heap.size ≤ b := fun b hb => by (rcases hF18 b hb with h | h | h; exact hF b h; exact Nat.le_trans hwB (hF9' b h); exact Nat.le_trans hwB (Nat.le_trans t9.size (Nat.le_trans b17.size h)))
            obtain ⟨A18, d18, rfl, l18, m18, hC18⟩ := own18.read
            rw [show (bs.take (k + 1)).length = k + 1 from by simp; omega] at own18 l18 ⊢
            have hh18 : w18.heap[w.heap.size + 1 + 1]? = some (.cells #[.string nm, .bool kp, .bool lf, v] 24 (0, 0)) := (t18.block _ (by omega)).trans hh3
            have c18 : w18.cell? ⟨w.heap.size + 1 + 1, 3, none⟩ = some v := by (have := cell_of_row w18 (w.heap.size + 1 + 1) 3 _ _ _ hh18; simpa using this)
            have z18 := frozen_of_row w18 (w.heap.size + 1 + 1) 3 _ _ hh18
            have Fc18 := SC.turn (t18.block _ (by omega)) (t18.block _ (by omega)) F3
            refine hK.out _ _ (Fc18) (fun hHeld34 => ?_)
            clear hK K hHeld33
            try simp only [List.getElem_toArray, List.getElem_cons_succ, List.getElem_cons_zero, Act.put, List.setIfInBounds_toArray, List.set_cons_zero, List.set_cons_succ]
            refine wpAnyH_take (i := 19) (oi := _) (v := ?v6_35) rfl (by kernel_rfl) (by kernel_rfl) (by kernel_rfl) (fun _ _ _ h => h) (Or.inl ⟨by rfl, ?hy6_35⟩) hHeld34 ?_
            case hy6_35 => (intro wS hSw; (try dsimp only at hSw); obtain ⟨s0, s1, s2, s3, s4, s5, s6, s7, s8, s9, s10, s11, s12⟩ := hSw; go_simp; try with_reducible rfl)
            try simp only [List.getElem_toArray, List.getElem_cons_succ, List.getElem_cons_zero, Act.put, List.setIfInBounds_toArray, List.set_cons_zero, List.set_cons_succ]
            refine wpAnyH_ready (rs := [20]) (by kernel_rfl) (by simp) ?_
            refine (AllReadyH.cons (o := _) rfl (fun K hK => ?_) AllReadyH.nil)
            go_simp
            have g20 := grown_set w18 (w.heap.size + 1 + 1) 3 (.slice A18 (k + 1) d18)
            have h20 := heap_setCell_same w18 (w.heap.size + 1 + 1) 3 _ _ (.slice A18 (k + 1) d18) hh18
            have Fc20 := SC.turn (heap_setCell_other w18 ⟨w.heap.size + 1 + 1, 3, none⟩ w.heap.size (.slice A18 (k + 1) d18) (by simp; omega)) (heap_setCell_other w18 ⟨w.heap.size + 1 + 1, 3, none⟩ (ad.add (k * 12)).block (.slice A18 (k + 1) d18) (by simp; omega)) Fc18
            refine hK.out _ _ (Fc20) (fun hHeld36 => ?_)
            clear hK K hHeld34
            try simp only [List.getElem_toArray, List.getElem_cons_succ, List.getElem_cons_zero, Act.put, List.setIfInBounds_toArray, List.set_cons_zero, List.set_cons_succ]
            refine wpAnyH_done (by kernel_rfl) ?_ _
            go_wp2_with fail
            exact ⟨⟨k + 1, _, F18, by omega, by go_num, own18.grown g20 (fun b hb e => by injection e with e; have := hF18' b hb; omega), hF18', by simpa using h20, ⟨g20.os.trans (t18.os.trans hgr.os), g20.tape.trans (t18.tape.trans hgr.tape), g20.output.trans (t18.output.trans hgr.output), Nat.le_trans hgr.size (Nat.le_trans t18.size g20.size), fun j hj hn => (g20.block j (Nat.lt_of_lt_of_le hj (Nat.le_trans hwB t18.size)) hn).trans ((t18.block j hj).trans (hgr.block j hj hn))⟩⟩, by simp [intOf]; omega⟩
          · go_simp
            have b17 := below_alloc' w9 (.cells #[.slice A9 b.ops.length c9, .int .i64 b.fin.kind, .int .i64 b.fin.op, .int .i64 b.fin.a, .int .i64 b.fin.b, .int .i64 b.fin.to, .int .i64 b.fin.els, .int .i64 b.fin.ins.op, .int .i64 b.fin.ins.a, .int .i64 b.fin.ins.b, .int .i64 b.fin.ins.c, .int .i64 b.fin.ins.imm] 46)
            have q33_17 := (Sub.of_below b17) _ _ q33_9
            have F17 := Fc9.sub (Sub.of_below b17)
            have hY : YF oBlock (w9.alloc (.cells #[.slice A9 b.ops.length c9, .int .i64 b.fin.kind, .int .i64 b.fin.op, .int .i64 b.fin.a, .int .i64 b.fin.b, .int .i64 b.fin.to, .int .i64 b.fin.els, .int .i64 b.fin.ins.op, .int .i64 b.fin.ins.a, .int .i64 b.fin.ins.b, .int .i64 b.fin.ins.c, .int .i64 b.fin.ins.imm] 46)) (some ⟨w9.heap.size, 0, none⟩) [b] F9 := YF.one rfl ⟨_, rfl, hwf, own9⟩
            refine hK.out _ _ (F17) (fun hHeld37 => ?_)
            clear hK K hHeld30
            try simp only [List.getElem_toArray, List.getElem_cons_succ, List.getElem_cons_zero, Act.put, List.setIfInBounds_toArray, List.set_cons_zero, List.set_cons_succ]
            refine wpAnyH_ready (rs := [1]) (by kernel_rfl) (by simp) ?_
            refine (AllReadyH.cons (o := _) rfl (fun K hK => ?_) AllReadyH.nil)
            go_simp
            refine hK.out _ _ (hHeld37) (fun hHeld38 => ?_)
            clear hK K hHeld37
            try simp only [List.getElem_toArray, List.getElem_cons_succ, List.getElem_cons_zero, Act.put, List.setIfInBounds_toArray, List.set_cons_zero, List.set_cons_succ]
            refine wpAnyH_ready (rs := [18]) (by kernel_rfl) (by simp) ?_
            refine (AllReadyH.cons (o := _) rfl (fun K hK => ?_) AllReadyH.nil)
            refine step_append_f (k := oBlock) elBlock rfl _ _ rfl (ys := [b]) (ho9.below b17) hY (fun b hb h9 => by (have := ho.lt b hb; have := hF9' b h9; omega)) rfl rfl (by simp; omega) ?_
            intro v18 w18 hg18
            obtain ⟨⟨F18, own18, hF18⟩, hgr18⟩ := hg18
            rw [← HT.out] at own18
            have t18 : Below W.heap.size wr w18 := ((t9.mono hwB).trans (b17.mono (Nat.le_trans hwB t9.size))).grown hgr18 (Nat.le_trans hwB (Nat.le_trans t9.size b17.size)) (fun j hj => hF j (ho.row hj))
            have hF18' : ∀ b, F18 b → W.heap.size ≤ b := fun b hb => by (rcases hF18 b hb with h | h | h; exact hF b h; exact Nat.le_trans hwB (hF9' b h); exact Nat.le_trans hwB (Nat.le_trans t9.size (Nat.le_trans b17.size h)))
            obtain ⟨A18, d18, rfl, l18, m18, hC18⟩ := own18.read
            rw [show (bs.take (k + 1)).length = k + 1 from by simp; omega] at own18 l18 ⊢
            have hh18 : w18.heap[w.heap.size + 1 + 1]? = some (.cells #[.string nm, .bool kp, .bool lf, v] 24 (0, 0)) := (t18.block _ (by omega)).trans hh3
            have c18 : w18.cell? ⟨w.heap.size + 1 + 1, 3, none⟩ = some v := by (have := cell_of_row w18 (w.heap.size + 1 + 1) 3 _ _ _ hh18; simpa using this)
            have z18 := frozen_of_row w18 (w.heap.size + 1 + 1) 3 _ _ hh18
            have Fc18 := SC.turn (t18.block _ (by omega)) (t18.block _ (by omega)) F3
            refine hK.out _ _ (Fc18) (fun hHeld39 => ?_)
            clear hK K hHeld38
            try simp only [List.getElem_toArray, List.getElem_cons_succ, List.getElem_cons_zero, Act.put, List.setIfInBounds_toArray, List.set_cons_zero, List.set_cons_succ]
            refine wpAnyH_take (i := 19) (oi := _) (v := ?v6_40) rfl (by kernel_rfl) (by kernel_rfl) (by kernel_rfl) (fun _ _ _ h => h) (Or.inl ⟨by rfl, ?hy6_40⟩) hHeld39 ?_
            case hy6_40 => (intro wS hSw; (try dsimp only at hSw); obtain ⟨s0, s1, s2, s3, s4, s5, s6, s7, s8, s9, s10, s11, s12⟩ := hSw; go_simp; try with_reducible rfl)
            try simp only [List.getElem_toArray, List.getElem_cons_succ, List.getElem_cons_zero, Act.put, List.setIfInBounds_toArray, List.set_cons_zero, List.set_cons_succ]
            refine wpAnyH_ready (rs := [20]) (by kernel_rfl) (by simp) ?_
            refine (AllReadyH.cons (o := _) rfl (fun K hK => ?_) AllReadyH.nil)
            go_simp
            have g20 := grown_set w18 (w.heap.size + 1 + 1) 3 (.slice A18 (k + 1) d18)
            have h20 := heap_setCell_same w18 (w.heap.size + 1 + 1) 3 _ _ (.slice A18 (k + 1) d18) hh18
            have Fc20 := SC.turn (heap_setCell_other w18 ⟨w.heap.size + 1 + 1, 3, none⟩ w.heap.size (.slice A18 (k + 1) d18) (by simp; omega)) (heap_setCell_other w18 ⟨w.heap.size + 1 + 1, 3, none⟩ (ad.add (k * 12)).block (.slice A18 (k + 1) d18) (by simp; omega)) Fc18
            refine hK.out _ _ (Fc20) (fun hHeld41 => ?_)
            clear hK K hHeld39
            try simp only [List.getElem_toArray, List.getElem_cons_succ, List.getElem_cons_zero, Act.put, List.setIfInBounds_toArray, List.set_cons_zero, List.set_cons_succ]
            refine wpAnyH_done (by kernel_rfl) ?_ _
            go_wp2_with fail
            exact ⟨⟨k + 1, _, F18, by omega, by go_num, own18.grown g20 (fun b hb e => by injection e with e; have := hF18' b hb; omega), hF18', by simpa using h20, ⟨g20.os.trans (t18.os.trans hgr.os), g20.tape.trans (t18.tape.trans hgr.tape), g20.output.trans (t18.output.trans hgr.output), Nat.le_trans hgr.size (Nat.le_trans t18.size g20.size), fun j hj hn => (g20.block j (Nat.lt_of_lt_of_le hj (Nat.le_trans hwB t18.size)) hn).trans ((t18.block j hj).trans (hgr.block j hj hn))⟩⟩, by simp [intOf]; omega⟩
      -- END
    · obtain rfl : k = bs.length := by omega
      rw [List.take_length] at ho
      obtain ⟨A', c', rfl, l', m', hC'⟩ := ho.read
      have HO := Lib.hid ho
      have HF := Lib.hid hF
      clear ho hF
      have hh2 : wr.heap[w.heap.size + 1]? = some (.cells #[.string ⟨#[]⟩, .bool false, .bool false, .slice none 0 0] 24 (0, 0)) := (hgr.block _ (by omega) (by simp)).trans HQ2.out
      have y0 : wr.cell? ⟨w.heap.size + 1 + 1, 0, none⟩ = some (.string nm) := (by have := cell_of_row wr (w.heap.size + 1 + 1) 0 _ _ _ hh3; simpa using this)
      have y1 : wr.cell? ⟨w.heap.size + 1 + 1, 1, none⟩ = some (.bool kp) := (by have := cell_of_row wr (w.heap.size + 1 + 1) 1 _ _ _ hh3; simpa using this)
      have y2 : wr.cell? ⟨w.heap.size + 1 + 1, 2, none⟩ = some (.bool lf) := (by have := cell_of_row wr (w.heap.size + 1 + 1) 2 _ _ _ hh3; simpa using this)
      have y3 : wr.cell? ⟨w.heap.size + 1 + 1, 3, none⟩ = some (.slice A' bs.length c') := (by have := cell_of_row wr (w.heap.size + 1 + 1) 3 _ _ _ hh3; simpa using this)
      have x0 : wr.cell? ⟨w.heap.size + 1, 0, none⟩ = some (.string ⟨#[]⟩) := (by have := cell_of_row wr (w.heap.size + 1) 0 _ _ _ hh2; simpa using this)
      have x1 : wr.cell? ⟨w.heap.size + 1, 1, none⟩ = some (.bool false) := (by have := cell_of_row wr (w.heap.size + 1) 1 _ _ _ hh2; simpa using this)
      have x2 : wr.cell? ⟨w.heap.size + 1, 2, none⟩ = some (.bool false) := (by have := cell_of_row wr (w.heap.size + 1) 2 _ _ _ hh2; simpa using this)
      have x3 : wr.cell? ⟨w.heap.size + 1, 3, none⟩ = some (.slice none 0 0) := (by have := cell_of_row wr (w.heap.size + 1) 3 _ _ _ hh2; simpa using this)
      have z0 := frozen_of_row wr (w.heap.size + 1) 0 _ _ hh2
      have z1 := frozen_of_row wr (w.heap.size + 1) 1 _ _ hh2
      have z2 := frozen_of_row wr (w.heap.size + 1) 2 _ _ hh2
      have z3 := frozen_of_row wr (w.heap.size + 1) 3 _ _ hh2
      have HH2 := Lib.hid hh2
      have HH3 := Lib.hid hh3
      clear hh2 hh3
      go_wp2_with fail
      have k1 := heap_setCell_same wr (w.heap.size + 1) 0 _ _ (.string nm) HH2.out
      have g1 : wr.grownBy (wr.setCell ⟨w.heap.size + 1, 0, none⟩ (.string nm)) (some (w.heap.size + 1)) := ⟨rfl, rfl, rfl, by simp, fun j _ hj => heap_setCell_other wr ⟨w.heap.size + 1, 0, none⟩ j _ (fun e => hj (by simp [e]))⟩
      generalize wr.setCell ⟨w.heap.size + 1, 0, none⟩ (.string nm) = X1 at *
      have k2 := heap_setCell_same X1 (w.heap.size + 1) 1 _ _ (.bool kp) k1
      have g2 : X1.grownBy (X1.setCell ⟨w.heap.size + 1, 1, none⟩ (.bool kp)) (some (w.heap.size + 1)) := ⟨rfl, rfl, rfl, by simp, fun j _ hj => heap_setCell_other X1 ⟨w.heap.size + 1, 1, none⟩ j _ (fun e => hj (by simp [e]))⟩
      generalize X1.setCell ⟨w.heap.size + 1, 1, none⟩ (.bool kp) = X2 at *
      have k3 := heap_setCell_same X2 (w.heap.size + 1) 2 _ _ (.bool lf) k2
      have g3 : X2.grownBy (X2.setCell ⟨w.heap.size + 1, 2, none⟩ (.bool lf)) (some (w.heap.size + 1)) := ⟨rfl, rfl, rfl, by simp, fun j _ hj => heap_setCell_other X2 ⟨w.heap.size + 1, 2, none⟩ j _ (fun e => hj (by simp [e]))⟩
      generalize X2.setCell ⟨w.heap.size + 1, 2, none⟩ (.bool lf) = X3 at *
      have k4 := heap_setCell_same X3 (w.heap.size + 1) 3 _ _ (.slice A' bs.length c') k3
      have g4 : X3.grownBy (X3.setCell ⟨w.heap.size + 1, 3, none⟩ (.slice A' bs.length c')) (some (w.heap.size + 1)) := ⟨rfl, rfl, rfl, by simp, fun j _ hj => heap_setCell_other X3 ⟨w.heap.size + 1, 3, none⟩ j _ (fun e => hj (by simp [e]))⟩
      generalize X3.setCell ⟨w.heap.size + 1, 3, none⟩ (.slice A' bs.length c') = X4 at *
      simp at k4
      have gt := grown_trans (grown_trans (grown_trans g1 g2) g3) g4
      have hz := HBs.out
      refine bodyPost_ret (results_cell_row rfl _ _ (w.heap.size + 1) 24 #[.string nm, .bool kp, .bool lf, .slice A' bs.length c'] (0, 0) _ rfl k4 Try.underlying24 rfl (by kernel_rfl)) rfl ?_
      refine ⟨A', c', F, rfl, HO.out.grown gt (fun b hb e => by injection e with e; have := HF.out b hb; omega), fun b hb => by have := HF.out b hb; omega, ?_⟩
      refine hbW.trans ⟨gt.os.trans hgr.os, gt.tape.trans hgr.tape, gt.output.trans hgr.output, Nat.le_trans hgr.size gt.size, fun j hj => ?_⟩
      rw [gt.block j (by have := hgr.size; omega) (by simp; omega), hgr.block j (by omega) (by simp; omega)]
end Go.Proofs.Ythnkikdbllkmkaa
namespace Go.Proofs.Ythnkikdbllkmkaa
set_option linter.unusedVariables false
set_option linter.unusedSimpArgs false
open Go.RowKit

/-- Graphs of the call's own. -/
def OwnGs (w : World) (e : Ending) (w' : World) (gs : List Graph) : Prop :=
  ∃ A c F, e = .returned (.slice A gs.length c) ∧ OwnF oGraph 24 w' (.slice A gs.length c) gs F ∧ (∀ b, F b → w.heap.size ≤ b) ∧ Below w.heap.size w w'

set_option maxHeartbeats 4000000 in
set_option maxRecDepth 100000 in
theorem copies_calls (A : Option Addr) (c : Nat) (gs : List Graph) (w : World) (hC : kGraph.C w A gs) (hl : gs.length ≤ 61) (hf : ∀ g ∈ gs, blocksFew g.blocks = true) : Calls Try.prog 15 #[.slice A gs.length c] w fun e w' => OwnGs w e w' gs := by
  have HF := Lib.hid hf
  clear hf
  go_enter Try.func15, Try.ntmps15
  go_wp2_with fail
  go_loopw [3, 4] (fun v i wr => ∃ (k : Nat) (F : Nat → Prop), k ≤ gs.length ∧ i = .int .i64 k ∧ OwnF oGraph 24 wr v (gs.take k) F ∧ (∀ b, F b → w.heap.size ≤ b) ∧ Below w.heap.size w wr) (fun _ i _ => gs.length - (intOf i).toNat)
  case atStart => exact ⟨0, _, Nat.zero_le _, rfl, OwnF.nil _ _ _, fun _ h => h.elim, Below.refl _ _⟩
  case round =>
    obtain ⟨k, F, hk, rfl, ho, hF, hbr⟩ := hrel
    by_cases hlt : k < gs.length
    · obtain ⟨g, hg⟩ := get_some gs k hlt
      have htk := take_snoc hg
      have hfew := HF.out g (List.mem_of_getElem? hg)
      obtain ⟨ad, A0, c0, rfl, f0, f1, f2, f3, hwf, l0, m0, g0⟩ := Graph_at (Kd.C_mono hbr hC) hg
      have hl0 := len_le l0 m0
      have HT := Lib.hid htk
      have hlo : (gs.take k).length ≤ 61 := Nat.le_trans (by simp [List.length_take]; omega) hl
      clear hg htk
      go_wp2_with (first
        | (go_at_call 28; refine (copy_calls _ _ _ _ _ _ _ g0 (Nat.le_trans l0 m0) hfew).mono ?_; rintro e w1 ⟨A1, c1, F1, rfl, own1, hF1, hb1⟩; have ho1 := ho.below hb1)
        | (at_builtin; refine wpList_append_f (k := oGraph) elGraph rfl _ _ rfl (ys := [g]) (ho1.below (below_alloc' w1 _)) (YF.one rfl ⟨_, rfl, hwf, own1⟩) (fun b hb h9 => by (have := ho.lt b hb; have := hF1 b h9; omega)) rfl rfl (by simp; omega) ?_; intro v2 w2 hg2))
      obtain ⟨⟨F2, own2, hF2⟩, hgr2⟩ := hg2
      rw [← HT.out] at own2
      exact ⟨⟨k + 1, F2, by omega, by go_num, own2, fun b hb => by (rcases hF2 b hb with h | h | h; exact hF b h; exact Nat.le_trans hbr.size (hF1 b h); exact Nat.le_trans hbr.size (Nat.le_trans hb1.size (Nat.le_trans (below_alloc' w1 _).size h))), ((hbr.trans (hb1.mono hbr.size)).trans ((below_alloc' w1 _).mono (Nat.le_trans hbr.size hb1.size))).grown hgr2 (Nat.le_trans hbr.size (Nat.le_trans hb1.size (below_alloc' w1 _).size)) (fun j hj => hF j (ho.row hj))⟩, by simp [intOf]; omega⟩
    · obtain rfl : k = gs.length := by omega
      rw [List.take_length] at ho
      obtain ⟨A1, c1, rfl, l1, m1, hC1⟩ := ho.read
      go_wp2_with fail
      go_ret
      exact ⟨A1, c1, F, rfl, ho, hF, hbr⟩
end Go.Proofs.Ythnkikdbllkmkaa
namespace Go.Proofs.Ythnkikdbllkmkaa
set_option linter.unusedVariables false
set_option linter.unusedSimpArgs false
open Go.RowKit

theorem eqTerm_same (d : Nat) (w : World) (k o a b t e x0 x1 x2 x3 x4 : Int) :
    (Op.equalIn (d + 3) 43 (.agg #[.int .i64 k, .int .i64 o, .int .i64 a, .int .i64 b, .int .i64 t, .int .i64 e, .int .i64 x0, .int .i64 x1, .int .i64 x2, .int .i64 x3, .int .i64 x4]) (.agg #[.int .i64 k, .int .i64 o, .int .i64 a, .int .i64 b, .int .i64 t, .int .i64 e, .int .i64 x0, .int .i64 x1, .int .i64 x2, .int .i64 x3, .int .i64 x4])).run Try.prog w = .ok true w := by
  have hI := fun W => eqIns d W x0 x0 x1 x1 x2 x2 x3 x3 x4 x4
  rw [run_equalIn_struct w (d + 2) 43 _ _ (by kernel_rfl) (by kernel_rfl)]
  simp [Try.underlying43, Try.underlying41, Program.fieldsOf, go_sem, hI]
theorem eqOp_same (d : Nat) (w : World) (r : Bool) (k t a x0 x1 x2 x3 x4 : Int) :
    (Op.equalIn (d + 3) 66 (.agg #[.int .i64 x0, .int .i64 x1, .int .i64 x2, .int .i64 x3, .int .i64 x4, .bool r, .int .i64 k, .int .i64 t, .int .i64 a]) (.agg #[.int .i64 x0, .int .i64 x1, .int .i64 x2, .int .i64 x3, .int .i64 x4, .bool r, .int .i64 k, .int .i64 t, .int .i64 a])).run Try.prog w = .ok true w := by
  have hI := fun W => eqIns d W x0 x0 x1 x1 x2 x2 x3 x3 x4 x4
  rw [run_equalIn_struct w (d + 2) 66 _ _ (by kernel_rfl) (by kernel_rfl)]
  simp [Try.underlying66, Try.underlying41, Program.fieldsOf, go_sem, hI]
attribute [local go_sem high] eqTerm_same eqOp_same

set_option maxHeartbeats 4000000 in
set_option maxRecDepth 100000 in
theorem same_calls (nm : ByteArray) (kp lf : Bool) (A A' : Option Addr) (c c' : Nat) (bs : List Block) (w : World) (hC : kBlock.C w A bs) (hC' : kBlock.C w A' bs) (hl : bs.length ≤ maxLen) : Calls Try.prog 29 #[.agg #[.string nm, .bool kp, .bool lf, .slice A bs.length c], .agg #[.string nm, .bool kp, .bool lf, .slice A' bs.length c']] w fun e w' => e = .returned (.bool true) ∧ Below w.heap.size w w' := by
  unfold maxLen at hl
  have hall : ∃ W : World, W = (w.alloc (.cells #[.string nm, .bool kp, .bool lf, .slice A bs.length c] 24)).alloc (.cells #[.string nm, .bool kp, .bool lf, .slice A' bs.length c'] 24) ∧ Below w.heap.size w W ∧ G4 W w.heap.size nm kp lf (.slice A bs.length c) ∧ G4 W (w.heap.size + 1) nm kp lf (.slice A' bs.length c') := by
    have e1 : (w.alloc (.cells #[.string nm, .bool kp, .bool lf, .slice A bs.length c] 24)).heap.size = w.heap.size + 1 := by simp
    have b1 := below_alloc' w (.cells #[.string nm, .bool kp, .bool lf, .slice A bs.length c] 24)
    have c1 : G4 (w.alloc (.cells #[.string nm, .bool kp, .bool lf, .slice A bs.length c] 24)) w.heap.size nm kp lf (.slice A bs.length c) := ⟨by simp, by simp, by simp, by simp⟩
    generalize w.alloc (.cells #[.string nm, .bool kp, .bool lf, .slice A bs.length c] 24) = W1 at *
    have b2 := below_alloc' W1 (.cells #[.string nm, .bool kp, .bool lf, .slice A' bs.length c'] 24)
    refine ⟨_, rfl, b1.trans (b2.mono b1.size), c1.below b2 (by omega), ?_⟩
    rw [← e1]
    exact ⟨by simp, by simp, by simp, by simp⟩
  obtain ⟨W, hW, hbW, p1, p2⟩ := hall
  have HW := Lib.hid hW
  have HP1 := Lib.hid p1
  have HP2 := Lib.hid p2
  clear hW p1 p2
  go_enter Try.func29, Try.ntmps29
  go_upto_region 1 with fail
  rw [← HW.out]
  obtain ⟨p10, p11, p12, p13⟩ := HP1.out
  obtain ⟨p20, p21, p22, p23⟩ := HP2.out
  replace hC := Kd.C_mono hbW hC
  replace hC' := Kd.C_mono hbW hC'
  go_wp2_with fail
  go_loopw [5] (fun i wr => ∃ k : Nat, k ≤ bs.length ∧ i = .int .i64 k ∧ ∃ n, wr = W.drewN n) (fun i _ => bs.length - (intOf i).toNat)
  case atStart => exact ⟨0, Nat.zero_le _, rfl, 0, rfl⟩
  case round =>
    obtain ⟨k, hk, rfl, n, rfl⟩ := hrel
    by_cases hlt : k < bs.length
    · obtain ⟨b, hb⟩ := get_some bs k hlt
      obtain ⟨ad, A0, c0, rfl, f0, f1, f2, f3, f4, f5, f6, f7, f8, f9, f10, f11, -, l0, m0, g0⟩ := Block_at hC hb
      obtain ⟨ad', A0', c0', rfl, f0', f1', f2', f3', f4', f5', f6', f7', f8', f9', f10', f11', -, l0', m0', g0'⟩ := Block_at hC' hb
      have hl0 := len_le l0 m0
      clear hb
      go_wp2_with fail
      go_quiet (fail)
      go_wp2_with fail
      go_loopw [6] (fun i wr => ∃ j : Nat, j ≤ b.ops.length ∧ i = .int .i64 j ∧ ∃ n, wr = W.drewN n) (fun i _ => b.ops.length - (intOf i).toNat)
      case atStart => exact ⟨0, Nat.zero_le _, rfl, _, World.drewN_drewN W n nq⟩
      case round =>
        obtain ⟨j, hj, rfl, n2, rfl⟩ := hrel
        by_cases hltj : j < b.ops.length
        · obtain ⟨o, ho⟩ := get_some b.ops j hltj
          obtain ⟨ao, rfl, e0, e1, e2, e3, e4, e5, e6, e7, e8, -⟩ := Op_at g0 ho
          obtain ⟨ao', rfl, e0', e1', e2', e3', e4', e5', e6', e7', e8', -⟩ := Op_at g0' ho
          clear ho
          go_wp2_with fail
          go_quiet (fail)
          go_wp2_with fail
          exact ⟨⟨j + 1, by omega, by go_num, _, rfl⟩, by simp [intOf]; omega⟩
        · go_wp2_with fail
          exact ⟨⟨k + 1, by omega, by go_num, _, rfl⟩, by simp [intOf]; omega⟩
    · go_wp2_with fail
      go_ret
      exact ⟨rfl, Below.drewN hbW n⟩
end Go.Proofs.Ythnkikdbllkmkaa
namespace Go.Proofs.Ythnkikdbllkmkaa
set_option linter.unusedVariables false
set_option linter.unusedSimpArgs false
open Go.RowKit

set_option maxHeartbeats 4000000 in
set_option maxRecDepth 100000 in
theorem sames_calls (A A' : Option Addr) (c c' : Nat) (gs : List Graph) (w : World) (hC : kGraph.C w A gs) (hC' : kGraph.C w A' gs) (hl : gs.length ≤ 61) : Calls Try.prog 16 #[.slice A gs.length c, .slice A' gs.length c'] w fun e w' => e = .returned (.bool true) ∧ Below w.heap.size w w' := by
  go_enter Try.func16, Try.ntmps16
  go_wp2_with fail
  go_loopw [5] (fun i wr => ∃ k : Nat, k ≤ gs.length ∧ i = .int .i64 k ∧ Below w.heap.size w wr) (fun i _ => gs.length - (intOf i).toNat)
  case atStart => exact ⟨0, Nat.zero_le _, rfl, Below.refl _ _⟩
  case round =>
    obtain ⟨k, hk, rfl, hbr⟩ := hrel
    by_cases hlt : k < gs.length
    · obtain ⟨g, hg⟩ := get_some gs k hlt
      obtain ⟨ad, A0, c0, rfl, f0, f1, f2, f3, -, l0, m0, g0⟩ := Graph_at (Kd.C_mono hbr hC) hg
      obtain ⟨ad', A0', c0', rfl, f0', f1', f2', f3', -, l0', m0', g0'⟩ := Graph_at (Kd.C_mono hbr hC') hg
      have hl0 := len_le l0 m0
      have F0 : A4 wr (ad.add (k * 4)) g.name g.keep g.leaf (.slice A0 g.blocks.length c0) := ⟨f0, f1, f2, f3⟩
      have F0' : A4 wr (ad'.add (k * 4)) g.name g.keep g.leaf (.slice A0' g.blocks.length c0') := ⟨f0', f1', f2', f3'⟩
      have G0 := Kd.C_mono ((Below.refl wr.heap.size wr).drew) g0
      have G0' := Kd.C_mono ((Below.refl wr.heap.size wr).drew) g0'
      clear hg f0 f1 f2 f3 f0' f1' f2' f3' g0 g0'
      go_wp2_with fail
      go_region_held3 (fun w' => (w'.cell? (ad.add (k * 4)) = some (.string g.name) ∧ w'.cell? ⟨(ad.add (k * 4)).block, (ad.add (k * 4)).off + 1, none⟩ = some (.bool g.keep) ∧ w'.cell? ⟨(ad.add (k * 4)).block, (ad.add (k * 4)).off + 2, none⟩ = some (.bool g.leaf) ∧ w'.cell? ⟨(ad.add (k * 4)).block, (ad.add (k * 4)).off + 3, none⟩ = some (.slice A0 g.blocks.length c0)) ∧ (w'.cell? (ad'.add (k * 4)) = some (.string g.name) ∧ w'.cell? ⟨(ad'.add (k * 4)).block, (ad'.add (k * 4)).off + 1, none⟩ = some (.bool g.keep) ∧ w'.cell? ⟨(ad'.add (k * 4)).block, (ad'.add (k * 4)).off + 2, none⟩ = some (.bool g.leaf) ∧ w'.cell? ⟨(ad'.add (k * 4)).block, (ad'.add (k * 4)).off + 3, none⟩ = some (.slice A0' g.blocks.length c0'))) (first | exact ⟨F1, F1'⟩ | exact ⟨F0, F0'⟩)
        (first
          | (go_at_call 29; refine (same_calls _ _ _ _ _ _ _ _ _ G0 G0' (Nat.le_trans l0 m0)).mono ?_; rintro e w1 ⟨rfl, hb1⟩; have F1 := A4.below hb1 F0; have F1' := A4.below hb1 F0'))
      go_wp2_with fail
      exact ⟨⟨k + 1, by omega, by go_num, hbr.drew.trans (hb1.mono hbr.size)⟩, by simp [intOf]; omega⟩
    · go_wp2_with fail
      go_ret
      exact ⟨rfl, hbr⟩
end Go.Proofs.Ythnkikdbllkmkaa
