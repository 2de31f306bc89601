/- DeadKeeps returns true: for every graph, right and small, what Thread, Trim, Sweep and Graph answer is new memory: with all of it overwritten the graph handed in is as before. Printed by genNq.py of this repository. -/
import Derived.Test.YtokkngfgppikkaaNp
import Derived.Test.YtokkngfgppikkaaDm
namespace Go.Proofs.Ytokkngfgppikkaa
set_option linter.unusedVariables false
set_option linter.unusedSimpArgs false
open Go.RowKit

/-- A row of values that own their memory, made at once. -/
theorem OwnF.litO {α : Type} {k : Od α} (T : TypeId) (w : World) (xs : List α) (css : List (List Value)) (Fs : Nat → Nat → Prop) (cells : Array Value) (hc : cells.toList = css.flatten) (hl : css.length = xs.length) (hx : xs.length ≤ maxLen)
    (hO : ∀ (i : Nat) (x : α) (cs : List Value), xs[i]? = some x → css[i]? = some cs → k.O w x cs (Fs i)) (hd : ∀ i j b, i < xs.length → j < xs.length → i ≠ j → Fs i b → ¬ Fs j b) :
    OwnF k T (w.alloc (.cells cells T)) (.slice (some ⟨w.heap.size, 0, none⟩) xs.length xs.length) xs (fun b => b = w.heap.size ∨ ∃ i, i < xs.length ∧ Fs i b) := by
  have hall := all_len hl hO
  have hflat : ∀ (l : List (List Value)), (∀ cs ∈ l, cs.length = k.kd.size) → l.flatten.length = l.length * k.kd.size := by
    intro l hl
    induction l with
    | nil => simp
    | cons c r ih => rw [List.flatten_cons, List.length_append, hl c (by simp), ih (fun cs hcs => hl cs (by simp [hcs])), List.length_cons, Nat.succ_mul, Nat.add_comm]
  have hlt : ∀ i b, i < xs.length → Fs i b → b < w.heap.size := fun i b hi hb => by
    obtain ⟨x, hx⟩ := get_some xs i hi
    obtain ⟨cs, hcs⟩ := get_some css i (by rw [hl]; exact hi)
    exact k.lt (hO i x cs hx hcs) b hb
  refine ⟨css, Fs, hl, fun i x cs hx hcs => k.keep (hO i x cs hx hcs) (fun b hb => (below_alloc' w _).block b (hlt i b (List.getElem?_eq_some_iff.1 hx).1 hb)), ?_, hd, fun i b hi hb e => ?_, fun b => ?_⟩
  · rw [← hc]
    exact World.ownsRow_lit w cells xs.length (Nat.zero_le _) hx (by rw [← Array.length_toList, hc, hflat css hall, hl])
  · injection e with e
    have e' : w.heap.size = b := e
    have := hlt i b hi hb
    omega
  · constructor
    · rintro (rfl | h)
      · exact .inl rfl
      · exact .inr h
    · rintro (h | h)
      · injection h with h
        exact .inl h.symm
      · exact .inr h
def F4 (a b c d : Nat → Prop) : Nat → Nat → Prop
  | 0 => a
  | 1 => b
  | 2 => c
  | _ => d
theorem four_O {α : Type} {k : Od α} {w : World} {x0 x1 x2 x3 : α} {c0 c1 c2 c3 : List Value} {a b c d : Nat → Prop} (h0 : k.O w x0 c0 a) (h1 : k.O w x1 c1 b) (h2 : k.O w x2 c2 c) (h3 : k.O w x3 c3 d) :
    ∀ (i : Nat) (x : α) (cs : List Value), [x0, x1, x2, x3][i]? = some x → [c0, c1, c2, c3][i]? = some cs → k.O w x cs (F4 a b c d i) := by
  intro i x cs hx hc
  match i with
  | 0 => simp at hx hc; subst hx hc; exact h0
  | 1 => simp at hx hc; subst hx hc; exact h1
  | 2 => simp at hx hc; subst hx hc; exact h2
  | 3 => simp at hx hc; subst hx hc; exact h3
  | i + 4 => simp at hx
theorem four_apart {a b c d : Nat → Prop} {p q r : Nat} (ha : ∀ x, a x → x < p) (hb : ∀ x, b x → p ≤ x ∧ x < q) (hc : ∀ x, c x → q ≤ x ∧ x < r) (hd : ∀ x, d x → r ≤ x) (hpq : p ≤ q) (hqr : q ≤ r) : ∀ i j x, i < 4 → j < 4 → i ≠ j → F4 a b c d i x → ¬ F4 a b c d j x := by
  intro i j x hi hj hij h1 h2
  match i, j with
  | 0, 0 => exact hij rfl
  | 1, 1 => exact hij rfl
  | 2, 2 => exact hij rfl
  | 3, 3 => exact hij rfl
  | 0, 1 => have := ha x h1; have := hb x h2; omega
  | 0, 2 => have := ha x h1; have := hc x h2; omega
  | 0, 3 => have := ha x h1; have := hd x h2; omega
  | 1, 0 => have := ha x h2; have := hb x h1; omega
  | 1, 2 => have := hb x h1; have := hc x h2; omega
  | 1, 3 => have := hb x h1; have := hd x h2; omega
  | 2, 0 => have := ha x h2; have := hc x h1; omega
  | 2, 1 => have := hb x h2; have := hc x h1; omega
  | 2, 3 => have := hc x h1; have := hd x h2; omega
  | 3, 0 => have := ha x h2; have := hd x h1; omega
  | 3, 1 => have := hb x h2; have := hd x h1; omega
  | 3, 2 => have := hc x h2; have := hd x h1; omega
  | i + 4, _ => omega
  | _, j + 4 => omega
theorem four_low {a b c d : Nat → Prop} {n i x : Nat} (ha : ∀ x, a x → n ≤ x) (hb : ∀ x, b x → n ≤ x) (hc : ∀ x, c x → n ≤ x) (hd : ∀ x, d x → n ≤ x) (h : F4 a b c d i x) : n ≤ x := by
  match i with
  | 0 => exact ha x h
  | 1 => exact hb x h
  | 2 => exact hc x h
  | i + 3 => exact hd x h

set_option maxHeartbeats 16000000 in
set_option maxRecDepth 100000 in
theorem deadKeeps_law (w : World) (g : Graph) (wf : g.wf) (A : Option Addr) (c : Nat) (hlc : g.blocks.length ≤ c) (hcm : c ≤ maxLen) (hC : kBlock.C w A g.blocks) : Calls Try.prog 11 #[.agg #[.string g.name, .bool g.keep, .bool g.leaf, .slice A g.blocks.length c]] w fun e w' => e = .returned (.bool true) ∧ Below w.heap.size w w' := by
  have WF := Lib.hid wf
  clear wf
  have hlm := Nat.le_trans hlc hcm
  have hlm' : g.blocks.length ≤ 9223372036854775807 := hlm
  have b0 := below_alloc' w (.cells #[.string g.name, .bool g.keep, .bool g.leaf, .slice A g.blocks.length c] 33)
  have r0 : Row (w.alloc (.cells #[.string g.name, .bool g.keep, .bool g.leaf, .slice A g.blocks.length c] 33)) w.heap.size 33 (graphCells (.slice A g.blocks.length c) g) := Row.new w _ _
  cases hf : fineB g.blocks with
  | false =>
    have HF := Lib.hid hf
    clear hf
    go_enter Try.func11, Try.ntmps11
    go_upto_region 1 with fail
    generalize w.alloc (.cells #[.string g.name, .bool g.keep, .bool g.leaf, .slice A g.blocks.length c] 33) = W at *
    go_wp2_with fail
    refine (awake22_calls _).mono ?_
    rintro e w1 ⟨rfl, hb1⟩
    have r1 := r0.below hb1
    obtain ⟨x0, x1, x2, x3⟩ := r1.graph
    have t1 := b0.trans (hb1.mono b0.size)
    go_wp2_with fail
    refine (fine22_calls _ _ _ _ _ _ _ (Kd.C_mono t1 hC) hlm).mono ?_
    rw [HF.out]
    rintro e w2 ⟨rfl, hb2⟩
    have t2 := t1.trans (hb2.mono t1.size)
    have r2 := r1.below hb2
    clear x0 x1 x2 x3
    obtain ⟨x0, x1, x2, x3⟩ := r2.graph
    go_wp2_with fail
    refine (awake22_calls _).mono ?_
    rintro e w3 ⟨rfl, hb3⟩
    go_wp2_with fail
    go_ret
    exact ⟨rfl, t2.trans (hb3.mono t2.size)⟩
  | true =>
    have HF := Lib.hid hf
    obtain ⟨hfw, h30, h60, hright⟩ := fineB_parts hf
    have hok : BsOk g.blocks := ⟨1000, 1000, hright⟩
    have hpos := (blocksRight_iff.1 hright).2
    have h300 := (blocksFew_parts hfw).2
    have hl : g.blocks.length ≤ 1000 := by omega
    have HFW := Lib.hid hfw
    have HR := Lib.hid hright
    have HOK := Lib.hid hok
    have H3 := Lib.hid h300
    have HLEAD := Lib.hid hok.leads
    clear hf hfw hright hok h300
    go_enter Try.func11, Try.ntmps11
    go_upto_region 1 with fail
    generalize w.alloc (.cells #[.string g.name, .bool g.keep, .bool g.leaf, .slice A g.blocks.length c] 33) = W at *
    go_wp2_with fail
    refine (awake22_calls _).mono ?_
    rintro e w1 ⟨rfl, hb1⟩
    have r1 := r0.below hb1
    obtain ⟨x0, x1, x2, x3⟩ := r1.graph
    have t1 := b0.trans (hb1.mono b0.size)
    go_wp2_with fail
    refine (fine22_calls _ _ _ _ _ _ _ (Kd.C_mono t1 hC) hlm).mono ?_
    rw [HF.out]
    rintro e w2 ⟨rfl, hb2⟩
    have t2 := t1.trans (hb2.mono t1.size)
    have r2 := r1.below hb2
    clear x0 x1 x2 x3
    obtain ⟨x0, x1, x2, x3⟩ := r2.graph
    have C2 := Kd.C_mono t2 hC
    clear hb1 hb2 t1 r0 r1 b0 hC
    go_wp2_with fail
    refine (copy_calls g.name g.keep g.leaf _ c g.blocks _ C2 hlm HFW.out).mono ?_
    rintro e w4 ⟨A4, c4, F4', rfl, own4, hF4, hb4⟩
    have bq := below_alloc' w4 (.cells #[.string g.name, .bool g.keep, .bool g.leaf, .slice A4 g.blocks.length c4] 33)
    have rw5' : Row (w4.alloc (.cells #[.string g.name, .bool g.keep, .bool g.leaf, .slice A4 g.blocks.length c4] 33)) w4.heap.size 33 (graphCells (.slice A4 g.blocks.length c4) g) := Row.new w4 _ _
    have CW4 := own_bs_read own4
    clear own4 hF4 x0 x1 x2 x3
    go_upto_region 4 with fail
    generalize w4.alloc (.cells #[.string g.name, .bool g.keep, .bool g.leaf, .slice A4 g.blocks.length c4] 33) = w5 at *
    have b45 := hb4.trans (bq.mono hb4.size)
    have C5 := Kd.C_mono b45 C2
    have CW5' := Kd.C_mono bq CW4
    have r5 := r2.below b45
    have t5' := t2.trans (b45.mono t2.size)
    generalize w4.heap.size = GW at *
    clear r2 C2 CW4 bq hb4 b45 t2
    refine wp_region_held_drew (S := (fun w' => SGr w' w.heap.size (.slice A g.blocks.length c) g)) (by kernel_rfl) (r5.graph) (fun hHeld => ?_)
    refine wpAnyH_take (i := 0) (oi := _) (v := ?v4m1_1) rfl (by kernel_rfl) (by kernel_rfl) (by kernel_rfl) (fun _ _ _ h => h) (Or.inl ⟨by rfl, ?hy4m1_1⟩) hHeld ?_
    case hy4m1_1 => (intro wS hSw; (try dsimp only at hSw); obtain ⟨s0, s1, s2, s3⟩ := hSw; go_simp; try with_reducible rfl)
    try simp only [List.getElem_toArray, List.getElem_cons_succ, List.getElem_cons_zero, Act.put, List.setIfInBounds_toArray, List.set_cons_zero, List.set_cons_succ]
    refine wpAnyH_take (i := 2) (oi := _) (v := ?v4m1_2) rfl (by kernel_rfl) (by kernel_rfl) (by kernel_rfl) (fun _ _ _ h => h) (Or.inl ⟨by rfl, ?hy4m1_2⟩) hHeld ?_
    case hy4m1_2 => (intro wS hSw; (try dsimp only at hSw); obtain ⟨s0, s1, s2, s3⟩ := hSw; go_simp; try with_reducible rfl)
    try simp only [List.getElem_toArray, List.getElem_cons_succ, List.getElem_cons_zero, Act.put, List.setIfInBounds_toArray, List.set_cons_zero, List.set_cons_succ]
    refine wpAnyH_take (i := 4) (oi := _) (v := ?v4m1_3) rfl (by kernel_rfl) (by kernel_rfl) (by kernel_rfl) (fun _ _ _ h => h) (Or.inl ⟨by rfl, ?hy4m1_3⟩) hHeld ?_
    case hy4m1_3 => (intro wS hSw; (try dsimp only at hSw); obtain ⟨s0, s1, s2, s3⟩ := hSw; go_simp; try with_reducible rfl)
    try simp only [List.getElem_toArray, List.getElem_cons_succ, List.getElem_cons_zero, Act.put, List.setIfInBounds_toArray, List.set_cons_zero, List.set_cons_succ]
    refine wpAnyH_take (i := 6) (oi := _) (v := ?v4m1_4) rfl (by kernel_rfl) (by kernel_rfl) (by kernel_rfl) (fun _ _ _ h => h) (Or.inl ⟨by rfl, ?hy4m1_4⟩) hHeld ?_
    case hy4m1_4 => (intro wS hSw; (try dsimp only at hSw); obtain ⟨s0, s1, s2, s3⟩ := hSw; go_simp; try with_reducible rfl)
    try simp only [List.getElem_toArray, List.getElem_cons_succ, List.getElem_cons_zero, Act.put, List.setIfInBounds_toArray, List.set_cons_zero, List.set_cons_succ]
    refine wpAnyH_ready (rs := [1]) (by kernel_rfl) (by simp) ?_
    refine (AllReadyH.cons (o := _) rfl (fun K hK => ?_) AllReadyH.nil)
    go_simp
    refine (thread_calls g.name g.keep g.leaf _ c g.blocks _ (Kd.C_mono (Below.refl w5.heap.size w5).drew C5) hl H3.out HLEAD.out).mono ?_
    rintro e v1 ⟨A1, c1, F1, rfl, own1, hF1, hb1⟩
    have bd1 : Below w5.heap.size w5 v1 := (Below.refl w5.heap.size w5).drew.trans hb1
    generalize threadBs g.blocks = l1 at *
    have hu1 := own1.lt
    have hL1 : ∀ b, F1 b → w5.heap.size ≤ b ∧ b < v1.heap.size := fun b hb => ⟨hF1 b hb, hu1 b hb⟩
    go_wp2_with fail
    refine hK.out _ _ ((r5.below bd1).graph) (fun hHeld5 => ?_)
    clear hK K hHeld
    try simp only [List.getElem_toArray, List.getElem_cons_succ, List.getElem_cons_zero, Act.put, List.setIfInBounds_toArray, List.set_cons_zero, List.set_cons_succ]
    refine wpAnyH_ready (rs := [3]) (by kernel_rfl) (by simp) ?_
    refine (AllReadyH.cons (o := _) rfl (fun K hK => ?_) AllReadyH.nil)
    go_simp
    refine (trim_calls g.name g.keep g.leaf _ c g.blocks _ (Kd.C_mono bd1 C5) hl H3.out HLEAD.out hpos).mono ?_
    rintro e v3 ⟨sn, hs3, A3, c3, F3, rfl, own3, hF3, hb3⟩
    have bd3 := bd1.trans (hb3.mono bd1.size)
    have own1 := own1.below hb3
    generalize trimBs sn g.blocks = l3 at *
    clear hs3
    have hu3 := own3.lt
    have hL3 : ∀ b, F3 b → v1.heap.size ≤ b ∧ b < v3.heap.size := fun b hb => ⟨hF3 b hb, hu3 b hb⟩
    go_wp2_with fail
    refine hK.out _ _ ((r5.below bd3).graph) (fun hHeld6 => ?_)
    clear hK K hHeld5
    try simp only [List.getElem_toArray, List.getElem_cons_succ, List.getElem_cons_zero, Act.put, List.setIfInBounds_toArray, List.set_cons_zero, List.set_cons_succ]
    refine wpAnyH_ready (rs := [5]) (by kernel_rfl) (by simp) ?_
    refine (AllReadyH.cons (o := _) rfl (fun K hK => ?_) AllReadyH.nil)
    go_simp
    refine (sweep_calls g.name g.keep g.leaf _ c g.blocks _ (Kd.C_mono bd3 C5) hl H3.out HOK.out).mono ?_
    rintro e v5 ⟨l5, hs5, A5, c5, F5, rfl, own5, hF5, hb5⟩
    have bd5 := bd3.trans (hb5.mono bd3.size)
    have own1 := own1.below hb5
    have own3 := own3.below hb5
    clear hs5
    have hu5 := own5.lt
    have hL5 : ∀ b, F5 b → v3.heap.size ≤ b ∧ b < v5.heap.size := fun b hb => ⟨hF5 b hb, hu5 b hb⟩
    go_wp2_with fail
    refine hK.out _ _ ((r5.below bd5).graph) (fun hHeld7 => ?_)
    clear hK K hHeld6
    try simp only [List.getElem_toArray, List.getElem_cons_succ, List.getElem_cons_zero, Act.put, List.setIfInBounds_toArray, List.set_cons_zero, List.set_cons_succ]
    refine wpAnyH_ready (rs := [7]) (by kernel_rfl) (by simp) ?_
    refine (AllReadyH.cons (o := _) rfl (fun K hK => ?_) AllReadyH.nil)
    go_simp
    refine (deadGraph_calls g.name g.keep g.leaf _ c g.blocks _ (Kd.C_mono bd5 C5) HFW.out HOK.out hpos).mono ?_
    rintro e v7 ⟨l7, hs7, A7, c7, F7, rfl, own7, hF7, hb7⟩
    have bd7 := bd5.trans (hb7.mono bd5.size)
    have own1 := own1.below hb7
    have own3 := own3.below hb7
    have own5 := own5.below hb7
    clear hs7
    have hu7 := own7.lt
    have hL7 : ∀ b, F7 b → v5.heap.size ≤ b ∧ b < v7.heap.size := fun b hb => ⟨hF7 b hb, hu7 b hb⟩
    go_wp2_with fail
    refine hK.out _ _ ((r5.below bd7).graph) (fun hHeld8 => ?_)
    clear hK K hHeld7
    try simp only [List.getElem_toArray, List.getElem_cons_succ, List.getElem_cons_zero, Act.put, List.setIfInBounds_toArray, List.set_cons_zero, List.set_cons_succ]
    refine wpAnyH_ready (rs := [8]) (by kernel_rfl) (by simp) ?_
    refine (AllReadyH.cons (o := _) rfl (fun K hK => ?_) AllReadyH.nil)
    go_simp
    have b8 := below_alloc' v7 (.cells #[.string g.name, .bool g.keep, .bool g.leaf, .slice A1 l1.length c1, .string g.name, .bool g.keep, .bool g.leaf, .slice A3 l3.length c3, .string g.name, .bool g.keep, .bool g.leaf, .slice A5 l5.length c5, .string g.name, .bool g.keep, .bool g.leaf, .slice A7 l7.length c7] 33)
    have bd8 := bd7.trans (b8.mono bd7.size)
    have own8 := OwnF.litO (k := oGraph) 33 v7 [⟨g.name, g.keep, g.leaf, l1⟩, ⟨g.name, g.keep, g.leaf, l3⟩, ⟨g.name, g.keep, g.leaf, l5⟩, ⟨g.name, g.keep, g.leaf, l7⟩] [[.string g.name, .bool g.keep, .bool g.leaf, .slice A1 l1.length c1], [.string g.name, .bool g.keep, .bool g.leaf, .slice A3 l3.length c3], [.string g.name, .bool g.keep, .bool g.leaf, .slice A5 l5.length c5], [.string g.name, .bool g.keep, .bool g.leaf, .slice A7 l7.length c7]] (F4 F1 F3 F5 F7) #[.string g.name, .bool g.keep, .bool g.leaf, .slice A1 l1.length c1, .string g.name, .bool g.keep, .bool g.leaf, .slice A3 l3.length c3, .string g.name, .bool g.keep, .bool g.leaf, .slice A5 l5.length c5, .string g.name, .bool g.keep, .bool g.leaf, .slice A7 l7.length c7] rfl rfl (by show 4 ≤ maxLen; unfold maxLen; decide) (four_O ⟨_, rfl, WF.out, own1⟩ ⟨_, rfl, WF.out, own3⟩ ⟨_, rfl, WF.out, own5⟩ ⟨_, rfl, WF.out, own7⟩) (four_apart (fun b hb => (hL1 b hb).2) hL3 hL5 (fun b hb => (hL7 b hb).1) hb3.size hb5.size)
    have HO8 := Lib.hid own8
    have hF8 : ∀ b, (b = v7.heap.size ∨ ∃ i, i < 4 ∧ F4 F1 F3 F5 F7 i b) → w5.heap.size ≤ b := fun b hb => by (rcases hb with h | ⟨i, hi, h⟩; (have := bd7.size; omega); exact four_low (fun b hb => (hL1 b hb).1) (fun b hb => Nat.le_trans bd1.size (hL3 b hb).1) (fun b hb => Nat.le_trans bd3.size (hL5 b hb).1) (fun b hb => Nat.le_trans bd5.size (hL7 b hb).1) h)
    have HF8 := Lib.hid hF8
    clear own8 hF8 own1 own3 own5 own7
    refine hK.out _ _ ((r5.below bd8).graph) (fun hHeld9 => ?_)
    clear hK K hHeld8
    try simp only [List.getElem_toArray, List.getElem_cons_succ, List.getElem_cons_zero, Act.put, List.setIfInBounds_toArray, List.set_cons_zero, List.set_cons_succ]
    refine wpAnyH_take (i := 9) (oi := _) (v := ?v4m1_10) rfl (by kernel_rfl) (by kernel_rfl) (by kernel_rfl) (fun _ _ _ h => h) (Or.inl ⟨by rfl, ?hy4m1_10⟩) hHeld9 ?_
    case hy4m1_10 => (intro wS hSw; (try dsimp only at hSw); obtain ⟨s0, s1, s2, s3⟩ := hSw; go_simp; try with_reducible rfl)
    try simp only [List.getElem_toArray, List.getElem_cons_succ, List.getElem_cons_zero, Act.put, List.setIfInBounds_toArray, List.set_cons_zero, List.set_cons_succ]
    refine wpAnyH_done (by kernel_rfl) ?_ _
    generalize hW8 : v7.alloc (.cells #[.string g.name, .bool g.keep, .bool g.leaf, .slice A1 l1.length c1, .string g.name, .bool g.keep, .bool g.leaf, .slice A3 l3.length c3, .string g.name, .bool g.keep, .bool g.leaf, .slice A5 l5.length c5, .string g.name, .bool g.keep, .bool g.leaf, .slice A7 l7.length c7] 33) = W8 at *
    generalize v7.heap.size = G8 at *
    have hbb := bd8
    have r8 := r5
    have rw8 := rw5'
    have C8 := C5
    have CW8 := CW5'
    have t8 := t5'
    clear hW8
    go_wp2_with fail
    go_loopw [5] (fun i wr => ∃ (k : Nat) (zs : List Graph) (F : Nat → Prop), k ≤ 4 ∧ i = .int .i64 k ∧ zs.length = 4 ∧ OwnF oGraph 33 wr (.slice (some ⟨G8, 0, none⟩) 4 4) zs F ∧ (∀ x, F x → w5.heap.size ≤ x) ∧ Below w5.heap.size w5 wr) (fun i _ => 4 - (intOf i).toNat)
    case atStart => exact ⟨0, _, _, Nat.zero_le _, rfl, rfl, HO8.out, HF8.out, hbb⟩
    case round =>
      obtain ⟨k, zs, F, hk, rfl, hzn, ho, hF, hbr⟩ := hrel
      by_cases hlt : k < 4
      · obtain ⟨m, hm⟩ := get_some zs k (by rw [hzn]; exact hlt)
        obtain ⟨p0, q0, v, F0, F1, e0, h0, hmw, hob, d0, i0⟩ := ho.open1 hm
        injection e0 with e1 e2 e3
        injection e1 with e1
        injection e1 with e1
        subst e1 e3
        obtain ⟨AB, cB, hvB, lB, mB, -⟩ := hob.read
        subst hvB
        obtain ⟨L, hL⟩ : ∃ L, L = m.blocks.length := ⟨_, rfl⟩
        have hlB := len_le lB mB
        have HZN := Lib.hid hzn
        have HO := Lib.hid ho
        have HF := Lib.hid hF
        have HM := Lib.hid hm
        have HL := Lib.hid hL.symm
        rw [← hL] at hlB
        clear e2 hzn ho hF hm h0 hmw hob d0 i0 hL lB mB
        obtain ⟨wo, hwo⟩ : ∃ wo : World, wo = wr := ⟨_, rfl⟩
        subst hwo
        go_wp2_with fail
        go_loopw [6] (fun i wr => ∃ (j : Nat) (zs : List Graph) (m : Graph) (F : Nat → Prop), j ≤ L ∧ i = .int .i64 j ∧ zs.length = 4 ∧ zs[k]? = some m ∧ m.blocks.length = L ∧ OwnF oGraph 33 wr (.slice (some ⟨G8, 0, none⟩) 4 4) zs F ∧ (∀ x, F x → w5.heap.size ≤ x) ∧ Below w5.heap.size w5 wr) (fun i _ => L - (intOf i).toNat)
        case atStart => exact ⟨0, zs, m, F, Nat.zero_le _, rfl, HZN.out, HM.out, HL.out, HO.out, HF.out, hbr⟩
        case round =>
          obtain ⟨j, zs, m, F, hj, rfl, hzn, hm, hL, ho, hF, hbr⟩ := hrel
          obtain ⟨p0', q0, v, F0, F1, e0, h0, hmw, hob, d0, i0⟩ := ho.open1 hm
          injection e0 with e1 e2 e3
          injection e1 with e1
          injection e1 with e1
          subst e1 e3
          obtain ⟨AB, cB, hvB, lB, mB, -⟩ := hob.read
          subst hvB
          obtain ⟨-, -, -, f3⟩ := h0.graph
          rw [hL] at f3
          by_cases hltj : j < L
          · obtain ⟨b, hb⟩ := get_some m.blocks j (by rw [hL]; exact hltj)
            obtain ⟨p0', q0, p1, q1, v0, F0, F1, F2, e0, h0, hmw, h1, hbw, hoo, d1, d2, iff, -⟩ := ho.open2 hm hb
            obtain ⟨AO, cO, hvO, lO, mO, -⟩ := hoo.read
            obtain ⟨M, hM⟩ : ∃ M, M = b.ops.length := ⟨_, rfl⟩
            have hlO := len_le lO mO
            have HZN := Lib.hid hzn
            have HO := Lib.hid ho
            have HF := Lib.hid hF
            have HMM := Lib.hid hm
            have HL := Lib.hid hL
            have HB := Lib.hid hb
            have HM := Lib.hid hM.symm
            rw [← hM] at hlO
            clear e2 hzn ho hF hm hL hb h0 hmw h1 hbw hoo d1 d2 iff hM lO mO hob d0 i0 lB mB hvO e0
            obtain ⟨wi, hwi⟩ : ∃ wi : World, wi = wr := ⟨_, rfl⟩
            subst hwi
            go_wp2_with fail
            go_loopw [7] (fun i wr => ∃ (q : Nat) (zs : List Graph) (m : Graph) (b : Block) (F : Nat → Prop), q ≤ M ∧ i = .int .i64 q ∧ zs.length = 4 ∧ zs[k]? = some m ∧ m.blocks.length = L ∧ m.blocks[j]? = some b ∧ b.ops.length = M ∧ OwnF oGraph 33 wr (.slice (some ⟨G8, 0, none⟩) 4 4) zs F ∧ (∀ x, F x → w5.heap.size ≤ x) ∧ Below w5.heap.size w5 wr) (fun i _ => M - (intOf i).toNat)
            case atStart => exact ⟨0, zs, m, b, F, Nat.zero_le _, rfl, HZN.out, HMM.out, HL.out, HB.out, HM.out, HO.out, HF.out, hbr⟩
            case round =>
              obtain ⟨q, zs, m, b, F, hq, rfl, hzn, hm, hL, hb, hM, ho, hF, hbr⟩ := hrel
              obtain ⟨p0', q0, p1, q1, v0, F0, F1, F2, e0, h0, hmw, h1, hbw, hoo, d1, d2, iff, -⟩ := ho.open2 hm hb
              injection e0 with e1 e2 e3
              injection e1 with e1
              injection e1 with e1
              subst e1 e3
              obtain ⟨AO, cO, hvO, lO, mO, -⟩ := hoo.read
              subst hvO
              obtain ⟨-, -, -, f3⟩ := h0.graph
              rw [hL] at f3
              have i0 := h1.block.1
              rw [hM] at i0
              have hp0 : w5.heap.size ≤ G8 := hF _ ((iff _).2 (.inl h0.row))
              have hp1 : w5.heap.size ≤ p1 := hF _ ((iff _).2 (.inr (.inl h1.row)))
              have hkn : k < zs.length := by rw [hzn]; exact hlt
              have hjl : j < m.blocks.length := by rw [hL]; exact hltj
              by_cases hltq : q < M
              · obtain ⟨o, hoq⟩ := get_some b.ops q (by rw [hM]; exact hltq)
                obtain ⟨p2, q2, e4, l4, m4, h2⟩ := hoo.openOp hoq
                injection e4 with e5 e6 e7
                subst e5 e7
                have hp2 : F2 p2 := hoo.row rfl
                have HH0 := Lib.hid h0
                have HH1 := Lib.hid h1
                have HH2 := Lib.hid h2
                have HD1 := Lib.hid d1
                have HD2 := Lib.hid d2
                have HI := Lib.hid iff
                have HF := Lib.hid hF
                have HZN := Lib.hid hzn
                have HL := Lib.hid hL
                have HM := Lib.hid hM
                have HMW := Lib.hid hmw
                have HBW := Lib.hid hbw
                have HP2 := Lib.hid hp2
                clear e2 e6 hzn hm hL hb hM ho hF h0 h1 h2 hmw hbw hoo d1 d2 iff hoq lO mO l4 m4 hp2
                go_wp2_with (refine wpList_put_hole rfl 44 _ _ rfl p2 (opCells Op.zero) rfl rfl HH2.out (by kernel_rfl) rfl (opCells_one _) ?_; intro w9 h9 g9 s9; clear s9)
                have o9 := h9.closeOp op_wf0
                have h19 := HH1.out.grown g9 (fun x hx e => by injection e with e; subst e; exact (HD2.out _ HP2.out).2 hx)
                have h09 := HH0.out.grown g9 (fun x hx e => by injection e with e; subst e; exact (HD2.out _ HP2.out).1 hx)
                have hcl := close2 (b' := ⟨b.ops.set q Op.zero, b.fin⟩) (v' := .slice (some ⟨p2, 0, none⟩) b.ops.length cO) h09 HMW.out h19 HBW.out o9 HD1.out HD2.out
                rw [HZN.out] at hcl
                exact ⟨⟨q + 1, _, _, _, _, by omega, by go_num, by rw [List.length_set]; exact HZN.out, set_get hkn, by rw [List.length_set]; exact HL.out, set_get hjl, by rw [List.length_set]; exact HM.out, hcl, fun x hx => HF.out x ((HI.out x).2 hx), hbr.grown g9 hbr.size (fun x hx => by injection hx with hx; subst hx; exact HF.out _ ((HI.out _).2 (.inr (.inr HP2.out))))⟩, by simp [intOf]; omega⟩
              · obtain rfl : q = M := by omega
                have HH0 := Lib.hid h0
                have HH1 := Lib.hid h1
                have HOO := Lib.hid hoo
                have HD1 := Lib.hid d1
                have HD2 := Lib.hid d2
                have HI := Lib.hid iff
                have HF := Lib.hid hF
                have HZN := Lib.hid hzn
                have HL := Lib.hid hL
                have HMW := Lib.hid hmw
                clear e2 hzn hm hL hb hM ho hF h0 h1 hmw hbw hoo d1 d2 iff lO mO
                go_wp2_with (refine wpList_put_part rfl 40 _ _ rfl p1 1 (finCells Term.zero) rfl rfl HH1.out (by kernel_rfl) (by show 1 + 11 ≤ 12; decide) (finCells_one _) ?_; intro w9 h9 g9 s9; clear s9)
                have h09 := HH0.out.grown g9 (fun x hx e => by injection e with e; subst e; exact HD1.out _ HH1.out.row hx)
                have o9 := HOO.out.grown g9 (fun x hx e => by injection e with e; subst e; exact (HD2.out _ hx).2 HH1.out.row)
                have hcl := close2 (b' := ⟨b.ops, Term.zero⟩) (v' := .slice AO b.ops.length cO) h09 HMW.out h9 (blk_wf _) o9 HD1.out HD2.out
                rw [HZN.out] at hcl
                exact ⟨⟨j + 1, _, _, _, by omega, by go_num, by rw [List.length_set]; exact HZN.out, set_get hkn, by rw [List.length_set]; exact HL.out, hcl, fun x hx => HF.out x ((HI.out x).2 hx), hbr.grown g9 hbr.size (fun x hx => by injection hx with hx; subst hx; exact hp1)⟩, by simp [intOf]; omega⟩
          · obtain rfl : j = L := by omega
            have HO := Lib.hid ho
            have HF := Lib.hid hF
            have HZN := Lib.hid hzn
            clear e2 hzn hm hL ho hF h0 hmw hob d0 i0 lB mB
            go_wp2_with fail
            exact ⟨⟨k + 1, zs, F, by omega, by go_num, HZN.out, HO.out, HF.out, hbr⟩, by simp [intOf]; omega⟩
      · obtain rfl : k = 4 := by omega
        clear ho hF hzn
        obtain ⟨x0, x1, x2, x3⟩ := (r8.below hbr).graph
        obtain ⟨q0, q1, q2, q3⟩ := (rw8.below hbr).graph
        go_wp2_with fail
        refine (same_calls _ _ _ _ _ _ _ g.blocks _ (Kd.C_mono hbr C8) (Kd.C_mono hbr CW8) hlm).mono ?_
        rintro e w9 ⟨rfl, hb9⟩
        go_wp2_with fail
        go_ret
        have t9 := t8.trans (hbr.mono t8.size)
        exact ⟨rfl, t9.trans (hb9.mono t9.size)⟩
end Go.Proofs.Ytokkngfgppikkaa
