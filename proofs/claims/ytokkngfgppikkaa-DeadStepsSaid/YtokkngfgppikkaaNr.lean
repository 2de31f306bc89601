/- DeadSteps returns true: for every graph, right and small, instructions that do nothing, put ahead of the others of a block of the swept graph, are swept out of it again. Printed by genNr.py of this repository. -/
import Derived.Test.YtokkngfgppikkaaNo
import Derived.Test.YtokkngfgppikkaaEg
import Derived.IntWalk
namespace Go.Proofs.Ytokkngfgppikkaa
set_option linter.unusedVariables false
set_option linter.unusedSimpArgs false
open Go.RowKit

def noneOp : Op := ⟨⟨24, 0, 0, 0, 0⟩, false, 0, 0, 0⟩
def addOp (i : Nat) : Op := ⟨⟨8, 0, 1 + (i : Int), 0, i⟩, false, 0, 0, 0⟩
def preOps : Nat → List Op
  | 0 => []
  | i + 1 => [noneOp, addOp i] ++ preOps i
theorem preOps_len : ∀ i, (preOps i).length = 2 * i
  | 0 => rfl
  | i + 1 => by
    have := preOps_len i
    show ([noneOp, addOp i] ++ preOps i).length = _
    rw [List.length_append, this]
    show 2 + 2 * i = _
    omega
theorem none_right (f d : Int) : noneOp.right f d = true := rfl
theorem add_right {i : Nat} (h : i ≤ 14) (f d : Int) : (addOp i).right f d = true := by
  have hi : ∀ i : Fin 15, (Ins.right ⟨8, 0, 1 + (i.val : Int), 0, (i.val : Int)⟩) = true := by decide
  have := hi ⟨i, by omega⟩
  unfold Op.right addOp
  simp only [this]
  rfl
theorem none_idle (a : Nat) : idleO noneOp a := ⟨rfl, .inl (by decide)⟩
theorem add_idle (i a : Nat) : idleO (addOp i) a := ⟨rfl, .inl (by show writes 8 0 < 0; decide)⟩
theorem le_opsN {bs : List Block} {b : Block} (h : b ∈ bs) : b.ops.length ≤ opsN bs := by
  induction bs with
  | nil => cases h
  | cons c r ih =>
    rw [List.mem_cons] at h
    unfold opsN at *
    rw [List.map_cons, List.sum_cons]
    rcases h with rfl | h
    · omega
    · have := ih h; omega
def padB (b : Block) (i : Nat) : Block := ⟨preOps i ++ b.ops, b.fin⟩
theorem pad_right {bs : List Block} {k : Nat} {b : Block} {f d : Int} (h : blocksRight bs f d = true) (hb : bs[k]? = some b) : ∀ i, i ≤ 8 → blocksRight (bs.set k (padB b i)) f d = true := by
  intro i hi
  rw [blocksRight_iff] at h ⊢
  rw [List.length_set]
  refine ⟨fun x hx => ?_, h.2⟩
  rcases mem_setB hx with hx | rfl
  · exact h.1 x hx
  · have hbr := Block.right_iff.1 (h.1 b (List.mem_of_getElem? hb))
    refine Block.right_iff.2 ⟨fun o ho => ?_, hbr.2⟩
    have hpre : ∀ j, j ≤ 8 → ∀ o ∈ preOps j, o.right f d = true := by
      intro j
      induction j with
      | zero => intro _ o ho; cases ho
      | succ j ih =>
        intro hj o ho
        rw [show preOps (j + 1) = noneOp :: addOp j :: preOps j from rfl, List.mem_cons, List.mem_cons] at ho
        rcases ho with rfl | rfl | ho
        · exact none_right f d
        · exact add_right (by omega) f d
        · exact ih (by omega) o ho
    rw [show (padB b i).ops = preOps i ++ b.ops from rfl, List.mem_append] at ho
    exact ho.elim (hpre i hi o) (hbr.1 o)
/-- What is put ahead is swept out again. -/
theorem pad_swept {bs : List Block} {k : Nat} {b : Block} (hok : BsOk bs) (hb : bs[k]? = some b) : ∀ i, i ≤ 8 → SwR (bs.set k (padB b i)) bs
  | 0, _ => by
    have : bs.set k (padB b 0) = bs := set_same hb
    rw [this]
    exact .refl
  | i + 1, hi => by
    obtain ⟨f, d, hr⟩ := hok
    have hk := (List.getElem?_eq_some_iff.1 hb).1
    have hget : ∀ c : Block, (bs.set k c)[k]? = some c := fun c => by rw [List.getElem?_set, if_pos rfl, if_pos hk]
    have hok1 : BsOk (bs.set k (padB b (i + 1))) := ⟨f, d, pad_right hr hb (i + 1) hi⟩
    obtain ⟨x1, l1⟩ := live_exists hok1
    have s1 : Sw (bs.set k (padB b (i + 1))) (bs.set k ⟨addOp i :: (preOps i ++ b.ops), b.fin⟩) := ⟨k, _, [], noneOp, addOp i :: (preOps i ++ b.ops), x1, hget _, rfl, l1, none_idle _, by rw [List.set_set]; rfl⟩
    obtain ⟨x2, l2⟩ := live_exists (s1.ok hok1)
    have s2 : Sw (bs.set k ⟨addOp i :: (preOps i ++ b.ops), b.fin⟩) (bs.set k (padB b i)) := ⟨k, _, [], addOp i, preOps i ++ b.ops, x2, hget _, rfl, l2, add_idle _ _, by rw [List.set_set]; rfl⟩
    exact ((SwR.refl.step s1).step s2).trans (pad_swept ⟨f, d, hr⟩ hb i (by omega))
theorem two_K {i : Nat} (h : (addOp i).wf) {w : World} : ∀ (j : Nat) (x : Op) (cs : List Value), [noneOp, addOp i][j]? = some x → [opCells noneOp, opCells (addOp i)][j]? = some cs → kOp.K w x cs := by
  intro j x cs hx hc
  match j with
  | 0 => simp at hx hc; subst hx hc; exact kOp_mk w noneOp (by unfold Op.wf; decide)
  | 1 => simp at hx hc; subst hx hc; exact kOp_mk w (addOp i) h
  | j + 2 => simp at hx
theorem Row.keep3 {w w1 w2 : World} {g q : Nat} {T : TypeId} {cs : List Value} (h : Row w g T cs) (hb : Below w.heap.size w w1) (hg : w1.grownBy w2 (some q)) (hl : g < w.heap.size) (hne : q ≠ g) : Row w2 g T cs := (h.below hb).grown hg (fun e => by injection e with e; exact hne e)
theorem addOp_wf {i : Nat} (h : i ≤ 100) : (addOp i).wf := by
  have z : ∀ n : Int, 0 ≤ n → n ≤ 1000 → (Lit.int .i64 n).wf = true := fun n h0 h1 => Wf64 (by omega)
  exact ⟨z 8 (by omega) (by omega), z 0 (by omega) (by omega), z (1 + (i : Int)) (by omega) (by omega), z 0 (by omega) (by omega), z i (by omega) (by omega), z 0 (by omega) (by omega), z 0 (by omega) (by omega), z 0 (by omega) (by omega)⟩

set_option maxHeartbeats 16000000 in
set_option maxRecDepth 100000 in
theorem deadSteps_law (w : World) (g : Graph) (wf : g.wf) (A : Option Addr) (c : Nat) (hlc : g.blocks.length ≤ c) (hcm : c ≤ maxLen) (hC : kBlock.C w A g.blocks) (x : Int) (hx : (Lit.int .u8 x).wf = true) (y : Int) (hy : (Lit.int .u8 y).wf = true) : Calls Try.prog 10 #[.agg #[.string g.name, .bool g.keep, .bool g.leaf, .slice A g.blocks.length c], .int .u8 x, .int .u8 y] w fun e w' => e = .returned (.bool true) ∧ Below w.heap.size w w' := by
  obtain ⟨hx0, hx1⟩ := u8_bounds' hx
  obtain ⟨hy0, hy1⟩ := u8_bounds' hy
  clear hx hy
  clear wf
  have hlm := Nat.le_trans hlc hcm
  have hlm' : g.blocks.length ≤ 9223372036854775807 := hlm
  have b0 := below_alloc' w (.cells #[.string g.name, .bool g.keep, .bool g.leaf, .slice A g.blocks.length c] 33)
  have r0 : Row (w.alloc (.cells #[.string g.name, .bool g.keep, .bool g.leaf, .slice A g.blocks.length c] 33)) w.heap.size 33 (graphCells (.slice A g.blocks.length c) g) := Row.new w _ _
  cases hf : fineB g.blocks with
  | false =>
    have HF := Lib.hid hf
    clear hf
    go_enter Try.func10, Try.ntmps10
    go_upto_region 1 with fail
    generalize w.alloc (.cells #[.string g.name, .bool g.keep, .bool g.leaf, .slice A g.blocks.length c] 33) = W at *
    go_wp2_with fail
    refine (awake22_calls _).mono ?_
    rintro e w1 ⟨rfl, hb1⟩
    have r1 := r0.below hb1
    obtain ⟨x0, x1, x2, x3⟩ := r1.graph
    have t1 := b0.trans (hb1.mono b0.size)
    go_wp2_with fail
    refine (fine22_calls _ _ _ _ _ _ _ (Kd.C_mono t1 hC) hlm).mono ?_
    rw [HF.out]
    rintro e w2 ⟨rfl, hb2⟩
    have t2 := t1.trans (hb2.mono t1.size)
    have r2 := r1.below hb2
    clear x0 x1 x2 x3
    obtain ⟨x0, x1, x2, x3⟩ := r2.graph
    go_wp2_with fail
    refine (awake22_calls _).mono ?_
    rintro e w3 ⟨rfl, hb3⟩
    go_wp2_with fail
    go_ret
    exact ⟨rfl, t2.trans (hb3.mono t2.size)⟩
  | true =>
    have HF := Lib.hid hf
    obtain ⟨hfw, h30, h60, hright⟩ := fineB_parts hf
    have hok : BsOk g.blocks := ⟨1000, 1000, hright⟩
    have hpos := (blocksRight_iff.1 hright).2
    have h300 := (blocksFew_parts hfw).2
    have hl : g.blocks.length ≤ 1000 := by omega
    have HFW := Lib.hid hfw
    have HR := Lib.hid hright
    have HOK := Lib.hid hok
    have H3 := Lib.hid h300
    have HLEAD := Lib.hid hok.leads
    clear hf hfw hright hok h300
    go_enter Try.func10, Try.ntmps10
    go_upto_region 1 with fail
    generalize w.alloc (.cells #[.string g.name, .bool g.keep, .bool g.leaf, .slice A g.blocks.length c] 33) = W at *
    go_wp2_with fail
    refine (awake22_calls _).mono ?_
    rintro e w1 ⟨rfl, hb1⟩
    have r1 := r0.below hb1
    obtain ⟨x0, x1, x2, x3⟩ := r1.graph
    have t1 := b0.trans (hb1.mono b0.size)
    go_wp2_with fail
    refine (fine22_calls _ _ _ _ _ _ _ (Kd.C_mono t1 hC) hlm).mono ?_
    rw [HF.out]
    rintro e w2 ⟨rfl, hb2⟩
    have t2 := t1.trans (hb2.mono t1.size)
    have r2 := r1.below hb2
    clear x0 x1 x2 x3
    obtain ⟨x0, x1, x2, x3⟩ := r2.graph
    have C2 := Kd.C_mono t2 hC
    clear hb1 hb2 t1 r0 r1 b0 hC
    obtain ⟨M, hM, hMe⟩ := tmod_index' (x := y) (n := 8) hy0 (by decide)
    have hMe8 : y.tmod 8 = (M : Int) := hMe
    clear hMe
    go_wp2_with fail
    refine (sweep_calls g.name g.keep g.leaf _ c g.blocks _ C2 hl H3.out HOK.out).mono ?_
    rintro e w4 ⟨ss, hsw, AS, cs, FS, rfl, ownS, hFS, hb4⟩
    have hls := hsw.1.len
    have HLS := Lib.hid hls
    rw [hls]
    have bq := below_alloc' w4 (.cells #[.string g.name, .bool g.keep, .bool g.leaf, .slice AS g.blocks.length cs] 33)
    have rs5 : Row (w4.alloc (.cells #[.string g.name, .bool g.keep, .bool g.leaf, .slice AS g.blocks.length cs] 33)) w4.heap.size 33 (graphCells (.slice AS g.blocks.length cs) ⟨g.name, g.keep, g.leaf, ss⟩) := Row.new w4 _ _
    have CS5 := Kd.C_mono bq (own_bs_read ownS)
    have hops := hsw.1.ops H3.out
    have HFWS := Lib.hid (few_mk (bs := ss) (by omega) hops)
    have HOPS := Lib.hid hops
    have HOPS60 : Hid (∀ b ∈ ss, b.ops.length ≤ 60) := Lib.hid (fun b hb => Nat.le_trans (le_opsN hb) (Nat.le_trans hsw.1.opsN h60))
    have HOKS := Lib.hid (hsw.1.ok HOK.out)
    have HRS := Lib.hid (hsw.1.right HR.out)
    have HNORM := Lib.hid hsw.2
    clear x0 x1 x2 x3 ownS hFS hsw hops hls
    go_upto_region 4 with fail
    generalize w4.alloc (.cells #[.string g.name, .bool g.keep, .bool g.leaf, .slice AS g.blocks.length cs] 33) = w5 at *
    have t5 := t2.trans ((hb4.trans (bq.mono hb4.size)).mono t2.size)
    generalize w4.heap.size = GS at *
    obtain ⟨x0, x1, x2, x3⟩ := rs5.graph
    clear hb4 bq C2 r2 t2
    have hcp := copy_calls g.name g.keep g.leaf AS cs ss w5 CS5 (by rw [HLS.out]; exact hlm) HFWS.out
    rw [HLS.out] at hcp
    have HCP := Lib.hid hcp
    clear hcp
    go_wp2_with fail
    refine HCP.out.mono ?_
    rintro e w5' ⟨AH, ch, FH, e1, ownH, hFH, hb5⟩
    have hlsH := HLS.out
    rw [hlsH] at e1 ownH
    subst e1
    have bq := below_alloc' w5' (.cells #[.string g.name, .bool g.keep, .bool g.leaf, .slice AH g.blocks.length ch] 33)
    have rh6 : Row (w5'.alloc (.cells #[.string g.name, .bool g.keep, .bool g.leaf, .slice AH g.blocks.length ch] 33)) w5'.heap.size 33 (graphCells (.slice AH g.blocks.length ch) ⟨g.name, g.keep, g.leaf, ss⟩) := Row.new w5' _ _
    obtain ⟨k, hk, hke⟩ := tmod_index' (x := x) (n := g.blocks.length) hx0 hpos
    go_upto_region 5 with fail
    generalize w5'.alloc (.cells #[.string g.name, .bool g.keep, .bool g.leaf, .slice AH g.blocks.length ch] 33) = w6 at *
    have hb56 := hb5.trans (bq.mono hb5.size)
    have oH := ownH.below bq
    have hFH' : ∀ x, FH x → w5.heap.size ≤ x ∧ x ≠ w5'.heap.size := fun x hx => ⟨hFH x hx, by have := ownH.lt x hx; omega⟩
    have hGH : w5.heap.size ≤ w5'.heap.size := hb5.size
    generalize w5'.heap.size = GH at *
    obtain ⟨bk, hbk⟩ := get_some ss k (by rw [HLS.out]; exact hk)
    have h60b : bk.ops.length ≤ 60 := HOPS60.out bk (List.mem_of_getElem? hbk)
    have HBK := Lib.hid hbk
    have oH0 : OwnF oBlock 42 w6 (.slice AH g.blocks.length ch) (ss.set k (padB bk 0)) FH := by
      rw [show ss.set k (padB bk 0) = ss from set_same hbk]
      exact oH
    have HOH := Lib.hid oH0
    have HFH := Lib.hid hFH'
    have y3 := rh6.cell (j := 3) rfl
    clear x0 x1 x2 x3 ownH hFH hb5 bq oH oH0 hFH' hbk hlsH HCP
    go_wp2_with fail
    go_loopw [10] (fun v wr => ∃ (i : Nat) (F : Nat → Prop), i ≤ M ∧ v = .int .i64 i ∧ OwnF oBlock 42 wr (.slice AH g.blocks.length ch) (ss.set k (padB bk i)) F ∧ (∀ x, F x → w5.heap.size ≤ x ∧ x ≠ GH) ∧ Row wr GH 33 (graphCells (.slice AH g.blocks.length ch) ⟨g.name, g.keep, g.leaf, ss⟩) ∧ Below w5.heap.size w5 wr) (fun v _ => M - (intOf v).toNat)
    case atStart => exact ⟨0, FH, Nat.zero_le _, rfl, HOH.out, HFH.out, rh6, hb56⟩
    case round =>
      clear y3
      obtain ⟨i, F, hi, rfl, ho, hF, r3, hbr⟩ := hrel
      have y3 := r3.cell (j := 3) rfl
      by_cases hlt : i < M
      · have hbm := set_get (xs := ss) (x := padB bk i) (k := k) (by rw [HLS.out]; exact hk)
        have hlb : (ss.set k (padB bk i)).length = g.blocks.length := by rw [List.length_set]; exact HLS.out
        have hnx : (ss.set k (padB bk i)).set k (padB bk (i + 1)) = ss.set k (padB bk (i + 1)) := List.set_set ..
        have hos : [noneOp, addOp i] ++ (padB bk i).ops = (padB bk (i + 1)).ops := by
          show [noneOp, addOp i] ++ (preOps i ++ bk.ops) = ([noneOp, addOp i] ++ preOps i) ++ bk.ops
          rw [List.append_assoc]
        obtain ⟨g1, q1, cs1, Fi, F0, e0, lq, mq, h0, hO, d0, iff0⟩ := ho.open_ hbm
        injection e0 with e01 e02 e03
        subst e01 e03
        clear e02
        obtain ⟨vold, rfl, hwf, oo⟩ := hO
        obtain ⟨AO, cO, hvO, lO, mO, CO⟩ := oo.read
        have hlo1 : (padB bk i).ops.length = 2 * i + bk.ops.length := by
          show (preOps i ++ bk.ops).length = _
          rw [List.length_append, preOps_len]
        obtain ⟨LO, hLO⟩ : ∃ LO, LO = (padB bk i).ops.length := ⟨_, rfl⟩
        rw [← hLO] at hvO lO
        have hloi := len_le lO mO
        have hlo2 : LO ≤ 100 := by omega
        have HLO := Lib.hid hLO.symm
        have hF0 : ∀ x, F0 x → (w5.heap.size ≤ x ∧ x ≠ GH) ∧ x < wr.heap.size := fun x hx => ⟨hF x ((iff0 x).2 (.inl hx)), ho.lt x ((iff0 x).2 (.inl hx))⟩
        have HF0 := Lib.hid hF0
        have HG1 := Lib.hid (hF0 g1 h0.row)
        have HH := Lib.hid h0
        have HLB := Lib.hid hlb
        have HWI : Hid (addOp i).wf := Lib.hid (addOp_wf (by omega))
        have hwf' : (⟨(padB bk (i + 1)).ops, bk.fin⟩ : Block).wf := hwf
        have HWF := Lib.hid hwf'
        have hnx' : (ss.set k (padB bk i)).set k ⟨(padB bk (i + 1)).ops, bk.fin⟩ = ss.set k (padB bk (i + 1)) := hnx
        have f0 : wr.cell? ⟨g1, k * 12, none⟩ = some (.slice AO LO cO) := by rw [← hvO]; exact h0.cell (j := 0) rfl
        generalize (padB bk (i + 1)).ops = os1 at *
        have HOS := Lib.hid hos
        have HNX := Lib.hid hnx'
        obtain ⟨bsi, hbsi⟩ : ∃ bsi, bsi = ss.set k (padB bk i) := ⟨_, rfl⟩
        rw [← hbsi] at HH HLB HNX
        have hi15 : i ≤ 100 := by omega
        clear hbm hlb hnx hnx' hos ho hF h0 d0 iff0 oo hF0 hLO hlo1 hwf hwf' hvO hbsi lO mO
        have hwr : IntKind.i64.wrap (1 + (i : Int)) = 1 + (i : Int) := IntWalk.i64_in _ (by omega)
        go_upto_region 9 with fail
        refine wp_region_held_drew (S := (fun w' => w'.cell? ⟨GH, 3, none⟩ = some (.slice (some ⟨g1, 0, none⟩) g.blocks.length ch))) (by kernel_rfl) (y3) (fun hHeld => ?_)
        refine wpAnyH_take (i := 0) (oi := _) (v := ?v9m1_1) rfl (by kernel_rfl) (by kernel_rfl) (by kernel_rfl) (fun _ _ _ h => h) (Or.inl ⟨by rfl, ?hy9m1_1⟩) hHeld ?_
        case hy9m1_1 => (intro wS hSw; (try dsimp only at hSw); skip; go_simp; try with_reducible rfl)
        try simp only [List.getElem_toArray, List.getElem_cons_succ, List.getElem_cons_zero, Act.put, List.setIfInBounds_toArray, List.set_cons_zero, List.set_cons_succ]
        refine wpAnyH_take (i := 1) (oi := _) (v := ?v9m1_2) rfl (by kernel_rfl) (by kernel_rfl) (by kernel_rfl) (fun _ _ _ h => h) (Or.inl ⟨by rfl, ?hy9m1_2⟩) hHeld ?_
        case hy9m1_2 => (intro wS hSw; (try dsimp only at hSw); skip; go_simp; try with_reducible rfl)
        try simp only [List.getElem_toArray, List.getElem_cons_succ, List.getElem_cons_zero, Act.put, List.setIfInBounds_toArray, List.set_cons_zero, List.set_cons_succ]
        refine wpAnyH_take (i := 2) (oi := _) (v := ?v9m1_3) rfl (by kernel_rfl) (by kernel_rfl) (by kernel_rfl) (fun _ _ _ h => h) (Or.inl ⟨by rfl, ?hy9m1_3⟩) hHeld ?_
        case hy9m1_3 => (intro wS hSw; (try dsimp only at hSw); skip; go_simp; try with_reducible rfl)
        try simp only [List.getElem_toArray, List.getElem_cons_succ, List.getElem_cons_zero, Act.put, List.setIfInBounds_toArray, List.set_cons_zero, List.set_cons_succ]
        refine wpAnyH_take (i := 3) (oi := _) (v := ?v9m1_4) rfl (by kernel_rfl) (by kernel_rfl) (by kernel_rfl) (fun _ _ _ h => h) (Or.inl ⟨by rfl, ?hy9m1_4⟩) hHeld ?_
        case hy9m1_4 => (intro wS hSw; (try dsimp only at hSw); skip; go_simp; try with_reducible rfl)
        try simp only [List.getElem_toArray, List.getElem_cons_succ, List.getElem_cons_zero, Act.put, List.setIfInBounds_toArray, List.set_cons_zero, List.set_cons_succ]
        refine wpAnyH_take (i := 4) (oi := _) (v := ?v9m1_5) rfl (by kernel_rfl) (by kernel_rfl) (by kernel_rfl) (fun _ _ _ h => h) (Or.inl ⟨by rfl, ?hy9m1_5⟩) hHeld ?_
        case hy9m1_5 => (intro wS hSw; (try dsimp only at hSw); skip; go_simp; try with_reducible rfl)
        try simp only [List.getElem_toArray, List.getElem_cons_succ, List.getElem_cons_zero, Act.put, List.setIfInBounds_toArray, List.set_cons_zero, List.set_cons_succ]
        refine wpAnyH_take (i := 5) (oi := _) (v := ?v9m1_6) rfl (by kernel_rfl) (by kernel_rfl) (by kernel_rfl) (fun _ _ _ h => h) (Or.inl ⟨by rfl, ?hy9m1_6⟩) hHeld ?_
        case hy9m1_6 => (intro wS hSw; (try dsimp only at hSw); skip; go_simp; try with_reducible rfl)
        try simp only [List.getElem_toArray, List.getElem_cons_succ, List.getElem_cons_zero, Act.put, List.setIfInBounds_toArray, List.set_cons_zero, List.set_cons_succ]
        refine wpAnyH_take (i := 6) (oi := _) (v := ?v9m1_7) rfl (by kernel_rfl) (by kernel_rfl) (by kernel_rfl) (fun _ _ _ h => h) (Or.inl ⟨by rfl, ?hy9m1_7⟩) hHeld ?_
        case hy9m1_7 => (intro wS hSw; (try dsimp only at hSw); skip; go_simp; try with_reducible rfl)
        try simp only [List.getElem_toArray, List.getElem_cons_succ, List.getElem_cons_zero, Act.put, List.setIfInBounds_toArray, List.set_cons_zero, List.set_cons_succ]
        refine wpAnyH_take (i := 7) (oi := _) (v := ?v9m1_8) rfl (by kernel_rfl) (by kernel_rfl) (by kernel_rfl) (fun _ _ _ h => h) (Or.inl ⟨by rfl, ?hy9m1_8⟩) hHeld ?_
        case hy9m1_8 => (intro wS hSw; (try dsimp only at hSw); skip; go_simp; try with_reducible rfl)
        try simp only [List.getElem_toArray, List.getElem_cons_succ, List.getElem_cons_zero, Act.put, List.setIfInBounds_toArray, List.set_cons_zero, List.set_cons_succ]
        refine wpAnyH_take (i := 8) (oi := _) (v := ?v9m1_9) rfl (by kernel_rfl) (by kernel_rfl) (by kernel_rfl) (fun _ _ _ h => h) (Or.inl ⟨by rfl, ?hy9m1_9⟩) hHeld ?_
        case hy9m1_9 => (intro wS hSw; (try dsimp only at hSw); skip; go_simp; try with_reducible rfl)
        try simp only [List.getElem_toArray, List.getElem_cons_succ, List.getElem_cons_zero, Act.put, List.setIfInBounds_toArray, List.set_cons_zero, List.set_cons_succ]
        refine wpAnyH_take (i := 9) (oi := _) (v := ?v9m1_10) rfl (by kernel_rfl) (by kernel_rfl) (by kernel_rfl) (fun _ _ _ h => h) (Or.inl ⟨by rfl, ?hy9m1_10⟩) hHeld ?_
        case hy9m1_10 => (intro wS hSw; (try dsimp only at hSw); skip; go_simp; try with_reducible rfl)
        try simp only [List.getElem_toArray, List.getElem_cons_succ, List.getElem_cons_zero, Act.put, List.setIfInBounds_toArray, List.set_cons_zero, List.set_cons_succ]
        refine wpAnyH_take (i := 11) (oi := _) (v := ?v9m1_11) rfl (by kernel_rfl) (by kernel_rfl) (by kernel_rfl) (fun _ _ _ h => h) (Or.inl ⟨by rfl, ?hy9m1_11⟩) hHeld ?_
        case hy9m1_11 => (intro wS hSw; (try dsimp only at hSw); skip; go_simp; try with_reducible rfl)
        try simp only [List.getElem_toArray, List.getElem_cons_succ, List.getElem_cons_zero, Act.put, List.setIfInBounds_toArray, List.set_cons_zero, List.set_cons_succ]
        refine wpAnyH_take (i := 12) (oi := _) (v := ?v9m1_12) rfl (by kernel_rfl) (by kernel_rfl) (by kernel_rfl) (fun _ _ _ h => h) (Or.inl ⟨by rfl, ?hy9m1_12⟩) hHeld ?_
        case hy9m1_12 => (intro wS hSw; (try dsimp only at hSw); skip; go_simp; try with_reducible rfl)
        try simp only [List.getElem_toArray, List.getElem_cons_succ, List.getElem_cons_zero, Act.put, List.setIfInBounds_toArray, List.set_cons_zero, List.set_cons_succ]
        refine wpAnyH_take (i := 13) (oi := _) (v := ?v9m1_13) rfl (by kernel_rfl) (by kernel_rfl) (by kernel_rfl) (fun _ _ _ h => h) (Or.inl ⟨by rfl, ?hy9m1_13⟩) hHeld ?_
        case hy9m1_13 => (intro wS hSw; (try dsimp only at hSw); skip; go_simp; try with_reducible rfl)
        try simp only [List.getElem_toArray, List.getElem_cons_succ, List.getElem_cons_zero, Act.put, List.setIfInBounds_toArray, List.set_cons_zero, List.set_cons_succ]
        refine wpAnyH_take (i := 14) (oi := _) (v := ?v9m1_14) rfl (by kernel_rfl) (by kernel_rfl) (by kernel_rfl) (fun _ _ _ h => h) (Or.inl ⟨by rfl, ?hy9m1_14⟩) hHeld ?_
        case hy9m1_14 => (intro wS hSw; (try dsimp only at hSw); skip; go_simp; try with_reducible rfl)
        try simp only [List.getElem_toArray, List.getElem_cons_succ, List.getElem_cons_zero, Act.put, List.setIfInBounds_toArray, List.set_cons_zero, List.set_cons_succ]
        refine wpAnyH_take (i := 15) (oi := _) (v := ?v9m1_15) rfl (by kernel_rfl) (by kernel_rfl) (by kernel_rfl) (fun _ _ _ h => h) (Or.inl ⟨by rfl, ?hy9m1_15⟩) hHeld ?_
        case hy9m1_15 => (intro wS hSw; (try dsimp only at hSw); skip; go_simp; try with_reducible rfl)
        try simp only [List.getElem_toArray, List.getElem_cons_succ, List.getElem_cons_zero, Act.put, List.setIfInBounds_toArray, List.set_cons_zero, List.set_cons_succ]
        refine wpAnyH_ready (rs := [10, 16]) (by kernel_rfl) (by simp) ?_
        refine (AllReadyH.cons (o := _) rfl (fun K hK => ?_) (AllReadyH.cons (o := _) rfl (fun K hK => ?_) AllReadyH.nil))
        · go_simp
          clear hwr
          have b10 : Below wr.heap.size wr (wr.drew.alloc (.cells #[.int .i64 24, .int .i64 0, .int .i64 0, .int .i64 0, .int .i64 0, .bool false, .int .i64 0, .int .i64 0, .int .i64 0, .int .i64 8, .int .i64 0, .int .i64 (1 + (i : Int)), .int .i64 0, .int .i64 (i : Int), .bool false, .int .i64 0, .int .i64 0, .int .i64 0] 44)) := (Below.refl _ _).drew.trans (below_alloc' wr.drew _)
          have own10 : OwnF oOp 44 (wr.drew.alloc (.cells #[.int .i64 24, .int .i64 0, .int .i64 0, .int .i64 0, .int .i64 0, .bool false, .int .i64 0, .int .i64 0, .int .i64 0, .int .i64 8, .int .i64 0, .int .i64 (1 + (i : Int)), .int .i64 0, .int .i64 (i : Int), .bool false, .int .i64 0, .int .i64 0, .int .i64 0] 44)) (.slice (some ⟨wr.heap.size, 0, none⟩) 2 2) [noneOp, addOp i] (fun b => b = wr.heap.size) := OwnF.lit 44 wr.drew [noneOp, addOp i] [opCells noneOp, opCells (addOp i)] #[.int .i64 24, .int .i64 0, .int .i64 0, .int .i64 0, .int .i64 0, .bool false, .int .i64 0, .int .i64 0, .int .i64 0, .int .i64 8, .int .i64 0, .int .i64 (1 + (i : Int)), .int .i64 0, .int .i64 (i : Int), .bool false, .int .i64 0, .int .i64 0, .int .i64 0] rfl rfl (by show 2 ≤ maxLen; unfold maxLen; decide) (two_K HWI.out)
          have C10 := Kd.C_mono b10 CO
          have y10 := Sub.of_below b10 _ _ y3
          have f10 : (wr.alloc (.cells #[.int .i64 24, .int .i64 0, .int .i64 0, .int .i64 0, .int .i64 0, .bool false, .int .i64 0, .int .i64 0, .int .i64 0, .int .i64 8, .int .i64 0, .int .i64 (1 + (i : Int)), .int .i64 0, .int .i64 (i : Int), .bool false, .int .i64 0, .int .i64 0, .int .i64 0] 44)).cell? ⟨g1, k * 12, none⟩ = some (.slice AO LO cO) := Sub.of_below (below_alloc' wr _) _ _ f0
          refine hK.out _ _ (y10) (fun hHeld16 => ?_)
          clear hK K hHeld
          try simp only [List.getElem_toArray, List.getElem_cons_succ, List.getElem_cons_zero, Act.put, List.setIfInBounds_toArray, List.set_cons_zero, List.set_cons_succ]
          refine wpAnyH_ready (rs := [16]) (by kernel_rfl) (by simp) ?_
          refine (AllReadyH.cons (o := _) rfl (fun K hK => ?_) AllReadyH.nil)
          go_simp
          refine hK.out _ _ (hHeld16) (fun hHeld17 => ?_)
          clear hK K hHeld16
          try simp only [List.getElem_toArray, List.getElem_cons_succ, List.getElem_cons_zero, Act.put, List.setIfInBounds_toArray, List.set_cons_zero, List.set_cons_succ]
          refine wpAnyH_ready (rs := [17]) (by kernel_rfl) (by simp) ?_
          refine (AllReadyH.cons (o := _) rfl (fun K hK => ?_) AllReadyH.nil)
          refine step_append_f (k := oOp) elOp rfl _ _ rfl own10 (YF.flat C10) (fun _ _ h => h) rfl (by show _ = Value.slice _ (padB bk i).ops.length _; rw [HLO.out]; rfl) (by rw [HLO.out]; show 2 + _ ≤ _; omega) ?_
          intro v17 w17 hg17
          obtain ⟨⟨F17, own17, hF17⟩, hgr17⟩ := hg17
          have t17 : Below wr.heap.size wr w17 := b10.grown hgr17 b10.size (fun j hj => by (injection hj with hj; subst hj; exact Nat.le_refl _))
          have hF17p : ∀ b, F17 b → wr.heap.size ≤ b := fun b hb => by (rcases hF17 b hb with h | h | h; exact Nat.le_of_eq h.symm; exact h.elim; exact Nat.le_trans b10.size h)
          have y17 := Sub.of_below t17 _ _ y3
          rw [HOS.out] at own17
          obtain ⟨A17, d17, rfl, l17, m17, -⟩ := own17.read
          have h17 := HH.out.below t17
          have f17 := h17.frozen (k * 12)
          have c17 : w17.cell? ⟨g1, k * 12, none⟩ = some vold := h17.cell (j := 0) rfl
          have O17 := Lib.hid own17
          refine hK.out _ _ (y17) (fun hHeld18 => ?_)
          clear hK K hHeld17
          try simp only [List.getElem_toArray, List.getElem_cons_succ, List.getElem_cons_zero, Act.put, List.setIfInBounds_toArray, List.set_cons_zero, List.set_cons_succ]
          refine wpAnyH_take (i := 18) (oi := _) (v := ?v9m1_19) rfl (by kernel_rfl) (by kernel_rfl) (by kernel_rfl) (fun _ _ _ h => h) (Or.inl ⟨by rfl, ?hy9m1_19⟩) hHeld18 ?_
          case hy9m1_19 => (intro wS hSw; (try dsimp only at hSw); skip; go_simp; try with_reducible rfl)
          try simp only [List.getElem_toArray, List.getElem_cons_succ, List.getElem_cons_zero, Act.put, List.setIfInBounds_toArray, List.set_cons_zero, List.set_cons_succ]
          refine wpAnyH_take (i := 19) (oi := _) (v := ?v9m1_20) rfl (by kernel_rfl) (by kernel_rfl) (by kernel_rfl) (fun _ _ _ h => h) (Or.inl ⟨by rfl, ?hy9m1_20⟩) hHeld18 ?_
          case hy9m1_20 => (intro wS hSw; (try dsimp only at hSw); skip; go_simp; try with_reducible rfl)
          try simp only [List.getElem_toArray, List.getElem_cons_succ, List.getElem_cons_zero, Act.put, List.setIfInBounds_toArray, List.set_cons_zero, List.set_cons_succ]
          refine wpAnyH_ready (rs := [20]) (by kernel_rfl) (by simp) ?_
          refine (AllReadyH.cons (o := _) rfl (fun K hK => ?_) AllReadyH.nil)
          go_simp
          have hs20 := h17.set (j := 0) (by decide) (.slice A17 os1.length d17)
          have g20 := grown_set w17 g1 (k * 12) (.slice A17 os1.length d17)
          have y20 := g20.cell y17 (by simp; have := HG1.out; omega)
          refine hK.out _ _ (y20) (fun hHeld21 => ?_)
          clear hK K hHeld18
          try simp only [List.getElem_toArray, List.getElem_cons_succ, List.getElem_cons_zero, Act.put, List.setIfInBounds_toArray, List.set_cons_zero, List.set_cons_succ]
          refine wpAnyH_done (by kernel_rfl) ?_ _
          have h21 : HoleF oBlock 42 (w17.setCell ⟨g1, k * 12, none⟩ (.slice A17 os1.length d17)) g1 ch bsi k (blockCells (.slice A17 os1.length d17) ⟨os1, bk.fin⟩) F0 := hs20
          have hcl := h21.close (y := ⟨os1, bk.fin⟩) (Gi := F17) ⟨_, rfl, HWF.out, O17.out.grown g20 (fun x hx e => by injection e with e; subst e; have := hF17p _ hx; have := HG1.out.2; omega)⟩ (fun x hx hx' => by have := hF17p x hx; have := (HF0.out x hx').2; omega)
          rw [HLB.out, HNX.out] at hcl
          have hFn : ∀ x, F0 x ∨ F17 x → w5.heap.size ≤ x ∧ x ≠ GH := fun x hx => by
            rcases hx with h | h
            · exact (HF0.out x h).1
            · have := hF17p x h; have := hbr.size; have := r3.lt; constructor <;> omega
          have HCL := Lib.hid hcl
          clear hs20 h21 hcl own10 own17
          go_wp2_with fail
          exact ⟨⟨i + 1, _, by omega, by go_num, HCL.out, hFn, r3.keep3 t17 g20 (by have := r3.lt; omega) HG1.out.1.2, (hbr.trans (t17.mono hbr.size)).grown g20 (by have := hbr.size; have := t17.size; omega) (fun j hj => by injection hj with hj; have := HG1.out.1.1; omega)⟩, by simp [intOf]; omega⟩
        · go_simp
          refine hK.out _ _ (hHeld) (fun hHeld22 => ?_)
          clear hK K hHeld
          try simp only [List.getElem_toArray, List.getElem_cons_succ, List.getElem_cons_zero, Act.put, List.setIfInBounds_toArray, List.set_cons_zero, List.set_cons_succ]
          refine wpAnyH_ready (rs := [10]) (by kernel_rfl) (by simp) ?_
          refine (AllReadyH.cons (o := _) rfl (fun K hK => ?_) AllReadyH.nil)
          go_simp
          clear hwr
          have b10 : Below wr.heap.size wr (wr.drew.alloc (.cells #[.int .i64 24, .int .i64 0, .int .i64 0, .int .i64 0, .int .i64 0, .bool false, .int .i64 0, .int .i64 0, .int .i64 0, .int .i64 8, .int .i64 0, .int .i64 (1 + (i : Int)), .int .i64 0, .int .i64 (i : Int), .bool false, .int .i64 0, .int .i64 0, .int .i64 0] 44)) := (Below.refl _ _).drew.trans (below_alloc' wr.drew _)
          have own10 : OwnF oOp 44 (wr.drew.alloc (.cells #[.int .i64 24, .int .i64 0, .int .i64 0, .int .i64 0, .int .i64 0, .bool false, .int .i64 0, .int .i64 0, .int .i64 0, .int .i64 8, .int .i64 0, .int .i64 (1 + (i : Int)), .int .i64 0, .int .i64 (i : Int), .bool false, .int .i64 0, .int .i64 0, .int .i64 0] 44)) (.slice (some ⟨wr.heap.size, 0, none⟩) 2 2) [noneOp, addOp i] (fun b => b = wr.heap.size) := OwnF.lit 44 wr.drew [noneOp, addOp i] [opCells noneOp, opCells (addOp i)] #[.int .i64 24, .int .i64 0, .int .i64 0, .int .i64 0, .int .i64 0, .bool false, .int .i64 0, .int .i64 0, .int .i64 0, .int .i64 8, .int .i64 0, .int .i64 (1 + (i : Int)), .int .i64 0, .int .i64 (i : Int), .bool false, .int .i64 0, .int .i64 0, .int .i64 0] rfl rfl (by show 2 ≤ maxLen; unfold maxLen; decide) (two_K HWI.out)
          have C10 := Kd.C_mono b10 CO
          have y10 := Sub.of_below b10 _ _ y3
          have f10 : (wr.alloc (.cells #[.int .i64 24, .int .i64 0, .int .i64 0, .int .i64 0, .int .i64 0, .bool false, .int .i64 0, .int .i64 0, .int .i64 0, .int .i64 8, .int .i64 0, .int .i64 (1 + (i : Int)), .int .i64 0, .int .i64 (i : Int), .bool false, .int .i64 0, .int .i64 0, .int .i64 0] 44)).cell? ⟨g1, k * 12, none⟩ = some (.slice AO LO cO) := Sub.of_below (below_alloc' wr _) _ _ f0
          refine hK.out _ _ (y10) (fun hHeld23 => ?_)
          clear hK K hHeld22
          try simp only [List.getElem_toArray, List.getElem_cons_succ, List.getElem_cons_zero, Act.put, List.setIfInBounds_toArray, List.set_cons_zero, List.set_cons_succ]
          refine wpAnyH_ready (rs := [17]) (by kernel_rfl) (by simp) ?_
          refine (AllReadyH.cons (o := _) rfl (fun K hK => ?_) AllReadyH.nil)
          refine step_append_f (k := oOp) elOp rfl _ _ rfl own10 (YF.flat C10) (fun _ _ h => h) rfl (by show _ = Value.slice _ (padB bk i).ops.length _; rw [HLO.out]; rfl) (by rw [HLO.out]; show 2 + _ ≤ _; omega) ?_
          intro v17 w17 hg17
          obtain ⟨⟨F17, own17, hF17⟩, hgr17⟩ := hg17
          have t17 : Below wr.heap.size wr w17 := b10.grown hgr17 b10.size (fun j hj => by (injection hj with hj; subst hj; exact Nat.le_refl _))
          have hF17p : ∀ b, F17 b → wr.heap.size ≤ b := fun b hb => by (rcases hF17 b hb with h | h | h; exact Nat.le_of_eq h.symm; exact h.elim; exact Nat.le_trans b10.size h)
          have y17 := Sub.of_below t17 _ _ y3
          rw [HOS.out] at own17
          obtain ⟨A17, d17, rfl, l17, m17, -⟩ := own17.read
          have h17 := HH.out.below t17
          have f17 := h17.frozen (k * 12)
          have c17 : w17.cell? ⟨g1, k * 12, none⟩ = some vold := h17.cell (j := 0) rfl
          have O17 := Lib.hid own17
          refine hK.out _ _ (y17) (fun hHeld24 => ?_)
          clear hK K hHeld23
          try simp only [List.getElem_toArray, List.getElem_cons_succ, List.getElem_cons_zero, Act.put, List.setIfInBounds_toArray, List.set_cons_zero, List.set_cons_succ]
          refine wpAnyH_take (i := 18) (oi := _) (v := ?v9m1_25) rfl (by kernel_rfl) (by kernel_rfl) (by kernel_rfl) (fun _ _ _ h => h) (Or.inl ⟨by rfl, ?hy9m1_25⟩) hHeld24 ?_
          case hy9m1_25 => (intro wS hSw; (try dsimp only at hSw); skip; go_simp; try with_reducible rfl)
          try simp only [List.getElem_toArray, List.getElem_cons_succ, List.getElem_cons_zero, Act.put, List.setIfInBounds_toArray, List.set_cons_zero, List.set_cons_succ]
          refine wpAnyH_take (i := 19) (oi := _) (v := ?v9m1_26) rfl (by kernel_rfl) (by kernel_rfl) (by kernel_rfl) (fun _ _ _ h => h) (Or.inl ⟨by rfl, ?hy9m1_26⟩) hHeld24 ?_
          case hy9m1_26 => (intro wS hSw; (try dsimp only at hSw); skip; go_simp; try with_reducible rfl)
          try simp only [List.getElem_toArray, List.getElem_cons_succ, List.getElem_cons_zero, Act.put, List.setIfInBounds_toArray, List.set_cons_zero, List.set_cons_succ]
          refine wpAnyH_ready (rs := [20]) (by kernel_rfl) (by simp) ?_
          refine (AllReadyH.cons (o := _) rfl (fun K hK => ?_) AllReadyH.nil)
          go_simp
          have hs20 := h17.set (j := 0) (by decide) (.slice A17 os1.length d17)
          have g20 := grown_set w17 g1 (k * 12) (.slice A17 os1.length d17)
          have y20 := g20.cell y17 (by simp; have := HG1.out; omega)
          refine hK.out _ _ (y20) (fun hHeld27 => ?_)
          clear hK K hHeld24
          try simp only [List.getElem_toArray, List.getElem_cons_succ, List.getElem_cons_zero, Act.put, List.setIfInBounds_toArray, List.set_cons_zero, List.set_cons_succ]
          refine wpAnyH_done (by kernel_rfl) ?_ _
          have h21 : HoleF oBlock 42 (w17.setCell ⟨g1, k * 12, none⟩ (.slice A17 os1.length d17)) g1 ch bsi k (blockCells (.slice A17 os1.length d17) ⟨os1, bk.fin⟩) F0 := hs20
          have hcl := h21.close (y := ⟨os1, bk.fin⟩) (Gi := F17) ⟨_, rfl, HWF.out, O17.out.grown g20 (fun x hx e => by injection e with e; subst e; have := hF17p _ hx; have := HG1.out.2; omega)⟩ (fun x hx hx' => by have := hF17p x hx; have := (HF0.out x hx').2; omega)
          rw [HLB.out, HNX.out] at hcl
          have hFn : ∀ x, F0 x ∨ F17 x → w5.heap.size ≤ x ∧ x ≠ GH := fun x hx => by
            rcases hx with h | h
            · exact (HF0.out x h).1
            · have := hF17p x h; have := hbr.size; have := r3.lt; constructor <;> omega
          have HCL := Lib.hid hcl
          clear hs20 h21 hcl own10 own17
          go_wp2_with fail
          exact ⟨⟨i + 1, _, by omega, by go_num, HCL.out, hFn, r3.keep3 t17 g20 (by have := r3.lt; omega) HG1.out.1.2, (hbr.trans (t17.mono hbr.size)).grown g20 (by have := hbr.size; have := t17.size; omega) (fun j hj => by injection hj with hj; have := HG1.out.1.1; omega)⟩, by simp [intOf]; omega⟩
      · obtain rfl : i = M := by omega
        have hi8 : i ≤ 8 := by omega
        have hlb : (ss.set k (padB bk i)).length = g.blocks.length := by rw [List.length_set]; exact HLS.out
        have HLB := Lib.hid hlb
        have HOKI : Hid (BsOk (ss.set k (padB bk i))) := Lib.hid ⟨1000, 1000, pad_right HRS.out HBK.out i hi8⟩
        have HSWI : Hid (Swept (ss.set k (padB bk i)) ss) := Lib.hid ⟨pad_swept HOKS.out HBK.out i hi8, HNORM.out⟩
        have H300 : Hid (∀ b ∈ ss.set k (padB bk i), b.ops.length ≤ 300) := Lib.hid (fun b hb => by
          rcases mem_setB hb with hb | rfl
          · exact HOPS.out b hb
          · show (preOps i ++ bk.ops).length ≤ 300
            rw [List.length_append, preOps_len]
            omega)
        have CI := own_bs_read ho
        have hli : (ss.set k (padB bk i)).length ≤ 1000 := by rw [hlb]; exact hl
        have hlsm : ss.length ≤ maxLen := by rw [HLS.out]; exact hlm
        have rs := rs5.belowAt hbr rs5.lt
        have CSS := Kd.C_mono hbr CS5
        have rh := r3
        obtain ⟨bsi, hbsi⟩ : ∃ bsi, bsi = ss.set k (padB bk i) := ⟨_, rfl⟩
        rw [← hbsi] at HLB HOKI HSWI H300 CI hli
        clear hlb ho hF y3 hbsi
        go_upto_region 10 with fail
        refine wp_region_held_drew (S := (fun w' => SGr w' GH (.slice AH g.blocks.length ch) ⟨g.name, g.keep, g.leaf, ss⟩ ∧ SGr w' GS (.slice AS g.blocks.length cs) ⟨g.name, g.keep, g.leaf, ss⟩)) (by kernel_rfl) (⟨rh.graph, rs.graph⟩) (fun hHeld => ?_)
        refine wpAnyH_take (i := 0) (oi := _) (v := ?v10n1_0) rfl (by kernel_rfl) (by kernel_rfl) (by kernel_rfl) (fun _ _ _ h => h) (Or.inl ⟨by rfl, ?hy10n1_0⟩) hHeld ?_
        case hy10n1_0 => (intro wS hSw; (try dsimp only at hSw); obtain ⟨⟨s0, s1, s2, s3⟩, v0, v1, v2, v3⟩ := hSw; go_simp; try with_reducible rfl)
        try simp only [List.getElem_toArray, List.getElem_cons_succ, List.getElem_cons_zero, Act.put, List.setIfInBounds_toArray, List.set_cons_zero, List.set_cons_succ]
        refine wpAnyH_take (i := 2) (oi := _) (v := ?v10n1_2) rfl (by kernel_rfl) (by kernel_rfl) (by kernel_rfl) (fun _ _ _ h => h) (Or.inl ⟨by rfl, ?hy10n1_2⟩) hHeld ?_
        case hy10n1_2 => (intro wS hSw; (try dsimp only at hSw); obtain ⟨⟨s0, s1, s2, s3⟩, v0, v1, v2, v3⟩ := hSw; go_simp; try with_reducible rfl)
        try simp only [List.getElem_toArray, List.getElem_cons_succ, List.getElem_cons_zero, Act.put, List.setIfInBounds_toArray, List.set_cons_zero, List.set_cons_succ]
        refine wpAnyH_ready (rs := [1]) (by kernel_rfl) (by simp) ?_
        refine AllReadyH.cons (o := _) rfl (fun K hK => ?_) AllReadyH.nil
        go_simp
        have hc := sweep_calls g.name g.keep g.leaf AH ch bsi wr.drew (Kd.C_mono (Below.refl wr.heap.size wr).drew CI) hli H300.out HOKI.out
        rw [HLB.out] at hc
        refine hc.mono ?_
        clear hc
        rintro e v1 ⟨bsx, hsw, A1, c1, F1, rfl, own1, -, hv1⟩
        obtain rfl := (hsw.unique HOKI.out HSWI.out).symm
        have bv1 : Below wr.heap.size wr v1 := (Below.refl wr.heap.size wr).drew.trans hv1
        have C1 := own_bs_read own1
        rw [HLS.out]
        clear own1 hsw
        go_wp2_with fail
        refine hK.out _ _ (⟨(rh.below bv1).graph, (rs.below bv1).graph⟩) (fun hHeld1 => ?_)
        clear hK K hHeld
        try simp only [List.getElem_toArray, List.getElem_cons_succ, List.getElem_cons_zero, Act.put, List.setIfInBounds_toArray, List.set_cons_zero, List.set_cons_succ]
        refine wpAnyH_ready (rs := [3]) (by kernel_rfl) (by simp) ?_
        refine AllReadyH.cons (o := _) rfl (fun K hK => ?_) AllReadyH.nil
        go_simp
        have hc := same_calls g.name g.keep g.leaf A1 AS c1 cs ss v1 C1 (Kd.C_mono bv1 CSS) hlsm
        rw [HLS.out] at hc
        refine hc.mono ?_
        clear hc
        rintro e v3 ⟨rfl, hv3⟩
        have bv3 := bv1.trans (hv3.mono bv1.size)
        go_wp2_with fail
        refine hK.out _ _ (⟨(rh.below bv3).graph, (rs.below bv3).graph⟩) (fun hHeld3 => ?_)
        clear hK K hHeld1
        try simp only [List.getElem_toArray, List.getElem_cons_succ, List.getElem_cons_zero, Act.put, List.setIfInBounds_toArray, List.set_cons_zero, List.set_cons_succ]
        refine wpAnyH_take (i := 4) (oi := _) (v := ?v10n1_4) rfl (by kernel_rfl) (by kernel_rfl) (by kernel_rfl) (fun _ _ _ h => h) (Or.inl ⟨by rfl, ?hy10n1_4⟩) hHeld3 ?_
        case hy10n1_4 => (intro wS hSw; (try dsimp only at hSw); obtain ⟨⟨s0, s1, s2, s3⟩, v0, v1, v2, v3⟩ := hSw; go_simp; try with_reducible rfl)
        try simp only [List.getElem_toArray, List.getElem_cons_succ, List.getElem_cons_zero, Act.put, List.setIfInBounds_toArray, List.set_cons_zero, List.set_cons_succ]
        refine wpAnyH_done (by kernel_rfl) ?_ _
        go_wp2_with fail
        go_ret
        exact ⟨rfl, t5.trans ((hbr.trans (bv3.mono hbr.size)).mono t5.size)⟩
end Go.Proofs.Ytokkngfgppikkaa
