/- ChainWhole returns true: for every graph that is right, and whatever weights: the order has each block once, the first one first, and can be emitted. -/
import Derived.Test.YtokkngfgppikkabYr
import Derived.Test.YtokkngfgppikkabYs
namespace Go.Proofs.Ytokkngfgppikkab
set_option linter.unusedVariables false
set_option linter.unusedSimpArgs false
open Go.RowKit Go.Lib

theorem edges_wf {w : World} {A : Option Addr} {l : List Edge} (h : kEdge.C w A l) : ∀ e ∈ l, e.wf := fun e he => by
  obtain ⟨i, hi⟩ := List.mem_iff_getElem?.1 he
  obtain ⟨ad, -, -, -, -, -, hw⟩ := Edge_at h hi
  exact hw
/-- What an order of blocks is. -/
theorem order_facts {l : List Edge} {nm : ByteArray} {bs : List Block} (hld : Leads bs) (hp : 0 < bs.length) : (blocksD bs.length (edgesD l nm bs)).length = bs.length ∧ (blocksD bs.length (edgesD l nm bs))[0]? = some 0 ∧ (∀ x ∈ blocksD bs.length (edgesD l nm bs), x < bs.length) ∧ (∀ j, j < bs.length → (blocksD bs.length (edgesD l nm bs)).count j = 1) := by
  have hin := edgesD_in (l := l) (nm := nm) hld
  have hinv := runE_inv (n := bs.length) hin
  have hz := runE_zero (n := bs.length) hp (fun e he => ⟨hin e he, (edgesD_ne e he).1⟩)
  exact ⟨hinv.flat_len, zero_flat hz, fun x hx => hinv.flat_mem.1 hx, fun j hj => count_nodup hinv.flat_nodup (hinv.flat_mem.2 hj)⟩

set_option maxHeartbeats 8000000 in
set_option maxRecDepth 100000 in
theorem chainWhole_law (w : World) (g : Graph) (wf : g.wf) (A : Option Addr) (c : Nat) (hlc : g.blocks.length ≤ c) (hcm : c ≤ maxLen) (hC : kBlock.C w A g.blocks) (LA : Option Addr) (lc : Nat) (l : List Edge) (hll : l.length ≤ lc) (hlm2 : lc ≤ maxLen) (hL : kEdge.C w LA l) : Calls Try.prog 3 #[.agg #[.string g.name, .bool g.keep, .bool g.leaf, .slice A g.blocks.length c], .slice LA l.length lc] w fun e w' => e = .returned (.bool true) ∧ Below w.heap.size w w' := by
  clear wf
  have hlm := Nat.le_trans hlc hcm
  have hlm' : g.blocks.length ≤ 9223372036854775807 := hlm
  have hl2 := Nat.le_trans hll hlm2
  have hl2' : l.length ≤ 9223372036854775807 := hl2
  have HWF := Lib.hid (edges_wf hL)
  have b0 := below_alloc' w (.cells #[.string g.name, .bool g.keep, .bool g.leaf, .slice A g.blocks.length c] 24)
  have r0 : Row (w.alloc (.cells #[.string g.name, .bool g.keep, .bool g.leaf, .slice A g.blocks.length c] 24)) w.heap.size 24 (graphCells (.slice A g.blocks.length c) g) := Row.new w _ _
  go_enter Try.func3, Try.ntmps3
  go_upto_region 1 with fail
  generalize w.alloc (.cells #[.string g.name, .bool g.keep, .bool g.leaf, .slice A g.blocks.length c] 24) = W at *
  go_wp2_with fail
  refine (awake25_calls _).mono ?_
  rintro e w1 ⟨rfl, hb1⟩
  have r1 := r0.below hb1
  obtain ⟨x0, x1, x2, x3⟩ := r1.graph
  have t1 := b0.trans (hb1.mono b0.size)
  go_wp2_with fail
  cases hf : blocksFew g.blocks with
  | false =>
    refine (few_calls _ _ _ _ _ _ _ (Kd.C_mono t1 hC) hlm).mono ?_
    rw [hf]
    rintro e w2 ⟨rfl, hb2⟩
    have t2 := t1.trans (hb2.mono t1.size)
    clear x0 x1 x2 x3 hf
    go_wp2_with fail
    refine (awake25_calls _).mono ?_
    rintro e w3 ⟨rfl, hb3⟩
    go_wp2_with fail
    go_ret
    exact ⟨rfl, t2.trans (hb3.mono t2.size)⟩
  | true =>
    refine (few_calls _ _ _ _ _ _ _ (Kd.C_mono t1 hC) hlm).mono ?_
    rw [hf]
    rintro e w2 ⟨rfl, hb2⟩
    have t2 := t1.trans (hb2.mono t1.size)
    have r2 := r1.below hb2
    have HF := Lib.hid hf
    clear x0 x1 x2 x3 hf
    obtain ⟨x0, x1, x2, x3⟩ := r2.graph
    go_wp2_with fail
    cases hr : blocksRight g.blocks 1000 1000 with
    | false =>
      refine (right_calls _ _ _ _ _ _ _ _ _ (Kd.C_mono t2 hC) hlm).mono ?_
      rw [hr]
      rintro e w3 ⟨rfl, hb3⟩
      have t3 := t2.trans (hb3.mono t2.size)
      clear x0 x1 x2 x3 hr
      go_wp2_with fail
      refine (awake25_calls _).mono ?_
      rintro e w4 ⟨rfl, hb4⟩
      go_wp2_with fail
      go_ret
      exact ⟨rfl, t3.trans (hb4.mono t3.size)⟩
    | true =>
      refine (right_calls _ _ _ _ _ _ _ _ _ (Kd.C_mono t2 hC) hlm).mono ?_
      rw [hr]
      rintro e w3 ⟨rfl, hb3⟩
      have t3 := t2.trans (hb3.mono t2.size)
      have r3 := r2.below hb3
      have hok : BsOk g.blocks := ⟨1000, 1000, hr⟩
      have hpos := (blocksRight_iff.1 hr).2
      have hl200 := (blocksFew_parts HF.out).1
      have HLD := Lib.hid hok.leads
      clear x0 x1 x2 x3 hr hok
      obtain ⟨x0, x1, x2, x3⟩ := r3.graph
      by_cases h2 : l.length ≤ 200
      · have z2 : decide (200 < (l.length : Int)) = false := decide_eq_false (by omega)
        have z2' : ¬ (200 < l.length) := by omega
        have hC3 := Kd.C_mono t3 hC
        have hL3 := Kd.C_mono t3 hL
        have HL2 := Lib.hid h2
        clear h2
        go_wp2_with fail
        refine (blocks_calls g.name g.keep g.leaf _ c g.blocks LA lc l _ hC3 hL3 HWF.out hl2 (by omega) (edgesD_in HLD.out)).mono ?_
        rintro e w4 ⟨v, F, rfl, own, hF, hb4⟩
        obtain ⟨o1, o2, o3, o4⟩ := order_facts (l := l) (nm := g.name) HLD.out hpos
        obtain ⟨order, hord⟩ : ∃ order, order = blocksD g.blocks.length (edgesD l g.name g.blocks) := ⟨_, rfl⟩
        rw [← hord] at own o1 o2 o3 o4
        obtain ⟨OA, oc, rfl, -, -, CO, -⟩ := own.readN
        have r4 := r3.below hb4
        have t4 := t3.trans (hb4.mono t3.size)
        clear x0 x1 x2 x3 hord
        obtain ⟨x0, x1, x2, x3⟩ := r4.graph
        obtain ⟨go, hgo, -, cz⟩ := CO 0 0 o2
        subst hgo
        have z5 : ((order.length : Int) == (g.blocks.length : Int)) = true := by rw [o1]; simp
        have z5' : (order.length == g.blocks.length) = true := by rw [o1]; simp
        have hop : (0 : Int) < (order.length : Int) := by omega
        have hol : order.length ≤ 1000 := by omega
        have O1 := Lib.hid o1
        have O3 := Lib.hid o3
        have O4 := Lib.hid o4
        clear own o1 o3 o4
        go_wp2_with fail
        refine (ordered_calls g.name g.keep g.leaf _ c g.blocks _ oc order _ (Kd.C_mono t4 hC) CO (by omega) hol o2 O3.out O4.out HLD.out).mono ?_
        rintro e w5 ⟨rfl, hb5⟩
        go_wp2_with fail
        go_ret
        exact ⟨rfl, t4.trans (hb5.mono t4.size)⟩
      · have z2 : decide (200 < (l.length : Int)) = true := decide_eq_true (by omega)
        have z2' : 200 < l.length := by omega
        clear h2
        go_wp2_with fail
        refine (awake25_calls _).mono ?_
        rintro e w4 ⟨rfl, hb4⟩
        go_wp2_with fail
        go_ret
        exact ⟨rfl, t3.trans (hb4.mono t3.size)⟩
end Go.Proofs.Ytokkngfgppikkab
