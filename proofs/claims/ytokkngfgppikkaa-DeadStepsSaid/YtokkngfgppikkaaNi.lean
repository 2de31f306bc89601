/- Layer 22 (dead): Sweep. Printed in part by genNi.py of this repository. -/
import Derived.Test.YtokkngfgppikkaaNd
import Derived.Test.YtokkngfgppikkaaGe
import Derived.Test.YtokkngfgppikkaaEh
import Derived.Deep.RegionHeld3
namespace Go.Proofs.Ytokkngfgppikkaa
set_option linter.unusedVariables false
set_option linter.unusedSimpArgs false
open Go.RowKit

/-- Of the first q instructions those that do something. -/
def sweepTo (os : List Op) (e : Nat) : Nat → List Op
  | 0 => []
  | q + 1 => match os[q]? with
    | some o => if idleO o (aheadOps (os.drop (q + 1)) e) then sweepTo os e q else sweepTo os e q ++ [o]
    | none => sweepTo os e q
theorem sweepTo_succ {os : List Op} {e q : Nat} {o : Op} (h : os[q]? = some o) : sweepTo os e (q + 1) = if idleO o (aheadOps (os.drop (q + 1)) e) then sweepTo os e q else sweepTo os e q ++ [o] := by
  show (match os[q]? with | some o => if idleO o (aheadOps (os.drop (q + 1)) e) then sweepTo os e q else sweepTo os e q ++ [o] | none => sweepTo os e q) = _
  rw [h]
theorem sweepTo_len (os : List Op) (e : Nat) : ∀ q, (sweepTo os e q).length ≤ q
  | 0 => Nat.le_refl _
  | q + 1 => by
    have ih := sweepTo_len os e q
    cases h : os[q]? with
    | none =>
      show (match os[q]? with | some o => if idleO o (aheadOps (os.drop (q + 1)) e) then sweepTo os e q else sweepTo os e q ++ [o] | none => sweepTo os e q).length ≤ _
      rw [h]
      show (sweepTo os e q).length ≤ _
      omega
    | some o =>
      rw [sweepTo_succ h]
      split
      · omega
      · simp; omega
theorem sweepTo_split {os : List Op} {e : Nat} : ∀ q, q ≤ os.length → sweepOps os e = sweepTo os e q ++ sweepOps (os.drop q) e
  | 0, _ => rfl
  | q + 1, hq => by
    obtain ⟨o, ho⟩ := get_some os q (by omega)
    rw [sweepTo_split q (by omega), drop_at ho, sweepTo_succ ho]
    show sweepTo os e q ++ (if idleO o (aheadOps (os.drop (q + 1)) e) then sweepOps (os.drop (q + 1)) e else o :: sweepOps (os.drop (q + 1)) e) = _
    split
    · rfl
    · rw [List.append_assoc]; rfl
theorem sweepTo_all (os : List Op) (e : Nat) : sweepTo os e os.length = sweepOps os e := by
  rw [sweepTo_split os.length (Nat.le_refl _), List.drop_length]
  show _ = _ ++ []
  rw [List.append_nil]
/-- What the asking reads: an instruction, and what is live behind it. -/
def SOp (w : World) (g : Nat) (o : Op) (g6 q a : Nat) : Prop := (w.cell? ⟨g, 0, none⟩ = some (.int .i64 o.ins.op) ∧ w.cell? ⟨g, 1, none⟩ = some (.int .i64 o.ins.a) ∧ w.cell? ⟨g, 2, none⟩ = some (.int .i64 o.ins.b) ∧ w.cell? ⟨g, 3, none⟩ = some (.int .i64 o.ins.c) ∧ w.cell? ⟨g, 4, none⟩ = some (.int .i64 o.ins.imm) ∧ w.cell? ⟨g, 5, none⟩ = some (.bool o.rel) ∧ w.cell? ⟨g, 6, none⟩ = some (.int .i64 o.kind) ∧ w.cell? ⟨g, 7, none⟩ = some (.int .i64 o.to) ∧ w.cell? ⟨g, 8, none⟩ = some (.int .i64 o.add)) ∧ w.cell? ⟨g6, q, none⟩ = some (.int .u16 (a : Int))
/-- A swept graph of the call's own. -/
def SweptG (nm : ByteArray) (kp lf : Bool) (bs : List Block) (w : World) (e : Ending) (w' : World) : Prop :=
  ∃ bs', Swept bs bs' ∧ CopiedG nm kp lf bs' w e w'
/-- Blocks ahead of the n-th have nothing to sweep. -/
def CleanTo (bs : List Block) (n : Nat) : Prop := ∀ ins, IsLive bs ins → ∀ k b, k < n → bs[k]? = some b → CleanB b ins
theorem CleanTo.normal {bs : List Block} (hok : BsOk bs) (h : CleanTo bs bs.length) : Normal bs := by
  obtain ⟨ins, hL⟩ := live_exists hok
  exact normal_of_clean hL (fun k b hb => h ins hL k b (List.getElem?_eq_some_iff.1 hb).1 hb)
theorem CleanTo.step {bs : List Block} {k : Nat} {b : Block} {ins : List Nat} (h : CleanTo bs k) (hb : bs[k]? = some b) (hL : IsLive bs ins) (hs : (sweepOps b.ops (endN b.fin ins)).length = b.ops.length) : CleanTo bs (k + 1) := by
  intro ins' hL' j c hj hc
  obtain rfl := hL.unique hL'
  by_cases hjk : j < k
  · exact h ins hL j c hjk hc
  · obtain rfl : j = k := by omega
    rw [hb] at hc
    injection hc with e
    subst e
    exact fun p o q e => (sweepOps_same hs).2 p o q e
theorem sweep_set {bs : List Block} (hok : BsOk bs) {k : Nat} {b : Block} {ins : List Nat} (hb : bs[k]? = some b) (hL : IsLive bs ins) : SwR bs (bs.set k ⟨sweepOps b.ops (endN b.fin ins), b.fin⟩) := sweepOps_swr hok hb hL b.ops [] rfl
theorem sweep_same {bs : List Block} {k : Nat} {b : Block} {ins : List Nat} (hb : bs[k]? = some b) (hs : (sweepOps b.ops (endN b.fin ins)).length = b.ops.length) : bs.set k ⟨sweepOps b.ops (endN b.fin ins), b.fin⟩ = bs := by
  rw [(sweepOps_same hs).1]
  exact set_same hb
theorem sweep_less {bs : List Block} {k : Nat} {b : Block} {ins : List Nat} (hb : bs[k]? = some b) (hs : (sweepOps b.ops (endN b.fin ins)).length < b.ops.length) : opsN (bs.set k ⟨sweepOps b.ops (endN b.fin ins), b.fin⟩) < opsN bs := by
  have := opsN_set (c := ⟨sweepOps b.ops (endN b.fin ins), b.fin⟩) hb
  simp only at this
  omega

set_option maxHeartbeats 16000000 in
set_option maxRecDepth 100000 in
theorem sweep_calls (nm : ByteArray) (kp lf : Bool) (A : Option Addr) (c : Nat) (bs : List Block) (w : World) (hC : kBlock.C w A bs) (hl : bs.length ≤ 1000) (h300 : ∀ b ∈ bs, b.ops.length ≤ 300) (hok : BsOk bs) : Calls Try.prog 35 #[.agg #[.string nm, .bool kp, .bool lf, .slice A bs.length c]] w
    (SweptG nm kp lf bs w) := by
  have hlo : bs.length ≤ 9223372036854775807 := by omega
  have HOK := Lib.hid hok
  have H3 := Lib.hid h300
  clear hok h300
  obtain ⟨W, hW, b0, hz0, r0, z0⟩ := two_rows w #[.string nm, .bool kp, .bool lf, .slice A bs.length c] #[.string ⟨#[]⟩, .bool false, .bool false, .slice none 0 0] 33 33
  go_enter Try.func35, Try.ntmps35
  go_upto_region 1 with fail
  rw [← hW]
  have HZ0 := Lib.hid hz0
  have HW := Lib.hid hW
  clear hz0 hW
  have r0' : Row W w.heap.size 33 (graphCells (.slice A bs.length c) ⟨nm, kp, lf, bs⟩) := r0
  obtain ⟨x0, x1, x2, x3⟩ := r0'.graph
  go_wp2_with fail
  refine (copied_calls _ _ _ _ _ bs _ (Kd.C_mono b0 hC) hl H3.out).mono ?_
  rintro e w1 ⟨A1, c1, F1, rfl, own1, hF1, hb1⟩
  have t1 := b0.trans (hb1.mono b0.size)
  have bq := below_alloc' w1 (.cells #[.string nm, .bool kp, .bool lf, .slice A1 bs.length c1] 33)
  have r3 : Row (w1.alloc (.cells #[.string nm, .bool kp, .bool lf, .slice A1 bs.length c1] 33)) w1.heap.size 33 (graphCells (.slice A1 bs.length c1) ⟨nm, kp, lf, bs⟩) := Row.new w1 _ _
  go_upto_region 2 with fail
  generalize w1.alloc (.cells #[.string nm, .bool kp, .bool lf, .slice A1 bs.length c1] 33) = W3 at *
  have t3 := t1.trans (bq.mono t1.size)
  have rz := (z0.below hb1).below bq
  have own3 := own1.below bq
  have hg3 : w1.heap.size < W3.heap.size := r3.lt
  have hF1' : ∀ x, F1 x → w.heap.size + 1 + 1 ≤ x ∧ x ≠ w1.heap.size := fun x hx => ⟨by have := hF1 x hx; have := HZ0.out; omega, by have := own1.lt x hx; omega⟩
  have hG3 : w.heap.size + 1 + 1 ≤ w1.heap.size := by have := hb1.size; have := HZ0.out; omega
  generalize w1.heap.size = G3 at *
  have RZ := Lib.hid rz
  have R3 := Lib.hid r3
  have HO3 := Lib.hid own3
  clear x0 x1 x2 x3 r0 r0' z0 own1 own3 rz r3 hb1 bq
  go_wp2_with fail
  go_loopg [4] (2 * opsN bs + 1) (fun g v4 wr => ∃ (bs1 : List Block) (F : Nat → Prop) (more : Bool), v4 = .bool more ∧ g = 2 * opsN bs1 + (if more = true then 1 else 0) ∧ SwR bs bs1 ∧ OwnF oBlock 42 wr (.slice A1 bs.length c1) bs1 F ∧ (more = false → Normal bs1) ∧ (∀ x, F x → w.heap.size + 1 + 1 ≤ x ∧ x ≠ G3) ∧ Row wr (w.heap.size + 1) 33 [.string ⟨#[]⟩, .bool false, .bool false, .slice none 0 0] ∧ Row wr G3 33 (graphCells (.slice A1 bs.length c1) ⟨nm, kp, lf, bs⟩) ∧ Below w.heap.size w wr)
  case atStart => exact ⟨bs, F1, true, rfl, rfl, .refl, HO3.out, fun h => (by cases h), hF1', RZ.out, R3.out, t3⟩
  case round =>
    obtain ⟨bs1, F, more, rfl, hgk, hsw, ho, hnorm, hF, rz, r3, hbr⟩ := hrel
    cases more with
    | false =>
      have hsl := hsw.len
      have hfin : Swept bs bs1 := ⟨hsw, hnorm rfl⟩
      have HFIN := Lib.hid hfin
      have HO := Lib.hid ho
      have HF := Lib.hid hF
      have RZ1 := Lib.hid rz
      obtain ⟨y0, y1, y2, y3⟩ := r3.graph
      clear hsw hfin ho hF hgk hnorm rz
      go_wp2_with (refine wpList_put_row rfl 33 _ _ rfl (w.heap.size + 1) (graphCells (.slice A1 bs.length c1) ⟨nm, kp, lf, bs⟩) rfl rfl RZ1.out (by kernel_rfl) rfl (graphCells_one _) ?_; intro w6 r6 g6 s6)
      refine bodyPost_ret (results_cell_row rfl _ _ (w.heap.size + 1) 33 (graphCells (.slice A1 bs.length c1) ⟨nm, kp, lf, bs⟩).toArray (0, 0) _ rfl r6 Try.underlying33 rfl (by kernel_rfl)) rfl ?_
      refine ⟨bs1, HFIN.out, A1, c1, F, by rw [hsl]; rfl, ?_, fun x hx => by have := HF.out x hx; omega, hbr.grown g6 hbr.size (fun j hj => by injection hj with hj; omega)⟩
      rw [hsl]
      exact HO.out.grown g6 (fun x hx e => by injection e with e; have := HF.out x hx; omega)
    | true =>
      have y3 := r3.cell (j := 3) rfl
      have HSW := Lib.hid hsw
      have HO := Lib.hid ho
      have HF := Lib.hid hF
      have HGK := Lib.hid hgk
      have RZ1 := Lib.hid rz
      have R31 := Lib.hid r3
      clear hsw ho hF hgk hnorm rz r3
      go_wp2_with fail
      go_loopw [16, 4] (fun i v4 wr => ∃ (k : Nat) (bs2 : List Block) (F : Nat → Prop) (more : Bool), k ≤ bs.length ∧ i = .int .i64 k ∧ v4 = .bool more ∧ SwR bs bs2 ∧ OwnF oBlock 42 wr (.slice A1 bs.length c1) bs2 F ∧ (more = true → opsN bs2 < opsN bs1) ∧ (more = false → bs2 = bs1 ∧ CleanTo bs1 k) ∧ (∀ x, F x → w.heap.size + 1 + 1 ≤ x ∧ x ≠ G3) ∧ Row wr (w.heap.size + 1) 33 [.string ⟨#[]⟩, .bool false, .bool false, .slice none 0 0] ∧ Row wr G3 33 (graphCells (.slice A1 bs.length c1) ⟨nm, kp, lf, bs⟩) ∧ Below w.heap.size w wr) (fun i _ _ => bs.length - (intOf i).toNat)
      case atStart => exact ⟨0, bs1, F, false, Nat.zero_le _, rfl, rfl, HSW.out, HO.out, fun h => (by cases h), fun _ => ⟨rfl, fun _ _ k b hk => absurd hk (Nat.not_lt_zero _)⟩, HF.out, RZ1.out, R31.out, hbr⟩
      case round =>
        obtain ⟨k, bs2, F, more, hk, rfl, rfl, hsw, ho, hmt, hmf, hF, rz, r3, hbr⟩ := hrel
        clear y3
        by_cases hlt : k < bs.length
        · have hsl := hsw.len
          have hok2 := hsw.ok HOK.out
          have h3002 := hsw.ops H3.out
          obtain ⟨b, hb⟩ := get_some bs2 k (by rw [hsl]; exact hlt)
          have hbm := List.mem_of_getElem? hb
          have hcall := liveAfter_calls nm kp lf A1 c1 bs2 k b wr (own_bs_read ho) (by rw [hsl]; exact hl) hok2 h3002 hb
          rw [hsl] at hcall
          have h3b := h3002 b hbm
          have hro := hok2.ops hbm
          have HE16 : Hid (∀ ins, IsLive bs2 ins → endN b.fin ins < 65536) := Lib.hid (fun ins hL => endN_lt16 hok2 hbm hL)
          have HCALL := Lib.hid hcall
          have HSW2 := Lib.hid hsw
          have HO2 := Lib.hid ho
          have HF2x := Lib.hid hF
          have HMT := Lib.hid hmt
          have HMF := Lib.hid hmf
          have HB := Lib.hid hb
          have HRO := Lib.hid hro
          have HOK2 := Lib.hid hok2
          have HSL := Lib.hid hsl
          obtain ⟨y0, y1, y2, y3⟩ := r3.graph
          clear hsw ho hF hmt hmf hb hbm hcall hro hok2 h3002 hsl
          go_wp2_with fail
          refine HCALL.out.mono ?_
          rintro e w6 ⟨g6, ins, rfl, hL, own6, hg6, hb6⟩
          have o6 := HO2.out.below hb6
          have r36 := r3.below hb6
          have rz6 := rz.below hb6
          have t6 := hbr.trans (hb6.mono hbr.size)
          have HL := Lib.hid hL
          have HO6 := Lib.hid o6
          have OU := Lib.hid own6
          have hg6l : g6 < w6.heap.size := own6.lt g6 rfl
          obtain ⟨ad, Ab, cb, rfl, i0, -, -, -, -, -, -, -, -, -, -, -, hwb, lb, mb, gb⟩ := Block_at (own_bs_read o6) HB.out
          have hlb := len_le lb mb
          have HWB := Lib.hid hwb
          clear y0 y1 y2 y3 hL own6 o6 HCALL HO2 hwb hb6
          have y3 := r36.cell (j := 3) rfl
          have GB := Lib.hid gb
          clear gb
          go_wp2_with fail
          go_loopw [29, 7] (fun i v wr => ∃ (q : Nat) (F2 : Nat → Prop), q ≤ b.ops.length ∧ i = .int .i64 q ∧ OwnF oOp 44 wr v (sweepTo b.ops (endN b.fin ins) q) F2 ∧ (∀ x, F2 x → w6.heap.size ≤ x) ∧ Below w6.heap.size w6 wr) (fun i _ _ => b.ops.length - (intOf i).toNat)
          case atStart => exact ⟨0, _, Nat.zero_le _, rfl, OwnF.nil _ _ _, fun _ h => h.elim, Below.refl _ _⟩
          case round =>
            obtain ⟨q, F2, hq, rfl, ho2, hF2, hbr2⟩ := hrel
            clear y3 i0
            by_cases hltq : q < b.ops.length
            · obtain ⟨o, hoo⟩ := get_some b.ops q hltq
              have hto := sweepTo_succ (e := endN b.fin ins) hoo
              have hlq := sweepTo_len b.ops (endN b.fin ins) q
              have hr1 := HRO.out o (List.mem_of_getElem? hoo)
              have c6 := (OU.out.below hbr2).cellU (afterL_at (e := endN b.fin ins) hltq)
              have ha : aheadOps (b.ops.drop (q + 1)) (endN b.fin ins) < 65536 := aheadOps_lt (fun o ho => HRO.out o (List.mem_of_mem_drop ho)) (HE16.out ins HL.out)
              generalize haa : aheadOps (b.ops.drop (q + 1)) (endN b.fin ins) = a at *
              obtain ⟨ao, rfl, e0, e1, e2, e3, e4, e5, e6, e7, e8, hwo⟩ := Op_at (Kd.C_mono hbr2 GB.out) hoo
              have HTO := Lib.hid hto
              have HLQ := Lib.hid (Nat.le_trans hlq (Nat.le_trans hq h3b))
              have HRO := Lib.hid hr1
              have HWO := Lib.hid hwo
              clear hoo hto hlq hr1 hwo haa
              have b12 := below_alloc' wr (.cells #[.int .i64 o.ins.op, .int .i64 o.ins.a, .int .i64 o.ins.b, .int .i64 o.ins.c, .int .i64 o.ins.imm, .bool o.rel, .int .i64 o.kind, .int .i64 o.to, .int .i64 o.add] 44)
              have r12 : Row (wr.alloc (.cells #[.int .i64 o.ins.op, .int .i64 o.ins.a, .int .i64 o.ins.b, .int .i64 o.ins.c, .int .i64 o.ins.imm, .bool o.rel, .int .i64 o.kind, .int .i64 o.to, .int .i64 o.add] 44)) wr.heap.size 44 (opCells o) := Row.new wr _ _
              go_upto_region 13 with fail
              generalize wr.alloc (.cells #[.int .i64 o.ins.op, .int .i64 o.ins.a, .int .i64 o.ins.b, .int .i64 o.ins.c, .int .i64 o.ins.imm, .bool o.rel, .int .i64 o.kind, .int .i64 o.to, .int .i64 o.add] 44) = W12 at *
              clear e0 e1 e2 e3 e4 e5 e6 e7 e8
              have c12 : W12.cell? ⟨g6, q, none⟩ = some (.int .u16 (a : Int)) := Sub.of_below b12 _ _ c6
              clear c6
              refine wp_region_held_drew (S := (fun w' => SOp w' wr.heap.size o g6 q a)) (by kernel_rfl) (⟨r12.op, c12⟩) (fun hHeld => ?_)
              refine wpAnyH_take (i := 0) (oi := _) (v := ?v13m1_1) rfl (by kernel_rfl) (by kernel_rfl) (by kernel_rfl) (fun _ _ _ h => h) (Or.inl ⟨by rfl, ?hy13m1_1⟩) hHeld ?_
              case hy13m1_1 => (intro wS hSw; (try dsimp only at hSw); obtain ⟨⟨s0, s1, s2, s3, s4, s5, s6, s7, s8⟩, s9⟩ := hSw; go_simp; try with_reducible rfl)
              try simp only [List.getElem_toArray, List.getElem_cons_succ, List.getElem_cons_zero, Act.put, List.setIfInBounds_toArray, List.set_cons_zero, List.set_cons_succ]
              refine wpAnyH_take (i := 1) (oi := _) (v := ?v13m1_2) rfl (by kernel_rfl) (by kernel_rfl) (by kernel_rfl) (fun _ _ _ h => h) (Or.inl ⟨by rfl, ?hy13m1_2⟩) hHeld ?_
              case hy13m1_2 => (intro wS hSw; (try dsimp only at hSw); obtain ⟨⟨s0, s1, s2, s3, s4, s5, s6, s7, s8⟩, s9⟩ := hSw; go_simp; try with_reducible rfl)
              try simp only [List.getElem_toArray, List.getElem_cons_succ, List.getElem_cons_zero, Act.put, List.setIfInBounds_toArray, List.set_cons_zero, List.set_cons_succ]
              refine wpAnyH_take (i := 2) (oi := _) (v := ?v13m1_3) rfl (by kernel_rfl) (by kernel_rfl) (by kernel_rfl) (fun _ _ _ h => h) (Or.inl ⟨by rfl, ?hy13m1_3⟩) hHeld ?_
              case hy13m1_3 => (intro wS hSw; (try dsimp only at hSw); obtain ⟨⟨s0, s1, s2, s3, s4, s5, s6, s7, s8⟩, s9⟩ := hSw; go_simp; try with_reducible rfl)
              try simp only [List.getElem_toArray, List.getElem_cons_succ, List.getElem_cons_zero, Act.put, List.setIfInBounds_toArray, List.set_cons_zero, List.set_cons_succ]
              refine wpAnyH_take (i := 3) (oi := _) (v := ?v13m1_4) rfl (by kernel_rfl) (by kernel_rfl) (by kernel_rfl) (fun _ _ _ h => h) (Or.inl ⟨by rfl, ?hy13m1_4⟩) hHeld ?_
              case hy13m1_4 => (intro wS hSw; (try dsimp only at hSw); obtain ⟨⟨s0, s1, s2, s3, s4, s5, s6, s7, s8⟩, s9⟩ := hSw; go_simp; try with_reducible rfl)
              try simp only [List.getElem_toArray, List.getElem_cons_succ, List.getElem_cons_zero, Act.put, List.setIfInBounds_toArray, List.set_cons_zero, List.set_cons_succ]
              refine wpAnyH_take (i := 4) (oi := _) (v := ?v13m1_5) rfl (by kernel_rfl) (by kernel_rfl) (by kernel_rfl) (fun _ _ _ h => h) (Or.inl ⟨by rfl, ?hy13m1_5⟩) hHeld ?_
              case hy13m1_5 => (intro wS hSw; (try dsimp only at hSw); obtain ⟨⟨s0, s1, s2, s3, s4, s5, s6, s7, s8⟩, s9⟩ := hSw; go_simp; try with_reducible rfl)
              try simp only [List.getElem_toArray, List.getElem_cons_succ, List.getElem_cons_zero, Act.put, List.setIfInBounds_toArray, List.set_cons_zero, List.set_cons_succ]
              refine wpAnyH_ready (rs := [5]) (by kernel_rfl) (by simp) ?_
              refine (AllReadyH.cons (o := _) rfl (fun K hK => ?_) AllReadyH.nil)
              go_simp
              refine (deadIdle_calls o a ha HRO.out _).mono ?_
              rintro e w13 ⟨rfl, hb13⟩
              have b13 : Below W12.heap.size W12 w13 := (Below.refl _ _).drew.trans hb13
              have r13 := r12.below b13
              have c13 := Sub.of_below b13 _ _ c12
              go_wp2_with fail
              refine hK.out _ _ (⟨r13.op, c13⟩) (fun hHeld6 => ?_)
              clear hK K hHeld
              try simp only [List.getElem_toArray, List.getElem_cons_succ, List.getElem_cons_zero, Act.put, List.setIfInBounds_toArray, List.set_cons_zero, List.set_cons_succ]
              refine wpAnyH_take (i := 6) (oi := _) (v := ?v13m1_7) rfl (by kernel_rfl) (by kernel_rfl) (by kernel_rfl) (fun _ _ _ h => h) (Or.inl ⟨by rfl, ?hy13m1_7⟩) hHeld6 ?_
              case hy13m1_7 => (intro wS hSw; (try dsimp only at hSw); obtain ⟨⟨s0, s1, s2, s3, s4, s5, s6, s7, s8⟩, s9⟩ := hSw; go_simp; try with_reducible rfl)
              try simp only [List.getElem_toArray, List.getElem_cons_succ, List.getElem_cons_zero, Act.put, List.setIfInBounds_toArray, List.set_cons_zero, List.set_cons_succ]
              refine wpAnyH_done (by kernel_rfl) ?_ _
              have HR13 := Lib.hid r13
              clear r13 c13 r12 c12
              rcases Bool.eq_false_or_eq_true (decide (idleO o a)) with hid | hid
              · have hto := HTO.out
                rw [if_pos (of_decide_eq_true hid)] at hto
                have HT2 := Lib.hid hto
                have z1 : decide (idleO o a) = true := hid
                clear hto hid
                generalize decide (idleO o a) = di at *
                subst z1
                go_wp2_with fail
                have o3 := (ho2.below b12).below b13
                exact ⟨⟨q + 1, F2, by omega, by go_num, by rw [HT2.out]; exact o3, hF2, hbr2.trans ((b12.trans (b13.mono b12.size)).mono hbr2.size)⟩, by simp [intOf]; omega⟩
              · have hto := HTO.out
                rw [if_neg (of_decide_eq_false hid)] at hto
                have HT2 := Lib.hid hto
                have z1 : decide (idleO o a) = false := hid
                clear hto hid
                generalize decide (idleO o a) = di at *
                subst z1
                have o3 := (ho2.below b12).below b13
                have O3 := Lib.hid o3
                clear o3
                obtain ⟨y0, y1, y2, y3, y4, y5, y6, y7, y8⟩ := HR13.out.op
                go_wp2_with (at_builtin; refine wpList_append_f (k := oOp) elOp rfl _ _ rfl (ys := [o]) (O3.out.below (below_alloc' w13 _)) (YF.op rfl HWO.out) (fun _ _ h => h) rfl rfl (by show _ + 1 ≤ _; have := HLQ.out; omega) ?_; intro v5 w5 hg5)
                obtain ⟨⟨F5, own5, hF5⟩, hgr5⟩ := hg5
                have b1213 := b12.trans (b13.mono b12.size)
                exact ⟨⟨q + 1, F5, by omega, by go_num, by rw [HT2.out]; exact own5, fun x hx => by (rcases hF5 x hx with h | h | h; exact hF2 x h; exact h.elim; exact Nat.le_trans hbr2.size (Nat.le_trans b1213.size (Nat.le_trans (below_alloc' w13 _).size h))), ((hbr2.trans (b1213.mono hbr2.size)).trans ((below_alloc' w13 _).mono (Nat.le_trans hbr2.size b1213.size))).grown hgr5 (Nat.le_trans hbr2.size (Nat.le_trans b1213.size (below_alloc' w13 _).size)) (fun j hj => hF2 j (ho2.row hj))⟩, by simp [intOf]; omega⟩
            · obtain rfl : q = b.ops.length := by omega
              rw [sweepTo_all] at ho2
              obtain ⟨A2, c2, rfl, l2, m2, -⟩ := ho2.read
              have hle := sweepOps_len b.ops (endN b.fin ins)
              have o7 := HO6.out.below hbr2
              obtain ⟨g1, q1, cs, Fi, F0, e0, lq, mq, h0, hO, d0, iff0⟩ := o7.open_ HB.out
              injection e0 with e01 e02 e03
              injection e01 with e01
              subst e01 e03
              clear e02
              obtain ⟨vold, rfl, hwf, oold⟩ := hO
              have r37 := r36.below hbr2
              have rz7 := rz6.below hbr2
              have t7 := t6.trans (hbr2.mono t6.size)
              have hF0 : ∀ x, F0 x → (w.heap.size + 1 + 1 ≤ x ∧ x ≠ G3) ∧ x < w6.heap.size := fun x hx => ⟨HF2x.out x ((iff0 x).2 (.inl hx)), HO6.out.lt x ((iff0 x).2 (.inl hx))⟩
              have hG1 := hF0 g1 h0.row
              have hG3w : G3 < w6.heap.size := r36.lt
              have y3 := r37.cell (j := 3) rfl
              have f0 : wr.cell? ⟨g1, k * 12, none⟩ = some vold := (h0.cell (j := 0) rfl)
              have f1 := h0.frozen (k * 12)
              have h1 : HoleF oBlock 42 (wr.setCell ⟨g1, k * 12, none⟩ (.slice A2 (sweepOps b.ops (endN b.fin ins)).length c2)) g1 c1 bs2 k (blockCells (.slice A2 (sweepOps b.ops (endN b.fin ins)).length c2) ⟨sweepOps b.ops (endN b.fin ins), b.fin⟩) F0 := h0.set (j := 0) (by decide) _
              have gS := grown_set wr g1 (k * 12) (.slice A2 (sweepOps b.ops (endN b.fin ins)).length c2)
              have hcl := h1.close (y := ⟨sweepOps b.ops (endN b.fin ins), b.fin⟩) (Gi := F2) ⟨_, rfl, HWB.out, ho2.grown gS (fun x hx e => by injection e with e; subst e; have := hF2 _ hx; have := hG1.2; omega)⟩ (fun x hx hx' => by have := hF2 x hx; have := (hF0 x hx').2; omega)
              rw [HSL.out] at hcl
              have hFn : ∀ x, F0 x ∨ F2 x → w.heap.size + 1 + 1 ≤ x ∧ x ≠ G3 := fun x hx => by
                rcases hx with h | h
                · exact (hF0 x h).1
                · have := hF2 x h; have := t6.size; constructor <;> omega
              have rzS := rz7.grown gS (fun e => by injection e with e; have := hG1.1; omega)
              have r3S := r37.grown gS (fun e => by injection e with e; exact hG1.1.2 e)
              have tS := t7.grown gS t7.size (fun j hj => by injection hj with hj; have := hG1.1; omega)
              have hswn := HSW2.out.trans (sweep_set HOK2.out HB.out HL.out)
              have HCL := Lib.hid hcl
              have HSWN := Lib.hid hswn
              have RZS := Lib.hid rzS
              have R3S := Lib.hid r3S
              have TS := Lib.hid tS
              have HFN := Lib.hid hFn
              have Y3 := y3
              clear hcl hswn rzS r3S tS hFn h1 h0 oold ho2 o7 hF0 d0 iff0 gS rz7 t7 hwf
              by_cases hless : (sweepOps b.ops (endN b.fin ins)).length < b.ops.length
              · have hlt2 := sweep_less HB.out hless
                have z1 : decide ((sweepOps b.ops (endN b.fin ins)).length < b.ops.length) = true := decide_eq_true hless
                have hdec : opsN (bs2.set k ⟨sweepOps b.ops (endN b.fin ins), b.fin⟩) < opsN bs1 := by
                  cases more with
                  | true => have := HMT.out rfl; omega
                  | false => rw [(HMF.out rfl).1] at hlt2 ⊢; exact hlt2
                have HDEC := Lib.hid hdec
                clear hlt2 hdec hless hle
                generalize (sweepOps b.ops (endN b.fin ins)).length = ln at *
                cases more with
                | true =>
                  go_wp2_with fail
                  exact ⟨⟨k + 1, _, _, true, by omega, by go_num, rfl, HSWN.out, HCL.out, fun _ => HDEC.out, fun h => (by cases h), HFN.out, RZS.out, R3S.out, TS.out⟩, by simp [intOf]; omega⟩
                | false =>
                  go_wp2_with fail
                  exact ⟨⟨k + 1, _, _, true, by omega, by go_num, rfl, HSWN.out, HCL.out, fun _ => HDEC.out, fun h => (by cases h), HFN.out, RZS.out, R3S.out, TS.out⟩, by simp [intOf]; omega⟩
              · have heq : (sweepOps b.ops (endN b.fin ins)).length = b.ops.length := by omega
                have z1 : decide ((sweepOps b.ops (endN b.fin ins)).length < b.ops.length) = false := decide_eq_false hless
                have hsm := sweep_same HB.out heq
                have hmore : (more = true → opsN (bs2.set k ⟨sweepOps b.ops (endN b.fin ins), b.fin⟩) < opsN bs1) := fun h => by rw [hsm]; exact HMT.out h
                have hmoref : (more = false → bs2.set k ⟨sweepOps b.ops (endN b.fin ins), b.fin⟩ = bs1 ∧ CleanTo bs1 (k + 1)) := fun h => by
                  obtain ⟨e, hc⟩ := HMF.out h
                  rw [hsm]
                  refine ⟨e, ?_⟩
                  rw [← e] at hc ⊢
                  exact hc.step HB.out HL.out heq
                have HM1 := Lib.hid hmore
                have HM2 := Lib.hid hmoref
                clear hsm hmore hmoref hless hle heq
                generalize (sweepOps b.ops (endN b.fin ins)).length = ln at *
                cases more with
                | true =>
                  go_wp2_with fail
                  exact ⟨⟨k + 1, _, _, true, by omega, by go_num, rfl, HSWN.out, HCL.out, HM1.out, HM2.out, HFN.out, RZS.out, R3S.out, TS.out⟩, by simp [intOf]; omega⟩
                | false =>
                  go_wp2_with fail
                  exact ⟨⟨k + 1, _, _, false, by omega, by go_num, rfl, HSWN.out, HCL.out, HM1.out, HM2.out, HFN.out, RZS.out, R3S.out, TS.out⟩, by simp [intOf]; omega⟩
        · obtain rfl : k = bs.length := by omega
          have hsl := hsw.len
          have hn : more = false → Normal bs2 := fun h => by
            obtain ⟨e, hc⟩ := hmf h
            rw [e]
            exact CleanTo.normal (by rw [← e]; exact hsw.ok HOK.out) (by rw [show bs1.length = bs.length from by rw [← e]; exact hsl]; exact hc)
          have hle : opsN bs2 ≤ opsN bs1 := by
            cases more with
            | true => have := hmt rfl; omega
            | false => rw [(hmf rfl).1]; exact Nat.le_refl _
          have HN := Lib.hid hn
          have HSW2 := Lib.hid hsw
          have HO2 := Lib.hid ho
          have HLE := Lib.hid hle
          have HMT := Lib.hid hmt
          clear hn hsw ho hmt hmf hle
          go_wp2_with fail
          cases more with
          | true =>
            go_roundg (2 * opsN bs2 + 1)
            case rel => exact ⟨bs2, F, true, rfl, rfl, HSW2.out, HO2.out, HN.out, hF, rz, r3, hbr⟩
            case measure => have h3 := HMT.out rfl; have h1 := HGK.out; simp at h1; omega
          | false =>
            go_roundg (2 * opsN bs2)
            case rel => exact ⟨bs2, F, false, rfl, rfl, HSW2.out, HO2.out, HN.out, hF, rz, r3, hbr⟩
            case measure => have h3 := HLE.out; have h1 := HGK.out; simp at h1; omega
end Go.Proofs.Ytokkngfgppikkaa
