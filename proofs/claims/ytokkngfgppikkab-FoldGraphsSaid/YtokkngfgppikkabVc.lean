/- Layer 21 (fold): a block folded. Printed in part by genVc.py of this repository. -/
import Derived.Test.YtokkngfgppikkabVb
import Derived.Test.YtokkngfgppikkabDb
import Derived.Test.YtokkngfgppikkabKl
import Derived.Deep.RegionHeld3
namespace Go.Proofs.Ytokkngfgppikkab
set_option linter.unusedVariables false
set_option linter.unusedSimpArgs false
open Go.RowKit

theorem lit_i64 {x : Int} (h1 : -9223372036854775808 ≤ x) (h2 : x ≤ 9223372036854775807) : (Lit.int .i64 x).wf = true := by
  have h3 : IntKind.i64.min = -9223372036854775808 := by decide
  have h4 : IntKind.i64.max = 9223372036854775807 := by decide
  simp [Lit.wf, h3, h4]
  omega
theorem flat_wf {op a n : Int} (h0 : 0 ≤ op ∧ op ≤ 26) (h1 : 0 ≤ a ∧ a ≤ 16) (h2 : -65536 ≤ n ∧ n ≤ 65536) : (⟨⟨op, a, 0, 0, n⟩, false, 0, 0, 0⟩ : Op).wf := by
  have z : (Lit.int .i64 0).wf = true := by decide
  exact ⟨lit_i64 (x := op) (by omega) (by omega), lit_i64 (x := a) (by omega) (by omega), z, z, lit_i64 (x := n) (by omega) (by omega), z, z, z⟩
theorem foldOp_wf {o : Op} {k : Known} (hk : k.wf) (hr : o.ins.right = true) (hw : o.wf) : (foldOp o k).wf := by
  have hlt := Known.w_lt hk (writes o.ins.op o.ins.a).toNat
  rcases foldOp_cases o k with e | ⟨h1, h2, h3, ⟨h4, h5, e⟩ | ⟨h4, h5, e⟩⟩
  · rw [e]; exact hw
  · obtain ⟨w1, w2, w3⟩ := fold_wr hr h2
    rw [e]
    exact flat_wf (by omega) (by omega) (by omega)
  · obtain ⟨w1, w2, w3⟩ := fold_wr hr h2
    rw [e]
    exact flat_wf (by omega) (by omega) (by omega)
theorem jump_wf {os : List Op} {x : Int} (h : (Lit.int .i64 x).wf = true) : (⟨os, jumpI x⟩ : Block).wf := by
  have z : (Lit.int .i64 0).wf = true := by decide
  exact ⟨(by decide : (Lit.int .i64 1).wf = true), z, z, z, h, z, z, z, z, z, z⟩
theorem foldTerm_wf {b : Block} {os : List Op} {k : Known} (hw : b.wf) : (⟨os, foldTerm b.fin k⟩ : Block).wf := by
  unfold foldTerm
  split
  · split
    · exact jump_wf hw.2.2.2.2.1
    · exact jump_wf hw.2.2.2.2.2.1
  · exact hw
theorem trap_wf : trapBlock.wf := ⟨by decide, by decide, by decide, by decide, by decide, by decide, by decide, by decide, by decide, by decide, by decide⟩
theorem foldB_wf {b : Block} {k : Known} (hw : b.wf) : (foldB b k).wf := by
  unfold foldB
  split
  · exact trap_wf
  · exact foldTerm_wf hw
theorem foldOps_append : ∀ (xs ys : List Op) (k : Known), foldOps (xs ++ ys) k = foldOps xs k ++ foldOps ys (behindOps xs k)
  | [], _, _ => rfl
  | x :: r, ys, k => by
    show foldOp x (behindK k x) :: foldOps (r ++ ys) (behindK k x) = _
    rw [foldOps_append r ys]
    rfl
theorem foldOps_snoc {os : List Op} {m : Nat} {o : Op} (h : os[m]? = some o) (k : Known) : foldOps (os.take (m + 1)) k = foldOps (os.take m) k ++ [foldOp o (behindOps (os.take (m + 1)) k)] := by
  rw [behindOps_take h, take_snoc h, foldOps_append]
  rfl
theorem Row.putFin {w : World} {g : Nat} {T : TypeId} {v : Value} {b : Block} (h : Row w g T (blockCells v b)) (t : Term) : Row (w.setCells g 1 (finCells t)) g T (blockCells v ⟨[], t⟩) :=
  (((((((((((h.set 1 (.int .i64 t.kind)).set 2 (.int .i64 t.op)).set 3 (.int .i64 t.a)).set 4 (.int .i64 t.b)).set 5 (.int .i64 t.to)).set 6 (.int .i64 t.els)).set 7 (.int .i64 t.ins.op)).set 8 (.int .i64 t.ins.a)).set 9 (.int .i64 t.ins.b)).set 10 (.int .i64 t.ins.c)).set 11 (.int .i64 t.ins.imm))
section
variable {ops : Array Oper} {rest : List Oper} {o : Oper} {a : Act} {w : World} {Q : Exit → Act → World → Prop} {g : Nat}
theorem wpList_put_fin (x y : Operand) (t : Term) {b : Block} {v : Value} (hR : Row w g 39 (blockCells v b)) (hgd : o.guard = none) (ho : o.op = .store 37 x y) (hx : a.eval x = .pointer (some ⟨g, 1, none⟩)) (hy : a.eval y = .agg (finCells t).toArray)
    (h : ∀ w', Row w' g 39 (blockCells v ⟨[], t⟩) → w.grownBy w' (some g) → w'.heap.size = w.heap.size → wpList Try.prog ops Q rest (a.put o.dst undef) w') : wpList Try.prog ops Q (o :: rest) a w := by
  obtain ⟨h3, h4⟩ := grown_setCells g (finCells t) 1 w
  have hlen : (blockCells v b).length = 12 := rfl
  refine wpList_store_mid hgd _ x y ho g 1 (finCells t).toArray hx hy (fun l hl => ?_) (by kernel_rfl) (Array.all_eq_true_iff_forall_mem.2 (fun v hv => finCells_one t v (by simpa using hv))) (h _ (hR.putFin t) h3 h4)
  have hl' : 1 + l < (blockCells v b).length := by
    have : (finCells t).toArray.size = 11 := rfl
    omega
  exact ⟨by rw [hR.cell (j := 1 + l) (List.getElem?_eq_getElem hl')]; rfl, hR.frozen _⟩
end

set_option maxHeartbeats 8000000 in
set_option maxRecDepth 100000 in
theorem foldblock_calls (b : Block) (kz : Known) (A : Option Addr) (c : Nat) (w : World) (hC : kOp.C w A b.ops) (hl : b.ops.length ≤ 300) (gK : GoodK kz) (hok : ∀ o ∈ b.ops, o.ins.right = true) (hab : b.fin.kind = 2 → (0 ≤ b.fin.a ∧ b.fin.a < 16) ∧ 0 ≤ b.fin.b ∧ b.fin.b < 16) : Calls Try.prog 38 #[.agg #[.slice A b.ops.length c, .int .i64 b.fin.kind, .int .i64 b.fin.op, .int .i64 b.fin.a, .int .i64 b.fin.b, .int .i64 b.fin.to, .int .i64 b.fin.els, .int .i64 b.fin.ins.op, .int .i64 b.fin.ins.a, .int .i64 b.fin.ins.b, .int .i64 b.fin.ins.c, .int .i64 b.fin.ins.imm], .agg (knownCells kz).toArray] w (MadeB w (fun _ => False) (foldB b kz)) := by
  obtain ⟨W, hW, bW, zW, r0, r1, r2⟩ := three_rows w #[.slice A b.ops.length c, .int .i64 b.fin.kind, .int .i64 b.fin.op, .int .i64 b.fin.a, .int .i64 b.fin.b, .int .i64 b.fin.to, .int .i64 b.fin.els, .int .i64 b.fin.ins.op, .int .i64 b.fin.ins.a, .int .i64 b.fin.ins.b, .int .i64 b.fin.ins.c, .int .i64 b.fin.ins.imm] (knownCells kz).toArray #[.slice none 0 0, .int .i64 0, .int .i64 0, .int .i64 0, .int .i64 0, .int .i64 0, .int .i64 0, .int .i64 0, .int .i64 0, .int .i64 0, .int .i64 0, .int .i64 0] 39 77 39
  replace r0 : Row W w.heap.size 39 (blockCells (.slice A b.ops.length c) b) := r0
  replace r1 : Row W (w.heap.size + 1) 77 (knownCells kz) := r1
  replace r2 : Row W (w.heap.size + 1 + 1) 39 (blockCells (.slice none 0 0) Block.zero) := r2
  have HW := Lib.hid hW
  have HOK := Lib.hid hok
  have HK := Lib.hid gK
  have HAB := Lib.hid hab
  clear hW hok gK hab
  cases hre : kz.reached with
  | false =>
    have he : foldB b kz = trapBlock := by unfold foldB; rw [if_pos hre]
    have HE := Lib.hid he
    have x0 := r1.cell (knownCells_re kz)
    rw [hre] at x0
    clear he hre zW
    go_enter Try.func38, Try.ntmps38
    go_upto_region 1 with fail
    rw [← HW.out]
    clear HW
    go_wp2_with (refine wpList_put_row rfl 39 _ _ rfl (w.heap.size + 1 + 1) (blockCells (.slice none 0 0) trapBlock) rfl rfl r2 (by kernel_rfl) rfl (blockCells_one _) ?_; intro w6 r6 g6 s6)
    have t6 := bW.grown g6 bW.size (fun j hj => by injection hj with hj; omega)
    refine bodyPost_ret (results_cell_row rfl _ _ (w.heap.size + 1 + 1) 39 (blockCells (.slice none 0 0) trapBlock).toArray (0, 0) _ rfl r6 Try.underlying39 rfl (by kernel_rfl)) rfl ?_
    rw [HE.out]
    exact ⟨none, 0, _, rfl, OwnF.nil _ _ _, fun _ h => h.elim, t6⟩
  | true =>
    have he : foldB b kz = ⟨foldOps b.ops kz, foldTerm b.fin (behindOps b.ops kz)⟩ := by unfold foldB; rw [if_neg (by rw [hre]; decide)]
    have HE := Lib.hid he
    have x0 := r1.cell (knownCells_re kz)
    rw [hre] at x0
    have y0 := r0.cell (j := 0) rfl
    have hl0 : b.ops.length ≤ 9223372036854775807 := by omega
    clear he hre
    go_enter Try.func38, Try.ntmps38
    go_upto_region 1 with fail
    rw [← HW.out]
    clear HW
    go_upto_region 4 with fail
    have b5 := below_alloc' W (.cells #[.slice none 0 0, .int .i64 0, .int .i64 0, .int .i64 0, .int .i64 0, .int .i64 0, .int .i64 0, .int .i64 0, .int .i64 0, .int .i64 0, .int .i64 0, .int .i64 0] 39)
    have r5 : Row (W.alloc (.cells #[.slice none 0 0, .int .i64 0, .int .i64 0, .int .i64 0, .int .i64 0, .int .i64 0, .int .i64 0, .int .i64 0, .int .i64 0, .int .i64 0, .int .i64 0, .int .i64 0] 39)) W.heap.size 39 (blockCells (.slice none 0 0) Block.zero) := Row.new W _ _
    have z5 : (W.alloc (.cells #[.slice none 0 0, .int .i64 0, .int .i64 0, .int .i64 0, .int .i64 0, .int .i64 0, .int .i64 0, .int .i64 0, .int .i64 0, .int .i64 0, .int .i64 0, .int .i64 0] 39)).heap.size = W.heap.size + 1 := by simp
    generalize W.alloc (.cells #[.slice none 0 0, .int .i64 0, .int .i64 0, .int .i64 0, .int .i64 0, .int .i64 0, .int .i64 0, .int .i64 0, .int .i64 0, .int .i64 0, .int .i64 0, .int .i64 0] 39) = W5 at *
    replace r0 := r0.below b5
    replace r1 := r1.below b5
    replace r2 := r2.below b5
    replace y0 := r0.cell (j := 0) rfl
    have b6 := bW.trans (b5.mono bW.size)
    clear b5 bW x0
    rw [zW] at r5 z5
    obtain ⟨B, hB⟩ : ∃ B : Nat, B = w.heap.size + 1 + 1 + 1 + 1 := ⟨_, rfl⟩
    have hBz : B ≤ W5.heap.size := by omega
    have hB0 : w.heap.size ≤ B := by omega
    have HZ := Lib.hid z5
    clear zW z5
    go_wp2_with fail
    go_loopw [17] (fun i wr => ∃ (k : Nat) (v : Value) (F : Nat → Prop), k ≤ b.ops.length ∧ i = .int .i64 k ∧ OwnF oOp 56 wr v (foldOps (b.ops.take k) kz) F ∧ (∀ x, F x → B ≤ x) ∧ Row wr (w.heap.size + 1 + 1 + 1) 39 (blockCells v Block.zero) ∧ Row wr (w.heap.size + 1) 77 (knownCells (behindOps (b.ops.take k) kz)) ∧ Row wr w.heap.size 39 (blockCells (.slice A b.ops.length c) b) ∧ Row wr (w.heap.size + 1 + 1) 39 (blockCells (.slice none 0 0) Block.zero) ∧ Below w.heap.size w wr ∧ B ≤ wr.heap.size) (fun i _ => b.ops.length - (intOf i).toNat)
    case atStart => exact ⟨0, _, _, Nat.zero_le _, rfl, OwnF.nil _ _ _, fun _ h => h.elim, r5, r1, r0, r2, b6, hBz⟩
    case round =>
      obtain ⟨k, v, F, hk, rfl, ho, hF, h5, h1, k0, zz, hbr, hBr⟩ := hrel
      clear y0 r0 r1 r2 r5 b6 hBz HZ
      by_cases hlt : k < b.ops.length
      · obtain ⟨o, hoo⟩ := get_some b.ops k hlt
        have hro := HOK.out o (List.mem_of_getElem? hoo)
        have htk := foldOps_snoc hoo kz
        have hbk := behindOps_take hoo kz
        have hpre : ∀ x ∈ b.ops.take k, x.ins.right = true := fun x hx => HOK.out x (List.mem_of_mem_take hx)
        have hgk := behindOps_good hpre HK.out
        have hlen : (foldOps (b.ops.take k) kz).length ≤ 300 := by rw [foldOps_len]; exact Nat.le_trans (by simp [List.length_take]; omega) hl
        obtain ⟨ad, rfl, e0, e1, e2, e3, e4, e5, e6, e7, e8, hwo⟩ := Op_at (Kd.C_mono hbr hC) hoo
        have HT0 := Lib.hid htk
        have HBK := Lib.hid hbk
        have HRT := Lib.hid hro
        have HWO := Lib.hid hwo
        have HGK := Lib.hid hgk
        clear htk hbk hro hwo hgk hpre hoo
        go_upto_region 7 with fail
        have b2 := below_alloc' wr (.cells #[.int .i64 o.ins.op, .int .i64 o.ins.a, .int .i64 o.ins.b, .int .i64 o.ins.c, .int .i64 o.ins.imm, .bool o.rel, .int .i64 o.kind, .int .i64 o.to, .int .i64 o.add] 56)
        have r7 : Row (wr.alloc (.cells #[.int .i64 o.ins.op, .int .i64 o.ins.a, .int .i64 o.ins.b, .int .i64 o.ins.c, .int .i64 o.ins.imm, .bool o.rel, .int .i64 o.kind, .int .i64 o.to, .int .i64 o.add] 56)) wr.heap.size 56 (opCells o) := Row.new wr _ _
        generalize wr.alloc (.cells #[.int .i64 o.ins.op, .int .i64 o.ins.a, .int .i64 o.ins.b, .int .i64 o.ins.c, .int .i64 o.ins.imm, .bool o.rel, .int .i64 o.kind, .int .i64 o.to, .int .i64 o.add] 56) = W2 at *
        clear e0 e1 e2 e3 e4 e5 e6 e7 e8
        obtain ⟨y0, y1, y2, y3, y4, y5, y6, y7, y8⟩ := r7.op
        have p1 := h1.below b2
        generalize hkk : behindOps (b.ops.take k) kz = kk at *
        clear hkk
        go_wp2_with (refine wpList_load_known _ kk _ HGK.out.1 p1 rfl rfl rfl ?_)
        refine (behind_calls kk o _ HGK.out.1 HRT.out).mono ?_
        rw [← HBK.out]
        rintro e w1 ⟨rfl, hb1⟩
        have hkn : GoodK (behindOps (b.ops.take (k + 1)) kz) := by rw [HBK.out]; exact ⟨behindK_wf HGK.out.1 o, behindK_rightK HGK.out.1 HGK.out.2 HRT.out⟩
        have HKN := Lib.hid hkn
        obtain ⟨kn, hknE⟩ : ∃ kn, behindOps (b.ops.take (k + 1)) kz = kn := ⟨_, rfl⟩
        have HKT := Lib.hid hknE.symm
        have HT := HT0
        rw [hknE] at HT HKN ⊢
        clear hkn hknE HT0 HBK
        have p1b := p1.below hb1
        clear y0 y1 y2 y3 y4 y5 y6 y7 y8
        go_upto_region 8 with (refine wpList_put_known _ _ kn _ HKN.out.1 HGK.out.1 p1b rfl rfl rfl rfl ?_; intro w3 r3 g3 s3)
        have b21 := b2.trans (hb1.mono b2.size)
        have hB3 : B ≤ w3.heap.size := Nat.le_trans hBr (Nat.le_trans b21.size g3.size)
        have r7' := (r7.below hb1).grown g3 (fun e => by injection e with e; omega)
        have h5' := (h5.below b21).grown g3 (fun e => by injection e with e; omega)
        have k0' := (k0.below b21).grown g3 (fun e => by injection e with e; omega)
        have zz' := (zz.below b21).grown g3 (fun e => by injection e with e; omega)
        have hLT := ho.lt
        have HLT := Lib.hid hLT
        have ho3 := (ho.below b21).grown g3 (fun x hx e => by injection e with e; have := hF x hx; omega)
        have T3 : Below w.heap.size w w3 := (hbr.trans (b21.mono hbr.size)).grown g3 (Nat.le_trans hbr.size b21.size) (fun j hj => by injection hj with hj; omega)
        clear h5 k0 zz hbr h1 p1 p1b r7 g3 s3 b2 hb1 b21 hLT
        have r7 := r7'
        have h5 := h5'
        have k0 := k0'
        have zz := zz'
        clear r7' h5' k0' zz'
        have q33 := h5.cell (j := 0) rfl
        have hwp := foldOp_wf HKN.out.1 HRT.out HWO.out
        obtain ⟨p, hp⟩ : ∃ p, p = foldOp o kn := ⟨_, rfl⟩
        have HP := Lib.hid hp
        rw [← hp] at HT hwp
        have HWP := Lib.hid hwp
        clear hp hwp
        refine wp_region_held_drew (S := (fun w' => Row w' wr.heap.size 56 (opCells o) ∧ Row w' (w.heap.size + 1) 77 (knownCells kn))) (by kernel_rfl) (⟨r7, r3⟩) (fun hHeld => ?_)
        refine wpAnyH_take (i := 0) (oi := _) (v := ?v8m1_1) rfl (by kernel_rfl) (by kernel_rfl) (by kernel_rfl) (fun _ _ _ h => h) (Or.inl ⟨by rfl, ?hy8m1_1⟩) hHeld ?_
        case hy8m1_1 => (intro wS hSw; (try dsimp only at hSw); have hs0 := hSw.1.op; clear hSw; obtain ⟨s0, s1, s2, s3, s4, s5, s6, s7, s8⟩ := hs0; go_simp; try with_reducible rfl)
        try simp only [List.getElem_toArray, List.getElem_cons_succ, List.getElem_cons_zero, Act.put, List.setIfInBounds_toArray, List.set_cons_zero, List.set_cons_succ]
        refine wpAnyH_take (i := 2) (oi := _) (v := ?v8m1_2) rfl (by kernel_rfl) (by kernel_rfl) (by kernel_rfl) (fun _ _ _ h => h) (Or.inl ⟨by rfl, ?hy8m1_2⟩) hHeld ?_
        case hy8m1_2 => (intro wS hSw; (try dsimp only at hSw); have hs0 := hSw.1.op; clear hSw; obtain ⟨s0, s1, s2, s3, s4, s5, s6, s7, s8⟩ := hs0; go_simp; try with_reducible rfl)
        try simp only [List.getElem_toArray, List.getElem_cons_succ, List.getElem_cons_zero, Act.put, List.setIfInBounds_toArray, List.set_cons_zero, List.set_cons_succ]
        refine wpAnyH_take (i := 3) (oi := _) (v := .agg (knownCells kn).toArray) rfl (by kernel_rfl) (by kernel_rfl) (by kernel_rfl) (fun _ _ _ h => h) (yieldsIf_load_known _ kn (w.heap.size + 1) 0 HKN.out.1 (fun wS hS => Row.range hS.2) rfl rfl rfl) hHeld ?_
        try simp only [List.getElem_toArray, List.getElem_cons_succ, List.getElem_cons_zero, Act.put, List.setIfInBounds_toArray, List.set_cons_zero, List.set_cons_succ]
        refine wpAnyH_ready (rs := [1, 4]) (by kernel_rfl) (by simp) ?_
        refine (AllReadyH.cons (o := _) rfl (fun K hK => ?_) (AllReadyH.cons (o := _) rfl (fun K hK => ?_) AllReadyH.nil))
        · go_simp
          refine hK.out _ _ (hHeld) (fun hHeld4 => ?_)
          clear hK K hHeld
          try simp only [List.getElem_toArray, List.getElem_cons_succ, List.getElem_cons_zero, Act.put, List.setIfInBounds_toArray, List.set_cons_zero, List.set_cons_succ]
          refine wpAnyH_ready (rs := [4]) (by kernel_rfl) (by simp) ?_
          refine (AllReadyH.cons (o := _) rfl (fun K hK => ?_) AllReadyH.nil)
          go_simp
          refine (foldop_calls o kn _ HKN.out.1 HRT.out).mono ?_
          rintro e w4 ⟨he, hb4⟩
          rw [← HP.out] at he
          replace he : e = .returned (.agg #[.int .i64 p.ins.op, .int .i64 p.ins.a, .int .i64 p.ins.b, .int .i64 p.ins.c, .int .i64 p.ins.imm, .bool p.rel, .int .i64 p.kind, .int .i64 p.to, .int .i64 p.add]) := he
          subst he
          have b4 : Below w3.heap.size w3 w4 := (Below.refl _ _).drew.trans hb4
          have q4 := Sub.of_below b4 _ _ q33
          have R7 := r7.below b4
          have R1 := r3.below b4
          go_wp2_with fail
          refine hK.out _ _ (⟨R7, R1⟩) (fun hHeld5 => ?_)
          clear hK K hHeld4
          try simp only [List.getElem_toArray, List.getElem_cons_succ, List.getElem_cons_zero, Act.put, List.setIfInBounds_toArray, List.set_cons_zero, List.set_cons_succ]
          refine wpAnyH_ready (rs := [5]) (by kernel_rfl) (by simp) ?_
          refine (AllReadyH.cons (o := _) rfl (fun K hK => ?_) AllReadyH.nil)
          go_simp
          have b8 := below_alloc' w4 (.cells #[.int .i64 p.ins.op, .int .i64 p.ins.a, .int .i64 p.ins.b, .int .i64 p.ins.c, .int .i64 p.ins.imm, .bool p.rel, .int .i64 p.kind, .int .i64 p.to, .int .i64 p.add] 56)
          have q8 := Sub.of_below b8 _ _ q4
          have R7b := R7.below b8
          have R1b := R1.below b8
          refine hK.out _ _ (⟨R7b, R1b⟩) (fun hHeld6 => ?_)
          clear hK K hHeld5
          try simp only [List.getElem_toArray, List.getElem_cons_succ, List.getElem_cons_zero, Act.put, List.setIfInBounds_toArray, List.set_cons_zero, List.set_cons_succ]
          refine wpAnyH_ready (rs := [6]) (by kernel_rfl) (by simp) ?_
          refine (AllReadyH.cons (o := _) rfl (fun K hK => ?_) AllReadyH.nil)
          refine step_append_f (k := oOp) elOp rfl _ _ rfl (ys := [p]) ((ho3.below b4).below b8) (YF.op rfl HWP.out) (fun _ _ h => h) rfl rfl (by simp; omega) ?_
          intro v9 w9 hg9
          obtain ⟨⟨F9, own9, hF9⟩, hgr9⟩ := hg9
          rw [← HT.out] at own9
          have b48 := b4.trans (b8.mono b4.size)
          have t9 : Below B w3 w9 := (b48.mono hB3).grown hgr9 (Nat.le_trans hB3 b48.size) (fun j hj => hF j (ho.row hj))
          have hF9' : ∀ b, F9 b → B ≤ b := fun b hb => by (rcases hF9 b hb with h | h | h; exact hF b h; exact h.elim; exact Nat.le_trans hB3 (Nat.le_trans b48.size h))
          obtain ⟨A9, d9, rfl, l9, m9, hC9⟩ := own9.read
          have R79 := (R7b.grown hgr9 (fun e => by have := HLT.out _ (ho.row e); omega))
          have R19 := (R1b.grown hgr9 (fun e => by have := hF _ (ho.row e); omega))
          have h9 := h5.belowAt t9 (by omega)
          have k9 := k0.belowAt t9 (by omega)
          have z9 := zz.belowAt t9 (by omega)
          have c9 := h9.cell (j := 0) rfl
          have fz9 := h9.frozen 0
          refine hK.out _ _ (⟨R79, R19⟩) (fun hHeld7 => ?_)
          clear hK K hHeld6
          try simp only [List.getElem_toArray, List.getElem_cons_succ, List.getElem_cons_zero, Act.put, List.setIfInBounds_toArray, List.set_cons_zero, List.set_cons_succ]
          refine wpAnyH_take (i := 7) (oi := _) (v := ?v8m1_8) rfl (by kernel_rfl) (by kernel_rfl) (by kernel_rfl) (fun _ _ _ h => h) (Or.inl ⟨by rfl, ?hy8m1_8⟩) hHeld7 ?_
          case hy8m1_8 => (intro wS hSw; (try dsimp only at hSw); have hs0 := hSw.1.op; clear hSw; obtain ⟨s0, s1, s2, s3, s4, s5, s6, s7, s8⟩ := hs0; go_simp; try with_reducible rfl)
          try simp only [List.getElem_toArray, List.getElem_cons_succ, List.getElem_cons_zero, Act.put, List.setIfInBounds_toArray, List.set_cons_zero, List.set_cons_succ]
          refine wpAnyH_ready (rs := [8]) (by kernel_rfl) (by simp) ?_
          refine (AllReadyH.cons (o := _) rfl (fun K hK => ?_) AllReadyH.nil)
          go_simp
          have g11 := grown_set w9 (w.heap.size + 1 + 1 + 1) 0 (.slice A9 (foldOps (b.ops.take (k + 1)) kz).length d9)
          have h11 : Row (w9.setCell ⟨w.heap.size + 1 + 1 + 1, 0, none⟩ (.slice A9 (foldOps (b.ops.take (k + 1)) kz).length d9)) (w.heap.size + 1 + 1 + 1) 39 (blockCells (.slice A9 (foldOps (b.ops.take (k + 1)) kz).length d9) Block.zero) := h9.set 0 _
          have R7f := R79.grown g11 (fun e => by injection e with e; omega)
          have R1f := R19.grown g11 (fun e => by injection e with e; omega)
          have k11 := k9.grown g11 (fun e => by injection e with e; omega)
          have z11 := z9.grown g11 (fun e => by injection e with e; omega)
          refine hK.out _ _ (⟨R7f, R1f⟩) (fun hHeld9 => ?_)
          clear hK K hHeld7
          try simp only [List.getElem_toArray, List.getElem_cons_succ, List.getElem_cons_zero, Act.put, List.setIfInBounds_toArray, List.set_cons_zero, List.set_cons_succ]
          refine wpAnyH_done (by kernel_rfl) ?_ _
          have tt : Below w.heap.size w (w9.setCell ⟨w.heap.size + 1 + 1 + 1, 0, none⟩ (.slice A9 (foldOps (b.ops.take (k + 1)) kz).length d9)) := (T3.trans (t9.mono hB0)).grown g11 (Nat.le_trans T3.size (Nat.le_trans t9.size (Nat.le_refl _))) (fun j hj => by injection hj with hj; omega)
          go_wp2_with fail
          exact ⟨⟨k + 1, _, F9, by omega, by go_num, own9.grown g11 (fun b hb e => by injection e with e; have := hF9' b hb; omega), hF9', h11, HKT.out ▸ R1f, k11, z11, tt, Nat.le_trans hB3 (Nat.le_trans t9.size g11.size)⟩, by simp [intOf]; omega⟩
        · go_simp
          refine (foldop_calls o kn _ HKN.out.1 HRT.out).mono ?_
          rintro e w4 ⟨he, hb4⟩
          rw [← HP.out] at he
          replace he : e = .returned (.agg #[.int .i64 p.ins.op, .int .i64 p.ins.a, .int .i64 p.ins.b, .int .i64 p.ins.c, .int .i64 p.ins.imm, .bool p.rel, .int .i64 p.kind, .int .i64 p.to, .int .i64 p.add]) := he
          subst he
          have b4 : Below w3.heap.size w3 w4 := (Below.refl _ _).drew.trans hb4
          have q4 := Sub.of_below b4 _ _ q33
          have R7 := r7.below b4
          have R1 := r3.below b4
          go_wp2_with fail
          refine hK.out _ _ (⟨R7, R1⟩) (fun hHeld10 => ?_)
          clear hK K hHeld
          try simp only [List.getElem_toArray, List.getElem_cons_succ, List.getElem_cons_zero, Act.put, List.setIfInBounds_toArray, List.set_cons_zero, List.set_cons_succ]
          refine wpAnyH_ready (rs := [1, 5]) (by kernel_rfl) (by simp) ?_
          refine (AllReadyH.cons (o := _) rfl (fun K hK => ?_) (AllReadyH.cons (o := _) rfl (fun K hK => ?_) AllReadyH.nil))
          · go_simp
            refine hK.out _ _ (hHeld10) (fun hHeld11 => ?_)
            clear hK K hHeld10
            try simp only [List.getElem_toArray, List.getElem_cons_succ, List.getElem_cons_zero, Act.put, List.setIfInBounds_toArray, List.set_cons_zero, List.set_cons_succ]
            refine wpAnyH_ready (rs := [5]) (by kernel_rfl) (by simp) ?_
            refine (AllReadyH.cons (o := _) rfl (fun K hK => ?_) AllReadyH.nil)
            go_simp
            have b8 := below_alloc' w4 (.cells #[.int .i64 p.ins.op, .int .i64 p.ins.a, .int .i64 p.ins.b, .int .i64 p.ins.c, .int .i64 p.ins.imm, .bool p.rel, .int .i64 p.kind, .int .i64 p.to, .int .i64 p.add] 56)
            have q8 := Sub.of_below b8 _ _ q4
            have R7b := R7.below b8
            have R1b := R1.below b8
            refine hK.out _ _ (⟨R7b, R1b⟩) (fun hHeld12 => ?_)
            clear hK K hHeld11
            try simp only [List.getElem_toArray, List.getElem_cons_succ, List.getElem_cons_zero, Act.put, List.setIfInBounds_toArray, List.set_cons_zero, List.set_cons_succ]
            refine wpAnyH_ready (rs := [6]) (by kernel_rfl) (by simp) ?_
            refine (AllReadyH.cons (o := _) rfl (fun K hK => ?_) AllReadyH.nil)
            refine step_append_f (k := oOp) elOp rfl _ _ rfl (ys := [p]) ((ho3.below b4).below b8) (YF.op rfl HWP.out) (fun _ _ h => h) rfl rfl (by simp; omega) ?_
            intro v9 w9 hg9
            obtain ⟨⟨F9, own9, hF9⟩, hgr9⟩ := hg9
            rw [← HT.out] at own9
            have b48 := b4.trans (b8.mono b4.size)
            have t9 : Below B w3 w9 := (b48.mono hB3).grown hgr9 (Nat.le_trans hB3 b48.size) (fun j hj => hF j (ho.row hj))
            have hF9' : ∀ b, F9 b → B ≤ b := fun b hb => by (rcases hF9 b hb with h | h | h; exact hF b h; exact h.elim; exact Nat.le_trans hB3 (Nat.le_trans b48.size h))
            obtain ⟨A9, d9, rfl, l9, m9, hC9⟩ := own9.read
            have R79 := (R7b.grown hgr9 (fun e => by have := HLT.out _ (ho.row e); omega))
            have R19 := (R1b.grown hgr9 (fun e => by have := hF _ (ho.row e); omega))
            have h9 := h5.belowAt t9 (by omega)
            have k9 := k0.belowAt t9 (by omega)
            have z9 := zz.belowAt t9 (by omega)
            have c9 := h9.cell (j := 0) rfl
            have fz9 := h9.frozen 0
            refine hK.out _ _ (⟨R79, R19⟩) (fun hHeld13 => ?_)
            clear hK K hHeld12
            try simp only [List.getElem_toArray, List.getElem_cons_succ, List.getElem_cons_zero, Act.put, List.setIfInBounds_toArray, List.set_cons_zero, List.set_cons_succ]
            refine wpAnyH_take (i := 7) (oi := _) (v := ?v8m1_14) rfl (by kernel_rfl) (by kernel_rfl) (by kernel_rfl) (fun _ _ _ h => h) (Or.inl ⟨by rfl, ?hy8m1_14⟩) hHeld13 ?_
            case hy8m1_14 => (intro wS hSw; (try dsimp only at hSw); have hs0 := hSw.1.op; clear hSw; obtain ⟨s0, s1, s2, s3, s4, s5, s6, s7, s8⟩ := hs0; go_simp; try with_reducible rfl)
            try simp only [List.getElem_toArray, List.getElem_cons_succ, List.getElem_cons_zero, Act.put, List.setIfInBounds_toArray, List.set_cons_zero, List.set_cons_succ]
            refine wpAnyH_ready (rs := [8]) (by kernel_rfl) (by simp) ?_
            refine (AllReadyH.cons (o := _) rfl (fun K hK => ?_) AllReadyH.nil)
            go_simp
            have g11 := grown_set w9 (w.heap.size + 1 + 1 + 1) 0 (.slice A9 (foldOps (b.ops.take (k + 1)) kz).length d9)
            have h11 : Row (w9.setCell ⟨w.heap.size + 1 + 1 + 1, 0, none⟩ (.slice A9 (foldOps (b.ops.take (k + 1)) kz).length d9)) (w.heap.size + 1 + 1 + 1) 39 (blockCells (.slice A9 (foldOps (b.ops.take (k + 1)) kz).length d9) Block.zero) := h9.set 0 _
            have R7f := R79.grown g11 (fun e => by injection e with e; omega)
            have R1f := R19.grown g11 (fun e => by injection e with e; omega)
            have k11 := k9.grown g11 (fun e => by injection e with e; omega)
            have z11 := z9.grown g11 (fun e => by injection e with e; omega)
            refine hK.out _ _ (⟨R7f, R1f⟩) (fun hHeld15 => ?_)
            clear hK K hHeld13
            try simp only [List.getElem_toArray, List.getElem_cons_succ, List.getElem_cons_zero, Act.put, List.setIfInBounds_toArray, List.set_cons_zero, List.set_cons_succ]
            refine wpAnyH_done (by kernel_rfl) ?_ _
            have tt : Below w.heap.size w (w9.setCell ⟨w.heap.size + 1 + 1 + 1, 0, none⟩ (.slice A9 (foldOps (b.ops.take (k + 1)) kz).length d9)) := (T3.trans (t9.mono hB0)).grown g11 (Nat.le_trans T3.size (Nat.le_trans t9.size (Nat.le_refl _))) (fun j hj => by injection hj with hj; omega)
            go_wp2_with fail
            exact ⟨⟨k + 1, _, F9, by omega, by go_num, own9.grown g11 (fun b hb e => by injection e with e; have := hF9' b hb; omega), hF9', h11, HKT.out ▸ R1f, k11, z11, tt, Nat.le_trans hB3 (Nat.le_trans t9.size g11.size)⟩, by simp [intOf]; omega⟩
          · go_simp
            have b8 := below_alloc' w4 (.cells #[.int .i64 p.ins.op, .int .i64 p.ins.a, .int .i64 p.ins.b, .int .i64 p.ins.c, .int .i64 p.ins.imm, .bool p.rel, .int .i64 p.kind, .int .i64 p.to, .int .i64 p.add] 56)
            have q8 := Sub.of_below b8 _ _ q4
            have R7b := R7.below b8
            have R1b := R1.below b8
            refine hK.out _ _ (⟨R7b, R1b⟩) (fun hHeld16 => ?_)
            clear hK K hHeld10
            try simp only [List.getElem_toArray, List.getElem_cons_succ, List.getElem_cons_zero, Act.put, List.setIfInBounds_toArray, List.set_cons_zero, List.set_cons_succ]
            refine wpAnyH_ready (rs := [1]) (by kernel_rfl) (by simp) ?_
            refine (AllReadyH.cons (o := _) rfl (fun K hK => ?_) AllReadyH.nil)
            go_simp
            refine hK.out _ _ (hHeld16) (fun hHeld17 => ?_)
            clear hK K hHeld16
            try simp only [List.getElem_toArray, List.getElem_cons_succ, List.getElem_cons_zero, Act.put, List.setIfInBounds_toArray, List.set_cons_zero, List.set_cons_succ]
            refine wpAnyH_ready (rs := [6]) (by kernel_rfl) (by simp) ?_
            refine (AllReadyH.cons (o := _) rfl (fun K hK => ?_) AllReadyH.nil)
            refine step_append_f (k := oOp) elOp rfl _ _ rfl (ys := [p]) ((ho3.below b4).below b8) (YF.op rfl HWP.out) (fun _ _ h => h) rfl rfl (by simp; omega) ?_
            intro v9 w9 hg9
            obtain ⟨⟨F9, own9, hF9⟩, hgr9⟩ := hg9
            rw [← HT.out] at own9
            have b48 := b4.trans (b8.mono b4.size)
            have t9 : Below B w3 w9 := (b48.mono hB3).grown hgr9 (Nat.le_trans hB3 b48.size) (fun j hj => hF j (ho.row hj))
            have hF9' : ∀ b, F9 b → B ≤ b := fun b hb => by (rcases hF9 b hb with h | h | h; exact hF b h; exact h.elim; exact Nat.le_trans hB3 (Nat.le_trans b48.size h))
            obtain ⟨A9, d9, rfl, l9, m9, hC9⟩ := own9.read
            have R79 := (R7b.grown hgr9 (fun e => by have := HLT.out _ (ho.row e); omega))
            have R19 := (R1b.grown hgr9 (fun e => by have := hF _ (ho.row e); omega))
            have h9 := h5.belowAt t9 (by omega)
            have k9 := k0.belowAt t9 (by omega)
            have z9 := zz.belowAt t9 (by omega)
            have c9 := h9.cell (j := 0) rfl
            have fz9 := h9.frozen 0
            refine hK.out _ _ (⟨R79, R19⟩) (fun hHeld18 => ?_)
            clear hK K hHeld17
            try simp only [List.getElem_toArray, List.getElem_cons_succ, List.getElem_cons_zero, Act.put, List.setIfInBounds_toArray, List.set_cons_zero, List.set_cons_succ]
            refine wpAnyH_take (i := 7) (oi := _) (v := ?v8m1_19) rfl (by kernel_rfl) (by kernel_rfl) (by kernel_rfl) (fun _ _ _ h => h) (Or.inl ⟨by rfl, ?hy8m1_19⟩) hHeld18 ?_
            case hy8m1_19 => (intro wS hSw; (try dsimp only at hSw); have hs0 := hSw.1.op; clear hSw; obtain ⟨s0, s1, s2, s3, s4, s5, s6, s7, s8⟩ := hs0; go_simp; try with_reducible rfl)
            try simp only [List.getElem_toArray, List.getElem_cons_succ, List.getElem_cons_zero, Act.put, List.setIfInBounds_toArray, List.set_cons_zero, List.set_cons_succ]
            refine wpAnyH_ready (rs := [8]) (by kernel_rfl) (by simp) ?_
            refine (AllReadyH.cons (o := _) rfl (fun K hK => ?_) AllReadyH.nil)
            go_simp
            have g11 := grown_set w9 (w.heap.size + 1 + 1 + 1) 0 (.slice A9 (foldOps (b.ops.take (k + 1)) kz).length d9)
            have h11 : Row (w9.setCell ⟨w.heap.size + 1 + 1 + 1, 0, none⟩ (.slice A9 (foldOps (b.ops.take (k + 1)) kz).length d9)) (w.heap.size + 1 + 1 + 1) 39 (blockCells (.slice A9 (foldOps (b.ops.take (k + 1)) kz).length d9) Block.zero) := h9.set 0 _
            have R7f := R79.grown g11 (fun e => by injection e with e; omega)
            have R1f := R19.grown g11 (fun e => by injection e with e; omega)
            have k11 := k9.grown g11 (fun e => by injection e with e; omega)
            have z11 := z9.grown g11 (fun e => by injection e with e; omega)
            refine hK.out _ _ (⟨R7f, R1f⟩) (fun hHeld20 => ?_)
            clear hK K hHeld18
            try simp only [List.getElem_toArray, List.getElem_cons_succ, List.getElem_cons_zero, Act.put, List.setIfInBounds_toArray, List.set_cons_zero, List.set_cons_succ]
            refine wpAnyH_done (by kernel_rfl) ?_ _
            have tt : Below w.heap.size w (w9.setCell ⟨w.heap.size + 1 + 1 + 1, 0, none⟩ (.slice A9 (foldOps (b.ops.take (k + 1)) kz).length d9)) := (T3.trans (t9.mono hB0)).grown g11 (Nat.le_trans T3.size (Nat.le_trans t9.size (Nat.le_refl _))) (fun j hj => by injection hj with hj; omega)
            go_wp2_with fail
            exact ⟨⟨k + 1, _, F9, by omega, by go_num, own9.grown g11 (fun b hb e => by injection e with e; have := hF9' b hb; omega), hF9', h11, HKT.out ▸ R1f, k11, z11, tt, Nat.le_trans hB3 (Nat.le_trans t9.size g11.size)⟩, by simp [intOf]; omega⟩
      · obtain rfl : k = b.ops.length := by omega
        rw [List.take_length] at ho h1
        obtain ⟨A', c', rfl, l', m', hC'⟩ := ho.read
        have HO := Lib.hid ho
        have HF := Lib.hid hF
        have hgk := behindOps_good HOK.out HK.out
        have HGK := Lib.hid hgk
        clear ho hF hC' hgk
        have i0 := k0.cell (j := 0) rfl
        obtain ⟨y0, y1, y2, y3, y4, y5, y6, y7, y8, y9, y10, y11⟩ := k0.block
        go_upto_region 10 with fail
        go_wp2_with (refine wpList_load_known _ _ _ HGK.out.1 h1 rfl rfl rfl ?_)
        refine (foldterm_calls b.fin _ _ HGK.out.1 HAB.out).mono ?_
        rintro e w3 ⟨rfl, hb3⟩
        have h53 := h5.below hb3
        have zz3 := zz.below hb3
        clear y0 y1 y2 y3 y4 y5 y6 y7 y8 y9 y10 y11 i0
        obtain ⟨t, ht⟩ : ∃ t, foldTerm b.fin (behindOps b.ops kz) = t := ⟨_, rfl⟩
        rw [ht]
        have HEE := HE
        rw [ht] at HEE
        clear ht
        go_upto_region 11 with (refine wpList_put_fin _ _ t h53 rfl rfl rfl rfl ?_; intro w4 r4 g4 s4)
        have zz4 := zz3.grown g4 (fun e => by injection e with e; omega)
        obtain ⟨y0, y1, y2, y3, y4, y5, y6, y7, y8, y9, y10, y11⟩ := r4.block
        go_wp2_with (refine wpList_put_row rfl 39 _ _ rfl (w.heap.size + 1 + 1) (blockCells (.slice A' (foldOps b.ops kz).length c') ⟨[], t⟩) rfl rfl zz4 (by kernel_rfl) rfl (blockCells_one _) ?_; intro w6 r6 g6 s6)
        refine bodyPost_ret (results_cell_row rfl _ _ (w.heap.size + 1 + 1) 39 (blockCells (.slice A' (foldOps b.ops kz).length c') ⟨[], t⟩).toArray (0, 0) _ rfl r6 Try.underlying39 rfl (by kernel_rfl)) rfl ?_
        rw [HEE.out]
        have t3 := hbr.trans (hb3.mono hbr.size)
        have t4 := t3.grown g4 t3.size (fun j hj => by injection hj with hj; omega)
        have t6 := t4.grown g6 t4.size (fun j hj => by injection hj with hj; omega)
        exact ⟨A', c', F, rfl, ((HO.out.below hb3).grown g4 (fun x hx e => by injection e with e; have := HF.out x hx; omega)).grown g6 (fun x hx e => by injection e with e; have := HF.out x hx; omega), fun x hx => .inr (by have := HF.out x hx; omega), t6⟩
end Go.Proofs.Ytokkngfgppikkab
