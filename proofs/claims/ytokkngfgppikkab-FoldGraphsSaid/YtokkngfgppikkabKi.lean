/- Behind, of layer 20 (value). Printed by genKi.py of this repository. -/
import Derived.Test.YtokkngfgppikkabKh
import Derived.Deep.RegionHeld3
namespace Go.Proofs.Ytokkngfgppikkab
set_option linter.unusedVariables false
set_option linter.unusedSimpArgs false
open Go.RowKit

theorem Row.range {w : World} {g : Nat} {T : TypeId} {cs : List Value} (h : Row w g T cs) : w.rangeAt g 0 cs := fun j v hv => by rw [Nat.zero_add]; exact h.cell hv
theorem yieldsIf_load_known {ops : Array Oper} {S : World → Prop} {op : Oper} {a : Act} (x : Operand) (k : Known) (g off : Nat) (hw : k.wf) (hS : ∀ w, S w → w.rangeAt g off (knownCells k)) (hwt : Region.wanted op (yielded ops a.tmps) = true) (ho : op.op = .load 77 x) (hx : a.eval x = .pointer (some ⟨g, off, none⟩)) : YieldsIf Try.prog ops S op (.agg (knownCells k).toArray) a :=
  yieldsIf_load_mid hwt _ x ho g off hx _ _ hS Try.underlying77 rfl (infoKnown hw)
set_option maxHeartbeats 8000000 in
set_option maxRecDepth 100000 in
theorem behind_calls (k : Known) (o : Op) (w : World) (hk : k.wf) (hr : o.ins.right = true) : Calls Try.prog 58 #[.agg (knownCells k).toArray, .agg #[.int .i64 o.ins.op, .int .i64 o.ins.a, .int .i64 o.ins.b, .int .i64 o.ins.c, .int .i64 o.ins.imm, .bool o.rel, .int .i64 o.kind, .int .i64 o.to, .int .i64 o.add]] w fun e w' => e = .returned (.agg (knownCells (behindK k o)).toArray) ∧ Below w.heap.size w w' := by
  obtain ⟨W, hW, bW, zW, r0, r1, r2⟩ := three_rows w (knownCells k).toArray #[.int .i64 o.ins.op, .int .i64 o.ins.a, .int .i64 o.ins.b, .int .i64 o.ins.c, .int .i64 o.ins.imm, .bool o.rel, .int .i64 o.kind, .int .i64 o.to, .int .i64 o.add] #[.bool false, .bool false, .bool false, .bool false, .bool false, .bool false, .bool false, .bool false, .bool false, .bool false, .bool false, .bool false, .bool false, .bool false, .bool false, .bool false, .bool false, .int .u32 0, .int .u32 0, .int .u32 0, .int .u32 0, .int .u32 0, .int .u32 0, .int .u32 0, .int .u32 0, .int .u32 0, .int .u32 0, .int .u32 0, .int .u32 0, .int .u32 0, .int .u32 0, .int .u32 0, .int .u32 0] 77 56 77
  replace r2 : Row W (w.heap.size + 1 + 1) 77 (knownCells Known.zero) := r2
  replace r1 : Row W (w.heap.size + 1) 56 (opCells o) := r1
  have HW := Lib.hid hW
  have ZW := Lib.hid zW
  have HRI := Lib.hid hr
  have hwf := behindK_wf hk o
  clear hW zW hr
  go_enter Try.func58, Try.ntmps58
  go_upto_region 1 with fail
  rw [← HW.out]
  clear HW
  refine wp_region_held_drew (S := (fun w' => Row w' (w.heap.size + 1) 56 (opCells o))) (by kernel_rfl) (r1) (fun hHeld => ?_)
  refine wpAnyH_take (i := 0) (oi := _) (v := ?v1n1_0) rfl (by kernel_rfl) (by kernel_rfl) (by kernel_rfl) (fun _ _ _ h => h) (Or.inl ⟨by rfl, ?hy1n1_0⟩) hHeld ?_
  case hy1n1_0 => (intro wS hSw; (try dsimp only at hSw); obtain ⟨s0, s1, s2, s3, s4, s5, s6, s7, s8⟩ := Row.op hSw; go_simp; try with_reducible rfl)
  try simp only [List.getElem_toArray, List.getElem_cons_succ, List.getElem_cons_zero, Act.put, List.setIfInBounds_toArray, List.set_cons_zero, List.set_cons_succ]
  refine wpAnyH_take (i := 1) (oi := _) (v := ?v1n1_1) rfl (by kernel_rfl) (by kernel_rfl) (by kernel_rfl) (fun _ _ _ h => h) (Or.inl ⟨by rfl, ?hy1n1_1⟩) hHeld ?_
  case hy1n1_1 => (intro wS hSw; (try dsimp only at hSw); obtain ⟨s0, s1, s2, s3, s4, s5, s6, s7, s8⟩ := Row.op hSw; go_simp; try with_reducible rfl)
  try simp only [List.getElem_toArray, List.getElem_cons_succ, List.getElem_cons_zero, Act.put, List.setIfInBounds_toArray, List.set_cons_zero, List.set_cons_succ]
  refine wpAnyH_take (i := 3) (oi := _) (v := ?v1n1_3) rfl (by kernel_rfl) (by kernel_rfl) (by kernel_rfl) (fun _ _ _ h => h) (Or.inl ⟨by rfl, ?hy1n1_3⟩) hHeld ?_
  case hy1n1_3 => (intro wS hSw; (try dsimp only at hSw); obtain ⟨s0, s1, s2, s3, s4, s5, s6, s7, s8⟩ := Row.op hSw; go_simp; try with_reducible rfl)
  try simp only [List.getElem_toArray, List.getElem_cons_succ, List.getElem_cons_zero, Act.put, List.setIfInBounds_toArray, List.set_cons_zero, List.set_cons_succ]
  refine wpAnyH_take (i := 4) (oi := _) (v := ?v1n1_4) rfl (by kernel_rfl) (by kernel_rfl) (by kernel_rfl) (fun _ _ _ h => h) (Or.inl ⟨by rfl, ?hy1n1_4⟩) hHeld ?_
  case hy1n1_4 => (intro wS hSw; (try dsimp only at hSw); obtain ⟨s0, s1, s2, s3, s4, s5, s6, s7, s8⟩ := Row.op hSw; go_simp; try with_reducible rfl)
  try simp only [List.getElem_toArray, List.getElem_cons_succ, List.getElem_cons_zero, Act.put, List.setIfInBounds_toArray, List.set_cons_zero, List.set_cons_succ]
  refine wpAnyH_ready (rs := [2]) (by kernel_rfl) (by simp) ?_
  refine AllReadyH.cons (o := _) rfl (fun K hK => ?_) AllReadyH.nil
  go_simp
  refine (flowKind_calls _ _ _ _ _ _).mono ?_
  rintro e w1 ⟨rfl, hb1⟩
  go_wp2_with fail
  refine hK.out _ _ (Row.below hHeld hb1) (fun hHeld2 => ?_)
  clear hK K hHeld
  try simp only [List.getElem_toArray, List.getElem_cons_succ, List.getElem_cons_zero, Act.put, List.setIfInBounds_toArray, List.set_cons_zero, List.set_cons_succ]
  refine wpAnyH_ready (rs := [5]) (by kernel_rfl) (by simp) ?_
  refine AllReadyH.cons (o := _) rfl (fun K hK => ?_) AllReadyH.nil
  go_simp
  refine (flowWrites_calls _ _ _ _ _ _).mono ?_
  rintro e w2 ⟨rfl, hb2⟩
  go_wp2_with fail
  refine hK.out _ _ (Row.below hHeld2 hb2) (fun hHeld5 => ?_)
  clear hK K hHeld2
  try simp only [List.getElem_toArray, List.getElem_cons_succ, List.getElem_cons_zero, Act.put, List.setIfInBounds_toArray, List.set_cons_zero, List.set_cons_succ]
  refine wpAnyH_take (i := 6) (oi := _) (v := ?v1n1_6) rfl (by kernel_rfl) (by kernel_rfl) (by kernel_rfl) (fun _ _ _ h => h) (Or.inl ⟨by rfl, ?hy1n1_6⟩) hHeld5 ?_
  case hy1n1_6 => (intro wS hSw; (try dsimp only at hSw); obtain ⟨s0, s1, s2, s3, s4, s5, s6, s7, s8⟩ := Row.op hSw; go_simp; try with_reducible rfl)
  try simp only [List.getElem_toArray, List.getElem_cons_succ, List.getElem_cons_zero, Act.put, List.setIfInBounds_toArray, List.set_cons_zero, List.set_cons_succ]
  refine wpAnyH_take (i := 7) (oi := _) (v := ?v1n1_7) rfl (by kernel_rfl) (by kernel_rfl) (by kernel_rfl) (fun _ _ _ h => h) (Or.inl ⟨by rfl, ?hy1n1_7⟩) hHeld5 ?_
  case hy1n1_7 => (intro wS hSw; (try dsimp only at hSw); obtain ⟨s0, s1, s2, s3, s4, s5, s6, s7, s8⟩ := Row.op hSw; go_simp; try with_reducible rfl)
  try simp only [List.getElem_toArray, List.getElem_cons_succ, List.getElem_cons_zero, Act.put, List.setIfInBounds_toArray, List.set_cons_zero, List.set_cons_succ]
  refine wpAnyH_done (by kernel_rfl) ?_ _
  have u2 : Below W.heap.size W w2 := (Below.refl W.heap.size W).drew.trans (hb1.trans (hb2.mono hb1.size))
  have t2 := bW.trans (u2.mono bW.size)
  have q0 := r0.below u2
  have q1 := r1.below u2
  have q2 := r2.below u2
  have hlt2 : w.heap.size + 1 + 1 < w2.heap.size := q2.lt
  clear r0 r1 r2 hb1 hb2 u2 bW hHeld5
  have x0 := q0.cell (knownCells_re k)
  cases hre : k.reached with
  | false =>
    rw [hre] at x0
    have he : behindK k o = k := by unfold behindK; rw [if_pos hre]
    have HE := Lib.hid he
    clear he hre
    go_wp2_with (first | (refine wpList_load_known _ k _ hk q0 rfl rfl rfl ?_) | (refine wpList_put_known _ _ k _ hk Known.zero_wf q2 rfl rfl rfl rfl ?_; intro w4 r4 g4 s4))
    have t4 := t2.grown g4 t2.size (fun j hj => by injection hj with hj; subst hj; omega)
    rw [← HE.out] at r4
    exact bodyPost_ret (results_known rfl _ _ _ _ rfl hwf r4) rfl ⟨rfl, t4⟩
  | true =>
    rw [hre] at x0
    have HRE := Lib.hid hre
    by_cases h4 : fkind o.ins.op = 4
    · have he : behindK k o = Known.none := by unfold behindK; rw [if_neg (by rw [hre]; decide), if_pos h4]
      have HE := Lib.hid he
      have z4 : (fkind o.ins.op == 4) = true := by simp [h4]
      clear he hre h4
      go_wp2_with fail
      refine (none_calls _).mono ?_
      rintro e w3 ⟨rfl, hb3⟩
      have q2' := q2.below hb3
      have t3 := t2.trans (hb3.mono t2.size)
      go_wp2_with (refine wpList_put_known _ _ Known.none _ Known.none_wf Known.zero_wf q2' rfl rfl rfl rfl ?_; intro w4 r4 g4 s4)
      have t4 := t3.grown g4 t3.size (fun j hj => by injection hj with hj; subst hj; omega)
      rw [← HE.out] at r4
      exact bodyPost_ret (results_known rfl _ _ _ _ rfl hwf r4) rfl ⟨rfl, t4⟩
    · have z4 : (fkind o.ins.op == 4) = false := by simp [h4]
      by_cases hn : writes o.ins.op o.ins.a < 0
      · have he : behindK k o = k := by unfold behindK; rw [if_neg (by rw [hre]; decide), if_neg h4, if_pos hn]
        have HE := Lib.hid he
        have zn : decide (writes o.ins.op o.ins.a < 0) = true := by simp [hn]
        clear he hre h4
        go_wp2_with (first | (refine wpList_load_known _ k _ hk q0 rfl rfl rfl ?_) | (refine wpList_put_known _ _ k _ hk Known.zero_wf q2 rfl rfl rfl rfl ?_; intro w4 r4 g4 s4))
        have t4 := t2.grown g4 t2.size (fun j hj => by injection hj with hj; subst hj; omega)
        rw [← HE.out] at r4
        exact bodyPost_ret (results_known rfl _ _ _ _ rfl hwf r4) rfl ⟨rfl, t4⟩
      · have zn : decide (writes o.ins.op o.ins.a < 0) = false := by simp; omega
        have hw15 := writes_le HRI.out
        obtain ⟨n, hnn⟩ := Int.eq_ofNat_of_zero_le (show 0 ≤ writes o.ins.op o.ins.a by omega)
        have hn15 : n < 16 := by omega
        have HN := Lib.hid hnn
        have HNN := Lib.hid hn
        have H4 := Lib.hid h4
        clear hre h4 hn hw15
        rw [hnn] at zn ⊢
        clear hnn
        go_upto_region 8 with fail
        clear x0
        cases hz0 : (fkind o.ins.op == 0) with
        | false =>
          have HZ0 := Lib.hid hz0
          have z0 := hz0
          clear hz0
          go_wp2_with fail
          go_quiet (fail)
          have p0 := q0.below (Below.drewN (Below.refl _ _) nq)
          have p2 := q2.below (Below.drewN (Below.refl _ _) nq)
          have t3 := Below.drewN t2 nq
          clear q0 q1 q2 z0
          generalize w2.drewN nq = w8 at *
          have hcan : canK k o = false := by unfold canK; rw [HZ0.out, Bool.false_and]
          have he : behindK k o = k.put n false 0 := by
            unfold behindK
            rw [if_neg (by rw [HRE.out]; decide), if_neg H4.out, if_neg (Int.not_lt.2 HNN.out), if_neg (by rw [hcan]; decide), HN.out]
            rfl
          have HE := Lib.hid he
          clear he hcan
          have d1 := p0.kis hk hn15
          have d2 := p0.kw hk hn15
          have f1 := p0.frozen (1 + n)
          have f2 := p0.frozen (17 + n)
          obtain ⟨k1, k2⟩ := p0.kput hk hn15 false 0
          have K1 := Lib.hid k1
          have p2b := p2.grown k2 (fun e => by injection e with e; omega)
          have t5 := t3.grown k2 t3.size (fun j hj => by injection hj with hj; subst hj; exact Nat.le_refl _)
          clear k1 k2
          go_upto_region 12 with fail
          clear d1 d2 f1 f2
          have k1 := K1.out
          generalize (w8.setCell ⟨w.heap.size, 1 + n, none⟩ (.bool false)).setCell ⟨w.heap.size, 17 + n, none⟩ (.int .u32 ((0 : Nat) : Int)) = Y at *
          have hwp := Known.put_wf hk n false (x := 0) (by decide)
          clear K1
          go_wp2_with (first | (refine wpList_load_known _ _ _ hwp k1 rfl rfl rfl ?_) | (refine wpList_put_known _ _ (k.put n false 0) _ hwp Known.zero_wf p2b rfl rfl rfl rfl ?_; intro w9 r9 g9 s9))
          have t9 := t5.grown g9 t5.size (fun j hj => by injection hj with hj; subst hj; omega)
          rw [← HE.out] at r9
          exact bodyPost_ret (results_known rfl _ _ _ _ rfl hwf r9) rfl ⟨rfl, t9⟩
        | true =>
          have HZ0 := Lib.hid hz0
          have z0 := hz0
          clear hz0
          cases hrl : o.rel with
          | true =>
            have HRL := Lib.hid hrl
            have x5 := q1.cell (j := 5) rfl
            rw [hrl] at x5
            clear hrl
            go_wp2_with fail
            go_quiet (fail)
            have p0 := q0.below (Below.drewN (Below.refl _ _) nq)
            have p2 := q2.below (Below.drewN (Below.refl _ _) nq)
            have t3 := Below.drewN t2 nq
            clear q0 q1 q2 z0 x5
            generalize w2.drewN nq = w8 at *
            have hcan : canK k o = false := by unfold canK; rw [HRL.out, Bool.not_true, Bool.false_and, Bool.and_false]
            have he : behindK k o = k.put n false 0 := by
              unfold behindK
              rw [if_neg (by rw [HRE.out]; decide), if_neg H4.out, if_neg (Int.not_lt.2 HNN.out), if_neg (by rw [hcan]; decide), HN.out]
              rfl
            have HE := Lib.hid he
            clear he hcan
            have d1 := p0.kis hk hn15
            have d2 := p0.kw hk hn15
            have f1 := p0.frozen (1 + n)
            have f2 := p0.frozen (17 + n)
            obtain ⟨k1, k2⟩ := p0.kput hk hn15 false 0
            have K1 := Lib.hid k1
            have p2b := p2.grown k2 (fun e => by injection e with e; omega)
            have t5 := t3.grown k2 t3.size (fun j hj => by injection hj with hj; subst hj; exact Nat.le_refl _)
            clear k1 k2
            go_upto_region 12 with fail
            clear d1 d2 f1 f2
            have k1 := K1.out
            generalize (w8.setCell ⟨w.heap.size, 1 + n, none⟩ (.bool false)).setCell ⟨w.heap.size, 17 + n, none⟩ (.int .u32 ((0 : Nat) : Int)) = Y at *
            have hwp := Known.put_wf hk n false (x := 0) (by decide)
            clear K1
            go_wp2_with (first | (refine wpList_load_known _ _ _ hwp k1 rfl rfl rfl ?_) | (refine wpList_put_known _ _ (k.put n false 0) _ hwp Known.zero_wf p2b rfl rfl rfl rfl ?_; intro w9 r9 g9 s9))
            have t9 := t5.grown g9 t5.size (fun j hj => by injection hj with hj; subst hj; omega)
            rw [← HE.out] at r9
            exact bodyPost_ret (results_known rfl _ _ _ _ rfl hwf r9) rfl ⟨rfl, t9⟩
          | false =>
            have HRL := Lib.hid hrl
            clear hrl
            have hm := reads_mem HRI.out
            have HM := Lib.hid hm
            have hrl := readsList_len o.ins.op o.ins.a o.ins.b o.ins.c
            clear hm
            have bd2 := (Below.refl w2.heap.size w2).drew
            cases hca : allK k (readsList o.ins.op o.ins.a o.ins.b o.ins.c) with
            | false =>
              have HCA := Lib.hid hca
              clear hca
              refine wp_region_held_drew (S := (fun w' => Row w' w.heap.size 77 (knownCells k) ∧ Row w' (w.heap.size + 1) 56 (opCells o))) (by kernel_rfl) (⟨q0, q1⟩) (fun hHeld => ?_)
              refine wpAnyH_take (i := 0) (oi := _) (v := ?v8n2_0) rfl (by kernel_rfl) (by kernel_rfl) (by kernel_rfl) (fun _ _ _ h => h) (Or.inl ⟨by rfl, ?hy8n2_0⟩) hHeld ?_
              case hy8n2_0 => (intro wS hSw; (try dsimp only at hSw); obtain ⟨hSk, hSo⟩ := hSw; obtain ⟨s0, s1, s2, s3, s4, s5, s6, s7, s8⟩ := Row.op hSo; rw [HRL.out] at s5; clear hSk hSo; go_simp; try with_reducible rfl)
              try simp only [List.getElem_toArray, List.getElem_cons_succ, List.getElem_cons_zero, Act.put, List.setIfInBounds_toArray, List.set_cons_zero, List.set_cons_succ]
              refine wpAnyH_take (i := 1) (oi := _) (v := ?v8n2_1) rfl (by kernel_rfl) (by kernel_rfl) (by kernel_rfl) (fun _ _ _ h => h) (Or.inl ⟨by rfl, ?hy8n2_1⟩) hHeld ?_
              case hy8n2_1 => (intro wS hSw; (try dsimp only at hSw); obtain ⟨hSk, hSo⟩ := hSw; obtain ⟨s0, s1, s2, s3, s4, s5, s6, s7, s8⟩ := Row.op hSo; rw [HRL.out] at s5; clear hSk hSo; go_simp; try with_reducible rfl)
              try simp only [List.getElem_toArray, List.getElem_cons_succ, List.getElem_cons_zero, Act.put, List.setIfInBounds_toArray, List.set_cons_zero, List.set_cons_succ]
              refine wpAnyH_take (i := 2) (oi := _) (v := ?v8n2_2) rfl (by kernel_rfl) (by kernel_rfl) (by kernel_rfl) (fun _ _ _ h => h) (Or.inl ⟨by rfl, ?hy8n2_2⟩) hHeld ?_
              case hy8n2_2 => (intro wS hSw; (try dsimp only at hSw); obtain ⟨hSk, hSo⟩ := hSw; obtain ⟨s0, s1, s2, s3, s4, s5, s6, s7, s8⟩ := Row.op hSo; rw [HRL.out] at s5; clear hSk hSo; go_simp; try with_reducible rfl)
              try simp only [List.getElem_toArray, List.getElem_cons_succ, List.getElem_cons_zero, Act.put, List.setIfInBounds_toArray, List.set_cons_zero, List.set_cons_succ]
              refine wpAnyH_take (i := 3) (oi := _) (v := ?v8n2_3) rfl (by kernel_rfl) (by kernel_rfl) (by kernel_rfl) (fun _ _ _ h => h) (Or.inl ⟨by rfl, ?hy8n2_3⟩) hHeld ?_
              case hy8n2_3 => (intro wS hSw; (try dsimp only at hSw); obtain ⟨hSk, hSo⟩ := hSw; obtain ⟨s0, s1, s2, s3, s4, s5, s6, s7, s8⟩ := Row.op hSo; rw [HRL.out] at s5; clear hSk hSo; go_simp; try with_reducible rfl)
              try simp only [List.getElem_toArray, List.getElem_cons_succ, List.getElem_cons_zero, Act.put, List.setIfInBounds_toArray, List.set_cons_zero, List.set_cons_succ]
              refine wpAnyH_take (i := 4) (oi := _) (v := ?v8n2_4) rfl (by kernel_rfl) (by kernel_rfl) (by kernel_rfl) (fun _ _ _ h => h) (Or.inl ⟨by rfl, ?hy8n2_4⟩) hHeld ?_
              case hy8n2_4 => (intro wS hSw; (try dsimp only at hSw); obtain ⟨hSk, hSo⟩ := hSw; obtain ⟨s0, s1, s2, s3, s4, s5, s6, s7, s8⟩ := Row.op hSo; rw [HRL.out] at s5; clear hSk hSo; go_simp; try with_reducible rfl)
              try simp only [List.getElem_toArray, List.getElem_cons_succ, List.getElem_cons_zero, Act.put, List.setIfInBounds_toArray, List.set_cons_zero, List.set_cons_succ]
              refine wpAnyH_take (i := 5) (oi := _) (v := ?v8n2_5) rfl (by kernel_rfl) (by kernel_rfl) (by kernel_rfl) (fun _ _ _ h => h) (Or.inl ⟨by rfl, ?hy8n2_5⟩) hHeld ?_
              case hy8n2_5 => (intro wS hSw; (try dsimp only at hSw); obtain ⟨hSk, hSo⟩ := hSw; obtain ⟨s0, s1, s2, s3, s4, s5, s6, s7, s8⟩ := Row.op hSo; rw [HRL.out] at s5; clear hSk hSo; go_simp; try with_reducible rfl)
              try simp only [List.getElem_toArray, List.getElem_cons_succ, List.getElem_cons_zero, Act.put, List.setIfInBounds_toArray, List.set_cons_zero, List.set_cons_succ]
              refine wpAnyH_take (i := 6) (oi := _) (v := ?v8n2_6) rfl (by kernel_rfl) (by kernel_rfl) (by kernel_rfl) (fun _ _ _ h => h) (Or.inl ⟨by rfl, ?hy8n2_6⟩) hHeld ?_
              case hy8n2_6 => (intro wS hSw; (try dsimp only at hSw); obtain ⟨hSk, hSo⟩ := hSw; obtain ⟨s0, s1, s2, s3, s4, s5, s6, s7, s8⟩ := Row.op hSo; rw [HRL.out] at s5; clear hSk hSo; go_simp; try with_reducible rfl)
              try simp only [List.getElem_toArray, List.getElem_cons_succ, List.getElem_cons_zero, Act.put, List.setIfInBounds_toArray, List.set_cons_zero, List.set_cons_succ]
              refine wpAnyH_take (i := 7) (oi := _) (v := ?v8n2_7) rfl (by kernel_rfl) (by kernel_rfl) (by kernel_rfl) (fun _ _ _ h => h) (Or.inl ⟨by rfl, ?hy8n2_7⟩) hHeld ?_
              case hy8n2_7 => (intro wS hSw; (try dsimp only at hSw); obtain ⟨hSk, hSo⟩ := hSw; obtain ⟨s0, s1, s2, s3, s4, s5, s6, s7, s8⟩ := Row.op hSo; rw [HRL.out] at s5; clear hSk hSo; go_simp; try with_reducible rfl)
              try simp only [List.getElem_toArray, List.getElem_cons_succ, List.getElem_cons_zero, Act.put, List.setIfInBounds_toArray, List.set_cons_zero, List.set_cons_succ]
              refine wpAnyH_take (i := 8) (oi := _) (v := .agg (knownCells k).toArray) rfl (by kernel_rfl) (by kernel_rfl) (by kernel_rfl) (fun _ _ _ h => h) (yieldsIf_load_known _ k w.heap.size 0 hk (fun wS hS => Row.range hS.1) rfl rfl rfl) hHeld ?_
              try simp only [List.getElem_toArray, List.getElem_cons_succ, List.getElem_cons_zero, Act.put, List.setIfInBounds_toArray, List.set_cons_zero, List.set_cons_succ]
              refine wpAnyH_take (i := 9) (oi := _) (v := ?v8n2_9) rfl (by kernel_rfl) (by kernel_rfl) (by kernel_rfl) (fun _ _ _ h => h) (Or.inl ⟨by rfl, ?hy8n2_9⟩) hHeld ?_
              case hy8n2_9 => (intro wS hSw; (try dsimp only at hSw); obtain ⟨hSk, hSo⟩ := hSw; obtain ⟨s0, s1, s2, s3, s4, s5, s6, s7, s8⟩ := Row.op hSo; rw [HRL.out] at s5; clear hSk hSo; go_simp; try with_reducible rfl)
              try simp only [List.getElem_toArray, List.getElem_cons_succ, List.getElem_cons_zero, Act.put, List.setIfInBounds_toArray, List.set_cons_zero, List.set_cons_succ]
              refine wpAnyH_take (i := 10) (oi := _) (v := ?v8n2_10) rfl (by kernel_rfl) (by kernel_rfl) (by kernel_rfl) (fun _ _ _ h => h) (Or.inl ⟨by rfl, ?hy8n2_10⟩) hHeld ?_
              case hy8n2_10 => (intro wS hSw; (try dsimp only at hSw); obtain ⟨hSk, hSo⟩ := hSw; obtain ⟨s0, s1, s2, s3, s4, s5, s6, s7, s8⟩ := Row.op hSo; rw [HRL.out] at s5; clear hSk hSo; go_simp; try with_reducible rfl)
              try simp only [List.getElem_toArray, List.getElem_cons_succ, List.getElem_cons_zero, Act.put, List.setIfInBounds_toArray, List.set_cons_zero, List.set_cons_succ]
              refine wpAnyH_ready (rs := [11]) (by kernel_rfl) (by simp) ?_
              refine AllReadyH.cons (o := _) rfl (fun K hK => ?_) AllReadyH.nil
              go_simp
              refine (flowReads_calls _ _ _ _ _ _).mono ?_
              rintro e w3 ⟨v3, rfl, ho3, hb3⟩
              obtain ⟨A3, c3, rfl, l3, m3, hC3⟩ := ho3.read
              go_wp2_with fail
              refine hK.out _ _ (⟨Row.below hHeld.1 hb3, Row.below hHeld.2 hb3⟩) (fun hHeld11 => ?_)
              clear hK K hHeld
              try simp only [List.getElem_toArray, List.getElem_cons_succ, List.getElem_cons_zero, Act.put, List.setIfInBounds_toArray, List.set_cons_zero, List.set_cons_succ]
              refine wpAnyH_ready (rs := [12]) (by kernel_rfl) (by simp) ?_
              refine AllReadyH.cons (o := _) rfl (fun K hK => ?_) AllReadyH.nil
              go_simp
              refine (all_calls k _ _ _ _ hk hC3 HM.out (by omega)).mono ?_
              rw [HCA.out]
              rintro e w4 ⟨rfl, hb4⟩
              go_wp2_with fail
              refine hK.out _ _ (⟨Row.below hHeld11.1 hb4, Row.below hHeld11.2 hb4⟩) (fun hHeld12 => ?_)
              clear hK K hHeld11
              try simp only [List.getElem_toArray, List.getElem_cons_succ, List.getElem_cons_zero, Act.put, List.setIfInBounds_toArray, List.set_cons_zero, List.set_cons_succ]
              refine wpAnyH_take (i := 13) (oi := _) (v := ?v8n2_13) rfl (by kernel_rfl) (by kernel_rfl) (by kernel_rfl) (fun _ _ _ h => h) (Or.inl ⟨by rfl, ?hy8n2_13⟩) hHeld12 ?_
              case hy8n2_13 => (intro wS hSw; (try dsimp only at hSw); obtain ⟨hSk, hSo⟩ := hSw; obtain ⟨s0, s1, s2, s3, s4, s5, s6, s7, s8⟩ := Row.op hSo; rw [HRL.out] at s5; clear hSk hSo; go_simp; try with_reducible rfl)
              try simp only [List.getElem_toArray, List.getElem_cons_succ, List.getElem_cons_zero, Act.put, List.setIfInBounds_toArray, List.set_cons_zero, List.set_cons_succ]
              refine wpAnyH_done (by kernel_rfl) ?_ _
              have u4 : Below w2.heap.size w2 w4 := bd2.trans (hb3.trans (hb4.mono hb3.size))
              have p0 := q0.below u4
              have p2 := q2.below u4
              have t3 := t2.trans (u4.mono t2.size)
              clear q0 q1 q2 z0 hb3 hb4 u4 hC3 ho3
              generalize w4 = w8 at *
              have hcan : canK k o = false := by unfold canK; rw [HCA.out, Bool.and_false, Bool.and_false]
              have he : behindK k o = k.put n false 0 := by
                unfold behindK
                rw [if_neg (by rw [HRE.out]; decide), if_neg H4.out, if_neg (Int.not_lt.2 HNN.out), if_neg (by rw [hcan]; decide), HN.out]
                rfl
              have HE := Lib.hid he
              clear he hcan
              have d1 := p0.kis hk hn15
              have d2 := p0.kw hk hn15
              have f1 := p0.frozen (1 + n)
              have f2 := p0.frozen (17 + n)
              obtain ⟨k1, k2⟩ := p0.kput hk hn15 false 0
              have K1 := Lib.hid k1
              have p2b := p2.grown k2 (fun e => by injection e with e; omega)
              have t5 := t3.grown k2 t3.size (fun j hj => by injection hj with hj; subst hj; exact Nat.le_refl _)
              clear k1 k2
              go_upto_region 12 with fail
              clear d1 d2 f1 f2
              have k1 := K1.out
              generalize (w8.setCell ⟨w.heap.size, 1 + n, none⟩ (.bool false)).setCell ⟨w.heap.size, 17 + n, none⟩ (.int .u32 ((0 : Nat) : Int)) = Y at *
              have hwp := Known.put_wf hk n false (x := 0) (by decide)
              clear K1
              go_wp2_with (first | (refine wpList_load_known _ _ _ hwp k1 rfl rfl rfl ?_) | (refine wpList_put_known _ _ (k.put n false 0) _ hwp Known.zero_wf p2b rfl rfl rfl rfl ?_; intro w9 r9 g9 s9))
              have t9 := t5.grown g9 t5.size (fun j hj => by injection hj with hj; subst hj; omega)
              rw [← HE.out] at r9
              exact bodyPost_ret (results_known rfl _ _ _ _ rfl hwf r9) rfl ⟨rfl, t9⟩
            | true =>
              have HCA := Lib.hid hca
              clear hca
              refine wp_region_held_drew (S := (fun w' => Row w' w.heap.size 77 (knownCells k) ∧ Row w' (w.heap.size + 1) 56 (opCells o))) (by kernel_rfl) (⟨q0, q1⟩) (fun hHeld => ?_)
              refine wpAnyH_take (i := 0) (oi := _) (v := ?v8n9_0) rfl (by kernel_rfl) (by kernel_rfl) (by kernel_rfl) (fun _ _ _ h => h) (Or.inl ⟨by rfl, ?hy8n9_0⟩) hHeld ?_
              case hy8n9_0 => (intro wS hSw; (try dsimp only at hSw); obtain ⟨hSk, hSo⟩ := hSw; obtain ⟨s0, s1, s2, s3, s4, s5, s6, s7, s8⟩ := Row.op hSo; rw [HRL.out] at s5; clear hSk hSo; go_simp; try with_reducible rfl)
              try simp only [List.getElem_toArray, List.getElem_cons_succ, List.getElem_cons_zero, Act.put, List.setIfInBounds_toArray, List.set_cons_zero, List.set_cons_succ]
              refine wpAnyH_take (i := 1) (oi := _) (v := ?v8n9_1) rfl (by kernel_rfl) (by kernel_rfl) (by kernel_rfl) (fun _ _ _ h => h) (Or.inl ⟨by rfl, ?hy8n9_1⟩) hHeld ?_
              case hy8n9_1 => (intro wS hSw; (try dsimp only at hSw); obtain ⟨hSk, hSo⟩ := hSw; obtain ⟨s0, s1, s2, s3, s4, s5, s6, s7, s8⟩ := Row.op hSo; rw [HRL.out] at s5; clear hSk hSo; go_simp; try with_reducible rfl)
              try simp only [List.getElem_toArray, List.getElem_cons_succ, List.getElem_cons_zero, Act.put, List.setIfInBounds_toArray, List.set_cons_zero, List.set_cons_succ]
              refine wpAnyH_take (i := 2) (oi := _) (v := ?v8n9_2) rfl (by kernel_rfl) (by kernel_rfl) (by kernel_rfl) (fun _ _ _ h => h) (Or.inl ⟨by rfl, ?hy8n9_2⟩) hHeld ?_
              case hy8n9_2 => (intro wS hSw; (try dsimp only at hSw); obtain ⟨hSk, hSo⟩ := hSw; obtain ⟨s0, s1, s2, s3, s4, s5, s6, s7, s8⟩ := Row.op hSo; rw [HRL.out] at s5; clear hSk hSo; go_simp; try with_reducible rfl)
              try simp only [List.getElem_toArray, List.getElem_cons_succ, List.getElem_cons_zero, Act.put, List.setIfInBounds_toArray, List.set_cons_zero, List.set_cons_succ]
              refine wpAnyH_take (i := 3) (oi := _) (v := ?v8n9_3) rfl (by kernel_rfl) (by kernel_rfl) (by kernel_rfl) (fun _ _ _ h => h) (Or.inl ⟨by rfl, ?hy8n9_3⟩) hHeld ?_
              case hy8n9_3 => (intro wS hSw; (try dsimp only at hSw); obtain ⟨hSk, hSo⟩ := hSw; obtain ⟨s0, s1, s2, s3, s4, s5, s6, s7, s8⟩ := Row.op hSo; rw [HRL.out] at s5; clear hSk hSo; go_simp; try with_reducible rfl)
              try simp only [List.getElem_toArray, List.getElem_cons_succ, List.getElem_cons_zero, Act.put, List.setIfInBounds_toArray, List.set_cons_zero, List.set_cons_succ]
              refine wpAnyH_take (i := 4) (oi := _) (v := ?v8n9_4) rfl (by kernel_rfl) (by kernel_rfl) (by kernel_rfl) (fun _ _ _ h => h) (Or.inl ⟨by rfl, ?hy8n9_4⟩) hHeld ?_
              case hy8n9_4 => (intro wS hSw; (try dsimp only at hSw); obtain ⟨hSk, hSo⟩ := hSw; obtain ⟨s0, s1, s2, s3, s4, s5, s6, s7, s8⟩ := Row.op hSo; rw [HRL.out] at s5; clear hSk hSo; go_simp; try with_reducible rfl)
              try simp only [List.getElem_toArray, List.getElem_cons_succ, List.getElem_cons_zero, Act.put, List.setIfInBounds_toArray, List.set_cons_zero, List.set_cons_succ]
              refine wpAnyH_take (i := 5) (oi := _) (v := ?v8n9_5) rfl (by kernel_rfl) (by kernel_rfl) (by kernel_rfl) (fun _ _ _ h => h) (Or.inl ⟨by rfl, ?hy8n9_5⟩) hHeld ?_
              case hy8n9_5 => (intro wS hSw; (try dsimp only at hSw); obtain ⟨hSk, hSo⟩ := hSw; obtain ⟨s0, s1, s2, s3, s4, s5, s6, s7, s8⟩ := Row.op hSo; rw [HRL.out] at s5; clear hSk hSo; go_simp; try with_reducible rfl)
              try simp only [List.getElem_toArray, List.getElem_cons_succ, List.getElem_cons_zero, Act.put, List.setIfInBounds_toArray, List.set_cons_zero, List.set_cons_succ]
              refine wpAnyH_take (i := 6) (oi := _) (v := ?v8n9_6) rfl (by kernel_rfl) (by kernel_rfl) (by kernel_rfl) (fun _ _ _ h => h) (Or.inl ⟨by rfl, ?hy8n9_6⟩) hHeld ?_
              case hy8n9_6 => (intro wS hSw; (try dsimp only at hSw); obtain ⟨hSk, hSo⟩ := hSw; obtain ⟨s0, s1, s2, s3, s4, s5, s6, s7, s8⟩ := Row.op hSo; rw [HRL.out] at s5; clear hSk hSo; go_simp; try with_reducible rfl)
              try simp only [List.getElem_toArray, List.getElem_cons_succ, List.getElem_cons_zero, Act.put, List.setIfInBounds_toArray, List.set_cons_zero, List.set_cons_succ]
              refine wpAnyH_take (i := 7) (oi := _) (v := ?v8n9_7) rfl (by kernel_rfl) (by kernel_rfl) (by kernel_rfl) (fun _ _ _ h => h) (Or.inl ⟨by rfl, ?hy8n9_7⟩) hHeld ?_
              case hy8n9_7 => (intro wS hSw; (try dsimp only at hSw); obtain ⟨hSk, hSo⟩ := hSw; obtain ⟨s0, s1, s2, s3, s4, s5, s6, s7, s8⟩ := Row.op hSo; rw [HRL.out] at s5; clear hSk hSo; go_simp; try with_reducible rfl)
              try simp only [List.getElem_toArray, List.getElem_cons_succ, List.getElem_cons_zero, Act.put, List.setIfInBounds_toArray, List.set_cons_zero, List.set_cons_succ]
              refine wpAnyH_take (i := 8) (oi := _) (v := .agg (knownCells k).toArray) rfl (by kernel_rfl) (by kernel_rfl) (by kernel_rfl) (fun _ _ _ h => h) (yieldsIf_load_known _ k w.heap.size 0 hk (fun wS hS => Row.range hS.1) rfl rfl rfl) hHeld ?_
              try simp only [List.getElem_toArray, List.getElem_cons_succ, List.getElem_cons_zero, Act.put, List.setIfInBounds_toArray, List.set_cons_zero, List.set_cons_succ]
              refine wpAnyH_take (i := 9) (oi := _) (v := ?v8n9_9) rfl (by kernel_rfl) (by kernel_rfl) (by kernel_rfl) (fun _ _ _ h => h) (Or.inl ⟨by rfl, ?hy8n9_9⟩) hHeld ?_
              case hy8n9_9 => (intro wS hSw; (try dsimp only at hSw); obtain ⟨hSk, hSo⟩ := hSw; obtain ⟨s0, s1, s2, s3, s4, s5, s6, s7, s8⟩ := Row.op hSo; rw [HRL.out] at s5; clear hSk hSo; go_simp; try with_reducible rfl)
              try simp only [List.getElem_toArray, List.getElem_cons_succ, List.getElem_cons_zero, Act.put, List.setIfInBounds_toArray, List.set_cons_zero, List.set_cons_succ]
              refine wpAnyH_take (i := 10) (oi := _) (v := ?v8n9_10) rfl (by kernel_rfl) (by kernel_rfl) (by kernel_rfl) (fun _ _ _ h => h) (Or.inl ⟨by rfl, ?hy8n9_10⟩) hHeld ?_
              case hy8n9_10 => (intro wS hSw; (try dsimp only at hSw); obtain ⟨hSk, hSo⟩ := hSw; obtain ⟨s0, s1, s2, s3, s4, s5, s6, s7, s8⟩ := Row.op hSo; rw [HRL.out] at s5; clear hSk hSo; go_simp; try with_reducible rfl)
              try simp only [List.getElem_toArray, List.getElem_cons_succ, List.getElem_cons_zero, Act.put, List.setIfInBounds_toArray, List.set_cons_zero, List.set_cons_succ]
              refine wpAnyH_ready (rs := [11]) (by kernel_rfl) (by simp) ?_
              refine AllReadyH.cons (o := _) rfl (fun K hK => ?_) AllReadyH.nil
              go_simp
              refine (flowReads_calls _ _ _ _ _ _).mono ?_
              rintro e w3 ⟨v3, rfl, ho3, hb3⟩
              obtain ⟨A3, c3, rfl, l3, m3, hC3⟩ := ho3.read
              go_wp2_with fail
              refine hK.out _ _ (⟨Row.below hHeld.1 hb3, Row.below hHeld.2 hb3⟩) (fun hHeld11 => ?_)
              clear hK K hHeld
              try simp only [List.getElem_toArray, List.getElem_cons_succ, List.getElem_cons_zero, Act.put, List.setIfInBounds_toArray, List.set_cons_zero, List.set_cons_succ]
              refine wpAnyH_ready (rs := [12]) (by kernel_rfl) (by simp) ?_
              refine AllReadyH.cons (o := _) rfl (fun K hK => ?_) AllReadyH.nil
              go_simp
              refine (all_calls k _ _ _ _ hk hC3 HM.out (by omega)).mono ?_
              rw [HCA.out]
              rintro e w4 ⟨rfl, hb4⟩
              go_wp2_with fail
              refine hK.out _ _ (⟨Row.below hHeld11.1 hb4, Row.below hHeld11.2 hb4⟩) (fun hHeld12 => ?_)
              clear hK K hHeld11
              try simp only [List.getElem_toArray, List.getElem_cons_succ, List.getElem_cons_zero, Act.put, List.setIfInBounds_toArray, List.set_cons_zero, List.set_cons_succ]
              refine wpAnyH_take (i := 13) (oi := _) (v := ?v8n9_13) rfl (by kernel_rfl) (by kernel_rfl) (by kernel_rfl) (fun _ _ _ h => h) (Or.inl ⟨by rfl, ?hy8n9_13⟩) hHeld12 ?_
              case hy8n9_13 => (intro wS hSw; (try dsimp only at hSw); obtain ⟨hSk, hSo⟩ := hSw; obtain ⟨s0, s1, s2, s3, s4, s5, s6, s7, s8⟩ := Row.op hSo; rw [HRL.out] at s5; clear hSk hSo; go_simp; try with_reducible rfl)
              try simp only [List.getElem_toArray, List.getElem_cons_succ, List.getElem_cons_zero, Act.put, List.setIfInBounds_toArray, List.set_cons_zero, List.set_cons_succ]
              refine wpAnyH_done (by kernel_rfl) ?_ _
              have u4 : Below w2.heap.size w2 w4 := bd2.trans (hb3.trans (hb4.mono hb3.size))
              replace q0 := q0.below u4
              replace q1 := q1.below u4
              replace q2 := q2.below u4
              have t4 := t2.trans (u4.mono t2.size)
              clear z0 hb3 hb4 u4 hC3 ho3
              obtain ⟨⟨b0, b15⟩, ⟨c0, c15⟩⟩ := right_bc HRI.out
              obtain ⟨nb, hnb'⟩ := Int.eq_ofNat_of_zero_le b0
              obtain ⟨nc, hnc'⟩ := Int.eq_ofNat_of_zero_le c0
              have hnb : nb < 16 := by omega
              have hnc : nc < 16 := by omega
              have hnbI : (nb : Int) < 16 := by omega
              have hncI : (nc : Int) < 16 := by omega
              have hnI : (n : Int) < 16 := by omega
              have HNB := Lib.hid hnb'
              have HNC := Lib.hid hnc'
              have hlb := Known.w_lt hk nb
              have hlc := Known.w_lt hk nc
              have hcan : canK k o = true := by unfold canK; rw [HZ0.out, HRL.out, HCA.out]; rfl
              have hdo : doneK k o = aluDo o.ins.op o.ins.imm (k.wAt nb) (k.wAt nc) := by unfold doneK; rw [hnb', hnc', Int.toNat_natCast, Int.toNat_natCast]
              have he : behindK k o = k.put n true (doneK k o) := by
                unfold behindK
                rw [if_neg (by rw [HRE.out]; decide), if_neg H4.out, if_neg (Int.not_lt.2 HNN.out), if_pos hcan, HN.out]
                rfl
              have hxl := doneK_lt hk o
              rw [hdo] at he hxl
              generalize hxb : k.wAt nb = xb at *
              generalize hxc : k.wAt nc = xc at *
              generalize hx : aluDo o.ins.op o.ins.imm xb xc = x at *
              have HXB := Lib.hid hxb
              have HXC := Lib.hid hxc
              have HDO := Lib.hid hx
              have HE := Lib.hid he
              clear he hdo hcan hnb' hnc' b0 b15 c0 c15 hxb hxc hx
              have bd := (Below.refl w4.heap.size w4).drew
              have rkd := q0.below bd
              have q2d := q2.below bd
              go_wp2_with fail
              refine wp_region_held_drew (S := (fun w' => Row w' (w.heap.size + 1) 56 (opCells o))) (by kernel_rfl) (q1) (fun hHeld => ?_)
              refine wpAnyH_take (i := 0) (oi := _) (v := ?v9m1_1) rfl (by kernel_rfl) (by kernel_rfl) (by kernel_rfl) (fun _ _ _ h => h) (Or.inl ⟨by rfl, ?hy9m1_1⟩) hHeld ?_
              case hy9m1_1 => (intro wS hSw; (try dsimp only at hSw); obtain ⟨s0, s1, s2, s3, s4, s5, s6, s7, s8⟩ := Row.op hSw; rw [HNB.out] at s2; rw [HNC.out] at s3; go_simp; try with_reducible rfl)
              try simp only [List.getElem_toArray, List.getElem_cons_succ, List.getElem_cons_zero, Act.put, List.setIfInBounds_toArray, List.set_cons_zero, List.set_cons_succ]
              refine wpAnyH_take (i := 1) (oi := _) (v := ?v9m1_2) rfl (by kernel_rfl) (by kernel_rfl) (by kernel_rfl) (fun _ _ _ h => h) (Or.inl ⟨by rfl, ?hy9m1_2⟩) hHeld ?_
              case hy9m1_2 => (intro wS hSw; (try dsimp only at hSw); obtain ⟨s0, s1, s2, s3, s4, s5, s6, s7, s8⟩ := Row.op hSw; rw [HNB.out] at s2; rw [HNC.out] at s3; go_simp; try with_reducible rfl)
              try simp only [List.getElem_toArray, List.getElem_cons_succ, List.getElem_cons_zero, Act.put, List.setIfInBounds_toArray, List.set_cons_zero, List.set_cons_succ]
              refine wpAnyH_take (i := 2) (oi := _) (v := ?v9m1_3) rfl (by kernel_rfl) (by kernel_rfl) (by kernel_rfl) (fun _ _ _ h => h) (Or.inl ⟨by rfl, ?hy9m1_3⟩) hHeld ?_
              case hy9m1_3 => (intro wS hSw; (try dsimp only at hSw); obtain ⟨s0, s1, s2, s3, s4, s5, s6, s7, s8⟩ := Row.op hSw; rw [HNB.out] at s2; rw [HNC.out] at s3; go_simp; try with_reducible rfl)
              try simp only [List.getElem_toArray, List.getElem_cons_succ, List.getElem_cons_zero, Act.put, List.setIfInBounds_toArray, List.set_cons_zero, List.set_cons_succ]
              refine wpAnyH_take (i := 3) (oi := _) (v := ?v9m1_4) rfl (by kernel_rfl) (by kernel_rfl) (by kernel_rfl) (fun _ _ _ h => h) (Or.inl ⟨by rfl, ?hy9m1_4⟩) hHeld ?_
              case hy9m1_4 => (intro wS hSw; (try dsimp only at hSw); obtain ⟨s0, s1, s2, s3, s4, s5, s6, s7, s8⟩ := Row.op hSw; rw [HNB.out] at s2; rw [HNC.out] at s3; go_simp; try with_reducible rfl)
              try simp only [List.getElem_toArray, List.getElem_cons_succ, List.getElem_cons_zero, Act.put, List.setIfInBounds_toArray, List.set_cons_zero, List.set_cons_succ]
              refine wpAnyH_take (i := 4) (oi := _) (v := ?v9m1_5) rfl (by kernel_rfl) (by kernel_rfl) (by kernel_rfl) (fun _ _ _ h => h) (Or.inl ⟨by rfl, ?hy9m1_5⟩) hHeld ?_
              case hy9m1_5 => (intro wS hSw; (try dsimp only at hSw); obtain ⟨s0, s1, s2, s3, s4, s5, s6, s7, s8⟩ := Row.op hSw; rw [HNB.out] at s2; rw [HNC.out] at s3; go_simp; try with_reducible rfl)
              try simp only [List.getElem_toArray, List.getElem_cons_succ, List.getElem_cons_zero, Act.put, List.setIfInBounds_toArray, List.set_cons_zero, List.set_cons_succ]
              refine wpAnyH_take (i := 5) (oi := _) (v := ?v9m1_6) rfl (by kernel_rfl) (by kernel_rfl) (by kernel_rfl) (fun _ _ _ h => h) (Or.inl ⟨by rfl, ?hy9m1_6⟩) hHeld ?_
              case hy9m1_6 => (intro wS hSw; (try dsimp only at hSw); obtain ⟨s0, s1, s2, s3, s4, s5, s6, s7, s8⟩ := Row.op hSw; rw [HNB.out] at s2; rw [HNC.out] at s3; go_simp; try with_reducible rfl)
              try simp only [List.getElem_toArray, List.getElem_cons_succ, List.getElem_cons_zero, Act.put, List.setIfInBounds_toArray, List.set_cons_zero, List.set_cons_succ]
              refine wpAnyH_take (i := 6) (oi := _) (v := ?v9m1_7) rfl (by kernel_rfl) (by kernel_rfl) (by kernel_rfl) (fun _ _ _ h => h) (Or.inl ⟨by rfl, ?hy9m1_7⟩) hHeld ?_
              case hy9m1_7 => (intro wS hSw; (try dsimp only at hSw); obtain ⟨s0, s1, s2, s3, s4, s5, s6, s7, s8⟩ := Row.op hSw; rw [HNB.out] at s2; rw [HNC.out] at s3; go_simp; try with_reducible rfl)
              try simp only [List.getElem_toArray, List.getElem_cons_succ, List.getElem_cons_zero, Act.put, List.setIfInBounds_toArray, List.set_cons_zero, List.set_cons_succ]
              refine wpAnyH_take (i := 7) (oi := _) (v := ?v9m1_8) rfl (by kernel_rfl) (by kernel_rfl) (by kernel_rfl) (fun _ _ _ h => h) (Or.inl ⟨by rfl, ?hy9m1_8⟩) hHeld ?_
              case hy9m1_8 => (intro wS hSw; (try dsimp only at hSw); obtain ⟨s0, s1, s2, s3, s4, s5, s6, s7, s8⟩ := Row.op hSw; rw [HNB.out] at s2; rw [HNC.out] at s3; go_simp; try with_reducible rfl)
              try simp only [List.getElem_toArray, List.getElem_cons_succ, List.getElem_cons_zero, Act.put, List.setIfInBounds_toArray, List.set_cons_zero, List.set_cons_succ]
              refine wpAnyH_take (i := 8) (oi := _) (v := ?v9m1_9) rfl (by kernel_rfl) (by kernel_rfl) (by kernel_rfl) (fun _ _ _ h => h) (Or.inl ⟨by rfl, ?hy9m1_9⟩) hHeld ?_
              case hy9m1_9 => (intro wS hSw; (try dsimp only at hSw); obtain ⟨s0, s1, s2, s3, s4, s5, s6, s7, s8⟩ := Row.op hSw; rw [HNB.out] at s2; rw [HNC.out] at s3; go_simp; try with_reducible rfl)
              try simp only [List.getElem_toArray, List.getElem_cons_succ, List.getElem_cons_zero, Act.put, List.setIfInBounds_toArray, List.set_cons_zero, List.set_cons_succ]
              refine wpAnyH_take (i := 10) (oi := _) (v := ?v9m1_10) rfl (by kernel_rfl) (by kernel_rfl) (by kernel_rfl) (fun _ _ _ h => h) (Or.inl ⟨by rfl, ?hy9m1_10⟩) hHeld ?_
              case hy9m1_10 => (intro wS hSw; (try dsimp only at hSw); obtain ⟨s0, s1, s2, s3, s4, s5, s6, s7, s8⟩ := Row.op hSw; rw [HNB.out] at s2; rw [HNC.out] at s3; go_simp; try with_reducible rfl)
              try simp only [List.getElem_toArray, List.getElem_cons_succ, List.getElem_cons_zero, Act.put, List.setIfInBounds_toArray, List.set_cons_zero, List.set_cons_succ]
              refine wpAnyH_take (i := 11) (oi := _) (v := ?v9m1_11) rfl (by kernel_rfl) (by kernel_rfl) (by kernel_rfl) (fun _ _ _ h => h) (Or.inl ⟨by rfl, ?hy9m1_11⟩) hHeld ?_
              case hy9m1_11 => (intro wS hSw; (try dsimp only at hSw); obtain ⟨s0, s1, s2, s3, s4, s5, s6, s7, s8⟩ := Row.op hSw; rw [HNB.out] at s2; rw [HNC.out] at s3; go_simp; try with_reducible rfl)
              try simp only [List.getElem_toArray, List.getElem_cons_succ, List.getElem_cons_zero, Act.put, List.setIfInBounds_toArray, List.set_cons_zero, List.set_cons_succ]
              refine wpAnyH_take (i := 12) (oi := _) (v := ?v9m1_12) rfl (by kernel_rfl) (by kernel_rfl) (by kernel_rfl) (fun _ _ _ h => h) (Or.inl ⟨by rfl, ?hy9m1_12⟩) hHeld ?_
              case hy9m1_12 => (intro wS hSw; (try dsimp only at hSw); obtain ⟨s0, s1, s2, s3, s4, s5, s6, s7, s8⟩ := Row.op hSw; rw [HNB.out] at s2; rw [HNC.out] at s3; go_simp; try with_reducible rfl)
              try simp only [List.getElem_toArray, List.getElem_cons_succ, List.getElem_cons_zero, Act.put, List.setIfInBounds_toArray, List.set_cons_zero, List.set_cons_succ]
              refine wpAnyH_take (i := 13) (oi := _) (v := ?v9m1_13) rfl (by kernel_rfl) (by kernel_rfl) (by kernel_rfl) (fun _ _ _ h => h) (Or.inl ⟨by rfl, ?hy9m1_13⟩) hHeld ?_
              case hy9m1_13 => (intro wS hSw; (try dsimp only at hSw); obtain ⟨s0, s1, s2, s3, s4, s5, s6, s7, s8⟩ := Row.op hSw; rw [HNB.out] at s2; rw [HNC.out] at s3; go_simp; try with_reducible rfl)
              try simp only [List.getElem_toArray, List.getElem_cons_succ, List.getElem_cons_zero, Act.put, List.setIfInBounds_toArray, List.set_cons_zero, List.set_cons_succ]
              refine wpAnyH_take (i := 14) (oi := _) (v := ?v9m1_14) rfl (by kernel_rfl) (by kernel_rfl) (by kernel_rfl) (fun _ _ _ h => h) (Or.inl ⟨by rfl, ?hy9m1_14⟩) hHeld ?_
              case hy9m1_14 => (intro wS hSw; (try dsimp only at hSw); obtain ⟨s0, s1, s2, s3, s4, s5, s6, s7, s8⟩ := Row.op hSw; rw [HNB.out] at s2; rw [HNC.out] at s3; go_simp; try with_reducible rfl)
              try simp only [List.getElem_toArray, List.getElem_cons_succ, List.getElem_cons_zero, Act.put, List.setIfInBounds_toArray, List.set_cons_zero, List.set_cons_succ]
              refine wpAnyH_take (i := 17) (oi := _) (v := ?v9m1_15) rfl (by kernel_rfl) (by kernel_rfl) (by kernel_rfl) (fun _ _ _ h => h) (Or.inl ⟨by rfl, ?hy9m1_15⟩) hHeld ?_
              case hy9m1_15 => (intro wS hSw; (try dsimp only at hSw); obtain ⟨s0, s1, s2, s3, s4, s5, s6, s7, s8⟩ := Row.op hSw; rw [HNB.out] at s2; rw [HNC.out] at s3; go_simp; try with_reducible rfl)
              try simp only [List.getElem_toArray, List.getElem_cons_succ, List.getElem_cons_zero, Act.put, List.setIfInBounds_toArray, List.set_cons_zero, List.set_cons_succ]
              refine wpAnyH_take (i := 20) (oi := _) (v := ?v9m1_16) rfl (by kernel_rfl) (by kernel_rfl) (by kernel_rfl) (fun _ _ _ h => h) (Or.inl ⟨by rfl, ?hy9m1_16⟩) hHeld ?_
              case hy9m1_16 => (intro wS hSw; (try dsimp only at hSw); obtain ⟨s0, s1, s2, s3, s4, s5, s6, s7, s8⟩ := Row.op hSw; rw [HNB.out] at s2; rw [HNC.out] at s3; go_simp; try with_reducible rfl)
              try simp only [List.getElem_toArray, List.getElem_cons_succ, List.getElem_cons_zero, Act.put, List.setIfInBounds_toArray, List.set_cons_zero, List.set_cons_succ]
              refine wpAnyH_ready (rs := [9, 15]) (by kernel_rfl) (by simp) ?_
              refine (AllReadyH.cons (o := _) rfl (fun K hK => ?_) (AllReadyH.cons (o := _) rfl (fun K hK => ?_) AllReadyH.nil))
              · have c9 := rkd.kw hk hnb
                rw [HXB.out] at c9
                go_simp
                clear c9
                refine hK.out _ _ (hHeld) (fun hHeld17 => ?_)
                clear hK K hHeld
                try simp only [List.getElem_toArray, List.getElem_cons_succ, List.getElem_cons_zero, Act.put, List.setIfInBounds_toArray, List.set_cons_zero, List.set_cons_succ]
                refine wpAnyH_ready (rs := [15]) (by kernel_rfl) (by simp) ?_
                refine (AllReadyH.cons (o := _) rfl (fun K hK => ?_) AllReadyH.nil)
                have c15 := rkd.kw hk hnc
                rw [HXC.out] at c15
                go_simp
                clear c15
                refine hK.out _ _ (hHeld17) (fun hHeld18 => ?_)
                clear hK K hHeld17
                try simp only [List.getElem_toArray, List.getElem_cons_succ, List.getElem_cons_zero, Act.put, List.setIfInBounds_toArray, List.set_cons_zero, List.set_cons_succ]
                refine wpAnyH_take (i := 18) (oi := _) (v := ?v9m1_19) rfl (by kernel_rfl) (by kernel_rfl) (by kernel_rfl) (fun _ _ _ h => h) (Or.inl ⟨by rfl, ?hy9m1_19⟩) hHeld18 ?_
                case hy9m1_19 => (intro wS hSw; (try dsimp only at hSw); obtain ⟨s0, s1, s2, s3, s4, s5, s6, s7, s8⟩ := Row.op hSw; rw [HNB.out] at s2; rw [HNC.out] at s3; go_simp; try with_reducible rfl)
                try simp only [List.getElem_toArray, List.getElem_cons_succ, List.getElem_cons_zero, Act.put, List.setIfInBounds_toArray, List.set_cons_zero, List.set_cons_succ]
                refine wpAnyH_ready (rs := [16]) (by kernel_rfl) (by simp) ?_
                refine (AllReadyH.cons (o := _) rfl (fun K hK => ?_) AllReadyH.nil)
                go_simp
                refine (aluDo_calls _ _ _ _ _ _ _ _ hlb hlc).mono ?_
                rw [HDO.out]
                rintro e w5 ⟨rfl, hb5⟩
                go_wp2_with fail
                refine hK.out _ _ (Row.below hHeld18 hb5) (fun hHeld20 => ?_)
                clear hK K hHeld18
                try simp only [List.getElem_toArray, List.getElem_cons_succ, List.getElem_cons_zero, Act.put, List.setIfInBounds_toArray, List.set_cons_zero, List.set_cons_succ]
                refine wpAnyH_ready (rs := [19]) (by kernel_rfl) (by simp) ?_
                refine (AllReadyH.cons (o := _) rfl (fun K hK => ?_) AllReadyH.nil)
                have rk5 := rkd.below hb5
                have d1 := rk5.kis hk hn15
                have f1 := rk5.frozen (1 + n)
                go_simp
                have rk6 := rk5.set (1 + n) (.bool true)
                rw [knownCells_setIs hk hn15] at rk6
                have g6 := grown_set w5 w.heap.size (1 + n) (.bool true)
                clear d1 f1
                refine hK.out _ _ (Row.grown hHeld20 g6 (fun e => by injection e with e; omega)) (fun hHeld21 => ?_)
                clear hK K hHeld20
                try simp only [List.getElem_toArray, List.getElem_cons_succ, List.getElem_cons_zero, Act.put, List.setIfInBounds_toArray, List.set_cons_zero, List.set_cons_succ]
                refine wpAnyH_take (i := 21) (oi := _) (v := ?v9m1_22) rfl (by kernel_rfl) (by kernel_rfl) (by kernel_rfl) (fun _ _ _ h => h) (Or.inl ⟨by rfl, ?hy9m1_22⟩) hHeld21 ?_
                case hy9m1_22 => (intro wS hSw; (try dsimp only at hSw); obtain ⟨s0, s1, s2, s3, s4, s5, s6, s7, s8⟩ := Row.op hSw; rw [HNB.out] at s2; rw [HNC.out] at s3; go_simp; try with_reducible rfl)
                try simp only [List.getElem_toArray, List.getElem_cons_succ, List.getElem_cons_zero, Act.put, List.setIfInBounds_toArray, List.set_cons_zero, List.set_cons_succ]
                refine wpAnyH_ready (rs := [22]) (by kernel_rfl) (by simp) ?_
                refine (AllReadyH.cons (o := _) rfl (fun K hK => ?_) AllReadyH.nil)
                generalize hX : w5.setCell ⟨w.heap.size, 1 + n, none⟩ (.bool true) = X at *
                clear hX
                have d2 := rk6.kw (Known.wf_setIs hk n true) hn15
                have f2 := rk6.frozen (17 + n)
                go_simp
                have rk7 := rk6.set (17 + n) (.int .u32 (x : Int))
                rw [knownCells_setW (Known.wf_setIs hk n true)] at rk7
                have g7 := grown_set X w.heap.size (17 + n) (.int .u32 (x : Int))
                clear d2 f2
                refine hK.out _ _ (Row.grown hHeld21 g7 (fun e => by injection e with e; omega)) (fun hHeld23 => ?_)
                clear hK K hHeld21
                try simp only [List.getElem_toArray, List.getElem_cons_succ, List.getElem_cons_zero, Act.put, List.setIfInBounds_toArray, List.set_cons_zero, List.set_cons_succ]
                refine wpAnyH_done (by kernel_rfl) ?_ _
                have t5 : Below w.heap.size w w5 := t4.trans ((bd.trans hb5).mono t4.size)
                have t6 := t5.grown g6 t5.size (fun j hj => by injection hj with hj; subst hj; exact Nat.le_refl _)
                have t7 := t6.grown g7 t6.size (fun j hj => by injection hj with hj; subst hj; exact Nat.le_refl _)
                have r2b := ((q2d.below hb5).grown g6 (fun e => by injection e with e; omega)).grown g7 (fun e => by injection e with e; omega)
                clear rkd q2d hb5 g6 g7 rk5 rk6
                generalize X.setCell ⟨w.heap.size, 17 + n, none⟩ (.int .u32 (x : Int)) = Y at *
                have hwp := Known.put_wf hk n true (x := x) hxl
                replace rk7 : Row Y w.heap.size 77 (knownCells (k.put n true x)) := rk7
                go_wp2_with (first | (refine wpList_load_known _ _ _ hwp rk7 rfl rfl rfl ?_) | (refine wpList_put_known _ _ (k.put n true x) _ hwp Known.zero_wf r2b rfl rfl rfl rfl ?_; intro w8 r8 g8 s8))
                have t8 := t7.grown g8 t7.size (fun j hj => by injection hj with hj; subst hj; omega)
                rw [← HE.out] at r8
                exact bodyPost_ret (results_known rfl _ _ _ _ rfl hwf r8) rfl ⟨rfl, t8⟩
              · have c15 := rkd.kw hk hnc
                rw [HXC.out] at c15
                go_simp
                clear c15
                refine hK.out _ _ (hHeld) (fun hHeld24 => ?_)
                clear hK K hHeld
                try simp only [List.getElem_toArray, List.getElem_cons_succ, List.getElem_cons_zero, Act.put, List.setIfInBounds_toArray, List.set_cons_zero, List.set_cons_succ]
                refine wpAnyH_ready (rs := [9]) (by kernel_rfl) (by simp) ?_
                refine (AllReadyH.cons (o := _) rfl (fun K hK => ?_) AllReadyH.nil)
                have c9 := rkd.kw hk hnb
                rw [HXB.out] at c9
                go_simp
                clear c9
                refine hK.out _ _ (hHeld24) (fun hHeld25 => ?_)
                clear hK K hHeld24
                try simp only [List.getElem_toArray, List.getElem_cons_succ, List.getElem_cons_zero, Act.put, List.setIfInBounds_toArray, List.set_cons_zero, List.set_cons_succ]
                refine wpAnyH_take (i := 18) (oi := _) (v := ?v9m1_26) rfl (by kernel_rfl) (by kernel_rfl) (by kernel_rfl) (fun _ _ _ h => h) (Or.inl ⟨by rfl, ?hy9m1_26⟩) hHeld25 ?_
                case hy9m1_26 => (intro wS hSw; (try dsimp only at hSw); obtain ⟨s0, s1, s2, s3, s4, s5, s6, s7, s8⟩ := Row.op hSw; rw [HNB.out] at s2; rw [HNC.out] at s3; go_simp; try with_reducible rfl)
                try simp only [List.getElem_toArray, List.getElem_cons_succ, List.getElem_cons_zero, Act.put, List.setIfInBounds_toArray, List.set_cons_zero, List.set_cons_succ]
                refine wpAnyH_ready (rs := [16]) (by kernel_rfl) (by simp) ?_
                refine (AllReadyH.cons (o := _) rfl (fun K hK => ?_) AllReadyH.nil)
                go_simp
                refine (aluDo_calls _ _ _ _ _ _ _ _ hlb hlc).mono ?_
                rw [HDO.out]
                rintro e w5 ⟨rfl, hb5⟩
                go_wp2_with fail
                refine hK.out _ _ (Row.below hHeld25 hb5) (fun hHeld27 => ?_)
                clear hK K hHeld25
                try simp only [List.getElem_toArray, List.getElem_cons_succ, List.getElem_cons_zero, Act.put, List.setIfInBounds_toArray, List.set_cons_zero, List.set_cons_succ]
                refine wpAnyH_ready (rs := [19]) (by kernel_rfl) (by simp) ?_
                refine (AllReadyH.cons (o := _) rfl (fun K hK => ?_) AllReadyH.nil)
                have rk5 := rkd.below hb5
                have d1 := rk5.kis hk hn15
                have f1 := rk5.frozen (1 + n)
                go_simp
                have rk6 := rk5.set (1 + n) (.bool true)
                rw [knownCells_setIs hk hn15] at rk6
                have g6 := grown_set w5 w.heap.size (1 + n) (.bool true)
                clear d1 f1
                refine hK.out _ _ (Row.grown hHeld27 g6 (fun e => by injection e with e; omega)) (fun hHeld28 => ?_)
                clear hK K hHeld27
                try simp only [List.getElem_toArray, List.getElem_cons_succ, List.getElem_cons_zero, Act.put, List.setIfInBounds_toArray, List.set_cons_zero, List.set_cons_succ]
                refine wpAnyH_take (i := 21) (oi := _) (v := ?v9m1_29) rfl (by kernel_rfl) (by kernel_rfl) (by kernel_rfl) (fun _ _ _ h => h) (Or.inl ⟨by rfl, ?hy9m1_29⟩) hHeld28 ?_
                case hy9m1_29 => (intro wS hSw; (try dsimp only at hSw); obtain ⟨s0, s1, s2, s3, s4, s5, s6, s7, s8⟩ := Row.op hSw; rw [HNB.out] at s2; rw [HNC.out] at s3; go_simp; try with_reducible rfl)
                try simp only [List.getElem_toArray, List.getElem_cons_succ, List.getElem_cons_zero, Act.put, List.setIfInBounds_toArray, List.set_cons_zero, List.set_cons_succ]
                refine wpAnyH_ready (rs := [22]) (by kernel_rfl) (by simp) ?_
                refine (AllReadyH.cons (o := _) rfl (fun K hK => ?_) AllReadyH.nil)
                generalize hX : w5.setCell ⟨w.heap.size, 1 + n, none⟩ (.bool true) = X at *
                clear hX
                have d2 := rk6.kw (Known.wf_setIs hk n true) hn15
                have f2 := rk6.frozen (17 + n)
                go_simp
                have rk7 := rk6.set (17 + n) (.int .u32 (x : Int))
                rw [knownCells_setW (Known.wf_setIs hk n true)] at rk7
                have g7 := grown_set X w.heap.size (17 + n) (.int .u32 (x : Int))
                clear d2 f2
                refine hK.out _ _ (Row.grown hHeld28 g7 (fun e => by injection e with e; omega)) (fun hHeld30 => ?_)
                clear hK K hHeld28
                try simp only [List.getElem_toArray, List.getElem_cons_succ, List.getElem_cons_zero, Act.put, List.setIfInBounds_toArray, List.set_cons_zero, List.set_cons_succ]
                refine wpAnyH_done (by kernel_rfl) ?_ _
                have t5 : Below w.heap.size w w5 := t4.trans ((bd.trans hb5).mono t4.size)
                have t6 := t5.grown g6 t5.size (fun j hj => by injection hj with hj; subst hj; exact Nat.le_refl _)
                have t7 := t6.grown g7 t6.size (fun j hj => by injection hj with hj; subst hj; exact Nat.le_refl _)
                have r2b := ((q2d.below hb5).grown g6 (fun e => by injection e with e; omega)).grown g7 (fun e => by injection e with e; omega)
                clear rkd q2d hb5 g6 g7 rk5 rk6
                generalize X.setCell ⟨w.heap.size, 17 + n, none⟩ (.int .u32 (x : Int)) = Y at *
                have hwp := Known.put_wf hk n true (x := x) hxl
                replace rk7 : Row Y w.heap.size 77 (knownCells (k.put n true x)) := rk7
                go_wp2_with (first | (refine wpList_load_known _ _ _ hwp rk7 rfl rfl rfl ?_) | (refine wpList_put_known _ _ (k.put n true x) _ hwp Known.zero_wf r2b rfl rfl rfl rfl ?_; intro w8 r8 g8 s8))
                have t8 := t7.grown g8 t7.size (fun j hj => by injection hj with hj; subst hj; omega)
                rw [← HE.out] at r8
                exact bodyPost_ret (results_known rfl _ _ _ _ rfl hwf r8) rfl ⟨rfl, t8⟩
end Go.Proofs.Ytokkngfgppikkab
