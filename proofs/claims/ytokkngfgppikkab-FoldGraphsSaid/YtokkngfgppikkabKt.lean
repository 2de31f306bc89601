/- The document's Behind, of layer 20: the program's. Printed by genKt.py of this repository. -/
import Derived.Test.YtokkngfgppikkabKs
import Derived.Test.YtokkngfgppikkabKi
namespace Go.Proofs.Ytokkngfgppikkab
set_option linter.unusedVariables false
set_option linter.unusedSimpArgs false
open Go.RowKit

def upK (k : Known) (o : Op) (n : Nat) : Bool := (List.range n).all fun s => s == 0 || (!refReads o.ins.op o.ins.a o.ins.b o.ins.c (s : Int) || k.isAt s)
theorem upK_one (k : Known) (o : Op) : upK k o 1 = true := rfl
theorem upK_succ (k : Known) (o : Op) {n : Nat} (h : 1 ≤ n) : upK k o (n + 1) = (upK k o n && (!refReads o.ins.op o.ins.a o.ins.b o.ins.c (n : Int) || k.isAt n)) := by
  unfold upK
  rw [List.range_succ, List.all_append]
  have : (n == 0) = false := by simp; omega
  simp [this]
theorem upK_skip {k : Known} {o : Op} {n : Nat} (h : 1 ≤ n) (hr : refReads o.ins.op o.ins.a o.ins.b o.ins.c (n : Int) = false) : upK k o (n + 1) = upK k o n := by rw [upK_succ k o h, hr]; simp
theorem upK_have {k : Known} {o : Op} {n : Nat} (h : 1 ≤ n) (hi : k.isAt n = true) : upK k o (n + 1) = upK k o n := by rw [upK_succ k o h, hi]; simp
theorem upK_lack {k : Known} {o : Op} {n : Nat} (h : 1 ≤ n) (hr : refReads o.ins.op o.ins.a o.ins.b o.ins.c (n : Int) = true) (hi : k.isAt n = false) : upK k o (n + 1) = false := by rw [upK_succ k o h, hr, hi]; simp
theorem upK_all {k : Known} {o : Op} (h : o.ins.right = true) : upK k o 16 = allK k (readsList o.ins.op o.ins.a o.ins.b o.ins.c) := by
  unfold upK allK
  rw [Bool.eq_iff_iff, List.all_eq_true, List.all_eq_true]
  refine ⟨fun H x hx => ?_, fun H s hs => ?_⟩
  · obtain ⟨x1, x15⟩ := reads_mem h x hx
    obtain ⟨m, rfl⟩ := Int.eq_ofNat_of_zero_le (show 0 ≤ x by omega)
    have hr := reads_iff h (r := m) (by omega) (by omega)
    rw [decide_eq_true hx] at hr
    have := H m (List.mem_range.2 (by omega))
    rw [← hr] at this
    have z : (m == 0) = false := by simp; omega
    rw [z] at this
    simpa using this
  · have hs := List.mem_range.1 hs
    by_cases z : s = 0
    · subst z; rfl
    · have hr := reads_iff h (r := s) (by omega) (by omega)
      rw [← hr]
      by_cases hm : (s : Int) ∈ readsList o.ins.op o.ins.a o.ins.b o.ins.c
      · have := H _ hm
        rw [Int.toNat_natCast] at this
        rw [this]; simp
      · rw [decide_eq_false hm]; simp
theorem canK_up {k : Known} {o : Op} {c : Bool} (h : o.ins.right = true) (hc : (fkind o.ins.op == 0 && !o.rel) = c) : canK k o = (c && upK k o 16) := by
  unfold canK
  rw [upK_all h, ← hc, Bool.and_assoc]
set_option maxHeartbeats 3000000 in
set_option maxRecDepth 100000 in
theorem refBehind_calls (k : Known) (o : Op) (w : World) (hk : k.wf) (hr : o.ins.right = true) : Calls Try.prog 40 #[.agg (knownCells k).toArray, .agg #[.int .i64 o.ins.op, .int .i64 o.ins.a, .int .i64 o.ins.b, .int .i64 o.ins.c, .int .i64 o.ins.imm, .bool o.rel, .int .i64 o.kind, .int .i64 o.to, .int .i64 o.add]] w fun e w' => e = .returned (.agg (knownCells (behindK k o)).toArray) ∧ Below w.heap.size w w' := by
  obtain ⟨W, hW, bW, zW, r0, r1, r2⟩ := three_rows w (knownCells k).toArray #[.int .i64 o.ins.op, .int .i64 o.ins.a, .int .i64 o.ins.b, .int .i64 o.ins.c, .int .i64 o.ins.imm, .bool o.rel, .int .i64 o.kind, .int .i64 o.to, .int .i64 o.add] #[.bool false, .bool false, .bool false, .bool false, .bool false, .bool false, .bool false, .bool false, .bool false, .bool false, .bool false, .bool false, .bool false, .bool false, .bool false, .bool false, .bool false, .int .u32 0, .int .u32 0, .int .u32 0, .int .u32 0, .int .u32 0, .int .u32 0, .int .u32 0, .int .u32 0, .int .u32 0, .int .u32 0, .int .u32 0, .int .u32 0, .int .u32 0, .int .u32 0, .int .u32 0, .int .u32 0] 77 56 77
  replace r2 : Row W (w.heap.size + 1 + 1) 77 (knownCells Known.zero) := r2
  replace r1 : Row W (w.heap.size + 1) 56 (opCells o) := r1
  have HW := Lib.hid hW
  have ZW := Lib.hid zW
  have HRI := Lib.hid hr
  have hwf := behindK_wf hk o
  have H8 := Lib.hid (And.intro (fun h => right8 hr h) (And.intro (fun h => right9 hr h) (fun h => right10 hr h)))
  have hw2 := writes_eq (Ins.right_eta hr)
  have HW2 := Lib.hid hw2
  have hk2 := fkind_kindOf (Ins.right_op hr).1 (Ins.right_op hr).2
  have HK2 := Lib.hid hk2
  have h20 := fkind_four hr
  clear hW zW hr hw2 hk2
  go_enter Try.func40, Try.ntmps40
  go_upto_region 1 with fail
  rw [← HW.out]
  clear HW
  have t2 := bW
  have q0 := r0
  have q1 := r1
  have q2 := r2
  generalize hWW : W = w2 at *
  clear hWW
  have hlt2 : w.heap.size + 1 + 1 < w2.heap.size := q2.lt
  clear r0 r1 r2 bW ZW
  have x0 := q0.cell (knownCells_re k)
  cases hre : k.reached with
  | false =>
    rw [hre] at x0
    have he : behindK k o = k := by unfold behindK; rw [if_pos hre]
    have HE := Lib.hid he
    clear he hre
    go_wp2_with (first | (refine wpList_load_known _ k _ hk q0 rfl rfl rfl ?_) | (refine wpList_put_known _ _ k _ hk Known.zero_wf q2 rfl rfl rfl rfl ?_; intro w4 r4 g4 s4))
    have t4 := t2.grown g4 t2.size (fun j hj => by injection hj with hj; subst hj; omega)
    rw [← HE.out] at r4
    exact bodyPost_ret (results_known rfl _ _ _ _ rfl hwf r4) rfl ⟨rfl, t4⟩
  | true =>
    rw [hre] at x0
    have HRE := Lib.hid hre
    by_cases h4 : fkind o.ins.op = 4
    · have he : behindK k o = Known.none := by unfold behindK; rw [if_neg (by rw [hre]; decide), if_pos h4]
      have HE := Lib.hid he
      have z4 : (o.ins.op == 20) = true := by simp [h20.1 h4]
      have y0 := q1.cell (j := 0) rfl
      clear he hre h4 h20
      go_wp2_with fail
      refine (zero_calls _).mono ?_
      rintro e w3 ⟨rfl, hb3⟩
      have q2' := q2.below hb3
      have t3 := t2.trans (hb3.mono t2.size)
      go_wp2_with (refine wpList_put_known _ _ Known.none _ Known.none_wf Known.zero_wf q2' rfl rfl rfl rfl ?_; intro w4 r4 g4 s4)
      have t4 := t3.grown g4 t3.size (fun j hj => by injection hj with hj; subst hj; omega)
      rw [← HE.out] at r4
      exact bodyPost_ret (results_known rfl _ _ _ _ rfl hwf r4) rfl ⟨rfl, t4⟩
    · have z4 : (o.ins.op == 20) = false := by
        have : ¬ o.ins.op = 20 := fun e => h4 (h20.2 e)
        simp [this]
      obtain ⟨y0, y1, y2, y3, y4, y5, y6, y7, y8⟩ := q1.op
      clear h20
      go_upto_region 5 with fail
      go_wp2_with fail
      refine (refWrites_calls _ _ _ _ _ _).mono ?_
      rw [← HW2.out]
      rintro e w3 ⟨rfl, hb3⟩
      go_upto_region 6 with fail
      have t3 := t2.trans (hb3.mono t2.size)
      replace q0 := q0.below hb3
      replace q1 := q1.below hb3
      replace q2 := q2.below hb3
      replace hlt2 : w.heap.size + 1 + 1 < w3.heap.size := q2.lt
      replace t2 := t3
      clear t3 hb3 y0 y1 y2 y3 y4 y5 y6 y7 y8 x0
      by_cases hn : writes o.ins.op o.ins.a < 0
      · have he : behindK k o = k := by unfold behindK; rw [if_neg (by rw [hre]; decide), if_neg h4, if_pos hn]
        have HE := Lib.hid he
        have zn : decide (writes o.ins.op o.ins.a < 0) = true := by simp [hn]
        clear he hre h4
        go_wp2_with (first | (refine wpList_load_known _ k _ hk q0 rfl rfl rfl ?_) | (refine wpList_put_known _ _ k _ hk Known.zero_wf q2 rfl rfl rfl rfl ?_; intro w4 r4 g4 s4))
        have t4 := t2.grown g4 t2.size (fun j hj => by injection hj with hj; subst hj; omega)
        rw [← HE.out] at r4
        exact bodyPost_ret (results_known rfl _ _ _ _ rfl hwf r4) rfl ⟨rfl, t4⟩
      · have zn : decide (writes o.ins.op o.ins.a < 0) = false := by simp; omega
        have hw15 := writes_le HRI.out
        obtain ⟨n, hnn⟩ := Int.eq_ofNat_of_zero_le (show 0 ≤ writes o.ins.op o.ins.a by omega)
        have hn15 : n < 16 := by omega
        have hnI : (n : Int) < 16 := by omega
        have HN := Lib.hid hnn
        have HNN := Lib.hid hn
        have H4 := Lib.hid h4
        clear hre h4 hn hw15
        rw [hnn] at zn ⊢
        clear hnn
        obtain ⟨y0, y1, y2, y3, y4, y5, y6, y7, y8⟩ := q1.op
        have hop := Ins.right_op HRI.out
        go_upto_region 8 with fail
        cases hz0 : (fkind o.ins.op == 0) with
        | false =>
          have HZ0 := Lib.hid hz0
          have z0 := hz0
          clear hz0
          go_wp2_with fail
          refine (kind_calls _ _ _ _ _ _ hop.1 hop.2).mono ?_
          rw [← HK2.out]
          rintro e w4 ⟨rfl, hb4⟩
          have y5b := (hb4.cell (World.lt_of_cell y5)).trans y5
          go_upto_region 9 with fail
          have t3 := t2.trans (hb4.mono t2.size)
          replace q0 := q0.below hb4
          replace q1 := q1.below hb4
          replace q2 := q2.below hb4
          replace hlt2 : w.heap.size + 1 + 1 < w4.heap.size := q2.lt
          replace t2 := t3
          clear t3 hb4 y5b
          generalize w4 = w3 at *
          clear z0 y0 y1 y2 y3 y4 y5 y6 y7 y8
          have hc0 : (fkind o.ins.op == 0 && !o.rel) = false := by rw [HZ0.out]; try rfl
          have HC0 := Lib.hid hc0
          clear hc0
          go_wp2_with fail
          go_loopw [6, 7] (fun v i wr => ∃ r : Nat, 1 ≤ r ∧ r ≤ 16 ∧ i = .int .i64 (r : Int) ∧ v = .bool (false && upK k o r) ∧ Below w3.heap.size w3 wr) (fun _ i _ => (16 - intOf i).toNat)
          case atStart => exact ⟨1, Nat.le_refl _, by decide, rfl, by rw [upK_one]; rfl, Below.refl _ _⟩
          case round =>
            obtain ⟨r, hr1, hr16, rfl, rfl, hbw⟩ := hrel
            have q0' := q0.below hbw
            have q1' := q1.below hbw
            by_cases hlt : r < 16
            · have hd := q0'.kis hk hlt
              have hsz := hbw.size
              obtain ⟨x0, x1, x2, x3, x4, x5, x6, x7, x8⟩ := q1'.op
              have hltI : (r : Int) < 16 := by omega
              cases hre : refReads o.ins.op o.ins.a o.ins.b o.ins.c (r : Int) with
              | false =>
                have hup : upK k o (r + 1) = upK k o r := upK_skip hr1 hre
                have HUP := Lib.hid hup
                have HR := Lib.hid hre
                clear hre hup
                generalize upK k o r = u at *
                go_wp2_with fail
                refine (refReads_calls _ _ _ _ _ _ _).mono ?_
                rw [HR.out]
                rintro e w4 ⟨rfl, hb4⟩
                go_wp2_with fail
                exact ⟨⟨r + 1, by omega, by omega, by go_num, by rw [HUP.out]; first | done | rfl | simp, hbw.trans (hb4.mono hsz)⟩, by simp [intOf]; omega⟩
              | true =>
                have HR := Lib.hid hre
                cases hik : k.isAt r with
                | true =>
                  have hup : upK k o (r + 1) = upK k o r := upK_have hr1 hik
                  have HUP := Lib.hid hup
                  rw [hik] at hd
                  clear hre hup hik
                  generalize upK k o r = u at *
                  go_wp2_with fail
                  refine (refReads_calls _ _ _ _ _ _ _).mono ?_
                  rw [HR.out]
                  rintro e w4 ⟨rfl, hb4⟩
                  have hd4 := (hb4.cell (World.lt_of_cell hd)).trans hd
                  clear hd
                  go_wp2_with fail
                  exact ⟨⟨r + 1, by omega, by omega, by go_num, by rw [HUP.out]; first | done | rfl | simp, hbw.trans (hb4.mono hsz)⟩, by simp [intOf]; omega⟩
                | false =>
                  have hup : upK k o (r + 1) = false := upK_lack hr1 hre hik
                  have HUP := Lib.hid hup
                  rw [hik] at hd
                  clear hre hup hik
                  generalize upK k o r = u at *
                  go_wp2_with fail
                  refine (refReads_calls _ _ _ _ _ _ _).mono ?_
                  rw [HR.out]
                  rintro e w4 ⟨rfl, hb4⟩
                  have hd4 := (hb4.cell (World.lt_of_cell hd)).trans hd
                  clear hd
                  go_wp2_with fail
                  exact ⟨⟨r + 1, by omega, by omega, by go_num, by rw [HUP.out]; first | rfl | simp, hbw.trans (hb4.mono hsz)⟩, by simp [intOf]; omega⟩
            · obtain rfl : r = 16 := by omega
              have hcan : canK k o = (false && upK k o 16) := canK_up HRI.out HC0.out
              replace q2 := q2.below hbw
              have t3 := t2.trans (hbw.mono t2.size)
              replace q0 := q0'
              replace q1 := q1'
              clear q0' q1' t2 hbw
              rw [← hcan]
              clear hlt hr1 hr16
              generalize wr = w8 at *
              cases hc : canK k o with
              | false =>
                rw [hc] at hcan
                have he : behindK k o = k.put n false 0 := by
                  unfold behindK
                  rw [if_neg (by rw [HRE.out]; decide), if_neg H4.out, if_neg (Int.not_lt.2 HNN.out), if_neg (by rw [hc]; decide), HN.out]
                  rfl
                clear hc hcan
                have p0 := q0
                have p2 := q2
                clear q0 q1 q2
                rw [show ((16 : Nat) : Int) = 16 from rfl]
                go_upto_region 17 with fail
                have HE := Lib.hid he
                clear he
                have d1 := p0.kis hk hn15
                have d2 := p0.kw hk hn15
                have f1 := p0.frozen (1 + n)
                have f2 := p0.frozen (17 + n)
                obtain ⟨k1, k2⟩ := p0.kput hk hn15 false 0
                have K1 := Lib.hid k1
                have p2b := p2.grown k2 (fun e => by injection e with e; omega)
                have t5 := t3.grown k2 t3.size (fun j hj => by injection hj with hj; subst hj; exact Nat.le_refl _)
                clear k1 k2
                go_upto_region 19 with fail
                clear d1 d2 f1 f2
                have k1 := K1.out
                generalize (w8.setCell ⟨w.heap.size, 1 + n, none⟩ (.bool false)).setCell ⟨w.heap.size, 17 + n, none⟩ (.int .u32 ((0 : Nat) : Int)) = Y at *
                have hwp := Known.put_wf hk n false (x := 0) (by decide)
                clear K1
                go_wp2_with (first | (refine wpList_load_known _ _ _ hwp k1 rfl rfl rfl ?_) | (refine wpList_put_known _ _ (k.put n false 0) _ hwp Known.zero_wf p2b rfl rfl rfl rfl ?_; intro w9 r9 g9 s9))
                have t9 := t5.grown g9 t5.size (fun j hj => by injection hj with hj; subst hj; omega)
                rw [← HE.out] at r9
                exact bodyPost_ret (results_known rfl _ _ _ _ rfl hwf r9) rfl ⟨rfl, t9⟩
              | true =>
                rw [hc] at hcan
                exact absurd hcan (by simp)
        | true =>
          have HZ0 := Lib.hid hz0
          have z0 := hz0
          clear hz0
          cases hrl : o.rel with
          | true =>
            have HRL := Lib.hid hrl
            rw [hrl] at y5
            clear hrl
            go_wp2_with fail
            refine (kind_calls _ _ _ _ _ _ hop.1 hop.2).mono ?_
            rw [← HK2.out]
            rintro e w4 ⟨rfl, hb4⟩
            have y5b := (hb4.cell (World.lt_of_cell y5)).trans y5
            go_upto_region 9 with fail
            have t3 := t2.trans (hb4.mono t2.size)
            replace q0 := q0.below hb4
            replace q1 := q1.below hb4
            replace q2 := q2.below hb4
            replace hlt2 : w.heap.size + 1 + 1 < w4.heap.size := q2.lt
            replace t2 := t3
            clear t3 hb4 y5b
            generalize w4 = w3 at *
            clear z0 y0 y1 y2 y3 y4 y5 y6 y7 y8
            have hc0 : (fkind o.ins.op == 0 && !o.rel) = false := by rw [HRL.out, Bool.not_true, Bool.and_false]; try rfl
            have HC0 := Lib.hid hc0
            clear hc0
            go_wp2_with fail
            go_loopw [6, 7] (fun v i wr => ∃ r : Nat, 1 ≤ r ∧ r ≤ 16 ∧ i = .int .i64 (r : Int) ∧ v = .bool (false && upK k o r) ∧ Below w3.heap.size w3 wr) (fun _ i _ => (16 - intOf i).toNat)
            case atStart => exact ⟨1, Nat.le_refl _, by decide, rfl, by rw [upK_one]; rfl, Below.refl _ _⟩
            case round =>
              obtain ⟨r, hr1, hr16, rfl, rfl, hbw⟩ := hrel
              have q0' := q0.below hbw
              have q1' := q1.below hbw
              by_cases hlt : r < 16
              · have hd := q0'.kis hk hlt
                have hsz := hbw.size
                obtain ⟨x0, x1, x2, x3, x4, x5, x6, x7, x8⟩ := q1'.op
                have hltI : (r : Int) < 16 := by omega
                cases hre : refReads o.ins.op o.ins.a o.ins.b o.ins.c (r : Int) with
                | false =>
                  have hup : upK k o (r + 1) = upK k o r := upK_skip hr1 hre
                  have HUP := Lib.hid hup
                  have HR := Lib.hid hre
                  clear hre hup
                  generalize upK k o r = u at *
                  go_wp2_with fail
                  refine (refReads_calls _ _ _ _ _ _ _).mono ?_
                  rw [HR.out]
                  rintro e w4 ⟨rfl, hb4⟩
                  go_wp2_with fail
                  exact ⟨⟨r + 1, by omega, by omega, by go_num, by rw [HUP.out]; first | done | rfl | simp, hbw.trans (hb4.mono hsz)⟩, by simp [intOf]; omega⟩
                | true =>
                  have HR := Lib.hid hre
                  cases hik : k.isAt r with
                  | true =>
                    have hup : upK k o (r + 1) = upK k o r := upK_have hr1 hik
                    have HUP := Lib.hid hup
                    rw [hik] at hd
                    clear hre hup hik
                    generalize upK k o r = u at *
                    go_wp2_with fail
                    refine (refReads_calls _ _ _ _ _ _ _).mono ?_
                    rw [HR.out]
                    rintro e w4 ⟨rfl, hb4⟩
                    have hd4 := (hb4.cell (World.lt_of_cell hd)).trans hd
                    clear hd
                    go_wp2_with fail
                    exact ⟨⟨r + 1, by omega, by omega, by go_num, by rw [HUP.out]; first | done | rfl | simp, hbw.trans (hb4.mono hsz)⟩, by simp [intOf]; omega⟩
                  | false =>
                    have hup : upK k o (r + 1) = false := upK_lack hr1 hre hik
                    have HUP := Lib.hid hup
                    rw [hik] at hd
                    clear hre hup hik
                    generalize upK k o r = u at *
                    go_wp2_with fail
                    refine (refReads_calls _ _ _ _ _ _ _).mono ?_
                    rw [HR.out]
                    rintro e w4 ⟨rfl, hb4⟩
                    have hd4 := (hb4.cell (World.lt_of_cell hd)).trans hd
                    clear hd
                    go_wp2_with fail
                    exact ⟨⟨r + 1, by omega, by omega, by go_num, by rw [HUP.out]; first | rfl | simp, hbw.trans (hb4.mono hsz)⟩, by simp [intOf]; omega⟩
              · obtain rfl : r = 16 := by omega
                have hcan : canK k o = (false && upK k o 16) := canK_up HRI.out HC0.out
                replace q2 := q2.below hbw
                have t3 := t2.trans (hbw.mono t2.size)
                replace q0 := q0'
                replace q1 := q1'
                clear q0' q1' t2 hbw
                rw [← hcan]
                clear hlt hr1 hr16
                generalize wr = w8 at *
                cases hc : canK k o with
                | false =>
                  rw [hc] at hcan
                  have he : behindK k o = k.put n false 0 := by
                    unfold behindK
                    rw [if_neg (by rw [HRE.out]; decide), if_neg H4.out, if_neg (Int.not_lt.2 HNN.out), if_neg (by rw [hc]; decide), HN.out]
                    rfl
                  clear hc hcan
                  have p0 := q0
                  have p2 := q2
                  clear q0 q1 q2
                  rw [show ((16 : Nat) : Int) = 16 from rfl]
                  go_upto_region 17 with fail
                  have HE := Lib.hid he
                  clear he
                  have d1 := p0.kis hk hn15
                  have d2 := p0.kw hk hn15
                  have f1 := p0.frozen (1 + n)
                  have f2 := p0.frozen (17 + n)
                  obtain ⟨k1, k2⟩ := p0.kput hk hn15 false 0
                  have K1 := Lib.hid k1
                  have p2b := p2.grown k2 (fun e => by injection e with e; omega)
                  have t5 := t3.grown k2 t3.size (fun j hj => by injection hj with hj; subst hj; exact Nat.le_refl _)
                  clear k1 k2
                  go_upto_region 19 with fail
                  clear d1 d2 f1 f2
                  have k1 := K1.out
                  generalize (w8.setCell ⟨w.heap.size, 1 + n, none⟩ (.bool false)).setCell ⟨w.heap.size, 17 + n, none⟩ (.int .u32 ((0 : Nat) : Int)) = Y at *
                  have hwp := Known.put_wf hk n false (x := 0) (by decide)
                  clear K1
                  go_wp2_with (first | (refine wpList_load_known _ _ _ hwp k1 rfl rfl rfl ?_) | (refine wpList_put_known _ _ (k.put n false 0) _ hwp Known.zero_wf p2b rfl rfl rfl rfl ?_; intro w9 r9 g9 s9))
                  have t9 := t5.grown g9 t5.size (fun j hj => by injection hj with hj; subst hj; omega)
                  rw [← HE.out] at r9
                  exact bodyPost_ret (results_known rfl _ _ _ _ rfl hwf r9) rfl ⟨rfl, t9⟩
                | true =>
                  rw [hc] at hcan
                  exact absurd hcan (by simp)
          | false =>
            have HRL := Lib.hid hrl
            rw [hrl] at y5
            clear hrl
            go_wp2_with fail
            refine (kind_calls _ _ _ _ _ _ hop.1 hop.2).mono ?_
            rw [← HK2.out]
            rintro e w4 ⟨rfl, hb4⟩
            have y5b := (hb4.cell (World.lt_of_cell y5)).trans y5
            go_upto_region 9 with fail
            have t3 := t2.trans (hb4.mono t2.size)
            replace q0 := q0.below hb4
            replace q1 := q1.below hb4
            replace q2 := q2.below hb4
            replace hlt2 : w.heap.size + 1 + 1 < w4.heap.size := q2.lt
            replace t2 := t3
            clear t3 hb4 y5b
            generalize w4 = w3 at *
            clear z0 y0 y1 y2 y3 y4 y5 y6 y7 y8
            have hc0 : (fkind o.ins.op == 0 && !o.rel) = true := by rw [HZ0.out, HRL.out]; try rfl
            have HC0 := Lib.hid hc0
            clear hc0
            go_wp2_with fail
            go_loopw [6, 7] (fun v i wr => ∃ r : Nat, 1 ≤ r ∧ r ≤ 16 ∧ i = .int .i64 (r : Int) ∧ v = .bool (true && upK k o r) ∧ Below w3.heap.size w3 wr) (fun _ i _ => (16 - intOf i).toNat)
            case atStart => exact ⟨1, Nat.le_refl _, by decide, rfl, by rw [upK_one]; rfl, Below.refl _ _⟩
            case round =>
              obtain ⟨r, hr1, hr16, rfl, rfl, hbw⟩ := hrel
              have q0' := q0.below hbw
              have q1' := q1.below hbw
              by_cases hlt : r < 16
              · have hd := q0'.kis hk hlt
                have hsz := hbw.size
                obtain ⟨x0, x1, x2, x3, x4, x5, x6, x7, x8⟩ := q1'.op
                have hltI : (r : Int) < 16 := by omega
                cases hre : refReads o.ins.op o.ins.a o.ins.b o.ins.c (r : Int) with
                | false =>
                  have hup : upK k o (r + 1) = upK k o r := upK_skip hr1 hre
                  have HUP := Lib.hid hup
                  have HR := Lib.hid hre
                  clear hre hup
                  generalize upK k o r = u at *
                  go_wp2_with fail
                  refine (refReads_calls _ _ _ _ _ _ _).mono ?_
                  rw [HR.out]
                  rintro e w4 ⟨rfl, hb4⟩
                  go_wp2_with fail
                  exact ⟨⟨r + 1, by omega, by omega, by go_num, by rw [HUP.out]; first | done | rfl | simp, hbw.trans (hb4.mono hsz)⟩, by simp [intOf]; omega⟩
                | true =>
                  have HR := Lib.hid hre
                  cases hik : k.isAt r with
                  | true =>
                    have hup : upK k o (r + 1) = upK k o r := upK_have hr1 hik
                    have HUP := Lib.hid hup
                    rw [hik] at hd
                    clear hre hup hik
                    generalize upK k o r = u at *
                    go_wp2_with fail
                    refine (refReads_calls _ _ _ _ _ _ _).mono ?_
                    rw [HR.out]
                    rintro e w4 ⟨rfl, hb4⟩
                    have hd4 := (hb4.cell (World.lt_of_cell hd)).trans hd
                    clear hd
                    go_wp2_with fail
                    exact ⟨⟨r + 1, by omega, by omega, by go_num, by rw [HUP.out]; first | done | rfl | simp, hbw.trans (hb4.mono hsz)⟩, by simp [intOf]; omega⟩
                  | false =>
                    have hup : upK k o (r + 1) = false := upK_lack hr1 hre hik
                    have HUP := Lib.hid hup
                    rw [hik] at hd
                    clear hre hup hik
                    generalize upK k o r = u at *
                    go_wp2_with fail
                    refine (refReads_calls _ _ _ _ _ _ _).mono ?_
                    rw [HR.out]
                    rintro e w4 ⟨rfl, hb4⟩
                    have hd4 := (hb4.cell (World.lt_of_cell hd)).trans hd
                    clear hd
                    go_wp2_with fail
                    exact ⟨⟨r + 1, by omega, by omega, by go_num, by rw [HUP.out]; first | rfl | simp, hbw.trans (hb4.mono hsz)⟩, by simp [intOf]; omega⟩
              · obtain rfl : r = 16 := by omega
                have hcan : canK k o = (true && upK k o 16) := canK_up HRI.out HC0.out
                replace q2 := q2.below hbw
                have t3 := t2.trans (hbw.mono t2.size)
                replace q0 := q0'
                replace q1 := q1'
                clear q0' q1' t2 hbw
                rw [← hcan]
                clear hlt hr1 hr16
                generalize wr = w8 at *
                cases hc : canK k o with
                | false =>
                  rw [hc] at hcan
                  have he : behindK k o = k.put n false 0 := by
                    unfold behindK
                    rw [if_neg (by rw [HRE.out]; decide), if_neg H4.out, if_neg (Int.not_lt.2 HNN.out), if_neg (by rw [hc]; decide), HN.out]
                    rfl
                  clear hc hcan
                  have p0 := q0
                  have p2 := q2
                  clear q0 q1 q2
                  rw [show ((16 : Nat) : Int) = 16 from rfl]
                  go_upto_region 17 with fail
                  have HE := Lib.hid he
                  clear he
                  have d1 := p0.kis hk hn15
                  have d2 := p0.kw hk hn15
                  have f1 := p0.frozen (1 + n)
                  have f2 := p0.frozen (17 + n)
                  obtain ⟨k1, k2⟩ := p0.kput hk hn15 false 0
                  have K1 := Lib.hid k1
                  have p2b := p2.grown k2 (fun e => by injection e with e; omega)
                  have t5 := t3.grown k2 t3.size (fun j hj => by injection hj with hj; subst hj; exact Nat.le_refl _)
                  clear k1 k2
                  go_upto_region 19 with fail
                  clear d1 d2 f1 f2
                  have k1 := K1.out
                  generalize (w8.setCell ⟨w.heap.size, 1 + n, none⟩ (.bool false)).setCell ⟨w.heap.size, 17 + n, none⟩ (.int .u32 ((0 : Nat) : Int)) = Y at *
                  have hwp := Known.put_wf hk n false (x := 0) (by decide)
                  clear K1
                  go_wp2_with (first | (refine wpList_load_known _ _ _ hwp k1 rfl rfl rfl ?_) | (refine wpList_put_known _ _ (k.put n false 0) _ hwp Known.zero_wf p2b rfl rfl rfl rfl ?_; intro w9 r9 g9 s9))
                  have t9 := t5.grown g9 t5.size (fun j hj => by injection hj with hj; subst hj; omega)
                  rw [← HE.out] at r9
                  exact bodyPost_ret (results_known rfl _ _ _ _ rfl hwf r9) rfl ⟨rfl, t9⟩
                | true =>
                  clear hcan
                  obtain ⟨⟨b0, b15⟩, ⟨c0, c15⟩⟩ := right_bc HRI.out
                  obtain ⟨nb, hnb'⟩ := Int.eq_ofNat_of_zero_le b0
                  obtain ⟨nc, hnc'⟩ := Int.eq_ofNat_of_zero_le c0
                  have hnb : nb < 16 := by omega
                  have hnc : nc < 16 := by omega
                  have hnbI : (nb : Int) < 16 := by omega
                  have hncI : (nc : Int) < 16 := by omega
                  have HNB := Lib.hid hnb'
                  have HNC := Lib.hid hnc'
                  have hlb := Known.w_lt hk nb
                  have hlc := Known.w_lt hk nc
                  have hdo : doneK k o = aluDo o.ins.op o.ins.imm (k.wAt nb) (k.wAt nc) := by unfold doneK; rw [hnb', hnc', Int.toNat_natCast, Int.toNat_natCast]
                  have he : behindK k o = k.put n true (doneK k o) := by
                    unfold behindK
                    rw [if_neg (by rw [HRE.out]; decide), if_neg H4.out, if_neg (Int.not_lt.2 HNN.out), if_pos hc, HN.out]
                    rfl
                  have hxl := doneK_lt hk o
                  rw [hdo] at he hxl
                  generalize hxb : k.wAt nb = xb at *
                  generalize hxc : k.wAt nc = xc at *
                  generalize hx : aluDo o.ins.op o.ins.imm xb xc = x at *
                  have HXB := Lib.hid hxb
                  have HXC := Lib.hid hxc
                  have HDO := Lib.hid hx
                  have HEE := Lib.hid he
                  clear he hdo hc hnb' hnc' b0 b15 c0 c15 hxb hxc hx
                  have bd := (Below.refl w8.heap.size w8).drew
                  go_upto_region 16 with fail
                  refine wp_region_held_drew (S := (fun w' => Row w' w.heap.size 77 (knownCells k) ∧ Row w' (w.heap.size + 1) 56 (opCells o))) (by kernel_rfl) (⟨q0, q1⟩) (fun hHeld => ?_)
                  refine wpAnyH_take (i := 0) (oi := _) (v := ?v16u2n1_0) rfl (by kernel_rfl) (by kernel_rfl) (by kernel_rfl) (fun _ _ _ h => h) (Or.inl ⟨by rfl, ?hy16u2n1_0⟩) hHeld ?_
                  case hy16u2n1_0 => (intro wS hSw; (try dsimp only at hSw); obtain ⟨hSk, hSo⟩ := hSw; have q9 := hSk.kw hk hnb; have q15 := hSk.kw hk hnc; rw [HXB.out] at q9; rw [HXC.out] at q15; obtain ⟨s0, s1, s2, s3, s4, s5, s6, s7, s8⟩ := Row.op hSo; rw [HNB.out] at s2; rw [HNC.out] at s3; clear hSk hSo; go_simp; try with_reducible rfl)
                  try simp only [List.getElem_toArray, List.getElem_cons_succ, List.getElem_cons_zero, Act.put, List.setIfInBounds_toArray, List.set_cons_zero, List.set_cons_succ]
                  refine wpAnyH_take (i := 1) (oi := _) (v := ?v16u2n1_1) rfl (by kernel_rfl) (by kernel_rfl) (by kernel_rfl) (fun _ _ _ h => h) (Or.inl ⟨by rfl, ?hy16u2n1_1⟩) hHeld ?_
                  case hy16u2n1_1 => (intro wS hSw; (try dsimp only at hSw); obtain ⟨hSk, hSo⟩ := hSw; have q9 := hSk.kw hk hnb; have q15 := hSk.kw hk hnc; rw [HXB.out] at q9; rw [HXC.out] at q15; obtain ⟨s0, s1, s2, s3, s4, s5, s6, s7, s8⟩ := Row.op hSo; rw [HNB.out] at s2; rw [HNC.out] at s3; clear hSk hSo; go_simp; try with_reducible rfl)
                  try simp only [List.getElem_toArray, List.getElem_cons_succ, List.getElem_cons_zero, Act.put, List.setIfInBounds_toArray, List.set_cons_zero, List.set_cons_succ]
                  refine wpAnyH_take (i := 2) (oi := _) (v := ?v16u2n1_2) rfl (by kernel_rfl) (by kernel_rfl) (by kernel_rfl) (fun _ _ _ h => h) (Or.inl ⟨by rfl, ?hy16u2n1_2⟩) hHeld ?_
                  case hy16u2n1_2 => (intro wS hSw; (try dsimp only at hSw); obtain ⟨hSk, hSo⟩ := hSw; have q9 := hSk.kw hk hnb; have q15 := hSk.kw hk hnc; rw [HXB.out] at q9; rw [HXC.out] at q15; obtain ⟨s0, s1, s2, s3, s4, s5, s6, s7, s8⟩ := Row.op hSo; rw [HNB.out] at s2; rw [HNC.out] at s3; clear hSk hSo; go_simp; try with_reducible rfl)
                  try simp only [List.getElem_toArray, List.getElem_cons_succ, List.getElem_cons_zero, Act.put, List.setIfInBounds_toArray, List.set_cons_zero, List.set_cons_succ]
                  refine wpAnyH_take (i := 3) (oi := _) (v := ?v16u2n1_3) rfl (by kernel_rfl) (by kernel_rfl) (by kernel_rfl) (fun _ _ _ h => h) (Or.inl ⟨by rfl, ?hy16u2n1_3⟩) hHeld ?_
                  case hy16u2n1_3 => (intro wS hSw; (try dsimp only at hSw); obtain ⟨hSk, hSo⟩ := hSw; have q9 := hSk.kw hk hnb; have q15 := hSk.kw hk hnc; rw [HXB.out] at q9; rw [HXC.out] at q15; obtain ⟨s0, s1, s2, s3, s4, s5, s6, s7, s8⟩ := Row.op hSo; rw [HNB.out] at s2; rw [HNC.out] at s3; clear hSk hSo; go_simp; try with_reducible rfl)
                  try simp only [List.getElem_toArray, List.getElem_cons_succ, List.getElem_cons_zero, Act.put, List.setIfInBounds_toArray, List.set_cons_zero, List.set_cons_succ]
                  refine wpAnyH_take (i := 4) (oi := _) (v := ?v16u2n1_4) rfl (by kernel_rfl) (by kernel_rfl) (by kernel_rfl) (fun _ _ _ h => h) (Or.inl ⟨by rfl, ?hy16u2n1_4⟩) hHeld ?_
                  case hy16u2n1_4 => (intro wS hSw; (try dsimp only at hSw); obtain ⟨hSk, hSo⟩ := hSw; have q9 := hSk.kw hk hnb; have q15 := hSk.kw hk hnc; rw [HXB.out] at q9; rw [HXC.out] at q15; obtain ⟨s0, s1, s2, s3, s4, s5, s6, s7, s8⟩ := Row.op hSo; rw [HNB.out] at s2; rw [HNC.out] at s3; clear hSk hSo; go_simp; try with_reducible rfl)
                  try simp only [List.getElem_toArray, List.getElem_cons_succ, List.getElem_cons_zero, Act.put, List.setIfInBounds_toArray, List.set_cons_zero, List.set_cons_succ]
                  refine wpAnyH_take (i := 5) (oi := _) (v := ?v16u2n1_5) rfl (by kernel_rfl) (by kernel_rfl) (by kernel_rfl) (fun _ _ _ h => h) (Or.inl ⟨by rfl, ?hy16u2n1_5⟩) hHeld ?_
                  case hy16u2n1_5 => (intro wS hSw; (try dsimp only at hSw); obtain ⟨hSk, hSo⟩ := hSw; have q9 := hSk.kw hk hnb; have q15 := hSk.kw hk hnc; rw [HXB.out] at q9; rw [HXC.out] at q15; obtain ⟨s0, s1, s2, s3, s4, s5, s6, s7, s8⟩ := Row.op hSo; rw [HNB.out] at s2; rw [HNC.out] at s3; clear hSk hSo; go_simp; try with_reducible rfl)
                  try simp only [List.getElem_toArray, List.getElem_cons_succ, List.getElem_cons_zero, Act.put, List.setIfInBounds_toArray, List.set_cons_zero, List.set_cons_succ]
                  refine wpAnyH_take (i := 6) (oi := _) (v := ?v16u2n1_6) rfl (by kernel_rfl) (by kernel_rfl) (by kernel_rfl) (fun _ _ _ h => h) (Or.inl ⟨by rfl, ?hy16u2n1_6⟩) hHeld ?_
                  case hy16u2n1_6 => (intro wS hSw; (try dsimp only at hSw); obtain ⟨hSk, hSo⟩ := hSw; have q9 := hSk.kw hk hnb; have q15 := hSk.kw hk hnc; rw [HXB.out] at q9; rw [HXC.out] at q15; obtain ⟨s0, s1, s2, s3, s4, s5, s6, s7, s8⟩ := Row.op hSo; rw [HNB.out] at s2; rw [HNC.out] at s3; clear hSk hSo; go_simp; try with_reducible rfl)
                  try simp only [List.getElem_toArray, List.getElem_cons_succ, List.getElem_cons_zero, Act.put, List.setIfInBounds_toArray, List.set_cons_zero, List.set_cons_succ]
                  refine wpAnyH_take (i := 7) (oi := _) (v := ?v16u2n1_7) rfl (by kernel_rfl) (by kernel_rfl) (by kernel_rfl) (fun _ _ _ h => h) (Or.inl ⟨by rfl, ?hy16u2n1_7⟩) hHeld ?_
                  case hy16u2n1_7 => (intro wS hSw; (try dsimp only at hSw); obtain ⟨hSk, hSo⟩ := hSw; have q9 := hSk.kw hk hnb; have q15 := hSk.kw hk hnc; rw [HXB.out] at q9; rw [HXC.out] at q15; obtain ⟨s0, s1, s2, s3, s4, s5, s6, s7, s8⟩ := Row.op hSo; rw [HNB.out] at s2; rw [HNC.out] at s3; clear hSk hSo; go_simp; try with_reducible rfl)
                  try simp only [List.getElem_toArray, List.getElem_cons_succ, List.getElem_cons_zero, Act.put, List.setIfInBounds_toArray, List.set_cons_zero, List.set_cons_succ]
                  refine wpAnyH_take (i := 8) (oi := _) (v := ?v16u2n1_8) rfl (by kernel_rfl) (by kernel_rfl) (by kernel_rfl) (fun _ _ _ h => h) (Or.inl ⟨by rfl, ?hy16u2n1_8⟩) hHeld ?_
                  case hy16u2n1_8 => (intro wS hSw; (try dsimp only at hSw); obtain ⟨hSk, hSo⟩ := hSw; have q9 := hSk.kw hk hnb; have q15 := hSk.kw hk hnc; rw [HXB.out] at q9; rw [HXC.out] at q15; obtain ⟨s0, s1, s2, s3, s4, s5, s6, s7, s8⟩ := Row.op hSo; rw [HNB.out] at s2; rw [HNC.out] at s3; clear hSk hSo; go_simp; try with_reducible rfl)
                  try simp only [List.getElem_toArray, List.getElem_cons_succ, List.getElem_cons_zero, Act.put, List.setIfInBounds_toArray, List.set_cons_zero, List.set_cons_succ]
                  refine wpAnyH_take (i := 9) (oi := _) (v := ?v16u2n1_9) rfl (by kernel_rfl) (by kernel_rfl) (by kernel_rfl) (fun _ _ _ h => h) (Or.inl ⟨by rfl, ?hy16u2n1_9⟩) hHeld ?_
                  case hy16u2n1_9 => (intro wS hSw; (try dsimp only at hSw); obtain ⟨hSk, hSo⟩ := hSw; have q9 := hSk.kw hk hnb; have q15 := hSk.kw hk hnc; rw [HXB.out] at q9; rw [HXC.out] at q15; obtain ⟨s0, s1, s2, s3, s4, s5, s6, s7, s8⟩ := Row.op hSo; rw [HNB.out] at s2; rw [HNC.out] at s3; clear hSk hSo; go_simp; try with_reducible rfl)
                  try simp only [List.getElem_toArray, List.getElem_cons_succ, List.getElem_cons_zero, Act.put, List.setIfInBounds_toArray, List.set_cons_zero, List.set_cons_succ]
                  refine wpAnyH_take (i := 10) (oi := _) (v := ?v16u2n1_10) rfl (by kernel_rfl) (by kernel_rfl) (by kernel_rfl) (fun _ _ _ h => h) (Or.inl ⟨by rfl, ?hy16u2n1_10⟩) hHeld ?_
                  case hy16u2n1_10 => (intro wS hSw; (try dsimp only at hSw); obtain ⟨hSk, hSo⟩ := hSw; have q9 := hSk.kw hk hnb; have q15 := hSk.kw hk hnc; rw [HXB.out] at q9; rw [HXC.out] at q15; obtain ⟨s0, s1, s2, s3, s4, s5, s6, s7, s8⟩ := Row.op hSo; rw [HNB.out] at s2; rw [HNC.out] at s3; clear hSk hSo; go_simp; try with_reducible rfl)
                  try simp only [List.getElem_toArray, List.getElem_cons_succ, List.getElem_cons_zero, Act.put, List.setIfInBounds_toArray, List.set_cons_zero, List.set_cons_succ]
                  refine wpAnyH_take (i := 11) (oi := _) (v := ?v16u2n1_11) rfl (by kernel_rfl) (by kernel_rfl) (by kernel_rfl) (fun _ _ _ h => h) (Or.inl ⟨by rfl, ?hy16u2n1_11⟩) hHeld ?_
                  case hy16u2n1_11 => (intro wS hSw; (try dsimp only at hSw); obtain ⟨hSk, hSo⟩ := hSw; have q9 := hSk.kw hk hnb; have q15 := hSk.kw hk hnc; rw [HXB.out] at q9; rw [HXC.out] at q15; obtain ⟨s0, s1, s2, s3, s4, s5, s6, s7, s8⟩ := Row.op hSo; rw [HNB.out] at s2; rw [HNC.out] at s3; clear hSk hSo; go_simp; try with_reducible rfl)
                  try simp only [List.getElem_toArray, List.getElem_cons_succ, List.getElem_cons_zero, Act.put, List.setIfInBounds_toArray, List.set_cons_zero, List.set_cons_succ]
                  refine wpAnyH_take (i := 12) (oi := _) (v := ?v16u2n1_12) rfl (by kernel_rfl) (by kernel_rfl) (by kernel_rfl) (fun _ _ _ h => h) (Or.inl ⟨by rfl, ?hy16u2n1_12⟩) hHeld ?_
                  case hy16u2n1_12 => (intro wS hSw; (try dsimp only at hSw); obtain ⟨hSk, hSo⟩ := hSw; have q9 := hSk.kw hk hnb; have q15 := hSk.kw hk hnc; rw [HXB.out] at q9; rw [HXC.out] at q15; obtain ⟨s0, s1, s2, s3, s4, s5, s6, s7, s8⟩ := Row.op hSo; rw [HNB.out] at s2; rw [HNC.out] at s3; clear hSk hSo; go_simp; try with_reducible rfl)
                  try simp only [List.getElem_toArray, List.getElem_cons_succ, List.getElem_cons_zero, Act.put, List.setIfInBounds_toArray, List.set_cons_zero, List.set_cons_succ]
                  refine wpAnyH_take (i := 13) (oi := _) (v := ?v16u2n1_13) rfl (by kernel_rfl) (by kernel_rfl) (by kernel_rfl) (fun _ _ _ h => h) (Or.inl ⟨by rfl, ?hy16u2n1_13⟩) hHeld ?_
                  case hy16u2n1_13 => (intro wS hSw; (try dsimp only at hSw); obtain ⟨hSk, hSo⟩ := hSw; have q9 := hSk.kw hk hnb; have q15 := hSk.kw hk hnc; rw [HXB.out] at q9; rw [HXC.out] at q15; obtain ⟨s0, s1, s2, s3, s4, s5, s6, s7, s8⟩ := Row.op hSo; rw [HNB.out] at s2; rw [HNC.out] at s3; clear hSk hSo; go_simp; try with_reducible rfl)
                  try simp only [List.getElem_toArray, List.getElem_cons_succ, List.getElem_cons_zero, Act.put, List.setIfInBounds_toArray, List.set_cons_zero, List.set_cons_succ]
                  refine wpAnyH_ready (rs := [14]) (by kernel_rfl) (by simp) ?_
                  refine AllReadyH.cons (o := _) rfl (fun K hK => ?_) AllReadyH.nil
                  go_simp
                  refine (refDo_calls _ _ _ _ _ _ _ _ hlb hlc H8.out.1 H8.out.2.1 H8.out.2.2).mono ?_
                  rw [HDO.out]
                  rintro e w5 ⟨rfl, hb5⟩
                  go_wp2_with fail
                  refine hK.out _ _ (⟨Row.below hHeld.1 hb5, Row.below hHeld.2 hb5⟩) (fun hHeld14 => ?_)
                  clear hK K hHeld
                  try simp only [List.getElem_toArray, List.getElem_cons_succ, List.getElem_cons_zero, Act.put, List.setIfInBounds_toArray, List.set_cons_zero, List.set_cons_succ]
                  refine wpAnyH_take (i := 15) (oi := _) (v := ?v16u2n1_15) rfl (by kernel_rfl) (by kernel_rfl) (by kernel_rfl) (fun _ _ _ h => h) (Or.inl ⟨by rfl, ?hy16u2n1_15⟩) hHeld14 ?_
                  case hy16u2n1_15 => (intro wS hSw; (try dsimp only at hSw); obtain ⟨hSk, hSo⟩ := hSw; have q9 := hSk.kw hk hnb; have q15 := hSk.kw hk hnc; rw [HXB.out] at q9; rw [HXC.out] at q15; obtain ⟨s0, s1, s2, s3, s4, s5, s6, s7, s8⟩ := Row.op hSo; rw [HNB.out] at s2; rw [HNC.out] at s3; clear hSk hSo; go_simp; try with_reducible rfl)
                  try simp only [List.getElem_toArray, List.getElem_cons_succ, List.getElem_cons_zero, Act.put, List.setIfInBounds_toArray, List.set_cons_zero, List.set_cons_succ]
                  refine wpAnyH_done (by kernel_rfl) ?_ _
                  have u5 := bd.trans (hb5.mono bd.size)
                  have p0 := q0.below u5
                  have p2 := q2.below u5
                  replace t3 := t3.trans (u5.mono t3.size)
                  clear q0 q1 q2 bd hb5 u5
                  generalize w5 = w8 at *
                  have he := HEE.out
                  clear HEE
                  have HE := Lib.hid he
                  clear he
                  have d1 := p0.kis hk hn15
                  have d2 := p0.kw hk hn15
                  have f1 := p0.frozen (1 + n)
                  have f2 := p0.frozen (17 + n)
                  obtain ⟨k1, k2⟩ := p0.kput hk hn15 true x
                  have K1 := Lib.hid k1
                  have p2b := p2.grown k2 (fun e => by injection e with e; omega)
                  have t5 := t3.grown k2 t3.size (fun j hj => by injection hj with hj; subst hj; exact Nat.le_refl _)
                  clear k1 k2
                  go_upto_region 19 with fail
                  clear d1 d2 f1 f2
                  have k1 := K1.out
                  generalize (w8.setCell ⟨w.heap.size, 1 + n, none⟩ (.bool true)).setCell ⟨w.heap.size, 17 + n, none⟩ (.int .u32 (x : Int)) = Y at *
                  have hwp := Known.put_wf hk n true (x := x) hxl
                  clear K1
                  go_wp2_with (first | (refine wpList_load_known _ _ _ hwp k1 rfl rfl rfl ?_) | (refine wpList_put_known _ _ (k.put n true x) _ hwp Known.zero_wf p2b rfl rfl rfl rfl ?_; intro w9 r9 g9 s9))
                  have t9 := t5.grown g9 t5.size (fun j hj => by injection hj with hj; subst hj; omega)
                  rw [← HE.out] at r9
                  exact bodyPost_ret (results_known rfl _ _ _ _ rfl hwf r9) rfl ⟨rfl, t9⟩
end Go.Proofs.Ytokkngfgppikkab
