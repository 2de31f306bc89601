/- Join, of layer 20 (value) and of the document. Printed by genKf.py of this repository. -/
import Derived.Test.YtokkngfgppikkabKd
import Derived.Test.YtokkngfgppikkabKe
namespace Go.Proofs.Ytokkngfgppikkab
set_option linter.unusedVariables false
set_option linter.unusedSimpArgs false
open Go.RowKit

/-- Three new rows. -/
theorem three_rows (w : World) (cs ds es : Array Value) (T U V : TypeId) : ∃ W : World, W = ((w.alloc (.cells cs T)).alloc (.cells ds U)).alloc (.cells es V) ∧ Below w.heap.size w W ∧ W.heap.size = w.heap.size + 1 + 1 + 1 ∧ Row W w.heap.size T cs.toList ∧ Row W (w.heap.size + 1) U ds.toList ∧ Row W (w.heap.size + 1 + 1) V es.toList := by
  obtain ⟨W2, h2, b2, z2, r1, r2⟩ := two_rows w cs ds T U
  have r3 := Row.new W2 V es
  have b3 := below_alloc' W2 (.cells es V)
  rw [z2] at r3
  exact ⟨_, by rw [h2], b2.trans (b3.mono b2.size), by simp [z2], r1.below b3, r2.below b3, r3⟩
theorem knownCells_re (k : Known) : (knownCells k)[0]? = some (.bool k.reached) := rfl
theorem Row.kis {w : World} {g : Nat} {k : Known} (h : Row w g 77 (knownCells k)) (hw : k.wf) {r : Nat} (hr : r < 16) : w.cell? ⟨g, 1 + r, none⟩ = some (.bool (k.isAt r)) := h.cell (knownCells_is (Known.is_get hw hr))
theorem Row.kw {w : World} {g : Nat} {k : Known} (h : Row w g 77 (knownCells k)) (hw : k.wf) {r : Nat} (hr : r < 16) : w.cell? ⟨g, 17 + r, none⟩ = some (.int .u32 (k.wAt r : Int)) := h.cell (knownCells_w hw (Known.w_get hw hr))
/-- One register's knowledge written into a row. -/
theorem Row.kput {w : World} {g : Nat} {k : Known} (h : Row w g 77 (knownCells k)) (hw : k.wf) {r : Nat} (hr : r < 16) (b : Bool) (x : Nat) :
    Row ((w.setCell ⟨g, 1 + r, none⟩ (.bool b)).setCell ⟨g, 17 + r, none⟩ (.int .u32 (x : Int))) g 77 (knownCells (k.put r b x)) ∧ w.grownBy ((w.setCell ⟨g, 1 + r, none⟩ (.bool b)).setCell ⟨g, 17 + r, none⟩ (.int .u32 (x : Int))) (some g) := by
  have h2 := (h.set (1 + r) (.bool b)).set (17 + r) (.int .u32 (x : Int))
  rw [Known.put_cells hw hr] at h2
  exact ⟨h2, grown_tr (grown_set w g (1 + r) (.bool b)) (grown_set _ g (17 + r) _)⟩

set_option maxHeartbeats 4000000 in
set_option maxRecDepth 100000 in
theorem join_calls (a b : Known) (w : World) (ha : a.wf) (hb : b.wf) : Calls Try.prog 60 #[.agg (knownCells a).toArray, .agg (knownCells b).toArray] w fun e w' => e = .returned (.agg (knownCells (joinK a b)).toArray) ∧ Below w.heap.size w w' := by
  obtain ⟨W, hW, bW, zW, r0, r1, r2⟩ := three_rows w (knownCells a).toArray (knownCells b).toArray #[.bool false, .bool false, .bool false, .bool false, .bool false, .bool false, .bool false, .bool false, .bool false, .bool false, .bool false, .bool false, .bool false, .bool false, .bool false, .bool false, .bool false, .int .u32 0, .int .u32 0, .int .u32 0, .int .u32 0, .int .u32 0, .int .u32 0, .int .u32 0, .int .u32 0, .int .u32 0, .int .u32 0, .int .u32 0, .int .u32 0, .int .u32 0, .int .u32 0, .int .u32 0, .int .u32 0] 77 77 77
  replace r2 : Row W (w.heap.size + 1 + 1) 77 (knownCells Known.zero) := r2
  have HW := Lib.hid hW
  have ZW := Lib.hid zW
  clear hW zW
  have hwf := joinK_wf ha hb
  cases ha1 : a.reached with
  | false =>
    have he : joinK a b = b := by unfold joinK; rw [if_pos ha1]
    go_enter Try.func60, Try.ntmps60
    go_upto_region 1 with fail
    rw [← HW.out]
    clear HW
    have x0 := r0.cell (knownCells_re a)
    have x1 := r1.cell (knownCells_re b)
    rw [ha1] at x0
    have HE := Lib.hid he
    clear he ha1
    go_wp2_with (first | (refine wpList_load_known _ b _ hb r1 rfl rfl rfl ?_) | (refine wpList_put_known _ _ b _ hb Known.zero_wf r2 rfl rfl rfl rfl ?_; intro w4 r4 g4 s4))
    have t4 := bW.grown g4 bW.size (fun j hj => by injection hj with hj; subst hj; omega)
    rw [← HE.out] at r4
    exact bodyPost_ret (results_known rfl _ _ _ _ rfl hwf r4) rfl ⟨rfl, t4⟩
  | true =>
    cases hb1 : b.reached with
    | false =>
      have he : joinK a b = a := by unfold joinK; rw [if_neg (by rw [ha1]; decide), if_pos hb1]
      go_enter Try.func60, Try.ntmps60
      go_upto_region 1 with fail
      rw [← HW.out]
      clear HW
      have x0 := r0.cell (knownCells_re a)
      have x1 := r1.cell (knownCells_re b)
      rw [ha1] at x0
      rw [hb1] at x1
      have HE := Lib.hid he
      clear he ha1 hb1
      go_wp2_with (first | (refine wpList_load_known _ a _ ha r0 rfl rfl rfl ?_) | (refine wpList_put_known _ _ a _ ha Known.zero_wf r2 rfl rfl rfl rfl ?_; intro w4 r4 g4 s4))
      have t4 := bW.grown g4 bW.size (fun j hj => by injection hj with hj; subst hj; omega)
      rw [← HE.out] at r4
      exact bodyPost_ret (results_known rfl _ _ _ _ rfl hwf r4) rfl ⟨rfl, t4⟩
    | true =>
      have HA := Lib.hid ha1
      have HB := Lib.hid hb1
      have hst := JoinTo.start (b := b) ha ha1
      have HST := Lib.hid hst
      go_enter Try.func60, Try.ntmps60
      go_upto_region 1 with fail
      rw [← HW.out]
      clear HW
      have x0 := r0.cell (knownCells_re a)
      have x1 := r1.cell (knownCells_re b)
      rw [ha1] at x0
      rw [hb1] at x1
      clear ha1 hb1 hst
      go_wp2_with fail
      clear x0 x1
      have R1 := Lib.hid r1
      have R2 := Lib.hid r2
      clear r1 r2
      go_loopw [16] (fun v wr => ∃ (k : Nat) (m : Known), k ≤ 16 ∧ v = .int .i64 k ∧ JoinTo a b k m ∧ Row wr w.heap.size 77 (knownCells m) ∧ W.grownBy wr (some w.heap.size)) (fun v _ => 16 - (intOf v).toNat)
      case atStart => exact ⟨0, a, Nat.zero_le _, rfl, HST.out, r0, grown_none _ _⟩
      case round =>
        clear r0
        obtain ⟨k, m, hk, rfl, hj, hr, hg⟩ := hrel
        have HJ := Lib.hid hj
        have HR := Lib.hid hr
        clear hj hr
        by_cases hlt : k < 16
        · have c1 := (R1.out.grown hg (fun e => by injection e with e; omega)).kis hb hlt
          have c2 := (R1.out.grown hg (fun e => by injection e with e; omega)).kw hb hlt
          have c3 := HR.out.kw HJ.out.wf hlt
          have hmw : m.wAt k = a.wAt k := by rw [HJ.out.w k hlt, if_neg (Nat.lt_irrefl _)]
          rw [hmw] at c3
          clear hmw
          generalize hy : b.wAt k = y at *
          generalize hx : a.wAt k = x at *
          have HX := Lib.hid hx
          have HY := Lib.hid hy
          clear hx hy
          cases hbi : b.isAt k with
          | false =>
            rw [hbi] at c1
            have hc : (b.isAt k && a.wAt k == b.wAt k) = false := by rw [hbi]; rfl
            have HC := Lib.hid hc
            clear hbi hc
            go_wp2_with fail
            go_quiet (fail)
            have hgd : W.grownBy (wr.drewN nq) (some w.heap.size) := grown_tr hg (grown_below (Below.drewN (Below.refl _ _) nq))
            have rd := HR.out.below (Below.drewN (Below.refl _ _) nq)
            clear c1 c2 c3
            generalize wr.drewN nq = wq at *
            have d1 := rd.kis HJ.out.wf hlt
            have d2 := rd.kw HJ.out.wf hlt
            have f1 := rd.frozen (1 + k)
            have f2 := rd.frozen (17 + k)
            obtain ⟨q1, q2⟩ := rd.kput HJ.out.wf hlt false 0
            have Q1 := Lib.hid q1
            have hg2 := grown_tr hgd q2
            clear q1 q2 rd hgd hg
            go_wp2_with fail
            exact ⟨⟨k + 1, _, by omega, by go_num, HJ.out.drop hlt HC.out, Q1.out, hg2⟩, by simp [intOf]; omega⟩
          | true =>
            rw [hbi] at c1
            by_cases hxy : x = y
            · have z : ((x : Int) != (y : Int)) = false := by simp [hxy]
              have z2 : (x != y) = false := by simp [hxy]
              have hc : (b.isAt k && a.wAt k == b.wAt k) = true := by rw [hbi, HX.out, HY.out, hxy]; simp
              have HC := Lib.hid hc
              clear hbi hc hxy
              go_wp2_with fail
              go_quiet (fail)
              have hgd : W.grownBy (wr.drewN nq) (some w.heap.size) := grown_tr hg (grown_below (Below.drewN (Below.refl _ _) nq))
              have rd := Lib.hid (HR.out.below (Below.drewN (Below.refl _ _) nq))
              clear c1 c2 c3 hg
              generalize wr.drewN nq = wq at *
              go_wp2_with fail
              exact ⟨⟨k + 1, m, by omega, by go_num, HJ.out.keep hlt HC.out, rd.out, hgd⟩, by simp [intOf]; omega⟩
            · have z : ((x : Int) != (y : Int)) = true := by simp; omega
              have z2 : (x != y) = true := by simp [hxy]
              have hc : (b.isAt k && a.wAt k == b.wAt k) = false := by rw [hbi, HX.out, HY.out]; simpa using hxy
              have HC := Lib.hid hc
              clear hbi hc hxy
              go_wp2_with fail
              go_quiet (fail)
              have hgd : W.grownBy (wr.drewN nq) (some w.heap.size) := grown_tr hg (grown_below (Below.drewN (Below.refl _ _) nq))
              have rd := HR.out.below (Below.drewN (Below.refl _ _) nq)
              clear c1 c2 c3
              generalize wr.drewN nq = wq at *
              have d1 := rd.kis HJ.out.wf hlt
              have d2 := rd.kw HJ.out.wf hlt
              have f1 := rd.frozen (1 + k)
              have f2 := rd.frozen (17 + k)
              obtain ⟨q1, q2⟩ := rd.kput HJ.out.wf hlt false 0
              have Q1 := Lib.hid q1
              have hg2 := grown_tr hgd q2
              clear q1 q2 rd hgd hg
              go_wp2_with fail
              exact ⟨⟨k + 1, _, by omega, by go_num, HJ.out.drop hlt HC.out, Q1.out, hg2⟩, by simp [intOf]; omega⟩
        · obtain rfl : k = 16 := by omega
          have hm := HJ.out.wf
          have rr := HR.out
          have r2 := R2.out.grown hg (fun e => by injection e with e; omega)
          have t0 : Below w.heap.size w wr := bW.grown hg bW.size (fun j hj => by injection hj with hj; subst hj; exact Nat.le_refl _)
          go_wp2_with (first | (refine wpList_load_known _ m _ hm rr rfl rfl rfl ?_) | (refine wpList_put_known _ _ m _ hm Known.zero_wf r2 rfl rfl rfl rfl ?_; intro w4 r4 g4 s4))
          have t4 := t0.grown g4 t0.size (fun j hj => by injection hj with hj; subst hj; omega)
          rw [HJ.out.done ha hb HA.out HB.out] at r4
          exact bodyPost_ret (results_known rfl _ _ _ _ rfl hwf r4) rfl ⟨rfl, t4⟩

set_option maxHeartbeats 4000000 in
set_option maxRecDepth 100000 in
theorem refJoin_calls (a b : Known) (w : World) (ha : a.wf) (hb : b.wf) : Calls Try.prog 65 #[.agg (knownCells a).toArray, .agg (knownCells b).toArray] w fun e w' => e = .returned (.agg (knownCells (refJoinK a b)).toArray) ∧ Below w.heap.size w w' := by
  obtain ⟨W, hW, bW, zW, r0, r1, r2⟩ := three_rows w (knownCells a).toArray (knownCells b).toArray #[.bool false, .bool false, .bool false, .bool false, .bool false, .bool false, .bool false, .bool false, .bool false, .bool false, .bool false, .bool false, .bool false, .bool false, .bool false, .bool false, .bool false, .int .u32 0, .int .u32 0, .int .u32 0, .int .u32 0, .int .u32 0, .int .u32 0, .int .u32 0, .int .u32 0, .int .u32 0, .int .u32 0, .int .u32 0, .int .u32 0, .int .u32 0, .int .u32 0, .int .u32 0, .int .u32 0] 77 77 77
  replace r2 : Row W (w.heap.size + 1 + 1) 77 (knownCells Known.zero) := r2
  have HW := Lib.hid hW
  have ZW := Lib.hid zW
  clear hW zW
  have hwf := refJoinK_wf ha hb
  cases ha1 : a.reached with
  | false =>
    have he : refJoinK a b = b := by unfold refJoinK; rw [if_pos ha1]
    go_enter Try.func65, Try.ntmps65
    go_upto_region 1 with fail
    rw [← HW.out]
    clear HW
    have x0 := r0.cell (knownCells_re a)
    have x1 := r1.cell (knownCells_re b)
    rw [ha1] at x0
    have HE := Lib.hid he
    clear he ha1
    go_wp2_with (first | (refine wpList_load_known _ b _ hb r1 rfl rfl rfl ?_) | (refine wpList_put_known _ _ b _ hb Known.zero_wf r2 rfl rfl rfl rfl ?_; intro w4 r4 g4 s4))
    have t4 := bW.grown g4 bW.size (fun j hj => by injection hj with hj; subst hj; omega)
    rw [← HE.out] at r4
    exact bodyPost_ret (results_known rfl _ _ _ _ rfl hwf r4) rfl ⟨rfl, t4⟩
  | true =>
    cases hb1 : b.reached with
    | false =>
      have he : refJoinK a b = a := by unfold refJoinK; rw [if_neg (by rw [ha1]; decide), if_pos hb1]
      go_enter Try.func65, Try.ntmps65
      go_upto_region 1 with fail
      rw [← HW.out]
      clear HW
      have x0 := r0.cell (knownCells_re a)
      have x1 := r1.cell (knownCells_re b)
      rw [ha1] at x0
      rw [hb1] at x1
      have HE := Lib.hid he
      clear he ha1 hb1
      go_wp2_with (first | (refine wpList_load_known _ a _ ha r0 rfl rfl rfl ?_) | (refine wpList_put_known _ _ a _ ha Known.zero_wf r2 rfl rfl rfl rfl ?_; intro w4 r4 g4 s4))
      have t4 := bW.grown g4 bW.size (fun j hj => by injection hj with hj; subst hj; omega)
      rw [← HE.out] at r4
      exact bodyPost_ret (results_known rfl _ _ _ _ rfl hwf r4) rfl ⟨rfl, t4⟩
    | true =>
      have HA := Lib.hid ha1
      have HB := Lib.hid hb1
      go_enter Try.func65, Try.ntmps65
      go_upto_region 1 with fail
      rw [← HW.out]
      clear HW
      have x0 := r0.cell (knownCells_re a)
      have x1 := r1.cell (knownCells_re b)
      rw [ha1] at x0
      rw [hb1] at x1
      clear ha1 hb1
      have r3 : Row (W.alloc (.cells #[.bool false, .bool false, .bool false, .bool false, .bool false, .bool false, .bool false, .bool false, .bool false, .bool false, .bool false, .bool false, .bool false, .bool false, .bool false, .bool false, .bool false, .int .u32 0, .int .u32 0, .int .u32 0, .int .u32 0, .int .u32 0, .int .u32 0, .int .u32 0, .int .u32 0, .int .u32 0, .int .u32 0, .int .u32 0, .int .u32 0, .int .u32 0, .int .u32 0, .int .u32 0, .int .u32 0] 77)) W.heap.size 77 (knownCells Known.zero) := Row.new W _ _
      have b3 := below_alloc' W (.cells #[.bool false, .bool false, .bool false, .bool false, .bool false, .bool false, .bool false, .bool false, .bool false, .bool false, .bool false, .bool false, .bool false, .bool false, .bool false, .bool false, .bool false, .int .u32 0, .int .u32 0, .int .u32 0, .int .u32 0, .int .u32 0, .int .u32 0, .int .u32 0, .int .u32 0, .int .u32 0, .int .u32 0, .int .u32 0, .int .u32 0, .int .u32 0, .int .u32 0, .int .u32 0, .int .u32 0] 77)
      go_upto_region 6 with (refine wpList_put_known _ _ Known.some0 _ Known.some0_wf Known.zero_wf r3 rfl rfl rfl rfl ?_; intro w3 r4 g4 s4; clear s4; replace b3 := b3.grown g4 b3.size (fun j hj => by injection hj with hj; subst hj; exact Nat.le_refl _); clear g4)
      clear r3
      generalize hH : W.heap.size = H at *
      have HH := Lib.hid hH
      clear hH
      go_wp2_with fail
      clear x0 x1
      have R0 := Lib.hid r0
      have R1 := Lib.hid r1
      have R2 := Lib.hid r2
      have R4 := Lib.hid r4
      clear r0 r1 r2 r4
      go_loopw [6] (fun v wr => ∃ (k : Nat) (m : Known), k ≤ 16 ∧ v = .int .i64 k ∧ RefJoinTo a b k m ∧ Row wr H 77 (knownCells m) ∧ Below H W wr) (fun v _ => 16 - (intOf v).toNat)
      case atStart => exact ⟨0, _, Nat.zero_le _, rfl, RefJoinTo.start a b, R4.out, b3⟩
      case round =>
        clear b3 R4
        obtain ⟨k, m, hk, rfl, hj, hr, hg⟩ := hrel
        have HJ := Lib.hid hj
        have HR := Lib.hid hr
        clear hj hr
        have hg' : Below W.heap.size W wr := by rw [HH.out]; exact hg
        have q0 := R0.out.below hg'
        have q1 := R1.out.below hg'
        have q2 := R2.out.below hg'
        have hlt0 := R0.out.lt
        rw [HH.out] at hlt0
        have Q0 := Lib.hid q0
        have Q2 := Lib.hid q2
        clear hg'
        by_cases hlt : k < 16
        · have c0 := q0.kis ha hlt
          have c1 := q1.kis hb hlt
          have c2 := q1.kw hb hlt
          have c3 := q0.kw ha hlt
          clear q0 q1 q2
          generalize hy : b.wAt k = y at *
          generalize hx : a.wAt k = x at *
          have HX := Lib.hid hx
          have HY := Lib.hid hy
          clear hx hy
          cases hai : a.isAt k with
          | false =>
            rw [hai] at c0
            have hc : (a.isAt k && (b.isAt k && a.wAt k == b.wAt k)) = false := by rw [hai]; rfl
            have HC := Lib.hid hc
            clear hai hc
            go_wp2_with fail
            go_quiet (fail)
            have hgd : Below H W (wr.drewN nq) := Below.drewN hg nq
            have rd := Lib.hid (HR.out.below (Below.drewN (Below.refl _ _) nq))
            clear c0 c1 c2 c3 hg
            generalize wr.drewN nq = wq at *
            go_wp2_with fail
            exact ⟨⟨k + 1, m, by omega, by go_num, HJ.out.skip hlt HC.out, rd.out, hgd⟩, by simp [intOf]; omega⟩
          | true =>
            rw [hai] at c0
            cases hbi : b.isAt k with
            | false =>
              rw [hbi] at c1
              have hc : (a.isAt k && (b.isAt k && a.wAt k == b.wAt k)) = false := by rw [hai, hbi]; rfl
              have HC := Lib.hid hc
              clear hai hbi hc
              go_wp2_with fail
              go_quiet (fail)
              have hgd : Below H W (wr.drewN nq) := Below.drewN hg nq
              have rd := Lib.hid (HR.out.below (Below.drewN (Below.refl _ _) nq))
              clear c0 c1 c2 c3 hg
              generalize wr.drewN nq = wq at *
              go_wp2_with fail
              exact ⟨⟨k + 1, m, by omega, by go_num, HJ.out.skip hlt HC.out, rd.out, hgd⟩, by simp [intOf]; omega⟩
            | true =>
              rw [hbi] at c1
              by_cases hxy : x = y
              · have z : ((x : Int) == (y : Int)) = true := by simp [hxy]
                have z2 : (x == y) = true := by simp [hxy]
                have hc : (a.isAt k && (b.isAt k && a.wAt k == b.wAt k)) = true := by rw [hai, hbi, HX.out, HY.out, hxy]; simp
                have HC := Lib.hid hc
                clear hai hbi hc hxy
                go_wp2_with fail
                go_quiet (fail)
                have hgd : Below H W (wr.drewN nq) := Below.drewN hg nq
                have rd := HR.out.below (Below.drewN (Below.refl _ _) nq)
                have qd := Q0.out.below (Below.drewN (Below.refl _ _) nq)
                clear c0 c1 c2 c3 hg
                generalize wr.drewN nq = wq at *
                have d1 := rd.kis HJ.out.wf hlt
                have f1 := rd.frozen (1 + k)
                have g1 := grown_set wq H (1 + k) (.bool true)
                have rx := rd.set (1 + k) (.bool true)
                rw [knownCells_setIs HJ.out.wf hlt] at rx
                have hz := rd.lt
                have bx := hgd.grown g1 (Nat.le_of_lt (by omega)) (fun j hj => by injection hj with hj; omega)
                have qx := qd.grown g1 (fun e => by injection e with e; omega)
                have hwx := Known.wf_setIs HJ.out.wf k true
                go_upto_region 11 with fail
                generalize wq.setCell ⟨H, 1 + k, none⟩ (.bool true) = X at *
                clear d1 f1 rd qd g1 hz hgd
                have d2 := rx.kw hwx hlt
                have d3 := qx.kw ha hlt
                rw [HX.out] at d3
                have f2 := rx.frozen (17 + k)
                have g2 := grown_set X H (17 + k) (.int .u32 (x : Int))
                have ry := rx.set (17 + k) (.int .u32 (x : Int))
                rw [knownCells_setW hwx] at ry
                have hz := rx.lt
                have by2 := bx.grown g2 (by omega) (fun j hj => by injection hj with hj; omega)
                have ht := HJ.out.take ha hlt HC.out
                rw [HX.out] at ht
                have HT := Lib.hid ht
                have RY := Lib.hid ry
                clear rx qx g2 hz ht ry
                go_wp2_with fail
                exact ⟨⟨k + 1, _, by omega, by go_num, HT.out, RY.out, by2⟩, by simp [intOf]; omega⟩
              · have z : ((x : Int) == (y : Int)) = false := by simp; omega
                have z2 : (x == y) = false := by simp [hxy]
                have hc : (a.isAt k && (b.isAt k && a.wAt k == b.wAt k)) = false := by rw [hai, hbi, HX.out, HY.out]; simpa using hxy
                have HC := Lib.hid hc
                clear hai hbi hc hxy
                go_wp2_with fail
                go_quiet (fail)
                have hgd : Below H W (wr.drewN nq) := Below.drewN hg nq
                have rd := Lib.hid (HR.out.below (Below.drewN (Below.refl _ _) nq))
                clear c0 c1 c2 c3 hg
                generalize wr.drewN nq = wq at *
                go_wp2_with fail
                exact ⟨⟨k + 1, m, by omega, by go_num, HJ.out.skip hlt HC.out, rd.out, hgd⟩, by simp [intOf]; omega⟩
        · obtain rfl : k = 16 := by omega
          have hm := HJ.out.wf
          have rr := HR.out
          have hg' : Below W.heap.size W wr := by rw [HH.out]; exact hg
          have t0 : Below w.heap.size w wr := bW.trans (hg'.mono bW.size)
          have hH0 : w.heap.size < H := hlt0
          have hne : H ≠ w.heap.size + 1 + 1 := fun e => by have := R2.out.lt; rw [HH.out] at this; omega
          clear hg' q0 q1
          go_wp2_with (first | (refine wpList_load_known _ m _ hm rr rfl rfl rfl ?_) | (refine wpList_put_known _ _ m _ hm Known.zero_wf q2 rfl rfl rfl rfl ?_; intro w4 r4 g4 s4))
          have t4 := t0.grown g4 t0.size (fun j hj => by injection hj with hj; subst hj; omega)
          rw [HJ.out.done ha hb HA.out HB.out] at r4
          exact bodyPost_ret (results_known rfl _ _ _ _ rfl hwf r4) rfl ⟨rfl, t4⟩
end Go.Proofs.Ytokkngfgppikkab
