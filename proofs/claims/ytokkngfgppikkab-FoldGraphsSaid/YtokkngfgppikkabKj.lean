/- Taken and ways, of layer 20 (value). Printed by genKj.py of this repository. -/
import Derived.Test.YtokkngfgppikkabKi
namespace Go.Proofs.Ytokkngfgppikkab
set_option linter.unusedVariables false
set_option linter.unusedSimpArgs false
open Go.RowKit

/-- A row of whole numbers that was made. -/
def WaysOut (w : World) (xs : List Int) (e : Ending) (w' : World) : Prop := ∃ A c, e = .returned (.slice A xs.length c) ∧ CellsI w' A xs ∧ (∀ ad, A = some ad → w.heap.size ≤ ad.block) ∧ Below w.heap.size w w'
theorem WaysOut.nil (w w' : World) (h : Below w.heap.size w w') : WaysOut w [] (.returned (.slice none 0 0)) w' := ⟨none, 0, rfl, fun i x hx => by simp at hx, fun ad e => (by cases e), h⟩
theorem WaysOut.one {w w1 : World} (x : Int) (T : TypeId) (h : Below w.heap.size w w1) : WaysOut w [x] (.returned (.slice (some ⟨w1.heap.size, 0, none⟩) 1 1)) (w1.alloc (.cells #[.int .i64 x] T)) := by
  have r := Row.new w1 T #[.int .i64 x]
  refine ⟨_, _, rfl, fun i y hy => ?_, fun ad e => by injection e with e; subst e; exact h.size, h.trans ((below_alloc' w1 _).mono h.size)⟩
  match i, hy with
  | 0, hy => injection hy with hy; subst hy; exact ⟨_, rfl, r.cell (j := 0) rfl⟩
theorem WaysOut.two {w w1 : World} (x y : Int) (T : TypeId) (h : Below w.heap.size w w1) : WaysOut w [x, y] (.returned (.slice (some ⟨w1.heap.size, 0, none⟩) 2 2)) (w1.alloc (.cells #[.int .i64 x, .int .i64 y] T)) := by
  have r := Row.new w1 T #[.int .i64 x, .int .i64 y]
  refine ⟨_, _, rfl, fun i z hz => ?_, fun ad e => by injection e with e; subst e; exact h.size, h.trans ((below_alloc' w1 _).mono h.size)⟩
  match i, hz with
  | 0, hz => injection hz with hz; subst hz; exact ⟨_, rfl, r.cell (j := 0) rfl⟩
  | 1, hz => injection hz with hz; subst hz; exact ⟨_, rfl, by rw [Addr.add_mid]; exact r.cell (j := 1) rfl⟩

set_option maxHeartbeats 4000000 in
set_option maxRecDepth 100000 in
theorem taken_calls (k : Known) (t : Term) (w : World) (hk : k.wf) (ha : 0 ≤ t.a ∧ t.a < 16) (hb : 0 ≤ t.b ∧ t.b < 16) : Calls Try.prog 88 #[.agg (knownCells k).toArray, .agg #[.int .i64 t.kind, .int .i64 t.op, .int .i64 t.a, .int .i64 t.b, .int .i64 t.to, .int .i64 t.els, .int .i64 t.ins.op, .int .i64 t.ins.a, .int .i64 t.ins.b, .int .i64 t.ins.c, .int .i64 t.ins.imm]] w fun e w' => e = .returned (.tuple #[.bool (takenK k t).1, .bool (takenK k t).2]) ∧ Below w.heap.size w w' := by
  obtain ⟨W, hW, bW, zW, r0, r1⟩ := two_rows w (knownCells k).toArray #[.int .i64 t.kind, .int .i64 t.op, .int .i64 t.a, .int .i64 t.b, .int .i64 t.to, .int .i64 t.els, .int .i64 t.ins.op, .int .i64 t.ins.a, .int .i64 t.ins.b, .int .i64 t.ins.c, .int .i64 t.ins.imm] 77 37
  replace r1 : Row W (w.heap.size + 1) 37 (finCells t) := r1
  have HW := Lib.hid hW
  clear hW zW
  obtain ⟨na, hna⟩ := Int.eq_ofNat_of_zero_le ha.1
  obtain ⟨nb, hnb⟩ := Int.eq_ofNat_of_zero_le hb.1
  have ha16 : na < 16 := by omega
  have hb16 : nb < 16 := by omega
  have haI : (na : Int) < 16 := by omega
  have hbI : (nb : Int) < 16 := by omega
  have hta : t.a.toNat = na := by omega
  have htb : t.b.toNat = nb := by omega
  have htk : takenK k t = if (!k.reached || (!k.isAt na || !k.isAt nb)) = true then (false, false) else (aluTaken t.op (k.wAt na) (k.wAt nb), true) := by unfold takenK; rw [hta, htb]
  have x0 := r0.cell (knownCells_re k)
  have xa := r0.kis hk ha16
  have xb := r0.kis hk hb16
  have ya := r0.kw hk ha16
  have yb := r0.kw hk hb16
  have x1 := r1.cell (j := 1) rfl
  have x2 := r1.cell (j := 2) rfl
  have x3 := r1.cell (j := 3) rfl
  rw [hna] at x2
  rw [hnb] at x3
  clear hta htb hna hnb ha hb
  cases hre : k.reached with
  | false =>
    have he : takenK k t = (false, false) := by rw [htk, hre]; rfl
    have HE := Lib.hid he
    rw [hre] at x0
    clear he hre htk
    go_enter Try.func88, Try.ntmps88
    go_upto_region 1 with fail
    rw [← HW.out]
    clear HW
    go_wp2_with fail
    go_ret2
    exact ⟨by rw [HE.out]; rfl, bW⟩
  | true =>
    rw [hre] at x0 htk
    clear hre
    cases hia : k.isAt na with
    | false =>
      have he : takenK k t = (false, false) := by rw [htk, hia]; rfl
      have HE := Lib.hid he
      rw [hia] at xa
      clear he hia htk
      go_enter Try.func88, Try.ntmps88
      go_upto_region 1 with fail
      rw [← HW.out]
      clear HW
      go_wp2_with fail
      go_ret2
      exact ⟨by rw [HE.out]; rfl, bW⟩
    | true =>
      rw [hia] at xa htk
      clear hia
      cases hib : k.isAt nb with
      | false =>
        have he : takenK k t = (false, false) := by rw [htk, hib]; rfl
        have HE := Lib.hid he
        rw [hib] at xb
        clear he hib htk
        go_enter Try.func88, Try.ntmps88
        go_upto_region 1 with fail
        rw [← HW.out]
        clear HW
        go_wp2_with fail
        go_ret2
        exact ⟨by rw [HE.out]; rfl, bW⟩
      | true =>
        have he : takenK k t = (aluTaken t.op (k.wAt na) (k.wAt nb), true) := by rw [htk, hib]; rfl
        have HE := Lib.hid he
        rw [hib] at xb
        clear he hib htk
        go_enter Try.func88, Try.ntmps88
        go_upto_region 1 with fail
        rw [← HW.out]
        clear HW
        go_wp2_with fail
        go_quiet ((go_at_call 110; exact Calls.quiet_of_same (aluTaken_calls _ _ _ _)))
        go_wp2_with fail
        go_ret2
        exact ⟨by rw [HE.out]; rfl, Below.drewN bW _⟩

set_option maxHeartbeats 4000000 in
set_option maxRecDepth 100000 in
theorem ways_calls (k : Known) (t : Term) (n f : Int) (w : World) (hk : k.wf) (ht : t.right n f = true) : Calls Try.prog 59 #[.agg (knownCells k).toArray, .agg #[.int .i64 t.kind, .int .i64 t.op, .int .i64 t.a, .int .i64 t.b, .int .i64 t.to, .int .i64 t.els, .int .i64 t.ins.op, .int .i64 t.ins.a, .int .i64 t.ins.b, .int .i64 t.ins.c, .int .i64 t.ins.imm]] w (WaysOut w (waysK k t)) := by
  obtain ⟨W, hW, bW, zW, r0, r1⟩ := two_rows w (knownCells k).toArray #[.int .i64 t.kind, .int .i64 t.op, .int .i64 t.a, .int .i64 t.b, .int .i64 t.to, .int .i64 t.els, .int .i64 t.ins.op, .int .i64 t.ins.a, .int .i64 t.ins.b, .int .i64 t.ins.c, .int .i64 t.ins.imm] 77 37
  replace r1 : Row W (w.heap.size + 1) 37 (finCells t) := r1
  have HW := Lib.hid hW
  clear hW zW
  have x0 := r1.cell (j := 0) rfl
  have x4 := r1.cell (j := 4) rfl
  have x5 := r1.cell (j := 5) rfl
  have HT := Lib.hid ht
  clear ht
  by_cases h1 : t.kind = 1
  · have he : waysK k t = [t.to] := by unfold waysK; rw [if_pos h1]
    have HE := Lib.hid he
    have z1 : (t.kind == 1) = true := by simp [h1]
    clear he h1
    go_enter Try.func59, Try.ntmps59
    go_upto_region 1 with fail
    rw [← HW.out]
    clear HW
    go_wp2_with fail
    go_ret
    rw [HE.out]
    exact WaysOut.one _ _ bW
  · have z1 : (t.kind == 1) = false := by simp [h1]
    by_cases h2 : t.kind = 2
    · have z2 : (t.kind == 2) = true := by simp [h2]
      obtain ⟨-, -, -, ha, hb⟩ := Term.right_branch HT.out h2
      have HA := Lib.hid ha
      have HB := Lib.hid hb
      have he : waysK k t = (if (takenK k t).2 = false then [t.to, t.els] else if (takenK k t).1 = true then [t.to] else [t.els]) := by unfold waysK; rw [if_neg h1, if_pos h2]
      clear h1 h2 ha hb
      generalize htk : takenK k t = p at *
      obtain ⟨p1, p2⟩ := p
      have HTK := Lib.hid htk
      clear htk
      cases p2 with
      | false =>
        have he2 : waysK k t = [t.to, t.els] := he
        have HE := Lib.hid he2
        clear he he2
        go_enter Try.func59, Try.ntmps59
        go_upto_region 1 with fail
        rw [← HW.out]
        clear HW
        go_wp2_with (first | (refine wpList_load_known _ k _ hk r0 rfl rfl rfl ?_) | (refine wpList_load_row rfl _ _ rfl (w.heap.size + 1) rfl 37 _ (0, 0) _ r1 Try.underlying37 rfl (by kernel_rfl) ?_))
        refine (taken_calls k t _ hk HA.out HB.out).mono ?_
        rw [HTK.out]
        rintro e w3 ⟨rfl, hb3⟩
        have q1 := r1.below hb3
        have t3 := bW.trans (hb3.mono bW.size)
        clear x0 x4 x5
        have x0 := q1.cell (j := 0) rfl
        have x4 := q1.cell (j := 4) rfl
        have x5 := q1.cell (j := 5) rfl
        go_wp2_with fail
        go_ret
        rw [HE.out]
        exact WaysOut.two _ _ _ t3
      | true =>
        cases p1 with
        | true =>
          have he2 : waysK k t = [t.to] := he
          have HE := Lib.hid he2
          clear he he2
          go_enter Try.func59, Try.ntmps59
          go_upto_region 1 with fail
          rw [← HW.out]
          clear HW
          go_wp2_with (first | (refine wpList_load_known _ k _ hk r0 rfl rfl rfl ?_) | (refine wpList_load_row rfl _ _ rfl (w.heap.size + 1) rfl 37 _ (0, 0) _ r1 Try.underlying37 rfl (by kernel_rfl) ?_))
          refine (taken_calls k t _ hk HA.out HB.out).mono ?_
          rw [HTK.out]
          rintro e w3 ⟨rfl, hb3⟩
          have q1 := r1.below hb3
          have t3 := bW.trans (hb3.mono bW.size)
          clear x0 x4 x5
          have x0 := q1.cell (j := 0) rfl
          have x4 := q1.cell (j := 4) rfl
          have x5 := q1.cell (j := 5) rfl
          go_wp2_with fail
          go_ret
          rw [HE.out]
          exact WaysOut.one _ _ t3
        | false =>
          have he2 : waysK k t = [t.els] := he
          have HE := Lib.hid he2
          clear he he2
          go_enter Try.func59, Try.ntmps59
          go_upto_region 1 with fail
          rw [← HW.out]
          clear HW
          go_wp2_with (first | (refine wpList_load_known _ k _ hk r0 rfl rfl rfl ?_) | (refine wpList_load_row rfl _ _ rfl (w.heap.size + 1) rfl 37 _ (0, 0) _ r1 Try.underlying37 rfl (by kernel_rfl) ?_))
          refine (taken_calls k t _ hk HA.out HB.out).mono ?_
          rw [HTK.out]
          rintro e w3 ⟨rfl, hb3⟩
          have q1 := r1.below hb3
          have t3 := bW.trans (hb3.mono bW.size)
          clear x0 x4 x5
          have x0 := q1.cell (j := 0) rfl
          have x4 := q1.cell (j := 4) rfl
          have x5 := q1.cell (j := 5) rfl
          go_wp2_with fail
          go_ret
          rw [HE.out]
          exact WaysOut.one _ _ t3
    · have z2 : (t.kind == 2) = false := by simp [h2]
      have he : waysK k t = [] := by unfold waysK; rw [if_neg h1, if_neg h2]
      have HE := Lib.hid he
      clear he h1 h2
      go_enter Try.func59, Try.ntmps59
      go_upto_region 1 with fail
      rw [← HW.out]
      clear HW
      go_wp2_with fail
      go_ret
      rw [HE.out]
      exact WaysOut.nil _ _ bW
end Go.Proofs.Ytokkngfgppikkab
