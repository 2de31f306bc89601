/- Folding one instruction and a block's end. Printed by genVb.py of this repository. -/
import Derived.Test.YtokkngfgppikkabVa
namespace Go.Proofs.Ytokkngfgppikkab
set_option linter.unusedVariables false
set_option linter.unusedSimpArgs false
open Go.RowKit

theorem foldOp_k {o : Op} {k : Known} (h : ¬ fkind o.ins.op = 0) : foldOp o k = o := by unfold foldOp; rw [if_pos (.inl h)]
theorem foldOp_w {o : Op} {k : Known} (h : writes o.ins.op o.ins.a < 0) : foldOp o k = o := by unfold foldOp; rw [if_pos (.inr (.inl h))]
theorem foldOp_i {o : Op} {k : Known} {n : Nat} (hn : writes o.ins.op o.ins.a = n) (h : k.isAt n = false) : foldOp o k = o := by unfold foldOp; rw [if_pos (.inr (.inr (by rw [hn]; exact h)))]
theorem foldOp_go {o : Op} {k : Known} {n : Nat} (h1 : fkind o.ins.op = 0) (hn : writes o.ins.op o.ins.a = n) (h : k.isAt n = true) :
    foldOp o k = if -32768 ≤ wrap32 (k.wAt n : Int) ∧ wrap32 (k.wAt n : Int) ≤ 32767 then ⟨⟨8, n, 0, 0, wrap32 (k.wAt n : Int)⟩, false, 0, 0, 0⟩ else if k.wAt n % 65536 = 0 then ⟨⟨9, n, 0, 0, ((k.wAt n / 65536 : Nat) : Int)⟩, false, 0, 0, 0⟩ else o := by
  unfold foldOp
  rw [hn]
  rw [if_neg (fun hh => by rcases hh with hh | hh | hh; exact hh h1; omega; rw [show ((n : Int)).toNat = n from rfl, h] at hh; cases hh)]
  rfl
section
variable {ops : Array Oper} {rest : List Oper} {o : Oper} {a : Act} {w : World} {Q : Exit → Act → World → Prop} {g : Nat}
theorem wpList_put_op (x y : Operand) (p : Op) {old : Op} (hR : Row w g 56 (opCells old)) (hgd : o.guard = none) (ho : o.op = .store 56 x y) (hx : a.eval x = .pointer (some ⟨g, 0, none⟩)) (hy : a.eval y = .agg (opCells p).toArray)
    (h : ∀ w', Row w' g 56 (opCells p) → w.grownBy w' (some g) → w'.heap.size = w.heap.size → wpList Try.prog ops Q rest (a.put o.dst undef) w') : wpList Try.prog ops Q (o :: rest) a w :=
  wpList_put_row hgd _ x y ho g _ hx hy hR (by kernel_rfl) rfl (opCells_one p) h
theorem results_op {fn : Func} {p : Tmp} (h : fn.results = #[.cell p 56]) (tmps : Array Value) (w : World) (g : Nat) (x : Op) (hp : tmps.getD p undef = .pointer (some ⟨g, 0, none⟩)) (hR : Row w g 56 (opCells x)) : (results fn tmps).run Try.prog w = .ok (.agg (opCells x).toArray) w :=
  results_cell_row h tmps w g 56 _ (0, 0) _ hp hR Try.underlying56 rfl (by kernel_rfl)
theorem wpList_put_term (x y : Operand) (p : Term) {old : Term} (hR : Row w g 37 (finCells old)) (hgd : o.guard = none) (ho : o.op = .store 37 x y) (hx : a.eval x = .pointer (some ⟨g, 0, none⟩)) (hy : a.eval y = .agg (finCells p).toArray)
    (h : ∀ w', Row w' g 37 (finCells p) → w.grownBy w' (some g) → w'.heap.size = w.heap.size → wpList Try.prog ops Q rest (a.put o.dst undef) w') : wpList Try.prog ops Q (o :: rest) a w :=
  wpList_put_row hgd _ x y ho g _ hx hy hR (by kernel_rfl) rfl (finCells_one p) h
theorem results_term {fn : Func} {p : Tmp} (h : fn.results = #[.cell p 37]) (tmps : Array Value) (w : World) (g : Nat) (x : Term) (hp : tmps.getD p undef = .pointer (some ⟨g, 0, none⟩)) (hR : Row w g 37 (finCells x)) : (results fn tmps).run Try.prog w = .ok (.agg (finCells x).toArray) w :=
  results_cell_row h tmps w g 37 _ (0, 0) _ hp hR Try.underlying37 rfl (by kernel_rfl)
end

set_option maxHeartbeats 4000000 in
set_option maxRecDepth 100000 in
theorem foldop_calls (o : Op) (k : Known) (w : World) (hk : k.wf) (hr : o.ins.right = true) : Calls Try.prog 61 #[.agg #[.int .i64 o.ins.op, .int .i64 o.ins.a, .int .i64 o.ins.b, .int .i64 o.ins.c, .int .i64 o.ins.imm, .bool o.rel, .int .i64 o.kind, .int .i64 o.to, .int .i64 o.add], .agg (knownCells k).toArray] w fun e w' => e = .returned (.agg (opCells (foldOp o k)).toArray) ∧ Below w.heap.size w w' := by
  obtain ⟨W, hW, bW, zW, r0, r1, r2⟩ := three_rows w #[.int .i64 o.ins.op, .int .i64 o.ins.a, .int .i64 o.ins.b, .int .i64 o.ins.c, .int .i64 o.ins.imm, .bool o.rel, .int .i64 o.kind, .int .i64 o.to, .int .i64 o.add] (knownCells k).toArray #[.int .i64 0, .int .i64 0, .int .i64 0, .int .i64 0, .int .i64 0, .bool false, .int .i64 0, .int .i64 0, .int .i64 0] 56 77 56
  replace r0 : Row W w.heap.size 56 (opCells o) := r0
  replace r1 : Row W (w.heap.size + 1) 77 (knownCells k) := r1
  replace r2 : Row W (w.heap.size + 1 + 1) 56 (opCells Op.zero) := r2
  have HW := Lib.hid hW
  have HRI := Lib.hid hr
  have zlt := r2.lt
  clear hW zW hr
  obtain ⟨y0, y1, y2, y3, y4, y5, y6, y7, y8⟩ := r0.op
  go_enter Try.func61, Try.ntmps61
  go_upto_region 1 with fail
  rw [← HW.out]
  clear HW
  have b2 : Below w.heap.size w W := bW
  clear bW
  go_wp2_with fail
  refine (flowWrites_calls _ _ _ _ _ _).mono ?_
  rintro e w1 ⟨rfl, hb1⟩
  replace r0 := r0.below hb1
  replace r1 := r1.below hb1
  replace r2 := r2.below hb1
  replace b2 := b2.trans (hb1.mono b2.size)
  replace zlt := r2.lt
  clear hb1 y0 y1 y2 y3 y4 y5 y6 y7 y8
  obtain ⟨y0, y1, y2, y3, y4, y5, y6, y7, y8⟩ := r0.op
  go_upto_region 2 with fail
  by_cases hk0 : fkind o.ins.op = 0
  · have z0 : (fkind o.ins.op != 0) = false := by simp [hk0]
    by_cases hn : writes o.ins.op o.ins.a < 0
    · have zn : decide (writes o.ins.op o.ins.a < 0) = true := by simp [hn]
      have he : foldOp o k = o := foldOp_w hn
      have HE := Lib.hid he
      clear he
      clear hn hk0
      go_wp2_with fail
      refine (flowKind_calls _ _ _ _ _ _).mono ?_
      rintro e w2 ⟨rfl, hb2⟩
      replace r0 := r0.below hb2
      replace r1 := r1.below hb2
      replace r2 := r2.below hb2
      replace b2 := b2.trans (hb2.mono b2.size)
      replace zlt := r2.lt
      clear hb2 y0 y1 y2 y3 y4 y5 y6 y7 y8
      obtain ⟨y0, y1, y2, y3, y4, y5, y6, y7, y8⟩ := r0.op
      go_wp2_with (refine wpList_put_op _ _ (o) r2 rfl rfl rfl rfl ?_; intro w9 r9 g9 s9)
      have t9 := b2.grown g9 b2.size (fun j hj => by injection hj with hj; subst hj; omega)
      rw [← HE.out] at r9
      exact bodyPost_ret (results_op rfl _ _ _ _ rfl r9) rfl ⟨rfl, t9⟩
    · have zn : decide (writes o.ins.op o.ins.a < 0) = false := by simp; omega
      have hw15 := writes_le HRI.out
      obtain ⟨-, hwp, -⟩ := writes_pos hn
      have hwa := (writes_pos hn).1
      obtain ⟨n, hnn⟩ := Int.eq_ofNat_of_zero_le (show 0 ≤ writes o.ins.op o.ins.a by omega)
      have hn16 : n < 16 := by omega
      have hnI : (n : Int) < 16 := by omega
      have hn1 : 1 ≤ n := by omega
      have HN := Lib.hid hnn
      clear hn hw15 hwp hwa
      rw [hnn] at zn ⊢
      clear hnn
      cases hia : k.isAt n with
      | false =>
        have he : foldOp o k = o := foldOp_i HN.out hia
        have HE := Lib.hid he
        clear he
        go_wp2_with fail
        refine (flowKind_calls _ _ _ _ _ _).mono ?_
        rintro e w2 ⟨rfl, hb2⟩
        replace r0 := r0.below hb2
        replace r1 := r1.below hb2
        replace r2 := r2.below hb2
        replace b2 := b2.trans (hb2.mono b2.size)
        replace zlt := r2.lt
        clear hb2 y0 y1 y2 y3 y4 y5 y6 y7 y8
        obtain ⟨y0, y1, y2, y3, y4, y5, y6, y7, y8⟩ := r0.op
        have x1 := r1.kis hk hn16
        rw [hia] at x1
        clear hia hk0
        go_wp2_with (refine wpList_put_op _ _ (o) r2 rfl rfl rfl rfl ?_; intro w9 r9 g9 s9)
        have t9 := b2.grown g9 b2.size (fun j hj => by injection hj with hj; subst hj; omega)
        rw [← HE.out] at r9
        exact bodyPost_ret (results_op rfl _ _ _ _ rfl r9) rfl ⟨rfl, t9⟩
      | true =>
        have he := foldOp_go hk0 HN.out hia
        have HF := Lib.hid he
        clear he
        go_wp2_with fail
        refine (flowKind_calls _ _ _ _ _ _).mono ?_
        rintro e w2 ⟨rfl, hb2⟩
        replace r0 := r0.below hb2
        replace r1 := r1.below hb2
        replace r2 := r2.below hb2
        replace b2 := b2.trans (hb2.mono b2.size)
        replace zlt := r2.lt
        clear hb2 y0 y1 y2 y3 y4 y5 y6 y7 y8
        obtain ⟨y0, y1, y2, y3, y4, y5, y6, y7, y8⟩ := r0.op
        have x1 := r1.kis hk hn16
        have x2 := r1.kw hk hn16
        rw [hia] at x1
        clear hia hk0
        have hwlt := Known.w_lt hk n
        generalize k.wAt n = x at *
        go_upto_region 4 with fail
        go_wp2_with fail
        refine (const_calls (n : Int) x _ (by omega) hwlt).mono ?_
        rintro e w3 ⟨hb3, hc⟩
        replace r0 := r0.below hb3
        replace r2 := r2.below hb3
        replace b2 := b2.trans (hb3.mono b2.size)
        replace zlt := r2.lt
        clear hb3 y0 y1 y2 y3 y4 y5 y6 y7 y8 x1 x2 r1
        obtain ⟨y0, y1, y2, y3, y4, y5, y6, y7, y8⟩ := r0.op
        by_cases hf : -32768 ≤ wrap32 (x : Int) ∧ wrap32 (x : Int) ≤ 32767
        · rw [if_pos hf] at hc
          obtain ⟨g, rfl, hg⟩ := hc
          have HE := Lib.hid (HF.out.trans (if_pos hf))
          clear HF hf
          have c0 := hg.cell (j := 0) rfl
          have c1 := hg.cell (j := 1) rfl
          have c2 := hg.cell (j := 2) rfl
          have c3 := hg.cell (j := 3) rfl
          have c4 := hg.cell (j := 4) rfl
          generalize wrap32 (x : Int) = s at *
          go_wp2_with (refine wpList_put_op _ _ (⟨⟨8, n, 0, 0, s⟩, false, 0, 0, 0⟩) r2 rfl rfl rfl rfl ?_; intro w9 r9 g9 s9)
          have t9 := b2.grown g9 b2.size (fun j hj => by injection hj with hj; subst hj; omega)
          rw [← HE.out] at r9
          exact bodyPost_ret (results_op rfl _ _ _ _ rfl r9) rfl ⟨rfl, t9⟩
        · rw [if_neg hf] at hc
          have hF2 := HF.out.trans (if_neg hf)
          clear HF hf
          by_cases hm : x % 65536 = 0
          · rw [if_pos hm] at hc
            obtain ⟨g, rfl, hg⟩ := hc
            have HE := Lib.hid (hF2.trans (if_pos hm))
            clear hF2 hm
            have c0 := hg.cell (j := 0) rfl
            have c1 := hg.cell (j := 1) rfl
            have c2 := hg.cell (j := 2) rfl
            have c3 := hg.cell (j := 3) rfl
            have c4 := hg.cell (j := 4) rfl
            generalize x / 65536 = s at *
            go_wp2_with (refine wpList_put_op _ _ (⟨⟨9, n, 0, 0, (s : Int)⟩, false, 0, 0, 0⟩) r2 rfl rfl rfl rfl ?_; intro w9 r9 g9 s9)
            have t9 := b2.grown g9 b2.size (fun j hj => by injection hj with hj; subst hj; omega)
            rw [← HE.out] at r9
            exact bodyPost_ret (results_op rfl _ _ _ _ rfl r9) rfl ⟨rfl, t9⟩
          · rw [if_neg hm] at hc
            obtain ⟨A, c, rfl⟩ := hc
            have HE := Lib.hid (hF2.trans (if_neg hm))
            clear hF2 hm
            go_wp2_with (refine wpList_put_op _ _ (o) r2 rfl rfl rfl rfl ?_; intro w9 r9 g9 s9)
            have t9 := b2.grown g9 b2.size (fun j hj => by injection hj with hj; subst hj; omega)
            rw [← HE.out] at r9
            exact bodyPost_ret (results_op rfl _ _ _ _ rfl r9) rfl ⟨rfl, t9⟩
  · have z0 : (fkind o.ins.op != 0) = true := by simp [hk0]
    have he : foldOp o k = o := foldOp_k hk0
    have HE := Lib.hid he
    clear he
    clear hk0
    go_wp2_with fail
    refine (flowKind_calls _ _ _ _ _ _).mono ?_
    rintro e w2 ⟨rfl, hb2⟩
    replace r0 := r0.below hb2
    replace r1 := r1.below hb2
    replace r2 := r2.below hb2
    replace b2 := b2.trans (hb2.mono b2.size)
    replace zlt := r2.lt
    clear hb2 y0 y1 y2 y3 y4 y5 y6 y7 y8
    obtain ⟨y0, y1, y2, y3, y4, y5, y6, y7, y8⟩ := r0.op
    go_wp2_with (refine wpList_put_op _ _ (o) r2 rfl rfl rfl rfl ?_; intro w9 r9 g9 s9)
    have t9 := b2.grown g9 b2.size (fun j hj => by injection hj with hj; subst hj; omega)
    rw [← HE.out] at r9
    exact bodyPost_ret (results_op rfl _ _ _ _ rfl r9) rfl ⟨rfl, t9⟩

set_option maxHeartbeats 4000000 in
set_option maxRecDepth 100000 in
theorem refop_calls (o : Op) (k : Known) (w : World) (hk : k.wf) (hr : o.ins.right = true) : Calls Try.prog 41 #[.agg #[.int .i64 o.ins.op, .int .i64 o.ins.a, .int .i64 o.ins.b, .int .i64 o.ins.c, .int .i64 o.ins.imm, .bool o.rel, .int .i64 o.kind, .int .i64 o.to, .int .i64 o.add], .agg (knownCells k).toArray] w fun e w' => e = .returned (.agg (opCells (foldOp o k)).toArray) ∧ Below w.heap.size w w' := by
  have hop := Ins.right_op hr
  have hk2 := (fkind_kindOf hop.1 hop.2).symm
  have HK2 := Lib.hid hk2
  have hwr : refWrites o.ins.op o.ins.a = writes o.ins.op o.ins.a := (writes_eq (Ins.right_eta hr)).symm
  have HWR := Lib.hid hwr
  clear hk2 hwr
  obtain ⟨W, hW, bW, zW, r0, r1, r2⟩ := three_rows w #[.int .i64 o.ins.op, .int .i64 o.ins.a, .int .i64 o.ins.b, .int .i64 o.ins.c, .int .i64 o.ins.imm, .bool o.rel, .int .i64 o.kind, .int .i64 o.to, .int .i64 o.add] (knownCells k).toArray #[.int .i64 0, .int .i64 0, .int .i64 0, .int .i64 0, .int .i64 0, .bool false, .int .i64 0, .int .i64 0, .int .i64 0] 56 77 56
  replace r0 : Row W w.heap.size 56 (opCells o) := r0
  replace r1 : Row W (w.heap.size + 1) 77 (knownCells k) := r1
  replace r2 : Row W (w.heap.size + 1 + 1) 56 (opCells Op.zero) := r2
  have HW := Lib.hid hW
  have HRI := Lib.hid hr
  have zlt := r2.lt
  clear hW zW hr
  obtain ⟨y0, y1, y2, y3, y4, y5, y6, y7, y8⟩ := r0.op
  go_enter Try.func41, Try.ntmps41
  go_upto_region 1 with fail
  rw [← HW.out]
  clear HW
  have b2 : Below w.heap.size w W := bW
  clear bW
  go_wp2_with fail
  refine (refWrites_calls _ _ _ _ _ _).mono ?_
  rw [HWR.out]
  rintro e w1 ⟨rfl, hb1⟩
  replace r0 := r0.below hb1
  replace r1 := r1.below hb1
  replace r2 := r2.below hb1
  replace b2 := b2.trans (hb1.mono b2.size)
  replace zlt := r2.lt
  clear hb1 y0 y1 y2 y3 y4 y5 y6 y7 y8
  obtain ⟨y0, y1, y2, y3, y4, y5, y6, y7, y8⟩ := r0.op
  go_upto_region 2 with fail
  by_cases hk0 : fkind o.ins.op = 0
  · have z0 : (fkind o.ins.op != 0) = false := by simp [hk0]
    by_cases hn : writes o.ins.op o.ins.a < 0
    · have zn : decide (writes o.ins.op o.ins.a < 0) = true := by simp [hn]
      have he : foldOp o k = o := foldOp_w hn
      have HE := Lib.hid he
      clear he
      clear hn hk0
      go_wp2_with fail
      refine (kind_calls _ _ _ _ _ _ hop.1 hop.2).mono ?_
      rw [HK2.out]
      rintro e w2 ⟨rfl, hb2⟩
      replace r0 := r0.below hb2
      replace r1 := r1.below hb2
      replace r2 := r2.below hb2
      replace b2 := b2.trans (hb2.mono b2.size)
      replace zlt := r2.lt
      clear hb2 y0 y1 y2 y3 y4 y5 y6 y7 y8
      obtain ⟨y0, y1, y2, y3, y4, y5, y6, y7, y8⟩ := r0.op
      go_wp2_with (refine wpList_put_op _ _ (o) r2 rfl rfl rfl rfl ?_; intro w9 r9 g9 s9)
      have t9 := b2.grown g9 b2.size (fun j hj => by injection hj with hj; subst hj; omega)
      rw [← HE.out] at r9
      exact bodyPost_ret (results_op rfl _ _ _ _ rfl r9) rfl ⟨rfl, t9⟩
    · have zn : decide (writes o.ins.op o.ins.a < 0) = false := by simp; omega
      have hw15 := writes_le HRI.out
      obtain ⟨-, hwp, -⟩ := writes_pos hn
      have hwa := (writes_pos hn).1
      obtain ⟨n, hnn⟩ := Int.eq_ofNat_of_zero_le (show 0 ≤ writes o.ins.op o.ins.a by omega)
      have hn16 : n < 16 := by omega
      have hnI : (n : Int) < 16 := by omega
      have hn1 : 1 ≤ n := by omega
      have HN := Lib.hid hnn
      clear hn hw15 hwp hwa
      rw [hnn] at zn ⊢
      clear hnn
      cases hia : k.isAt n with
      | false =>
        have he : foldOp o k = o := foldOp_i HN.out hia
        have HE := Lib.hid he
        clear he
        go_wp2_with fail
        refine (kind_calls _ _ _ _ _ _ hop.1 hop.2).mono ?_
        rw [HK2.out]
        rintro e w2 ⟨rfl, hb2⟩
        replace r0 := r0.below hb2
        replace r1 := r1.below hb2
        replace r2 := r2.below hb2
        replace b2 := b2.trans (hb2.mono b2.size)
        replace zlt := r2.lt
        clear hb2 y0 y1 y2 y3 y4 y5 y6 y7 y8
        obtain ⟨y0, y1, y2, y3, y4, y5, y6, y7, y8⟩ := r0.op
        have x1 := r1.kis hk hn16
        rw [hia] at x1
        clear hia hk0
        go_wp2_with (refine wpList_put_op _ _ (o) r2 rfl rfl rfl rfl ?_; intro w9 r9 g9 s9)
        have t9 := b2.grown g9 b2.size (fun j hj => by injection hj with hj; subst hj; omega)
        rw [← HE.out] at r9
        exact bodyPost_ret (results_op rfl _ _ _ _ rfl r9) rfl ⟨rfl, t9⟩
      | true =>
        have he := foldOp_go hk0 HN.out hia
        have HF := Lib.hid he
        clear he
        go_wp2_with fail
        refine (kind_calls _ _ _ _ _ _ hop.1 hop.2).mono ?_
        rw [HK2.out]
        rintro e w2 ⟨rfl, hb2⟩
        replace r0 := r0.below hb2
        replace r1 := r1.below hb2
        replace r2 := r2.below hb2
        replace b2 := b2.trans (hb2.mono b2.size)
        replace zlt := r2.lt
        clear hb2 y0 y1 y2 y3 y4 y5 y6 y7 y8
        obtain ⟨y0, y1, y2, y3, y4, y5, y6, y7, y8⟩ := r0.op
        have x1 := r1.kis hk hn16
        have x2 := r1.kw hk hn16
        rw [hia] at x1
        clear hia hk0
        have hwlt := Known.w_lt hk n
        generalize k.wAt n = x at *
        go_upto_region 4 with fail
        go_wp2_with fail
        refine (sign_calls x hwlt _).mono ?_
        rintro e w3 ⟨rfl, rfl⟩
        by_cases hf : -32768 ≤ wrap32 (x : Int) ∧ wrap32 (x : Int) ≤ 32767
        · have HE := Lib.hid (HF.out.trans (if_pos hf))
          obtain ⟨hf1, hf2⟩ := hf
          have d1 : decide (-32768 ≤ wrap32 (x : Int)) = true := by simpa using hf1
          have d2 : decide (wrap32 (x : Int) ≤ 32767) = true := by simpa using hf2
          clear HF hf1 hf2
          generalize wrap32 (x : Int) = s at *
          go_wp2_with (refine wpList_put_op _ _ (⟨⟨8, n, 0, 0, s⟩, false, 0, 0, 0⟩) r2 rfl rfl rfl rfl ?_; intro w9 r9 g9 s9)
          have t9 := b2.grown g9 b2.size (fun j hj => by injection hj with hj; subst hj; omega)
          rw [← HE.out] at r9
          exact bodyPost_ret (results_op rfl _ _ _ _ rfl r9) rfl ⟨rfl, t9⟩
        · by_cases hf1 : -32768 ≤ wrap32 (x : Int)
          · have hF2 := HF.out.trans (if_neg hf)
            have d1 : decide (-32768 ≤ wrap32 (x : Int)) = true := by simpa using hf1
            have d2 : decide (wrap32 (x : Int) ≤ 32767) = false := by simp; omega
            clear hf1
            clear HF hf
            generalize wrap32 (x : Int) = s at *
            by_cases hm : x % 65536 = 0
            · have HE := Lib.hid (hF2.trans (if_pos hm))
              have e1 : ((x : Int) % 65536 == 0) = true := by rw [beq_iff_eq]; omega
              clear hF2 hm
              go_wp2_with (refine wpList_put_op _ _ (⟨⟨9, n, 0, 0, ((x / 65536 : Nat) : Int)⟩, false, 0, 0, 0⟩) r2 rfl rfl rfl rfl ?_; intro w9 r9 g9 s9)
              have t9 := b2.grown g9 b2.size (fun j hj => by injection hj with hj; subst hj; omega)
              rw [← HE.out] at r9
              exact bodyPost_ret (results_op rfl _ _ _ _ rfl r9) rfl ⟨rfl, t9⟩
            · have HE := Lib.hid (hF2.trans (if_neg hm))
              have e1 : ((x : Int) % 65536 == 0) = false := by rw [beq_eq_false_iff_ne]; omega
              clear hF2 hm
              go_wp2_with (refine wpList_put_op _ _ (o) r2 rfl rfl rfl rfl ?_; intro w9 r9 g9 s9)
              have t9 := b2.grown g9 b2.size (fun j hj => by injection hj with hj; subst hj; omega)
              rw [← HE.out] at r9
              exact bodyPost_ret (results_op rfl _ _ _ _ rfl r9) rfl ⟨rfl, t9⟩
          · have hF2 := HF.out.trans (if_neg hf)
            have d1 : decide (-32768 ≤ wrap32 (x : Int)) = false := by simpa using hf1
            clear hf1
            clear HF hf
            generalize wrap32 (x : Int) = s at *
            by_cases hm : x % 65536 = 0
            · have HE := Lib.hid (hF2.trans (if_pos hm))
              have e1 : ((x : Int) % 65536 == 0) = true := by rw [beq_iff_eq]; omega
              clear hF2 hm
              go_wp2_with (refine wpList_put_op _ _ (⟨⟨9, n, 0, 0, ((x / 65536 : Nat) : Int)⟩, false, 0, 0, 0⟩) r2 rfl rfl rfl rfl ?_; intro w9 r9 g9 s9)
              have t9 := b2.grown g9 b2.size (fun j hj => by injection hj with hj; subst hj; omega)
              rw [← HE.out] at r9
              exact bodyPost_ret (results_op rfl _ _ _ _ rfl r9) rfl ⟨rfl, t9⟩
            · have HE := Lib.hid (hF2.trans (if_neg hm))
              have e1 : ((x : Int) % 65536 == 0) = false := by rw [beq_eq_false_iff_ne]; omega
              clear hF2 hm
              go_wp2_with (refine wpList_put_op _ _ (o) r2 rfl rfl rfl rfl ?_; intro w9 r9 g9 s9)
              have t9 := b2.grown g9 b2.size (fun j hj => by injection hj with hj; subst hj; omega)
              rw [← HE.out] at r9
              exact bodyPost_ret (results_op rfl _ _ _ _ rfl r9) rfl ⟨rfl, t9⟩
  · have z0 : (fkind o.ins.op != 0) = true := by simp [hk0]
    have he : foldOp o k = o := foldOp_k hk0
    have HE := Lib.hid he
    clear he
    clear hk0
    go_wp2_with fail
    refine (kind_calls _ _ _ _ _ _ hop.1 hop.2).mono ?_
    rw [HK2.out]
    rintro e w2 ⟨rfl, hb2⟩
    replace r0 := r0.below hb2
    replace r1 := r1.below hb2
    replace r2 := r2.below hb2
    replace b2 := b2.trans (hb2.mono b2.size)
    replace zlt := r2.lt
    clear hb2 y0 y1 y2 y3 y4 y5 y6 y7 y8
    obtain ⟨y0, y1, y2, y3, y4, y5, y6, y7, y8⟩ := r0.op
    go_wp2_with (refine wpList_put_op _ _ (o) r2 rfl rfl rfl rfl ?_; intro w9 r9 g9 s9)
    have t9 := b2.grown g9 b2.size (fun j hj => by injection hj with hj; subst hj; omega)
    rw [← HE.out] at r9
    exact bodyPost_ret (results_op rfl _ _ _ _ rfl r9) rfl ⟨rfl, t9⟩

set_option maxHeartbeats 4000000 in
set_option maxRecDepth 100000 in
theorem foldterm_calls (t : Term) (k : Known) (w : World) (hk : k.wf) (hab : t.kind = 2 → (0 ≤ t.a ∧ t.a < 16) ∧ 0 ≤ t.b ∧ t.b < 16) : Calls Try.prog 62 #[.agg #[.int .i64 t.kind, .int .i64 t.op, .int .i64 t.a, .int .i64 t.b, .int .i64 t.to, .int .i64 t.els, .int .i64 t.ins.op, .int .i64 t.ins.a, .int .i64 t.ins.b, .int .i64 t.ins.c, .int .i64 t.ins.imm], .agg (knownCells k).toArray] w fun e w' => e = .returned (.agg (finCells (foldTerm t k)).toArray) ∧ Below w.heap.size w w' := by
  obtain ⟨W, hW, bW, zW, r0, r1, r2⟩ := three_rows w #[.int .i64 t.kind, .int .i64 t.op, .int .i64 t.a, .int .i64 t.b, .int .i64 t.to, .int .i64 t.els, .int .i64 t.ins.op, .int .i64 t.ins.a, .int .i64 t.ins.b, .int .i64 t.ins.c, .int .i64 t.ins.imm] (knownCells k).toArray #[.int .i64 0, .int .i64 0, .int .i64 0, .int .i64 0, .int .i64 0, .int .i64 0, .int .i64 0, .int .i64 0, .int .i64 0, .int .i64 0, .int .i64 0] 37 77 37
  replace r0 : Row W w.heap.size 37 (finCells t) := r0
  replace r1 : Row W (w.heap.size + 1) 77 (knownCells k) := r1
  replace r2 : Row W (w.heap.size + 1 + 1) 37 (finCells Term.zero) := r2
  have HW := Lib.hid hW
  have b2 := bW
  have zlt := r2.lt
  clear hW zW bW
  have x0 := r0.cell (j := 0) rfl
  have x1 := r0.cell (j := 1) rfl
  have x2 := r0.cell (j := 2) rfl
  have x3 := r0.cell (j := 3) rfl
  have x4 := r0.cell (j := 4) rfl
  have x5 := r0.cell (j := 5) rfl
  have x6 := r0.cell (j := 6) rfl
  have x7 := r0.cell (j := 7) rfl
  have x8 := r0.cell (j := 8) rfl
  have x9 := r0.cell (j := 9) rfl
  have x10 := r0.cell (j := 10) rfl
  by_cases h2 : t.kind = 2
  · have z2 : (t.kind != 2) = false := by simp [h2]
    obtain ⟨ha, hb⟩ := hab h2
    have H2 := Lib.hid h2
    clear hab h2
    go_enter Try.func62, Try.ntmps62
    go_upto_region 1 with fail
    rw [← HW.out]
    clear HW
    go_wp2_with (refine wpList_load_known _ _ _ hk r1 rfl rfl rfl ?_)
    refine (taken_calls k t _ hk ha hb).mono ?_
    rintro e w1 ⟨rfl, hb1⟩
    replace r0 := r0.below hb1
    replace r1 := r1.below hb1
    replace r2 := r2.below hb1
    replace b2 := b2.trans (hb1.mono b2.size)
    replace zlt := r2.lt
    clear hb1 x0 x1 x2 x3 x4 x5 x6 x7 x8 x9 x10
    have x0 := r0.cell (j := 0) rfl
    have x1 := r0.cell (j := 1) rfl
    have x2 := r0.cell (j := 2) rfl
    have x3 := r0.cell (j := 3) rfl
    have x4 := r0.cell (j := 4) rfl
    have x5 := r0.cell (j := 5) rfl
    have x6 := r0.cell (j := 6) rfl
    have x7 := r0.cell (j := 7) rfl
    have x8 := r0.cell (j := 8) rfl
    have x9 := r0.cell (j := 9) rfl
    have x10 := r0.cell (j := 10) rfl
    cases ht2 : (takenK k t).2 with
    | false =>
      have he : foldTerm t k = t := by unfold foldTerm; rw [if_neg (fun h => by rw [ht2] at h; cases h.2)]
      have HE := Lib.hid he
      clear he ht2
      go_wp2_with (first | (refine wpList_load_known _ _ _ hk r1 rfl rfl rfl ?_) | (refine wpList_put_term _ _ (t) r2 rfl rfl rfl rfl ?_; intro w9 r9 g9 s9))
      have t9 := b2.grown g9 b2.size (fun j hj => by injection hj with hj; subst hj; omega)
      rw [← HE.out] at r9
      exact bodyPost_ret (results_term rfl _ _ _ _ rfl r9) rfl ⟨rfl, t9⟩
    | true =>
      cases ht1 : (takenK k t).1 with
      | true =>
        have he : foldTerm t k = jumpI t.«to» := by unfold foldTerm; rw [if_pos ⟨H2.out, ht2⟩, ht1]; rfl
        have HE := Lib.hid he
        clear he ht1 ht2
        go_wp2_with (first | (refine wpList_load_known _ _ _ hk r1 rfl rfl rfl ?_) | (refine wpList_put_term _ _ (jumpI t.«to») r2 rfl rfl rfl rfl ?_; intro w9 r9 g9 s9))
        have t9 := b2.grown g9 b2.size (fun j hj => by injection hj with hj; subst hj; omega)
        rw [← HE.out] at r9
        exact bodyPost_ret (results_term rfl _ _ _ _ rfl r9) rfl ⟨rfl, t9⟩
      | false =>
        have he : foldTerm t k = jumpI t.els := by unfold foldTerm; rw [if_pos ⟨H2.out, ht2⟩, ht1]; rfl
        have HE := Lib.hid he
        clear he ht1 ht2
        go_wp2_with (first | (refine wpList_load_known _ _ _ hk r1 rfl rfl rfl ?_) | (refine wpList_put_term _ _ (jumpI t.els) r2 rfl rfl rfl rfl ?_; intro w9 r9 g9 s9))
        have t9 := b2.grown g9 b2.size (fun j hj => by injection hj with hj; subst hj; omega)
        rw [← HE.out] at r9
        exact bodyPost_ret (results_term rfl _ _ _ _ rfl r9) rfl ⟨rfl, t9⟩
  · have z2 : (t.kind != 2) = true := by simp [h2]
    have he : foldTerm t k = t := by unfold foldTerm; rw [if_neg (fun h => h2 h.1)]
    have HE := Lib.hid he
    clear he hab h2
    go_enter Try.func62, Try.ntmps62
    go_upto_region 1 with fail
    rw [← HW.out]
    clear HW
    go_wp2_with (first | (refine wpList_load_known _ _ _ hk r1 rfl rfl rfl ?_) | (refine wpList_put_term _ _ (t) r2 rfl rfl rfl rfl ?_; intro w9 r9 g9 s9))
    have t9 := b2.grown g9 b2.size (fun j hj => by injection hj with hj; subst hj; omega)
    rw [← HE.out] at r9
    exact bodyPost_ret (results_term rfl _ _ _ _ rfl r9) rfl ⟨rfl, t9⟩
end Go.Proofs.Ytokkngfgppikkab
