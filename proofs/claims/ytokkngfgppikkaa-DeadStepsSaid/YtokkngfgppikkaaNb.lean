/- Layer 22 (dead): does an instruction do nothing? The program's, and the document's. Printed by genNa2.py of this repository. -/
import Derived.Test.YtokkngfgppikkaaNa
namespace Go.Proofs.Ytokkngfgppikkaa
set_option linter.unusedVariables false
set_option linter.unusedSimpArgs false
open Go.RowKit

theorem idleO_not {o : Op} {a : Nat} (h : ¬ fkind o.ins.op = 0) : decide (idleO o a) = false := by
  rw [decide_eq_false_iff_not]; exact fun h2 => h h2.1
theorem idleO_none {o : Op} {a : Nat} (h : fkind o.ins.op = 0) (hw : writes o.ins.op o.ins.a < 0) : decide (idleO o a) = true := by
  rw [decide_eq_true_eq]; exact ⟨h, .inl hw⟩
theorem idleO_bit {o : Op} {a n : Nat} (h : fkind o.ins.op = 0) (hw : writes o.ins.op o.ins.a = n) : decide (idleO o a) = !a.testBit n := by
  rw [Bool.eq_iff_iff, decide_eq_true_eq]
  unfold idleO
  rw [hw]
  simp [h]
  intro hh
  omega
set_option maxHeartbeats 4000000 in
set_option maxRecDepth 100000 in
theorem deadIdle_calls (o : Op) (a : Nat) (ha : a < 65536) (hr : o.ins.right = true) (w : World) : Calls Try.prog 69 #[.agg #[.int .i64 o.ins.op, .int .i64 o.ins.a, .int .i64 o.ins.b, .int .i64 o.ins.c, .int .i64 o.ins.imm, .bool o.rel, .int .i64 o.kind, .int .i64 o.to, .int .i64 o.add], .int .u16 (a : Int)] w fun e w' => e = .returned (.bool (decide (idleO o a))) ∧ Below w.heap.size w w' := by
  have b0 := below_alloc' w (.cells #[.int .i64 o.ins.op, .int .i64 o.ins.a, .int .i64 o.ins.b, .int .i64 o.ins.c, .int .i64 o.ins.imm, .bool o.rel, .int .i64 o.kind, .int .i64 o.to, .int .i64 o.add] 44)
  have r0 : Row (w.alloc (.cells #[.int .i64 o.ins.op, .int .i64 o.ins.a, .int .i64 o.ins.b, .int .i64 o.ins.c, .int .i64 o.ins.imm, .bool o.rel, .int .i64 o.kind, .int .i64 o.to, .int .i64 o.add] 44)) w.heap.size 44 (opCells o) := Row.new w _ _
  have hw15 := writes_le hr
  by_cases hk : fkind o.ins.op = 0
  · have z1 : (fkind o.ins.op == 0) = true := by simp [hk]
    by_cases hw : writes o.ins.op o.ins.a < 0
    · have HE := Lib.hid (idleO_none (a := a) hk hw)
      have z2 : decide (writes o.ins.op o.ins.a < 0) = true := by simp [hw]
      clear hk
      go_enter Try.func69, Try.ntmps69
      go_upto_region 1 with fail
      generalize w.alloc (.cells #[.int .i64 o.ins.op, .int .i64 o.ins.a, .int .i64 o.ins.b, .int .i64 o.ins.c, .int .i64 o.ins.imm, .bool o.rel, .int .i64 o.kind, .int .i64 o.to, .int .i64 o.add] 44) = W at *
      obtain ⟨x0, x1, x2, x3, x4, x5, x6, x7, x8⟩ := r0.op
      go_wp2_with fail
      refine (flowWrites_calls _ _ _ _ _ _).mono ?_
      rintro e w1 ⟨rfl, hb1⟩
      clear x0 x1 x2 x3 x4 x5 x6 x7 x8
      obtain ⟨x0, x1, x2, x3, x4, x5, x6, x7, x8⟩ := (r0.below hb1).op
      generalize hwn : writes o.ins.op o.ins.a = wn at *
      have HWN := Lib.hid hwn
      clear hwn
      go_wp2_with fail
      refine (flowKind_calls _ _ _ _ _ _).mono ?_
      rintro e w2 ⟨rfl, hb2⟩
      clear x0 x1 x2 x3 x4 x5 x6 x7 x8
      go_wp2_with fail
      go_ret
      exact ⟨by rw [HE.out]; rfl, (b0.trans (hb1.mono b0.size)).trans (hb2.mono (Nat.le_trans b0.size hb1.size))⟩
    · obtain ⟨n, hn⟩ := Int.eq_ofNat_of_zero_le (show 0 ≤ writes o.ins.op o.ins.a by omega)
      have HE := Lib.hid (idleO_bit (a := a) hk hn)
      have HN := Lib.hid hn
      have hn15 : n ≤ 15 := by omega
      clear hk hw hn hw15
      go_enter Try.func69, Try.ntmps69
      go_upto_region 1 with fail
      generalize w.alloc (.cells #[.int .i64 o.ins.op, .int .i64 o.ins.a, .int .i64 o.ins.b, .int .i64 o.ins.c, .int .i64 o.ins.imm, .bool o.rel, .int .i64 o.kind, .int .i64 o.to, .int .i64 o.add] 44) = W at *
      obtain ⟨x0, x1, x2, x3, x4, x5, x6, x7, x8⟩ := r0.op
      go_wp2_with fail
      refine (flowWrites_calls _ _ _ _ _ _).mono ?_
      rintro e w1 ⟨rfl, hb1⟩
      clear x0 x1 x2 x3 x4 x5 x6 x7 x8
      obtain ⟨x0, x1, x2, x3, x4, x5, x6, x7, x8⟩ := (r0.below hb1).op
      generalize hwn : writes o.ins.op o.ins.a = wn at *
      have HWN := Lib.hid hwn
      clear hwn
      obtain rfl : wn = (n : Int) := HN.out
      have z2 : decide ((n : Int) < 0) = false := decide_eq_false (by omega)
      go_wp2_with fail
      refine (flowKind_calls _ _ _ _ _ _).mono ?_
      rintro e w2 ⟨rfl, hb2⟩
      clear x0 x1 x2 x3 x4 x5 x6 x7 x8
      go_wp2_with fail
      go_ret
      refine ⟨ret_bool ?_, (b0.trans (hb1.mono b0.size)).trans (hb2.mono (Nat.le_trans b0.size hb1.size))⟩
      rw [HE.out]
      show (bits BinOp.and IntKind.u16 ((a : Int) / 2 ^ n) 1 == 0) = _
      have e : ((a : Int) / 2 ^ n) = ((a / 2 ^ n : Nat) : Int) := by simp
      rw [e, show (1 : Int) = ((1 : Nat) : Int) from rfl, u16_and_nat _ _ (Nat.lt_of_le_of_lt (Nat.div_le_self _ _) ha) (by decide), and_one, Nat.testBit_eq_decide_div_mod_eq, Bool.eq_iff_iff]
      simp
      omega
  · have z1 : (fkind o.ins.op == 0) = false := by simp [hk]
    have HE := Lib.hid (idleO_not (a := a) hk)
    clear hk
    go_enter Try.func69, Try.ntmps69
    go_upto_region 1 with fail
    generalize w.alloc (.cells #[.int .i64 o.ins.op, .int .i64 o.ins.a, .int .i64 o.ins.b, .int .i64 o.ins.c, .int .i64 o.ins.imm, .bool o.rel, .int .i64 o.kind, .int .i64 o.to, .int .i64 o.add] 44) = W at *
    obtain ⟨x0, x1, x2, x3, x4, x5, x6, x7, x8⟩ := r0.op
    go_wp2_with fail
    refine (flowWrites_calls _ _ _ _ _ _).mono ?_
    rintro e w1 ⟨rfl, hb1⟩
    clear x0 x1 x2 x3 x4 x5 x6 x7 x8
    obtain ⟨x0, x1, x2, x3, x4, x5, x6, x7, x8⟩ := (r0.below hb1).op
    generalize hwn : writes o.ins.op o.ins.a = wn at *
    have HWN := Lib.hid hwn
    clear hwn
    go_wp2_with fail
    refine (flowKind_calls _ _ _ _ _ _).mono ?_
    rintro e w2 ⟨rfl, hb2⟩
    clear x0 x1 x2 x3 x4 x5 x6 x7 x8
    go_wp2_with fail
    go_ret
    exact ⟨by rw [HE.out]; rfl, (b0.trans (hb1.mono b0.size)).trans (hb2.mono (Nat.le_trans b0.size hb1.size))⟩

theorem RowB.cell' {w : World} {g : Nat} {xs : List Bool} (h : RowB w g xs) {i : Nat} {b : Bool} (hx : xs[i]? = some b) : w.cell? ⟨g, i, none⟩ = some (.bool b) := h.cell hx
set_option maxHeartbeats 8000000 in
set_option maxRecDepth 100000 in
theorem refIdle_calls (nm : ByteArray) (kp lf : Bool) (A : Option Addr) (c : Nat) (bs : List Block) (ins : List Nat) (k j : Nat) (b : Block) (o : Op) (w : World) (hC : kBlock.C w A bs) (hl : bs.length ≤ 1000) (hok : BsOk bs) (h300 : ∀ b ∈ bs, b.ops.length ≤ 300) (hL : IsLive bs ins) (hb : bs[k]? = some b) (ho : b.ops[j]? = some o) : Calls Try.prog 70 #[.agg #[.string nm, .bool kp, .bool lf, .slice A bs.length c], .int .i64 (k : Int), .int .i64 (j : Int)] w fun e w' => e = .returned (.bool (decide (idleO o (aheadOps (b.ops.drop (j + 1)) (endN b.fin ins))))) ∧ Below w.heap.size w w' := by
  have b0 := below_alloc' w (.cells #[.string nm, .bool kp, .bool lf, .slice A bs.length c] 33)
  have r0 : Row (w.alloc (.cells #[.string nm, .bool kp, .bool lf, .slice A bs.length c] 33)) w.heap.size 33 (graphCells (.slice A bs.length c) ⟨nm, kp, lf, bs⟩) := Row.new w _ _
  have hbm := List.mem_of_getElem? hb
  have hkl : k < bs.length := (List.getElem?_eq_some_iff.1 hb).1
  have hjl : j < b.ops.length := (List.getElem?_eq_some_iff.1 ho).1
  have h3b := h300 b hbm
  have hr := hok.ops hbm o (List.mem_of_getElem? ho)
  have hrs : ∀ o ∈ b.ops.drop (j + 1), o.ins.right = true := fun o h => hok.ops hbm o (List.mem_of_mem_drop h)
  obtain ⟨ff, hf⟩ := hok.fin hbm
  have hlo : bs.length ≤ 9223372036854775807 := by omega
  have hno : b.ops.length ≤ 9223372036854775807 := by omega
  obtain ⟨h0, h1⟩ := Ins.right_op hr
  have hw15 := writes_le hr
  have hwe := writes_eq (Ins.right_eta hr)
  have hke := fkind_kindOf h0 h1
  obtain ⟨ad, Ab, cb, rfl, f0, -, -, -, -, -, -, -, -, -, -, -, -, lb, mb, gb⟩ := Block_at hC hb
  obtain ⟨ao, rfl, e0', e1', e2', e3', e4', e5', e6', e7', e8', -⟩ := Op_at gb ho
  have HOK := Lib.hid hok
  have H3 := Lib.hid h300
  have HB := Lib.hid hb
  have HL := Lib.hid hL
  have HO := Lib.hid ho
  have HF := Lib.hid hf
  have HRS := Lib.hid hrs
  have HC := Lib.hid hC
  clear hok h300 hb hL ho hf hrs hbm hC hr
  by_cases hk : fkind o.ins.op = 0
  · have z1 : (fkind o.ins.op == 0) = true := by simp [hk]
    by_cases hw : refWrites o.ins.op o.ins.a < 0
    · have HE := Lib.hid (idleO_none (a := aheadOps (b.ops.drop (j + 1)) (endN b.fin ins)) hk (by rw [hwe]; exact hw))
      have z2 : decide (refWrites o.ins.op o.ins.a < 0) = true := by simp [hw]
      have z1' : (kindOf o.ins.op == 0) = true := by rw [← hke]; exact z1
      clear hk hw15 hwe hke
      go_enter Try.func70, Try.ntmps70
      go_upto_region 1 with fail
      generalize w.alloc (.cells #[.string nm, .bool kp, .bool lf, .slice (some ad) bs.length c] 33) = W at *
      have x3 := r0.cell (j := 3) rfl
      have i0 := Sub.of_below b0 _ _ f0
      have e0 := Sub.of_below b0 _ _ e0'
      have e1 := Sub.of_below b0 _ _ e1'
      have e2 := Sub.of_below b0 _ _ e2'
      have e3 := Sub.of_below b0 _ _ e3'
      have e4 := Sub.of_below b0 _ _ e4'
      have e5 := Sub.of_below b0 _ _ e5'
      have e6 := Sub.of_below b0 _ _ e6'
      have e7 := Sub.of_below b0 _ _ e7'
      have e8 := Sub.of_below b0 _ _ e8'
      have b2 := below_alloc' W (.cells #[.int .i64 o.ins.op, .int .i64 o.ins.a, .int .i64 o.ins.b, .int .i64 o.ins.c, .int .i64 o.ins.imm, .bool o.rel, .int .i64 o.kind, .int .i64 o.to, .int .i64 o.add] 44)
      have r2 : Row (W.alloc (.cells #[.int .i64 o.ins.op, .int .i64 o.ins.a, .int .i64 o.ins.b, .int .i64 o.ins.c, .int .i64 o.ins.imm, .bool o.rel, .int .i64 o.kind, .int .i64 o.to, .int .i64 o.add] 44)) W.heap.size 44 (opCells o) := Row.new W _ _
      go_upto_region 2 with fail
      generalize W.alloc (.cells #[.int .i64 o.ins.op, .int .i64 o.ins.a, .int .i64 o.ins.b, .int .i64 o.ins.c, .int .i64 o.ins.imm, .bool o.rel, .int .i64 o.kind, .int .i64 o.to, .int .i64 o.add] 44) = W2 at *
      clear x3 i0 e0 e1 e2 e3 e4 e5 e6 e7 e8 f0 e0' e1' e2' e3' e4' e5' e6' e7' e8'
      obtain ⟨x0, x1, x2, x3, x4, x5, x6, x7, x8⟩ := r2.op
      go_wp2_with fail
      refine (refWrites_calls _ _ _ _ _ _).mono ?_
      rintro e w1 ⟨rfl, hb1⟩
      clear x0 x1 x2 x3 x4 x5 x6 x7 x8
      obtain ⟨x0, x1, x2, x3, x4, x5, x6, x7, x8⟩ := (r2.below hb1).op
      have t1 := b2.trans (hb1.mono b2.size)
      generalize hwn : refWrites o.ins.op o.ins.a = wn at *
      have HWN := Lib.hid hwn
      clear hwn
      go_wp2_with fail
      refine (kind_calls _ _ _ _ _ _ h0 h1).mono ?_
      rintro e w2 ⟨rfl, hb2⟩
      clear x0 x1 x2 x3 x4 x5 x6 x7 x8
      have t2 := b0.trans ((t1.trans (hb2.mono t1.size)).mono b0.size)
      go_wp2_with fail
      go_ret
      exact ⟨by rw [HE.out]; rfl, t2⟩
    · obtain ⟨n, hn⟩ := Int.eq_ofNat_of_zero_le (show 0 ≤ refWrites o.ins.op o.ins.a by omega)
      have hn15 : n ≤ 15 := by omega
      have hn1 : 1 ≤ n := by
        unfold refWrites at hn
        split at hn
        · omega
        · omega
      have HE := Lib.hid (idleO_bit (a := aheadOps (b.ops.drop (j + 1)) (endN b.fin ins)) hk (by rw [hwe]; exact hn))
      have hbit : (aheadOps (b.ops.drop (j + 1)) (endN b.fin ins)).testBit n = aheadOpsB (b.ops.drop (j + 1)) n (endB b.fin n (bitL ins n)) := by
        rw [aheadOps_bit HRS.out hn1 hn15, endN_bit HF.out hn1 hn15]
        rfl
      have HBIT := Lib.hid hbit
      have HN := Lib.hid hn
      have z1' : (kindOf o.ins.op == 0) = true := by rw [← hke]; exact z1
      clear hk hw hn hw15 hwe hbit hke
      go_enter Try.func70, Try.ntmps70
      go_upto_region 1 with fail
      generalize w.alloc (.cells #[.string nm, .bool kp, .bool lf, .slice (some ad) bs.length c] 33) = W at *
      have x3 := r0.cell (j := 3) rfl
      have i0 := Sub.of_below b0 _ _ f0
      have e0 := Sub.of_below b0 _ _ e0'
      have e1 := Sub.of_below b0 _ _ e1'
      have e2 := Sub.of_below b0 _ _ e2'
      have e3 := Sub.of_below b0 _ _ e3'
      have e4 := Sub.of_below b0 _ _ e4'
      have e5 := Sub.of_below b0 _ _ e5'
      have e6 := Sub.of_below b0 _ _ e6'
      have e7 := Sub.of_below b0 _ _ e7'
      have e8 := Sub.of_below b0 _ _ e8'
      have b2 := below_alloc' W (.cells #[.int .i64 o.ins.op, .int .i64 o.ins.a, .int .i64 o.ins.b, .int .i64 o.ins.c, .int .i64 o.ins.imm, .bool o.rel, .int .i64 o.kind, .int .i64 o.to, .int .i64 o.add] 44)
      have r2 : Row (W.alloc (.cells #[.int .i64 o.ins.op, .int .i64 o.ins.a, .int .i64 o.ins.b, .int .i64 o.ins.c, .int .i64 o.ins.imm, .bool o.rel, .int .i64 o.kind, .int .i64 o.to, .int .i64 o.add] 44)) W.heap.size 44 (opCells o) := Row.new W _ _
      go_upto_region 2 with fail
      generalize W.alloc (.cells #[.int .i64 o.ins.op, .int .i64 o.ins.a, .int .i64 o.ins.b, .int .i64 o.ins.c, .int .i64 o.ins.imm, .bool o.rel, .int .i64 o.kind, .int .i64 o.to, .int .i64 o.add] 44) = W2 at *
      clear x3 i0 e0 e1 e2 e3 e4 e5 e6 e7 e8 f0 e0' e1' e2' e3' e4' e5' e6' e7' e8'
      obtain ⟨x0, x1, x2, x3, x4, x5, x6, x7, x8⟩ := r2.op
      go_wp2_with fail
      refine (refWrites_calls _ _ _ _ _ _).mono ?_
      rintro e w1 ⟨rfl, hb1⟩
      clear x0 x1 x2 x3 x4 x5 x6 x7 x8
      obtain ⟨x0, x1, x2, x3, x4, x5, x6, x7, x8⟩ := (r2.below hb1).op
      have t1 := b2.trans (hb1.mono b2.size)
      generalize hwn : refWrites o.ins.op o.ins.a = wn at *
      have HWN := Lib.hid hwn
      clear hwn
      obtain rfl : wn = (n : Int) := HN.out
      have z2 : decide ((n : Int) < 0) = false := decide_eq_false (by omega)
      go_wp2_with fail
      refine (kind_calls _ _ _ _ _ _ h0 h1).mono ?_
      rintro e w2 ⟨rfl, hb2⟩
      clear x0 x1 x2 x3 x4 x5 x6 x7 x8
      have t2 := b0.trans ((t1.trans (hb2.mono t1.size)).mono b0.size)
      have r4 := r0.below (t1.trans (hb2.mono t1.size))
      have C4 := Kd.C_mono t2 HC.out
      obtain ⟨x0, x1, x2, x3⟩ := r4.graph
      clear r2 b2 hb1
      go_wp2_with fail
      refine (refAfter_calls _ _ _ _ _ _ _ k n b _ C4 hl HOK.out H3.out HL.out hn1 hn15 HB.out).mono ?_
      rintro e w5 ⟨g5, rfl, row5, hg5, hb5⟩
      have c5 := row5.cell (afterB_at (r := n) (v := endB b.fin n (bitL ins n)) hjl)
      rw [← HBIT.out] at c5
      generalize (aheadOps (b.ops.drop (j + 1)) (endN b.fin ins)).testBit n = bt at *
      go_wp2_with fail
      go_ret
      exact ⟨by rw [HE.out]; rfl, t2.trans (hb5.mono t2.size)⟩
  · have z1 : (fkind o.ins.op == 0) = false := by simp [hk]
    have HE := Lib.hid (idleO_not (a := aheadOps (b.ops.drop (j + 1)) (endN b.fin ins)) hk)
    have z1' : (kindOf o.ins.op == 0) = false := by rw [← hke]; exact z1
    clear hk hw15 hwe hke
    go_enter Try.func70, Try.ntmps70
    go_upto_region 1 with fail
    generalize w.alloc (.cells #[.string nm, .bool kp, .bool lf, .slice (some ad) bs.length c] 33) = W at *
    have x3 := r0.cell (j := 3) rfl
    have i0 := Sub.of_below b0 _ _ f0
    have e0 := Sub.of_below b0 _ _ e0'
    have e1 := Sub.of_below b0 _ _ e1'
    have e2 := Sub.of_below b0 _ _ e2'
    have e3 := Sub.of_below b0 _ _ e3'
    have e4 := Sub.of_below b0 _ _ e4'
    have e5 := Sub.of_below b0 _ _ e5'
    have e6 := Sub.of_below b0 _ _ e6'
    have e7 := Sub.of_below b0 _ _ e7'
    have e8 := Sub.of_below b0 _ _ e8'
    have b2 := below_alloc' W (.cells #[.int .i64 o.ins.op, .int .i64 o.ins.a, .int .i64 o.ins.b, .int .i64 o.ins.c, .int .i64 o.ins.imm, .bool o.rel, .int .i64 o.kind, .int .i64 o.to, .int .i64 o.add] 44)
    have r2 : Row (W.alloc (.cells #[.int .i64 o.ins.op, .int .i64 o.ins.a, .int .i64 o.ins.b, .int .i64 o.ins.c, .int .i64 o.ins.imm, .bool o.rel, .int .i64 o.kind, .int .i64 o.to, .int .i64 o.add] 44)) W.heap.size 44 (opCells o) := Row.new W _ _
    go_upto_region 2 with fail
    generalize W.alloc (.cells #[.int .i64 o.ins.op, .int .i64 o.ins.a, .int .i64 o.ins.b, .int .i64 o.ins.c, .int .i64 o.ins.imm, .bool o.rel, .int .i64 o.kind, .int .i64 o.to, .int .i64 o.add] 44) = W2 at *
    clear x3 i0 e0 e1 e2 e3 e4 e5 e6 e7 e8 f0 e0' e1' e2' e3' e4' e5' e6' e7' e8'
    obtain ⟨x0, x1, x2, x3, x4, x5, x6, x7, x8⟩ := r2.op
    go_wp2_with fail
    refine (refWrites_calls _ _ _ _ _ _).mono ?_
    rintro e w1 ⟨rfl, hb1⟩
    clear x0 x1 x2 x3 x4 x5 x6 x7 x8
    obtain ⟨x0, x1, x2, x3, x4, x5, x6, x7, x8⟩ := (r2.below hb1).op
    have t1 := b2.trans (hb1.mono b2.size)
    generalize hwn : refWrites o.ins.op o.ins.a = wn at *
    have HWN := Lib.hid hwn
    clear hwn
    go_wp2_with fail
    refine (kind_calls _ _ _ _ _ _ h0 h1).mono ?_
    rintro e w2 ⟨rfl, hb2⟩
    clear x0 x1 x2 x3 x4 x5 x6 x7 x8
    have t2 := b0.trans ((t1.trans (hb2.mono t1.size)).mono b0.size)
    go_wp2_with fail
    go_ret
    exact ⟨by rw [HE.out]; rfl, t2⟩
end Go.Proofs.Ytokkngfgppikkaa
