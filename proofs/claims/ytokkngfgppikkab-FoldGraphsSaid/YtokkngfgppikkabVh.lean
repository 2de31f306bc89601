/- Layer 21's awake answers true. -/
import Derived.Test.YtokkngfgppikkabVg
import Derived.Test.YtokkngfgppikkabGd
namespace Go.Proofs.Ytokkngfgppikkab
set_option linter.unusedVariables false
set_option linter.unusedSimpArgs false
open Go.RowKit
theorem own_bsF {w : World} {A : Option Addr} {c n : Nat} {bs : List Block} {F : Nat → Prop} (h : OwnF oBlock 39 w (.slice A n c) bs F) : kBlock.C w A bs := by
  obtain ⟨A', c', e, -, -, hC⟩ := h.read
  injection e with e1 e2 e3
  rw [e1]
  exact hC
attribute [local go_sem high] eqTerm_same eqOp_same

set_option maxHeartbeats 8000000 in
set_option maxRecDepth 100000 in
theorem awake21_calls (w : World) : Calls Try.prog 22 #[] w fun e w' => e = .returned (.bool true) ∧ Below w.heap.size w w' := by
  obtain ⟨W, hW, r0, r1, c2, c3, r4, hbW, hsz⟩ := awake21_mem w
  have h300 : ∀ b ∈ [fB0, fB1], b.ops.length ≤ 300 := by decide
  have hL := foldgraph_false (⟨#[]⟩ : ByteArray) false _ 2 [fB0, fB1] W c3 (by decide) fOk h300 (by decide)
  have HL := Lib.hid hL
  have HW := Lib.hid hW
  have HZ := Lib.hid hsz
  have H3 := Lib.hid h300
  clear hW hsz hL h300
  go_enter Try.func22, Try.ntmps22
  go_upto_region 4 with fail
  rw [← HW.out]
  obtain ⟨x0, x1, x2, x3⟩ := (show Row W (w.heap.size + 1 + 1 + 1 + 1) 24 (graphCells (.slice (some ⟨w.heap.size + 1 + 1 + 1, 0, none⟩) 2 2) ⟨(⟨#[]⟩ : ByteArray), false, false, [fB0, fB1]⟩) from r4).graph
  go_wp2_with fail
  refine HL.out.mono ?_
  rintro e w1 ⟨ins, hat, A1, c1, F1, rfl, own1, -, hb1⟩
  obtain rfl := fAt hat
  rw [fFold] at own1 ⊢
  rw [show fOut.length = 2 from rfl] at own1 ⊢
  have t1 := hbW.trans (hb1.mono hbW.size)
  have b2 := below_alloc' w1 (.cells #[.string (⟨#[]⟩ : ByteArray), .bool false, .bool false, .slice A1 2 c1] 24)
  have rh : Row (w1.alloc (.cells #[.string (⟨#[]⟩ : ByteArray), .bool false, .bool false, .slice A1 2 c1] 24)) w1.heap.size 24 [.string (⟨#[]⟩ : ByteArray), .bool false, .bool false, .slice A1 2 c1] := Row.new w1 _ _
  have t2 := t1.trans (b2.mono t1.size)
  clear x0 x1 x2 x3 hat
  go_upto_region 5 with fail
  generalize w1.alloc (.cells #[.string (⟨#[]⟩ : ByteArray), .bool false, .bool false, .slice A1 2 c1] 24) = w2 at *
  have o2 := own1.below b2
  have CO := own_bsF o2
  obtain ⟨hx, X0, dx, rfl, i0, i1, i2, i3, i4, i5, i6, i7, i8, i9, i10, i11, -, -, -, gx⟩ := Block_at (i := 0) (x := ⟨[fAddi, fFour], jumpI 0⟩) CO rfl
  obtain ⟨hx', X1, dx1, ehx, -, -, -, -, -, -, -, j7, -⟩ := Block_at (i := 1) (x := trapBlock) CO rfl
  injection ehx with ehx
  subst ehx
  obtain ⟨ox, rfl, q0, q1, q2, q3, q4, q5, q6, q7, q8, -⟩ := Op_at (i := 1) (x := fFour) gx rfl
  rw [add_zero12] at i0 i1 i2 i3 i4 i5 i6 i7 i8 i9 i10 i11
  rw [show 1 * 12 = 12 from rfl] at j7
  rw [show 1 * 9 = 9 from rfl] at q0 q1 q2 q3 q4 q5 q6 q7 q8
  have R4 := (r4.below hb1).below b2
  have z0 := R4.cell (j := 0) rfl
  have z1 := R4.cell (j := 1) rfl
  have z2 := R4.cell (j := 2) rfl
  have z3 := R4.cell (j := 3) rfl
  have y0 := rh.cell (j := 0) rfl
  have y1 := rh.cell (j := 1) rfl
  have y2 := rh.cell (j := 2) rfl
  have y3 := rh.cell (j := 3) rfl
  have CB : kBlock.C w2 (some ⟨w.heap.size + 1 + 1 + 1, 0, none⟩) [fB0, fB1] := Kd.C_mono b2 (Kd.C_mono hb1 c3)
  have hcnt := count_calls (⟨#[]⟩ : ByteArray) (⟨#[]⟩ : ByteArray) false false false false _ _ 2 c1 [fB0, fB1] fOut w2 CB CO (by decide) (by decide) H3.out (by decide)
  rw [show countTo [fB0, fB1] fOut (min [fB0, fB1].length fOut.length) = 3 from fCount] at hcnt
  have HC := Lib.hid hcnt
  clear hcnt CB CO own1 o2 gx r0 r1 c2 c3 r4 rh R4 b2 hb1
  replace q0 : w2.cell? ⟨ox.block, ox.off + 9, none⟩ = some (.int .i64 8) := q0
  replace q1 : w2.cell? ⟨ox.block, ox.off + 9 + 1, none⟩ = some (.int .i64 2) := q1
  replace q2 : w2.cell? ⟨ox.block, ox.off + 9 + 2, none⟩ = some (.int .i64 0) := q2
  replace q3 : w2.cell? ⟨ox.block, ox.off + 9 + 3, none⟩ = some (.int .i64 0) := q3
  replace q4 : w2.cell? ⟨ox.block, ox.off + 9 + 4, none⟩ = some (.int .i64 4) := q4
  replace q5 : w2.cell? ⟨ox.block, ox.off + 9 + 5, none⟩ = some (.bool false) := q5
  replace q6 : w2.cell? ⟨ox.block, ox.off + 9 + 6, none⟩ = some (.int .i64 0) := q6
  replace q7 : w2.cell? ⟨ox.block, ox.off + 9 + 7, none⟩ = some (.int .i64 0) := q7
  replace q8 : w2.cell? ⟨ox.block, ox.off + 9 + 8, none⟩ = some (.int .i64 0) := q8
  replace i0 : w2.cell? hx = some (.slice (some ox) 2 dx) := i0
  replace i1 : w2.cell? ⟨hx.block, hx.off + 1, none⟩ = some (.int .i64 1) := i1
  replace i2 : w2.cell? ⟨hx.block, hx.off + 2, none⟩ = some (.int .i64 0) := i2
  replace i3 : w2.cell? ⟨hx.block, hx.off + 3, none⟩ = some (.int .i64 0) := i3
  replace i4 : w2.cell? ⟨hx.block, hx.off + 4, none⟩ = some (.int .i64 0) := i4
  replace i5 : w2.cell? ⟨hx.block, hx.off + 5, none⟩ = some (.int .i64 0) := i5
  replace i6 : w2.cell? ⟨hx.block, hx.off + 6, none⟩ = some (.int .i64 0) := i6
  replace i7 : w2.cell? ⟨hx.block, hx.off + 7, none⟩ = some (.int .i64 0) := i7
  replace i8 : w2.cell? ⟨hx.block, hx.off + 8, none⟩ = some (.int .i64 0) := i8
  replace i9 : w2.cell? ⟨hx.block, hx.off + 9, none⟩ = some (.int .i64 0) := i9
  replace i10 : w2.cell? ⟨hx.block, hx.off + 10, none⟩ = some (.int .i64 0) := i10
  replace i11 : w2.cell? ⟨hx.block, hx.off + 11, none⟩ = some (.int .i64 0) := i11
  replace j7 : w2.cell? ⟨hx.block, hx.off + 12 + 7, none⟩ = some (.int .i64 25) := j7
  go_wp2_with fail
  refine HC.out.mono ?_
  rintro e w3 ⟨rfl, hb3⟩
  go_wp2_with fail
  go_ret
  exact ⟨rfl, t2.trans (hb3.mono t2.size)⟩
end Go.Proofs.Ytokkngfgppikkab
