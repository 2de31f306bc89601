/- A row of whole numbers of the call's own; whether a block leads to another one. Printed by genQd.py of this repository. -/
import Derived.Test.YthnkikdbllkmkaaQc
import Derived.Test.YthnkikdbllkmkaaYh
namespace Go.Proofs.Ythnkikdbllkmkaa
set_option linter.unusedVariables false
set_option linter.unusedSimpArgs false
open Go.RowKit

/-- Block number g is a row of these numbers. -/
def RowZ (w : World) (g : Nat) (xs : List Int) : Prop := w.heap[g]? = some (.cells (xs.map (Value.int .i64)).toArray 3 (0, 0))
theorem RowZ.lt {w : World} {g : Nat} {xs : List Int} (h : RowZ w g xs) : g < w.heap.size := (Array.getElem?_eq_some_iff.1 h).1
theorem RowZ.cell {w : World} {g : Nat} {xs : List Int} (h : RowZ w g xs) {i : Nat} {b : Int} (hi : xs[i]? = some b) : w.cell? ⟨g, i, none⟩ = some (.int .i64 b) := by
  rw [cell_of_row w g i _ _ _ h]
  simp [hi]
theorem RowZ.frozen {w : World} {g : Nat} {xs : List Int} (h : RowZ w g xs) (i : Nat) : w.frozen? ⟨g, i, none⟩ = false := frozen_of_row w g i _ _ h
theorem RowZ.below {w w' : World} {g : Nat} {xs : List Int} (h : RowZ w g xs) (hb : Below w.heap.size w w') : RowZ w' g xs := by
  unfold RowZ
  rw [hb.block g h.lt]
  exact h
theorem RowZ.apart {w w' : World} {g : Nat} {xs : List Int} {r : Option Nat} (h : RowZ w g xs) (hg : w.grownBy w' r) (hne : r ≠ some g) : RowZ w' g xs := by
  unfold RowZ
  rw [hg.block g h.lt (fun e => hne e.symm)]
  exact h
theorem RowZ.set {w : World} {g : Nat} {xs : List Int} (h : RowZ w g xs) (i : Nat) (b : Int) : RowZ (w.setCell ⟨g, i, none⟩ (.int .i64 b)) g (xs.set i b) ∧ w.grownBy (w.setCell ⟨g, i, none⟩ (.int .i64 b)) (some g) := by
  refine ⟨?_, ⟨rfl, rfl, rfl, by simp, fun k _ hk => heap_setCell_other w ⟨g, i, none⟩ k _ (fun e => hk (by simp [e]))⟩⟩
  unfold RowZ
  rw [heap_setCell_same w g i _ _ _ h]
  congr 1
  congr 1
  apply Array.toList_inj.1
  simp
set_option maxRecDepth 100000 in
theorem make_intsZ (n : Nat) (hn : n ≤ 1000000) (w : World) : ∃ w', (Instr.makeSlice 29 (.int .i64 (n : Int)) (.int .i64 (n : Int))).run Try.prog w = .ok (.slice (some ⟨w.heap.size, 0, none⟩) n n) w' ∧ RowZ w' w.heap.size (List.replicate n 0) ∧ Below w.heap.size w w' ∧ w'.heap.size = w.heap.size + 1 := by
  obtain ⟨i0, hi, hz0, hz1, hz2⟩ := info_parts elN.info
  have e1 : i0.size = 1 := hz1
  have h := run_make (P := Try.prog) w 29 3 i0 (.int .i64 0) elN.under hi hz0 .i64 .i64 n n (by omega) (Int.le_refl _) (by rw [hz2]; omega) (by omega)
  refine ⟨_, h, ?_, (Below.refl _ _).alloc (Nat.le_refl _) _, by simp⟩
  unfold RowZ
  rw [heap_alloc_new]
  congr 1
  congr 1
  apply Array.toList_inj.1
  rw [e1]
  simp only [Int.toNat_natCast, Nat.mul_one]
  apply List.ext_getElem?
  intro j
  by_cases hj : j < n
  · simp [madeCells, hj, List.getElem?_replicate, Value.cells, Nat.mod_one]
  · simp [madeCells, hj, List.getElem?_replicate]

/-- Does a block's end lead to k? -/
def leadB (b : Block) (i k : Nat) : Bool := (k != 0) && (k != i) && (((b.fin.kind == 1 || b.fin.kind == 2) && b.fin.to == (k : Int)) || (b.fin.kind == 2 && b.fin.els == (k : Int)))
theorem leadB_iff {bs : List Block} {i k : Nat} {b : Block} (hb : bs[i]? = some b) : leadB b i k = true ↔ leadsD bs i k := by
  unfold leadB leadsD
  simp only [Bool.and_eq_true, Bool.or_eq_true, bne_iff_ne, beq_iff_eq]
  constructor
  · rintro ⟨⟨h1, h2⟩, h3⟩
    exact ⟨b, hb, h1, h2, h3⟩
  · rintro ⟨b', hb', h1, h2, h3⟩
    rw [hb] at hb'
    injection hb' with hb'
    subst hb'
    exact ⟨⟨h1, h2⟩, h3⟩

set_option maxHeartbeats 4000000 in
set_option maxRecDepth 100000 in
theorem rleads_calls (nm : ByteArray) (kp lf : Bool) (A : Option Addr) (c : Nat) (bs : List Block) (i k : Nat) (b : Block) (w : World) (hC : kBlock.C w A bs) (hl : bs.length ≤ 1000) (hb : bs[i]? = some b) : Calls Try.prog 21 #[.agg #[.string nm, .bool kp, .bool lf, .slice A bs.length c], .int .i64 (i : Int), .int .i64 (k : Int)] w fun e w' => e = .returned (.bool (leadB b i k)) ∧ Below w.heap.size w w' := by
  have hlo : bs.length ≤ 9223372036854775807 := by omega
  have hil := (List.getElem?_eq_some_iff.1 hb).1
  have hiI : (i : Int) < (bs.length : Int) := by omega
  have b0 := below_alloc' w (.cells #[.string nm, .bool kp, .bool lf, .slice A bs.length c] 24)
  have r0 : Row (w.alloc (.cells #[.string nm, .bool kp, .bool lf, .slice A bs.length c] 24)) w.heap.size 24 (graphCells (.slice A bs.length c) ⟨nm, kp, lf, bs⟩) := Row.new w _ _
  obtain ⟨r, hr⟩ : ∃ r, r = leadB b i k := ⟨_, rfl⟩
  rw [← hr]
  go_enter Try.func21, Try.ntmps21
  go_upto_region 1 with fail
  generalize w.alloc (.cells #[.string nm, .bool kp, .bool lf, .slice A bs.length c] 24) = W at *
  obtain ⟨x0, x1, x2, x3⟩ := r0.graph
  obtain ⟨ad, A0, c0, rfl, f0, f1, f2, f3, f4, f5, f6, f7, f8, f9, f10, f11, -, -⟩ := Block_at (Kd.C_mono b0 hC) hb
  have b1 := below_alloc' W (.cells #[.int .i64 b.fin.kind, .int .i64 b.fin.op, .int .i64 b.fin.a, .int .i64 b.fin.b, .int .i64 b.fin.to, .int .i64 b.fin.els, .int .i64 b.fin.ins.op, .int .i64 b.fin.ins.a, .int .i64 b.fin.ins.b, .int .i64 b.fin.ins.c, .int .i64 b.fin.ins.imm] 43)
  have rt : Row (W.alloc (.cells #[.int .i64 b.fin.kind, .int .i64 b.fin.op, .int .i64 b.fin.a, .int .i64 b.fin.b, .int .i64 b.fin.to, .int .i64 b.fin.els, .int .i64 b.fin.ins.op, .int .i64 b.fin.ins.a, .int .i64 b.fin.ins.b, .int .i64 b.fin.ins.c, .int .i64 b.fin.ins.imm] 43)) W.heap.size 43 [.int .i64 b.fin.kind, .int .i64 b.fin.op, .int .i64 b.fin.a, .int .i64 b.fin.b, .int .i64 b.fin.to, .int .i64 b.fin.els, .int .i64 b.fin.ins.op, .int .i64 b.fin.ins.a, .int .i64 b.fin.ins.b, .int .i64 b.fin.ins.c, .int .i64 b.fin.ins.imm] := Row.new W _ _
  have t1 := b0.trans (b1.mono b0.size)
  have HR := Lib.hid hr
  clear hb hr b1
  go_upto_region 2 with fail
  clear f0 f1 f2 f3 f4 f5 f6 f7 f8 f9 f10 f11 x0 x1 x2 x3
  generalize W.alloc (.cells #[.int .i64 b.fin.kind, .int .i64 b.fin.op, .int .i64 b.fin.a, .int .i64 b.fin.b, .int .i64 b.fin.to, .int .i64 b.fin.els, .int .i64 b.fin.ins.op, .int .i64 b.fin.ins.a, .int .i64 b.fin.ins.b, .int .i64 b.fin.ins.c, .int .i64 b.fin.ins.imm] 43) = W1 at *
  generalize W.heap.size = GT at *
  have y0 := rt.cell (j := 0) rfl
  have y4 := rt.cell (j := 4) rfl
  have y5 := rt.cell (j := 5) rfl
  clear rt
  by_cases h0 : k = 0
  · have z0 : ((k : Int) != 0) = false := by simp [h0]
    have z0n : (k != 0) = false := by simp [h0]
    go_wp2_with fail
    go_ret
    exact ⟨by rw [HR.out]; simp [leadB, h0], t1⟩
  · have z0 : ((k : Int) != 0) = true := by simpa using h0
    have z0n : (k != 0) = true := by simpa using h0
    by_cases h1 : k = i
    · have z1 : ((k : Int) != (i : Int)) = false := by simp [h1]
      have z1n : (k != i) = false := by simp [h1]
      go_wp2_with fail
      go_ret
      exact ⟨by rw [HR.out]; simp [leadB, h1], t1⟩
    · have z1 : ((k : Int) != (i : Int)) = true := by simp; omega
      have z1n : (k != i) = true := by simpa using h1
      by_cases h2 : b.fin.kind = 1
      · have z2 : (b.fin.kind == 1) = true := by simp [h2]
        by_cases h4 : b.fin.to = (k : Int)
        · have z4 : (b.fin.to == (k : Int)) = true := by simp [h4]
          go_wp2_with fail
          go_ret
          exact ⟨by rw [HR.out]; simp [leadB, h0, h1, h2, h4], t1⟩
        · have z4 : (b.fin.to == (k : Int)) = false := by simpa using h4
          have z3 : (b.fin.kind == 2) = false := by simp [h2]
          go_wp2_with fail
          go_ret
          exact ⟨by rw [HR.out]; simp [leadB, h0, h1, h2, h4], t1⟩
      · have z2 : (b.fin.kind == 1) = false := by simpa using h2
        by_cases h3 : b.fin.kind = 2
        · have z3 : (b.fin.kind == 2) = true := by simp [h3]
          by_cases h4 : b.fin.to = (k : Int)
          · have z4 : (b.fin.to == (k : Int)) = true := by simp [h4]
            go_wp2_with fail
            go_ret
            exact ⟨by rw [HR.out]; simp [leadB, h0, h1, h2, h3, h4], t1⟩
          · have z4 : (b.fin.to == (k : Int)) = false := by simpa using h4
            by_cases h5 : b.fin.els = (k : Int)
            · have z5 : (b.fin.els == (k : Int)) = true := by simp [h5]
              go_wp2_with fail
              go_ret
              exact ⟨by rw [HR.out]; simp [leadB, h0, h1, h2, h3, h4, h5], t1⟩
            · have z5 : (b.fin.els == (k : Int)) = false := by simpa using h5
              go_wp2_with fail
              go_ret
              exact ⟨by rw [HR.out]; simp [leadB, h0, h1, h2, h3, h4, h5], t1⟩
        · have z3 : (b.fin.kind == 2) = false := by simpa using h3
          go_wp2_with fail
          go_ret
          exact ⟨by rw [HR.out]; simp [leadB, h0, h1, h2, h3], t1⟩
end Go.Proofs.Ythnkikdbllkmkaa
