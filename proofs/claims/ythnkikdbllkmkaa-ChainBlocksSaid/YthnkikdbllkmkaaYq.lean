/- Layer 25: awake holds. -/
import Derived.Test.YthnkikdbllkmkaaYp
namespace Go.Proofs.Ythnkikdbllkmkaa
set_option linter.unusedVariables false
set_option linter.unusedSimpArgs false
open Go.RowKit Go.Lib
attribute [local go_sem] run_store_float

def toI (xs : List Nat) : List Int := xs.map (fun x : Nat => (x : Int))
theorem toI_len (xs : List Nat) : (toI xs).length = xs.length := by simp [toI]
theorem CellsN.ints {w : World} {A : Option Addr} {xs : List Nat} (h : CellsN w A xs) : CellsI w A (toI xs) := fun i x hx => by
  unfold toI at hx
  rw [List.getElem?_map] at hx
  cases hy : xs[i]? with
  | none => rw [hy] at hx; cases hx
  | some y =>
    rw [hy] at hx
    injection hx with hx
    subst hx
    obtain ⟨g, e, -, hc⟩ := h i y hy
    refine ⟨_, e, ?_⟩
    unfold Addr.add
    by_cases h0 : i = 0
    · rw [if_pos h0]; subst h0; exact hc
    · rw [if_neg h0]; simpa using hc
theorem lit3 (w : World) (a b c : Nat) (T : TypeId) : CellsI (w.alloc (.cells #[.int .i64 (a : Int), .int .i64 (b : Int), .int .i64 (c : Int)] T)) (some ⟨w.heap.size, 0, none⟩) (toI [a, b, c]) := by
  refine CellsN.ints (fun i x hx => ⟨_, rfl, by simp, ?_⟩)
  have r := Row.new w T #[.int .i64 (a : Int), .int .i64 (b : Int), .int .i64 (c : Int)]
  refine r.cell ?_
  match i, hx with
  | 0, hx => injection hx with hx; rw [← hx]; rfl
  | 1, hx => injection hx with hx; rw [← hx]; rfl
  | 2, hx => injection hx with hx; rw [← hx]; rfl
  | i + 3, hx => simp at hx

set_option maxHeartbeats 4000000 in
set_option maxRecDepth 100000 in
theorem awake25_calls (w : World) : Calls Try.prog 7 #[] w fun e w' => e = .returned (.bool true) ∧ Below w.heap.size w w' := by
  obtain ⟨W, hW, r0, c1, r2, hbW, hsz⟩ := awake25_mem w
  obtain ⟨W1, hW1, cE, hb1, hz1⟩ := awake25_mem1 W
  have hC1 := Kd.C_mono hb1 c1
  have con := blocks_calls nF false false (some ⟨w.heap.size + 1, 0, none⟩) 3 [cB0, cB1, cB1] (some ⟨W.heap.size, 0, none⟩) 1 [cE1] W1 hC1 cE cWf1 (by decide) (by decide) (edgesD_in cLeads)
  change Calls Try.prog 10 #[.agg #[.string (⟨#[102]⟩ : ByteArray), .bool false, .bool false, .slice (some ⟨w.heap.size + 1, 0, none⟩) 3 3], .slice (some ⟨W.heap.size, 0, none⟩) 1 1] W1 (fun e w' => ∃ v F, e = .returned v ∧ OwnF oN 3 w' v (blocksD 3 (edgesD [cE1] nF [cB0, cB1, cB1])) F ∧ (∀ b, F b → W1.heap.size ≤ b) ∧ Below W1.heap.size W1 w') at con
  rw [cBlocks] at con
  have CON := Lib.hid con
  have HW := Lib.hid hW
  have HZ := Lib.hid hsz
  have HZ1 := Lib.hid hz1
  have HW1 := Lib.hid hW1
  have HC1 := Lib.hid hC1
  clear con hW hsz hz1 hW1 hC1 cE c1
  go_enter Try.func7, Try.ntmps7
  go_upto_region 3 with fail
  rw [← HW.out]
  obtain ⟨x0, x1, x2, x3⟩ := (show Row W (w.heap.size + 1 + 1) 24 (graphCells (.slice (some ⟨w.heap.size + 1, 0, none⟩) 3 3) cG0) from r2).graph
  go_wp2_with fail
  rw [← HW1.out]
  refine CON.out.mono ?_
  rintro e w3 ⟨v, F, rfl, own, hF, hb3⟩
  obtain ⟨A3, c3, rfl, l3, m3, C3, -⟩ := own.readN
  have hW3 : W.heap.size ≤ w3.heap.size := Nat.le_trans hb1.size hb3.size
  have b13 := hb1.trans (hb3.mono hb1.size)
  have t3 := hbW.trans (b13.mono hbW.size)
  have hCB := Kd.C_mono hb3 HC1.out
  obtain ⟨W5, hW5, cGr, cE5, cU5, hb5, hz5⟩ := awake25_mem2 w3 (w.heap.size + 1) hCB
  haveI : Inhabited (Fin [cG0, cG1, cG2].length) := ⟨⟨0, by decide⟩⟩
  have hsel : ∀ x ∈ selN [true, true, true] 1 [true, true, true].length, x < [cG0, cG1, cG2].length := by decide
  have con2 := funcs_small (some ⟨w3.heap.size, 0, none⟩) 3 [cG0, cG1, cG2] 1 (some ⟨w3.heap.size + 1, 0, none⟩) 1 [cE2] (some ⟨w3.heap.size + 1 + 1, 0, none⟩) 3 [true, true, true] W5 (by decide) cGr cE5 (by
    intro e he
    rw [List.mem_singleton] at he
    subst he
    unfold Edge.wf
    decide) (by decide) cU5 rfl (by decide) (by decide) hsel
  have hres : (1 :: (sortT [cE2] [cG0, cG1, cG2] [cG0, cG1, cG2].length (finL [cG0, cG1, cG2].length (selN [true, true, true] 1 [true, true, true].length) hsel)).map Fin.val) = [1, 2, 0] := by
    rw [show (sortT [cE2] [cG0, cG1, cG2] [cG0, cG1, cG2].length (finL [cG0, cG1, cG2].length (selN [true, true, true] 1 [true, true, true].length) hsel)).map Fin.val = [2, 0] from cSort (by decide)]
  rw [hres] at con2
  change Calls Try.prog 12 #[.slice (some ⟨w3.heap.size, 0, none⟩) 3 3, .int .i64 1, .slice (some ⟨w3.heap.size + 1, 0, none⟩) 1 1, .slice (some ⟨w3.heap.size + 1 + 1, 0, none⟩) 3 3] W5 _ at con2
  have CON2 := Lib.hid con2
  have HW5 := Lib.hid hW5
  have C3I := C3.ints
  have HC3 := Lib.hid C3I
  have R3 := r2.below b13
  clear con2 hres hsel hW5 hz5 cGr cE5 cU5 own l3 m3 C3 hF hCB x0 x1 x2 x3 C3I
  have x0 := R3.cell (j := 0) rfl
  have x1 := R3.cell (j := 1) rfl
  have x2 := R3.cell (j := 2) rfl
  have x3 := R3.cell (j := 3) rfl
  go_wp2_with fail
  rw [← HW5.out]
  refine CON2.out.mono ?_
  rintro e w6 ⟨v6, F6, rfl, own6, hF6, hb6⟩
  obtain ⟨A6, c6, rfl, l6, m6, C6, -⟩ := own6.readN
  have t5 := t3.trans (hb5.mono t3.size)
  have t6 := t5.trans (hb6.mono t5.size)
  have b36 := hb5.trans (hb6.mono hb5.size)
  have b7 := below_alloc' w6 (.cells #[.int .i64 0, .int .i64 2, .int .i64 1] 3)
  have t7 := t6.trans (b7.mono t6.size)
  have q1 := (HC3.out.below b36).below b7
  have q2 : CellsI (w6.alloc (.cells #[.int .i64 0, .int .i64 2, .int .i64 1] 3)) (some ⟨w6.heap.size, 0, none⟩) (toI [0, 2, 1]) := lit3 w6 0 2 1 _
  have Q1 := Lib.hid q1
  have Q2 := Lib.hid q2
  have HC6 := Lib.hid (C6.ints.below b7)
  clear q1 q2 own6 C6 l6 m6 hF6 x0 x1 x2 x3 R3 r2 r0
  go_wp2_with fail
  refine (ints_calls A3 _ c3 3 (toI [0, 2, 1]) (toI [0, 2, 1]) _ Q1.out Q2.out (by decide)).mono ?_
  rw [show (toI [0, 2, 1] == toI [0, 2, 1]) = true from by decide]
  rintro e w8 ⟨rfl, n8, rfl⟩
  have t8 := Below.drewN t7 n8
  have HC8 : Hid (CellsI ((w6.alloc (.cells #[.int .i64 0, .int .i64 2, .int .i64 1] 3)).drewN n8) A6 (toI [1, 2, 0])) := Lib.hid HC6.out
  clear HC6 Q1 Q2 t7 b7
  generalize (w6.alloc (.cells #[.int .i64 0, .int .i64 2, .int .i64 1] 3)).drewN n8 = w9 at *
  have b10 := below_alloc' w9 (.cells #[.int .i64 1, .int .i64 2, .int .i64 0] 3)
  have q1 := HC8.out.below b10
  have q2 : CellsI (w9.alloc (.cells #[.int .i64 1, .int .i64 2, .int .i64 0] 3)) (some ⟨w9.heap.size, 0, none⟩) (toI [1, 2, 0]) := lit3 w9 1 2 0 _
  have t10 := t8.trans (b10.mono t8.size)
  have Q1 := Lib.hid q1
  have Q2 := Lib.hid q2
  clear q1 q2 b10
  go_wp2_with fail
  refine (ints_calls A6 _ c6 3 (toI [1, 2, 0]) (toI [1, 2, 0]) _ Q1.out Q2.out (by decide)).mono ?_
  rw [show (toI [1, 2, 0] == toI [1, 2, 0]) = true from by decide]
  rintro e w11 ⟨rfl, n11, rfl⟩
  go_wp2_with fail
  go_ret
  exact ⟨rfl, Below.drewN t10 n11⟩
end Go.Proofs.Ythnkikdbllkmkaa
