/- Layer 19 (live): what is live ahead of an end. Printed in part by genEb.py of this repository. -/
import Derived.Test.YtobhjjbhlnbcpaaEa
import Derived.Test.YtobhjjbhlnbcpaaFh
import Derived.Deep.RegionHeld3
namespace Go.Proofs.Ytobhjjbhlnbcpaa
set_option linter.unusedVariables false
set_option linter.unusedSimpArgs false
open Go.RowKit

theorem branch_right {op a b : Int} (h1 : 15 ≤ op ∧ op ≤ 18) (ha : 0 ≤ a ∧ a < 16) (hb : 0 ≤ b ∧ b < 16) : Ins.right ⟨op, a, b, 0, 0⟩ = true := by
  have h : op = 15 ∨ op = 16 ∨ op = 17 ∨ op = 18 := by omega
  unfold Ins.right three near branch far one reg
  rcases h with rfl | rfl | rfl | rfl <;> (simp; omega)
theorem Term.right_jump {t : Term} {n f : Int} (h : t.right n f = true) (hk : t.kind = 1) : 0 ≤ t.to ∧ t.to < n := by
  unfold Term.right at h
  rw [if_pos hk] at h
  simp at h
  omega
theorem Term.right_branch {t : Term} {n f : Int} (h : t.right n f = true) (hk : t.kind = 2) : (0 ≤ t.to ∧ t.to < n) ∧ (0 ≤ t.els ∧ t.els < n) ∧ (15 ≤ t.op ∧ t.op ≤ 18) ∧ (0 ≤ t.a ∧ t.a < 16) ∧ (0 ≤ t.b ∧ t.b < 16) := by
  unfold Term.right at h
  rw [if_neg (by omega), if_neg (by omega), if_neg (by omega)] at h
  simp at h
  omega
theorem Term.right_end {t : Term} {n f : Int} (h : t.right n f = true) (hk : t.kind = 3) : t.ins.right = true := by
  unfold Term.right at h
  rw [if_neg (by omega), if_neg (by omega), if_pos hk] at h
  simp at h
  exact h.1.2
theorem getD_get {xs : List Nat} {i x : Nat} (h : xs[i]? = some x) : xs.getD i 0 = x := by rw [List.getD_eq_getElem?_getD, h]; rfl
theorem endN_lt {t : Term} {f : Int} {ins : List Nat} (h : t.right ins.length f = true) (hi : ∀ x ∈ ins, x < 65536) : endN t ins < 65536 := by
  have hg : ∀ i : Nat, ins.getD i 0 < 65536 := fun i => by
    rw [List.getD_eq_getElem?_getD]
    cases hx : ins[i]? with
    | none => decide
    | some x => exact hi x (List.mem_of_getElem? hx)
  unfold endN
  split
  · exact hg _
  · split
    · rename_i hk
      obtain ⟨-, -, h1, h2, h3⟩ := Term.right_branch h hk
      exact Nat.or_lt_two_pow (n := 16) (Nat.or_lt_two_pow (n := 16) (hg _) (hg _)) (reads_setN (branch_right h1 h2 h3))
    · split
      · rename_i hk
        exact reads_setN (Term.right_end h hk.1)
      · decide

/-- What a branch's end reads. -/
def EN (w : World) (g : Nat) (ad : Addr) (t : Term) (m1 m2 x y : Nat) : Prop := w.cell? ⟨g, 1, none⟩ = some (.int .i64 t.op) ∧ w.cell? ⟨g, 2, none⟩ = some (.int .i64 t.a) ∧ w.cell? ⟨g, 3, none⟩ = some (.int .i64 t.b) ∧ w.cell? ⟨g, 4, none⟩ = some (.int .i64 (m1 : Int)) ∧ w.cell? ⟨g, 5, none⟩ = some (.int .i64 (m2 : Int)) ∧ w.cell? (ad.add m1) = some (.int .u16 (x : Int)) ∧ w.cell? (ad.add m2) = some (.int .u16 (y : Int))
theorem EN.sub {w w' : World} {g : Nat} {ad : Addr} {t : Term} {m1 m2 x y : Nat} (h : EN w g ad t m1 m2 x y) (hs : Sub w w') : EN w' g ad t m1 m2 x y := by
  obtain ⟨s0, s1, s2, s3, s4, s5, s6⟩ := h
  exact ⟨hs _ _ s0, hs _ _ s1, hs _ _ s2, hs _ _ s3, hs _ _ s4, hs _ _ s5, hs _ _ s6⟩

set_option maxHeartbeats 4000000 in
set_option maxRecDepth 100000 in
theorem liveEnd_calls (t : Term) (f : Int) (A : Option Addr) (c : Nat) (ins : List Nat) (w : World) (ht : t.right ins.length f = true) (hC : CellsU w A ins) (hl : ins.length ≤ 1000000) : Calls Try.prog 48 #[.agg #[.int .i64 t.kind, .int .i64 t.op, .int .i64 t.a, .int .i64 t.b, .int .i64 t.to, .int .i64 t.els, .int .i64 t.ins.op, .int .i64 t.ins.a, .int .i64 t.ins.b, .int .i64 t.ins.c, .int .i64 t.ins.imm], .slice A ins.length c] w fun e w' => e = .returned (.int .u16 (endN t ins : Int)) ∧ Below w.heap.size w w' := by
  have b0 := below_alloc' w (.cells #[.int .i64 t.kind, .int .i64 t.op, .int .i64 t.a, .int .i64 t.b, .int .i64 t.to, .int .i64 t.els, .int .i64 t.ins.op, .int .i64 t.ins.a, .int .i64 t.ins.b, .int .i64 t.ins.c, .int .i64 t.ins.imm] 41)
  have r0 : Row (w.alloc (.cells #[.int .i64 t.kind, .int .i64 t.op, .int .i64 t.a, .int .i64 t.b, .int .i64 t.to, .int .i64 t.els, .int .i64 t.ins.op, .int .i64 t.ins.a, .int .i64 t.ins.b, .int .i64 t.ins.c, .int .i64 t.ins.imm] 41)) w.heap.size 41 (finCells t) := Row.new w _ _
  have hl0 : ins.length ≤ 9223372036854775807 := by omega
  have hC1 := hC.sub (Sub.of_below b0)
  have HT := Lib.hid ht
  clear ht hC
  by_cases h1 : t.kind = 1
  · obtain ⟨h0, hlt⟩ := Term.right_jump HT.out h1
    obtain ⟨m, hm⟩ := Int.eq_ofNat_of_zero_le h0
    obtain ⟨x, hx⟩ := get_some ins m (by omega)
    obtain ⟨ad, rfl, c0, -⟩ := hC1 m x hx
    have HE : Hid (endN t ins = x) := Lib.hid (by unfold endN; rw [if_pos h1, hm]; exact getD_get hx)
    have hml : m < ins.length := by omega
    have z1 : (t.kind == 1) = true := by simp [h1]
    have HMM := Lib.hid hm
    clear h1 h0 hlt hx hm
    go_enter Try.func48, Try.ntmps48
    go_upto_region 1 with fail
    generalize w.alloc (.cells #[.int .i64 t.kind, .int .i64 t.op, .int .i64 t.a, .int .i64 t.b, .int .i64 t.to, .int .i64 t.els, .int .i64 t.ins.op, .int .i64 t.ins.a, .int .i64 t.ins.b, .int .i64 t.ins.c, .int .i64 t.ins.imm] 41) = W at *
    have x0 := r0.cell (j := 0) rfl
    have x4 := r0.cell (j := 4) rfl
    rw [HMM.out] at x4
    go_wp2_with fail
    go_ret
    exact ⟨by rw [HE.out]; rfl, b0⟩
  · have z1 : (t.kind == 1) = false := by simp [h1]
    by_cases h2 : t.kind = 2
    · obtain ⟨⟨h0, hlt⟩, ⟨h0', hlt'⟩, hop, ha, hb⟩ := Term.right_branch HT.out h2
      obtain ⟨m1, hm1⟩ := Int.eq_ofNat_of_zero_le h0
      obtain ⟨m2, hm2⟩ := Int.eq_ofNat_of_zero_le h0'
      obtain ⟨x, hx⟩ := get_some ins m1 (by omega)
      obtain ⟨y, hy⟩ := get_some ins m2 (by omega)
      obtain ⟨ad, rfl, c1, hx6⟩ := hC1 m1 x hx
      obtain ⟨ad', ead, c2, hy6⟩ := hC1 m2 y hy
      injection ead with ead
      subst ead
      have hrr := branch_right hop ha hb
      have HE : Hid (endN t ins = x ||| y ||| setN (readsList t.op t.a t.b 0)) := Lib.hid (by unfold endN; rw [if_neg h1, if_pos h2, hm1, hm2]; show ins.getD m1 0 ||| ins.getD m2 0 ||| _ = _; rw [getD_get hx, getD_get hy])
      have hml1 : m1 < ins.length := by omega
      have hml2 : m2 < ins.length := by omega
      have z2 : (t.kind == 2) = true := by simp [h2]
      have hsl := reads_setN hrr
      have hmem := reads_mem hrr
      have hrl := readsList_len t.op t.a t.b 0
      have HM := Lib.hid hmem
      have HSL := Lib.hid hsl
      have HM1 := Lib.hid hm1
      have HM2 := Lib.hid hm2
      have hxy : x ||| y < 65536 := Nat.or_lt_two_pow (n := 16) hx6 hy6
      have hor1 := u16_or_nat x y hx6 hy6
      have hor2 := u16_or_nat (x ||| y) _ hxy hsl
      rw [← HE.out] at hor2
      have HO1 := Lib.hid hor1
      have HO2 := Lib.hid hor2
      clear h1 h2 h0 hlt h0' hlt' hx hy hm1 hm2 hop ha hb hrr hsl hmem hxy hor1 hor2 hx6 hy6
      go_enter Try.func48, Try.ntmps48
      go_upto_region 1 with fail
      generalize w.alloc (.cells #[.int .i64 t.kind, .int .i64 t.op, .int .i64 t.a, .int .i64 t.b, .int .i64 t.to, .int .i64 t.els, .int .i64 t.ins.op, .int .i64 t.ins.a, .int .i64 t.ins.b, .int .i64 t.ins.c, .int .i64 t.ins.imm] 41) = W at *
      have x0 := r0.cell (j := 0) rfl
      have x4 := r0.cell (j := 4) rfl
      have x5 := r0.cell (j := 5) rfl
      rw [HM1.out] at x4
      rw [HM2.out] at x5
      have E0 : EN W w.heap.size ad t m1 m2 x y := ⟨r0.cell rfl, r0.cell rfl, r0.cell rfl, x4, x5, c1, c2⟩
      have bd := (Below.refl W.heap.size W).drew
      have hor1 := HO1.out
      have hor2 := HO2.out
      go_upto_region 5 with fail
      refine wp_region_held_drew (S := (fun w' => EN w' w.heap.size ad t m1 m2 x y)) (by kernel_rfl) (E0) (fun hHeld => ?_)
      refine wpAnyH_take (i := 0) (oi := _) (v := ?v5n1_0) rfl (by kernel_rfl) (by kernel_rfl) (by kernel_rfl) (fun _ _ _ h => h) (Or.inl ⟨by rfl, ?hy5n1_0⟩) hHeld ?_
      case hy5n1_0 => (intro wS hSw; (try dsimp only at hSw); obtain ⟨s0, s1, s2, s3, s4, s5, s6⟩ := hSw; go_simp; try with_reducible rfl)
      try simp only [List.getElem_toArray, List.getElem_cons_succ, List.getElem_cons_zero, Act.put, List.setIfInBounds_toArray, List.set_cons_zero, List.set_cons_succ]
      refine wpAnyH_take (i := 1) (oi := _) (v := ?v5n1_1) rfl (by kernel_rfl) (by kernel_rfl) (by kernel_rfl) (fun _ _ _ h => h) (Or.inl ⟨by rfl, ?hy5n1_1⟩) hHeld ?_
      case hy5n1_1 => (intro wS hSw; (try dsimp only at hSw); obtain ⟨s0, s1, s2, s3, s4, s5, s6⟩ := hSw; go_simp; try with_reducible rfl)
      try simp only [List.getElem_toArray, List.getElem_cons_succ, List.getElem_cons_zero, Act.put, List.setIfInBounds_toArray, List.set_cons_zero, List.set_cons_succ]
      refine wpAnyH_take (i := 2) (oi := _) (v := ?v5n1_2) rfl (by kernel_rfl) (by kernel_rfl) (by kernel_rfl) (fun _ _ _ h => h) (Or.inl ⟨by rfl, ?hy5n1_2⟩) hHeld ?_
      case hy5n1_2 => (intro wS hSw; (try dsimp only at hSw); obtain ⟨s0, s1, s2, s3, s4, s5, s6⟩ := hSw; go_simp; try with_reducible rfl)
      try simp only [List.getElem_toArray, List.getElem_cons_succ, List.getElem_cons_zero, Act.put, List.setIfInBounds_toArray, List.set_cons_zero, List.set_cons_succ]
      refine wpAnyH_take (i := 3) (oi := _) (v := ?v5n1_3) rfl (by kernel_rfl) (by kernel_rfl) (by kernel_rfl) (fun _ _ _ h => h) (Or.inl ⟨by rfl, ?hy5n1_3⟩) hHeld ?_
      case hy5n1_3 => (intro wS hSw; (try dsimp only at hSw); obtain ⟨s0, s1, s2, s3, s4, s5, s6⟩ := hSw; go_simp; try with_reducible rfl)
      try simp only [List.getElem_toArray, List.getElem_cons_succ, List.getElem_cons_zero, Act.put, List.setIfInBounds_toArray, List.set_cons_zero, List.set_cons_succ]
      refine wpAnyH_take (i := 4) (oi := _) (v := ?v5n1_4) rfl (by kernel_rfl) (by kernel_rfl) (by kernel_rfl) (fun _ _ _ h => h) (Or.inl ⟨by rfl, ?hy5n1_4⟩) hHeld ?_
      case hy5n1_4 => (intro wS hSw; (try dsimp only at hSw); obtain ⟨s0, s1, s2, s3, s4, s5, s6⟩ := hSw; go_simp; try with_reducible rfl)
      try simp only [List.getElem_toArray, List.getElem_cons_succ, List.getElem_cons_zero, Act.put, List.setIfInBounds_toArray, List.set_cons_zero, List.set_cons_succ]
      refine wpAnyH_take (i := 5) (oi := _) (v := ?v5n1_5) rfl (by kernel_rfl) (by kernel_rfl) (by kernel_rfl) (fun _ _ _ h => h) (Or.inl ⟨by rfl, ?hy5n1_5⟩) hHeld ?_
      case hy5n1_5 => (intro wS hSw; (try dsimp only at hSw); obtain ⟨s0, s1, s2, s3, s4, s5, s6⟩ := hSw; go_simp; try with_reducible rfl)
      try simp only [List.getElem_toArray, List.getElem_cons_succ, List.getElem_cons_zero, Act.put, List.setIfInBounds_toArray, List.set_cons_zero, List.set_cons_succ]
      refine wpAnyH_take (i := 6) (oi := _) (v := ?v5n1_6) rfl (by kernel_rfl) (by kernel_rfl) (by kernel_rfl) (fun _ _ _ h => h) (Or.inl ⟨by rfl, ?hy5n1_6⟩) hHeld ?_
      case hy5n1_6 => (intro wS hSw; (try dsimp only at hSw); obtain ⟨s0, s1, s2, s3, s4, s5, s6⟩ := hSw; go_simp; try with_reducible rfl)
      try simp only [List.getElem_toArray, List.getElem_cons_succ, List.getElem_cons_zero, Act.put, List.setIfInBounds_toArray, List.set_cons_zero, List.set_cons_succ]
      refine wpAnyH_take (i := 7) (oi := _) (v := ?v5n1_7) rfl (by kernel_rfl) (by kernel_rfl) (by kernel_rfl) (fun _ _ _ h => h) (Or.inl ⟨by rfl, ?hy5n1_7⟩) hHeld ?_
      case hy5n1_7 => (intro wS hSw; (try dsimp only at hSw); obtain ⟨s0, s1, s2, s3, s4, s5, s6⟩ := hSw; go_simp; try with_reducible rfl)
      try simp only [List.getElem_toArray, List.getElem_cons_succ, List.getElem_cons_zero, Act.put, List.setIfInBounds_toArray, List.set_cons_zero, List.set_cons_succ]
      refine wpAnyH_take (i := 8) (oi := _) (v := ?v5n1_8) rfl (by kernel_rfl) (by kernel_rfl) (by kernel_rfl) (fun _ _ _ h => h) (Or.inl ⟨by rfl, ?hy5n1_8⟩) hHeld ?_
      case hy5n1_8 => (intro wS hSw; (try dsimp only at hSw); obtain ⟨s0, s1, s2, s3, s4, s5, s6⟩ := hSw; go_simp; try with_reducible rfl)
      try simp only [List.getElem_toArray, List.getElem_cons_succ, List.getElem_cons_zero, Act.put, List.setIfInBounds_toArray, List.set_cons_zero, List.set_cons_succ]
      refine wpAnyH_take (i := 9) (oi := _) (v := ?v5n1_9) rfl (by kernel_rfl) (by kernel_rfl) (by kernel_rfl) (fun _ _ _ h => h) (Or.inl ⟨by rfl, ?hy5n1_9⟩) hHeld ?_
      case hy5n1_9 => (intro wS hSw; (try dsimp only at hSw); obtain ⟨s0, s1, s2, s3, s4, s5, s6⟩ := hSw; go_simp; try with_reducible rfl)
      try simp only [List.getElem_toArray, List.getElem_cons_succ, List.getElem_cons_zero, Act.put, List.setIfInBounds_toArray, List.set_cons_zero, List.set_cons_succ]
      refine wpAnyH_take (i := 10) (oi := _) (v := ?v5n1_10) rfl (by kernel_rfl) (by kernel_rfl) (by kernel_rfl) (fun _ _ _ h => h) (Or.inl ⟨by rfl, ?hy5n1_10⟩) hHeld ?_
      case hy5n1_10 => (intro wS hSw; (try dsimp only at hSw); obtain ⟨s0, s1, s2, s3, s4, s5, s6⟩ := hSw; go_simp; try with_reducible rfl)
      try simp only [List.getElem_toArray, List.getElem_cons_succ, List.getElem_cons_zero, Act.put, List.setIfInBounds_toArray, List.set_cons_zero, List.set_cons_succ]
      refine wpAnyH_take (i := 11) (oi := _) (v := ?v5n1_11) rfl (by kernel_rfl) (by kernel_rfl) (by kernel_rfl) (fun _ _ _ h => h) (Or.inl ⟨by rfl, ?hy5n1_11⟩) hHeld ?_
      case hy5n1_11 => (intro wS hSw; (try dsimp only at hSw); obtain ⟨s0, s1, s2, s3, s4, s5, s6⟩ := hSw; go_simp; try with_reducible rfl)
      try simp only [List.getElem_toArray, List.getElem_cons_succ, List.getElem_cons_zero, Act.put, List.setIfInBounds_toArray, List.set_cons_zero, List.set_cons_succ]
      refine wpAnyH_take (i := 12) (oi := _) (v := ?v5n1_12) rfl (by kernel_rfl) (by kernel_rfl) (by kernel_rfl) (fun _ _ _ h => h) (Or.inl ⟨by rfl, ?hy5n1_12⟩) hHeld ?_
      case hy5n1_12 => (intro wS hSw; (try dsimp only at hSw); obtain ⟨s0, s1, s2, s3, s4, s5, s6⟩ := hSw; go_simp; try with_reducible rfl)
      try simp only [List.getElem_toArray, List.getElem_cons_succ, List.getElem_cons_zero, Act.put, List.setIfInBounds_toArray, List.set_cons_zero, List.set_cons_succ]
      refine wpAnyH_take (i := 13) (oi := _) (v := ?v5n1_13) rfl (by kernel_rfl) (by kernel_rfl) (by kernel_rfl) (fun _ _ _ h => h) (Or.inl ⟨by rfl, ?hy5n1_13⟩) hHeld ?_
      case hy5n1_13 => (intro wS hSw; (try dsimp only at hSw); obtain ⟨s0, s1, s2, s3, s4, s5, s6⟩ := hSw; go_simp; try with_reducible rfl)
      try simp only [List.getElem_toArray, List.getElem_cons_succ, List.getElem_cons_zero, Act.put, List.setIfInBounds_toArray, List.set_cons_zero, List.set_cons_succ]
      refine wpAnyH_take (i := 14) (oi := _) (v := ?v5n1_14) rfl (by kernel_rfl) (by kernel_rfl) (by kernel_rfl) (fun _ _ _ h => h) (Or.inl ⟨by rfl, ?hy5n1_14⟩) hHeld ?_
      case hy5n1_14 => (intro wS hSw; (try dsimp only at hSw); obtain ⟨s0, s1, s2, s3, s4, s5, s6⟩ := hSw; go_simp; try with_reducible rfl)
      try simp only [List.getElem_toArray, List.getElem_cons_succ, List.getElem_cons_zero, Act.put, List.setIfInBounds_toArray, List.set_cons_zero, List.set_cons_succ]
      refine wpAnyH_take (i := 15) (oi := _) (v := ?v5n1_15) rfl (by kernel_rfl) (by kernel_rfl) (by kernel_rfl) (fun _ _ _ h => h) (Or.inl ⟨by rfl, ?hy5n1_15⟩) hHeld ?_
      case hy5n1_15 => (intro wS hSw; (try dsimp only at hSw); obtain ⟨s0, s1, s2, s3, s4, s5, s6⟩ := hSw; go_simp; try with_reducible rfl)
      try simp only [List.getElem_toArray, List.getElem_cons_succ, List.getElem_cons_zero, Act.put, List.setIfInBounds_toArray, List.set_cons_zero, List.set_cons_succ]
      refine wpAnyH_take (i := 16) (oi := _) (v := ?v5n1_16) rfl (by kernel_rfl) (by kernel_rfl) (by kernel_rfl) (fun _ _ _ h => h) (Or.inl ⟨by rfl, ?hy5n1_16⟩) hHeld ?_
      case hy5n1_16 => (intro wS hSw; (try dsimp only at hSw); obtain ⟨s0, s1, s2, s3, s4, s5, s6⟩ := hSw; go_simp; try with_reducible rfl)
      try simp only [List.getElem_toArray, List.getElem_cons_succ, List.getElem_cons_zero, Act.put, List.setIfInBounds_toArray, List.set_cons_zero, List.set_cons_succ]
      refine wpAnyH_take (i := 17) (oi := _) (v := ?v5n1_17) rfl (by kernel_rfl) (by kernel_rfl) (by kernel_rfl) (fun _ _ _ h => h) (Or.inl ⟨by rfl, ?hy5n1_17⟩) hHeld ?_
      case hy5n1_17 => (intro wS hSw; (try dsimp only at hSw); obtain ⟨s0, s1, s2, s3, s4, s5, s6⟩ := hSw; go_simp; try with_reducible rfl)
      try simp only [List.getElem_toArray, List.getElem_cons_succ, List.getElem_cons_zero, Act.put, List.setIfInBounds_toArray, List.set_cons_zero, List.set_cons_succ]
      refine wpAnyH_ready (rs := [18]) (by kernel_rfl) (by simp) ?_
      refine AllReadyH.cons (o := _) rfl (fun K hK => ?_) AllReadyH.nil
      go_simp
      refine (flowReads_calls _ _ _ _ _ _).mono ?_
      rintro e w3 ⟨v3, rfl, ho3, hb3⟩
      obtain ⟨A3, c3, rfl, l3, m3, hC3⟩ := ho3.read
      go_wp2_with fail
      refine hK.out _ _ (EN.sub hHeld (Sub.of_below hb3)) (fun hHeld18 => ?_)
      clear hK K hHeld
      try simp only [List.getElem_toArray, List.getElem_cons_succ, List.getElem_cons_zero, Act.put, List.setIfInBounds_toArray, List.set_cons_zero, List.set_cons_succ]
      refine wpAnyH_ready (rs := [19]) (by kernel_rfl) (by simp) ?_
      refine AllReadyH.cons (o := _) rfl (fun K hK => ?_) AllReadyH.nil
      go_simp
      refine (set_calls _ _ _ _ hC3 (fun x hx => by have := HM.out x hx; omega) (by omega)).mono ?_
      rintro e w4 ⟨rfl, rfl⟩
      go_wp2_with fail
      refine hK.out _ _ (hHeld18) (fun hHeld19 => ?_)
      clear hK K hHeld18
      try simp only [List.getElem_toArray, List.getElem_cons_succ, List.getElem_cons_zero, Act.put, List.setIfInBounds_toArray, List.set_cons_zero, List.set_cons_succ]
      refine wpAnyH_take (i := 20) (oi := _) (v := ?v5n1_20) rfl (by kernel_rfl) (by kernel_rfl) (by kernel_rfl) (fun _ _ _ h => h) (Or.inl ⟨by rfl, ?hy5n1_20⟩) hHeld19 ?_
      case hy5n1_20 => (intro wS hSw; (try dsimp only at hSw); obtain ⟨s0, s1, s2, s3, s4, s5, s6⟩ := hSw; go_simp; try with_reducible rfl)
      try simp only [List.getElem_toArray, List.getElem_cons_succ, List.getElem_cons_zero, Act.put, List.setIfInBounds_toArray, List.set_cons_zero, List.set_cons_succ]
      refine wpAnyH_take (i := 21) (oi := _) (v := ?v5n1_21) rfl (by kernel_rfl) (by kernel_rfl) (by kernel_rfl) (fun _ _ _ h => h) (Or.inl ⟨by rfl, ?hy5n1_21⟩) hHeld19 ?_
      case hy5n1_21 => (intro wS hSw; (try dsimp only at hSw); obtain ⟨s0, s1, s2, s3, s4, s5, s6⟩ := hSw; go_simp; try with_reducible rfl)
      try simp only [List.getElem_toArray, List.getElem_cons_succ, List.getElem_cons_zero, Act.put, List.setIfInBounds_toArray, List.set_cons_zero, List.set_cons_succ]
      refine wpAnyH_done (by kernel_rfl) ?_ _
      go_wp2_with fail
      go_ret
      exact ⟨rfl, b0.trans ((bd.trans hb3).mono b0.size)⟩
    · have z2 : (t.kind == 2) = false := by simp [h2]
      by_cases h3 : t.kind = 3
      · have hrr := Term.right_end HT.out h3
        by_cases h21 : t.ins.op = 21
        · have HE : Hid (endN t ins = 65534) := Lib.hid (by unfold endN; rw [if_neg h1, if_neg h2, if_neg (fun h => h.2 h21)])
          have z3 : (t.kind == 3) = true := by simp [h3]
          have z4 : (t.ins.op != 21) = false := by simp [h21]
          clear h1 h2 h3 h21
          go_enter Try.func48, Try.ntmps48
          go_upto_region 1 with fail
          generalize w.alloc (.cells #[.int .i64 t.kind, .int .i64 t.op, .int .i64 t.a, .int .i64 t.b, .int .i64 t.to, .int .i64 t.els, .int .i64 t.ins.op, .int .i64 t.ins.a, .int .i64 t.ins.b, .int .i64 t.ins.c, .int .i64 t.ins.imm] 41) = W at *
          have x0 := r0.cell (j := 0) rfl
          have x6 := r0.cell (j := 6) rfl
          go_wp2_with fail
          go_ret
          exact ⟨by rw [HE.out]; rfl, b0⟩
        · have HE : Hid (endN t ins = setN (readsList t.ins.op t.ins.a t.ins.b t.ins.c)) := Lib.hid (by unfold endN; rw [if_neg h1, if_neg h2, if_pos ⟨h3, h21⟩])
          have z3 : (t.kind == 3) = true := by simp [h3]
          have z4 : (t.ins.op != 21) = true := by simp [h21]
          have hmem := reads_mem hrr
          have hrl := readsList_len t.ins.op t.ins.a t.ins.b t.ins.c
          have HM := Lib.hid hmem
          clear h1 h2 h3 h21 hmem hrr
          go_enter Try.func48, Try.ntmps48
          go_upto_region 1 with fail
          generalize w.alloc (.cells #[.int .i64 t.kind, .int .i64 t.op, .int .i64 t.a, .int .i64 t.b, .int .i64 t.to, .int .i64 t.els, .int .i64 t.ins.op, .int .i64 t.ins.a, .int .i64 t.ins.b, .int .i64 t.ins.c, .int .i64 t.ins.imm] 41) = W at *
          have x0 := r0.cell (j := 0) rfl
          have x6 := r0.cell (j := 6) rfl
          have x7 := r0.cell (j := 7) rfl
          have x8 := r0.cell (j := 8) rfl
          have x9 := r0.cell (j := 9) rfl
          have x10 := r0.cell (j := 10) rfl
          go_wp2_with fail
          refine (flowReads_calls _ _ _ _ _ _).mono ?_
          rintro e w3 ⟨v3, rfl, ho3, hb3⟩
          obtain ⟨A3, c3, rfl, l3, m3, hC3⟩ := ho3.read
          go_wp2_with fail
          refine (set_calls _ _ _ _ hC3 (fun x hx => by have := HM.out x hx; omega) (by omega)).mono ?_
          rintro e w4 ⟨rfl, rfl⟩
          go_wp2_with fail
          go_ret
          exact ⟨by rw [HE.out]; rfl, b0.trans (hb3.mono b0.size)⟩
      · have z3 : (t.kind == 3) = false := by simp [h3]
        have HE : Hid (endN t ins = 65534) := Lib.hid (by unfold endN; rw [if_neg h1, if_neg h2, if_neg (fun h => h3 h.1)])
        clear h1 h2 h3
        go_enter Try.func48, Try.ntmps48
        go_upto_region 1 with fail
        generalize w.alloc (.cells #[.int .i64 t.kind, .int .i64 t.op, .int .i64 t.a, .int .i64 t.b, .int .i64 t.to, .int .i64 t.els, .int .i64 t.ins.op, .int .i64 t.ins.a, .int .i64 t.ins.b, .int .i64 t.ins.c, .int .i64 t.ins.imm] 41) = W at *
        have x0 := r0.cell (j := 0) rfl
        go_wp2_with fail
        go_ret
        exact ⟨by rw [HE.out]; rfl, b0⟩
end Go.Proofs.Ytobhjjbhlnbcpaa
