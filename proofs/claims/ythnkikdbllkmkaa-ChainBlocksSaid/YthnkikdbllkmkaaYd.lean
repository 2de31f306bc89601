/- chain.edge: a kind of value; slices.SortFunc over a slice of such of the call's own; the closure that compares. Printed in part by genYd.py of this repository. -/
import Derived.Test.YthnkikdbllkmkaaYc
import Derived.Test.YthnkikdbllkmkaaSj
import Derived.Test.YthnkikdbllkmkaaGc
import Derived.Deep.RegionHeld3
namespace Go.Proofs.Ythnkikdbllkmkaa
set_option linter.unusedVariables false
set_option linter.unusedSimpArgs false
open Go.RowKit
open Go.Sort (grow putRowK HoldsK flatK putRow Holds putCells mapBlock onCells size_flatK get_flatK heap_grow_old PermIn SortedIn SWO alloc_eq_grow grow_grow drew_grow)
attribute [local go_sem] run_store_float

/-- An edge with its weight. -/
structure Edg where
  src : Int
  dst : Int
  w : {n : Nat // Fl.posW n}
instance : Inhabited Edg := ⟨⟨0, 0, ⟨0, zero_pos⟩⟩⟩
def encE (x : Edg) : List Value := [.int .i64 x.src, .int .i64 x.dst, .float .f64 x.w.1]
theorem encE_one (x : Edg) : ∀ v ∈ encE x, v.oneCell' = true := by
  intro v hv
  simp only [encE, List.mem_cons, List.not_mem_nil, or_false] at hv
  rcases hv with rfl | rfl | rfl <;> rfl
def kEdg : Kd Edg where
  size := 3
  K := fun _ x cs => cs = encE x
  len := by rintro w x cs rfl; rfl
  one := by rintro w x cs rfl; exact encE_one x
  sub := fun _ h => h
def oEdg : Od Edg := Od.flat kEdg (fun h => h)
def zEdg : Value := .agg #[.int .i64 0, .int .i64 0, .float .f64 0]
theorem elEdg : ElK kEdg 55 52 zEdg 24 := ⟨Try.underlying52, by kernel_rfl, rfl, by decide, by decide⟩

/-- Heavier first, then by where it leads from, then to. -/
def orI (a b c : Int) : Int := if a ≠ 0 then a else if b ≠ 0 then b else c
def cfE (x y : Edg) : Int := orI (cmpW y.w.1 x.w.1) (cmpI x.src y.src) (cmpI x.dst y.dst)
def ltE (x y : Edg) : Prop := y.w.1 < x.w.1 ∨ (x.w.1 = y.w.1 ∧ (x.src < y.src ∨ (x.src = y.src ∧ x.dst < y.dst)))
theorem ltOf_cfE (x y : Edg) : Go.Proofs.ltOf cfE x y = true ↔ ltE x y := by
  unfold Go.Proofs.ltOf cfE orI ltE cmpW cmpI
  rw [decide_eq_true_eq]
  by_cases h1 : y.w.1 < x.w.1
  · simp [h1]
  · by_cases h2 : x.w.1 < y.w.1
    · simp [h1, h2]; omega
    · have he : x.w.1 = y.w.1 := by omega
      by_cases h3 : x.src < y.src
      · simp [h1, h2, he, h3]
      · by_cases h4 : y.src < x.src
        · simp [h1, h2, he, h3, h4]; omega
        · have hs : x.src = y.src := by omega
          by_cases h5 : x.dst < y.dst
          · simp [h1, h2, he, h3, h4, h5, hs]
          · by_cases h6 : y.dst < x.dst
            · simp [h1, h2, he, h3, h4, h5, h6, hs]
            · simp [h1, h2, he, h3, h4, h5, h6, hs]
theorem ltE_irrefl (x : Edg) : ¬ ltE x x := by unfold ltE; omega
theorem ltE_trans {x y z : Edg} (h : ltE x y) (k : ltE y z) : ltE x z := by unfold ltE at *; omega
theorem ltE_total {x y : Edg} (h : ¬ ltE x y) (k : ¬ ltE y x) : x = y := by
  unfold ltE at *
  have h1 : x.w.1 = y.w.1 := by omega
  have h2 : x.src = y.src := by omega
  have h3 : x.dst = y.dst := by omega
  cases x
  cases y
  simp only at h1 h2 h3
  rw [h2, h3, Subtype.ext h1]
theorem swoE : SWO (Go.Proofs.ltOf cfE) where
  irrefl x := by
    cases h : Go.Proofs.ltOf cfE x x with
    | false => rfl
    | true => exact absurd ((ltOf_cfE x x).1 h) (ltE_irrefl x)
  trans x y z h k := (ltOf_cfE x z).2 (ltE_trans ((ltOf_cfE x y).1 h) ((ltOf_cfE y z).1 k))
  ntrans x y z h k := by
    have h' : ¬ ltE x y := fun e => by rw [(ltOf_cfE x y).2 e] at h; cases h
    have k' : ¬ ltE y z := fun e => by rw [(ltOf_cfE y z).2 e] at k; cases k
    cases e : Go.Proofs.ltOf cfE x z with
    | false => rfl
    | true =>
      have e' := (ltOf_cfE x z).1 e
      unfold ltE at *
      omega
theorem totE (x y : Edg) (h : Go.Proofs.ltOf cfE x y = false) (k : Go.Proofs.ltOf cfE y x = false) : x = y :=
  ltE_total (fun e => by rw [(ltOf_cfE x y).2 e] at h; cases h) (fun e => by rw [(ltOf_cfE y x).2 e] at k; cases k)

theorem or3_calls (a b c : Int) (w : World) (g cap : Nat) (hR : Row w g 3 [.int .i64 a, .int .i64 b, .int .i64 c]) : Calls Try.prog 36 #[.slice (some ⟨g, 0, none⟩) 3 cap] w fun e w' => e = .returned (.int .i64 (orI a b c)) ∧ w' = w := by
  have x0 := hR.cell (j := 0) rfl
  have x1 := hR.cell (j := 1) rfl
  have x2 := hR.cell (j := 2) rfl
  clear hR
  have e1 : ∀ z : Int, (z != 0) = decide (z ≠ 0) := fun z => by by_cases h : z = 0 <;> simp [h]
  by_cases ha : a = 0
  · have za : (a != 0) = false := by simp [ha]
    by_cases hb : b = 0
    · have zb : (b != 0) = false := by simp [hb]
      have HE := Lib.hid (show orI a b c = c from by unfold orI; rw [if_neg (by simp [ha]), if_neg (by simp [hb])])
      by_cases hc : c = 0
      · have zc : (c != 0) = false := by simp [hc]
        have HC := Lib.hid hc
        clear ha hb hc e1
        go_enter Try.func36, Try.ntmps36
        go_wp2_with fail
        refine wp_loop_rounds 4 ?_
        rw [rounds_succ]
        go_wp2_with fail
        rw [rounds_succ]
        go_wp2_with fail
        rw [rounds_succ]
        go_wp2_with fail
        rw [rounds_succ]
        go_wp2_with fail
        go_ret
        exact ⟨by rw [HE.out, HC.out]; rfl, rfl⟩
      · have zc : (c != 0) = true := by simp [hc]
        clear ha hb hc e1
        go_enter Try.func36, Try.ntmps36
        go_wp2_with fail
        refine wp_loop_rounds 4 ?_
        rw [rounds_succ]
        go_wp2_with fail
        rw [rounds_succ]
        go_wp2_with fail
        rw [rounds_succ]
        go_wp2_with fail
        go_ret
        exact ⟨by rw [HE.out]; rfl, rfl⟩
    · have zb : (b != 0) = true := by simp [hb]
      have HE := Lib.hid (show orI a b c = b from by unfold orI; rw [if_neg (by simp [ha]), if_pos hb])
      clear ha hb e1
      go_enter Try.func36, Try.ntmps36
      go_wp2_with fail
      refine wp_loop_rounds 4 ?_
      rw [rounds_succ]
      go_wp2_with fail
      rw [rounds_succ]
      go_wp2_with fail
      go_ret
      exact ⟨by rw [HE.out]; rfl, rfl⟩
  · have za : (a != 0) = true := by simp [ha]
    have HE := Lib.hid (show orI a b c = a from by unfold orI; rw [if_pos ha])
    clear ha e1
    go_enter Try.func36, Try.ntmps36
    go_wp2_with fail
    refine wp_loop_rounds 4 ?_
    rw [rounds_succ]
    go_wp2_with fail
    go_ret
    exact ⟨by rw [HE.out]; rfl, rfl⟩

set_option maxHeartbeats 1000000 in
set_option maxRecDepth 100000 in
theorem cmpE_calls (x y : Edg) (W : World) : Calls Try.prog 35 #[.agg (encE x).toArray, .agg (encE y).toArray] W fun e w' => e = .returned (.int .i64 (cfE x y)) ∧ ∃ q os', w' = grow (W.drewN q) os' := by
  obtain ⟨WD, hWD, bW, zW, q1, q2⟩ := two_rows W (encE x).toArray (encE y).toArray 55 55
  have HWD := Lib.hid hWD
  replace q1 : Row WD W.heap.size 55 (encE x) := q1
  replace q2 : Row WD (W.heap.size + 1) 55 (encE y) := q2
  have bd := (Below.refl WD.heap.size WD).drew
  clear hWD zW bW
  go_enter Try.func35, Try.ntmps35
  go_upto_region 1 with fail
  rw [← HWD.out]
  refine wp_region_held_drew (S := (fun w' => Row w' (W.heap.size) 55 (encE x) ∧ Row w' (W.heap.size + 1) 55 (encE y))) (by kernel_rfl) (⟨q1.below bd, q2.below bd⟩) (fun hHeld => ?_)
  refine wpAnyH_take (i := 0) (oi := _) (v := ?v1m1_1) rfl (by kernel_rfl) (by kernel_rfl) (by kernel_rfl) (fun _ _ _ h => h) (Or.inl ⟨by rfl, ?hy1m1_1⟩) hHeld ?_
  case hy1m1_1 => (intro wS hSw; (try dsimp only at hSw); obtain ⟨hS1, hS2⟩ := hSw; have s0 := hS1.cell (j := 0) rfl; have s1 := hS1.cell (j := 1) rfl; have s2 := hS1.cell (j := 2) rfl; have v0 := hS2.cell (j := 0) rfl; have v1 := hS2.cell (j := 1) rfl; have v2 := hS2.cell (j := 2) rfl; clear hS1 hS2; go_simp; try with_reducible rfl)
  try simp only [List.getElem_toArray, List.getElem_cons_succ, List.getElem_cons_zero, Act.put, List.setIfInBounds_toArray, List.set_cons_zero, List.set_cons_succ]
  refine wpAnyH_take (i := 1) (oi := _) (v := ?v1m1_2) rfl (by kernel_rfl) (by kernel_rfl) (by kernel_rfl) (fun _ _ _ h => h) (Or.inl ⟨by rfl, ?hy1m1_2⟩) hHeld ?_
  case hy1m1_2 => (intro wS hSw; (try dsimp only at hSw); obtain ⟨hS1, hS2⟩ := hSw; have s0 := hS1.cell (j := 0) rfl; have s1 := hS1.cell (j := 1) rfl; have s2 := hS1.cell (j := 2) rfl; have v0 := hS2.cell (j := 0) rfl; have v1 := hS2.cell (j := 1) rfl; have v2 := hS2.cell (j := 2) rfl; clear hS1 hS2; go_simp; try with_reducible rfl)
  try simp only [List.getElem_toArray, List.getElem_cons_succ, List.getElem_cons_zero, Act.put, List.setIfInBounds_toArray, List.set_cons_zero, List.set_cons_succ]
  refine wpAnyH_take (i := 2) (oi := _) (v := ?v1m1_3) rfl (by kernel_rfl) (by kernel_rfl) (by kernel_rfl) (fun _ _ _ h => h) (Or.inl ⟨by rfl, ?hy1m1_3⟩) hHeld ?_
  case hy1m1_3 => (intro wS hSw; (try dsimp only at hSw); obtain ⟨hS1, hS2⟩ := hSw; have s0 := hS1.cell (j := 0) rfl; have s1 := hS1.cell (j := 1) rfl; have s2 := hS1.cell (j := 2) rfl; have v0 := hS2.cell (j := 0) rfl; have v1 := hS2.cell (j := 1) rfl; have v2 := hS2.cell (j := 2) rfl; clear hS1 hS2; go_simp; try with_reducible rfl)
  try simp only [List.getElem_toArray, List.getElem_cons_succ, List.getElem_cons_zero, Act.put, List.setIfInBounds_toArray, List.set_cons_zero, List.set_cons_succ]
  refine wpAnyH_take (i := 3) (oi := _) (v := ?v1m1_4) rfl (by kernel_rfl) (by kernel_rfl) (by kernel_rfl) (fun _ _ _ h => h) (Or.inl ⟨by rfl, ?hy1m1_4⟩) hHeld ?_
  case hy1m1_4 => (intro wS hSw; (try dsimp only at hSw); obtain ⟨hS1, hS2⟩ := hSw; have s0 := hS1.cell (j := 0) rfl; have s1 := hS1.cell (j := 1) rfl; have s2 := hS1.cell (j := 2) rfl; have v0 := hS2.cell (j := 0) rfl; have v1 := hS2.cell (j := 1) rfl; have v2 := hS2.cell (j := 2) rfl; clear hS1 hS2; go_simp; try with_reducible rfl)
  try simp only [List.getElem_toArray, List.getElem_cons_succ, List.getElem_cons_zero, Act.put, List.setIfInBounds_toArray, List.set_cons_zero, List.set_cons_succ]
  refine wpAnyH_take (i := 5) (oi := _) (v := ?v1m1_5) rfl (by kernel_rfl) (by kernel_rfl) (by kernel_rfl) (fun _ _ _ h => h) (Or.inl ⟨by rfl, ?hy1m1_5⟩) hHeld ?_
  case hy1m1_5 => (intro wS hSw; (try dsimp only at hSw); obtain ⟨hS1, hS2⟩ := hSw; have s0 := hS1.cell (j := 0) rfl; have s1 := hS1.cell (j := 1) rfl; have s2 := hS1.cell (j := 2) rfl; have v0 := hS2.cell (j := 0) rfl; have v1 := hS2.cell (j := 1) rfl; have v2 := hS2.cell (j := 2) rfl; clear hS1 hS2; go_simp; try with_reducible rfl)
  try simp only [List.getElem_toArray, List.getElem_cons_succ, List.getElem_cons_zero, Act.put, List.setIfInBounds_toArray, List.set_cons_zero, List.set_cons_succ]
  refine wpAnyH_take (i := 6) (oi := _) (v := ?v1m1_6) rfl (by kernel_rfl) (by kernel_rfl) (by kernel_rfl) (fun _ _ _ h => h) (Or.inl ⟨by rfl, ?hy1m1_6⟩) hHeld ?_
  case hy1m1_6 => (intro wS hSw; (try dsimp only at hSw); obtain ⟨hS1, hS2⟩ := hSw; have s0 := hS1.cell (j := 0) rfl; have s1 := hS1.cell (j := 1) rfl; have s2 := hS1.cell (j := 2) rfl; have v0 := hS2.cell (j := 0) rfl; have v1 := hS2.cell (j := 1) rfl; have v2 := hS2.cell (j := 2) rfl; clear hS1 hS2; go_simp; try with_reducible rfl)
  try simp only [List.getElem_toArray, List.getElem_cons_succ, List.getElem_cons_zero, Act.put, List.setIfInBounds_toArray, List.set_cons_zero, List.set_cons_succ]
  refine wpAnyH_take (i := 7) (oi := _) (v := ?v1m1_7) rfl (by kernel_rfl) (by kernel_rfl) (by kernel_rfl) (fun _ _ _ h => h) (Or.inl ⟨by rfl, ?hy1m1_7⟩) hHeld ?_
  case hy1m1_7 => (intro wS hSw; (try dsimp only at hSw); obtain ⟨hS1, hS2⟩ := hSw; have s0 := hS1.cell (j := 0) rfl; have s1 := hS1.cell (j := 1) rfl; have s2 := hS1.cell (j := 2) rfl; have v0 := hS2.cell (j := 0) rfl; have v1 := hS2.cell (j := 1) rfl; have v2 := hS2.cell (j := 2) rfl; clear hS1 hS2; go_simp; try with_reducible rfl)
  try simp only [List.getElem_toArray, List.getElem_cons_succ, List.getElem_cons_zero, Act.put, List.setIfInBounds_toArray, List.set_cons_zero, List.set_cons_succ]
  refine wpAnyH_take (i := 8) (oi := _) (v := ?v1m1_8) rfl (by kernel_rfl) (by kernel_rfl) (by kernel_rfl) (fun _ _ _ h => h) (Or.inl ⟨by rfl, ?hy1m1_8⟩) hHeld ?_
  case hy1m1_8 => (intro wS hSw; (try dsimp only at hSw); obtain ⟨hS1, hS2⟩ := hSw; have s0 := hS1.cell (j := 0) rfl; have s1 := hS1.cell (j := 1) rfl; have s2 := hS1.cell (j := 2) rfl; have v0 := hS2.cell (j := 0) rfl; have v1 := hS2.cell (j := 1) rfl; have v2 := hS2.cell (j := 2) rfl; clear hS1 hS2; go_simp; try with_reducible rfl)
  try simp only [List.getElem_toArray, List.getElem_cons_succ, List.getElem_cons_zero, Act.put, List.setIfInBounds_toArray, List.set_cons_zero, List.set_cons_succ]
  refine wpAnyH_take (i := 10) (oi := _) (v := ?v1m1_9) rfl (by kernel_rfl) (by kernel_rfl) (by kernel_rfl) (fun _ _ _ h => h) (Or.inl ⟨by rfl, ?hy1m1_9⟩) hHeld ?_
  case hy1m1_9 => (intro wS hSw; (try dsimp only at hSw); obtain ⟨hS1, hS2⟩ := hSw; have s0 := hS1.cell (j := 0) rfl; have s1 := hS1.cell (j := 1) rfl; have s2 := hS1.cell (j := 2) rfl; have v0 := hS2.cell (j := 0) rfl; have v1 := hS2.cell (j := 1) rfl; have v2 := hS2.cell (j := 2) rfl; clear hS1 hS2; go_simp; try with_reducible rfl)
  try simp only [List.getElem_toArray, List.getElem_cons_succ, List.getElem_cons_zero, Act.put, List.setIfInBounds_toArray, List.set_cons_zero, List.set_cons_succ]
  refine wpAnyH_take (i := 11) (oi := _) (v := ?v1m1_10) rfl (by kernel_rfl) (by kernel_rfl) (by kernel_rfl) (fun _ _ _ h => h) (Or.inl ⟨by rfl, ?hy1m1_10⟩) hHeld ?_
  case hy1m1_10 => (intro wS hSw; (try dsimp only at hSw); obtain ⟨hS1, hS2⟩ := hSw; have s0 := hS1.cell (j := 0) rfl; have s1 := hS1.cell (j := 1) rfl; have s2 := hS1.cell (j := 2) rfl; have v0 := hS2.cell (j := 0) rfl; have v1 := hS2.cell (j := 1) rfl; have v2 := hS2.cell (j := 2) rfl; clear hS1 hS2; go_simp; try with_reducible rfl)
  try simp only [List.getElem_toArray, List.getElem_cons_succ, List.getElem_cons_zero, Act.put, List.setIfInBounds_toArray, List.set_cons_zero, List.set_cons_succ]
  refine wpAnyH_take (i := 12) (oi := _) (v := ?v1m1_11) rfl (by kernel_rfl) (by kernel_rfl) (by kernel_rfl) (fun _ _ _ h => h) (Or.inl ⟨by rfl, ?hy1m1_11⟩) hHeld ?_
  case hy1m1_11 => (intro wS hSw; (try dsimp only at hSw); obtain ⟨hS1, hS2⟩ := hSw; have s0 := hS1.cell (j := 0) rfl; have s1 := hS1.cell (j := 1) rfl; have s2 := hS1.cell (j := 2) rfl; have v0 := hS2.cell (j := 0) rfl; have v1 := hS2.cell (j := 1) rfl; have v2 := hS2.cell (j := 2) rfl; clear hS1 hS2; go_simp; try with_reducible rfl)
  try simp only [List.getElem_toArray, List.getElem_cons_succ, List.getElem_cons_zero, Act.put, List.setIfInBounds_toArray, List.set_cons_zero, List.set_cons_succ]
  refine wpAnyH_take (i := 13) (oi := _) (v := ?v1m1_12) rfl (by kernel_rfl) (by kernel_rfl) (by kernel_rfl) (fun _ _ _ h => h) (Or.inl ⟨by rfl, ?hy1m1_12⟩) hHeld ?_
  case hy1m1_12 => (intro wS hSw; (try dsimp only at hSw); obtain ⟨hS1, hS2⟩ := hSw; have s0 := hS1.cell (j := 0) rfl; have s1 := hS1.cell (j := 1) rfl; have s2 := hS1.cell (j := 2) rfl; have v0 := hS2.cell (j := 0) rfl; have v1 := hS2.cell (j := 1) rfl; have v2 := hS2.cell (j := 2) rfl; clear hS1 hS2; go_simp; try with_reducible rfl)
  try simp only [List.getElem_toArray, List.getElem_cons_succ, List.getElem_cons_zero, Act.put, List.setIfInBounds_toArray, List.set_cons_zero, List.set_cons_succ]
  refine wpAnyH_ready (rs := [4]) (by kernel_rfl) (by simp) ?_
  refine (AllReadyH.cons (o := _) rfl (fun K hK => ?_) AllReadyH.nil)
  go_simp
  refine (cmpf_calls y.w.1 x.w.1 _ y.w.2 x.w.2).mono ?_
  rintro q w1 ⟨rfl, rfl⟩
  go_wp2_with fail
  refine hK.out _ _ (hHeld) (fun hHeld13 => ?_)
  clear hK K hHeld
  try simp only [List.getElem_toArray, List.getElem_cons_succ, List.getElem_cons_zero, Act.put, List.setIfInBounds_toArray, List.set_cons_zero, List.set_cons_succ]
  refine wpAnyH_ready (rs := [9]) (by kernel_rfl) (by simp) ?_
  refine (AllReadyH.cons (o := _) rfl (fun K hK => ?_) AllReadyH.nil)
  go_simp
  refine (cmpi_calls x.src y.src _).mono ?_
  rintro q w1 ⟨rfl, rfl⟩
  go_wp2_with fail
  refine hK.out _ _ (hHeld13) (fun hHeld14 => ?_)
  clear hK K hHeld13
  try simp only [List.getElem_toArray, List.getElem_cons_succ, List.getElem_cons_zero, Act.put, List.setIfInBounds_toArray, List.set_cons_zero, List.set_cons_succ]
  refine wpAnyH_ready (rs := [14]) (by kernel_rfl) (by simp) ?_
  refine (AllReadyH.cons (o := _) rfl (fun K hK => ?_) AllReadyH.nil)
  go_simp
  refine (cmpi_calls x.dst y.dst _).mono ?_
  rintro q w1 ⟨rfl, rfl⟩
  go_wp2_with fail
  refine hK.out _ _ (hHeld14) (fun hHeld15 => ?_)
  clear hK K hHeld14
  try simp only [List.getElem_toArray, List.getElem_cons_succ, List.getElem_cons_zero, Act.put, List.setIfInBounds_toArray, List.set_cons_zero, List.set_cons_succ]
  refine wpAnyH_ready (rs := [15]) (by kernel_rfl) (by simp) ?_
  refine (AllReadyH.cons (o := _) rfl (fun K hK => ?_) AllReadyH.nil)
  go_simp
  have b8 := below_alloc' WD.drew (.cells #[.int .i64 (cmpW y.w.1 x.w.1), .int .i64 (cmpI x.src y.src), .int .i64 (cmpI x.dst y.dst)] 3)
  have R1 := hHeld15.1.below b8
  have R2 := hHeld15.2.below b8
  refine hK.out _ _ (⟨R1, R2⟩) (fun hHeld16 => ?_)
  clear hK K hHeld15
  try simp only [List.getElem_toArray, List.getElem_cons_succ, List.getElem_cons_zero, Act.put, List.setIfInBounds_toArray, List.set_cons_zero, List.set_cons_succ]
  refine wpAnyH_ready (rs := [16]) (by kernel_rfl) (by simp) ?_
  refine (AllReadyH.cons (o := _) rfl (fun K hK => ?_) AllReadyH.nil)
  go_simp
  have hor := or3_calls (cmpW y.w.1 x.w.1) (cmpI x.src y.src) (cmpI x.dst y.dst) (WD.alloc (.cells #[.int .i64 (cmpW y.w.1 x.w.1), .int .i64 (cmpI x.src y.src), .int .i64 (cmpI x.dst y.dst)] 3)).drew WD.heap.size 3 (Row.new WD _ _)
  refine hor.mono ?_
  rintro q w1 ⟨rfl, rfl⟩
  go_wp2_with fail
  refine hK.out _ _ (⟨R1, R2⟩) (fun hHeld17 => ?_)
  clear hK K hHeld16
  try simp only [List.getElem_toArray, List.getElem_cons_succ, List.getElem_cons_zero, Act.put, List.setIfInBounds_toArray, List.set_cons_zero, List.set_cons_succ]
  refine wpAnyH_take (i := 17) (oi := _) (v := ?v1m1_18) rfl (by kernel_rfl) (by kernel_rfl) (by kernel_rfl) (fun _ _ _ h => h) (Or.inl ⟨by rfl, ?hy1m1_18⟩) hHeld17 ?_
  case hy1m1_18 => (intro wS hSw; (try dsimp only at hSw); obtain ⟨hS1, hS2⟩ := hSw; have s0 := hS1.cell (j := 0) rfl; have s1 := hS1.cell (j := 1) rfl; have s2 := hS1.cell (j := 2) rfl; have v0 := hS2.cell (j := 0) rfl; have v1 := hS2.cell (j := 1) rfl; have v2 := hS2.cell (j := 2) rfl; clear hS1 hS2; go_simp; try with_reducible rfl)
  try simp only [List.getElem_toArray, List.getElem_cons_succ, List.getElem_cons_zero, Act.put, List.setIfInBounds_toArray, List.set_cons_zero, List.set_cons_succ]
  refine wpAnyH_done (by kernel_rfl) ?_ _
  go_wp2_with fail
  go_ret
  refine ⟨rfl, 1, (#[.cells (encE x).toArray 55] ++ #[.cells (encE y).toArray 55]) ++ #[(.cells #[.int .i64 (cmpW y.w.1 x.w.1), .int .i64 (cmpI x.src y.src), .int .i64 (cmpI x.dst y.dst)] 3)], ?_⟩
  rw [HWD.out, alloc_eq_grow, alloc_eq_grow, alloc_eq_grow, grow_grow, grow_grow, drew_grow]
  rfl

theorem cmpE_lays (blk off size : Nat) (w : World) : CmpLays Try.prog 35 #[] encE 3 cfE blk off size w := fun _ _ _ _ x y => cmpE_calls x y _
/-- Edges sorted. -/
def sortE (xs : List Edg) : List Edg := xs.mergeSort (fun x y => !(Go.Proofs.ltOf cfE) y x)
theorem sortE_len (xs : List Edg) : (sortE xs).length = xs.length := List.length_mergeSort _
theorem sortE_perm (xs : List Edg) : (sortE xs).Perm xs := List.mergeSort_perm _ _
theorem flatK_list (xs : List Edg) : (flatK encE 3 xs.toArray).toList = (xs.map encE).flatten := by
  apply List.ext_getElem?
  intro t
  have hl : ((xs.map encE).flatten).length = xs.length * 3 := by
    induction xs with
    | nil => rfl
    | cons a r ih => rw [List.map_cons, List.flatten_cons, List.length_append, ih, List.length_cons, Nat.succ_mul, Nat.add_comm]; rfl
  by_cases ht : t < xs.length * 3
  · have hq : t / 3 < xs.length := by omega
    obtain ⟨x, hx⟩ := get_some xs (t / 3) hq
    have h1 : (flatK encE 3 xs.toArray)[t]! = (encE x)[t % 3]! := by
      rw [get_flatK _ _ _ _ (by simpa using ht)]
      congr 2
      simp [hx]
    have h2 : t < (flatK encE 3 xs.toArray).size := by rw [size_flatK]; simpa using ht
    have h3 : (flatK encE 3 xs.toArray).toList[t]? = some ((encE x)[t % 3]!) := by
      rw [Array.getElem?_toList, ← h1, getElem!_pos _ t h2, Array.getElem?_eq_getElem h2]
    have hm : t % 3 < 3 := Nat.mod_lt _ (by decide)
    obtain ⟨v, hv⟩ := get_some (encE x) (t % 3) (by show t % 3 < 3; exact hm)
    have h4 := flatten_get (css := xs.map encE) (s := 3) (i := t / 3) (cs := encE x) (j := t % 3) (v := v) (fun c hc => by
      obtain ⟨z, -, rfl⟩ := List.mem_map.1 hc
      rfl) (by simp [hx]) hv
    rw [h3, show t = t / 3 * 3 + t % 3 from by omega, h4]
    simp [hv]
  · rw [List.getElem?_eq_none (by simp [size_flatK]; omega), List.getElem?_eq_none (by rw [hl]; omega)]
theorem oEdg_css {w : World} {xs : List Edg} {css : List (List Value)} {Fs : Nat → Nat → Prop} (h1 : css.length = xs.length) (h2 : ∀ (i : Nat) (x : Edg) (cs : List Value), xs[i]? = some x → css[i]? = some cs → oEdg.O w x cs (Fs i)) : css = xs.map encE := by
  apply List.ext_getElem?
  intro i
  by_cases hi : i < xs.length
  · obtain ⟨x, hx⟩ := get_some xs i hi
    obtain ⟨cs, hcs⟩ := get_some css i (by omega)
    obtain ⟨-, hk⟩ := h2 i x cs hx hcs
    have hk' : cs = encE x := hk
    rw [hcs, hk']
    simp [hx]
  · rw [List.getElem?_eq_none (by omega), List.getElem?_eq_none (by simp; omega)]
/-- What a slice of edges owns: its row alone. -/
theorem OwnF.edges {T : TypeId} {w : World} {v : Value} {xs : List Edg} {F : Nat → Prop} (h : OwnF oEdg T w v xs F) : w.ownsRow 0 T 3 v xs.length (xs.map encE).flatten ∧ ∀ b, F b ↔ v.ownBlock = some b := by
  obtain ⟨css, Fs, h1, h2, h3, h4, h5, h6⟩ := h.ex
  have hc := oEdg_css h1 h2
  subst hc
  refine ⟨h3, fun b => ⟨fun hb => ?_, fun hb => (h6 b).2 (.inl hb)⟩⟩
  rcases (h6 b).1 hb with e | ⟨i, hi, hf⟩
  · exact e
  · obtain ⟨x, hx⟩ := get_some xs i hi
    exact absurd hf ((h2 i x (encE x) hx (by simp [hx])).1 b)
theorem OwnF.ofEdges {T : TypeId} {w : World} {v : Value} {xs : List Edg} {F : Nat → Prop} (h : w.ownsRow 0 T 3 v xs.length (xs.map encE).flatten) (hF : ∀ b, F b ↔ v.ownBlock = some b) : OwnF oEdg T w v xs F := by
  refine ⟨xs.map encE, fun _ _ => False, by simp, fun i x cs hx hcs => ⟨fun b hb => hb, ?_⟩, h, fun i j b _ _ _ hf => hf.elim, fun i b _ hf => hf.elim, fun b => ?_⟩
  · rw [List.getElem?_map, hx] at hcs
    injection hcs with hcs
    exact hcs.symm
  · rw [hF b]
    exact ⟨.inl, fun h => h.elim id (fun ⟨_, _, hf⟩ => hf.elim)⟩
theorem flat_len (xs : List Edg) : ((xs.map encE).flatten).length = xs.length * 3 := by
  induction xs with
  | nil => rfl
  | cons a r ih => rw [List.map_cons, List.flatten_cons, List.length_append, ih, List.length_cons, Nat.succ_mul, Nat.add_comm]; rfl
/-- Behind the sort the same slice owns the sorted edges. -/
theorem sorted_own {w : World} {g cap n m : Nat} {T : TypeId} {os : Array Obj} {xs ts : List Edg} (hl : ts.length = xs.length) (h : w.ownsRow 0 T 3 (.slice (some ⟨g, 0, none⟩) xs.length cap) xs.length (xs.map encE).flatten) :
    (sortWorldK encE 3 w g 0 m ts.toArray os).ownsRow 0 T 3 (.slice (some ⟨g, 0, none⟩) xs.length cap) ts.length (ts.map encE).flatten ∧ w.grownBy (sortWorldK encE 3 w g 0 m ts.toArray os) (some g) := by
  obtain ⟨h0, ⟨hn, -⟩ | ⟨g', cap', cur, hv, -, hb, h1, h2, h3, h4⟩⟩ := h
  · cases hn
  · injection hv with hv1 hv2 hv3
    injection hv1 with hv1
    injection hv1 with hv1
    subst hv1 hv3
    have hg : g < w.heap.size := (Array.getElem?_eq_some_iff.1 hb).1
    have hheap : (sortWorldK encE 3 w g 0 m ts.toArray os).heap[g]? = some (.cells (putCells id 0 (flatK encE 3 ts.toArray) cur) T (0, 0)) := by
      unfold sortWorldK putRowK
      rw [heap_grow_old _ _ (by simpa [putRow, mapBlock, Go.Sort.ahead] using hg)]
      simp [putRow, mapBlock, Go.Sort.ahead, Array.getElem?_modify, hb, onCells]
    refine ⟨⟨flat_len ts, .inr ⟨g, cap, _, by rw [hl], Nat.zero_le _, hheap, by omega, h2, by simp [putCells, h3], ?_⟩⟩, rfl, rfl, rfl, by simp [sortWorldK, grow, putRowK, putRow, mapBlock, Go.Sort.ahead], fun k hk hne => ?_⟩
    · rw [← flatK_list]
      apply List.ext_getElem?
      intro j
      by_cases hj : j < ts.length * 3
      · have hjc : j < cur.size := by omega
        have hjf : j < (flatK encE 3 ts.toArray).size := by rw [size_flatK]; simpa using hj
        rw [List.getElem?_take_of_lt hj, Array.getElem?_toList, Array.getElem?_toList, Array.getElem?_eq_getElem hjf]
        simp only [putCells, Array.getElem?_mapIdx, Array.getElem?_eq_getElem hjc, Option.map_some, Nat.zero_le, true_and, Nat.zero_add, Nat.sub_zero]
        rw [if_pos hjf, getElem!_pos _ j hjf]
        rfl
      · rw [List.getElem?_take_eq_none (by omega), List.getElem?_eq_none (by simp [size_flatK]; omega)]
    · unfold sortWorldK
      rw [heap_grow_old _ _ (by simpa [putRowK, putRow, mapBlock, Go.Sort.ahead] using hk)]
      have : g ≠ k := fun e => hne (by rw [e])
      simp [putRowK, putRow, mapBlock, Go.Sort.ahead, Array.getElem?_modify, this]
theorem holds_own {w : World} {g cap : Nat} {T : TypeId} {xs : List Edg} (h : w.ownsRow 0 T 3 (.slice (some ⟨g, 0, none⟩) xs.length cap) xs.length (xs.map encE).flatten) : HoldsK encE 3 w g 0 xs.toArray := by
  intro j hj
  have hj' : j < xs.length * 3 := by rw [size_flatK] at hj; simpa using hj
  refine ⟨?_, by rw [Nat.zero_add]; exact h.frozenAt j⟩
  have hf : (flatK encE 3 xs.toArray).toList[j]? = some ((flatK encE 3 xs.toArray)[j]!) := by rw [Array.getElem?_toList, getElem!_pos _ j hj, Array.getElem?_eq_getElem hj]
  rw [flatK_list] at hf
  have := h.cells rfl j _ hf
  rw [show (⟨g, 0, none⟩ : Addr).add j = ⟨g, 0 + j, none⟩ from by
    unfold Addr.add
    split
    · rename_i e; rw [e]
    · rfl] at this
  exact this
theorem sortE_calls (A : Option Addr) (c : Nat) (xs : List Edg) (F : Nat → Prop) (w : World) (h : OwnF oEdg 55 w (.slice A xs.length c) xs F) (hl : xs.length < 4611686018427387904) : Calls Try.prog 34 #[.slice A xs.length c, .func (.func 35) #[] #[]] w fun e w' =>
    e = .returned (.tuple #[]) ∧ OwnF oEdg 55 w' (.slice A xs.length c) (sortE xs) F ∧ w.grownBy w' (Value.slice A xs.length c).ownBlock := by
  obtain ⟨h1, h2⟩ := h.edges
  have h0 := h1
  obtain ⟨-, ⟨hv, hn⟩ | ⟨g, cap, cur, hv, -, hb, -⟩⟩ := h1
  · injection hv with e1 e2 e3
    obtain rfl := List.length_eq_zero_iff.1 e2
    subst e1 e3
    have hcon := AnyF.slices_SortFunc_none (P := Try.prog) (ρ := Try.sortE_ren) { Try.sortE with } none 0 (.func (.func 35) #[] #[]) w
    refine Calls.mono hcon ?_
    rintro e w' ⟨rfl, rfl⟩
    exact ⟨rfl, by rw [show sortE [] = [] from by simp [sortE]]; exact h, grown_refl _ _⟩
  · injection hv with e1 e2 e3
    subst e1 e3
    have eg : ∀ args w, (callFunc 35 args).run Try.prog w = .ok (.enter 35 args) w := enters_of Try.func35 (by kernel_rfl) rfl
    have hcon := AnyQ.slices_SortFunc_total Try.sortE 3 Try.isAgg55 Try.sizeOf55 encE (fun _ => rfl) encE_one cfE swoE 35 #[] g 0 c xs.toArray w eg (cmpE_lays g 0 _ w) (holds_own h0) (h.lt g ((h2 g).2 rfl)) (by simpa using hl) totE
    refine Calls.mono hcon ?_
    rintro e w' ⟨rfl, n, os, rfl⟩
    obtain ⟨k1, k2⟩ := sorted_own (m := n) (os := os) (n := 0) (ts := sortE xs) (sortE_len xs) h0
    have k1' := OwnF.ofEdges k1 h2
    exact ⟨rfl, k1', k2⟩
end Go.Proofs.Ythnkikdbllkmkaa
