/- The closure of chain.Funcs: two functions' weights compared. Printed in part by genYl.py of this repository. -/
import Derived.Test.YthnkikdbllkmkaaYd
import Derived.Test.YthnkikdbllkmkaaYh
namespace Go.Proofs.Ythnkikdbllkmkaa
set_option linter.unusedVariables false
set_option linter.unusedSimpArgs false
open Go.RowKit
open Go.Sort (grow alloc_eq_grow grow_grow drew_grow grow_empty)
attribute [local go_sem] run_store_float

set_option maxHeartbeats 4000000 in
set_option maxRecDepth 100000 in
theorem wtotalg_calls (A : Option Addr) (c : Nat) (l : List Edge) (nm : ByteArray) (w : World) (hC : kEdge.C w A l) (hw : ∀ e ∈ l, e.wf) (hl : l.length ≤ maxLen) : Calls Try.prog 26 #[.slice A l.length c, .string nm] w fun e w' => e = .returned (.float .f64 (totalW l nm)) ∧ Below w.heap.size w w' ∧ ∃ os, w' = grow w os := by
  have hlo : l.length ≤ 9223372036854775807 := hl
  have HW := Lib.hid hw
  clear hw
  go_enter Try.func26, Try.ntmps26
  go_wp2_with fail
  go_loopw [5, 10] (fun s i wr => ∃ k : Nat, k ≤ l.length ∧ i = .int .i64 (k : Int) ∧ s = .float .f64 (sumW (fun e => e.func.toList == nm.toList) (l.take k)) ∧ Below w.heap.size w wr ∧ Hid (∃ os, wr = grow w os)) (fun _ i _ => l.length - (intOf i).toNat)
  case atStart => exact ⟨0, Nat.zero_le _, rfl, rfl, Below.refl _ _, Lib.hid ⟨#[], (grow_empty w).symm⟩⟩
  case round =>
    obtain ⟨k, hk, rfl, rfl, hbr, hgw⟩ := hrel
    by_cases hlt : k < l.length
    · obtain ⟨e, he⟩ := get_some l k hlt
      obtain ⟨ad, rfl, f0, f1, f2, f3, hew⟩ := Edge_at (Kd.C_mono hbr hC) he
      have hsn := sumW_take (p := fun e => e.func.toList == nm.toList) he
      have hsp : Fl.posW (sumW (fun e => e.func.toList == nm.toList) (l.take k)) := sumW_pos (fun x hx => HW.out x (List.mem_of_mem_take hx))
      have hcp := cleanW_pos (wf_f64 hew.2.2.2)
      generalize sumW (fun e => e.func.toList == nm.toList) (l.take k) = s at *
      have hop : ∀ t w, (binOp .add t (.float .f64 s) (.float .f64 (cleanW e.w))).run Try.prog w = .ok (.float .f64 (Fl.addW s (cleanW e.w))) w := fun t w => run_float_arith w .add t .f64 _ _ _ (Fl.add_eq hsp hcp)
      have HSN := Lib.hid hsn
      have b2 := hbr.trans ((below_alloc' wr (.cells #[.string e.func, .int .i64 e.src, .int .i64 e.to, .float .f64 e.w] 49)).mono hbr.size)
      have hg2 : Hid (∃ os, wr.alloc (.cells #[.string e.func, .int .i64 e.src, .int .i64 e.to, .float .f64 e.w] 49) = grow w os) := Lib.hid (by obtain ⟨os, ho⟩ := hgw.out; exact ⟨_, by rw [ho, alloc_eq_grow, grow_grow]⟩)
      clear hsn he hsp hcp hew hgw
      rcases Bool.eq_false_or_eq_true (e.func.toList == nm.toList) with h0 | h0
      · go_wp2_with fail
        refine (clean_calls e.w _).mono ?_
        rintro q w1 ⟨rfl, rfl⟩
        go_wp2_with fail
        have hst : sumStep (fun e => e.func.toList == nm.toList) s e = Fl.addW s (cleanW e.w) := by unfold sumStep; rw [if_pos (by simp [h0])]
        exact ⟨⟨k + 1, by omega, by go_num, by rw [HSN.out, hst], b2, hg2⟩, by simp [intOf]; omega⟩
      · go_wp2_with fail
        have hst : sumStep (fun e => e.func.toList == nm.toList) s e = s := by unfold sumStep; rw [if_neg (by simp [h0])]
        exact ⟨⟨k + 1, by omega, by go_num, by rw [HSN.out, hst], b2, hg2⟩, by simp [intOf]; omega⟩
    · obtain rfl : k = l.length := by omega
      rw [List.take_length]
      go_wp2_with fail
      go_ret
      exact ⟨rfl, hbr, hgw.out⟩

/-- A function's weight, by its place. -/
def totN (l : List Edge) (gs : List Graph) (i : Nat) : Nat := totalW l (match gs[i]? with | some g => g.name | none => ByteArray.empty)
theorem totN_at {l : List Edge} {gs : List Graph} {i : Nat} {g : Graph} (h : gs[i]? = some g) : totN l gs i = totalW l g.name := by unfold totN; rw [h]
/-- Heavier ones first. -/
def cfT (l : List Edge) (gs : List Graph) (a b : Nat) : Int := cmpW (totN l gs b) (totN l gs a)

set_option maxHeartbeats 4000000 in
set_option maxRecDepth 100000 in
theorem cmpT_calls (LA : Option Addr) (lc : Nat) (l : List Edge) (GA : Option Addr) (gc : Nat) (gs : List Graph) (a b : Nat) (W : World) (LB GB : Nat) (hL : kEdge.C W LA l) (hw : ∀ e ∈ l, e.wf) (hl : l.length ≤ maxLen) (hG : kGraph.C W GA gs) (cL : W.cell? ⟨LB, 0, none⟩ = some (.slice LA l.length lc)) (cG : W.cell? ⟨GB, 0, none⟩ = some (.slice GA gs.length gc)) (ha : a < gs.length) (hb : b < gs.length) :
    Calls Try.prog 24 #[.int .i64 (a : Int), .int .i64 (b : Int), .pointer (some ⟨LB, 0, none⟩), .pointer (some ⟨GB, 0, none⟩)] W fun e w' => e = .returned (.int .i64 (cfT l gs a b)) ∧ ∃ q os', w' = grow (W.drewN q) os' := by
  obtain ⟨ga, hga⟩ := get_some gs a ha
  obtain ⟨gb, hgb⟩ := get_some gs b hb
  obtain ⟨ad, A0, c0, rfl, na, -⟩ := Graph_at hG hga
  obtain ⟨ad2, A2, c2, hae, nb, -⟩ := Graph_at hG hgb
  injection hae with hae
  subst hae
  have hcf : cfT l gs a b = cmpW (sumW (fun e => e.func.toList == gb.name.toList) l) (sumW (fun e => e.func.toList == ga.name.toList) l) := by
    unfold cfT
    rw [totN_at hga, totN_at hgb]
    rfl
  have HCF := Lib.hid hcf
  have HW := Lib.hid hw
  have bd := (Below.refl W.heap.size W).drew
  have haI : (a : Int) < (gs.length : Int) := by omega
  have hbI : (b : Int) < (gs.length : Int) := by omega
  clear hga hgb hcf hw hG
  go_enter Try.func24, Try.ntmps24
  go_upto_region 1 with fail
  refine wp_region_held_drew (S := (fun w' => Below W.heap.size W w')) (by kernel_rfl) (bd) (fun hHeld => ?_)
  refine wpAnyH_take (i := 0) (oi := _) (v := ?v1m1_1) rfl (by kernel_rfl) (by kernel_rfl) (by kernel_rfl) (fun _ _ _ h => h) (Or.inl ⟨by rfl, ?hy1m1_1⟩) hHeld ?_
  case hy1m1_1 => (intro wS hSw; (try dsimp only at hSw); have cL9 := (Below.cell hSw (World.lt_of_cell cL)).trans cL; have cG9 := (Below.cell hSw (World.lt_of_cell cG)).trans cG; have na9 := (Below.cell hSw (World.lt_of_cell na)).trans na; have nb9 := (Below.cell hSw (World.lt_of_cell nb)).trans nb; clear hSw; go_simp; try with_reducible rfl)
  try simp only [List.getElem_toArray, List.getElem_cons_succ, List.getElem_cons_zero, Act.put, List.setIfInBounds_toArray, List.set_cons_zero, List.set_cons_succ]
  refine wpAnyH_take (i := 1) (oi := _) (v := ?v1m1_2) rfl (by kernel_rfl) (by kernel_rfl) (by kernel_rfl) (fun _ _ _ h => h) (Or.inl ⟨by rfl, ?hy1m1_2⟩) hHeld ?_
  case hy1m1_2 => (intro wS hSw; (try dsimp only at hSw); have cL9 := (Below.cell hSw (World.lt_of_cell cL)).trans cL; have cG9 := (Below.cell hSw (World.lt_of_cell cG)).trans cG; have na9 := (Below.cell hSw (World.lt_of_cell na)).trans na; have nb9 := (Below.cell hSw (World.lt_of_cell nb)).trans nb; clear hSw; go_simp; try with_reducible rfl)
  try simp only [List.getElem_toArray, List.getElem_cons_succ, List.getElem_cons_zero, Act.put, List.setIfInBounds_toArray, List.set_cons_zero, List.set_cons_succ]
  refine wpAnyH_take (i := 2) (oi := _) (v := ?v1m1_3) rfl (by kernel_rfl) (by kernel_rfl) (by kernel_rfl) (fun _ _ _ h => h) (Or.inl ⟨by rfl, ?hy1m1_3⟩) hHeld ?_
  case hy1m1_3 => (intro wS hSw; (try dsimp only at hSw); have cL9 := (Below.cell hSw (World.lt_of_cell cL)).trans cL; have cG9 := (Below.cell hSw (World.lt_of_cell cG)).trans cG; have na9 := (Below.cell hSw (World.lt_of_cell na)).trans na; have nb9 := (Below.cell hSw (World.lt_of_cell nb)).trans nb; clear hSw; go_simp; try with_reducible rfl)
  try simp only [List.getElem_toArray, List.getElem_cons_succ, List.getElem_cons_zero, Act.put, List.setIfInBounds_toArray, List.set_cons_zero, List.set_cons_succ]
  refine wpAnyH_take (i := 3) (oi := _) (v := ?v1m1_4) rfl (by kernel_rfl) (by kernel_rfl) (by kernel_rfl) (fun _ _ _ h => h) (Or.inl ⟨by rfl, ?hy1m1_4⟩) hHeld ?_
  case hy1m1_4 => (intro wS hSw; (try dsimp only at hSw); have cL9 := (Below.cell hSw (World.lt_of_cell cL)).trans cL; have cG9 := (Below.cell hSw (World.lt_of_cell cG)).trans cG; have na9 := (Below.cell hSw (World.lt_of_cell na)).trans na; have nb9 := (Below.cell hSw (World.lt_of_cell nb)).trans nb; clear hSw; go_simp; try with_reducible rfl)
  try simp only [List.getElem_toArray, List.getElem_cons_succ, List.getElem_cons_zero, Act.put, List.setIfInBounds_toArray, List.set_cons_zero, List.set_cons_succ]
  refine wpAnyH_take (i := 4) (oi := _) (v := ?v1m1_5) rfl (by kernel_rfl) (by kernel_rfl) (by kernel_rfl) (fun _ _ _ h => h) (Or.inl ⟨by rfl, ?hy1m1_5⟩) hHeld ?_
  case hy1m1_5 => (intro wS hSw; (try dsimp only at hSw); have cL9 := (Below.cell hSw (World.lt_of_cell cL)).trans cL; have cG9 := (Below.cell hSw (World.lt_of_cell cG)).trans cG; have na9 := (Below.cell hSw (World.lt_of_cell na)).trans na; have nb9 := (Below.cell hSw (World.lt_of_cell nb)).trans nb; clear hSw; go_simp; try with_reducible rfl)
  try simp only [List.getElem_toArray, List.getElem_cons_succ, List.getElem_cons_zero, Act.put, List.setIfInBounds_toArray, List.set_cons_zero, List.set_cons_succ]
  refine wpAnyH_take (i := 5) (oi := _) (v := ?v1m1_6) rfl (by kernel_rfl) (by kernel_rfl) (by kernel_rfl) (fun _ _ _ h => h) (Or.inl ⟨by rfl, ?hy1m1_6⟩) hHeld ?_
  case hy1m1_6 => (intro wS hSw; (try dsimp only at hSw); have cL9 := (Below.cell hSw (World.lt_of_cell cL)).trans cL; have cG9 := (Below.cell hSw (World.lt_of_cell cG)).trans cG; have na9 := (Below.cell hSw (World.lt_of_cell na)).trans na; have nb9 := (Below.cell hSw (World.lt_of_cell nb)).trans nb; clear hSw; go_simp; try with_reducible rfl)
  try simp only [List.getElem_toArray, List.getElem_cons_succ, List.getElem_cons_zero, Act.put, List.setIfInBounds_toArray, List.set_cons_zero, List.set_cons_succ]
  refine wpAnyH_take (i := 7) (oi := _) (v := ?v1m1_7) rfl (by kernel_rfl) (by kernel_rfl) (by kernel_rfl) (fun _ _ _ h => h) (Or.inl ⟨by rfl, ?hy1m1_7⟩) hHeld ?_
  case hy1m1_7 => (intro wS hSw; (try dsimp only at hSw); have cL9 := (Below.cell hSw (World.lt_of_cell cL)).trans cL; have cG9 := (Below.cell hSw (World.lt_of_cell cG)).trans cG; have na9 := (Below.cell hSw (World.lt_of_cell na)).trans na; have nb9 := (Below.cell hSw (World.lt_of_cell nb)).trans nb; clear hSw; go_simp; try with_reducible rfl)
  try simp only [List.getElem_toArray, List.getElem_cons_succ, List.getElem_cons_zero, Act.put, List.setIfInBounds_toArray, List.set_cons_zero, List.set_cons_succ]
  refine wpAnyH_take (i := 8) (oi := _) (v := ?v1m1_8) rfl (by kernel_rfl) (by kernel_rfl) (by kernel_rfl) (fun _ _ _ h => h) (Or.inl ⟨by rfl, ?hy1m1_8⟩) hHeld ?_
  case hy1m1_8 => (intro wS hSw; (try dsimp only at hSw); have cL9 := (Below.cell hSw (World.lt_of_cell cL)).trans cL; have cG9 := (Below.cell hSw (World.lt_of_cell cG)).trans cG; have na9 := (Below.cell hSw (World.lt_of_cell na)).trans na; have nb9 := (Below.cell hSw (World.lt_of_cell nb)).trans nb; clear hSw; go_simp; try with_reducible rfl)
  try simp only [List.getElem_toArray, List.getElem_cons_succ, List.getElem_cons_zero, Act.put, List.setIfInBounds_toArray, List.set_cons_zero, List.set_cons_succ]
  refine wpAnyH_take (i := 9) (oi := _) (v := ?v1m1_9) rfl (by kernel_rfl) (by kernel_rfl) (by kernel_rfl) (fun _ _ _ h => h) (Or.inl ⟨by rfl, ?hy1m1_9⟩) hHeld ?_
  case hy1m1_9 => (intro wS hSw; (try dsimp only at hSw); have cL9 := (Below.cell hSw (World.lt_of_cell cL)).trans cL; have cG9 := (Below.cell hSw (World.lt_of_cell cG)).trans cG; have na9 := (Below.cell hSw (World.lt_of_cell na)).trans na; have nb9 := (Below.cell hSw (World.lt_of_cell nb)).trans nb; clear hSw; go_simp; try with_reducible rfl)
  try simp only [List.getElem_toArray, List.getElem_cons_succ, List.getElem_cons_zero, Act.put, List.setIfInBounds_toArray, List.set_cons_zero, List.set_cons_succ]
  refine wpAnyH_take (i := 10) (oi := _) (v := ?v1m1_10) rfl (by kernel_rfl) (by kernel_rfl) (by kernel_rfl) (fun _ _ _ h => h) (Or.inl ⟨by rfl, ?hy1m1_10⟩) hHeld ?_
  case hy1m1_10 => (intro wS hSw; (try dsimp only at hSw); have cL9 := (Below.cell hSw (World.lt_of_cell cL)).trans cL; have cG9 := (Below.cell hSw (World.lt_of_cell cG)).trans cG; have na9 := (Below.cell hSw (World.lt_of_cell na)).trans na; have nb9 := (Below.cell hSw (World.lt_of_cell nb)).trans nb; clear hSw; go_simp; try with_reducible rfl)
  try simp only [List.getElem_toArray, List.getElem_cons_succ, List.getElem_cons_zero, Act.put, List.setIfInBounds_toArray, List.set_cons_zero, List.set_cons_succ]
  refine wpAnyH_take (i := 11) (oi := _) (v := ?v1m1_11) rfl (by kernel_rfl) (by kernel_rfl) (by kernel_rfl) (fun _ _ _ h => h) (Or.inl ⟨by rfl, ?hy1m1_11⟩) hHeld ?_
  case hy1m1_11 => (intro wS hSw; (try dsimp only at hSw); have cL9 := (Below.cell hSw (World.lt_of_cell cL)).trans cL; have cG9 := (Below.cell hSw (World.lt_of_cell cG)).trans cG; have na9 := (Below.cell hSw (World.lt_of_cell na)).trans na; have nb9 := (Below.cell hSw (World.lt_of_cell nb)).trans nb; clear hSw; go_simp; try with_reducible rfl)
  try simp only [List.getElem_toArray, List.getElem_cons_succ, List.getElem_cons_zero, Act.put, List.setIfInBounds_toArray, List.set_cons_zero, List.set_cons_succ]
  refine wpAnyH_take (i := 12) (oi := _) (v := ?v1m1_12) rfl (by kernel_rfl) (by kernel_rfl) (by kernel_rfl) (fun _ _ _ h => h) (Or.inl ⟨by rfl, ?hy1m1_12⟩) hHeld ?_
  case hy1m1_12 => (intro wS hSw; (try dsimp only at hSw); have cL9 := (Below.cell hSw (World.lt_of_cell cL)).trans cL; have cG9 := (Below.cell hSw (World.lt_of_cell cG)).trans cG; have na9 := (Below.cell hSw (World.lt_of_cell na)).trans na; have nb9 := (Below.cell hSw (World.lt_of_cell nb)).trans nb; clear hSw; go_simp; try with_reducible rfl)
  try simp only [List.getElem_toArray, List.getElem_cons_succ, List.getElem_cons_zero, Act.put, List.setIfInBounds_toArray, List.set_cons_zero, List.set_cons_succ]
  refine wpAnyH_ready (rs := [6]) (by kernel_rfl) (by simp) ?_
  refine (AllReadyH.cons (o := _) rfl (fun K hK => ?_) AllReadyH.nil)
  go_simp
  refine (wtotalg_calls LA lc l gb.name _ (Kd.C_mono bd hL) HW.out hl).mono ?_
  rintro q w1 ⟨rfl, b1, os1, h1⟩
  have u1 := bd.trans (b1.mono bd.size)
  have H1 := Lib.hid h1
  clear h1
  go_wp2_with fail
  refine hK.out _ _ (u1) (fun hHeld13 => ?_)
  clear hK K hHeld
  try simp only [List.getElem_toArray, List.getElem_cons_succ, List.getElem_cons_zero, Act.put, List.setIfInBounds_toArray, List.set_cons_zero, List.set_cons_succ]
  refine wpAnyH_ready (rs := [13]) (by kernel_rfl) (by simp) ?_
  refine (AllReadyH.cons (o := _) rfl (fun K hK => ?_) AllReadyH.nil)
  go_simp
  refine (wtotalg_calls LA lc l ga.name _ (Kd.C_mono u1 hL) HW.out hl).mono ?_
  rintro q w2 ⟨rfl, b2, os2, h2⟩
  have u2 := u1.trans (b2.mono u1.size)
  have H2 := Lib.hid h2
  clear h2
  go_wp2_with fail
  refine hK.out _ _ (u2) (fun hHeld14 => ?_)
  clear hK K hHeld13
  try simp only [List.getElem_toArray, List.getElem_cons_succ, List.getElem_cons_zero, Act.put, List.setIfInBounds_toArray, List.set_cons_zero, List.set_cons_succ]
  refine wpAnyH_ready (rs := [14]) (by kernel_rfl) (by simp) ?_
  refine (AllReadyH.cons (o := _) rfl (fun K hK => ?_) AllReadyH.nil)
  go_simp
  refine (cmpf_calls _ _ _ (sumW_pos HW.out) (sumW_pos HW.out)).mono ?_
  rintro q w3 ⟨rfl, rfl⟩
  go_wp2_with fail
  refine hK.out _ _ (u2) (fun hHeld15 => ?_)
  clear hK K hHeld14
  try simp only [List.getElem_toArray, List.getElem_cons_succ, List.getElem_cons_zero, Act.put, List.setIfInBounds_toArray, List.set_cons_zero, List.set_cons_succ]
  refine wpAnyH_take (i := 15) (oi := _) (v := ?v1m1_16) rfl (by kernel_rfl) (by kernel_rfl) (by kernel_rfl) (fun _ _ _ h => h) (Or.inl ⟨by rfl, ?hy1m1_16⟩) hHeld15 ?_
  case hy1m1_16 => (intro wS hSw; (try dsimp only at hSw); have cL9 := (Below.cell hSw (World.lt_of_cell cL)).trans cL; have cG9 := (Below.cell hSw (World.lt_of_cell cG)).trans cG; have na9 := (Below.cell hSw (World.lt_of_cell na)).trans na; have nb9 := (Below.cell hSw (World.lt_of_cell nb)).trans nb; clear hSw; go_simp; try with_reducible rfl)
  try simp only [List.getElem_toArray, List.getElem_cons_succ, List.getElem_cons_zero, Act.put, List.setIfInBounds_toArray, List.set_cons_zero, List.set_cons_succ]
  refine wpAnyH_done (by kernel_rfl) ?_ _
  go_wp2_with fail
  go_ret
  exact ⟨by rw [HCF.out]; rfl, 1, os1 ++ os2, by rw [H2.out, H1.out, grow_grow]; rfl⟩

end Go.Proofs.Ythnkikdbllkmkaa
