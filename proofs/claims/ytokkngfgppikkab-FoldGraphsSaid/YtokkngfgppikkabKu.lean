/- The document's Goes, of layer 20. Printed by genKu.py of this repository. -/
import Derived.Test.YtokkngfgppikkabKt
import Derived.Test.YtokkngfgppikkabKj
namespace Go.Proofs.Ytokkngfgppikkab
set_option linter.unusedVariables false
set_option linter.unusedSimpArgs false
open Go.RowKit

def goesK (k : Known) (t : Term) (x : Int) : Bool :=
  if t.kind = 1 then t.to == x else if t.kind ≠ 2 then false else
  if (k.isAt t.a.toNat && k.isAt t.b.toNat) = false then t.to == x || t.els == x else
  if aluTaken t.op (k.wAt t.a.toNat) (k.wAt t.b.toNat) = true then t.to == x else t.els == x
theorem goesK_ways {k : Known} (t : Term) (x : Int) (h : k.reached = true) : goesK k t x = decide (x ∈ waysK k t) := by
  unfold goesK waysK takenK
  rw [h, Bool.eq_iff_iff, decide_eq_true_eq]
  by_cases h1 : t.kind = 1
  · simp [h1, @eq_comm _ x]
  · by_cases h2 : t.kind = 2
    · cases ha : k.isAt t.a.toNat <;> cases hb : k.isAt t.b.toNat <;> cases ht : aluTaken t.op (k.wAt t.a.toNat) (k.wAt t.b.toNat) <;> simp [h2, @eq_comm _ x]
    · simp [h1, h2]
set_option maxHeartbeats 4000000 in
set_option maxRecDepth 100000 in
theorem refGoes_calls (k : Known) (t : Term) (x : Int) (w : World) (hk : k.wf) (hab : t.kind = 2 → (0 ≤ t.a ∧ t.a < 16) ∧ 0 ≤ t.b ∧ t.b < 16) : Calls Try.prog 42 #[.agg (knownCells k).toArray, .agg #[.int .i64 t.kind, .int .i64 t.op, .int .i64 t.a, .int .i64 t.b, .int .i64 t.to, .int .i64 t.els, .int .i64 t.ins.op, .int .i64 t.ins.a, .int .i64 t.ins.b, .int .i64 t.ins.c, .int .i64 t.ins.imm], .int .i64 x] w fun e w' => e = .returned (.bool (goesK k t x)) ∧ Below w.heap.size w w' := by
  obtain ⟨W, hW, bW, zW, r0, r1⟩ := two_rows w (knownCells k).toArray #[.int .i64 t.kind, .int .i64 t.op, .int .i64 t.a, .int .i64 t.b, .int .i64 t.to, .int .i64 t.els, .int .i64 t.ins.op, .int .i64 t.ins.a, .int .i64 t.ins.b, .int .i64 t.ins.c, .int .i64 t.ins.imm] 77 37
  replace r1 : Row W (w.heap.size + 1) 37 (finCells t) := r1
  have HW := Lib.hid hW
  clear hW zW
  have x0 := r1.cell (j := 0) rfl
  have x4 := r1.cell (j := 4) rfl
  have x5 := r1.cell (j := 5) rfl
  by_cases h1 : t.kind = 1
  · have z1 : (t.kind == 1) = true := by simp [h1]
    have he : goesK k t x = (t.to == x) := by unfold goesK; rw [if_pos h1]
    have HE := Lib.hid he
    clear h1 he hab
    go_enter Try.func42, Try.ntmps42
    go_upto_region 1 with fail
    rw [← HW.out]
    clear HW
    go_wp2_with fail
    go_ret
    exact ⟨ret_bool (by rw [HE.out]), bW⟩
  · have z1 : (t.kind == 1) = false := by simp [h1]
    by_cases h2 : t.kind = 2
    · have z2 : (t.kind != 2) = false := by simp [h2]
      have z2' : (t.kind == 2) = true := by simp [h2]
      obtain ⟨ha, hb⟩ := hab h2
      obtain ⟨na, hna'⟩ := Int.eq_ofNat_of_zero_le ha.1
      obtain ⟨nb, hnb'⟩ := Int.eq_ofNat_of_zero_le hb.1
      have hna : na < 16 := by omega
      have hnb : nb < 16 := by omega
      have haI : (na : Int) < 16 := by omega
      have hbI : (nb : Int) < 16 := by omega
      have hta : t.a.toNat = na := by omega
      have htb : t.b.toNat = nb := by omega
      have hg : goesK k t x = if (k.isAt na && k.isAt nb) = false then t.to == x || t.els == x else if aluTaken t.op (k.wAt na) (k.wAt nb) = true then t.to == x else t.els == x := by unfold goesK; rw [if_neg h1, if_neg (by simp [h2]), hta, htb]
      have HNA := Lib.hid hna'
      have HNB := Lib.hid hnb'
      have x2 := r1.cell (j := 2) rfl
      have x3 := r1.cell (j := 3) rfl
      rw [hna'] at x2
      rw [hnb'] at x3
      have c1 := r0.kis hk hna
      have c2 := r0.kis hk hnb
      clear hta htb hna' hnb' ha hb hab h1 h2
      cases hia : k.isAt na with
      | false =>
        rw [hia] at c1
        cases hz : (t.to == x) with
        | true =>
          have he : goesK k t x = true := by rw [hg, hia, hz]; rfl
          have HE := Lib.hid he
          clear he hg hia
          go_enter Try.func42, Try.ntmps42
          go_upto_region 1 with fail
          rw [← HW.out]
          clear HW
          go_wp2_with fail
          go_ret
          exact ⟨ret_bool (by rw [HE.out]), bW⟩
        | false =>
          have he : goesK k t x = (t.els == x) := by rw [hg, hia, hz]; rfl
          have HE := Lib.hid he
          clear he hg hia
          go_enter Try.func42, Try.ntmps42
          go_upto_region 1 with fail
          rw [← HW.out]
          clear HW
          go_wp2_with fail
          go_ret
          exact ⟨ret_bool (by rw [HE.out]), bW⟩
      | true =>
        rw [hia] at c1
        cases hib : k.isAt nb with
        | false =>
          rw [hib] at c2
          cases hz : (t.to == x) with
          | true =>
            have he : goesK k t x = true := by rw [hg, hia, hib, hz]; rfl
            have HE := Lib.hid he
            clear he hg hia hib
            go_enter Try.func42, Try.ntmps42
            go_upto_region 1 with fail
            rw [← HW.out]
            clear HW
            go_wp2_with fail
            go_ret
            exact ⟨ret_bool (by rw [HE.out]), bW⟩
          | false =>
            have he : goesK k t x = (t.els == x) := by rw [hg, hia, hib, hz]; rfl
            have HE := Lib.hid he
            clear he hg hia hib
            go_enter Try.func42, Try.ntmps42
            go_upto_region 1 with fail
            rw [← HW.out]
            clear HW
            go_wp2_with fail
            go_ret
            exact ⟨ret_bool (by rw [HE.out]), bW⟩
        | true =>
          rw [hib] at c2
          have hla := Known.w_lt hk na
          have hlb := Known.w_lt hk nb
          generalize hxa : k.wAt na = xa at *
          generalize hxb : k.wAt nb = xb at *
          have HXA := Lib.hid hxa
          have HXB := Lib.hid hxb
          clear hxa hxb
          cases htk : aluTaken t.op xa xb with
          | true =>
            have he : goesK k t x = (t.to == x) := by rw [hg, hia, hib, htk]; rfl
            have HE := Lib.hid he
            have HTK := Lib.hid htk
            clear he hg hia hib htk
            go_enter Try.func42, Try.ntmps42
            go_upto_region 1 with fail
            rw [← HW.out]
            clear HW
            go_upto_region 7 with fail
            clear x0 x2 x3 x4 x5 c1 c2
            have bd := (Below.refl W.heap.size W).drew
            refine wp_region_held_drew (S := (fun w' => Row w' w.heap.size 77 (knownCells k) ∧ Row w' (w.heap.size + 1) 37 (finCells t))) (by kernel_rfl) (⟨r0, r1⟩) (fun hHeld => ?_)
            refine wpAnyH_take (i := 0) (oi := _) (v := ?v7n1_0) rfl (by kernel_rfl) (by kernel_rfl) (by kernel_rfl) (fun _ _ _ h => h) (Or.inl ⟨by rfl, ?hy7n1_0⟩) hHeld ?_
            case hy7n1_0 => (intro wS hSw; (try dsimp only at hSw); obtain ⟨hSk, hSo⟩ := hSw; have q9 := hSk.kw hk hna; have q15 := hSk.kw hk hnb; rw [HXA.out] at q9; rw [HXB.out] at q15; have s1 := hSo.cell (j := 1) rfl; have s2 := hSo.cell (j := 2) rfl; have s3 := hSo.cell (j := 3) rfl; rw [HNA.out] at s2; rw [HNB.out] at s3; clear hSk hSo; go_simp; try with_reducible rfl)
            try simp only [List.getElem_toArray, List.getElem_cons_succ, List.getElem_cons_zero, Act.put, List.setIfInBounds_toArray, List.set_cons_zero, List.set_cons_succ]
            refine wpAnyH_take (i := 1) (oi := _) (v := ?v7n1_1) rfl (by kernel_rfl) (by kernel_rfl) (by kernel_rfl) (fun _ _ _ h => h) (Or.inl ⟨by rfl, ?hy7n1_1⟩) hHeld ?_
            case hy7n1_1 => (intro wS hSw; (try dsimp only at hSw); obtain ⟨hSk, hSo⟩ := hSw; have q9 := hSk.kw hk hna; have q15 := hSk.kw hk hnb; rw [HXA.out] at q9; rw [HXB.out] at q15; have s1 := hSo.cell (j := 1) rfl; have s2 := hSo.cell (j := 2) rfl; have s3 := hSo.cell (j := 3) rfl; rw [HNA.out] at s2; rw [HNB.out] at s3; clear hSk hSo; go_simp; try with_reducible rfl)
            try simp only [List.getElem_toArray, List.getElem_cons_succ, List.getElem_cons_zero, Act.put, List.setIfInBounds_toArray, List.set_cons_zero, List.set_cons_succ]
            refine wpAnyH_take (i := 2) (oi := _) (v := ?v7n1_2) rfl (by kernel_rfl) (by kernel_rfl) (by kernel_rfl) (fun _ _ _ h => h) (Or.inl ⟨by rfl, ?hy7n1_2⟩) hHeld ?_
            case hy7n1_2 => (intro wS hSw; (try dsimp only at hSw); obtain ⟨hSk, hSo⟩ := hSw; have q9 := hSk.kw hk hna; have q15 := hSk.kw hk hnb; rw [HXA.out] at q9; rw [HXB.out] at q15; have s1 := hSo.cell (j := 1) rfl; have s2 := hSo.cell (j := 2) rfl; have s3 := hSo.cell (j := 3) rfl; rw [HNA.out] at s2; rw [HNB.out] at s3; clear hSk hSo; go_simp; try with_reducible rfl)
            try simp only [List.getElem_toArray, List.getElem_cons_succ, List.getElem_cons_zero, Act.put, List.setIfInBounds_toArray, List.set_cons_zero, List.set_cons_succ]
            refine wpAnyH_take (i := 3) (oi := _) (v := ?v7n1_3) rfl (by kernel_rfl) (by kernel_rfl) (by kernel_rfl) (fun _ _ _ h => h) (Or.inl ⟨by rfl, ?hy7n1_3⟩) hHeld ?_
            case hy7n1_3 => (intro wS hSw; (try dsimp only at hSw); obtain ⟨hSk, hSo⟩ := hSw; have q9 := hSk.kw hk hna; have q15 := hSk.kw hk hnb; rw [HXA.out] at q9; rw [HXB.out] at q15; have s1 := hSo.cell (j := 1) rfl; have s2 := hSo.cell (j := 2) rfl; have s3 := hSo.cell (j := 3) rfl; rw [HNA.out] at s2; rw [HNB.out] at s3; clear hSk hSo; go_simp; try with_reducible rfl)
            try simp only [List.getElem_toArray, List.getElem_cons_succ, List.getElem_cons_zero, Act.put, List.setIfInBounds_toArray, List.set_cons_zero, List.set_cons_succ]
            refine wpAnyH_take (i := 4) (oi := _) (v := ?v7n1_4) rfl (by kernel_rfl) (by kernel_rfl) (by kernel_rfl) (fun _ _ _ h => h) (Or.inl ⟨by rfl, ?hy7n1_4⟩) hHeld ?_
            case hy7n1_4 => (intro wS hSw; (try dsimp only at hSw); obtain ⟨hSk, hSo⟩ := hSw; have q9 := hSk.kw hk hna; have q15 := hSk.kw hk hnb; rw [HXA.out] at q9; rw [HXB.out] at q15; have s1 := hSo.cell (j := 1) rfl; have s2 := hSo.cell (j := 2) rfl; have s3 := hSo.cell (j := 3) rfl; rw [HNA.out] at s2; rw [HNB.out] at s3; clear hSk hSo; go_simp; try with_reducible rfl)
            try simp only [List.getElem_toArray, List.getElem_cons_succ, List.getElem_cons_zero, Act.put, List.setIfInBounds_toArray, List.set_cons_zero, List.set_cons_succ]
            refine wpAnyH_take (i := 5) (oi := _) (v := ?v7n1_5) rfl (by kernel_rfl) (by kernel_rfl) (by kernel_rfl) (fun _ _ _ h => h) (Or.inl ⟨by rfl, ?hy7n1_5⟩) hHeld ?_
            case hy7n1_5 => (intro wS hSw; (try dsimp only at hSw); obtain ⟨hSk, hSo⟩ := hSw; have q9 := hSk.kw hk hna; have q15 := hSk.kw hk hnb; rw [HXA.out] at q9; rw [HXB.out] at q15; have s1 := hSo.cell (j := 1) rfl; have s2 := hSo.cell (j := 2) rfl; have s3 := hSo.cell (j := 3) rfl; rw [HNA.out] at s2; rw [HNB.out] at s3; clear hSk hSo; go_simp; try with_reducible rfl)
            try simp only [List.getElem_toArray, List.getElem_cons_succ, List.getElem_cons_zero, Act.put, List.setIfInBounds_toArray, List.set_cons_zero, List.set_cons_succ]
            refine wpAnyH_take (i := 6) (oi := _) (v := ?v7n1_6) rfl (by kernel_rfl) (by kernel_rfl) (by kernel_rfl) (fun _ _ _ h => h) (Or.inl ⟨by rfl, ?hy7n1_6⟩) hHeld ?_
            case hy7n1_6 => (intro wS hSw; (try dsimp only at hSw); obtain ⟨hSk, hSo⟩ := hSw; have q9 := hSk.kw hk hna; have q15 := hSk.kw hk hnb; rw [HXA.out] at q9; rw [HXB.out] at q15; have s1 := hSo.cell (j := 1) rfl; have s2 := hSo.cell (j := 2) rfl; have s3 := hSo.cell (j := 3) rfl; rw [HNA.out] at s2; rw [HNB.out] at s3; clear hSk hSo; go_simp; try with_reducible rfl)
            try simp only [List.getElem_toArray, List.getElem_cons_succ, List.getElem_cons_zero, Act.put, List.setIfInBounds_toArray, List.set_cons_zero, List.set_cons_succ]
            refine wpAnyH_take (i := 7) (oi := _) (v := ?v7n1_7) rfl (by kernel_rfl) (by kernel_rfl) (by kernel_rfl) (fun _ _ _ h => h) (Or.inl ⟨by rfl, ?hy7n1_7⟩) hHeld ?_
            case hy7n1_7 => (intro wS hSw; (try dsimp only at hSw); obtain ⟨hSk, hSo⟩ := hSw; have q9 := hSk.kw hk hna; have q15 := hSk.kw hk hnb; rw [HXA.out] at q9; rw [HXB.out] at q15; have s1 := hSo.cell (j := 1) rfl; have s2 := hSo.cell (j := 2) rfl; have s3 := hSo.cell (j := 3) rfl; rw [HNA.out] at s2; rw [HNB.out] at s3; clear hSk hSo; go_simp; try with_reducible rfl)
            try simp only [List.getElem_toArray, List.getElem_cons_succ, List.getElem_cons_zero, Act.put, List.setIfInBounds_toArray, List.set_cons_zero, List.set_cons_succ]
            refine wpAnyH_take (i := 8) (oi := _) (v := ?v7n1_8) rfl (by kernel_rfl) (by kernel_rfl) (by kernel_rfl) (fun _ _ _ h => h) (Or.inl ⟨by rfl, ?hy7n1_8⟩) hHeld ?_
            case hy7n1_8 => (intro wS hSw; (try dsimp only at hSw); obtain ⟨hSk, hSo⟩ := hSw; have q9 := hSk.kw hk hna; have q15 := hSk.kw hk hnb; rw [HXA.out] at q9; rw [HXB.out] at q15; have s1 := hSo.cell (j := 1) rfl; have s2 := hSo.cell (j := 2) rfl; have s3 := hSo.cell (j := 3) rfl; rw [HNA.out] at s2; rw [HNB.out] at s3; clear hSk hSo; go_simp; try with_reducible rfl)
            try simp only [List.getElem_toArray, List.getElem_cons_succ, List.getElem_cons_zero, Act.put, List.setIfInBounds_toArray, List.set_cons_zero, List.set_cons_succ]
            refine wpAnyH_take (i := 9) (oi := _) (v := ?v7n1_9) rfl (by kernel_rfl) (by kernel_rfl) (by kernel_rfl) (fun _ _ _ h => h) (Or.inl ⟨by rfl, ?hy7n1_9⟩) hHeld ?_
            case hy7n1_9 => (intro wS hSw; (try dsimp only at hSw); obtain ⟨hSk, hSo⟩ := hSw; have q9 := hSk.kw hk hna; have q15 := hSk.kw hk hnb; rw [HXA.out] at q9; rw [HXB.out] at q15; have s1 := hSo.cell (j := 1) rfl; have s2 := hSo.cell (j := 2) rfl; have s3 := hSo.cell (j := 3) rfl; rw [HNA.out] at s2; rw [HNB.out] at s3; clear hSk hSo; go_simp; try with_reducible rfl)
            try simp only [List.getElem_toArray, List.getElem_cons_succ, List.getElem_cons_zero, Act.put, List.setIfInBounds_toArray, List.set_cons_zero, List.set_cons_succ]
            refine wpAnyH_take (i := 10) (oi := _) (v := ?v7n1_10) rfl (by kernel_rfl) (by kernel_rfl) (by kernel_rfl) (fun _ _ _ h => h) (Or.inl ⟨by rfl, ?hy7n1_10⟩) hHeld ?_
            case hy7n1_10 => (intro wS hSw; (try dsimp only at hSw); obtain ⟨hSk, hSo⟩ := hSw; have q9 := hSk.kw hk hna; have q15 := hSk.kw hk hnb; rw [HXA.out] at q9; rw [HXB.out] at q15; have s1 := hSo.cell (j := 1) rfl; have s2 := hSo.cell (j := 2) rfl; have s3 := hSo.cell (j := 3) rfl; rw [HNA.out] at s2; rw [HNB.out] at s3; clear hSk hSo; go_simp; try with_reducible rfl)
            try simp only [List.getElem_toArray, List.getElem_cons_succ, List.getElem_cons_zero, Act.put, List.setIfInBounds_toArray, List.set_cons_zero, List.set_cons_succ]
            refine wpAnyH_take (i := 11) (oi := _) (v := ?v7n1_11) rfl (by kernel_rfl) (by kernel_rfl) (by kernel_rfl) (fun _ _ _ h => h) (Or.inl ⟨by rfl, ?hy7n1_11⟩) hHeld ?_
            case hy7n1_11 => (intro wS hSw; (try dsimp only at hSw); obtain ⟨hSk, hSo⟩ := hSw; have q9 := hSk.kw hk hna; have q15 := hSk.kw hk hnb; rw [HXA.out] at q9; rw [HXB.out] at q15; have s1 := hSo.cell (j := 1) rfl; have s2 := hSo.cell (j := 2) rfl; have s3 := hSo.cell (j := 3) rfl; rw [HNA.out] at s2; rw [HNB.out] at s3; clear hSk hSo; go_simp; try with_reducible rfl)
            try simp only [List.getElem_toArray, List.getElem_cons_succ, List.getElem_cons_zero, Act.put, List.setIfInBounds_toArray, List.set_cons_zero, List.set_cons_succ]
            refine wpAnyH_ready (rs := [12]) (by kernel_rfl) (by simp) ?_
            refine AllReadyH.cons (o := _) rfl (fun K hK => ?_) AllReadyH.nil
            go_simp
            refine (refTaken_calls _ _ _ _ hla hlb).mono ?_
            rw [HTK.out]
            rintro e w5 ⟨rfl, rfl⟩
            go_wp2_with fail
            refine hK.out _ _ (hHeld) (fun hHeld12 => ?_)
            clear hK K hHeld
            try simp only [List.getElem_toArray, List.getElem_cons_succ, List.getElem_cons_zero, Act.put, List.setIfInBounds_toArray, List.set_cons_zero, List.set_cons_succ]
            refine wpAnyH_done (by kernel_rfl) ?_ _
            have ra := r1.below bd
            have x4 := ra.cell (j := 4) rfl
            have x5 := ra.cell (j := 5) rfl
            go_wp2_with fail
            go_ret
            exact ⟨ret_bool (by rw [HE.out]), bW.trans (bd.mono bW.size)⟩
          | false =>
            have he : goesK k t x = (t.els == x) := by rw [hg, hia, hib, htk]; rfl
            have HE := Lib.hid he
            have HTK := Lib.hid htk
            clear he hg hia hib htk
            go_enter Try.func42, Try.ntmps42
            go_upto_region 1 with fail
            rw [← HW.out]
            clear HW
            go_upto_region 7 with fail
            clear x0 x2 x3 x4 x5 c1 c2
            have bd := (Below.refl W.heap.size W).drew
            refine wp_region_held_drew (S := (fun w' => Row w' w.heap.size 77 (knownCells k) ∧ Row w' (w.heap.size + 1) 37 (finCells t))) (by kernel_rfl) (⟨r0, r1⟩) (fun hHeld => ?_)
            refine wpAnyH_take (i := 0) (oi := _) (v := ?v7f1_0) rfl (by kernel_rfl) (by kernel_rfl) (by kernel_rfl) (fun _ _ _ h => h) (Or.inl ⟨by rfl, ?hy7f1_0⟩) hHeld ?_
            case hy7f1_0 => (intro wS hSw; (try dsimp only at hSw); obtain ⟨hSk, hSo⟩ := hSw; have q9 := hSk.kw hk hna; have q15 := hSk.kw hk hnb; rw [HXA.out] at q9; rw [HXB.out] at q15; have s1 := hSo.cell (j := 1) rfl; have s2 := hSo.cell (j := 2) rfl; have s3 := hSo.cell (j := 3) rfl; rw [HNA.out] at s2; rw [HNB.out] at s3; clear hSk hSo; go_simp; try with_reducible rfl)
            try simp only [List.getElem_toArray, List.getElem_cons_succ, List.getElem_cons_zero, Act.put, List.setIfInBounds_toArray, List.set_cons_zero, List.set_cons_succ]
            refine wpAnyH_take (i := 1) (oi := _) (v := ?v7f1_1) rfl (by kernel_rfl) (by kernel_rfl) (by kernel_rfl) (fun _ _ _ h => h) (Or.inl ⟨by rfl, ?hy7f1_1⟩) hHeld ?_
            case hy7f1_1 => (intro wS hSw; (try dsimp only at hSw); obtain ⟨hSk, hSo⟩ := hSw; have q9 := hSk.kw hk hna; have q15 := hSk.kw hk hnb; rw [HXA.out] at q9; rw [HXB.out] at q15; have s1 := hSo.cell (j := 1) rfl; have s2 := hSo.cell (j := 2) rfl; have s3 := hSo.cell (j := 3) rfl; rw [HNA.out] at s2; rw [HNB.out] at s3; clear hSk hSo; go_simp; try with_reducible rfl)
            try simp only [List.getElem_toArray, List.getElem_cons_succ, List.getElem_cons_zero, Act.put, List.setIfInBounds_toArray, List.set_cons_zero, List.set_cons_succ]
            refine wpAnyH_take (i := 2) (oi := _) (v := ?v7f1_2) rfl (by kernel_rfl) (by kernel_rfl) (by kernel_rfl) (fun _ _ _ h => h) (Or.inl ⟨by rfl, ?hy7f1_2⟩) hHeld ?_
            case hy7f1_2 => (intro wS hSw; (try dsimp only at hSw); obtain ⟨hSk, hSo⟩ := hSw; have q9 := hSk.kw hk hna; have q15 := hSk.kw hk hnb; rw [HXA.out] at q9; rw [HXB.out] at q15; have s1 := hSo.cell (j := 1) rfl; have s2 := hSo.cell (j := 2) rfl; have s3 := hSo.cell (j := 3) rfl; rw [HNA.out] at s2; rw [HNB.out] at s3; clear hSk hSo; go_simp; try with_reducible rfl)
            try simp only [List.getElem_toArray, List.getElem_cons_succ, List.getElem_cons_zero, Act.put, List.setIfInBounds_toArray, List.set_cons_zero, List.set_cons_succ]
            refine wpAnyH_take (i := 3) (oi := _) (v := ?v7f1_3) rfl (by kernel_rfl) (by kernel_rfl) (by kernel_rfl) (fun _ _ _ h => h) (Or.inl ⟨by rfl, ?hy7f1_3⟩) hHeld ?_
            case hy7f1_3 => (intro wS hSw; (try dsimp only at hSw); obtain ⟨hSk, hSo⟩ := hSw; have q9 := hSk.kw hk hna; have q15 := hSk.kw hk hnb; rw [HXA.out] at q9; rw [HXB.out] at q15; have s1 := hSo.cell (j := 1) rfl; have s2 := hSo.cell (j := 2) rfl; have s3 := hSo.cell (j := 3) rfl; rw [HNA.out] at s2; rw [HNB.out] at s3; clear hSk hSo; go_simp; try with_reducible rfl)
            try simp only [List.getElem_toArray, List.getElem_cons_succ, List.getElem_cons_zero, Act.put, List.setIfInBounds_toArray, List.set_cons_zero, List.set_cons_succ]
            refine wpAnyH_take (i := 4) (oi := _) (v := ?v7f1_4) rfl (by kernel_rfl) (by kernel_rfl) (by kernel_rfl) (fun _ _ _ h => h) (Or.inl ⟨by rfl, ?hy7f1_4⟩) hHeld ?_
            case hy7f1_4 => (intro wS hSw; (try dsimp only at hSw); obtain ⟨hSk, hSo⟩ := hSw; have q9 := hSk.kw hk hna; have q15 := hSk.kw hk hnb; rw [HXA.out] at q9; rw [HXB.out] at q15; have s1 := hSo.cell (j := 1) rfl; have s2 := hSo.cell (j := 2) rfl; have s3 := hSo.cell (j := 3) rfl; rw [HNA.out] at s2; rw [HNB.out] at s3; clear hSk hSo; go_simp; try with_reducible rfl)
            try simp only [List.getElem_toArray, List.getElem_cons_succ, List.getElem_cons_zero, Act.put, List.setIfInBounds_toArray, List.set_cons_zero, List.set_cons_succ]
            refine wpAnyH_take (i := 5) (oi := _) (v := ?v7f1_5) rfl (by kernel_rfl) (by kernel_rfl) (by kernel_rfl) (fun _ _ _ h => h) (Or.inl ⟨by rfl, ?hy7f1_5⟩) hHeld ?_
            case hy7f1_5 => (intro wS hSw; (try dsimp only at hSw); obtain ⟨hSk, hSo⟩ := hSw; have q9 := hSk.kw hk hna; have q15 := hSk.kw hk hnb; rw [HXA.out] at q9; rw [HXB.out] at q15; have s1 := hSo.cell (j := 1) rfl; have s2 := hSo.cell (j := 2) rfl; have s3 := hSo.cell (j := 3) rfl; rw [HNA.out] at s2; rw [HNB.out] at s3; clear hSk hSo; go_simp; try with_reducible rfl)
            try simp only [List.getElem_toArray, List.getElem_cons_succ, List.getElem_cons_zero, Act.put, List.setIfInBounds_toArray, List.set_cons_zero, List.set_cons_succ]
            refine wpAnyH_take (i := 6) (oi := _) (v := ?v7f1_6) rfl (by kernel_rfl) (by kernel_rfl) (by kernel_rfl) (fun _ _ _ h => h) (Or.inl ⟨by rfl, ?hy7f1_6⟩) hHeld ?_
            case hy7f1_6 => (intro wS hSw; (try dsimp only at hSw); obtain ⟨hSk, hSo⟩ := hSw; have q9 := hSk.kw hk hna; have q15 := hSk.kw hk hnb; rw [HXA.out] at q9; rw [HXB.out] at q15; have s1 := hSo.cell (j := 1) rfl; have s2 := hSo.cell (j := 2) rfl; have s3 := hSo.cell (j := 3) rfl; rw [HNA.out] at s2; rw [HNB.out] at s3; clear hSk hSo; go_simp; try with_reducible rfl)
            try simp only [List.getElem_toArray, List.getElem_cons_succ, List.getElem_cons_zero, Act.put, List.setIfInBounds_toArray, List.set_cons_zero, List.set_cons_succ]
            refine wpAnyH_take (i := 7) (oi := _) (v := ?v7f1_7) rfl (by kernel_rfl) (by kernel_rfl) (by kernel_rfl) (fun _ _ _ h => h) (Or.inl ⟨by rfl, ?hy7f1_7⟩) hHeld ?_
            case hy7f1_7 => (intro wS hSw; (try dsimp only at hSw); obtain ⟨hSk, hSo⟩ := hSw; have q9 := hSk.kw hk hna; have q15 := hSk.kw hk hnb; rw [HXA.out] at q9; rw [HXB.out] at q15; have s1 := hSo.cell (j := 1) rfl; have s2 := hSo.cell (j := 2) rfl; have s3 := hSo.cell (j := 3) rfl; rw [HNA.out] at s2; rw [HNB.out] at s3; clear hSk hSo; go_simp; try with_reducible rfl)
            try simp only [List.getElem_toArray, List.getElem_cons_succ, List.getElem_cons_zero, Act.put, List.setIfInBounds_toArray, List.set_cons_zero, List.set_cons_succ]
            refine wpAnyH_take (i := 8) (oi := _) (v := ?v7f1_8) rfl (by kernel_rfl) (by kernel_rfl) (by kernel_rfl) (fun _ _ _ h => h) (Or.inl ⟨by rfl, ?hy7f1_8⟩) hHeld ?_
            case hy7f1_8 => (intro wS hSw; (try dsimp only at hSw); obtain ⟨hSk, hSo⟩ := hSw; have q9 := hSk.kw hk hna; have q15 := hSk.kw hk hnb; rw [HXA.out] at q9; rw [HXB.out] at q15; have s1 := hSo.cell (j := 1) rfl; have s2 := hSo.cell (j := 2) rfl; have s3 := hSo.cell (j := 3) rfl; rw [HNA.out] at s2; rw [HNB.out] at s3; clear hSk hSo; go_simp; try with_reducible rfl)
            try simp only [List.getElem_toArray, List.getElem_cons_succ, List.getElem_cons_zero, Act.put, List.setIfInBounds_toArray, List.set_cons_zero, List.set_cons_succ]
            refine wpAnyH_take (i := 9) (oi := _) (v := ?v7f1_9) rfl (by kernel_rfl) (by kernel_rfl) (by kernel_rfl) (fun _ _ _ h => h) (Or.inl ⟨by rfl, ?hy7f1_9⟩) hHeld ?_
            case hy7f1_9 => (intro wS hSw; (try dsimp only at hSw); obtain ⟨hSk, hSo⟩ := hSw; have q9 := hSk.kw hk hna; have q15 := hSk.kw hk hnb; rw [HXA.out] at q9; rw [HXB.out] at q15; have s1 := hSo.cell (j := 1) rfl; have s2 := hSo.cell (j := 2) rfl; have s3 := hSo.cell (j := 3) rfl; rw [HNA.out] at s2; rw [HNB.out] at s3; clear hSk hSo; go_simp; try with_reducible rfl)
            try simp only [List.getElem_toArray, List.getElem_cons_succ, List.getElem_cons_zero, Act.put, List.setIfInBounds_toArray, List.set_cons_zero, List.set_cons_succ]
            refine wpAnyH_take (i := 10) (oi := _) (v := ?v7f1_10) rfl (by kernel_rfl) (by kernel_rfl) (by kernel_rfl) (fun _ _ _ h => h) (Or.inl ⟨by rfl, ?hy7f1_10⟩) hHeld ?_
            case hy7f1_10 => (intro wS hSw; (try dsimp only at hSw); obtain ⟨hSk, hSo⟩ := hSw; have q9 := hSk.kw hk hna; have q15 := hSk.kw hk hnb; rw [HXA.out] at q9; rw [HXB.out] at q15; have s1 := hSo.cell (j := 1) rfl; have s2 := hSo.cell (j := 2) rfl; have s3 := hSo.cell (j := 3) rfl; rw [HNA.out] at s2; rw [HNB.out] at s3; clear hSk hSo; go_simp; try with_reducible rfl)
            try simp only [List.getElem_toArray, List.getElem_cons_succ, List.getElem_cons_zero, Act.put, List.setIfInBounds_toArray, List.set_cons_zero, List.set_cons_succ]
            refine wpAnyH_take (i := 11) (oi := _) (v := ?v7f1_11) rfl (by kernel_rfl) (by kernel_rfl) (by kernel_rfl) (fun _ _ _ h => h) (Or.inl ⟨by rfl, ?hy7f1_11⟩) hHeld ?_
            case hy7f1_11 => (intro wS hSw; (try dsimp only at hSw); obtain ⟨hSk, hSo⟩ := hSw; have q9 := hSk.kw hk hna; have q15 := hSk.kw hk hnb; rw [HXA.out] at q9; rw [HXB.out] at q15; have s1 := hSo.cell (j := 1) rfl; have s2 := hSo.cell (j := 2) rfl; have s3 := hSo.cell (j := 3) rfl; rw [HNA.out] at s2; rw [HNB.out] at s3; clear hSk hSo; go_simp; try with_reducible rfl)
            try simp only [List.getElem_toArray, List.getElem_cons_succ, List.getElem_cons_zero, Act.put, List.setIfInBounds_toArray, List.set_cons_zero, List.set_cons_succ]
            refine wpAnyH_ready (rs := [12]) (by kernel_rfl) (by simp) ?_
            refine AllReadyH.cons (o := _) rfl (fun K hK => ?_) AllReadyH.nil
            go_simp
            refine (refTaken_calls _ _ _ _ hla hlb).mono ?_
            rw [HTK.out]
            rintro e w5 ⟨rfl, rfl⟩
            go_wp2_with fail
            refine hK.out _ _ (hHeld) (fun hHeld12 => ?_)
            clear hK K hHeld
            try simp only [List.getElem_toArray, List.getElem_cons_succ, List.getElem_cons_zero, Act.put, List.setIfInBounds_toArray, List.set_cons_zero, List.set_cons_succ]
            refine wpAnyH_done (by kernel_rfl) ?_ _
            have ra := r1.below bd
            have x4 := ra.cell (j := 4) rfl
            have x5 := ra.cell (j := 5) rfl
            go_wp2_with fail
            go_ret
            exact ⟨ret_bool (by rw [HE.out]), bW.trans (bd.mono bW.size)⟩
    · have z2 : (t.kind != 2) = true := by simp [h2]
      have he : goesK k t x = false := by unfold goesK; rw [if_neg h1, if_pos h2]
      have HE := Lib.hid he
      clear h1 h2 he hab
      go_enter Try.func42, Try.ntmps42
      go_upto_region 1 with fail
      rw [← HW.out]
      clear HW
      go_wp2_with fail
      go_ret
      exact ⟨ret_bool (by rw [HE.out]), bW⟩
end Go.Proofs.Ytokkngfgppikkab
