/- ValueTaken returns true. Printed by genKq.py of this repository. -/
import Derived.Test.YtokkngfgppikkaaKm
import Derived.Test.YtokkngfgppikkaaKo
namespace Go.Proofs.Ytokkngfgppikkaa
set_option linter.unusedVariables false
set_option linter.unusedSimpArgs false
open Go.RowKit
attribute [local go_sem high] eqKnown eqKnown_zero

theorem aluTaken_flip (a b : Nat) : aluTaken 16 a b = !aluTaken 15 a b ∧ aluTaken 18 a b = !aluTaken 17 a b := by
  constructor
  · simp [aluTaken]; rfl
  · simp [aluTaken]
/-- One way is taken by just one of a branch and its contrary. -/
def FlipK (k : Known) (na nb : Nat) (op fl : Int) : Prop :=
  let t := takenK k ⟨2, op, na, nb, 1, 2, Ins.zero⟩
  let u := takenK k ⟨2, fl, na, nb, 1, 2, Ins.zero⟩
  ((k.reached && (k.isAt na && k.isAt nb)) = true → t.2 = true ∧ u.2 = true ∧ u.1 = !t.1) ∧ ((k.reached && (k.isAt na && k.isAt nb)) = false → t = (false, false) ∧ u = (false, false))
theorem FlipK.no {k : Known} {na nb : Nat} {op fl : Int} (h : FlipK k na nb op fl) (hn : (k.reached && (k.isAt na && k.isAt nb)) = false) : takenK k ⟨2, op, na, nb, 1, 2, Ins.zero⟩ = (false, false) ∧ takenK k ⟨2, fl, na, nb, 1, 2, Ins.zero⟩ = (false, false) := h.2 hn
theorem FlipK.yes {k : Known} {na nb : Nat} {op fl : Int} (h : FlipK k na nb op fl) (hn : (k.reached && (k.isAt na && k.isAt nb)) = true) : ∃ x, takenK k ⟨2, op, na, nb, 1, 2, Ins.zero⟩ = (x, true) ∧ takenK k ⟨2, fl, na, nb, 1, 2, Ins.zero⟩ = (!x, true) := by
  obtain ⟨h1, h2, h3⟩ := h.1 hn
  exact ⟨_, Prod.ext rfl h1, Prod.ext h3 h2⟩
theorem takens_flip (k : Known) (na nb : Nat) (op fl : Int) (h : op = 15 ∧ fl = 16 ∨ op = 16 ∧ fl = 15 ∨ op = 17 ∧ fl = 18 ∨ op = 18 ∧ fl = 17) : FlipK k na nb op fl := by
  have e : (!k.reached || (!k.isAt na || !k.isAt nb)) = !(k.reached && (k.isAt na && k.isAt nb)) := by cases k.reached <;> cases k.isAt na <;> cases k.isAt nb <;> rfl
  refine ⟨fun hk => ?_, fun hk => ?_⟩
  · unfold takenK
    simp only [Int.toNat_natCast]
    rw [e, hk, if_neg (by decide), if_neg (by decide)]
    refine ⟨rfl, rfl, ?_⟩
    show aluTaken fl _ _ = !aluTaken op _ _
    obtain ⟨f1, f2⟩ := aluTaken_flip (k.wAt na) (k.wAt nb)
    rcases h with ⟨rfl, rfl⟩ | ⟨rfl, rfl⟩ | ⟨rfl, rfl⟩ | ⟨rfl, rfl⟩
    · exact f1
    · rw [f1, Bool.not_not]
    · exact f2
    · rw [f2, Bool.not_not]
  · unfold takenK
    simp only [Int.toNat_natCast]
    rw [e, hk, if_pos (by decide), if_pos (by decide)]
    exact ⟨rfl, rfl⟩
theorem u8_bd {x : Int} (h : (Lit.int .u8 x).wf = true) : 0 ≤ x ∧ x ≤ 255 := by
  simp [Lit.wf] at h
  have h1 : IntKind.u8.min = 0 := by decide
  have h2 : IntKind.u8.max = 255 := by decide
  omega

set_option maxHeartbeats 8000000 in
set_option maxRecDepth 100000 in
theorem valueTaken_law (k : Known) (hk : k.wf) (op : Int) (hop : (Lit.int .u8 op).wf = true) (a : Int) (ha : (Lit.int .u8 a).wf = true) (b : Int) (hb : (Lit.int .u8 b).wf = true) (w : World) : Calls Try.prog 7 #[.agg (knownCells k).toArray, .int .u8 op, .int .u8 a, .int .u8 b] w fun e w' => e = .returned (.bool true) ∧ Below w.heap.size w w' := by
  have b0 := below_alloc' w (.cells (knownCells k).toArray 26)
  have r0 : Row (w.alloc (.cells (knownCells k).toArray 26)) w.heap.size 26 (knownCells k) := Row.new w _ _
  obtain ⟨o0, o1⟩ := u8_bd hop
  obtain ⟨a0, a1⟩ := u8_bd ha
  obtain ⟨b1, b2⟩ := u8_bd hb
  clear hop ha hb
  cases hra : rightK k with
  | false =>
    have HA := Lib.hid hra
    clear hra
    go_enter Try.func7, Try.ntmps7
    go_upto_region 1 with fail
    generalize w.alloc (.cells (knownCells k).toArray 26) = W at *
    go_wp2_with fail
    refine (awake20_calls _).mono ?_
    rintro e w1 ⟨rfl, hb1⟩
    have t1 := b0.trans (hb1.mono b0.size)
    replace r0 := r0.below hb1
    go_wp2_with (refine wpList_loadg_known _ k _ hk r0 rfl rfl rfl ?_)
    refine (kright_calls k _ hk).mono ?_
    rw [HA.out]
    rintro e w2 ⟨rfl, hb2⟩
    have t2 := t1.trans (hb2.mono t1.size)
    replace r0 := r0.below hb2
    go_wp2_with fail
    refine (awake20_calls _).mono ?_
    rintro e w9 ⟨rfl, hb9⟩
    go_wp2_with fail
    go_ret
    exact ⟨rfl, t2.trans (hb9.mono t2.size)⟩
  | true =>
    have HA := Lib.hid hra
    clear hra
    obtain ⟨na, hna⟩ := Int.eq_ofNat_of_zero_le (Int.emod_nonneg a (show (16 : Int) ≠ 0 by decide))
    obtain ⟨nb, hnb⟩ := Int.eq_ofNat_of_zero_le (Int.emod_nonneg b (show (16 : Int) ≠ 0 by decide))
    have ha16 : na < 16 := by have := Int.emod_lt_of_pos a (show (0 : Int) < 16 by decide); omega
    have hb16 : nb < 16 := by have := Int.emod_lt_of_pos b (show (0 : Int) < 16 by decide); omega
    have haI : (na : Int) < 16 := by omega
    have hbI : (nb : Int) < 16 := by omega
    have haT : 0 ≤ (na : Int) ∧ (na : Int) < 16 := ⟨by omega, by omega⟩
    have hbT : 0 ≤ (nb : Int) ∧ (nb : Int) < 16 := ⟨by omega, by omega⟩
    have hop : op % 4 = 0 ∨ op % 4 = 1 ∨ op % 4 = 2 ∨ op % 4 = 3 := by omega
    rcases hop with hop | hop | hop | hop
    · skip
      have hq := takens_flip k na nb 15 16 (by decide)
      have HQ := Lib.hid hq
      clear hq
      go_enter Try.func7, Try.ntmps7
      go_upto_region 1 with fail
      generalize w.alloc (.cells (knownCells k).toArray 26) = W at *
      go_wp2_with fail
      refine (awake20_calls _).mono ?_
      rintro e w1 ⟨rfl, hb1⟩
      have t1 := b0.trans (hb1.mono b0.size)
      replace r0 := r0.below hb1
      go_wp2_with (refine wpList_loadg_known _ k _ hk r0 rfl rfl rfl ?_)
      refine (kright_calls k _ hk).mono ?_
      rw [HA.out]
      rintro e w2 ⟨rfl, hb2⟩
      have t2 := t1.trans (hb2.mono t1.size)
      replace r0 := r0.below hb2
      have bt := below_alloc' w2 (.cells #[.int .i64 0, .int .i64 0, .int .i64 0, .int .i64 0, .int .i64 0, .int .i64 0, .int .i64 0, .int .i64 0, .int .i64 0, .int .i64 0, .int .i64 0] 40)
      go_upto_region 4 with (refine wpList_put_row rfl 40 _ _ rfl w2.heap.size (finCells ⟨2, 15, na, nb, 1, 2, Ins.zero⟩) rfl rfl (Row.new w2 40 _) (by kernel_rfl) rfl (finCells_one _) ?_; intro w3 r3 g3 s3; clear s3; replace bt := bt.grown g3 bt.size (fun j hj => by injection hj with hj; subst hj; exact Nat.le_refl _); clear g3)
      have t3 := t2.trans (bt.mono t2.size)
      have hl1 := r0.lt
      replace r0 := r0.below bt
      clear bt
      generalize w2.heap.size = Gt at *
      have bu := below_alloc' w3 (.cells #[.int .i64 0, .int .i64 0, .int .i64 0, .int .i64 0, .int .i64 0, .int .i64 0, .int .i64 0, .int .i64 0, .int .i64 0, .int .i64 0, .int .i64 0] 40)
      go_upto_region 5 with (first | (refine wpList_load_row rfl _ _ rfl Gt rfl 40 _ (0, 0) _ r3 Try.underlying40 rfl (by kernel_rfl) ?_) | (refine wpList_put_row rfl 40 _ _ rfl w3.heap.size (finCells ⟨2, 15, na, nb, 1, 2, Ins.zero⟩) rfl rfl (Row.new w3 40 _) (by kernel_rfl) rfl (finCells_one _) ?_; intro w4 r4 g4 s4; clear s4; replace bu := bu.grown g4 bu.size (fun j hj => by injection hj with hj; subst hj; exact Nat.le_refl _); clear g4))
      have t4 := t3.trans (bu.mono t3.size)
      have hl2 := r0.lt
      have hl3 := r3.lt
      replace r0 := r0.below bu
      replace r3 := r3.below bu
      clear bu
      generalize w3.heap.size = Gu at *
      have bs := below_alloc' w4 (.cells #[.int .i64 16, .int .i64 15, .int .i64 18, .int .i64 17] 3)
      have r4b := r4.below bs
      have r4x := r4b.cell (j := 1) rfl
      have r4f := r4b.frozen 1
      have r5 : Row ((w4.alloc (.cells #[.int .i64 16, .int .i64 15, .int .i64 18, .int .i64 17] 3)).setCell ⟨Gu, 1, none⟩ (.int .i64 16)) Gu 40 (finCells ⟨2, 16, na, nb, 1, 2, Ins.zero⟩) := r4b.set 1 (.int .i64 16)
      have g5 := grown_set (w4.alloc (.cells #[.int .i64 16, .int .i64 15, .int .i64 18, .int .i64 17] 3)) Gu 1 (.int .i64 16)
      have r0b := (r0.below bs).grown g5 (fun e => by injection e with e; omega)
      have r3b := (r3.below bs).grown g5 (fun e => by injection e with e; omega)
      have t5 := (t4.trans (bs.mono t4.size)).grown g5 (Nat.le_trans t4.size bs.size) (fun j hj => by injection hj with hj; omega)
      clear r0 r3 r4 bs g5 r4b
      go_upto_region 6 with fail
      clear r4x r4f
      generalize (w4.alloc (.cells #[.int .i64 16, .int .i64 15, .int .i64 18, .int .i64 17] 3)).setCell ⟨Gu, 1, none⟩ (.int .i64 16) = w5 at *
      cases hre : k.reached with
      | false =>
        obtain ⟨ht, hu⟩ := HQ.out.no (by rw [hre]; rfl)
        have HT := Lib.hid ht
        have HU := Lib.hid hu
        have H0 := Lib.hid hre
        clear ht hu hre
        go_wp2_with (first | (refine wpList_load_known _ k _ hk r0b rfl rfl rfl ?_) | (refine wpList_load_row rfl _ _ rfl Gt rfl 40 _ (0, 0) _ r3b Try.underlying40 rfl (by kernel_rfl) ?_))
        refine (taken_calls k ⟨2, 15, na, nb, 1, 2, Ins.zero⟩ _ hk haT hbT).mono ?_
        rw [HT.out]
        rintro e w6 ⟨rfl, hb6⟩
        have t6 := t5.trans (hb6.mono t5.size)
        replace r0b := r0b.below hb6
        replace r5 := r5.below hb6
        go_wp2_with (first | (refine wpList_load_known _ k _ hk r0b rfl rfl rfl ?_) | (refine wpList_load_row rfl _ _ rfl Gu rfl 40 _ (0, 0) _ r5 Try.underlying40 rfl (by kernel_rfl) ?_))
        refine (taken_calls k ⟨2, 16, na, nb, 1, 2, Ins.zero⟩ _ hk haT hbT).mono ?_
        rw [HU.out]
        rintro e w7 ⟨rfl, hb7⟩
        have t7 := t6.trans (hb7.mono t6.size)
        replace r0b := r0b.below hb7
        have c0 := r0b.cell (knownCells_re k)
        have c1 := r0b.kis hk ha16
        have c2 := r0b.kis hk hb16
        rw [H0.out] at c0
        go_wp2_with fail
        go_ret
        exact ⟨rfl, t7⟩
      | true =>
        cases hia : k.isAt na with
        | false =>
          obtain ⟨ht, hu⟩ := HQ.out.no (by rw [hia, Bool.false_and, Bool.and_false])
          have HT := Lib.hid ht
          have HU := Lib.hid hu
          have H0 := Lib.hid hre
          have H1 := Lib.hid hia
          clear ht hu hre hia
          go_wp2_with (first | (refine wpList_load_known _ k _ hk r0b rfl rfl rfl ?_) | (refine wpList_load_row rfl _ _ rfl Gt rfl 40 _ (0, 0) _ r3b Try.underlying40 rfl (by kernel_rfl) ?_))
          refine (taken_calls k ⟨2, 15, na, nb, 1, 2, Ins.zero⟩ _ hk haT hbT).mono ?_
          rw [HT.out]
          rintro e w6 ⟨rfl, hb6⟩
          have t6 := t5.trans (hb6.mono t5.size)
          replace r0b := r0b.below hb6
          replace r5 := r5.below hb6
          go_wp2_with (first | (refine wpList_load_known _ k _ hk r0b rfl rfl rfl ?_) | (refine wpList_load_row rfl _ _ rfl Gu rfl 40 _ (0, 0) _ r5 Try.underlying40 rfl (by kernel_rfl) ?_))
          refine (taken_calls k ⟨2, 16, na, nb, 1, 2, Ins.zero⟩ _ hk haT hbT).mono ?_
          rw [HU.out]
          rintro e w7 ⟨rfl, hb7⟩
          have t7 := t6.trans (hb7.mono t6.size)
          replace r0b := r0b.below hb7
          have c0 := r0b.cell (knownCells_re k)
          have c1 := r0b.kis hk ha16
          have c2 := r0b.kis hk hb16
          rw [H0.out] at c0
          rw [H1.out] at c1
          go_wp2_with fail
          go_ret
          exact ⟨rfl, t7⟩
        | true =>
          cases hib : k.isAt nb with
          | false =>
            obtain ⟨ht, hu⟩ := HQ.out.no (by rw [hib, Bool.and_false, Bool.and_false])
            have HT := Lib.hid ht
            have HU := Lib.hid hu
            have H0 := Lib.hid hre
            have H1 := Lib.hid hia
            have H2 := Lib.hid hib
            clear ht hu hre hia hib
            go_wp2_with (first | (refine wpList_load_known _ k _ hk r0b rfl rfl rfl ?_) | (refine wpList_load_row rfl _ _ rfl Gt rfl 40 _ (0, 0) _ r3b Try.underlying40 rfl (by kernel_rfl) ?_))
            refine (taken_calls k ⟨2, 15, na, nb, 1, 2, Ins.zero⟩ _ hk haT hbT).mono ?_
            rw [HT.out]
            rintro e w6 ⟨rfl, hb6⟩
            have t6 := t5.trans (hb6.mono t5.size)
            replace r0b := r0b.below hb6
            replace r5 := r5.below hb6
            go_wp2_with (first | (refine wpList_load_known _ k _ hk r0b rfl rfl rfl ?_) | (refine wpList_load_row rfl _ _ rfl Gu rfl 40 _ (0, 0) _ r5 Try.underlying40 rfl (by kernel_rfl) ?_))
            refine (taken_calls k ⟨2, 16, na, nb, 1, 2, Ins.zero⟩ _ hk haT hbT).mono ?_
            rw [HU.out]
            rintro e w7 ⟨rfl, hb7⟩
            have t7 := t6.trans (hb7.mono t6.size)
            replace r0b := r0b.below hb7
            have c0 := r0b.cell (knownCells_re k)
            have c1 := r0b.kis hk ha16
            have c2 := r0b.kis hk hb16
            rw [H0.out] at c0
            rw [H1.out] at c1
            rw [H2.out] at c2
            go_wp2_with fail
            go_ret
            exact ⟨rfl, t7⟩
          | true =>
            obtain ⟨x, ht, hu⟩ := HQ.out.yes (by rw [hre, hia, hib]; rfl)
            cases x with
            | true =>
              have hu' : takenK k ⟨2, 16, na, nb, 1, 2, Ins.zero⟩ = (false, true) := hu
              have HT := Lib.hid ht
              have HU := Lib.hid hu'
              have H0 := Lib.hid hre
              have H1 := Lib.hid hia
              have H2 := Lib.hid hib
              clear ht hu' hre hia hib
              go_wp2_with (first | (refine wpList_load_known _ k _ hk r0b rfl rfl rfl ?_) | (refine wpList_load_row rfl _ _ rfl Gt rfl 40 _ (0, 0) _ r3b Try.underlying40 rfl (by kernel_rfl) ?_))
              refine (taken_calls k ⟨2, 15, na, nb, 1, 2, Ins.zero⟩ _ hk haT hbT).mono ?_
              rw [HT.out]
              rintro e w6 ⟨rfl, hb6⟩
              have t6 := t5.trans (hb6.mono t5.size)
              replace r0b := r0b.below hb6
              replace r5 := r5.below hb6
              go_wp2_with (first | (refine wpList_load_known _ k _ hk r0b rfl rfl rfl ?_) | (refine wpList_load_row rfl _ _ rfl Gu rfl 40 _ (0, 0) _ r5 Try.underlying40 rfl (by kernel_rfl) ?_))
              refine (taken_calls k ⟨2, 16, na, nb, 1, 2, Ins.zero⟩ _ hk haT hbT).mono ?_
              rw [HU.out]
              rintro e w7 ⟨rfl, hb7⟩
              have t7 := t6.trans (hb7.mono t6.size)
              replace r0b := r0b.below hb7
              have c0 := r0b.cell (knownCells_re k)
              have c1 := r0b.kis hk ha16
              have c2 := r0b.kis hk hb16
              rw [H0.out] at c0
              rw [H1.out] at c1
              rw [H2.out] at c2
              go_wp2_with fail
              go_ret
              exact ⟨rfl, t7⟩
            | false =>
              have hu' : takenK k ⟨2, 16, na, nb, 1, 2, Ins.zero⟩ = (true, true) := hu
              have HT := Lib.hid ht
              have HU := Lib.hid hu'
              have H0 := Lib.hid hre
              have H1 := Lib.hid hia
              have H2 := Lib.hid hib
              clear ht hu' hre hia hib
              go_wp2_with (first | (refine wpList_load_known _ k _ hk r0b rfl rfl rfl ?_) | (refine wpList_load_row rfl _ _ rfl Gt rfl 40 _ (0, 0) _ r3b Try.underlying40 rfl (by kernel_rfl) ?_))
              refine (taken_calls k ⟨2, 15, na, nb, 1, 2, Ins.zero⟩ _ hk haT hbT).mono ?_
              rw [HT.out]
              rintro e w6 ⟨rfl, hb6⟩
              have t6 := t5.trans (hb6.mono t5.size)
              replace r0b := r0b.below hb6
              replace r5 := r5.below hb6
              go_wp2_with (first | (refine wpList_load_known _ k _ hk r0b rfl rfl rfl ?_) | (refine wpList_load_row rfl _ _ rfl Gu rfl 40 _ (0, 0) _ r5 Try.underlying40 rfl (by kernel_rfl) ?_))
              refine (taken_calls k ⟨2, 16, na, nb, 1, 2, Ins.zero⟩ _ hk haT hbT).mono ?_
              rw [HU.out]
              rintro e w7 ⟨rfl, hb7⟩
              have t7 := t6.trans (hb7.mono t6.size)
              replace r0b := r0b.below hb7
              have c0 := r0b.cell (knownCells_re k)
              have c1 := r0b.kis hk ha16
              have c2 := r0b.kis hk hb16
              rw [H0.out] at c0
              rw [H1.out] at c1
              rw [H2.out] at c2
              go_wp2_with fail
              go_ret
              exact ⟨rfl, t7⟩
    · skip
      have hq := takens_flip k na nb 16 15 (by decide)
      have HQ := Lib.hid hq
      clear hq
      go_enter Try.func7, Try.ntmps7
      go_upto_region 1 with fail
      generalize w.alloc (.cells (knownCells k).toArray 26) = W at *
      go_wp2_with fail
      refine (awake20_calls _).mono ?_
      rintro e w1 ⟨rfl, hb1⟩
      have t1 := b0.trans (hb1.mono b0.size)
      replace r0 := r0.below hb1
      go_wp2_with (refine wpList_loadg_known _ k _ hk r0 rfl rfl rfl ?_)
      refine (kright_calls k _ hk).mono ?_
      rw [HA.out]
      rintro e w2 ⟨rfl, hb2⟩
      have t2 := t1.trans (hb2.mono t1.size)
      replace r0 := r0.below hb2
      have bt := below_alloc' w2 (.cells #[.int .i64 0, .int .i64 0, .int .i64 0, .int .i64 0, .int .i64 0, .int .i64 0, .int .i64 0, .int .i64 0, .int .i64 0, .int .i64 0, .int .i64 0] 40)
      go_upto_region 4 with (refine wpList_put_row rfl 40 _ _ rfl w2.heap.size (finCells ⟨2, 16, na, nb, 1, 2, Ins.zero⟩) rfl rfl (Row.new w2 40 _) (by kernel_rfl) rfl (finCells_one _) ?_; intro w3 r3 g3 s3; clear s3; replace bt := bt.grown g3 bt.size (fun j hj => by injection hj with hj; subst hj; exact Nat.le_refl _); clear g3)
      have t3 := t2.trans (bt.mono t2.size)
      have hl1 := r0.lt
      replace r0 := r0.below bt
      clear bt
      generalize w2.heap.size = Gt at *
      have bu := below_alloc' w3 (.cells #[.int .i64 0, .int .i64 0, .int .i64 0, .int .i64 0, .int .i64 0, .int .i64 0, .int .i64 0, .int .i64 0, .int .i64 0, .int .i64 0, .int .i64 0] 40)
      go_upto_region 5 with (first | (refine wpList_load_row rfl _ _ rfl Gt rfl 40 _ (0, 0) _ r3 Try.underlying40 rfl (by kernel_rfl) ?_) | (refine wpList_put_row rfl 40 _ _ rfl w3.heap.size (finCells ⟨2, 16, na, nb, 1, 2, Ins.zero⟩) rfl rfl (Row.new w3 40 _) (by kernel_rfl) rfl (finCells_one _) ?_; intro w4 r4 g4 s4; clear s4; replace bu := bu.grown g4 bu.size (fun j hj => by injection hj with hj; subst hj; exact Nat.le_refl _); clear g4))
      have t4 := t3.trans (bu.mono t3.size)
      have hl2 := r0.lt
      have hl3 := r3.lt
      replace r0 := r0.below bu
      replace r3 := r3.below bu
      clear bu
      generalize w3.heap.size = Gu at *
      have bs := below_alloc' w4 (.cells #[.int .i64 16, .int .i64 15, .int .i64 18, .int .i64 17] 3)
      have r4b := r4.below bs
      have r4x := r4b.cell (j := 1) rfl
      have r4f := r4b.frozen 1
      have r5 : Row ((w4.alloc (.cells #[.int .i64 16, .int .i64 15, .int .i64 18, .int .i64 17] 3)).setCell ⟨Gu, 1, none⟩ (.int .i64 15)) Gu 40 (finCells ⟨2, 15, na, nb, 1, 2, Ins.zero⟩) := r4b.set 1 (.int .i64 15)
      have g5 := grown_set (w4.alloc (.cells #[.int .i64 16, .int .i64 15, .int .i64 18, .int .i64 17] 3)) Gu 1 (.int .i64 15)
      have r0b := (r0.below bs).grown g5 (fun e => by injection e with e; omega)
      have r3b := (r3.below bs).grown g5 (fun e => by injection e with e; omega)
      have t5 := (t4.trans (bs.mono t4.size)).grown g5 (Nat.le_trans t4.size bs.size) (fun j hj => by injection hj with hj; omega)
      clear r0 r3 r4 bs g5 r4b
      go_upto_region 6 with fail
      clear r4x r4f
      generalize (w4.alloc (.cells #[.int .i64 16, .int .i64 15, .int .i64 18, .int .i64 17] 3)).setCell ⟨Gu, 1, none⟩ (.int .i64 15) = w5 at *
      cases hre : k.reached with
      | false =>
        obtain ⟨ht, hu⟩ := HQ.out.no (by rw [hre]; rfl)
        have HT := Lib.hid ht
        have HU := Lib.hid hu
        have H0 := Lib.hid hre
        clear ht hu hre
        go_wp2_with (first | (refine wpList_load_known _ k _ hk r0b rfl rfl rfl ?_) | (refine wpList_load_row rfl _ _ rfl Gt rfl 40 _ (0, 0) _ r3b Try.underlying40 rfl (by kernel_rfl) ?_))
        refine (taken_calls k ⟨2, 16, na, nb, 1, 2, Ins.zero⟩ _ hk haT hbT).mono ?_
        rw [HT.out]
        rintro e w6 ⟨rfl, hb6⟩
        have t6 := t5.trans (hb6.mono t5.size)
        replace r0b := r0b.below hb6
        replace r5 := r5.below hb6
        go_wp2_with (first | (refine wpList_load_known _ k _ hk r0b rfl rfl rfl ?_) | (refine wpList_load_row rfl _ _ rfl Gu rfl 40 _ (0, 0) _ r5 Try.underlying40 rfl (by kernel_rfl) ?_))
        refine (taken_calls k ⟨2, 15, na, nb, 1, 2, Ins.zero⟩ _ hk haT hbT).mono ?_
        rw [HU.out]
        rintro e w7 ⟨rfl, hb7⟩
        have t7 := t6.trans (hb7.mono t6.size)
        replace r0b := r0b.below hb7
        have c0 := r0b.cell (knownCells_re k)
        have c1 := r0b.kis hk ha16
        have c2 := r0b.kis hk hb16
        rw [H0.out] at c0
        go_wp2_with fail
        go_ret
        exact ⟨rfl, t7⟩
      | true =>
        cases hia : k.isAt na with
        | false =>
          obtain ⟨ht, hu⟩ := HQ.out.no (by rw [hia, Bool.false_and, Bool.and_false])
          have HT := Lib.hid ht
          have HU := Lib.hid hu
          have H0 := Lib.hid hre
          have H1 := Lib.hid hia
          clear ht hu hre hia
          go_wp2_with (first | (refine wpList_load_known _ k _ hk r0b rfl rfl rfl ?_) | (refine wpList_load_row rfl _ _ rfl Gt rfl 40 _ (0, 0) _ r3b Try.underlying40 rfl (by kernel_rfl) ?_))
          refine (taken_calls k ⟨2, 16, na, nb, 1, 2, Ins.zero⟩ _ hk haT hbT).mono ?_
          rw [HT.out]
          rintro e w6 ⟨rfl, hb6⟩
          have t6 := t5.trans (hb6.mono t5.size)
          replace r0b := r0b.below hb6
          replace r5 := r5.below hb6
          go_wp2_with (first | (refine wpList_load_known _ k _ hk r0b rfl rfl rfl ?_) | (refine wpList_load_row rfl _ _ rfl Gu rfl 40 _ (0, 0) _ r5 Try.underlying40 rfl (by kernel_rfl) ?_))
          refine (taken_calls k ⟨2, 15, na, nb, 1, 2, Ins.zero⟩ _ hk haT hbT).mono ?_
          rw [HU.out]
          rintro e w7 ⟨rfl, hb7⟩
          have t7 := t6.trans (hb7.mono t6.size)
          replace r0b := r0b.below hb7
          have c0 := r0b.cell (knownCells_re k)
          have c1 := r0b.kis hk ha16
          have c2 := r0b.kis hk hb16
          rw [H0.out] at c0
          rw [H1.out] at c1
          go_wp2_with fail
          go_ret
          exact ⟨rfl, t7⟩
        | true =>
          cases hib : k.isAt nb with
          | false =>
            obtain ⟨ht, hu⟩ := HQ.out.no (by rw [hib, Bool.and_false, Bool.and_false])
            have HT := Lib.hid ht
            have HU := Lib.hid hu
            have H0 := Lib.hid hre
            have H1 := Lib.hid hia
            have H2 := Lib.hid hib
            clear ht hu hre hia hib
            go_wp2_with (first | (refine wpList_load_known _ k _ hk r0b rfl rfl rfl ?_) | (refine wpList_load_row rfl _ _ rfl Gt rfl 40 _ (0, 0) _ r3b Try.underlying40 rfl (by kernel_rfl) ?_))
            refine (taken_calls k ⟨2, 16, na, nb, 1, 2, Ins.zero⟩ _ hk haT hbT).mono ?_
            rw [HT.out]
            rintro e w6 ⟨rfl, hb6⟩
            have t6 := t5.trans (hb6.mono t5.size)
            replace r0b := r0b.below hb6
            replace r5 := r5.below hb6
            go_wp2_with (first | (refine wpList_load_known _ k _ hk r0b rfl rfl rfl ?_) | (refine wpList_load_row rfl _ _ rfl Gu rfl 40 _ (0, 0) _ r5 Try.underlying40 rfl (by kernel_rfl) ?_))
            refine (taken_calls k ⟨2, 15, na, nb, 1, 2, Ins.zero⟩ _ hk haT hbT).mono ?_
            rw [HU.out]
            rintro e w7 ⟨rfl, hb7⟩
            have t7 := t6.trans (hb7.mono t6.size)
            replace r0b := r0b.below hb7
            have c0 := r0b.cell (knownCells_re k)
            have c1 := r0b.kis hk ha16
            have c2 := r0b.kis hk hb16
            rw [H0.out] at c0
            rw [H1.out] at c1
            rw [H2.out] at c2
            go_wp2_with fail
            go_ret
            exact ⟨rfl, t7⟩
          | true =>
            obtain ⟨x, ht, hu⟩ := HQ.out.yes (by rw [hre, hia, hib]; rfl)
            cases x with
            | true =>
              have hu' : takenK k ⟨2, 15, na, nb, 1, 2, Ins.zero⟩ = (false, true) := hu
              have HT := Lib.hid ht
              have HU := Lib.hid hu'
              have H0 := Lib.hid hre
              have H1 := Lib.hid hia
              have H2 := Lib.hid hib
              clear ht hu' hre hia hib
              go_wp2_with (first | (refine wpList_load_known _ k _ hk r0b rfl rfl rfl ?_) | (refine wpList_load_row rfl _ _ rfl Gt rfl 40 _ (0, 0) _ r3b Try.underlying40 rfl (by kernel_rfl) ?_))
              refine (taken_calls k ⟨2, 16, na, nb, 1, 2, Ins.zero⟩ _ hk haT hbT).mono ?_
              rw [HT.out]
              rintro e w6 ⟨rfl, hb6⟩
              have t6 := t5.trans (hb6.mono t5.size)
              replace r0b := r0b.below hb6
              replace r5 := r5.below hb6
              go_wp2_with (first | (refine wpList_load_known _ k _ hk r0b rfl rfl rfl ?_) | (refine wpList_load_row rfl _ _ rfl Gu rfl 40 _ (0, 0) _ r5 Try.underlying40 rfl (by kernel_rfl) ?_))
              refine (taken_calls k ⟨2, 15, na, nb, 1, 2, Ins.zero⟩ _ hk haT hbT).mono ?_
              rw [HU.out]
              rintro e w7 ⟨rfl, hb7⟩
              have t7 := t6.trans (hb7.mono t6.size)
              replace r0b := r0b.below hb7
              have c0 := r0b.cell (knownCells_re k)
              have c1 := r0b.kis hk ha16
              have c2 := r0b.kis hk hb16
              rw [H0.out] at c0
              rw [H1.out] at c1
              rw [H2.out] at c2
              go_wp2_with fail
              go_ret
              exact ⟨rfl, t7⟩
            | false =>
              have hu' : takenK k ⟨2, 15, na, nb, 1, 2, Ins.zero⟩ = (true, true) := hu
              have HT := Lib.hid ht
              have HU := Lib.hid hu'
              have H0 := Lib.hid hre
              have H1 := Lib.hid hia
              have H2 := Lib.hid hib
              clear ht hu' hre hia hib
              go_wp2_with (first | (refine wpList_load_known _ k _ hk r0b rfl rfl rfl ?_) | (refine wpList_load_row rfl _ _ rfl Gt rfl 40 _ (0, 0) _ r3b Try.underlying40 rfl (by kernel_rfl) ?_))
              refine (taken_calls k ⟨2, 16, na, nb, 1, 2, Ins.zero⟩ _ hk haT hbT).mono ?_
              rw [HT.out]
              rintro e w6 ⟨rfl, hb6⟩
              have t6 := t5.trans (hb6.mono t5.size)
              replace r0b := r0b.below hb6
              replace r5 := r5.below hb6
              go_wp2_with (first | (refine wpList_load_known _ k _ hk r0b rfl rfl rfl ?_) | (refine wpList_load_row rfl _ _ rfl Gu rfl 40 _ (0, 0) _ r5 Try.underlying40 rfl (by kernel_rfl) ?_))
              refine (taken_calls k ⟨2, 15, na, nb, 1, 2, Ins.zero⟩ _ hk haT hbT).mono ?_
              rw [HU.out]
              rintro e w7 ⟨rfl, hb7⟩
              have t7 := t6.trans (hb7.mono t6.size)
              replace r0b := r0b.below hb7
              have c0 := r0b.cell (knownCells_re k)
              have c1 := r0b.kis hk ha16
              have c2 := r0b.kis hk hb16
              rw [H0.out] at c0
              rw [H1.out] at c1
              rw [H2.out] at c2
              go_wp2_with fail
              go_ret
              exact ⟨rfl, t7⟩
    · skip
      have hq := takens_flip k na nb 17 18 (by decide)
      have HQ := Lib.hid hq
      clear hq
      go_enter Try.func7, Try.ntmps7
      go_upto_region 1 with fail
      generalize w.alloc (.cells (knownCells k).toArray 26) = W at *
      go_wp2_with fail
      refine (awake20_calls _).mono ?_
      rintro e w1 ⟨rfl, hb1⟩
      have t1 := b0.trans (hb1.mono b0.size)
      replace r0 := r0.below hb1
      go_wp2_with (refine wpList_loadg_known _ k _ hk r0 rfl rfl rfl ?_)
      refine (kright_calls k _ hk).mono ?_
      rw [HA.out]
      rintro e w2 ⟨rfl, hb2⟩
      have t2 := t1.trans (hb2.mono t1.size)
      replace r0 := r0.below hb2
      have bt := below_alloc' w2 (.cells #[.int .i64 0, .int .i64 0, .int .i64 0, .int .i64 0, .int .i64 0, .int .i64 0, .int .i64 0, .int .i64 0, .int .i64 0, .int .i64 0, .int .i64 0] 40)
      go_upto_region 4 with (refine wpList_put_row rfl 40 _ _ rfl w2.heap.size (finCells ⟨2, 17, na, nb, 1, 2, Ins.zero⟩) rfl rfl (Row.new w2 40 _) (by kernel_rfl) rfl (finCells_one _) ?_; intro w3 r3 g3 s3; clear s3; replace bt := bt.grown g3 bt.size (fun j hj => by injection hj with hj; subst hj; exact Nat.le_refl _); clear g3)
      have t3 := t2.trans (bt.mono t2.size)
      have hl1 := r0.lt
      replace r0 := r0.below bt
      clear bt
      generalize w2.heap.size = Gt at *
      have bu := below_alloc' w3 (.cells #[.int .i64 0, .int .i64 0, .int .i64 0, .int .i64 0, .int .i64 0, .int .i64 0, .int .i64 0, .int .i64 0, .int .i64 0, .int .i64 0, .int .i64 0] 40)
      go_upto_region 5 with (first | (refine wpList_load_row rfl _ _ rfl Gt rfl 40 _ (0, 0) _ r3 Try.underlying40 rfl (by kernel_rfl) ?_) | (refine wpList_put_row rfl 40 _ _ rfl w3.heap.size (finCells ⟨2, 17, na, nb, 1, 2, Ins.zero⟩) rfl rfl (Row.new w3 40 _) (by kernel_rfl) rfl (finCells_one _) ?_; intro w4 r4 g4 s4; clear s4; replace bu := bu.grown g4 bu.size (fun j hj => by injection hj with hj; subst hj; exact Nat.le_refl _); clear g4))
      have t4 := t3.trans (bu.mono t3.size)
      have hl2 := r0.lt
      have hl3 := r3.lt
      replace r0 := r0.below bu
      replace r3 := r3.below bu
      clear bu
      generalize w3.heap.size = Gu at *
      have bs := below_alloc' w4 (.cells #[.int .i64 16, .int .i64 15, .int .i64 18, .int .i64 17] 3)
      have r4b := r4.below bs
      have r4x := r4b.cell (j := 1) rfl
      have r4f := r4b.frozen 1
      have r5 : Row ((w4.alloc (.cells #[.int .i64 16, .int .i64 15, .int .i64 18, .int .i64 17] 3)).setCell ⟨Gu, 1, none⟩ (.int .i64 18)) Gu 40 (finCells ⟨2, 18, na, nb, 1, 2, Ins.zero⟩) := r4b.set 1 (.int .i64 18)
      have g5 := grown_set (w4.alloc (.cells #[.int .i64 16, .int .i64 15, .int .i64 18, .int .i64 17] 3)) Gu 1 (.int .i64 18)
      have r0b := (r0.below bs).grown g5 (fun e => by injection e with e; omega)
      have r3b := (r3.below bs).grown g5 (fun e => by injection e with e; omega)
      have t5 := (t4.trans (bs.mono t4.size)).grown g5 (Nat.le_trans t4.size bs.size) (fun j hj => by injection hj with hj; omega)
      clear r0 r3 r4 bs g5 r4b
      go_upto_region 6 with fail
      clear r4x r4f
      generalize (w4.alloc (.cells #[.int .i64 16, .int .i64 15, .int .i64 18, .int .i64 17] 3)).setCell ⟨Gu, 1, none⟩ (.int .i64 18) = w5 at *
      cases hre : k.reached with
      | false =>
        obtain ⟨ht, hu⟩ := HQ.out.no (by rw [hre]; rfl)
        have HT := Lib.hid ht
        have HU := Lib.hid hu
        have H0 := Lib.hid hre
        clear ht hu hre
        go_wp2_with (first | (refine wpList_load_known _ k _ hk r0b rfl rfl rfl ?_) | (refine wpList_load_row rfl _ _ rfl Gt rfl 40 _ (0, 0) _ r3b Try.underlying40 rfl (by kernel_rfl) ?_))
        refine (taken_calls k ⟨2, 17, na, nb, 1, 2, Ins.zero⟩ _ hk haT hbT).mono ?_
        rw [HT.out]
        rintro e w6 ⟨rfl, hb6⟩
        have t6 := t5.trans (hb6.mono t5.size)
        replace r0b := r0b.below hb6
        replace r5 := r5.below hb6
        go_wp2_with (first | (refine wpList_load_known _ k _ hk r0b rfl rfl rfl ?_) | (refine wpList_load_row rfl _ _ rfl Gu rfl 40 _ (0, 0) _ r5 Try.underlying40 rfl (by kernel_rfl) ?_))
        refine (taken_calls k ⟨2, 18, na, nb, 1, 2, Ins.zero⟩ _ hk haT hbT).mono ?_
        rw [HU.out]
        rintro e w7 ⟨rfl, hb7⟩
        have t7 := t6.trans (hb7.mono t6.size)
        replace r0b := r0b.below hb7
        have c0 := r0b.cell (knownCells_re k)
        have c1 := r0b.kis hk ha16
        have c2 := r0b.kis hk hb16
        rw [H0.out] at c0
        go_wp2_with fail
        go_ret
        exact ⟨rfl, t7⟩
      | true =>
        cases hia : k.isAt na with
        | false =>
          obtain ⟨ht, hu⟩ := HQ.out.no (by rw [hia, Bool.false_and, Bool.and_false])
          have HT := Lib.hid ht
          have HU := Lib.hid hu
          have H0 := Lib.hid hre
          have H1 := Lib.hid hia
          clear ht hu hre hia
          go_wp2_with (first | (refine wpList_load_known _ k _ hk r0b rfl rfl rfl ?_) | (refine wpList_load_row rfl _ _ rfl Gt rfl 40 _ (0, 0) _ r3b Try.underlying40 rfl (by kernel_rfl) ?_))
          refine (taken_calls k ⟨2, 17, na, nb, 1, 2, Ins.zero⟩ _ hk haT hbT).mono ?_
          rw [HT.out]
          rintro e w6 ⟨rfl, hb6⟩
          have t6 := t5.trans (hb6.mono t5.size)
          replace r0b := r0b.below hb6
          replace r5 := r5.below hb6
          go_wp2_with (first | (refine wpList_load_known _ k _ hk r0b rfl rfl rfl ?_) | (refine wpList_load_row rfl _ _ rfl Gu rfl 40 _ (0, 0) _ r5 Try.underlying40 rfl (by kernel_rfl) ?_))
          refine (taken_calls k ⟨2, 18, na, nb, 1, 2, Ins.zero⟩ _ hk haT hbT).mono ?_
          rw [HU.out]
          rintro e w7 ⟨rfl, hb7⟩
          have t7 := t6.trans (hb7.mono t6.size)
          replace r0b := r0b.below hb7
          have c0 := r0b.cell (knownCells_re k)
          have c1 := r0b.kis hk ha16
          have c2 := r0b.kis hk hb16
          rw [H0.out] at c0
          rw [H1.out] at c1
          go_wp2_with fail
          go_ret
          exact ⟨rfl, t7⟩
        | true =>
          cases hib : k.isAt nb with
          | false =>
            obtain ⟨ht, hu⟩ := HQ.out.no (by rw [hib, Bool.and_false, Bool.and_false])
            have HT := Lib.hid ht
            have HU := Lib.hid hu
            have H0 := Lib.hid hre
            have H1 := Lib.hid hia
            have H2 := Lib.hid hib
            clear ht hu hre hia hib
            go_wp2_with (first | (refine wpList_load_known _ k _ hk r0b rfl rfl rfl ?_) | (refine wpList_load_row rfl _ _ rfl Gt rfl 40 _ (0, 0) _ r3b Try.underlying40 rfl (by kernel_rfl) ?_))
            refine (taken_calls k ⟨2, 17, na, nb, 1, 2, Ins.zero⟩ _ hk haT hbT).mono ?_
            rw [HT.out]
            rintro e w6 ⟨rfl, hb6⟩
            have t6 := t5.trans (hb6.mono t5.size)
            replace r0b := r0b.below hb6
            replace r5 := r5.below hb6
            go_wp2_with (first | (refine wpList_load_known _ k _ hk r0b rfl rfl rfl ?_) | (refine wpList_load_row rfl _ _ rfl Gu rfl 40 _ (0, 0) _ r5 Try.underlying40 rfl (by kernel_rfl) ?_))
            refine (taken_calls k ⟨2, 18, na, nb, 1, 2, Ins.zero⟩ _ hk haT hbT).mono ?_
            rw [HU.out]
            rintro e w7 ⟨rfl, hb7⟩
            have t7 := t6.trans (hb7.mono t6.size)
            replace r0b := r0b.below hb7
            have c0 := r0b.cell (knownCells_re k)
            have c1 := r0b.kis hk ha16
            have c2 := r0b.kis hk hb16
            rw [H0.out] at c0
            rw [H1.out] at c1
            rw [H2.out] at c2
            go_wp2_with fail
            go_ret
            exact ⟨rfl, t7⟩
          | true =>
            obtain ⟨x, ht, hu⟩ := HQ.out.yes (by rw [hre, hia, hib]; rfl)
            cases x with
            | true =>
              have hu' : takenK k ⟨2, 18, na, nb, 1, 2, Ins.zero⟩ = (false, true) := hu
              have HT := Lib.hid ht
              have HU := Lib.hid hu'
              have H0 := Lib.hid hre
              have H1 := Lib.hid hia
              have H2 := Lib.hid hib
              clear ht hu' hre hia hib
              go_wp2_with (first | (refine wpList_load_known _ k _ hk r0b rfl rfl rfl ?_) | (refine wpList_load_row rfl _ _ rfl Gt rfl 40 _ (0, 0) _ r3b Try.underlying40 rfl (by kernel_rfl) ?_))
              refine (taken_calls k ⟨2, 17, na, nb, 1, 2, Ins.zero⟩ _ hk haT hbT).mono ?_
              rw [HT.out]
              rintro e w6 ⟨rfl, hb6⟩
              have t6 := t5.trans (hb6.mono t5.size)
              replace r0b := r0b.below hb6
              replace r5 := r5.below hb6
              go_wp2_with (first | (refine wpList_load_known _ k _ hk r0b rfl rfl rfl ?_) | (refine wpList_load_row rfl _ _ rfl Gu rfl 40 _ (0, 0) _ r5 Try.underlying40 rfl (by kernel_rfl) ?_))
              refine (taken_calls k ⟨2, 18, na, nb, 1, 2, Ins.zero⟩ _ hk haT hbT).mono ?_
              rw [HU.out]
              rintro e w7 ⟨rfl, hb7⟩
              have t7 := t6.trans (hb7.mono t6.size)
              replace r0b := r0b.below hb7
              have c0 := r0b.cell (knownCells_re k)
              have c1 := r0b.kis hk ha16
              have c2 := r0b.kis hk hb16
              rw [H0.out] at c0
              rw [H1.out] at c1
              rw [H2.out] at c2
              go_wp2_with fail
              go_ret
              exact ⟨rfl, t7⟩
            | false =>
              have hu' : takenK k ⟨2, 18, na, nb, 1, 2, Ins.zero⟩ = (true, true) := hu
              have HT := Lib.hid ht
              have HU := Lib.hid hu'
              have H0 := Lib.hid hre
              have H1 := Lib.hid hia
              have H2 := Lib.hid hib
              clear ht hu' hre hia hib
              go_wp2_with (first | (refine wpList_load_known _ k _ hk r0b rfl rfl rfl ?_) | (refine wpList_load_row rfl _ _ rfl Gt rfl 40 _ (0, 0) _ r3b Try.underlying40 rfl (by kernel_rfl) ?_))
              refine (taken_calls k ⟨2, 17, na, nb, 1, 2, Ins.zero⟩ _ hk haT hbT).mono ?_
              rw [HT.out]
              rintro e w6 ⟨rfl, hb6⟩
              have t6 := t5.trans (hb6.mono t5.size)
              replace r0b := r0b.below hb6
              replace r5 := r5.below hb6
              go_wp2_with (first | (refine wpList_load_known _ k _ hk r0b rfl rfl rfl ?_) | (refine wpList_load_row rfl _ _ rfl Gu rfl 40 _ (0, 0) _ r5 Try.underlying40 rfl (by kernel_rfl) ?_))
              refine (taken_calls k ⟨2, 18, na, nb, 1, 2, Ins.zero⟩ _ hk haT hbT).mono ?_
              rw [HU.out]
              rintro e w7 ⟨rfl, hb7⟩
              have t7 := t6.trans (hb7.mono t6.size)
              replace r0b := r0b.below hb7
              have c0 := r0b.cell (knownCells_re k)
              have c1 := r0b.kis hk ha16
              have c2 := r0b.kis hk hb16
              rw [H0.out] at c0
              rw [H1.out] at c1
              rw [H2.out] at c2
              go_wp2_with fail
              go_ret
              exact ⟨rfl, t7⟩
    · skip
      have hq := takens_flip k na nb 18 17 (by decide)
      have HQ := Lib.hid hq
      clear hq
      go_enter Try.func7, Try.ntmps7
      go_upto_region 1 with fail
      generalize w.alloc (.cells (knownCells k).toArray 26) = W at *
      go_wp2_with fail
      refine (awake20_calls _).mono ?_
      rintro e w1 ⟨rfl, hb1⟩
      have t1 := b0.trans (hb1.mono b0.size)
      replace r0 := r0.below hb1
      go_wp2_with (refine wpList_loadg_known _ k _ hk r0 rfl rfl rfl ?_)
      refine (kright_calls k _ hk).mono ?_
      rw [HA.out]
      rintro e w2 ⟨rfl, hb2⟩
      have t2 := t1.trans (hb2.mono t1.size)
      replace r0 := r0.below hb2
      have bt := below_alloc' w2 (.cells #[.int .i64 0, .int .i64 0, .int .i64 0, .int .i64 0, .int .i64 0, .int .i64 0, .int .i64 0, .int .i64 0, .int .i64 0, .int .i64 0, .int .i64 0] 40)
      go_upto_region 4 with (refine wpList_put_row rfl 40 _ _ rfl w2.heap.size (finCells ⟨2, 18, na, nb, 1, 2, Ins.zero⟩) rfl rfl (Row.new w2 40 _) (by kernel_rfl) rfl (finCells_one _) ?_; intro w3 r3 g3 s3; clear s3; replace bt := bt.grown g3 bt.size (fun j hj => by injection hj with hj; subst hj; exact Nat.le_refl _); clear g3)
      have t3 := t2.trans (bt.mono t2.size)
      have hl1 := r0.lt
      replace r0 := r0.below bt
      clear bt
      generalize w2.heap.size = Gt at *
      have bu := below_alloc' w3 (.cells #[.int .i64 0, .int .i64 0, .int .i64 0, .int .i64 0, .int .i64 0, .int .i64 0, .int .i64 0, .int .i64 0, .int .i64 0, .int .i64 0, .int .i64 0] 40)
      go_upto_region 5 with (first | (refine wpList_load_row rfl _ _ rfl Gt rfl 40 _ (0, 0) _ r3 Try.underlying40 rfl (by kernel_rfl) ?_) | (refine wpList_put_row rfl 40 _ _ rfl w3.heap.size (finCells ⟨2, 18, na, nb, 1, 2, Ins.zero⟩) rfl rfl (Row.new w3 40 _) (by kernel_rfl) rfl (finCells_one _) ?_; intro w4 r4 g4 s4; clear s4; replace bu := bu.grown g4 bu.size (fun j hj => by injection hj with hj; subst hj; exact Nat.le_refl _); clear g4))
      have t4 := t3.trans (bu.mono t3.size)
      have hl2 := r0.lt
      have hl3 := r3.lt
      replace r0 := r0.below bu
      replace r3 := r3.below bu
      clear bu
      generalize w3.heap.size = Gu at *
      have bs := below_alloc' w4 (.cells #[.int .i64 16, .int .i64 15, .int .i64 18, .int .i64 17] 3)
      have r4b := r4.below bs
      have r4x := r4b.cell (j := 1) rfl
      have r4f := r4b.frozen 1
      have r5 : Row ((w4.alloc (.cells #[.int .i64 16, .int .i64 15, .int .i64 18, .int .i64 17] 3)).setCell ⟨Gu, 1, none⟩ (.int .i64 17)) Gu 40 (finCells ⟨2, 17, na, nb, 1, 2, Ins.zero⟩) := r4b.set 1 (.int .i64 17)
      have g5 := grown_set (w4.alloc (.cells #[.int .i64 16, .int .i64 15, .int .i64 18, .int .i64 17] 3)) Gu 1 (.int .i64 17)
      have r0b := (r0.below bs).grown g5 (fun e => by injection e with e; omega)
      have r3b := (r3.below bs).grown g5 (fun e => by injection e with e; omega)
      have t5 := (t4.trans (bs.mono t4.size)).grown g5 (Nat.le_trans t4.size bs.size) (fun j hj => by injection hj with hj; omega)
      clear r0 r3 r4 bs g5 r4b
      go_upto_region 6 with fail
      clear r4x r4f
      generalize (w4.alloc (.cells #[.int .i64 16, .int .i64 15, .int .i64 18, .int .i64 17] 3)).setCell ⟨Gu, 1, none⟩ (.int .i64 17) = w5 at *
      cases hre : k.reached with
      | false =>
        obtain ⟨ht, hu⟩ := HQ.out.no (by rw [hre]; rfl)
        have HT := Lib.hid ht
        have HU := Lib.hid hu
        have H0 := Lib.hid hre
        clear ht hu hre
        go_wp2_with (first | (refine wpList_load_known _ k _ hk r0b rfl rfl rfl ?_) | (refine wpList_load_row rfl _ _ rfl Gt rfl 40 _ (0, 0) _ r3b Try.underlying40 rfl (by kernel_rfl) ?_))
        refine (taken_calls k ⟨2, 18, na, nb, 1, 2, Ins.zero⟩ _ hk haT hbT).mono ?_
        rw [HT.out]
        rintro e w6 ⟨rfl, hb6⟩
        have t6 := t5.trans (hb6.mono t5.size)
        replace r0b := r0b.below hb6
        replace r5 := r5.below hb6
        go_wp2_with (first | (refine wpList_load_known _ k _ hk r0b rfl rfl rfl ?_) | (refine wpList_load_row rfl _ _ rfl Gu rfl 40 _ (0, 0) _ r5 Try.underlying40 rfl (by kernel_rfl) ?_))
        refine (taken_calls k ⟨2, 17, na, nb, 1, 2, Ins.zero⟩ _ hk haT hbT).mono ?_
        rw [HU.out]
        rintro e w7 ⟨rfl, hb7⟩
        have t7 := t6.trans (hb7.mono t6.size)
        replace r0b := r0b.below hb7
        have c0 := r0b.cell (knownCells_re k)
        have c1 := r0b.kis hk ha16
        have c2 := r0b.kis hk hb16
        rw [H0.out] at c0
        go_wp2_with fail
        go_ret
        exact ⟨rfl, t7⟩
      | true =>
        cases hia : k.isAt na with
        | false =>
          obtain ⟨ht, hu⟩ := HQ.out.no (by rw [hia, Bool.false_and, Bool.and_false])
          have HT := Lib.hid ht
          have HU := Lib.hid hu
          have H0 := Lib.hid hre
          have H1 := Lib.hid hia
          clear ht hu hre hia
          go_wp2_with (first | (refine wpList_load_known _ k _ hk r0b rfl rfl rfl ?_) | (refine wpList_load_row rfl _ _ rfl Gt rfl 40 _ (0, 0) _ r3b Try.underlying40 rfl (by kernel_rfl) ?_))
          refine (taken_calls k ⟨2, 18, na, nb, 1, 2, Ins.zero⟩ _ hk haT hbT).mono ?_
          rw [HT.out]
          rintro e w6 ⟨rfl, hb6⟩
          have t6 := t5.trans (hb6.mono t5.size)
          replace r0b := r0b.below hb6
          replace r5 := r5.below hb6
          go_wp2_with (first | (refine wpList_load_known _ k _ hk r0b rfl rfl rfl ?_) | (refine wpList_load_row rfl _ _ rfl Gu rfl 40 _ (0, 0) _ r5 Try.underlying40 rfl (by kernel_rfl) ?_))
          refine (taken_calls k ⟨2, 17, na, nb, 1, 2, Ins.zero⟩ _ hk haT hbT).mono ?_
          rw [HU.out]
          rintro e w7 ⟨rfl, hb7⟩
          have t7 := t6.trans (hb7.mono t6.size)
          replace r0b := r0b.below hb7
          have c0 := r0b.cell (knownCells_re k)
          have c1 := r0b.kis hk ha16
          have c2 := r0b.kis hk hb16
          rw [H0.out] at c0
          rw [H1.out] at c1
          go_wp2_with fail
          go_ret
          exact ⟨rfl, t7⟩
        | true =>
          cases hib : k.isAt nb with
          | false =>
            obtain ⟨ht, hu⟩ := HQ.out.no (by rw [hib, Bool.and_false, Bool.and_false])
            have HT := Lib.hid ht
            have HU := Lib.hid hu
            have H0 := Lib.hid hre
            have H1 := Lib.hid hia
            have H2 := Lib.hid hib
            clear ht hu hre hia hib
            go_wp2_with (first | (refine wpList_load_known _ k _ hk r0b rfl rfl rfl ?_) | (refine wpList_load_row rfl _ _ rfl Gt rfl 40 _ (0, 0) _ r3b Try.underlying40 rfl (by kernel_rfl) ?_))
            refine (taken_calls k ⟨2, 18, na, nb, 1, 2, Ins.zero⟩ _ hk haT hbT).mono ?_
            rw [HT.out]
            rintro e w6 ⟨rfl, hb6⟩
            have t6 := t5.trans (hb6.mono t5.size)
            replace r0b := r0b.below hb6
            replace r5 := r5.below hb6
            go_wp2_with (first | (refine wpList_load_known _ k _ hk r0b rfl rfl rfl ?_) | (refine wpList_load_row rfl _ _ rfl Gu rfl 40 _ (0, 0) _ r5 Try.underlying40 rfl (by kernel_rfl) ?_))
            refine (taken_calls k ⟨2, 17, na, nb, 1, 2, Ins.zero⟩ _ hk haT hbT).mono ?_
            rw [HU.out]
            rintro e w7 ⟨rfl, hb7⟩
            have t7 := t6.trans (hb7.mono t6.size)
            replace r0b := r0b.below hb7
            have c0 := r0b.cell (knownCells_re k)
            have c1 := r0b.kis hk ha16
            have c2 := r0b.kis hk hb16
            rw [H0.out] at c0
            rw [H1.out] at c1
            rw [H2.out] at c2
            go_wp2_with fail
            go_ret
            exact ⟨rfl, t7⟩
          | true =>
            obtain ⟨x, ht, hu⟩ := HQ.out.yes (by rw [hre, hia, hib]; rfl)
            cases x with
            | true =>
              have hu' : takenK k ⟨2, 17, na, nb, 1, 2, Ins.zero⟩ = (false, true) := hu
              have HT := Lib.hid ht
              have HU := Lib.hid hu'
              have H0 := Lib.hid hre
              have H1 := Lib.hid hia
              have H2 := Lib.hid hib
              clear ht hu' hre hia hib
              go_wp2_with (first | (refine wpList_load_known _ k _ hk r0b rfl rfl rfl ?_) | (refine wpList_load_row rfl _ _ rfl Gt rfl 40 _ (0, 0) _ r3b Try.underlying40 rfl (by kernel_rfl) ?_))
              refine (taken_calls k ⟨2, 18, na, nb, 1, 2, Ins.zero⟩ _ hk haT hbT).mono ?_
              rw [HT.out]
              rintro e w6 ⟨rfl, hb6⟩
              have t6 := t5.trans (hb6.mono t5.size)
              replace r0b := r0b.below hb6
              replace r5 := r5.below hb6
              go_wp2_with (first | (refine wpList_load_known _ k _ hk r0b rfl rfl rfl ?_) | (refine wpList_load_row rfl _ _ rfl Gu rfl 40 _ (0, 0) _ r5 Try.underlying40 rfl (by kernel_rfl) ?_))
              refine (taken_calls k ⟨2, 17, na, nb, 1, 2, Ins.zero⟩ _ hk haT hbT).mono ?_
              rw [HU.out]
              rintro e w7 ⟨rfl, hb7⟩
              have t7 := t6.trans (hb7.mono t6.size)
              replace r0b := r0b.below hb7
              have c0 := r0b.cell (knownCells_re k)
              have c1 := r0b.kis hk ha16
              have c2 := r0b.kis hk hb16
              rw [H0.out] at c0
              rw [H1.out] at c1
              rw [H2.out] at c2
              go_wp2_with fail
              go_ret
              exact ⟨rfl, t7⟩
            | false =>
              have hu' : takenK k ⟨2, 17, na, nb, 1, 2, Ins.zero⟩ = (true, true) := hu
              have HT := Lib.hid ht
              have HU := Lib.hid hu'
              have H0 := Lib.hid hre
              have H1 := Lib.hid hia
              have H2 := Lib.hid hib
              clear ht hu' hre hia hib
              go_wp2_with (first | (refine wpList_load_known _ k _ hk r0b rfl rfl rfl ?_) | (refine wpList_load_row rfl _ _ rfl Gt rfl 40 _ (0, 0) _ r3b Try.underlying40 rfl (by kernel_rfl) ?_))
              refine (taken_calls k ⟨2, 18, na, nb, 1, 2, Ins.zero⟩ _ hk haT hbT).mono ?_
              rw [HT.out]
              rintro e w6 ⟨rfl, hb6⟩
              have t6 := t5.trans (hb6.mono t5.size)
              replace r0b := r0b.below hb6
              replace r5 := r5.below hb6
              go_wp2_with (first | (refine wpList_load_known _ k _ hk r0b rfl rfl rfl ?_) | (refine wpList_load_row rfl _ _ rfl Gu rfl 40 _ (0, 0) _ r5 Try.underlying40 rfl (by kernel_rfl) ?_))
              refine (taken_calls k ⟨2, 17, na, nb, 1, 2, Ins.zero⟩ _ hk haT hbT).mono ?_
              rw [HU.out]
              rintro e w7 ⟨rfl, hb7⟩
              have t7 := t6.trans (hb7.mono t6.size)
              replace r0b := r0b.below hb7
              have c0 := r0b.cell (knownCells_re k)
              have c1 := r0b.kis hk ha16
              have c2 := r0b.kis hk hb16
              rw [H0.out] at c0
              rw [H1.out] at c1
              rw [H2.out] at c2
              go_wp2_with fail
              go_ret
              exact ⟨rfl, t7⟩
end Go.Proofs.Ytokkngfgppikkaa
