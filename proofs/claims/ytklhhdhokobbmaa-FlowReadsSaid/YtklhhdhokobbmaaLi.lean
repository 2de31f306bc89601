/- The laws of layer 3: FlowPure returns true. -/
import Derived.Test.YtklhhdhokobbmaaLh
import Derived.BigQuiet
namespace Go.Proofs.Ytklhhdhokobbmaa
set_option linter.unusedVariables false
set_option linter.unusedSimpArgs false
open Go.RowKit

theorem refList_at {op a b c : Int} {k : Nat} {x : Int} (h : (refList op a b c)[k]? = some x) : 1 ≤ x ∧ x ≤ 15 ∧ (x = a ∨ x = b ∨ x = c) := by
  have hm := List.mem_of_getElem? h
  unfold refList at hm
  simp only [List.mem_filter, List.mem_map, List.mem_range] at hm
  obtain ⟨⟨i, hi, rfl⟩, h2⟩ := hm
  rw [refReads_iff] at h2
  omega
theorem refList_lt {op a b c : Int} {k : Nat} {x y : Int} (h : (refList op a b c)[k]? = some x) (h' : (refList op a b c)[k + 1]? = some y) : x < y := by
  have hp : List.Pairwise (fun u v : Int => u < v) (refList op a b c) := by
    unfold refList
    apply List.Pairwise.filter
    rw [List.pairwise_map]
    exact List.pairwise_lt_range.imp (fun h => by omega)
  obtain ⟨h1, h2⟩ := List.getElem?_eq_some_iff.1 h
  obtain ⟨h3, h4⟩ := List.getElem?_eq_some_iff.1 h'
  rw [← h2, ← h4]
  exact List.pairwise_iff_getElem.1 hp _ _ _ _ (Nat.lt_succ_self k)
theorem refList_le2 {op a b c imm : Int} (hr : Ins.right ⟨op, a, b, c, imm⟩ = true) : (refList op a b c).length ≤ 2 := by
  rw [← readsList_eq hr]
  unfold readsList noZero
  refine Nat.le_trans (List.length_filter_le _ _) (Nat.le_trans (compact_len _) ?_)
  rw [sorted_length]
  unfold rawReads
  split
  · simp
  · split
    · simp
    · split
      · simp
      · split <;> simp
theorem writes_cases (op a : Int) (ha : 0 ≤ a) : writes op a = -1 ∨ (writes op a = a ∧ 0 < a ∧ fkind op < 2) := by
  unfold writes fkind
  by_cases h : (1 ≤ op ∧ op ≤ 11 ∨ op = 13 ∨ op = 22) ∧ a ≠ 0
  · rw [if_pos h]
    right
    refine ⟨rfl, by omega, ?_⟩
    split
    · omega
    · rw [if_neg (by omega), if_neg (by omega), if_neg (by omega), if_neg (by omega)]; omega
  · rw [if_neg h]; exact .inl rfl

set_option maxHeartbeats 4000000 in
set_option maxRecDepth 100000 in
theorem flowPure_law (x : Ins) (hwf : x.wf) (w : World) : Calls Try.prog 10 #[.agg #[.int .i64 x.op, .int .i64 x.a, .int .i64 x.b, .int .i64 x.c, .int .i64 x.imm]] w fun e w' => e = .returned (.bool true) ∧ Below w.heap.size w w' := by
  clear hwf
  obtain ⟨op, a, b, c, imm⟩ := x
  cases hr : Ins.right ⟨op, a, b, c, imm⟩ with
  | false =>
    have HR := Lib.hid hr
    clear hr
    go_enter Try.func10, Try.ntmps10
    go_wp2_with fail
    refine (flowAwake_calls _).mono ?_
    rintro e w1 ⟨rfl, hb1⟩
    obtain ⟨hc1, hf1⟩ := bcell hb1
    have hz1 : w.heap.size < w1.heap.size := by (have := hb1.size; simp at this; omega)
    go_wp2_with fail
    refine (insRight_calls _ _ _ _ _ _).mono ?_
    rw [HR.out]
    rintro e w2 ⟨rfl, hb2⟩
    go_wp2_with fail
    refine (flowAwake_calls _).mono ?_
    rintro e w3 ⟨rfl, hb3⟩
    go_wp2_with fail
    go_ret
    exact ⟨rfl, (((Below.refl _ _).alloc (Nat.le_refl _) _).trans (hb1.mono (by simp))).trans ((hb2.mono (by omega)).trans (hb3.mono (by have := hb2.size; omega)))⟩
  | true =>
    have hrd := readsList_eq hr
    have hl2 := refList_le2 hr
    have ha := Ins.right_a hr
    have hw := writes_cases op a ha.1
    have HR := Lib.hid hr
    have HD := Lib.hid hrd
    have HW := Lib.hid hw
    have HA := Lib.hid ha
    clear hr hrd hw ha
    go_enter Try.func10, Try.ntmps10
    go_wp2_with fail
    have hb0 : Below w.heap.size w (w.alloc (.cells #[.int .i64 op, .int .i64 a, .int .i64 b, .int .i64 c, .int .i64 imm] 41)) := (Below.refl _ _).alloc (Nat.le_refl _) _
    have F0 : S5 (w.alloc (.cells #[.int .i64 op, .int .i64 a, .int .i64 b, .int .i64 c, .int .i64 imm] 41)) w.heap.size op a b c imm := ⟨by simp, by simp, by simp, by simp, by simp⟩
    generalize hW : w.alloc (.cells #[.int .i64 op, .int .i64 a, .int .i64 b, .int .i64 c, .int .i64 imm] 41) = W at *
    clear hW
    refine (flowAwake_calls _).mono ?_
    rintro e w1 ⟨rfl, hb1⟩
    have F1 := S5.below hb1 F0
    obtain ⟨x0, x1, x2, x3, x4⟩ := S5.below hb1 F0
    go_wp2_with fail
    refine (insRight_calls _ _ _ _ _ _).mono ?_
    rw [HR.out]
    rintro e w2 ⟨rfl, hb2⟩
    have F2 := S5.below hb2 F1
    clear x0 x1 x2 x3 x4
    obtain ⟨x0, x1, x2, x3, x4⟩ := S5.below hb2 F1
    go_wp2_with fail
    refine (flowWrites_calls _ _ _ _ _ _).mono ?_
    rintro e w3 ⟨rfl, hb3⟩
    have t3 := (hb0.trans ((hb1.mono hb0.size).trans (hb2.mono (Nat.le_trans hb0.size hb1.size)))).trans (hb3.mono (Nat.le_trans hb0.size (Nat.le_trans hb1.size hb2.size)))
    have F3 := S5.below hb3 F2
    clear x0 x1 x2 x3 x4
    obtain ⟨x0, x1, x2, x3, x4⟩ := S5.below hb3 F2
    clear F2 F1 F0 hb0 hb1 hb2 hb3
    go_wp2_with fail
    refine (flowReads_calls _ _ _ _ _ _).mono ?_
    rw [HD.out]
    rintro e w4 ⟨v4, rfl, ho4, hb4⟩
    obtain ⟨A4, c4, rfl, l4, m4, hC4⟩ := ho4.read
    have t4 := t3.trans (hb4.mono t3.size)
    have F4 := S5.below hb4 F3
    clear x0 x1 x2 x3 x4
    obtain ⟨x0, x1, x2, x3, x4⟩ := S5.below hb4 F3
    clear F3 hb4 t3 ho4
    generalize hxs : refList op a b c = xs at *
    have HX := Lib.hid hxs
    clear hxs
    generalize hwv : writes op a = wv at *
    clear hwv
    go_upto_region 5 with fail
    go_cut [42] (fun v wx => v = .bool false ∧ Below w4.heap.size w4 wx)
    case first =>
      rcases HW.out with hw | ⟨hw, hw1, hw2⟩
      · subst hw
        by_cases hk : 2 ≤ fkind op
        · go_wp2_with fail
          refine (flowKind_calls _ _ _ _ _ _).mono ?_
          rintro e w5 ⟨rfl, hb5⟩
          go_wp2_with fail
          go_meet
          exact ⟨rfl, hb5⟩
        · go_wp2_with fail
          refine (flowKind_calls _ _ _ _ _ _).mono ?_
          rintro e w5 ⟨rfl, hb5⟩
          go_wp2_with fail
          go_meet
          exact ⟨rfl, hb5⟩
      · subst hw
        have ha := HA.out
        have hz : (wv == 0) = false := by simp; omega
        have hz2 : decide (15 < wv) = false := by simp; omega
        go_wp2_with fail
        refine (flowKind_calls _ _ _ _ _ _).mono ?_
        rintro e w5 ⟨rfl, hb5⟩
        go_wp2_with fail
        go_meet
        exact ⟨rfl, hb5⟩
    case rest =>
      obtain ⟨rfl, hb5⟩ := hcut
      have t5 := t4.trans (hb5.mono t4.size)
      clear x0 x1 x2 x3 x4
      obtain ⟨x0, x1, x2, x3, x4⟩ := S5.below hb5 F4
      have hC5 := hC4.below hb5
      clear F4 hb5 hC4 t4 HR HD HW HA
      go_wp2_with fail
      go_loopw [5] (fun i wr => ∃ k : Nat, k ≤ xs.length ∧ i = .int .i64 k ∧ ∃ n, wr = wc.drewN n) (fun i _ => xs.length - (intOf i).toNat)
      case atStart => exact ⟨0, Nat.zero_le _, rfl, 0, rfl⟩
      case round =>
        obtain ⟨k, hk, rfl, n, rfl⟩ := hrel
        by_cases hlt : k < xs.length
        · obtain ⟨x, hxx⟩ := get_some xs k hlt
          obtain ⟨ad, rfl, f1⟩ := hC5 k x hxx
          obtain ⟨p1, p2, p3⟩ : 1 ≤ x ∧ x ≤ 15 ∧ (x = a ∨ x = b ∨ x = c) := refList_at (by rw [HX.out]; exact hxx)
          have hX1 : decide (x < 1) = false := by simp; omega
          have hX2 : decide (15 < x) = false := by simp; omega
          clear p1 p2
          have hpair : decide (0 < k) = false ∨ (decide (0 < k) = true ∧ 1 ≤ k ∧ ∃ y, xs[k - 1]? = some y ∧ y < x) := by
            by_cases hk0 : k = 0
            · left; simp; omega
            · right
              obtain ⟨y, hy⟩ := get_some xs (k - 1) (by omega)
              refine ⟨by simp; omega, by omega, y, hy, ?_⟩
              rw [← HX.out] at hy hxx
              refine refList_lt hy ?_
              rw [show k - 1 + 1 = k from by omega]
              exact hxx
          clear hxx
          have h3 : ((x != a) = false) ∨ ((x != a) = true ∧ (x != b) = false) ∨ ((x != a) = true ∧ (x != b) = true ∧ (x != c) = false) := by
            by_cases e1 : x = a
            · exact .inl (by simpa using e1)
            · by_cases e2 : x = b
              · exact .inr (.inl ⟨by simpa using e1, by simpa using e2⟩)
              · exact .inr (.inr ⟨by simpa using e1, by simpa using e2, by simpa [e1, e2] using p3⟩)
          clear p3
          have H3 := Lib.hid h3
          clear h3
          rcases hpair with hk0 | ⟨hk0, hk1, y, hy, hyx⟩
          · rcases H3.out with q1 | ⟨q1, q2⟩ | ⟨q1, q2, q3⟩
            all_goals
              go_wp2_with fail
              go_quiet (fail)
              go_wp2_with fail
              exact ⟨⟨k + 1, by omega, by go_num, _, rfl⟩, by simp [intOf]; omega⟩
          · obtain ⟨ad2, e2, f2⟩ := hC5 _ y hy
            obtain rfl := Option.some.inj e2
            have hle : decide (x ≤ y) = false := by simp; omega
            clear hy hyx e2
            rcases H3.out with q1 | ⟨q1, q2⟩ | ⟨q1, q2, q3⟩
            all_goals
              go_wp2_with fail
              go_quiet (fail)
              go_wp2_with fail
              exact ⟨⟨k + 1, by omega, by go_num, _, rfl⟩, by simp [intOf]; omega⟩
        · have hke : k = xs.length := by omega
          have h2 : decide ((xs.length : Int) ≤ 2) = true := by simp; omega
          go_wp2_with fail
          go_ret
          exact ⟨rfl, Below.drewN t5 n⟩
end Go.Proofs.Ytklhhdhokobbmaa
