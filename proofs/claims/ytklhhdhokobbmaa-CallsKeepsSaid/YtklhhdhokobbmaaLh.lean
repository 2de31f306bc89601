/- The laws of layer 3: FlowKeeps returns true. -/
import Derived.Test.YtklhhdhokobbmaaLg
namespace Go.Proofs.Ytklhhdhokobbmaa
set_option linter.unusedVariables false
set_option linter.unusedSimpArgs false
open Go.RowKit

theorem OwnI.set {w : World} {base g n c i : Nat} {xs : List Int} (h : OwnI w base (.slice (some ⟨g, 0, none⟩) n c) xs) (hi : i < xs.length) (y : Int) : OwnI (w.setCell ⟨g, i, none⟩ (.int .i64 y)) base (.slice (some ⟨g, 0, none⟩) n c) (xs.set i y) ∧ Below base w (w.setCell ⟨g, i, none⟩ (.int .i64 y)) ∧ n = xs.length := by
  rcases h.cases with ⟨h1, _⟩ | ⟨g', cap, cur, h1, h2, h3, h4, h5, h6, h7⟩
  · cases h1
  · injection h1 with e1 e2 e3
    injection e1 with e1
    injection e1 with e1
    subst e1 e2 e3
    refine ⟨?_, (Below.refl base w).setCell h2 _, rfl⟩
    have hh : (w.setCell ⟨g, i, none⟩ (.int .i64 y)).heap[g]? = some (.cells (cur.setIfInBounds i (.int .i64 y)) 3 (0, 0)) := by
      simp [World.setCell, Array.getElem?_modify, h3]
    have := OwnI.mk (xs := xs.set i y) h2 hh (by simpa using h4) h5 (by simp [h6]) (by
      simp only [List.length_set, List.map_set, ← h7]
      rw [Array.toList_setIfInBounds, List.take_set])
    simpa using this

set_option maxHeartbeats 4000000 in
set_option maxRecDepth 100000 in
theorem flowKeeps_law (x : Ins) (hwf : x.wf) (w : World) : Calls Try.prog 11 #[.agg #[.int .i64 x.op, .int .i64 x.a, .int .i64 x.b, .int .i64 x.c, .int .i64 x.imm]] w fun e w' => e = .returned (.bool true) ∧ Below w.heap.size w w' := by
  clear hwf
  obtain ⟨op, a, b, c, imm⟩ := x
  cases hr : Ins.right ⟨op, a, b, c, imm⟩ with
  | false =>
    have HR := Lib.hid hr
    clear hr
    go_enter Try.func11, Try.ntmps11
    go_wp2_with fail
    refine (flowAwake_calls _).mono ?_
    rintro e w1 ⟨rfl, hb1⟩
    obtain ⟨hc1, hf1⟩ := bcell hb1
    have hz1 : w.heap.size < w1.heap.size := by (have := hb1.size; simp at this; omega)
    go_wp2_with fail
    refine (insRight_calls _ _ _ _ _ _).mono ?_
    rw [HR.out]
    rintro e w2 ⟨rfl, hb2⟩
    go_wp2_with fail
    refine (flowAwake_calls _).mono ?_
    rintro e w3 ⟨rfl, hb3⟩
    go_wp2_with fail
    go_ret
    exact ⟨rfl, (((Below.refl _ _).alloc (Nat.le_refl _) _).trans (hb1.mono (by simp))).trans ((hb2.mono (by omega)).trans (hb3.mono (by have := hb2.size; omega)))⟩
  | true =>
    have hrd := readsList_eq hr
    have HR := Lib.hid hr
    have HD := Lib.hid hrd
    clear hr hrd
    go_enter Try.func11, Try.ntmps11
    go_wp2_with fail
    have hb0 : Below w.heap.size w (w.alloc (.cells #[.int .i64 op, .int .i64 a, .int .i64 b, .int .i64 c, .int .i64 imm] 41)) := (Below.refl _ _).alloc (Nat.le_refl _) _
    have F0 : S5 (w.alloc (.cells #[.int .i64 op, .int .i64 a, .int .i64 b, .int .i64 c, .int .i64 imm] 41)) w.heap.size op a b c imm := ⟨by simp, by simp, by simp, by simp, by simp⟩
    generalize hW : w.alloc (.cells #[.int .i64 op, .int .i64 a, .int .i64 b, .int .i64 c, .int .i64 imm] 41) = W at *
    clear hW
    refine (flowAwake_calls _).mono ?_
    rintro e w1 ⟨rfl, hb1⟩
    have F1 := S5.below hb1 F0
    obtain ⟨x0, x1, x2, x3, x4⟩ := S5.below hb1 F0
    go_wp2_with fail
    refine (insRight_calls _ _ _ _ _ _).mono ?_
    rw [HR.out]
    rintro e w2 ⟨rfl, hb2⟩
    have F2 := S5.below hb2 F1
    clear x0 x1 x2 x3 x4
    obtain ⟨x0, x1, x2, x3, x4⟩ := S5.below hb2 F1
    go_wp2_with fail
    refine (flowReads_calls _ _ _ _ _ _).mono ?_
    rw [HD.out]
    rintro e w3 ⟨v3, rfl, ho3, hb3⟩
    have t2 := hb0.trans ((hb1.mono hb0.size).trans (hb2.mono (Nat.le_trans hb0.size hb1.size)))
    clear hb0 hb1 hb2 F0 F1 x0 x1 x2 x3 x4
    go_wp2_with fail
    go_loopw [4] (fun i wr => ∃ k : Nat, ∃ ys : List Int, i = .int .i64 k ∧ k ≤ ys.length ∧ ys.length = (refList op a b c).length ∧ OwnI wr w2.heap.size v3 ys ∧ Below w2.heap.size w3 wr) (fun i _ => (refList op a b c).length - (intOf i).toNat)
    case atStart => exact ⟨0, _, rfl, Nat.zero_le _, rfl, ho3, Below.refl _ _⟩
    case round =>
      obtain ⟨k, ys, rfl, hk, hl, ho, hbr⟩ := hrel
      have hn := refUpTo_len op a b c 15
      have hn' : (refList op a b c).length ≤ 15 := hn
      clear hn
      by_cases hlt : k < ys.length
      · obtain ⟨A, c', rfl, hc1, hc2, hC⟩ := ho.cells
        obtain ⟨y, hy⟩ := get_some ys k hlt
        obtain ⟨g, rfl, h4, h5, h6⟩ := hC k y hy
        have hset := OwnI.set ho hlt 99
        have HS := Lib.hid hset
        have HL := Lib.hid hl
        clear hset hy hC
        go_wp2_with fail
        obtain ⟨s1, s2, s3⟩ := HS.out
        exact ⟨⟨k + 1, _, by go_num, by simp; omega, by simpa using hl, s1, hbr.trans s2⟩, by simp [intOf]; omega⟩
      · obtain ⟨A, c', rfl, hc1, hc2, hC⟩ := ho.cells
        have hke : k = ys.length := by omega
        clear hC
        go_wp2_with fail
        have t3 := t2.trans (hb3.mono t2.size)
        have hb5 := hb3.trans hbr
        obtain ⟨F5, t5⟩ : S5 wr w.heap.size op a b c imm ∧ Below w.heap.size w wr := ⟨S5.below hb5 F2, t2.trans (hb5.mono t2.size)⟩
        go_region_held3 (fun w' => w'.cell? ⟨w.heap.size, 0, none⟩ = some (.int .i64 op) ∧ w'.cell? ⟨w.heap.size, 1, none⟩ = some (.int .i64 a) ∧ w'.cell? ⟨w.heap.size, 2, none⟩ = some (.int .i64 b) ∧ w'.cell? ⟨w.heap.size, 3, none⟩ = some (.int .i64 c) ∧ w'.cell? ⟨w.heap.size, 4, none⟩ = some (.int .i64 imm)) (first | exact F8 | exact F7 | exact F5)
          (first
            | (go_at_call 31; refine (flowReads_calls _ _ _ _ _ _).mono ?_; rw [HD.out]; rintro e w7 ⟨v7, rfl, ho7, hb7⟩; obtain ⟨A7, c7, rfl, l7, m7, hC7⟩ := ho7.read; have F7 := S5.below hb7 F5)
            | (go_at_call 32; refine (refList_calls _ _ _ _ _ _).mono ?_; rintro e w8 ⟨v8, rfl, ho8, hb8⟩; obtain ⟨A8, c8, rfl, l8, m8, hC8⟩ := ho8.read; have hC7b := hC7.below hb8; have F8 := S5.below hb8 F7)
            | (go_at_call 16; refine (ints_calls _ _ _ _ _ _ _ hC7b hC8 (by have := len_le l7 m7; unfold maxLen; omega)).mono ?_; rw [show (refList op a b c == refList op a b c) = true from by simp]; rintro e w' ⟨rfl, n, rfl⟩))
        go_wp2_with fail
        go_ret
        have t7 := t5.drew.trans (hb7.mono t5.size)
        have t8 := t7.trans (hb8.mono t7.size)
        exact ⟨rfl, Below.drewN t8 n⟩
end Go.Proofs.Ytklhhdhokobbmaa
