/- The reference's list of what an instruction reads; comparing lists of ints. -/
import Derived.Test.YtklhhdhokobbmaaCg
namespace Go.Proofs.Ytklhhdhokobbmaa
set_option linter.unusedVariables false
set_option linter.unusedSimpArgs false
open Go.RowKit

def refUpTo (op a b c : Int) (n : Nat) : List Int := ((List.range n).map fun (i : Nat) => ((i : Int) + 1)).filter fun r => refReads op a b c r
theorem refUpTo_succ (op a b c : Int) (n : Nat) : refUpTo op a b c (n + 1) = refUpTo op a b c n ++ (if refReads op a b c ((n : Int) + 1) = true then [(n : Int) + 1] else []) := by
  unfold refUpTo
  rw [List.range_succ, List.map_append, List.filter_append]
  congr 1
  by_cases h : refReads op a b c ((n : Int) + 1) = true <;> simp [h]
theorem refUpTo_len (op a b c : Int) (n : Nat) : (refUpTo op a b c n).length ≤ n := by
  unfold refUpTo
  exact Nat.le_trans (List.length_filter_le _ _) (by simp)

set_option maxHeartbeats 4000000 in
set_option maxRecDepth 100000 in
theorem refList_calls (op a b c imm : Int) (w : World) : Calls Try.prog 32 #[.agg #[.int .i64 op, .int .i64 a, .int .i64 b, .int .i64 c, .int .i64 imm]] w (MadeI w (refList op a b c)) := by
  go_enter Try.func32, Try.ntmps32
  go_wp2_with fail
  have hb0 : Below w.heap.size w (w.alloc (.cells #[.int .i64 op, .int .i64 a, .int .i64 b, .int .i64 c, .int .i64 imm] 41)) := (Below.refl _ _).alloc (Nat.le_refl _) _
  have hx0 : (w.alloc (.cells #[.int .i64 op, .int .i64 a, .int .i64 b, .int .i64 c, .int .i64 imm] 41)).cell? ⟨w.heap.size, 0, none⟩ = some (.int .i64 op) := by simp
  have hx1 : (w.alloc (.cells #[.int .i64 op, .int .i64 a, .int .i64 b, .int .i64 c, .int .i64 imm] 41)).cell? ⟨w.heap.size, 1, none⟩ = some (.int .i64 a) := by simp
  have hx2 : (w.alloc (.cells #[.int .i64 op, .int .i64 a, .int .i64 b, .int .i64 c, .int .i64 imm] 41)).cell? ⟨w.heap.size, 2, none⟩ = some (.int .i64 b) := by simp
  have hx3 : (w.alloc (.cells #[.int .i64 op, .int .i64 a, .int .i64 b, .int .i64 c, .int .i64 imm] 41)).cell? ⟨w.heap.size, 3, none⟩ = some (.int .i64 c) := by simp
  have hx4 : (w.alloc (.cells #[.int .i64 op, .int .i64 a, .int .i64 b, .int .i64 c, .int .i64 imm] 41)).cell? ⟨w.heap.size, 4, none⟩ = some (.int .i64 imm) := by simp
  have hsz : w.heap.size < (w.alloc (.cells #[.int .i64 op, .int .i64 a, .int .i64 b, .int .i64 c, .int .i64 imm] 41)).heap.size := by simp
  generalize hW : w.alloc (.cells #[.int .i64 op, .int .i64 a, .int .i64 b, .int .i64 c, .int .i64 imm] 41) = W at *
  clear hW
  go_loopw [3, 4] (fun v i wr => ∃ k : Nat, k ≤ 15 ∧ i = .int .i64 ((k + 1 : Nat) : Int) ∧ OwnI wr W.heap.size v (refUpTo op a b c k) ∧ Below W.heap.size W wr) (fun _ i _ => 16 - (intOf i).toNat)
  case atStart => exact ⟨0, by omega, rfl, OwnI.nil _ _, Below.refl _ _⟩
  case round =>
    obtain ⟨k, hk, rfl, ho, hbr⟩ := hrel
    obtain ⟨hc, hf⟩ := bcell hbr
    by_cases hlt : k < 15
    · have hs := refUpTo_succ op a b c k
      have hn := refUpTo_len op a b c k
      have hkk : ((k + 1 : Nat) : Int) = (k : Int) + 1 := by omega
      rw [hkk]
      clear hkk
      cases hr : refReads op a b c ((k : Int) + 1) with
      | false =>
        rw [if_neg (by simp [hr]), List.append_nil] at hs
        have HR := Lib.hid hr
        have HS := Lib.hid hs
        clear hr hs
        go_wp2_with (go_at_call 51; refine (refReads_calls _ _ _ _ _ _ _).mono ?_; rintro e w1 ⟨rfl, hb1⟩; rw [HR.out])
        exact ⟨⟨k + 1, by omega, by go_num, by rw [HS.out]; exact ho.below hb1, hbr.trans (hb1.mono hbr.size)⟩, by simp [intOf]; omega⟩
      | true =>
        rw [if_pos hr] at hs
        have HR := Lib.hid hr
        have HS := Lib.hid hs
        clear hr hs
        go_wp2_with (first
          | (go_at_call 51; refine (refReads_calls _ _ _ _ _ _ _).mono ?_; rintro e w1 ⟨rfl, hb1⟩; rw [HR.out]; have ho1 := ho.below hb1)
          | (at_builtin; refine wpList_append_one rfl _ _ rfl W.heap.size ho1 rfl rfl (by omega) (Nat.le_trans hbr.size hb1.size) ?_; intro v2 w2 ho2 hb2))
        exact ⟨⟨k + 1, by omega, by go_num, by rw [HS.out]; exact ho2, (hbr.trans (hb1.mono hbr.size)).trans hb2⟩, by simp [intOf]; omega⟩
    · obtain rfl : k = 15 := by omega
      go_wp2
      go_ret
      exact ⟨_, rfl, ho.mono hb0.size, hb0.trans (hbr.mono hb0.size)⟩

/-- The cells of a slice of ints. -/
def CellsI (w : World) (A : Option Addr) (xs : List Int) : Prop := ∀ i x, xs[i]? = some x → ∃ ad, A = some ad ∧ w.cell? (ad.add i) = some (.int .i64 x)
theorem CellsI.below {w w' : World} {A : Option Addr} {xs : List Int} (h : CellsI w A xs) (hb : Below w.heap.size w w') : CellsI w' A xs := by
  intro i x hx
  obtain ⟨ad, e, hc⟩ := h i x hx
  exact ⟨ad, e, (hb.cell (World.lt_of_cell hc)).trans hc⟩
theorem CellsI.of_C {w : World} {A : Option Addr} {xs : List Int} (h : (Kd.int .i64).C w A xs) : CellsI w A xs := by
  intro i x hx
  obtain ⟨ad, e, hc⟩ := ints_at h hx
  exact ⟨ad, e, hc⟩
theorem OwnI.read {w : World} {base : Nat} {v : Value} {xs : List Int} (h : OwnI w base v xs) : ∃ A c, v = .slice A xs.length c ∧ xs.length ≤ c ∧ c ≤ maxLen ∧ CellsI w A xs := by
  obtain ⟨A, c, e, h1, h2, h3⟩ := h.cells
  refine ⟨A, c, e, h1, h2, fun i x hx => ?_⟩
  obtain ⟨g, e1, h4, _⟩ := h3 i x hx
  refine ⟨_, e1, ?_⟩
  unfold Addr.add
  by_cases h0 : i = 0
  · rw [if_pos h0]; subst h0; exact h4
  · rw [if_neg h0]; simpa using h4

theorem take_eq_snoc {xs ys : List Int} {k : Nat} {x y : Int} (hx : xs[k]? = some x) (hy : ys[k]? = some y) (h : xs.take k = ys.take k) (e : x = y) : xs.take (k + 1) = ys.take (k + 1) := by
  rw [take_snoc hx, take_snoc hy, h, e]

set_option maxHeartbeats 4000000 in
set_option maxRecDepth 100000 in
theorem ints_calls (A A' : Option Addr) (c c' : Nat) (xs ys : List Int) (w : World) (hx : CellsI w A xs) (hy : CellsI w A' ys) (hl : xs.length ≤ maxLen) : Calls Try.prog 16 #[.slice A xs.length c, .slice A' ys.length c'] w fun e w' => e = .returned (.bool (xs == ys)) ∧ ∃ n, w' = w.drewN n := by
  unfold maxLen at hl
  by_cases hlen : xs.length = ys.length
  · rw [← hlen]
    have HL := Lib.hid hlen
    clear hlen
    go_enter Try.func16, Try.ntmps16
    go_wp2_with fail
    go_loopw [5] (fun i wr => ∃ k : Nat, k ≤ xs.length ∧ xs.take k = ys.take k ∧ i = .int .i64 k ∧ ∃ n, wr = w.drewN n) (fun i _ => xs.length - (intOf i).toNat)
    case atStart => exact ⟨0, Nat.zero_le _, rfl, rfl, 0, rfl⟩
    case round =>
      obtain ⟨k, hk, hp, rfl, n, rfl⟩ := hrel
      have HP := Lib.hid hp
      clear hp
      by_cases hlt : k < xs.length
      · obtain ⟨x, hxx⟩ := get_some xs k hlt
        obtain ⟨y, hyy⟩ := get_some ys k (by rw [← HL.out]; exact hlt)
        obtain ⟨ad, rfl, f1⟩ := hx k x hxx
        obtain ⟨ad', rfl, f2⟩ := hy k y hyy
        have HX := Lib.hid hxx
        have HY := Lib.hid hyy
        clear hxx hyy
        go_wp2_with fail
        go_quiet (fail)
        go_wp2_with fail
        · go_ret
          have hne : (xs == ys) = false := by
            rw [beq_eq_false_iff_ne]
            intro e
            rw [e, HY.out] at HX
            have hxy : y = x := Option.some.inj HX.out
            have hd : (x != y) = true := by assumption
            rw [hxy] at hd
            simp at hd
          exact ⟨ret_bool hne.symm, _, World.drewN_drewN w n nq⟩
        · have hxy : x = y := by
            have hd : (x != y) = false := by assumption
            simpa using hd
          exact ⟨⟨k + 1, by omega, take_eq_snoc HX.out HY.out HP.out hxy, by go_num, _, rfl⟩, by simp [intOf]; omega⟩
      · have hke : k = xs.length := by omega
        have he : xs = ys := by
          have := HP.out
          rw [hke, List.take_length, HL.out, List.take_length] at this
          exact this
        have HE := Lib.hid he
        clear hke he
        go_wp2_with fail
        go_ret
        exact ⟨ret_bool (by rw [beq_iff_eq.2 HE.out]), n, rfl⟩
  · have he : (xs == ys) = false := by
      rw [beq_eq_false_iff_ne]
      intro e
      exact hlen (by rw [e])
    rw [he]
    go_enter Try.func16, Try.ntmps16
    have h1 : ((xs.length : Int) != (ys.length : Int)) = true := by rw [bne_iff_ne]; omega
    have h2 : (xs.length != ys.length) = true := by rw [bne_iff_ne]; omega
    clear hlen
    go_wp2_with fail
    go_ret
    exact ⟨rfl, 0, rfl⟩
end Go.Proofs.Ytklhhdhokobbmaa
