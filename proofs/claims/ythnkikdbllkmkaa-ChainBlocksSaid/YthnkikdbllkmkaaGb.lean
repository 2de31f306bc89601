/- The reference's predicates on instructions: what each answers. The reference's predicates on graphs: what each answers. The reference's predicates on blocks' ends and graphs: what each answers. The reference's predicates on graphs: few, right. The reference's predicate on graphs: right. -/
import Derived.Test.YthnkikdbllkmkaaChecked
import Derived.Test.YthnkikdbllkmkaaGa
import Derived.StillTailTactics
namespace Go.Proofs.Ythnkikdbllkmkaa
set_option linter.unusedVariables false
set_option linter.unusedSimpArgs false
open Go.RowKit

set_option maxHeartbeats 400000 in
theorem three_calls (n : Int) (w : World) : Calls Try.prog 52 #[.int .i64 n] w fun e w' => e = .returned (.bool (three n)) ∧ w' = w := by
  go_enter Try.func52, Try.ntmps52
  go_wp2
  all_goals (go_ret; refine ⟨?_, rfl⟩; simp [three]; omega)
set_option maxHeartbeats 400000 in
theorem reg_calls (n : Int) (w : World) : Calls Try.prog 53 #[.int .i64 n] w fun e w' => e = .returned (.bool (reg n)) ∧ w' = w := by
  go_enter Try.func53, Try.ntmps53
  go_wp2
  all_goals (go_ret; refine ⟨?_, rfl⟩; simp [reg]; omega)
set_option maxHeartbeats 400000 in
theorem near_calls (n : Int) (w : World) : Calls Try.prog 54 #[.int .i64 n] w fun e w' => e = .returned (.bool (near n)) ∧ w' = w := by
  go_enter Try.func54, Try.ntmps54
  go_wp2
  all_goals (go_ret; refine ⟨?_, rfl⟩; simp_all [near]; try omega)
set_option maxHeartbeats 400000 in
theorem branch_calls (n : Int) (w : World) : Calls Try.prog 55 #[.int .i64 n] w fun e w' => e = .returned (.bool (branch n)) ∧ w' = w := by
  go_enter Try.func55, Try.ntmps55
  go_wp2
  all_goals (go_ret; refine ⟨?_, rfl⟩; simp [branch]; omega)
set_option maxHeartbeats 400000 in
theorem one_calls (n : Int) (w : World) : Calls Try.prog 56 #[.int .i64 n] w fun e w' => e = .returned (.bool (one n)) ∧ w' = w := by
  go_enter Try.func56, Try.ntmps56
  go_wp2
  all_goals (go_ret; refine ⟨?_, rfl⟩; simp_all [one])
set_option maxHeartbeats 400000 in
theorem far_calls (n : Int) (w : World) : Calls Try.prog 57 #[.int .i64 n] w fun e w' => e = .returned (.bool (far n)) ∧ w' = w := by
  go_enter Try.func57, Try.ntmps57
  go_wp2
  all_goals (go_ret; refine ⟨?_, rfl⟩; simp_all [far])
set_option maxHeartbeats 2000000 in
set_option maxRecDepth 100000 in
theorem insRight_calls (op a b c imm : Int) (w : World) : Calls Try.prog 44 #[.agg #[.int .i64 op, .int .i64 a, .int .i64 b, .int .i64 c, .int .i64 imm]] w fun e w' => e = .returned (.bool (Ins.right ⟨op, a, b, c, imm⟩)) ∧ Below w.heap.size w w' := by
  go_enter Try.func44, Try.ntmps44
  go_wp2_with (first
    | (go_at_call 52; refine (three_calls _ _).mono ?_; rintro e w' ⟨rfl, rfl⟩)
    | (go_at_call 53; refine (reg_calls _ _).mono ?_; rintro e w' ⟨rfl, rfl⟩)
    | (go_at_call 54; refine (near_calls _ _).mono ?_; rintro e w' ⟨rfl, rfl⟩)
    | (go_at_call 55; refine (branch_calls _ _).mono ?_; rintro e w' ⟨rfl, rfl⟩)
    | (go_at_call 56; refine (one_calls _ _).mono ?_; rintro e w' ⟨rfl, rfl⟩)
    | (go_at_call 57; refine (far_calls _ _).mono ?_; rintro e w' ⟨rfl, rfl⟩))
  all_goals (go_ret; refine ⟨?_, (Below.refl _ _).alloc (Nat.le_refl _) _⟩; (try simp_all [Ins.right]); try omega)
set_option maxHeartbeats 2000000 in
set_option maxRecDepth 100000 in
theorem kind_calls (op a b c imm : Int) (w : World) (h0 : 0 ≤ op) (h1 : op < 26) : Calls Try.prog 45 #[.agg #[.int .i64 op, .int .i64 a, .int .i64 b, .int .i64 c, .int .i64 imm]] w fun e w' => e = .returned (.int .i64 (kindOf op)) ∧ Below w.heap.size w w' := by
  obtain ⟨n, rfl⟩ := Int.eq_ofNat_of_zero_le h0
  have hn : n < 26 := by omega
  go_enter Try.func45, Try.ntmps45
  go_wp2
  go_ret
  refine ⟨?_, ((Below.refl _ _).alloc (Nat.le_refl _) _).alloc (by simp) _⟩
  unfold kindOf
  rw [Int.toNat_natCast, List.getD_eq_getElem?_getD, List.getElem?_eq_getElem (by simpa using hn), Option.getD_some]
  show Ending.returned ((([5, 0, 0, 0, 0, 0, 0, 0, 0, 0, 0, 1, 1, 1, 1, 2, 2, 2, 2, 3, 4, 5, 1, 1, 0, 5] : List Int).map (Value.int .i64))[n]'(by simpa using hn)) = _
  rw [List.getElem_map]
end Go.Proofs.Ythnkikdbllkmkaa
namespace Go.Proofs.Ythnkikdbllkmkaa
set_option linter.unusedVariables false
set_option linter.unusedSimpArgs false
open Go.RowKit

theorem beq_ins (i j : Ins) : (i == j) = (i.op == j.op && (i.a == j.a && (i.b == j.b && (i.c == j.c && i.imm == j.imm)))) := by
  obtain ⟨a, b, c, d, e⟩ := i
  obtain ⟨a', b', c', d', e'⟩ := j
  rw [Bool.eq_iff_iff]
  simp

theorem eqIns (d : Nat) (w : World) (x0 y0 x1 y1 x2 y2 x3 y3 x4 y4 : Int) :
    (Op.equalIn (d + 2) 41 (.agg #[.int .i64 x0, .int .i64 x1, .int .i64 x2, .int .i64 x3, .int .i64 x4]) (.agg #[.int .i64 y0, .int .i64 y1, .int .i64 y2, .int .i64 y3, .int .i64 y4])).run Try.prog w = .ok ((⟨x0, x1, x2, x3, x4⟩ : Ins) == ⟨y0, y1, y2, y3, y4⟩) w := by
  rw [beq_ins]
  have hu := Try.underlying41
  rw [run_equalIn_struct w (d + 1) 41 _ _ (by kernel_rfl) (by kernel_rfl)]
  simp [Try.underlying41, Program.fieldsOf, go_sem]
  (repeat' split) <;> simp_all
attribute [local go_sem high] eqIns

set_option maxHeartbeats 2000000 in
set_option maxRecDepth 100000 in
theorem op_calls (op a b c imm : Int) (rel : Bool) (kind too add funcs datas : Int) (w : World) : Calls Try.prog 30 #[.agg #[.int .i64 op, .int .i64 a, .int .i64 b, .int .i64 c, .int .i64 imm, .bool rel, .int .i64 kind, .int .i64 too, .int .i64 add], .int .i64 funcs, .int .i64 datas] w fun e w' => e = .returned (.bool (Op.right ⟨⟨op, a, b, c, imm⟩, rel, kind, too, add⟩ funcs datas)) ∧ Below w.heap.size w w' := by
  cases hr : Ins.right ⟨op, a, b, c, imm⟩ with
  | false =>
    go_enter Try.func30, Try.ntmps30
    go_wp2_with (go_at_call 44; refine (insRight_calls _ _ _ _ _ _).mono ?_; rintro e w1 ⟨rfl, hb1⟩; rw [hr])
    go_ret
    exact ⟨by simp [Op.right, hr], ((Below.refl _ _).alloc (Nat.le_refl _) _).trans (hb1.mono (by simp))⟩
  | true =>
    obtain ⟨h0, h1⟩ := Ins.right_op hr
    replace h0 : 0 ≤ op := h0
    replace h1 : op < 26 := h1
    have hop : Op.right ⟨⟨op, a, b, c, imm⟩, rel, kind, too, add⟩ funcs datas = (if !rel then decide (kindOf op ≤ 1) && kind == 0 && too == 0 && add == 0 else
      if imm ≠ 0 ∨ too < 0 then false else
      if kindOf op = 4 then kind == 1 && decide (too < funcs) && add == 0 else
      (kind == 2 && op == 9 || kind == 3 && op == 10) && decide (too < datas) && decide (-1048576 ≤ add) && decide (add ≤ 1048576)) := by
      unfold Op.right; rw [if_neg (by simp [hr])]; rfl
    rw [hop]
    have HR := Lib.hid hr
    clear hr hop
    go_enter Try.func30, Try.ntmps30
    go_wp2_with (first
      | (go_at_call 44; refine (insRight_calls _ _ _ _ _ _).mono ?_; rintro e w1 ⟨rfl, hb1⟩; rw [HR.out]; obtain ⟨hc1, hf1⟩ := bcell hb1; have hz1 : w.heap.size < w1.heap.size := by (have := hb1.size; simp at this; omega))
      | (go_at_call 45; refine (kind_calls _ _ _ _ _ _ h0 h1).mono ?_; rintro e w2 ⟨rfl, hb2⟩; obtain ⟨hc2, hf2⟩ := bcell hb2))
    all_goals (go_ret; refine ⟨?_, (((Below.refl _ _).alloc (Nat.le_refl _) _).trans (hb1.mono (by simp))).trans (hb2.mono (by have := hb1.size; simp at this; omega))⟩; (try simp_all); try omega)
end Go.Proofs.Ythnkikdbllkmkaa
namespace Go.Proofs.Ythnkikdbllkmkaa
set_option linter.unusedVariables false
set_option linter.unusedSimpArgs false
open Go.RowKit
attribute [local go_sem high] eqIns

set_option maxHeartbeats 4000000 in
set_option maxRecDepth 100000 in
theorem term_calls (kind op a b too els iop ia ib ic iimm blocks funcs : Int) (w : World) : Calls Try.prog 31 #[.agg #[.int .i64 kind, .int .i64 op, .int .i64 a, .int .i64 b, .int .i64 too, .int .i64 els, .int .i64 iop, .int .i64 ia, .int .i64 ib, .int .i64 ic, .int .i64 iimm], .int .i64 blocks, .int .i64 funcs] w fun e w' => e = .returned (.bool (Term.right ⟨kind, op, a, b, too, els, ⟨iop, ia, ib, ic, iimm⟩⟩ blocks funcs)) ∧ Below w.heap.size w w' := by
  by_cases h3 : kind = 3
  · subst h3
    cases hn : (op == 0 && a == 0 && b == 0 && els == 0 && too == 0) with
    | false =>
      have ht : Term.right ⟨3, op, a, b, too, els, ⟨iop, ia, ib, ic, iimm⟩⟩ blocks funcs = false := by
        simp [Term.right, Term.none]; intros; simp_all
      rw [ht]
      clear ht
      go_enter Try.func31, Try.ntmps31
      go_wp2_with fail
      all_goals first
        | (go_ret; refine ⟨?_, (Below.refl _ _).alloc (Nat.le_refl _) _⟩; (try simp_all); done)
        | (exfalso; simp_all; done)
    | true =>
      obtain ⟨⟨⟨⟨rfl, rfl⟩, rfl⟩, rfl⟩, rfl⟩ : (((op = 0 ∧ a = 0) ∧ b = 0) ∧ els = 0) ∧ too = 0 := by simpa using hn
      clear hn
      cases hr : Ins.right ⟨iop, ia, ib, ic, iimm⟩ with
      | false =>
        have ht : Term.right ⟨3, 0, 0, 0, 0, 0, ⟨iop, ia, ib, ic, iimm⟩⟩ blocks funcs = false := by simp [Term.right, Term.none, hr]
        rw [ht]
        have HR := Lib.hid hr
        clear hr ht
        go_enter Try.func31, Try.ntmps31
        go_wp2_with (go_at_call 44; refine (insRight_calls _ _ _ _ _ _).mono ?_; rintro e w1 ⟨rfl, hb1⟩; rw [HR.out])
        go_ret
        exact ⟨rfl, ((Below.refl _ _).alloc (Nat.le_refl _) _).trans (hb1.mono (by simp))⟩
      | true =>
        obtain ⟨h0, h1⟩ := Ins.right_op hr
        replace h0 : 0 ≤ iop := h0
        replace h1 : iop < 26 := h1
        have ht : Term.right ⟨3, 0, 0, 0, 0, 0, ⟨iop, ia, ib, ic, iimm⟩⟩ blocks funcs = (kindOf iop == 5) := by simp [Term.right, Term.none, hr, Ins.kind]
        rw [ht]
        have HR := Lib.hid hr
        clear hr ht
        go_enter Try.func31, Try.ntmps31
        go_wp2_with (first
          | (go_at_call 44; refine (insRight_calls _ _ _ _ _ _).mono ?_; rintro e w1 ⟨rfl, hb1⟩; rw [HR.out]; obtain ⟨hc1, hf1⟩ := bcell hb1; have hz1 : w.heap.size < w1.heap.size := by (have := hb1.size; simp at this; omega))
          | (go_at_call 45; refine (kind_calls _ _ _ _ _ _ h0 h1).mono ?_; rintro e w2 ⟨rfl, hb2⟩; obtain ⟨hc2, hf2⟩ := bcell hb2))
        go_ret
        exact ⟨rfl, (((Below.refl _ _).alloc (Nat.le_refl _) _).trans (hb1.mono (by simp))).trans (hb2.mono (by have := hb1.size; simp at this; omega))⟩
  · go_enter Try.func31, Try.ntmps31
    go_wp2_with fail
    all_goals (go_ret; refine ⟨?_, (Below.refl _ _).alloc (Nat.le_refl _) _⟩; (try simp_all [Term.right, Term.none, Ins.zero]); try omega)
end Go.Proofs.Ythnkikdbllkmkaa
namespace Go.Proofs.Ythnkikdbllkmkaa
set_option linter.unusedVariables false
set_option linter.unusedSimpArgs false
open Go.RowKit

theorem blocksFew_of {bs : List Block} {k : Nat} (h : ∀ b ∈ bs.take k, b.ops.length ≤ 300) (hk : k = bs.length ∨ k = 300) : blocksFew bs = decide (bs.length ≤ 200) := by
  unfold blocksFew
  have : (bs.take 300).all (fun b => decide (b.ops.length ≤ 300)) = true := by
    rw [List.all_eq_true]
    intro b hb
    rw [decide_eq_true_eq]
    rcases hk with hk | hk
    · subst hk
      rw [List.take_length] at h
      exact h b (List.mem_of_mem_take hb)
    · subst hk; exact h b hb
  rw [this, Bool.true_and]
theorem blocksFew_not {bs : List Block} {k : Nat} {b : Block} (hb : bs[k]? = some b) (hk : k < 300) (h : 300 < b.ops.length) : blocksFew bs = false := by
  unfold blocksFew
  rw [Bool.and_eq_false_iff]
  left
  rw [List.all_eq_false]
  refine ⟨b, ?_, by simp; omega⟩
  rw [List.mem_iff_getElem?]
  exact ⟨k, by rw [List.getElem?_take, if_pos hk, hb]⟩

set_option maxHeartbeats 4000000 in
set_option maxRecDepth 100000 in
theorem few_calls (nm : ByteArray) (kp lf : Bool) (A : Option Addr) (c : Nat) (bs : List Block) (w : World) (hC : kBlock.C w A bs) (hl : bs.length ≤ maxLen) : Calls Try.prog 17 #[.agg #[.string nm, .bool kp, .bool lf, .slice A bs.length c]] w fun e w' => e = .returned (.bool (blocksFew bs)) ∧ Below w.heap.size w w' := by
  unfold maxLen at hl
  go_enter Try.func17, Try.ntmps17
  go_wp2
  have hb0 : Below w.heap.size w (w.alloc (.cells #[.string nm, .bool kp, .bool lf, .slice A bs.length c] 24)) := (Below.refl _ _).alloc (Nat.le_refl _) _
  replace hC := Kd.C_mono hb0 hC
  go_loop [3] (fun i => ∃ k : Nat, k ≤ bs.length ∧ k ≤ 300 ∧ (∀ b ∈ bs.take k, b.ops.length ≤ 300) ∧ i = .int .i64 k) (fun i => bs.length - (intOf i).toNat)
  case atStart => exact ⟨0, Nat.zero_le _, by omega, by simp, rfl⟩
  case round =>
    obtain ⟨k, hk, hk3, hall, rfl⟩ := hrel
    by_cases hlt : k < bs.length
    · by_cases h3 : k < 300
      · obtain ⟨b, hb⟩ := get_some bs k hlt
        have hn := @blocksFew_not bs k b hb h3
        have htk := take_snoc hb
        obtain ⟨ad, A0, c0, rfl, f0, f1, f2, f3, f4, f5, f6, f7, f8, f9, f10, f11, -, l0, m0, g0⟩ := Block_at hC hb
        have HB := Lib.hid hb
        have HT := Lib.hid htk
        have HN := Lib.hid hn
        clear hb htk hn
        go_wp2
        · go_ret
          exact ⟨by rw [HN.out (by omega)]; rfl, hb0⟩
        · go_round
          case rel => exact ⟨k + 1, by omega, by omega, by rw [HT.out]; intro b' hb'; rw [List.mem_append] at hb'; rcases hb' with hb' | hb'; exact hall b' hb'; simp at hb'; subst hb'; omega, by go_num⟩
          case measure => simp [intOf]; omega
      · have : k = 300 := by omega
        have hf := blocksFew_of hall (.inr this)
        have HF := Lib.hid hf
        clear hf this
        go_wp2
        go_ret
        exact ⟨by rw [HF.out]; simp; omega, hb0⟩
    · have : k = bs.length := by omega
      have hf := blocksFew_of hall (.inl this)
      have HF := Lib.hid hf
      clear hf this
      go_wp2
      go_ret
      exact ⟨by rw [HF.out]; simp; omega, hb0⟩
end Go.Proofs.Ythnkikdbllkmkaa
namespace Go.Proofs.Ythnkikdbllkmkaa
set_option linter.unusedVariables false
set_option linter.unusedSimpArgs false
open Go.RowKit

theorem blocksRight_end {bs : List Block} {funcs datas : Int} (h : ∀ b ∈ bs, b.right bs.length funcs datas = true) : blocksRight bs funcs datas = decide (0 < bs.length) := by
  unfold blocksRight
  rw [List.all_eq_true.2 h, Bool.true_and]
theorem blocksRight_op {bs : List Block} {funcs datas : Int} {k m : Nat} {b : Block} {o : Op} (hb : bs[k]? = some b) (ho : b.ops[m]? = some o) (h : o.right funcs datas = false) : blocksRight bs funcs datas = false := by
  unfold blocksRight
  rw [Bool.and_eq_false_iff]
  left
  rw [List.all_eq_false]
  refine ⟨b, List.mem_of_getElem? hb, ?_⟩
  unfold Block.right
  have : b.ops.all (fun o => o.right funcs datas) = false := by
    rw [List.all_eq_false]
    exact ⟨o, List.mem_of_getElem? ho, by simp [h]⟩
  simp [this]
theorem blocksRight_fin {bs : List Block} {funcs datas : Int} {k : Nat} {b : Block} (hb : bs[k]? = some b) (h : b.fin.right bs.length funcs = false) : blocksRight bs funcs datas = false := by
  unfold blocksRight
  rw [Bool.and_eq_false_iff]
  left
  rw [List.all_eq_false]
  exact ⟨b, List.mem_of_getElem? hb, by unfold Block.right; simp [h]⟩
theorem block_right {b : Block} {n funcs datas : Int} (h : ∀ o ∈ b.ops, o.right funcs datas = true) (hf : b.fin.right n funcs = true) : b.right n funcs datas = true := by
  unfold Block.right
  rw [List.all_eq_true.2 h, hf]; rfl

set_option maxHeartbeats 4000000 in
set_option maxRecDepth 100000 in
theorem right_calls (nm : ByteArray) (kp lf : Bool) (A : Option Addr) (c : Nat) (bs : List Block) (funcs datas : Int) (w : World) (hC : kBlock.C w A bs) (hl : bs.length ≤ maxLen) : Calls Try.prog 18 #[.agg #[.string nm, .bool kp, .bool lf, .slice A bs.length c], .int .i64 funcs, .int .i64 datas] w fun e w' => e = .returned (.bool (blocksRight bs funcs datas)) ∧ Below w.heap.size w w' := by
  unfold maxLen at hl
  go_enter Try.func18, Try.ntmps18
  go_wp2
  have hb0 : Below w.heap.size w (w.alloc (.cells #[.string nm, .bool kp, .bool lf, .slice A bs.length c] 24)) := (Below.refl _ _).alloc (Nat.le_refl _) _
  replace hC := Kd.C_mono hb0 hC
  have hbx : (w.alloc (.cells #[.string nm, .bool kp, .bool lf, .slice A bs.length c] 24)).cell? ⟨w.heap.size, 3, none⟩ = some (.slice A bs.length c) := by simp
  have hsz : w.heap.size < (w.alloc (.cells #[.string nm, .bool kp, .bool lf, .slice A bs.length c] 24)).heap.size := by simp
  generalize hW : w.alloc (.cells #[.string nm, .bool kp, .bool lf, .slice A bs.length c] 24) = W at *
  clear hW
  go_loopw [7] (fun i wr => ∃ k : Nat, k ≤ bs.length ∧ (∀ b ∈ bs.take k, b.right bs.length funcs datas = true) ∧ i = .int .i64 k ∧ Below W.heap.size W wr) (fun i _ => bs.length - (intOf i).toNat)
  case atStart => exact ⟨0, Nat.zero_le _, by simp, rfl, Below.refl _ _⟩
  case round =>
    obtain ⟨k, hk, hall, rfl, hbr⟩ := hrel
    rename World => wo
    have hxr : wo.cell? ⟨w.heap.size, 3, none⟩ = some (.slice A bs.length c) := by rw [hbr.cell hsz]; exact hbx
    have hCr := Kd.C_mono hbr hC
    by_cases hlt : k < bs.length
    · obtain ⟨b, hb⟩ := get_some bs k hlt
      have htk := take_snoc hb
      have hfin := @blocksRight_fin bs funcs datas k b hb
      have hop := fun m o => @blocksRight_op bs funcs datas k m b o hb
      obtain ⟨ad, A0, c0, rfl, f0, f1, f2, f3, f4, f5, f6, f7, f8, f9, f10, f11, -, l0, m0, g0⟩ := Block_at hCr hb
      have hl0 := len_le l0 m0
      have HB := Lib.hid hb
      have HT := Lib.hid htk
      have HF := Lib.hid hfin
      have HO := Lib.hid hop
      clear hb htk hfin hop
      go_wp2_with fail
      go_loopw [8] (fun j wq => ∃ m : Nat, m ≤ b.ops.length ∧ (∀ o ∈ b.ops.take m, o.right funcs datas = true) ∧ j = .int .i64 m ∧ Below wo.heap.size wo wq) (fun j _ => b.ops.length - (intOf j).toNat)
      case atStart => exact ⟨0, Nat.zero_le _, by simp, rfl, Below.refl _ _⟩
      case round =>
        obtain ⟨m, hm, hallm, rfl, hbq⟩ := hrel
        have hxq : wr.cell? ⟨w.heap.size, 3, none⟩ = some (.slice (some ad) bs.length c) := by rw [hbq.cell (World.lt_of_cell hxr)]; exact hxr
        have f0q := (hbq.cell (World.lt_of_cell f0)).trans f0
        by_cases hltm : m < b.ops.length
        · obtain ⟨o, ho⟩ := get_some b.ops m hltm
          have htm := take_snoc ho
          have hob := HO.out m o ho
          obtain ⟨ad1, rfl, o0, o1, o2, o3, o4, o5, o6, o7, o8, -⟩ := Op_at (Kd.C_mono hbq g0) ho
          have HTM := Lib.hid htm
          have HOB := Lib.hid hob
          clear ho htm hob
          go_wp2_with (go_at_call 30; refine (op_calls _ _ _ _ _ _ _ _ _ _ _ _).mono ?_; rintro e w1 ⟨rfl, hb1⟩)
          · go_ret
            exact ⟨by rw [HOB.out (by simpa using ‹(!_) = true›)]; rfl, hb0.trans ((hbr.mono hb0.size).trans ((hbq.mono (Nat.le_trans hb0.size hbr.size)).trans (hb1.mono (Nat.le_trans hb0.size (Nat.le_trans hbr.size hbq.size)))))⟩
          · exact ⟨⟨m + 1, by omega, forall_snoc hallm HTM.out (by simpa using ‹(!_) = false›), by go_num, hbq.trans (hb1.mono hbq.size)⟩, by simp [intOf]; omega⟩
        · have hme : m = b.ops.length := by omega
          rw [hme, List.take_length] at hallm
          clear hme
          have f1q := (hbq.cell (World.lt_of_cell f1)).trans f1
          have f2q := (hbq.cell (World.lt_of_cell f2)).trans f2
          have f3q := (hbq.cell (World.lt_of_cell f3)).trans f3
          have f4q := (hbq.cell (World.lt_of_cell f4)).trans f4
          have f5q := (hbq.cell (World.lt_of_cell f5)).trans f5
          have f6q := (hbq.cell (World.lt_of_cell f6)).trans f6
          have f7q := (hbq.cell (World.lt_of_cell f7)).trans f7
          have f8q := (hbq.cell (World.lt_of_cell f8)).trans f8
          have f9q := (hbq.cell (World.lt_of_cell f9)).trans f9
          have f10q := (hbq.cell (World.lt_of_cell f10)).trans f10
          have f11q := (hbq.cell (World.lt_of_cell f11)).trans f11
          go_wp2_with fail
          go_still_tail 10, (by kernel_rfl)
          change wpList _ _ _ _ _ wr.drew
          go_wp2_with (go_at_call 31; refine (term_calls _ _ _ _ _ _ _ _ _ _ _ _ _ _).mono ?_; rintro e w1 ⟨rfl, hb1⟩)
          · go_ret
            exact ⟨by rw [HF.out (by simpa using ‹(!_) = true›)]; rfl, hb0.trans ((hbr.mono hb0.size).trans (((hbq.mono (Nat.le_trans hb0.size hbr.size)).drew).trans (hb1.mono (Nat.le_trans hb0.size (Nat.le_trans hbr.size hbq.size)))))⟩
          · exact ⟨⟨k + 1, by omega, forall_snoc hall HT.out (block_right hallm (by simpa using ‹(!_) = false›)), by go_num, hbr.trans (((hbq.mono hbr.size).drew).trans (hb1.mono (Nat.le_trans hbr.size hbq.size)))⟩, by simp [intOf]; omega⟩
    · have hke : k = bs.length := by omega
      rw [hke, List.take_length] at hall
      clear hke
      have he := blocksRight_end hall
      have HE := Lib.hid he
      clear he
      go_wp2_with fail
      go_ret
      exact ⟨by rw [HE.out]; simp, hb0.trans (hbr.mono hb0.size)⟩
end Go.Proofs.Ythnkikdbllkmkaa
