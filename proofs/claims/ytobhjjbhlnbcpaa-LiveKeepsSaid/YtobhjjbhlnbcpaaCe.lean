/- The reference's predicate on graphs: right. -/
import Derived.Test.YtobhjjbhlnbcpaaCd
import Derived.StillTailTactics
namespace Go.Proofs.Ytobhjjbhlnbcpaa
set_option linter.unusedVariables false
set_option linter.unusedSimpArgs false
open Go.RowKit

theorem blocksRight_end {bs : List Block} {funcs datas : Int} (h : ∀ b ∈ bs, b.right bs.length funcs datas = true) : blocksRight bs funcs datas = decide (0 < bs.length) := by
  unfold blocksRight
  rw [List.all_eq_true.2 h, Bool.true_and]
theorem blocksRight_op {bs : List Block} {funcs datas : Int} {k m : Nat} {b : Block} {o : Op} (hb : bs[k]? = some b) (ho : b.ops[m]? = some o) (h : o.right funcs datas = false) : blocksRight bs funcs datas = false := by
  unfold blocksRight
  rw [Bool.and_eq_false_iff]
  left
  rw [List.all_eq_false]
  refine ⟨b, List.mem_of_getElem? hb, ?_⟩
  unfold Block.right
  have : b.ops.all (fun o => o.right funcs datas) = false := by
    rw [List.all_eq_false]
    exact ⟨o, List.mem_of_getElem? ho, by simp [h]⟩
  simp [this]
theorem blocksRight_fin {bs : List Block} {funcs datas : Int} {k : Nat} {b : Block} (hb : bs[k]? = some b) (h : b.fin.right bs.length funcs = false) : blocksRight bs funcs datas = false := by
  unfold blocksRight
  rw [Bool.and_eq_false_iff]
  left
  rw [List.all_eq_false]
  exact ⟨b, List.mem_of_getElem? hb, by unfold Block.right; simp [h]⟩
theorem block_right {b : Block} {n funcs datas : Int} (h : ∀ o ∈ b.ops, o.right funcs datas = true) (hf : b.fin.right n funcs = true) : b.right n funcs datas = true := by
  unfold Block.right
  rw [List.all_eq_true.2 h, hf]; rfl

set_option maxHeartbeats 4000000 in
set_option maxRecDepth 100000 in
theorem right_calls (nm : ByteArray) (kp lf : Bool) (A : Option Addr) (c : Nat) (bs : List Block) (funcs datas : Int) (w : World) (hC : kBlock.C w A bs) (hl : bs.length ≤ maxLen) : Calls Try.prog 20 #[.agg #[.string nm, .bool kp, .bool lf, .slice A bs.length c], .int .i64 funcs, .int .i64 datas] w fun e w' => e = .returned (.bool (blocksRight bs funcs datas)) ∧ Below w.heap.size w w' := by
  unfold maxLen at hl
  go_enter Try.func20, Try.ntmps20
  go_wp2
  have hb0 : Below w.heap.size w (w.alloc (.cells #[.string nm, .bool kp, .bool lf, .slice A bs.length c] 28)) := (Below.refl _ _).alloc (Nat.le_refl _) _
  replace hC := Kd.C_mono hb0 hC
  have hbx : (w.alloc (.cells #[.string nm, .bool kp, .bool lf, .slice A bs.length c] 28)).cell? ⟨w.heap.size, 3, none⟩ = some (.slice A bs.length c) := by simp
  have hsz : w.heap.size < (w.alloc (.cells #[.string nm, .bool kp, .bool lf, .slice A bs.length c] 28)).heap.size := by simp
  generalize hW : w.alloc (.cells #[.string nm, .bool kp, .bool lf, .slice A bs.length c] 28) = W at *
  clear hW
  go_loopw [7] (fun i wr => ∃ k : Nat, k ≤ bs.length ∧ (∀ b ∈ bs.take k, b.right bs.length funcs datas = true) ∧ i = .int .i64 k ∧ Below W.heap.size W wr) (fun i _ => bs.length - (intOf i).toNat)
  case atStart => exact ⟨0, Nat.zero_le _, by simp, rfl, Below.refl _ _⟩
  case round =>
    obtain ⟨k, hk, hall, rfl, hbr⟩ := hrel
    rename World => wo
    have hxr : wo.cell? ⟨w.heap.size, 3, none⟩ = some (.slice A bs.length c) := by rw [hbr.cell hsz]; exact hbx
    have hCr := Kd.C_mono hbr hC
    by_cases hlt : k < bs.length
    · obtain ⟨b, hb⟩ := get_some bs k hlt
      have htk := take_snoc hb
      have hfin := @blocksRight_fin bs funcs datas k b hb
      have hop := fun m o => @blocksRight_op bs funcs datas k m b o hb
      obtain ⟨ad, A0, c0, rfl, f0, f1, f2, f3, f4, f5, f6, f7, f8, f9, f10, f11, -, l0, m0, g0⟩ := Block_at hCr hb
      have hl0 := len_le l0 m0
      have HB := Lib.hid hb
      have HT := Lib.hid htk
      have HF := Lib.hid hfin
      have HO := Lib.hid hop
      clear hb htk hfin hop
      go_wp2_with fail
      go_loopw [8] (fun j wq => ∃ m : Nat, m ≤ b.ops.length ∧ (∀ o ∈ b.ops.take m, o.right funcs datas = true) ∧ j = .int .i64 m ∧ Below wo.heap.size wo wq) (fun j _ => b.ops.length - (intOf j).toNat)
      case atStart => exact ⟨0, Nat.zero_le _, by simp, rfl, Below.refl _ _⟩
      case round =>
        obtain ⟨m, hm, hallm, rfl, hbq⟩ := hrel
        have hxq : wr.cell? ⟨w.heap.size, 3, none⟩ = some (.slice (some ad) bs.length c) := by rw [hbq.cell (World.lt_of_cell hxr)]; exact hxr
        have f0q := (hbq.cell (World.lt_of_cell f0)).trans f0
        by_cases hltm : m < b.ops.length
        · obtain ⟨o, ho⟩ := get_some b.ops m hltm
          have htm := take_snoc ho
          have hob := HO.out m o ho
          obtain ⟨ad1, rfl, o0, o1, o2, o3, o4, o5, o6, o7, o8, -⟩ := Op_at (Kd.C_mono hbq g0) ho
          have HTM := Lib.hid htm
          have HOB := Lib.hid hob
          clear ho htm hob
          go_wp2_with (go_at_call 43; refine (op_calls _ _ _ _ _ _ _ _ _ _ _ _).mono ?_; rintro e w1 ⟨rfl, hb1⟩)
          · go_ret
            exact ⟨by rw [HOB.out (by simpa using ‹(!_) = true›)]; rfl, hb0.trans ((hbr.mono hb0.size).trans ((hbq.mono (Nat.le_trans hb0.size hbr.size)).trans (hb1.mono (Nat.le_trans hb0.size (Nat.le_trans hbr.size hbq.size)))))⟩
          · exact ⟨⟨m + 1, by omega, forall_snoc hallm HTM.out (by simpa using ‹(!_) = false›), by go_num, hbq.trans (hb1.mono hbq.size)⟩, by simp [intOf]; omega⟩
        · have hme : m = b.ops.length := by omega
          rw [hme, List.take_length] at hallm
          clear hme
          have f1q := (hbq.cell (World.lt_of_cell f1)).trans f1
          have f2q := (hbq.cell (World.lt_of_cell f2)).trans f2
          have f3q := (hbq.cell (World.lt_of_cell f3)).trans f3
          have f4q := (hbq.cell (World.lt_of_cell f4)).trans f4
          have f5q := (hbq.cell (World.lt_of_cell f5)).trans f5
          have f6q := (hbq.cell (World.lt_of_cell f6)).trans f6
          have f7q := (hbq.cell (World.lt_of_cell f7)).trans f7
          have f8q := (hbq.cell (World.lt_of_cell f8)).trans f8
          have f9q := (hbq.cell (World.lt_of_cell f9)).trans f9
          have f10q := (hbq.cell (World.lt_of_cell f10)).trans f10
          have f11q := (hbq.cell (World.lt_of_cell f11)).trans f11
          go_wp2_with fail
          go_still_tail 10, (by kernel_rfl)
          change wpList _ _ _ _ _ wr.drew
          go_wp2_with (go_at_call 44; refine (term_calls _ _ _ _ _ _ _ _ _ _ _ _ _ _).mono ?_; rintro e w1 ⟨rfl, hb1⟩)
          · go_ret
            exact ⟨by rw [HF.out (by simpa using ‹(!_) = true›)]; rfl, hb0.trans ((hbr.mono hb0.size).trans (((hbq.mono (Nat.le_trans hb0.size hbr.size)).drew).trans (hb1.mono (Nat.le_trans hb0.size (Nat.le_trans hbr.size hbq.size)))))⟩
          · exact ⟨⟨k + 1, by omega, forall_snoc hall HT.out (block_right hallm (by simpa using ‹(!_) = false›)), by go_num, hbr.trans (((hbq.mono hbr.size).drew).trans (hb1.mono (Nat.le_trans hbr.size hbq.size)))⟩, by simp [intOf]; omega⟩
    · have hke : k = bs.length := by omega
      rw [hke, List.take_length] at hall
      clear hke
      have he := blocksRight_end hall
      have HE := Lib.hid he
      clear he
      go_wp2_with fail
      go_ret
      exact ⟨by rw [HE.out]; simp, hb0.trans (hbr.mono hb0.size)⟩
end Go.Proofs.Ytobhjjbhlnbcpaa
