/- calls.Of: what a graph calls, sorted, each once, in memory of the call's own. -/
import Derived.Test.YtobhjjbhlnbcpaaPf
import Derived.Test.YtobhjjbhlnbcpaaLd
import Derived.Test.YtobhjjbhlnbcpaaCg
import Derived.Test.YtobhjjbhlnbcpaaCd
namespace Go.Proofs.Ytobhjjbhlnbcpaa
set_option linter.unusedVariables false
set_option linter.unusedSimpArgs false
open Go.RowKit

/-- A block's own copy: its terminator's kind and to lie in block number b, apart from the slice v. -/
def FinAt (w : World) (v : Value) (b : Nat) (kd tt : Int) : Prop := w.cell? ⟨b, 1, none⟩ = some (.int .i64 kd) ∧ w.cell? ⟨b, 5, none⟩ = some (.int .i64 tt) ∧ v.ownBlock ≠ some b
theorem FinAt.alloc {w : World} {v : Value} {b : Nat} {kd tt : Int} (h : FinAt w v b kd tt) (o : Obj) : FinAt (w.alloc o) v b kd tt := by
  have hb : Below w.heap.size w (w.alloc o) := (Below.refl _ _).alloc (Nat.le_refl _) _
  exact ⟨(hb.cell (World.lt_of_cell h.1)).trans h.1, (hb.cell (World.lt_of_cell h.2.1)).trans h.2.1, h.2.2⟩
theorem FinAt.apart {w w' : World} {v v' : Value} {b : Nat} {kd tt : Int} (h : FinAt w v b kd tt) (ha : StaysApart w w' v v') : FinAt w' v' b kd tt := by
  obtain ⟨h1, h2⟩ := ha b (World.lt_of_cell h.1) h.2.2
  exact ⟨(h1 1).trans h.1, (h1 5).trans h.2.1, h2⟩

set_option maxHeartbeats 4000000 in
set_option maxRecDepth 100000 in
theorem of_calls (nm : ByteArray) (kp lf : Bool) (A : Option Addr) (c : Nat) (bs : List Block) (w : World) (hC : kBlock.C w A bs) (hl : bs.length ≤ maxLen) (hf : blocksFew bs = true) : Calls Try.prog 53 #[.agg #[.string nm, .bool kp, .bool lf, .slice A bs.length c]] w (MadeI w (ofList bs)) := by
  unfold maxLen at hl
  have hfew := blocksCalls_few hf
  obtain ⟨h200, h300⟩ := blocksFew_parts hf
  have hall := hfew bs.length
  rw [List.take_length] at hall
  have hcl := compact_len (sorted (blocksCalls bs))
  rw [sorted_length] at hcl
  have HF := Lib.hid hfew
  have H3 := Lib.hid h300
  clear hfew h300 hf
  go_enter Try.func53, Try.ntmps53
  go_wp2_with fail
  have hb0 : Below w.heap.size w (w.alloc (.cells #[.string nm, .bool kp, .bool lf, .slice A bs.length c] 28)) := (Below.refl _ _).alloc (Nat.le_refl _) _
  replace hC := Kd.C_mono hb0 hC
  generalize hW : w.alloc (.cells #[.string nm, .bool kp, .bool lf, .slice A bs.length c] 28) = W at *
  clear hW
  go_loopw [3, 11] (fun v i wr => ∃ k : Nat, k ≤ bs.length ∧ i = .int .i64 k ∧ OwnI wr W.heap.size v (blocksCalls (bs.take k)) ∧ Below W.heap.size W wr) (fun _ i _ => bs.length - (intOf i).toNat)
  case atStart => exact ⟨0, Nat.zero_le _, rfl, OwnI.nil _ _, Below.refl _ _⟩
  case round =>
    obtain ⟨k, hk, rfl, ho, hbr⟩ := hrel
    rename World => wo
    by_cases hlt : k < bs.length
    · obtain ⟨b, hb⟩ := get_some bs k hlt
      have hsucc := blocksCalls_succ hb
      have hb3 := H3.out b (List.mem_of_getElem? hb)
      have hlen := HF.out k
      have hol := opsCalls_len b.ops
      obtain ⟨ad, A0, c0, rfl, f0, f1, f2, f3, f4, f5, f6, f7, f8, f9, f10, f11, -, l0, m0, g0⟩ := Block_at hC hb
      have HS := Lib.hid hsucc
      clear hb hsucc
      replace f0 := (hbr.cell (World.lt_of_cell f0)).trans f0
      replace f1 := (hbr.cell (World.lt_of_cell f1)).trans f1
      replace f2 := (hbr.cell (World.lt_of_cell f2)).trans f2
      replace f3 := (hbr.cell (World.lt_of_cell f3)).trans f3
      replace f4 := (hbr.cell (World.lt_of_cell f4)).trans f4
      replace f5 := (hbr.cell (World.lt_of_cell f5)).trans f5
      replace f6 := (hbr.cell (World.lt_of_cell f6)).trans f6
      replace f7 := (hbr.cell (World.lt_of_cell f7)).trans f7
      replace f8 := (hbr.cell (World.lt_of_cell f8)).trans f8
      replace f9 := (hbr.cell (World.lt_of_cell f9)).trans f9
      replace f10 := (hbr.cell (World.lt_of_cell f10)).trans f10
      replace f11 := (hbr.cell (World.lt_of_cell f11)).trans f11
      go_wp2_with fail
      have hb2 : Below W.heap.size W (wo.alloc (.cells #[.slice A0 b.ops.length c0, .int .i64 b.fin.kind, .int .i64 b.fin.op, .int .i64 b.fin.a, .int .i64 b.fin.b, .int .i64 b.fin.to, .int .i64 b.fin.els, .int .i64 b.fin.ins.op, .int .i64 b.fin.ins.a, .int .i64 b.fin.ins.b, .int .i64 b.fin.ins.c, .int .i64 b.fin.ins.imm] 43)) := hbr.alloc hbr.size _
      have ho2 := ho.alloc (.cells #[.slice A0 b.ops.length c0, .int .i64 b.fin.kind, .int .i64 b.fin.op, .int .i64 b.fin.a, .int .i64 b.fin.b, .int .i64 b.fin.to, .int .i64 b.fin.els, .int .i64 b.fin.ins.op, .int .i64 b.fin.ins.a, .int .i64 b.fin.ins.b, .int .i64 b.fin.ins.c, .int .i64 b.fin.ins.imm] 43)
      have hfin : FinAt (wo.alloc (.cells #[.slice A0 b.ops.length c0, .int .i64 b.fin.kind, .int .i64 b.fin.op, .int .i64 b.fin.a, .int .i64 b.fin.b, .int .i64 b.fin.to, .int .i64 b.fin.els, .int .i64 b.fin.ins.op, .int .i64 b.fin.ins.a, .int .i64 b.fin.ins.b, .int .i64 b.fin.ins.c, .int .i64 b.fin.ins.imm] 43)) u3 wo.heap.size b.fin.kind b.fin.to := ⟨by simp, by simp, fun e => by have := (ho.block _ e).2; omega⟩
      generalize wo.alloc (.cells #[.slice A0 b.ops.length c0, .int .i64 b.fin.kind, .int .i64 b.fin.op, .int .i64 b.fin.a, .int .i64 b.fin.b, .int .i64 b.fin.to, .int .i64 b.fin.els, .int .i64 b.fin.ins.op, .int .i64 b.fin.ins.a, .int .i64 b.fin.ins.b, .int .i64 b.fin.ins.c, .int .i64 b.fin.ins.imm] 43) = W2 at *
      clear f0 f1 f2 f3 f4 f5 f6 f7 f8 f9 f10 f11 ho
      generalize hpre : blocksCalls (bs.take k) = pre at *
      clear hpre
      have hl0 := len_le l0 m0
      go_loopw [3, 18] (fun v i wr => ∃ j : Nat, j ≤ b.ops.length ∧ i = .int .i64 j ∧ OwnI wr W.heap.size v (pre ++ opsCalls (b.ops.take j)) ∧ Below W.heap.size W wr ∧ FinAt wr v wo.heap.size b.fin.kind b.fin.to) (fun _ i _ => b.ops.length - (intOf i).toNat)
      case atStart => exact ⟨0, Nat.zero_le _, rfl, by simpa [opsCalls] using ho2, hb2, hfin⟩
      case round =>
        obtain ⟨j, hj, rfl, ho3, hb4, hfin2⟩ := hrel
        by_cases hltj : j < b.ops.length
        · obtain ⟨o, hoo⟩ := get_some b.ops j hltj
          have hsj := opsCalls_succ hoo
          have hjl := opsCalls_len (b.ops.take j)
          have hjt : (b.ops.take j).length ≤ 300 := Nat.le_trans (by simp [List.length_take]; omega) hb3
          have hq : (pre ++ opsCalls (b.ops.take j)).length ≤ 1099511627776 := by rw [List.length_append]; omega
          have HQ := Lib.hid hq
          clear hq hjl hjt
          obtain ⟨ad2, rfl, e0, e1, e2, e3, e4, e5, e6, e7, e8, -⟩ := Op_at (Kd.C_mono hb4 g0) hoo
          have HJ := Lib.hid hsj
          clear hoo hsj
          cases hrel : o.rel with
          | false =>
            rw [hrel] at e5
            have HO : Hid (o.calls = []) := Lib.hid (by unfold Op.calls; rw [if_neg (by simp [hrel])])
            clear hrel
            go_wp2_with fail
            exact ⟨⟨j + 1, by omega, by go_num, by rw [HJ.out, HO.out, List.append_nil]; exact ho3.alloc _, hb4.alloc hb4.size _, hfin2.alloc _⟩, by simp [intOf]; omega⟩
          | true =>
            rw [hrel] at e5
            by_cases hk1 : o.kind = 1
            · have HO : Hid (o.calls = [o.to]) := Lib.hid (by unfold Op.calls; rw [if_pos ⟨hrel, hk1⟩])
              rw [hk1] at e6
              clear hrel hk1
              go_wp2_with (at_builtin; refine wpList_append_one2 rfl _ _ rfl W.heap.size (ho3.alloc _) rfl (by go_simp) HQ.out (by simp; have := hb4.size; omega) ?_; intro v2 w2 ho4 hb5 ha)
              exact ⟨⟨j + 1, by omega, by go_num, by rw [HJ.out, HO.out, ← List.append_assoc]; exact ho4, (hb4.alloc hb4.size _).trans hb5, (hfin2.alloc _).apart ha⟩, by simp [intOf]; omega⟩
            · have HO : Hid (o.calls = []) := Lib.hid (by unfold Op.calls; rw [if_neg (fun h => hk1 h.2)])
              have hk2 : (o.kind == 1) = false := by simpa using hk1
              clear hrel hk1
              go_wp2_with fail
              exact ⟨⟨j + 1, by omega, by go_num, by rw [HJ.out, HO.out, List.append_nil]; exact ho3.alloc _, hb4.alloc hb4.size _, hfin2.alloc _⟩, by simp [intOf]; omega⟩
        · obtain rfl : j = b.ops.length := by omega
          rw [List.take_length] at ho3
          obtain ⟨p1, p2, p3⟩ := hfin2
          have hq : (pre ++ opsCalls b.ops).length ≤ 1099511627776 := by rw [List.length_append]; omega
          have HQ := Lib.hid hq
          clear hq
          by_cases hk4 : b.fin.kind = 4
          · have HO : Hid (b.fin.calls = [b.fin.to]) := Lib.hid (by unfold Term.calls; rw [if_pos hk4])
            rw [hk4] at p1
            clear hk4
            go_wp2_with (at_builtin; refine wpList_append_one2 rfl _ _ rfl W.heap.size ho3 rfl rfl HQ.out hb4.size ?_; intro v2 w2 ho4 hb5 ha)
            exact ⟨⟨k + 1, by omega, by go_num, by rw [HS.out, HO.out, ← List.append_assoc]; exact ho4, hb4.trans hb5⟩, by simp [intOf]; omega⟩
          · have HO : Hid (b.fin.calls = []) := Lib.hid (by unfold Term.calls; rw [if_neg hk4])
            have hk5 : (b.fin.kind == 4) = false := by simpa using hk4
            clear hk4
            go_wp2_with fail
            exact ⟨⟨k + 1, by omega, by go_num, by rw [HS.out, HO.out, List.append_nil]; exact ho3, hb4⟩, by simp [intOf]; omega⟩
    · obtain rfl : k = bs.length := by omega
      rw [List.take_length] at ho
      go_wp2_with (first
        | (go_at_call 57; refine (sort_calls ho (by omega)).mono ?_; rintro e w1 ⟨rfl, ho1, hg1⟩)
        | (go_at_call 58; refine (compact_calls ho1 (by rw [sorted_length]; omega)).mono ?_; rintro e w2 ⟨v2, rfl, ho2, hg2, hv2⟩))
      go_ret
      have b1 := ho.grown hbr.size hg1
      have b2 := ho1.grown (Nat.le_trans hbr.size b1.size) hg2
      exact ⟨v2, rfl, ho2.mono hb0.size, hb0.trans (((hbr.trans b1).trans b2).mono hb0.size)⟩
end Go.Proofs.Ytobhjjbhlnbcpaa
