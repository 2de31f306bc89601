/- Layer 19 (live): what is live ahead of a block; the sets of a graph. -/
import Derived.Test.YtobhjjbhlnbcpaaPn
import Derived.Deep.LoopGhost
namespace Go.Proofs.Ytobhjjbhlnbcpaa
set_option linter.unusedVariables false
set_option linter.unusedSimpArgs false
open Go.RowKit

set_option maxHeartbeats 4000000 in
set_option maxRecDepth 100000 in
theorem ahead_calls (b : Block) (f : Int) (A0 : Option Addr) (c0 : Nat) (A : Option Addr) (c : Nat) (ins : List Nat) (w : World) (hO : kOp.C w A0 b.ops) (hol : b.ops.length ≤ 300) (hops : ∀ o ∈ b.ops, o.ins.right = true) (ht : b.fin.right ins.length f = true) (hC : CellsU w A ins) (hin : ∀ x ∈ ins, x < 65536) (hl : ins.length ≤ 1000000) : Calls Try.prog 45 #[.agg #[.slice A0 b.ops.length c0, .int .i64 b.fin.kind, .int .i64 b.fin.op, .int .i64 b.fin.a, .int .i64 b.fin.b, .int .i64 b.fin.to, .int .i64 b.fin.els, .int .i64 b.fin.ins.op, .int .i64 b.fin.ins.a, .int .i64 b.fin.ins.b, .int .i64 b.fin.ins.c, .int .i64 b.fin.ins.imm], .slice A ins.length c] w fun e w' => e = .returned (.int .u16 (aheadN b ins : Int)) ∧ Below w.heap.size w w' := by
  have b0 := below_alloc' w (.cells #[.slice A0 b.ops.length c0, .int .i64 b.fin.kind, .int .i64 b.fin.op, .int .i64 b.fin.a, .int .i64 b.fin.b, .int .i64 b.fin.to, .int .i64 b.fin.els, .int .i64 b.fin.ins.op, .int .i64 b.fin.ins.a, .int .i64 b.fin.ins.b, .int .i64 b.fin.ins.c, .int .i64 b.fin.ins.imm] 43)
  have r0 : Row (w.alloc (.cells #[.slice A0 b.ops.length c0, .int .i64 b.fin.kind, .int .i64 b.fin.op, .int .i64 b.fin.a, .int .i64 b.fin.b, .int .i64 b.fin.to, .int .i64 b.fin.els, .int .i64 b.fin.ins.op, .int .i64 b.fin.ins.a, .int .i64 b.fin.ins.b, .int .i64 b.fin.ins.c, .int .i64 b.fin.ins.imm] 43)) w.heap.size 43 (blockCells (.slice A0 b.ops.length c0) b) := Row.new w _ _
  have hend := endN_lt ht hin
  have hlo : b.ops.length ≤ 9223372036854775807 := by omega
  have HOPS := Lib.hid hops
  have HEN := Lib.hid hend
  have HT := Lib.hid ht
  have HIN := Lib.hid hin
  clear hops ht hin hend
  go_enter Try.func45, Try.ntmps45
  go_upto_region 1 with fail
  generalize w.alloc (.cells #[.slice A0 b.ops.length c0, .int .i64 b.fin.kind, .int .i64 b.fin.op, .int .i64 b.fin.a, .int .i64 b.fin.b, .int .i64 b.fin.to, .int .i64 b.fin.els, .int .i64 b.fin.ins.op, .int .i64 b.fin.ins.a, .int .i64 b.fin.ins.b, .int .i64 b.fin.ins.c, .int .i64 b.fin.ins.imm] 43) = W at *
  obtain ⟨x0, x1, x2, x3, x4, x5, x6, x7, x8, x9, x10, x11⟩ := r0.block
  go_wp2_with fail
  refine (liveEnd_calls _ f _ _ _ _ HT.out (hC.sub (Sub.of_below b0)) hl).mono ?_
  rintro e w1 ⟨rfl, hb1⟩
  have r1 := r0.below hb1
  have t1 := b0.trans (hb1.mono b0.size)
  clear x0 x1 x2 x3 x4 x5 x6 x7 x8 x9 x10 x11
  have x0 := r1.cell (j := 0) rfl
  go_wp2_with fail
  have HR1 := Lib.hid r1
  clear x0 r0 r1
  go_loopw [5, 6] (fun v i wr => ∃ m : Nat, m ≤ b.ops.length ∧ i = .int .i64 ((m : Int) - 1) ∧ v = .int .u16 (aheadOps (b.ops.drop m) (endN b.fin ins) : Int) ∧ Below w1.heap.size w1 wr) (fun _ i _ => (intOf i + 1).toNat)
  case atStart => exact ⟨b.ops.length, Nat.le_refl _, rfl, by rw [List.drop_length]; rfl, Below.refl _ _⟩
  case round =>
    obtain ⟨m, hm, rfl, rfl, hbr⟩ := hrel
    have x0 := (HR1.out.below hbr).cell (j := 0) rfl
    by_cases hp : 0 < m
    · obtain ⟨k, rfl⟩ : ∃ k, m = k + 1 := ⟨m - 1, by omega⟩
      obtain ⟨o, ho⟩ := get_some b.ops k (by omega)
      have hdr := drop_at ho
      have hlt := aheadOps_lt (fun o h => HOPS.out o (List.mem_of_mem_drop h)) HEN.out (os := b.ops.drop (k + 1))
      have hst : aheadOps (b.ops.drop k) (endN b.fin ins) = beforeN o (aheadOps (b.ops.drop (k + 1)) (endN b.fin ins)) := by rw [hdr]; rfl
      have hro := HOPS.out o (List.mem_of_getElem? ho)
      obtain ⟨ao, rfl, e0, e1, e2, e3, e4, e5, e6, e7, e8, -⟩ := Op_at (Kd.C_mono (t1.trans (hbr.mono t1.size)) hO) ho
      have HST := Lib.hid hst
      have e : (((k + 1 : Nat) : Int) - 1) = (k : Int) := by omega
      rw [e]
      clear hdr hst ho e hp
      generalize aheadOps (b.ops.drop (k + 1)) (endN b.fin ins) = s at *
      have hkl : k < b.ops.length := by omega
      go_wp2_with fail
      refine (before_calls _ hro _ hlt _).mono ?_
      rintro e w2 ⟨rfl, hb2⟩
      rw [← HST.out]
      go_wp2_with fail
      exact ⟨⟨k, by omega, rfl, rfl, hbr.trans (hb2.mono hbr.size)⟩, by simp [intOf]⟩
    · obtain rfl : m = 0 := by omega
      go_wp2_with fail
      go_ret
      exact ⟨rfl, t1.trans (hbr.mono t1.size)⟩
end Go.Proofs.Ytobhjjbhlnbcpaa
