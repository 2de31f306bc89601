/- Layer 23 (inline): Leaves and Tails. -/
import Derived.Test.YtobhjjbhlnbcpaaDd
import Derived.Laws.EntriesVeiled
import Derived.WalkArith
namespace Go.Proofs.Ytobhjjbhlnbcpaa
set_option linter.unusedVariables false
set_option linter.unusedSimpArgs false
open Go.RowKit

def okB (gs : List Graph) (b : Block) : Prop := ∃ g ∈ gs, b ∈ g.blocks
theorem okB_parts {gs : List Graph} (hok : GsOk gs) {b : Block} (h : okB gs b) : b.ops.length ≤ 300 ∧ ∀ o ∈ b.ops, calledI o < gs.length := by
  obtain ⟨g, hg, hb⟩ := h
  exact ⟨(blocksFew_parts (hok.2 g hg).1).2 b hb, fun o ho => calledI_lt hok hg hb ho⟩
theorem gok_of {gs : List Graph} (hok : GsOk gs) : GOk (okB gs) gs :=
  ⟨hok.1, fun g hg => ⟨(blocksFew_parts (hok.2 g hg).1).1, fun b hb => ⟨⟨g, hg, hb⟩, (blocksFew_parts (hok.2 g hg).1).2 b hb⟩⟩⟩
theorem own_ops_read {w : World} {A : Option Addr} {c : Nat} {os : List Op} {F : Nat → Prop} (h : OwnF oOp 45 w (.slice A os.length c) os F) : kOp.C w A os := by
  obtain ⟨A', c', e, -, -, hC⟩ := h.read
  injection e with e1 e2 e3
  rw [e1]
  exact hC
theorem Wf64 {n : Int} (h : -9223372036854775808 ≤ n ∧ n ≤ 9223372036854775807) : (Lit.int .i64 n).wf = true := by
  have h1 : IntKind.i64.min = -9223372036854775808 := by decide
  have h2 : IntKind.i64.max = 9223372036854775807 := by decide
  simp [Lit.wf, h1, h2, h.1, h.2]
theorem tailTerm_wf {b : Block} (h : b.wf) {n : Int} (h0 : 0 ≤ n) (h1 : n ≤ 1000) {os : List Op} : (⟨os, tailTerm n⟩ : Block).wf := by
  unfold Block.wf tailTerm Ins.zero
  have z : (Lit.int .i64 0).wf = true := Wf64 (by omega)
  have z4 : (Lit.int .i64 4).wf = true := Wf64 (by omega)
  have zn : (Lit.int .i64 n).wf = true := Wf64 (by omega)
  exact ⟨z4, z, z, z, zn, z, z, z, z, z, z⟩

set_option maxHeartbeats 4000000 in
set_option maxRecDepth 100000 in
theorem leaves_calls (A : Option Addr) (c : Nat) (gs : List Graph) (w : World) (hC : kGraph.C w A gs) (hok : GsOk gs) : Calls Try.prog 16 #[.slice A gs.length c] w fun e w' => OwnGs w e w' (gs.map (leavesG gs)) := by
  have b1 := below_alloc' w (.cells #[.slice A gs.length c] 22)
  have hz : (w.alloc (.cells #[.slice A gs.length c] 22)).heap.size = w.heap.size + 1 := by simp
  have hcell : (w.alloc (.cells #[.slice A gs.length c] 22)).cell? ⟨w.heap.size, 0, none⟩ = some (.slice A gs.length c) := by simp
  have hlt : w.heap.size < (w.alloc (.cells #[.slice A gs.length c] 22)).heap.size := by simp
  have hC1 := Kd.C_mono b1 hC
  have hB : ∀ W : World, W = w.alloc (.cells #[.slice A gs.length c] 22) → BFn 39 #[.pointer (some ⟨w.heap.size, 0, none⟩)] W (okB gs) (leavesB gs) := by
    rintro W rfl w' b A0 c0 F0 hbw hb hO
    obtain ⟨h300, hin⟩ := okB_parts hok hb
    exact leaves1_calls gs A c w.heap.size b A0 c0 F0 w' hok ((hbw.cell hlt).trans hcell) (Kd.C_mono hbw hC1) (own_ops_read hO) h300 hin
  have hcl : ∀ W : World, W = w.alloc (.cells #[.slice A gs.length c] 22) → Calls Try.prog 38 #[.slice A gs.length c, .func (.func 39) #[] #[.pointer (some ⟨w.heap.size, 0, none⟩)]] W fun e w' => OwnGs W e w' (gs.map (leavesG gs)) := by
    rintro W hW
    exact each_calls 39 _ (okB gs) (leavesB gs) Try.call39 (fun b _ h => h) A c gs W (hB W hW) (by rw [hW]; exact hC1) (gok_of hok)
  have HCL := Lib.hid hcl
  have hmf : ∀ (fn : Fn) (first cap : Array Value) (w : World), (Instr.makeFunc fn first cap).run Try.prog w = .ok (.func fn first cap) w := fun _ _ _ _ => rfl
  clear hB hcl hC1 hcell hz hlt hok hC
  go_enter Try.func16, Try.ntmps16
  go_wp2_with fail
  refine (HCL.out _ rfl).mono ?_
  rintro e w2 ⟨A2, c2, F2, rfl, own2, hF2, hb2⟩
  have hs := b1.size
  go_wp2_with fail
  go_ret
  exact ⟨A2, c2, F2, by simp, own2, fun x hx => Nat.le_trans hs (hF2 x hx), b1.trans (hb2.mono hs)⟩
set_option maxHeartbeats 4000000 in
set_option maxRecDepth 100000 in
theorem tails_calls (A : Option Addr) (c : Nat) (gs : List Graph) (w : World) (hC : kGraph.C w A gs) (hok : GsOk gs) : Calls Try.prog 18 #[.slice A gs.length c] w fun e w' => OwnGs w e w' (gs.map tailsG) := by
  have hwf : ∀ b, okB gs b → b.wf → (tailsB b).wf := by
    intro b hb h
    obtain ⟨h300, hin⟩ := okB_parts hok hb
    unfold tailsB
    split
    · exact h
    · rename_i o ho
      split
      · rename_i hc
        have := hin o (List.mem_of_getLast? ho)
        have := hok.1
        exact tailTerm_wf h hc.2.2 (by omega)
      · exact h
  have hB : BFn 42 #[] w (okB gs) tailsB := by
    rintro w' b A0 c0 F0 hbw hb hO
    exact tails1_calls b A0 c0 F0 w' hO (okB_parts hok hb).1
  have hcl := each_calls 42 _ (okB gs) tailsB Try.call42 hwf A c gs w hB hC (gok_of hok)
  have HCL := Lib.hid hcl
  clear hB hcl hwf hok hC
  go_enter Try.func18, Try.ntmps18
  go_wp2_with fail
  refine HCL.out.mono ?_
  rintro e w2 ⟨A2, c2, F2, rfl, own2, hF2, hb2⟩
  go_wp2_with fail
  go_ret
  exact ⟨A2, c2, F2, by simp, own2, hF2, hb2⟩
end Go.Proofs.Ytobhjjbhlnbcpaa
