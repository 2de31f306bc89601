/- chain.edges: a graph's edges with their weights, sorted, each once. Printed by genYg.py of this repository. -/
import Derived.Test.YthnkikdbllkmkaaYf
import Derived.Laws.EntriesVeiled
namespace Go.Proofs.Ythnkikdbllkmkaa
set_option linter.unusedVariables false
set_option linter.unusedSimpArgs false
open Go.RowKit
attribute [local go_sem] run_store_float

theorem compactE_calls (A : Option Addr) (c : Nat) (xs : List Edg) (F : Nat → Prop) (w : World) (h : OwnF oEdg 55 w (.slice A xs.length c) xs F) (hl : xs.length ≤ 100000) : Calls Try.prog 38 #[.slice A xs.length c] w fun e w' =>
    e = .returned (.slice A (ddN xs xs.length).length c) ∧ OwnF oEdg 55 w' (.slice A (ddN xs xs.length).length c) (ddN xs xs.length) F ∧ w.grownBy w' (Value.slice A xs.length c).ownBlock := by
  by_cases hp : 0 < xs.length
  · obtain ⟨h1, h2⟩ := h.edges
    have h0 := h1
    obtain ⟨-, ⟨hv, hn⟩ | ⟨g, cap, cur, hv, -, hb, hcap, -⟩⟩ := h1
    · omega
    · injection hv with e1 e2 e3
      subst e1 e3
      refine (compact_row g c xs w h0 hl hcap hp).mono ?_
      rintro e w' ⟨rfl, k1, k2⟩
      exact ⟨rfl, OwnF.ofEdges k1 h2, k2⟩
  · obtain rfl := List.length_eq_zero_iff.1 (by omega : xs.length = 0)
    go_enter Try.func38, Try.ntmps38
    go_wp2_with fail
    go_ret
    exact ⟨rfl, h, grown_refl _ _⟩

def atE (l : List Edge) (nm : ByteArray) (i : Nat) (b : Block) : List Edg := if b.fin.kind = 2 then putE l nm i b.fin.els ++ putE l nm i b.fin.to else if b.fin.kind = 1 then putE l nm i b.fin.to else []
def rawTo (l : List Edge) (nm : ByteArray) (bs : List Block) : Nat → List Edg
  | 0 => []
  | k + 1 => rawTo l nm bs k ++ (match bs[k]? with | some b => atE l nm k b | none => [])
theorem putE_len (l : List Edge) (nm : ByteArray) (i t : Int) : (putE l nm i t).length ≤ 1 := by unfold putE; split <;> simp
theorem atE_len (l : List Edge) (nm : ByteArray) (i : Nat) (b : Block) : (atE l nm i b).length ≤ 2 := by
  unfold atE
  have h1 := putE_len l nm i b.fin.els
  have h2 := putE_len l nm i b.fin.to
  split
  · rw [List.length_append]; omega
  · split
    · omega
    · simp
theorem rawTo_len (l : List Edge) (nm : ByteArray) (bs : List Block) : ∀ k, (rawTo l nm bs k).length ≤ 2 * k
  | 0 => Nat.le_refl _
  | k + 1 => by
    have h := rawTo_len l nm bs k
    show (rawTo l nm bs k ++ _).length ≤ _
    rw [List.length_append]
    split
    · have := atE_len l nm k (by assumption); omega
    · simp; omega
theorem rawTo_succ {l : List Edge} {nm : ByteArray} {bs : List Block} {k : Nat} {b : Block} (h : bs[k]? = some b) : rawTo l nm bs (k + 1) = rawTo l nm bs k ++ atE l nm k b := by
  show rawTo l nm bs k ++ _ = _
  rw [h]
/-- A graph's edges: heavy ones first, each once. -/
def edgesD (l : List Edge) (nm : ByteArray) (bs : List Block) : List Edg := ddN (sortE (rawTo l nm bs bs.length)) (sortE (rawTo l nm bs bs.length)).length

set_option maxHeartbeats 1500000 in
set_option maxRecDepth 100000 in
theorem edges_calls (nm : ByteArray) (kp lf : Bool) (A : Option Addr) (c : Nat) (bs : List Block) (LA : Option Addr) (lc : Nat) (l : List Edge) (w : World) (hC : kBlock.C w A bs) (hL : kEdge.C w LA l) (hw : ∀ e ∈ l, e.wf) (hl : l.length ≤ maxLen) (hbl : bs.length ≤ 1000) : Calls Try.prog 19 #[.agg #[.string nm, .bool kp, .bool lf, .slice A bs.length c], .slice LA l.length lc] w fun e w' =>
    ∃ v F, e = .returned v ∧ OwnF oEdg 55 w' v (edgesD l nm bs) F ∧ (∀ b, F b → w.heap.size ≤ b) ∧ Below w.heap.size w w' := by
  have hlo : bs.length ≤ 9223372036854775807 := by omega
  obtain ⟨w0, hW0, b0, hz0, r0, rl⟩ := two_rows w #[.string nm, .bool kp, .bool lf, .slice A bs.length c] #[.slice LA l.length lc] 24 25
  have r0' : Row w0 w.heap.size 24 (graphCells (.slice A bs.length c) ⟨nm, kp, lf, bs⟩) := r0
  have cG0 := r0'.cell (j := 0) rfl
  have x3w := r0'.cell (j := 3) rfl
  have cL0 : w0.cell? ⟨w.heap.size + 1, 0, none⟩ = some (.slice LA l.length lc) := rl.cell (j := 0) rfl
  have hmf : ∀ (fn : Fn) (first cap : Array Value) (w : World), (Instr.makeFunc fn first cap).run Try.prog w = .ok (.func fn first cap) w := fun _ _ _ _ => rfl
  have hCL := Kd.C_mono b0 hL
  have hCB := Kd.C_mono b0 hC
  have HW := Lib.hid hw
  have HW0 := Lib.hid hW0
  have HZ0 := Lib.hid hz0
  have hz1 : w.heap.size ≤ w0.heap.size := b0.size
  clear hW0 hz0 hw r0 rl hC hL
  go_enter Try.func19, Try.ntmps19
  go_upto_region 1 with fail
  rw [← HW0.out]
  have bt := below_alloc' w0 (.cells #[.slice none 0 0] 52)
  have R0 : Row (w0.alloc (.cells #[.slice none 0 0] 52)) w0.heap.size 52 [.slice none 0 0] := Row.new w0 _ _
  have x3 := Sub.of_below bt _ _ x3w
  go_upto_region 3 with fail
  have H0 := Lib.hid HZ0.out
  generalize w0.alloc (.cells #[.slice none 0 0] 52) = W1 at *
  go_wp2_with fail
  go_loopw [13] (fun i wr => ∃ (k : Nat) (v : Value) (F : Nat → Prop), k ≤ bs.length ∧ i = .int .i64 (k : Int) ∧ Row wr w0.heap.size 52 [v] ∧ OwnF oEdg 55 wr v (rawTo l nm bs k) F ∧ (∀ b, F b → w0.heap.size < b) ∧ Below w0.heap.size w0 wr) (fun i _ => bs.length - (intOf i).toNat)
  case atStart => exact ⟨0, _, _, Nat.zero_le _, rfl, R0, OwnF.nil _ _ _, fun _ h => h.elim, bt⟩
  case round =>
    obtain ⟨k, v, F, hk, rfl, hR, ho, hF, hbr⟩ := hrel
    by_cases hlt : k < bs.length
    · obtain ⟨b, hb⟩ := get_some bs k hlt
      obtain ⟨ad, A0, c0, rfl, f0, f1, f2, f3, f4, f5, f6, f7, f8, f9, f10, f11, -⟩ := Block_at (Kd.C_mono hbr hCB) hb
      have hrs := rawTo_succ (l := l) (nm := nm) hb
      have hrl := rawTo_len l nm bs k
      have HRS := Lib.hid hrs
      clear hrs hb x3
      have b5 := below_alloc' wr (.cells #[.slice A0 b.ops.length c0, .int .i64 b.fin.kind, .int .i64 b.fin.op, .int .i64 b.fin.a, .int .i64 b.fin.b, .int .i64 b.fin.to, .int .i64 b.fin.els, .int .i64 b.fin.ins.op, .int .i64 b.fin.ins.a, .int .i64 b.fin.ins.b, .int .i64 b.fin.ins.c, .int .i64 b.fin.ins.imm] 46)
      have r5 : Row (wr.alloc (.cells #[.slice A0 b.ops.length c0, .int .i64 b.fin.kind, .int .i64 b.fin.op, .int .i64 b.fin.a, .int .i64 b.fin.b, .int .i64 b.fin.to, .int .i64 b.fin.els, .int .i64 b.fin.ins.op, .int .i64 b.fin.ins.a, .int .i64 b.fin.ins.b, .int .i64 b.fin.ins.c, .int .i64 b.fin.ins.imm] 46)) wr.heap.size 46 (blockCells (.slice A0 b.ops.length c0) b) := Row.new wr _ _
      go_upto_region 6 with fail
      have R5 := hR.below b5
      have own5 := ho.below b5
      have t5 := hbr.trans (b5.mono hbr.size)
      clear f0 f1 f2 f3 f4 f5 f6 f7 f8 f9 f10 f11
      obtain ⟨y0, y1, y2, y3, y4, y5, y6, y7, y8, y9, y10, y11⟩ := r5.block
      generalize wr.alloc (.cells #[.slice A0 b.ops.length c0, .int .i64 b.fin.kind, .int .i64 b.fin.op, .int .i64 b.fin.a, .int .i64 b.fin.b, .int .i64 b.fin.to, .int .i64 b.fin.els, .int .i64 b.fin.ins.op, .int .i64 b.fin.ins.a, .int .i64 b.fin.ins.b, .int .i64 b.fin.ins.c, .int .i64 b.fin.ins.imm] 46) = w5 at *
      clear b5
      by_cases h2 : b.fin.kind = 2
      · have z1 : (b.fin.kind == 2) = true := by simp [h2]
        have hat : atE l nm k b = putE l nm k b.fin.els ++ putE l nm k b.fin.to := by unfold atE; rw [if_pos h2]
        rw [hat, ← List.append_assoc] at HRS
        clear h2 hat
        have hGB : wr.heap.size < w5.heap.size := r5.lt
        have hne0 : wr.heap.size ≠ w0.heap.size := by have := hR.lt; omega
        have hneF : ¬ F wr.heap.size := fun h => by have := ho.lt _ h; omega
        go_wp2_with fail
        refine (put_calls l LA lc nm (k : Int) b.fin.els w0 _ v _ F (w.heap.size + 1) w.heap.size t5 hCL HW.out hl cL0 cG0 R5 own5 hF (by omega)).mono ?_
        rintro e w6 ⟨rfl, v6, F6, R6, own6, hF6, t6, hk6⟩
        have r6 := r5.keep (hk6 _ hGB hne0 hneF)
        clear y0 y1 y2 y3 y4 y5 y6 y7 y8 y9 y10 y11
        obtain ⟨y0, y1, y2, y3, y4, y5, y6, y7, y8, y9, y10, y11⟩ := r6.block
        have hl6 : (rawTo l nm bs k ++ putE l nm (k : Int) b.fin.els).length ≤ 100000 := by rw [List.length_append]; have := putE_len l nm (k : Int) b.fin.els; omega
        go_wp2_with fail
        refine (put_calls l LA lc nm (k : Int) b.fin.to w0 _ v6 _ F6 (w.heap.size + 1) w.heap.size t6 hCL HW.out hl cL0 cG0 R6 own6 hF6 hl6).mono ?_
        rintro e w7 ⟨rfl, v7, F7, R7, own7, hF7, t7, -⟩
        go_wp2_with fail
        exact ⟨⟨k + 1, v7, F7, by omega, by go_num, R7, by rw [HRS.out]; exact own7, hF7, t7⟩, by simp [intOf]; omega⟩
      · have z1 : (b.fin.kind == 2) = false := by simp [h2]
        by_cases h1 : b.fin.kind = 1
        · have z2 : (b.fin.kind == 1) = true := by simp [h1]
          have hat : atE l nm k b = putE l nm k b.fin.to := by unfold atE; rw [if_neg h2, if_pos h1]
          rw [hat] at HRS
          clear h2 h1 hat
          go_wp2_with fail
          refine (put_calls l LA lc nm (k : Int) b.fin.to w0 _ v _ F (w.heap.size + 1) w.heap.size t5 hCL HW.out hl cL0 cG0 R5 own5 hF (by omega)).mono ?_
          rintro e w6 ⟨rfl, v6, F6, R6, own6, hF6, t6, -⟩
          go_wp2_with fail
          exact ⟨⟨k + 1, v6, F6, by omega, by go_num, R6, by rw [HRS.out]; exact own6, hF6, t6⟩, by simp [intOf]; omega⟩
        · have z2 : (b.fin.kind == 1) = false := by simp [h1]
          have hat : atE l nm k b = [] := by unfold atE; rw [if_neg h2, if_neg h1]
          rw [hat, List.append_nil] at HRS
          clear h2 h1 hat
          go_wp2_with fail
          exact ⟨⟨k + 1, v, F, by omega, by go_num, R5, by rw [HRS.out]; exact own5, hF, t5⟩, by simp [intOf]; omega⟩
    · obtain rfl : k = bs.length := by omega
      have hrl := rawTo_len l nm bs bs.length
      obtain ⟨A5, c5, rfl, l5, m5, -⟩ := ho.read
      have y0 := hR.cell (j := 0) rfl
      obtain ⟨xs, hxs⟩ : ∃ xs, xs = rawTo l nm bs bs.length := ⟨_, rfl⟩
      rw [← hxs] at ho y0 hR l5 hrl
      have HXS := Lib.hid hxs
      clear hxs x3
      go_wp2_with fail
      refine (sortE_calls A5 c5 xs F _ ho (by omega)).mono ?_
      rintro e w6 ⟨rfl, own6, g6⟩
      have hOF : (Value.slice A5 xs.length c5).ownBlock ≠ some w0.heap.size := fun e => by have := hF _ (ho.row e); omega
      have R6 := hR.grown g6 hOF
      have t6 := hbr.grown g6 hbr.size (fun j hj => Nat.le_of_lt (hF j (ho.row hj)))
      have y6 := R6.cell (j := 0) rfl
      have hsl := sortE_len xs
      have hsl2 : (sortE xs).length ≤ 100000 := by omega
      have con := compactE_calls A5 c5 (sortE xs) F w6 (by rw [hsl]; exact own6) hsl2
      rw [hsl] at con
      have HSL := Lib.hid hsl
      clear y0 hsl
      go_wp2_with fail
      refine con.mono ?_
      rintro e w7 ⟨rfl, own7, g7⟩
      have t7 := t6.grown g7 t6.size (fun j hj => Nat.le_of_lt (hF j (own6.row hj)))
      go_wp2_with fail
      go_ret
      have hbb := b0.trans (t7.mono b0.size)
      refine ⟨_, F, rfl, ?_, fun b hb => by have := hF b hb; omega, hbb⟩
      unfold edgesD
      rw [← HXS.out, HSL.out]
      exact own7
end Go.Proofs.Ythnkikdbllkmkaa
