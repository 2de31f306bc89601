/- spliceref17.Ordered, of an order that has each block once. -/
import Derived.Test.YtokkngfgppikkabYq
namespace Go.Proofs.Ytokkngfgppikkab
set_option linter.unusedVariables false
set_option linter.unusedSimpArgs false
open Go.RowKit Go.Lib
attribute [local go_sem] run_store_float

theorem CellsN.belowAt {w w' : World} {A : Option Addr} {xs : List Nat} (h : CellsN w A xs) (hb : Below w.heap.size w w') : CellsN w' A xs := fun i x hx => by
  obtain ⟨g, e, hg, hc⟩ := h i x hx
  exact ⟨g, e, Nat.lt_of_lt_of_le hg hb.size, (Below.cell hb (World.lt_of_cell hc)).trans hc⟩
theorem count_nodup {l : List Nat} (h : l.Nodup) {j : Nat} (hj : j ∈ l) : l.count j = 1 := by
  induction l with
  | nil => cases hj
  | cons x r ih =>
    rw [List.nodup_cons] at h
    rw [List.count_cons]
    by_cases e : x = j
    · subst e
      rw [List.count_eq_zero_of_not_mem h.1]
      simp
    · rw [ih h.2 (by rcases List.mem_cons.1 hj with h | h; exact absurd h.symm e; exact h)]
      simp [e]
theorem count_take {l : List Nat} {k x : Nat} (h : l[k]? = some x) (j : Nat) : (l.take (k + 1)).count j = (l.take k).count j + (if x = j then 1 else 0) := by
  rw [take_snoc h, List.count_append, List.count_singleton]
  by_cases e : x = j
  · simp [e]
  · simp [e]
theorem count_take_le (l : List Nat) (k j : Nat) : (l.take k).count j ≤ l.length := by
  have h1 := List.count_le_length (a := j) (l := l.take k)
  simp at h1
  omega

def FC2 (b : Block) : List Value := finCells b.fin
set_option maxHeartbeats 4000000 in
set_option maxRecDepth 100000 in
theorem ordered_calls (nm : ByteArray) (kp lf : Bool) (A : Option Addr) (c : Nat) (bs : List Block) (OA : Option Addr) (oc : Nat) (order : List Nat) (w : World) (hC : kBlock.C w A bs) (hO : CellsN w OA order) (hl : bs.length ≤ 1000) (hol : order.length ≤ 1000) (h0 : order[0]? = some 0) (hlt : ∀ x ∈ order, x < bs.length) (hone : ∀ j, j < bs.length → order.count j = 1) (hld : Leads bs) :
    Calls Try.prog 15 #[.agg #[.string nm, .bool kp, .bool lf, .slice A bs.length c], .slice OA order.length oc] w fun e w' => e = .returned (.bool true) ∧ Below w.heap.size w w' := by
  have hlo : bs.length ≤ 9223372036854775807 := by omega
  have holo : order.length ≤ 9223372036854775807 := by omega
  have hop : 0 < order.length := (List.getElem?_eq_some_iff.1 h0).1
  have HLT := Lib.hid hlt
  have HONE := Lib.hid hone
  have HLD := Lib.hid hld
  have hb0 := below_alloc' w (.cells #[.string nm, .bool kp, .bool lf, .slice A bs.length c] 24)
  have r0 : Row (w.alloc (.cells #[.string nm, .bool kp, .bool lf, .slice A bs.length c] 24)) w.heap.size 24 (graphCells (.slice A bs.length c) ⟨nm, kp, lf, bs⟩) := Row.new w _ _
  have hO0 := hO.belowAt hb0
  obtain ⟨go, rfl, -, cz⟩ := hO0 0 0 h0
  have z1 : ¬ ((order.length : Int) = 0) := by omega
  have z1' : ¬ (order.length = 0) := by omega
  have z1b : ((order.length : Int) == 0) = false := beq_eq_false_iff_ne.2 (by omega)
  have z1c : (order.length == 0) = false := beq_eq_false_iff_ne.2 (by omega)
  clear hlt hone hld
  go_enter Try.func15, Try.ntmps15
  go_upto_region 1 with fail
  generalize w.alloc (.cells #[.string nm, .bool kp, .bool lf, .slice A bs.length c] 24) = w0 at *
  obtain ⟨x0, x1, x2, x3⟩ := r0.graph
  go_upto_region 3 with fail
  obtain ⟨w1, hm1, own1, hb1, hz1⟩ := make_N bs.length (by omega) w0
  have HZ1 := Lib.hid hz1
  have t1 := hb0.trans (hb1.mono hb0.size)
  have r1 := r0.below hb1
  have HR1 := Lib.hid r1
  have HO1 := Lib.hid own1
  have HOC := Lib.hid hO
  have hww : w.heap.size < w0.heap.size := r0.lt
  clear hz1 z1 z1' z1b z1c cz own1 hO0 hO r0 hb0 hb1
  go_upto_region 4 with fail
  clear x0 x1 x2 x3 hm1 r1
  generalize w0.heap.size = G at *
  go_wp2_with fail
  go_loopw [6] (fun i wr => ∃ (k : Nat) (has : List Nat), k ≤ order.length ∧ i = .int .i64 (k : Int) ∧ OwnF oN 3 wr (.slice (some ⟨G, 0, none⟩) bs.length bs.length) has (fun b => b = G) ∧ has.length = bs.length ∧ (∀ j, j < bs.length → has[j]? = some ((order.take k).count j)) ∧ Row wr w.heap.size 24 (graphCells (.slice A bs.length c) ⟨nm, kp, lf, bs⟩) ∧ Below w.heap.size w wr) (fun i _ => order.length - (intOf i).toNat)
  case atStart => exact ⟨0, _, Nat.zero_le _, rfl, HO1.out, by simp, fun j hj => by simp [hj], HR1.out, t1⟩
  case round =>
    obtain ⟨k, has, hk, rfl, ho, hhl, hh, hr, hbr⟩ := hrel
    obtain ⟨x0, x1, x2, x3⟩ := hr.graph
    by_cases hltk : k < order.length
    · obtain ⟨x, hx⟩ := get_some order k hltk
      have hxn := HLT.out x (List.mem_of_getElem? hx)
      obtain ⟨g', e', -, cx⟩ := (HOC.out.belowAt hbr) k x hx
      injection e' with e'
      injection e' with e'
      subst e'
      have hcx := hh x hxn
      have hcl := count_take_le order k x
      obtain ⟨o3, g3, z3f, -, y3, hy3, c3⟩ := ho.setN hhl hxn ((order.take k).count x + 1)
      rw [hcx] at hy3
      injection hy3 with hy3
      rw [← hy3] at c3
      have hct := fun j => count_take hx j
      have HCT := Lib.hid hct
      have HH := Lib.hid hh
      have HHL := Lib.hid hhl
      have HO := Lib.hid ho
      have HR := Lib.hid hr
      have hcx' := hcx
      have HCX := Lib.hid hcx
      generalize hcn : (order.take k).count x = cn at *
      have HCN := Lib.hid hcn
      have hxI : (x : Int) < (bs.length : Int) := by omega
      have hx0 : ¬ ((x : Int) < 0) := by omega
      have hltkI : (k : Int) < (order.length : Int) := by omega
      clear hx hh hhl hcx hcx' hct o3 g3 ho hr hy3 hcn
      go_wp2_with fail
      go_quiet (fail)
      go_wp2_with fail
      have ho' : OwnF oN 3 (wr.drewN nq) (.slice (some ⟨G, 0, none⟩) bs.length bs.length) has (fun b => b = G) := HO.out.keep (fun _ _ => rfl)
      obtain ⟨o4, g4, -⟩ := ho'.setN HHL.out hxn (cn + 1)
      have ec : ((cn + 1 : Nat) : Int) = (cn : Int) + 1 := by simp
      rw [ec] at o4 g4
      have hr' : Row (wr.drewN nq) w.heap.size 24 (graphCells (.slice A bs.length c) ⟨nm, kp, lf, bs⟩) := HR.out
      refine ⟨⟨k + 1, _, by omega, by go_num, o4, by rw [List.length_set]; exact HHL.out, fun j hj => ?_, hr'.grown g4 (fun e => by injection e with e; omega), (Below.drewN hbr nq).grown g4 hbr.size (fun q hq => by injection hq with hq; omega)⟩, by simp [intOf]; omega⟩
      rw [List.getElem?_set, HCT.out j]
      by_cases e : x = j
      · subst e
        rw [if_pos rfl, if_pos (by rw [HHL.out]; exact hxn), if_pos rfl, HCN.out]
      · rw [if_neg e, if_neg e]
        exact HH.out j hj
    · obtain rfl : k = order.length := by omega
      have hh1 : ∀ j, j < bs.length → has[j]? = some 1 := fun j hj => by rw [hh j hj, List.take_length, HONE.out j hj]
      have HH1 := Lib.hid hh1
      have HO := Lib.hid ho
      have HR := Lib.hid hr
      clear hh hh1 ho hr hltk hhl
      go_wp2_with fail
      clear x0 x1 x2 x3
      go_loopw [7] (fun i wr => ∃ k : Nat, k ≤ bs.length ∧ i = .int .i64 (k : Int) ∧ OwnF oN 3 wr (.slice (some ⟨G, 0, none⟩) bs.length bs.length) has (fun b => b = G) ∧ Row wr w.heap.size 24 (graphCells (.slice A bs.length c) ⟨nm, kp, lf, bs⟩) ∧ Below w.heap.size w wr) (fun i _ => bs.length - (intOf i).toNat)
      case atStart => exact ⟨0, Nat.zero_le _, rfl, HO.out, HR.out, hbr⟩
      case round =>
        obtain ⟨k, hk, rfl, ho, hr, hbr⟩ := hrel
        obtain ⟨x0, x1, x2, x3⟩ := hr.graph
        by_cases hltk : k < bs.length
        · obtain ⟨b, hb⟩ := get_some bs k hltk
          obtain ⟨hl1, hl2⟩ := HLD.out b (List.mem_of_getElem? hb)
          obtain ⟨ad, A0, c0, rfl, f0, f1, f2, f3, f4, f5, f6, f7, f8, f9, f10, f11, -⟩ := Block_at (Kd.C_mono hbr hC) hb
          have b5 := below_alloc' wr (.cells #[.int .i64 b.fin.kind, .int .i64 b.fin.op, .int .i64 b.fin.a, .int .i64 b.fin.b, .int .i64 b.fin.to, .int .i64 b.fin.els, .int .i64 b.fin.ins.op, .int .i64 b.fin.ins.a, .int .i64 b.fin.ins.b, .int .i64 b.fin.ins.c, .int .i64 b.fin.ins.imm] 37)
          have rt : Row (wr.alloc (.cells #[.int .i64 b.fin.kind, .int .i64 b.fin.op, .int .i64 b.fin.a, .int .i64 b.fin.b, .int .i64 b.fin.to, .int .i64 b.fin.els, .int .i64 b.fin.ins.op, .int .i64 b.fin.ins.a, .int .i64 b.fin.ins.b, .int .i64 b.fin.ins.c, .int .i64 b.fin.ins.imm] 37)) wr.heap.size 37 (finCells b.fin) := Row.new wr _ _
          have o5 := ho.below b5
          have r5 := hr.below b5
          have t5 := hbr.trans (b5.mono hbr.size)
          have hltkI : (k : Int) < (bs.length : Int) := by omega
          go_upto_region 14 with fail
          clear f0 f1 f2 f3 f4 f5 f6 f7 f8 f9 f10 f11 x0 x1 x2 x3
          generalize wr.alloc (.cells #[.int .i64 b.fin.kind, .int .i64 b.fin.op, .int .i64 b.fin.a, .int .i64 b.fin.b, .int .i64 b.fin.to, .int .i64 b.fin.els, .int .i64 b.fin.ins.op, .int .i64 b.fin.ins.a, .int .i64 b.fin.ins.b, .int .i64 b.fin.ins.c, .int .i64 b.fin.ins.imm] 37) = w5 at *
          have hk1 := o5.cellN (HH1.out k hltk)
          have y0 := rt.cell (j := 0) rfl
          have y4 := rt.cell (j := 4) rfl
          have y5 := rt.cell (j := 5) rfl
          have HO5 := Lib.hid o5
          have HR5 := Lib.hid r5
          by_cases h1 : b.fin.kind = 1
          · have q1 : (b.fin.kind == 1) = true := by simp [h1]
            have q2 : (b.fin.kind == 2) = false := by simp [h1]
            obtain ⟨e0, e1⟩ := hl1 (.inl h1)
            obtain ⟨nt, hnt⟩ := Int.eq_ofNat_of_zero_le e0
            have hntl : nt < bs.length := by omega
            have hntI : (nt : Int) < (bs.length : Int) := by omega
            have ct := o5.cellN (HH1.out nt hntl)
            rw [hnt] at y4
            clear h1 hl1 hl2 e0 e1 hnt rt o5 r5 ho hr
            go_wp2_with fail
            exact ⟨⟨k + 1, by omega, by go_num, HO5.out, HR5.out, t5⟩, by simp [intOf]; omega⟩
          · have q1 : (b.fin.kind == 1) = false := by simp [h1]
            by_cases h2 : b.fin.kind = 2
            · have q2 : (b.fin.kind == 2) = true := by simp [h2]
              obtain ⟨e0, e1⟩ := hl1 (.inr h2)
              obtain ⟨e2, e3⟩ := hl2 h2
              obtain ⟨nt, hnt⟩ := Int.eq_ofNat_of_zero_le e0
              obtain ⟨ne, hne⟩ := Int.eq_ofNat_of_zero_le e2
              have hntl : nt < bs.length := by omega
              have hnel : ne < bs.length := by omega
              have hntI : (nt : Int) < (bs.length : Int) := by omega
              have hneI : (ne : Int) < (bs.length : Int) := by omega
              have ct := o5.cellN (HH1.out nt hntl)
              have ce := o5.cellN (HH1.out ne hnel)
              rw [hnt] at y4
              rw [hne] at y5
              clear h1 h2 hl1 hl2 e0 e1 e2 e3 hnt hne rt o5 r5 ho hr
              go_wp2_with fail
              exact ⟨⟨k + 1, by omega, by go_num, HO5.out, HR5.out, t5⟩, by simp [intOf]; omega⟩
            · have q2 : (b.fin.kind == 2) = false := by simp [h2]
              clear h1 h2 hl1 hl2 rt o5 r5 ho hr
              go_wp2_with fail
              exact ⟨⟨k + 1, by omega, by go_num, HO5.out, HR5.out, t5⟩, by simp [intOf]; omega⟩
        · obtain rfl : k = bs.length := by omega
          clear ho hr
          go_wp2_with fail
          go_ret
          exact ⟨rfl, hbr⟩
end Go.Proofs.Ytokkngfgppikkab
