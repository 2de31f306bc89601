/- The laws of layer 23: InlineTwice returns true. -/
import Derived.Test.YtobhjjbhlnbcpaaDi
import Derived.Test.YtobhjjbhlnbcpaaCx
import Derived.Test.YtobhjjbhlnbcpaaPk
import Derived.IntWalk
namespace Go.Proofs.Ytobhjjbhlnbcpaa
set_option linter.unusedVariables false
set_option linter.unusedSimpArgs false
open Go.RowKit
attribute [local go_sem high] eqTerm_same eqOp_same

theorem tailsB_cases (b : Block) : (tailsB b = b ∧ ∀ o, b.ops[b.ops.length - 1]? = some o → ¬ (b.fin.kind = 3 ∧ b.fin.ins.op = 21 ∧ 0 ≤ calledI o)) ∨ (∃ o, 0 < b.ops.length ∧ tailsB b = ⟨b.ops.dropLast, tailTerm (calledI o)⟩) := by
  by_cases hn : b.ops.length = 0
  · refine .inl ⟨tailsB_nil hn, fun o ho => ?_⟩
    rw [List.eq_nil_of_length_eq_zero hn] at ho
    simp at ho
  · obtain ⟨o, ho⟩ := get_some b.ops (b.ops.length - 1) (by omega)
    have h := tailsB_at ho
    by_cases hc : b.fin.kind = 3 ∧ b.fin.ins.op = 21 ∧ 0 ≤ calledI o
    · rw [if_pos hc] at h
      exact .inr ⟨o, by omega, h⟩
    · rw [if_neg hc] at h
      refine .inl ⟨h, fun o' ho' => ?_⟩
      rw [ho] at ho'
      injection ho' with e
      subst e
      exact hc

set_option maxHeartbeats 8000000 in
set_option maxRecDepth 100000 in
theorem inlineTwice_law (w : World) (A : Option Addr) (c : Nat) (gs : List Graph) (hlc : gs.length ≤ c) (hcm : c ≤ maxLen) (hC : kGraph.C w A gs) : Calls Try.prog 6 #[.slice A gs.length c] w fun e w' => e = .returned (.bool true) ∧ Below w.heap.size w w' := by
  have hlm := Nat.le_trans hlc hcm
  have hlm' : gs.length ≤ 9223372036854775807 := hlm
  cases hr : gsFew gs 1000 with
  | false =>
    have HR := Lib.hid hr
    clear hr
    go_enter Try.func6, Try.ntmps6
    go_wp2_with fail
    refine (awake23_calls _).mono ?_
    rintro e w1 ⟨rfl, hb1⟩
    go_wp2_with fail
    refine (gsFew_calls _ _ _ _ _ (Kd.C_mono hb1 hC) hlm).mono ?_
    rw [HR.out]
    rintro e w2 ⟨rfl, hb2⟩
    go_wp2_with fail
    refine (awake23_calls _).mono ?_
    rintro e w3 ⟨rfl, hb3⟩
    go_wp2_with fail
    go_ret
    exact ⟨rfl, hb1.trans ((hb2.mono hb1.size).trans (hb3.mono (Nat.le_trans hb1.size hb2.size)))⟩
  | true =>
    have hok := gsOk_few hr
    have hparts := (gsFew_parts hr).2
    have h60 := hok.1
    have hright : ∀ g ∈ gs, blocksRight g.blocks gs.length 1000 = true := fun g hg => (hparts g hg).2
    have HR := Lib.hid hr
    have HOK := Lib.hid hok
    have HRI := Lib.hid hright
    clear hr hok hparts hright
    go_enter Try.func6, Try.ntmps6
    go_wp2_with fail
    refine (awake23_calls _).mono ?_
    rintro e w1 ⟨rfl, hb1⟩
    go_wp2_with fail
    refine (gsFew_calls _ _ _ _ _ (Kd.C_mono hb1 hC) hlm).mono ?_
    rw [HR.out]
    rintro e w2 ⟨rfl, hb2⟩
    have t2 := hb1.trans (hb2.mono hb1.size)
    go_wp2_with fail
    refine (tails_calls _ _ _ _ (Kd.C_mono t2 hC) HOK.out).mono ?_
    rintro e w4 ⟨A4_, c4, F4, rfl, own4, -, hb4⟩
    have t4 := t2.trans (hb4.mono t2.size)
    obtain ⟨AY, cY, eY, lY, mY, CY⟩ := own4.read
    have hny : (gs.map tailsG).length = gs.length := by simp
    rw [hny] at eY
    injection eY with e1 e2 e3
    subst e1 e3
    clear own4 e2 hny lY mY
    go_wp2_with fail
    go_loopw [4] (fun i wr => ∃ k : Nat, k ≤ gs.length ∧ i = .int .i64 k ∧ Below w.heap.size w wr ∧ Below w4.heap.size w4 wr) (fun i _ => gs.length - (intOf i).toNat)
    case atStart => exact ⟨0, Nat.zero_le _, rfl, t4, Below.refl _ _⟩
    case round =>
      obtain ⟨k, hk, rfl, hbr, hbr4⟩ := hrel
      by_cases hlt : k < gs.length
      · obtain ⟨g, hg⟩ := get_some gs k hlt
        have hgm := List.mem_of_getElem? hg
        have hpos := blocksRight_pos (HRI.out g hgm)
        obtain ⟨-, hfew300⟩ := blocksFew_parts (HOK.out.2 g hgm).1
        obtain ⟨ad, A0, c0, ead, f0, f1, f2, f3, -, l0, m0, g0⟩ := Graph_at hC hg
        subst ead
        have hgy : (gs.map tailsG)[k]? = some (tailsG g) := by simp [hg]
        obtain ⟨ay, Y0, cy, eay, y0, y1, y2, y3, -, ly, my, gy⟩ := Graph_at CY hgy
        subst eay
        have hey : tailsG g = ⟨g.name, g.keep, g.leaf, g.blocks.map (eachB tailsB g)⟩ := eachG_eq _ _
        rw [hey] at y0 y1 y2 y3 gy ly
        have hnb : (g.blocks.map (eachB tailsB g)).length = g.blocks.length := by simp
        rw [hnb] at y3 ly
        simp only at y0 y1 y2
        have hl0 := len_le l0 m0
        have hly := len_le ly my
        have HRG := Lib.hid (HRI.out g hgm)
        have H300 := Lib.hid hfew300
        have y1r := Sub.of_below hbr4 _ _ y1
        have y3r := Sub.of_below hbr4 _ _ y3
        rcases Bool.eq_false_or_eq_true g.keep with hke | hke
        · rw [hke] at y1r
          have hz1 : decide (0 < g.blocks.length) = true := by simp; omega
          clear hg hgm hgy hey hnb hke hfew300 f0 f1 f2 f3 y0 y1 y2 y3
          go_wp2_with fail
          go_loopw [5] (fun i wr' => i = .int .i64 0 ∧ wr' = wr) (fun i _ => 0)
          case atStart => exact ⟨rfl, rfl⟩
          case round =>
            obtain ⟨rfl, rfl⟩ := hrel
            go_wp2_with fail
            exact ⟨⟨k + 1, by omega, by go_num, hbr, hbr4⟩, by simp [intOf]; omega⟩
        · rw [hke] at y1
          have HKE := Lib.hid hke
          clear hg hgm hgy hey hnb hke hfew300 y1r y3r f0 f1 f2 y0 y2
          obtain ⟨wo, hwo⟩ : ∃ wo : World, wo = wr := ⟨_, rfl⟩
          subst hwo
          go_wp2_with fail
          go_loopw [5] (fun i wr => ∃ j : Nat, j ≤ g.blocks.length ∧ i = .int .i64 j ∧ Below w.heap.size w wr ∧ Below w4.heap.size w4 wr) (fun i _ => g.blocks.length - (intOf i).toNat)
          case atStart => exact ⟨0, Nat.zero_le _, rfl, hbr, hbr4⟩
          case round =>
            obtain ⟨j, hj, rfl, hbr, hbr4⟩ := hrel
            have y1r := Sub.of_below hbr4 _ _ y1
            have y3r := Sub.of_below hbr4 _ _ y3
            have f3r := Sub.of_below hbr _ _ f3
            by_cases hltj : j < g.blocks.length
            · obtain ⟨b, hb⟩ := get_some g.blocks j hltj
              have hbm := List.mem_of_getElem? hb
              have h300 := H300.out b hbm
              have hby : (g.blocks.map (eachB tailsB g))[j]? = some (tailsB b) := by
                rw [List.getElem?_map, hb]
                show some (eachB tailsB g b) = _
                unfold eachB
                rw [if_neg (by rw [HKE.out]; simp)]
              obtain ⟨ab, Ab, cb, rfl, i0, i1, i2, i3, i4, i5, i6, i7, i8, i9, i10, i11, -, lb, mb, gb⟩ := Block_at (Kd.C_sub (Sub.of_below hbr) g0) hb
              obtain ⟨ap, Ap, cp, rfl, p0, p1, p2, p3, p4, p5, p6, p7, p8, p9, p10, p11, -, lp, mp, gp⟩ := Block_at (Kd.C_sub (Sub.of_below hbr4) gy) hby
              have hlb := len_le lb mb
              have hrt : ∀ o ∈ b.ops, o.right gs.length 1000 = true := fun o h => blocksRight_ops HRG.out hbm h
              rcases tailsB_cases b with ⟨hsame, hnot⟩ | ⟨o, hpos2, htail⟩
              · rw [hsame] at p0 p1 p2 p3 p4 p5 p6 p7 p8 p9 p10 p11 lp gp
                have b2 := below_alloc' wr (.cells #[.slice Ap b.ops.length cp, .int .i64 b.fin.kind, .int .i64 b.fin.op, .int .i64 b.fin.a, .int .i64 b.fin.b, .int .i64 b.fin.to, .int .i64 b.fin.els, .int .i64 b.fin.ins.op, .int .i64 b.fin.ins.a, .int .i64 b.fin.ins.b, .int .i64 b.fin.ins.c, .int .i64 b.fin.ins.imm] 43)
                have r2 : Row (wr.alloc (.cells #[.slice Ap b.ops.length cp, .int .i64 b.fin.kind, .int .i64 b.fin.op, .int .i64 b.fin.a, .int .i64 b.fin.b, .int .i64 b.fin.to, .int .i64 b.fin.els, .int .i64 b.fin.ins.op, .int .i64 b.fin.ins.a, .int .i64 b.fin.ins.b, .int .i64 b.fin.ins.c, .int .i64 b.fin.ins.imm] 43)) wr.heap.size 43 (blockCells (.slice Ap b.ops.length cp) b) := Row.new wr _ _
                have HN := Lib.hid hnot
                have HRT := Lib.hid hrt
                have hlp := len_le lp mp
                clear hb hbm hby hsame hnot hrt
                go_upto_region 11 with fail
                generalize wr.alloc (.cells #[.slice Ap b.ops.length cp, .int .i64 b.fin.kind, .int .i64 b.fin.op, .int .i64 b.fin.a, .int .i64 b.fin.b, .int .i64 b.fin.to, .int .i64 b.fin.els, .int .i64 b.fin.ins.op, .int .i64 b.fin.ins.a, .int .i64 b.fin.ins.b, .int .i64 b.fin.ins.c, .int .i64 b.fin.ins.imm] 43) = W2 at *
                obtain ⟨x0, x1, x2, x3, x4, x5, x6, x7, x8, x9, x10, x11⟩ := r2.block
                have s := Sub.of_below b2
                have f3w := s _ _ f3r
                have q0 := s _ _ i0
                have q1 := s _ _ i1
                have q2 := s _ _ i2
                have q3 := s _ _ i3
                have q4 := s _ _ i4
                have q5 := s _ _ i5
                have q6 := s _ _ i6
                have q7 := s _ _ i7
                have q8 := s _ _ i8
                have q9 := s _ _ i9
                have q10 := s _ _ i10
                have q11 := s _ _ i11
                clear s i0 i1 i2 i3 i4 i5 i6 i7 i8 i9 i10 i11 p0 p1 p2 p3 p4 p5 p6 p7 p8 p9 p10 p11 f3r y1r y3r
                have gp2 := Kd.C_mono b2 gp
                have HGP := Lib.hid gp2
                have t2w := hbr.trans (b2.mono hbr.size)
                have t4w := hbr4.trans (b2.mono hbr4.size)
                clear gp2
                go_upto_region 13 with fail
                have v1 : decide ((b.ops.length : Int) < (b.ops.length : Int)) = false := by simp
                have v2 : IntKind.i64.wrap ((b.ops.length : Int) + 1) = (b.ops.length : Int) + 1 := IntWalk.i64_in _ (by omega)
                have v3 : decide ((b.ops.length : Int) + 1 < (b.ops.length : Int)) = false := by simp; omega
                go_quiet (fail)
                clear v1 v2 v3
                by_cases hn : b.ops.length = 0
                · have z1 : decide (0 < b.ops.length) = false := by simp [hn]
                  have z2 : decide ((0 : Int) < (b.ops.length : Int)) = false := by simp [hn]
                  clear hn
                  go_wp2_with fail
                  exact ⟨⟨j + 1, by omega, by go_num, Below.drewN t2w nq, Below.drewN t4w nq⟩, by simp [intOf]; omega⟩
                · have z1 : decide (0 < b.ops.length) = true := by simp; omega
                  have z2 : decide ((0 : Int) < (b.ops.length : Int)) = true := by simp; omega
                  obtain ⟨o, hoo⟩ := get_some b.ops (b.ops.length - 1) (by omega)
                  obtain ⟨hr1, hr2⟩ := right_call (HRT.out o (List.mem_of_getElem? hoo))
                  have hn1 : ((b.ops.length : Int) - 1) = ((b.ops.length - 1 : Nat) : Int) := by omega
                  have hnot := HN.out o hoo
                  obtain ⟨ao, rfl, e0, e1, e2, e3, e4, e5, e6, e7, e8, -⟩ := Op_at HGP.out hoo
                  by_cases h20 : o.ins.op = 20
                  · have k0 : (o.ins.op == 20) = true := by simp [h20]
                    obtain ⟨-, -, hcall, hto0, -⟩ := hr1 h20
                    by_cases h3 : b.fin.kind = 3
                    · have k1 : (b.fin.kind == 3) = true := by simp [h3]
                      have k2 : (b.fin.ins.op == 21) = false := by
                        rw [beq_eq_false_iff_ne]
                        intro h21
                        exact hnot ⟨h3, h21, by omega⟩
                      clear hn hnot hoo hr1 hr2 h20 hcall hto0 h3
                      go_wp2_with fail
                      exact ⟨⟨j + 1, by omega, by go_num, Below.drewN t2w nq, Below.drewN t4w nq⟩, by simp [intOf]; omega⟩
                    · have k1 : (b.fin.kind == 3) = false := by simp [h3]
                      clear hn hnot hoo hr1 hr2 h20 hcall hto0 h3
                      go_wp2_with fail
                      exact ⟨⟨j + 1, by omega, by go_num, Below.drewN t2w nq, Below.drewN t4w nq⟩, by simp [intOf]; omega⟩
                  · have k0 : (o.ins.op == 20) = false := by simp [h20]
                    clear hn hnot hoo hr1 hr2 h20
                    go_wp2_with fail
                    exact ⟨⟨j + 1, by omega, by go_num, Below.drewN t2w nq, Below.drewN t4w nq⟩, by simp [intOf]; omega⟩
              · rw [htail] at p0 p1 p2 p3 p4 p5 p6 p7 p8 p9 p10 p11
                obtain ⟨m, hm⟩ : ∃ m, m = b.ops.length - 1 := ⟨_, rfl⟩
                have hdl : b.ops.dropLast.length = m := by rw [List.length_dropLast, hm]
                generalize calledI o = f at *
                replace p0 : wr.cell? (ap.add (j * 12)) = some (.slice Ap m cp) := by rw [← hdl]; exact p0
                simp only [tailTerm, Ins.zero] at p1 p2 p3 p4 p5 p6 p7 p8 p9 p10 p11
                rw [htail] at lp
                replace lp : m ≤ cp := by rw [← hdl]; exact lp
                have hlp := len_le lp mp
                have b2 := below_alloc' wr (.cells #[.slice Ap m cp, .int .i64 4, .int .i64 0, .int .i64 0, .int .i64 0, .int .i64 f, .int .i64 0, .int .i64 0, .int .i64 0, .int .i64 0, .int .i64 0, .int .i64 0] 43)
                have r2 : Row (wr.alloc (.cells #[.slice Ap m cp, .int .i64 4, .int .i64 0, .int .i64 0, .int .i64 0, .int .i64 f, .int .i64 0, .int .i64 0, .int .i64 0, .int .i64 0, .int .i64 0, .int .i64 0] 43)) wr.heap.size 43 [.slice Ap m cp, .int .i64 4, .int .i64 0, .int .i64 0, .int .i64 0, .int .i64 f, .int .i64 0, .int .i64 0, .int .i64 0, .int .i64 0, .int .i64 0, .int .i64 0] := Row.new wr _ _
                have n1 : decide (b.ops.length < m) = false := by simp; omega
                have n2 : decide (m < b.ops.length) = true := by simp; omega
                have n3 : (m == b.ops.length) = false := by simp; omega
                have n4 : decide (m = b.ops.length) = false := by simp; omega
                have n5 : decide (m + 1 < b.ops.length) = false := by simp; omega
                have n6 : decide ((m : Int) + 1 < (b.ops.length : Int)) = false := by simp; omega
                have n7 : ((m : Int) == (b.ops.length : Int)) = false := by simp; omega
                have HM := Lib.hid hm
                clear hb hbm hby htail hrt hm hdl hpos2
                go_upto_region 11 with fail
                generalize wr.alloc (.cells #[.slice Ap m cp, .int .i64 4, .int .i64 0, .int .i64 0, .int .i64 0, .int .i64 f, .int .i64 0, .int .i64 0, .int .i64 0, .int .i64 0, .int .i64 0, .int .i64 0] 43) = W2 at *
                have x0 := r2.cell (j := 0) rfl
                have x1 := r2.cell (j := 1) rfl
                have s := Sub.of_below b2
                have f3w := s _ _ f3r
                have q0 := s _ _ i0
                clear s i0 i1 i2 i3 i4 i5 i6 i7 i8 i9 i10 i11 p0 p1 p2 p3 p4 p5 p6 p7 p8 p9 p10 p11 f3r y1r y3r
                have t2w := hbr.trans (b2.mono hbr.size)
                have t4w := hbr4.trans (b2.mono hbr4.size)
                go_upto_region 13 with fail
                have v2 : IntKind.i64.wrap ((m : Int) + 1) = (m : Int) + 1 := IntWalk.i64_in _ (by have := HM.out; omega)
                go_quiet (fail)
                clear v2
                go_wp2_with fail
                exact ⟨⟨j + 1, by omega, by go_num, Below.drewN t2w nq, Below.drewN t4w nq⟩, by simp [intOf]; omega⟩
            · obtain rfl : j = g.blocks.length := by omega
              go_wp2_with fail
              exact ⟨⟨k + 1, by omega, by go_num, hbr, hbr4⟩, by simp [intOf]; omega⟩
      · obtain rfl : k = gs.length := by omega
        go_wp2_with fail
        go_ret
        exact ⟨rfl, hbr⟩
end Go.Proofs.Ytobhjjbhlnbcpaa
