/- The laws of layer 23: InlineRight returns true. Printed in part by genDk.py of this repository. -/
import Derived.Test.YtobhjjbhlnbcpaaDj
import Derived.Test.YtobhjjbhlnbcpaaPl
namespace Go.Proofs.Ytobhjjbhlnbcpaa
set_option linter.unusedVariables false
set_option linter.unusedSimpArgs false
open Go.RowKit

theorem right_at (nm : ByteArray) (kp lf : Bool) (A : Option Addr) (c : Nat) (bs : List Block) (n : Nat) (funcs datas : Int) (w : World) (hC : kBlock.C w A bs) (hn : bs.length = n) (hl : n ≤ maxLen) : Calls Try.prog 20 #[.agg #[.string nm, .bool kp, .bool lf, .slice A n c], .int .i64 funcs, .int .i64 datas] w fun e w' => e = .returned (.bool (blocksRight bs funcs datas)) ∧ Below w.heap.size w w' := by
  subst hn
  exact right_calls nm kp lf A c bs funcs datas w hC hl
theorem calls_at (nm : ByteArray) (kp lf : Bool) (A : Option Addr) (c : Nat) (bs : List Block) (n : Nat) (y : Int) (w : World) (hC : kBlock.C w A bs) (hn : bs.length = n) (hl : n ≤ maxLen) : Calls Try.prog 23 #[.agg #[.string nm, .bool kp, .bool lf, .slice A n c], .int .i64 y] w fun e w' => e = .returned (.bool (callsB bs y)) ∧ Below w.heap.size w w' := by
  subst hn
  exact refCalls_calls nm kp lf A c bs y w hC hl
set_option maxHeartbeats 4000000 in
set_option maxRecDepth 100000 in
theorem lawTails_calls (nm : ByteArray) (kp lf : Bool) (A : Option Addr) (c : Nat) (bs : List Block) (y : Int) (w : World) (hC : kBlock.C w A bs) (hl : bs.length ≤ maxLen) : Calls Try.prog 24 #[.agg #[.string nm, .bool kp, .bool lf, .slice A bs.length c], .int .i64 y] w fun e w' => e = .returned (.bool (tailsTo bs y)) ∧ Below w.heap.size w w' := by
  unfold maxLen at hl
  have hb0 := below_alloc' w (.cells #[.string nm, .bool kp, .bool lf, .slice A bs.length c] 28)
  have r0 : Row (w.alloc (.cells #[.string nm, .bool kp, .bool lf, .slice A bs.length c] 28)) w.heap.size 28 [.string nm, .bool kp, .bool lf, .slice A bs.length c] := Row.new w _ _
  have hC1 := Kd.C_mono hb0 hC
  go_enter Try.func24, Try.ntmps24
  go_upto_region 1 with fail
  generalize w.alloc (.cells #[.string nm, .bool kp, .bool lf, .slice A bs.length c] 28) = W at *
  have x3 := r0.cell (j := 3) rfl
  go_wp2_with fail
  go_loopw [5] (fun i wr => ∃ k : Nat, k ≤ bs.length ∧ i = .int .i64 k ∧ (∀ b ∈ bs.take k, (b.fin.kind == 4 && b.fin.to == y) = false) ∧ wr = W) (fun i _ => bs.length - (intOf i).toNat)
  case atStart => exact ⟨0, Nat.zero_le _, rfl, by simp, rfl⟩
  case round =>
    obtain ⟨k, hk, rfl, hall, rfl⟩ := hrel
    by_cases hlt : k < bs.length
    · obtain ⟨b, hb⟩ := get_some bs k hlt
      have htk := take_snoc hb
      have hbm := List.mem_of_getElem? hb
      obtain ⟨ad, A0, c0, rfl, i0, i1, i2, i3, i4, i5, i6, i7, i8, i9, i10, i11, -⟩ := Block_at hC1 hb
      cases hc : (b.fin.kind == 4 && b.fin.to == y) with
      | true =>
        have ht : tailsTo bs y = true := by unfold tailsTo; rw [List.any_eq_true]; exact ⟨b, hbm, hc⟩
        rw [Bool.and_eq_true] at hc
        obtain ⟨h4, hy⟩ := hc
        have HT := Lib.hid ht
        clear hall htk hbm ht hb
        go_wp2_with fail
        go_ret
        exact ⟨ret_bool HT.out.symm, hb0⟩
      | false =>
        have hall' := forall_snoc hall htk hc
        have HALL := Lib.hid hall'
        clear hall hall' htk hbm hb
        rw [Bool.and_eq_false_iff] at hc
        by_cases h4 : b.fin.kind = 4
        · have hy : (b.fin.to == y) = false := by rcases hc with h | h; simp [h4] at h; exact h
          have z4 : (b.fin.kind == 4) = true := by simp [h4]
          clear hc h4
          go_wp2_with fail
          exact ⟨⟨k + 1, by omega, by go_num, HALL.out, by trivial⟩, by simp [intOf]; omega⟩
        · have z4 : (b.fin.kind == 4) = false := by simp [h4]
          clear hc h4
          go_wp2_with fail
          exact ⟨⟨k + 1, by omega, by go_num, HALL.out, by trivial⟩, by simp [intOf]; omega⟩
    · obtain rfl : k = bs.length := by omega
      rw [List.take_length] at hall
      have ht : tailsTo bs y = false := by unfold tailsTo; rw [List.any_eq_false]; intro b hb; rw [hall b hb]; simp
      have HT := Lib.hid ht
      clear hall ht
      go_wp2_with fail
      go_ret
      exact ⟨ret_bool HT.out.symm, hb0⟩

set_option maxHeartbeats 8000000 in
set_option maxRecDepth 100000 in
theorem inlineRight_law (w : World) (A : Option Addr) (c : Nat) (gs : List Graph) (hlc : gs.length ≤ c) (hcm : c ≤ maxLen) (hC : kGraph.C w A gs) : Calls Try.prog 4 #[.slice A gs.length c] w fun e w' => e = .returned (.bool true) ∧ Below w.heap.size w w' := by
  have hlm := Nat.le_trans hlc hcm
  have hlm' : gs.length ≤ 9223372036854775807 := hlm
  cases hr : gsFew gs 1000 with
  | false =>
    have HR := Lib.hid hr
    clear hr
    go_enter Try.func4, Try.ntmps4
    go_wp2_with fail
    refine (awake23_calls _).mono ?_
    rintro e w1 ⟨rfl, hb1⟩
    go_wp2_with fail
    refine (gsFew_calls _ _ _ _ _ (Kd.C_mono hb1 hC) hlm).mono ?_
    rw [HR.out]
    rintro e w2 ⟨rfl, hb2⟩
    go_wp2_with fail
    refine (awake23_calls _).mono ?_
    rintro e w3 ⟨rfl, hb3⟩
    go_wp2_with fail
    go_ret
    exact ⟨rfl, hb1.trans ((hb2.mono hb1.size).trans (hb3.mono (Nat.le_trans hb1.size hb2.size)))⟩
  | true =>
    have hok := gsOk_few hr
    have hparts := (gsFew_parts hr).2
    have h60 := hok.1
    have hright : ∀ g ∈ gs, blocksRight g.blocks gs.length 1000 = true := fun g hg => (hparts g hg).2
    have HR := Lib.hid hr
    have HOK := Lib.hid hok
    have HRI := Lib.hid hright
    clear hr hok hparts hright
    go_enter Try.func4, Try.ntmps4
    go_wp2_with fail
    refine (awake23_calls _).mono ?_
    rintro e w1 ⟨rfl, hb1⟩
    go_wp2_with fail
    refine (gsFew_calls _ _ _ _ _ (Kd.C_mono hb1 hC) hlm).mono ?_
    rw [HR.out]
    rintro e w2 ⟨rfl, hb2⟩
    have t2 := hb1.trans (hb2.mono hb1.size)
    go_wp2_with fail
    refine (leaves_calls _ _ _ _ (Kd.C_mono t2 hC) HOK.out).mono ?_
    rintro e w3 ⟨A3, c3, F3, rfl, own3, -, hb3⟩
    have t3 := t2.trans (hb3.mono t2.size)
    go_wp2_with fail
    refine (tails_calls _ _ _ _ (Kd.C_mono t3 hC) HOK.out).mono ?_
    rintro e w4 ⟨A4_, c4, F4, rfl, own4, -, hb4⟩
    have t4 := t3.trans (hb4.mono t3.size)
    have CX := own_gs_read (own3.below hb4)
    have CY := own_gs_read own4
    clear own3 own4
    go_wp2_with fail
    go_loopw [5] (fun i wr => ∃ k : Nat, k ≤ gs.length ∧ i = .int .i64 k ∧ Below w.heap.size w wr ∧ Below w4.heap.size w4 wr) (fun i _ => gs.length - (intOf i).toNat)
    case atStart => exact ⟨0, Nat.zero_le _, rfl, t4, Below.refl _ _⟩
    case round =>
      obtain ⟨k, hk, rfl, hbr, hbr4⟩ := hrel
      by_cases hlt : k < gs.length
      · obtain ⟨g, hg⟩ := get_some gs k hlt
        have hgm := List.mem_of_getElem? hg
        obtain ⟨ad, A0, c0, rfl, f0, f1, f2, f3, -, l0, m0, g0⟩ := Graph_at (Kd.C_mono hbr hC) hg
        have hgx : (gs.map (leavesG gs))[k]? = some (leavesG gs g) := by simp [hg]
        have hgy : (gs.map tailsG)[k]? = some (tailsG g) := by simp [hg]
        obtain ⟨ax, X0, cx, rfl, x0, x1, x2, x3, -, lx, mx, gx⟩ := Graph_at (Kd.C_mono hbr4 CX) hgx
        obtain ⟨ay, Y0, cy, rfl, y0, y1, y2, y3, -, ly, my, gy⟩ := Graph_at (Kd.C_mono hbr4 CY) hgy
        have hex : leavesG gs g = ⟨g.name, g.keep, g.leaf, g.blocks.map (eachB (leavesB gs) g)⟩ := eachG_eq _ _
        have hey : tailsG g = ⟨g.name, g.keep, g.leaf, g.blocks.map (eachB tailsB g)⟩ := eachG_eq _ _
        have hrx := leavesG_right HRI.out hgm
        have hry := tailsG_right rfl HOK.out HRI.out hgm
        have hcx : ∀ (q : Nat) (h : Graph), gs[q]? = some h → smallB h.blocks = true → h.keep = false → g.keep = false → tailsTo g.blocks q = false → callsB (g.blocks.map (eachB (leavesB gs) g)) q = false := fun q h h1 h2 h3 h4 h5 => by
          have := leaves_calls_none h1 h2 h3 h4 h5
          rw [hex] at this
          exact this
        rw [hex] at x0 x1 x2 x3 gx hrx lx
        rw [hey] at y0 y1 y2 y3 gy hry ly
        have hnx : (g.blocks.map (eachB (leavesB gs) g)).length = g.blocks.length := by simp
        have hny : (g.blocks.map (eachB tailsB g)).length = g.blocks.length := by simp
        rw [hnx] at x3 lx
        rw [hny] at y3 ly
        simp only at x0 x1 x2 y0 y1 y2
        have hl0 := len_le l0 m0
        have hlb := Nat.le_trans l0 m0
        have HX := Lib.hid hrx
        have HY := Lib.hid hry
        have HCX := Lib.hid hcx
        have HG := Lib.hid hg
        have GX := Kd.C_mono ((Below.refl wr.heap.size wr).drew) gx
        have GY := Kd.C_mono ((Below.refl wr.heap.size wr).drew) gy
        have G0 := Kd.C_mono ((Below.refl wr.heap.size wr).drew) g0
        rcases Bool.eq_false_or_eq_true g.keep with hke | hke
        · have e1 : g.blocks.map (eachB (leavesB gs) g) = g.blocks := by
            have : eachB (leavesB gs) g = id := by funext b; unfold eachB; rw [if_pos hke]; rfl
            rw [this, List.map_id]
          have e2 : g.blocks.map (eachB tailsB g) = g.blocks := by
            have : eachB tailsB g = id := by funext b; unfold eachB; rw [if_pos hke]; rfl
            rw [this, List.map_id]
          have GX2 := e1 ▸ GX
          have GY2 := e2 ▸ GY
          rw [hke] at f1 x1 y1
          have F0 : A4 wr (ax.add (k * 4)) g.name true g.leaf (.slice X0 g.blocks.length cx) ∧ A4 wr (ay.add (k * 4)) g.name true g.leaf (.slice Y0 g.blocks.length cy) ∧ A4 wr (ad.add (k * 4)) g.name true g.leaf (.slice A0 g.blocks.length c0) := ⟨⟨x0, x1, x2, x3⟩, ⟨y0, y1, y2, y3⟩, ⟨f0, f1, f2, f3⟩⟩
          clear hg hgm hgx hgy hex hey hrx hry hcx hnx hny hke e1 e2 f0 f2 f3 x0 x1 x2 x3 y0 y1 y2 y3 g0 gx gy
          go_upto_region 10 with fail
          refine wp_region_held_drew (S := (fun w' => (A4 w' (ax.add (k * 4)) g.name true g.leaf (.slice X0 g.blocks.length cx)) ∧ (A4 w' (ay.add (k * 4)) g.name true g.leaf (.slice Y0 g.blocks.length cy)) ∧ (A4 w' (ad.add (k * 4)) g.name true g.leaf (.slice A0 g.blocks.length c0)))) (by kernel_rfl) (F0) (fun hHeld => ?_)
          refine wpAnyH_take (i := 0) (oi := _) (v := ?v10n1_0) rfl (by kernel_rfl) (by kernel_rfl) (by kernel_rfl) (fun _ _ _ h => h) (Or.inl ⟨by rfl, ?hy10n1_0⟩) hHeld ?_
          case hy10n1_0 => (intro wS hSw; (try dsimp only at hSw); obtain ⟨⟨s0, s1, s2, s3⟩, ⟨q0, q1, q2, q3⟩, ⟨r0, r1, r2, r3⟩⟩ := hSw; go_simp; try with_reducible rfl)
          try simp only [List.getElem_toArray, List.getElem_cons_succ, List.getElem_cons_zero, Act.put, List.setIfInBounds_toArray, List.set_cons_zero, List.set_cons_succ]
          refine wpAnyH_take (i := 1) (oi := _) (v := ?v10n1_1) rfl (by kernel_rfl) (by kernel_rfl) (by kernel_rfl) (fun _ _ _ h => h) (Or.inl ⟨by rfl, ?hy10n1_1⟩) hHeld ?_
          case hy10n1_1 => (intro wS hSw; (try dsimp only at hSw); obtain ⟨⟨s0, s1, s2, s3⟩, ⟨q0, q1, q2, q3⟩, ⟨r0, r1, r2, r3⟩⟩ := hSw; go_simp; try with_reducible rfl)
          try simp only [List.getElem_toArray, List.getElem_cons_succ, List.getElem_cons_zero, Act.put, List.setIfInBounds_toArray, List.set_cons_zero, List.set_cons_succ]
          refine wpAnyH_take (i := 2) (oi := _) (v := ?v10n1_2) rfl (by kernel_rfl) (by kernel_rfl) (by kernel_rfl) (fun _ _ _ h => h) (Or.inl ⟨by rfl, ?hy10n1_2⟩) hHeld ?_
          case hy10n1_2 => (intro wS hSw; (try dsimp only at hSw); obtain ⟨⟨s0, s1, s2, s3⟩, ⟨q0, q1, q2, q3⟩, ⟨r0, r1, r2, r3⟩⟩ := hSw; go_simp; try with_reducible rfl)
          try simp only [List.getElem_toArray, List.getElem_cons_succ, List.getElem_cons_zero, Act.put, List.setIfInBounds_toArray, List.set_cons_zero, List.set_cons_succ]
          refine wpAnyH_take (i := 3) (oi := _) (v := ?v10n1_3) rfl (by kernel_rfl) (by kernel_rfl) (by kernel_rfl) (fun _ _ _ h => h) (Or.inl ⟨by rfl, ?hy10n1_3⟩) hHeld ?_
          case hy10n1_3 => (intro wS hSw; (try dsimp only at hSw); obtain ⟨⟨s0, s1, s2, s3⟩, ⟨q0, q1, q2, q3⟩, ⟨r0, r1, r2, r3⟩⟩ := hSw; go_simp; try with_reducible rfl)
          try simp only [List.getElem_toArray, List.getElem_cons_succ, List.getElem_cons_zero, Act.put, List.setIfInBounds_toArray, List.set_cons_zero, List.set_cons_succ]
          refine wpAnyH_take (i := 4) (oi := _) (v := ?v10n1_4) rfl (by kernel_rfl) (by kernel_rfl) (by kernel_rfl) (fun _ _ _ h => h) (Or.inl ⟨by rfl, ?hy10n1_4⟩) hHeld ?_
          case hy10n1_4 => (intro wS hSw; (try dsimp only at hSw); obtain ⟨⟨s0, s1, s2, s3⟩, ⟨q0, q1, q2, q3⟩, ⟨r0, r1, r2, r3⟩⟩ := hSw; go_simp; try with_reducible rfl)
          try simp only [List.getElem_toArray, List.getElem_cons_succ, List.getElem_cons_zero, Act.put, List.setIfInBounds_toArray, List.set_cons_zero, List.set_cons_succ]
          refine wpAnyH_take (i := 5) (oi := _) (v := ?v10n1_5) rfl (by kernel_rfl) (by kernel_rfl) (by kernel_rfl) (fun _ _ _ h => h) (Or.inl ⟨by rfl, ?hy10n1_5⟩) hHeld ?_
          case hy10n1_5 => (intro wS hSw; (try dsimp only at hSw); obtain ⟨⟨s0, s1, s2, s3⟩, ⟨q0, q1, q2, q3⟩, ⟨r0, r1, r2, r3⟩⟩ := hSw; go_simp; try with_reducible rfl)
          try simp only [List.getElem_toArray, List.getElem_cons_succ, List.getElem_cons_zero, Act.put, List.setIfInBounds_toArray, List.set_cons_zero, List.set_cons_succ]
          refine wpAnyH_ready (rs := [6]) (by kernel_rfl) (by simp) ?_
          refine AllReadyH.cons (o := _) rfl (fun K hK => ?_) AllReadyH.nil
          go_simp
          refine (right_at _ _ _ _ _ _ _ _ _ _ GX (by simp) hlb).mono ?_
          rw [HX.out]
          rintro e w6 ⟨rfl, hb6⟩
          go_wp2_with fail
          refine hK.out _ _ (⟨A4.below hb6 hHeld.1, A4.below hb6 hHeld.2.1, A4.below hb6 hHeld.2.2⟩) (fun hHeld6 => ?_)
          clear hK K hHeld
          try simp only [List.getElem_toArray, List.getElem_cons_succ, List.getElem_cons_zero, Act.put, List.setIfInBounds_toArray, List.set_cons_zero, List.set_cons_succ]
          refine wpAnyH_take (i := 7) (oi := _) (v := ?v10n1_7) rfl (by kernel_rfl) (by kernel_rfl) (by kernel_rfl) (fun _ _ _ h => h) (Or.inl ⟨by rfl, ?hy10n1_7⟩) hHeld6 ?_
          case hy10n1_7 => (intro wS hSw; (try dsimp only at hSw); obtain ⟨⟨s0, s1, s2, s3⟩, ⟨q0, q1, q2, q3⟩, ⟨r0, r1, r2, r3⟩⟩ := hSw; go_simp; try with_reducible rfl)
          try simp only [List.getElem_toArray, List.getElem_cons_succ, List.getElem_cons_zero, Act.put, List.setIfInBounds_toArray, List.set_cons_zero, List.set_cons_succ]
          refine wpAnyH_take (i := 8) (oi := _) (v := ?v10n1_8) rfl (by kernel_rfl) (by kernel_rfl) (by kernel_rfl) (fun _ _ _ h => h) (Or.inl ⟨by rfl, ?hy10n1_8⟩) hHeld6 ?_
          case hy10n1_8 => (intro wS hSw; (try dsimp only at hSw); obtain ⟨⟨s0, s1, s2, s3⟩, ⟨q0, q1, q2, q3⟩, ⟨r0, r1, r2, r3⟩⟩ := hSw; go_simp; try with_reducible rfl)
          try simp only [List.getElem_toArray, List.getElem_cons_succ, List.getElem_cons_zero, Act.put, List.setIfInBounds_toArray, List.set_cons_zero, List.set_cons_succ]
          refine wpAnyH_take (i := 9) (oi := _) (v := ?v10n1_9) rfl (by kernel_rfl) (by kernel_rfl) (by kernel_rfl) (fun _ _ _ h => h) (Or.inl ⟨by rfl, ?hy10n1_9⟩) hHeld6 ?_
          case hy10n1_9 => (intro wS hSw; (try dsimp only at hSw); obtain ⟨⟨s0, s1, s2, s3⟩, ⟨q0, q1, q2, q3⟩, ⟨r0, r1, r2, r3⟩⟩ := hSw; go_simp; try with_reducible rfl)
          try simp only [List.getElem_toArray, List.getElem_cons_succ, List.getElem_cons_zero, Act.put, List.setIfInBounds_toArray, List.set_cons_zero, List.set_cons_succ]
          refine wpAnyH_take (i := 10) (oi := _) (v := ?v10n1_10) rfl (by kernel_rfl) (by kernel_rfl) (by kernel_rfl) (fun _ _ _ h => h) (Or.inl ⟨by rfl, ?hy10n1_10⟩) hHeld6 ?_
          case hy10n1_10 => (intro wS hSw; (try dsimp only at hSw); obtain ⟨⟨s0, s1, s2, s3⟩, ⟨q0, q1, q2, q3⟩, ⟨r0, r1, r2, r3⟩⟩ := hSw; go_simp; try with_reducible rfl)
          try simp only [List.getElem_toArray, List.getElem_cons_succ, List.getElem_cons_zero, Act.put, List.setIfInBounds_toArray, List.set_cons_zero, List.set_cons_succ]
          refine wpAnyH_take (i := 11) (oi := _) (v := ?v10n1_11) rfl (by kernel_rfl) (by kernel_rfl) (by kernel_rfl) (fun _ _ _ h => h) (Or.inl ⟨by rfl, ?hy10n1_11⟩) hHeld6 ?_
          case hy10n1_11 => (intro wS hSw; (try dsimp only at hSw); obtain ⟨⟨s0, s1, s2, s3⟩, ⟨q0, q1, q2, q3⟩, ⟨r0, r1, r2, r3⟩⟩ := hSw; go_simp; try with_reducible rfl)
          try simp only [List.getElem_toArray, List.getElem_cons_succ, List.getElem_cons_zero, Act.put, List.setIfInBounds_toArray, List.set_cons_zero, List.set_cons_succ]
          refine wpAnyH_take (i := 12) (oi := _) (v := ?v10n1_12) rfl (by kernel_rfl) (by kernel_rfl) (by kernel_rfl) (fun _ _ _ h => h) (Or.inl ⟨by rfl, ?hy10n1_12⟩) hHeld6 ?_
          case hy10n1_12 => (intro wS hSw; (try dsimp only at hSw); obtain ⟨⟨s0, s1, s2, s3⟩, ⟨q0, q1, q2, q3⟩, ⟨r0, r1, r2, r3⟩⟩ := hSw; go_simp; try with_reducible rfl)
          try simp only [List.getElem_toArray, List.getElem_cons_succ, List.getElem_cons_zero, Act.put, List.setIfInBounds_toArray, List.set_cons_zero, List.set_cons_succ]
          refine wpAnyH_take (i := 13) (oi := _) (v := ?v10n1_13) rfl (by kernel_rfl) (by kernel_rfl) (by kernel_rfl) (fun _ _ _ h => h) (Or.inl ⟨by rfl, ?hy10n1_13⟩) hHeld6 ?_
          case hy10n1_13 => (intro wS hSw; (try dsimp only at hSw); obtain ⟨⟨s0, s1, s2, s3⟩, ⟨q0, q1, q2, q3⟩, ⟨r0, r1, r2, r3⟩⟩ := hSw; go_simp; try with_reducible rfl)
          try simp only [List.getElem_toArray, List.getElem_cons_succ, List.getElem_cons_zero, Act.put, List.setIfInBounds_toArray, List.set_cons_zero, List.set_cons_succ]
          refine wpAnyH_take (i := 14) (oi := _) (v := ?v10n1_14) rfl (by kernel_rfl) (by kernel_rfl) (by kernel_rfl) (fun _ _ _ h => h) (Or.inl ⟨by rfl, ?hy10n1_14⟩) hHeld6 ?_
          case hy10n1_14 => (intro wS hSw; (try dsimp only at hSw); obtain ⟨⟨s0, s1, s2, s3⟩, ⟨q0, q1, q2, q3⟩, ⟨r0, r1, r2, r3⟩⟩ := hSw; go_simp; try with_reducible rfl)
          try simp only [List.getElem_toArray, List.getElem_cons_succ, List.getElem_cons_zero, Act.put, List.setIfInBounds_toArray, List.set_cons_zero, List.set_cons_succ]
          refine wpAnyH_ready (rs := [15]) (by kernel_rfl) (by simp) ?_
          refine AllReadyH.cons (o := _) rfl (fun K hK => ?_) AllReadyH.nil
          go_simp
          refine (right_at _ _ _ _ _ _ _ _ _ _ (Kd.C_mono hb6 GY) (by simp) hlb).mono ?_
          rw [HY.out]
          rintro e w15 ⟨rfl, hb15⟩
          go_wp2_with fail
          refine hK.out _ _ (⟨A4.below hb15 hHeld6.1, A4.below hb15 hHeld6.2.1, A4.below hb15 hHeld6.2.2⟩) (fun hHeld15 => ?_)
          clear hK K hHeld6
          try simp only [List.getElem_toArray, List.getElem_cons_succ, List.getElem_cons_zero, Act.put, List.setIfInBounds_toArray, List.set_cons_zero, List.set_cons_succ]
          refine wpAnyH_take (i := 16) (oi := _) (v := ?v10n1_16) rfl (by kernel_rfl) (by kernel_rfl) (by kernel_rfl) (fun _ _ _ h => h) (Or.inl ⟨by rfl, ?hy10n1_16⟩) hHeld15 ?_
          case hy10n1_16 => (intro wS hSw; (try dsimp only at hSw); obtain ⟨⟨s0, s1, s2, s3⟩, ⟨q0, q1, q2, q3⟩, ⟨r0, r1, r2, r3⟩⟩ := hSw; go_simp; try with_reducible rfl)
          try simp only [List.getElem_toArray, List.getElem_cons_succ, List.getElem_cons_zero, Act.put, List.setIfInBounds_toArray, List.set_cons_zero, List.set_cons_succ]
          refine wpAnyH_take (i := 17) (oi := _) (v := ?v10n1_17) rfl (by kernel_rfl) (by kernel_rfl) (by kernel_rfl) (fun _ _ _ h => h) (Or.inl ⟨by rfl, ?hy10n1_17⟩) hHeld15 ?_
          case hy10n1_17 => (intro wS hSw; (try dsimp only at hSw); obtain ⟨⟨s0, s1, s2, s3⟩, ⟨q0, q1, q2, q3⟩, ⟨r0, r1, r2, r3⟩⟩ := hSw; go_simp; try with_reducible rfl)
          try simp only [List.getElem_toArray, List.getElem_cons_succ, List.getElem_cons_zero, Act.put, List.setIfInBounds_toArray, List.set_cons_zero, List.set_cons_succ]
          refine wpAnyH_take (i := 18) (oi := _) (v := ?v10n1_18) rfl (by kernel_rfl) (by kernel_rfl) (by kernel_rfl) (fun _ _ _ h => h) (Or.inl ⟨by rfl, ?hy10n1_18⟩) hHeld15 ?_
          case hy10n1_18 => (intro wS hSw; (try dsimp only at hSw); obtain ⟨⟨s0, s1, s2, s3⟩, ⟨q0, q1, q2, q3⟩, ⟨r0, r1, r2, r3⟩⟩ := hSw; go_simp; try with_reducible rfl)
          try simp only [List.getElem_toArray, List.getElem_cons_succ, List.getElem_cons_zero, Act.put, List.setIfInBounds_toArray, List.set_cons_zero, List.set_cons_succ]
          refine wpAnyH_take (i := 19) (oi := _) (v := ?v10n1_19) rfl (by kernel_rfl) (by kernel_rfl) (by kernel_rfl) (fun _ _ _ h => h) (Or.inl ⟨by rfl, ?hy10n1_19⟩) hHeld15 ?_
          case hy10n1_19 => (intro wS hSw; (try dsimp only at hSw); obtain ⟨⟨s0, s1, s2, s3⟩, ⟨q0, q1, q2, q3⟩, ⟨r0, r1, r2, r3⟩⟩ := hSw; go_simp; try with_reducible rfl)
          try simp only [List.getElem_toArray, List.getElem_cons_succ, List.getElem_cons_zero, Act.put, List.setIfInBounds_toArray, List.set_cons_zero, List.set_cons_succ]
          refine wpAnyH_take (i := 20) (oi := _) (v := ?v10n1_20) rfl (by kernel_rfl) (by kernel_rfl) (by kernel_rfl) (fun _ _ _ h => h) (Or.inl ⟨by rfl, ?hy10n1_20⟩) hHeld15 ?_
          case hy10n1_20 => (intro wS hSw; (try dsimp only at hSw); obtain ⟨⟨s0, s1, s2, s3⟩, ⟨q0, q1, q2, q3⟩, ⟨r0, r1, r2, r3⟩⟩ := hSw; go_simp; try with_reducible rfl)
          try simp only [List.getElem_toArray, List.getElem_cons_succ, List.getElem_cons_zero, Act.put, List.setIfInBounds_toArray, List.set_cons_zero, List.set_cons_succ]
          refine wpAnyH_take (i := 21) (oi := _) (v := ?v10n1_21) rfl (by kernel_rfl) (by kernel_rfl) (by kernel_rfl) (fun _ _ _ h => h) (Or.inl ⟨by rfl, ?hy10n1_21⟩) hHeld15 ?_
          case hy10n1_21 => (intro wS hSw; (try dsimp only at hSw); obtain ⟨⟨s0, s1, s2, s3⟩, ⟨q0, q1, q2, q3⟩, ⟨r0, r1, r2, r3⟩⟩ := hSw; go_simp; try with_reducible rfl)
          try simp only [List.getElem_toArray, List.getElem_cons_succ, List.getElem_cons_zero, Act.put, List.setIfInBounds_toArray, List.set_cons_zero, List.set_cons_succ]
          refine wpAnyH_take (i := 22) (oi := _) (v := ?v10n1_22) rfl (by kernel_rfl) (by kernel_rfl) (by kernel_rfl) (fun _ _ _ h => h) (Or.inl ⟨by rfl, ?hy10n1_22⟩) hHeld15 ?_
          case hy10n1_22 => (intro wS hSw; (try dsimp only at hSw); obtain ⟨⟨s0, s1, s2, s3⟩, ⟨q0, q1, q2, q3⟩, ⟨r0, r1, r2, r3⟩⟩ := hSw; go_simp; try with_reducible rfl)
          try simp only [List.getElem_toArray, List.getElem_cons_succ, List.getElem_cons_zero, Act.put, List.setIfInBounds_toArray, List.set_cons_zero, List.set_cons_succ]
          refine wpAnyH_take (i := 23) (oi := _) (v := ?v10n1_23) rfl (by kernel_rfl) (by kernel_rfl) (by kernel_rfl) (fun _ _ _ h => h) (Or.inl ⟨by rfl, ?hy10n1_23⟩) hHeld15 ?_
          case hy10n1_23 => (intro wS hSw; (try dsimp only at hSw); obtain ⟨⟨s0, s1, s2, s3⟩, ⟨q0, q1, q2, q3⟩, ⟨r0, r1, r2, r3⟩⟩ := hSw; go_simp; try with_reducible rfl)
          try simp only [List.getElem_toArray, List.getElem_cons_succ, List.getElem_cons_zero, Act.put, List.setIfInBounds_toArray, List.set_cons_zero, List.set_cons_succ]
          refine wpAnyH_take (i := 24) (oi := _) (v := ?v10n1_24) rfl (by kernel_rfl) (by kernel_rfl) (by kernel_rfl) (fun _ _ _ h => h) (Or.inl ⟨by rfl, ?hy10n1_24⟩) hHeld15 ?_
          case hy10n1_24 => (intro wS hSw; (try dsimp only at hSw); obtain ⟨⟨s0, s1, s2, s3⟩, ⟨q0, q1, q2, q3⟩, ⟨r0, r1, r2, r3⟩⟩ := hSw; go_simp; try with_reducible rfl)
          try simp only [List.getElem_toArray, List.getElem_cons_succ, List.getElem_cons_zero, Act.put, List.setIfInBounds_toArray, List.set_cons_zero, List.set_cons_succ]
          refine wpAnyH_take (i := 25) (oi := _) (v := ?v10n1_25) rfl (by kernel_rfl) (by kernel_rfl) (by kernel_rfl) (fun _ _ _ h => h) (Or.inl ⟨by rfl, ?hy10n1_25⟩) hHeld15 ?_
          case hy10n1_25 => (intro wS hSw; (try dsimp only at hSw); obtain ⟨⟨s0, s1, s2, s3⟩, ⟨q0, q1, q2, q3⟩, ⟨r0, r1, r2, r3⟩⟩ := hSw; go_simp; try with_reducible rfl)
          try simp only [List.getElem_toArray, List.getElem_cons_succ, List.getElem_cons_zero, Act.put, List.setIfInBounds_toArray, List.set_cons_zero, List.set_cons_succ]
          refine wpAnyH_take (i := 26) (oi := _) (v := ?v10n1_26) rfl (by kernel_rfl) (by kernel_rfl) (by kernel_rfl) (fun _ _ _ h => h) (Or.inl ⟨by rfl, ?hy10n1_26⟩) hHeld15 ?_
          case hy10n1_26 => (intro wS hSw; (try dsimp only at hSw); obtain ⟨⟨s0, s1, s2, s3⟩, ⟨q0, q1, q2, q3⟩, ⟨r0, r1, r2, r3⟩⟩ := hSw; go_simp; try with_reducible rfl)
          try simp only [List.getElem_toArray, List.getElem_cons_succ, List.getElem_cons_zero, Act.put, List.setIfInBounds_toArray, List.set_cons_zero, List.set_cons_succ]
          refine wpAnyH_take (i := 27) (oi := _) (v := ?v10n1_27) rfl (by kernel_rfl) (by kernel_rfl) (by kernel_rfl) (fun _ _ _ h => h) (Or.inl ⟨by rfl, ?hy10n1_27⟩) hHeld15 ?_
          case hy10n1_27 => (intro wS hSw; (try dsimp only at hSw); obtain ⟨⟨s0, s1, s2, s3⟩, ⟨q0, q1, q2, q3⟩, ⟨r0, r1, r2, r3⟩⟩ := hSw; go_simp; try with_reducible rfl)
          try simp only [List.getElem_toArray, List.getElem_cons_succ, List.getElem_cons_zero, Act.put, List.setIfInBounds_toArray, List.set_cons_zero, List.set_cons_succ]
          refine wpAnyH_take (i := 28) (oi := _) (v := ?v10n1_28) rfl (by kernel_rfl) (by kernel_rfl) (by kernel_rfl) (fun _ _ _ h => h) (Or.inl ⟨by rfl, ?hy10n1_28⟩) hHeld15 ?_
          case hy10n1_28 => (intro wS hSw; (try dsimp only at hSw); obtain ⟨⟨s0, s1, s2, s3⟩, ⟨q0, q1, q2, q3⟩, ⟨r0, r1, r2, r3⟩⟩ := hSw; go_simp; try with_reducible rfl)
          try simp only [List.getElem_toArray, List.getElem_cons_succ, List.getElem_cons_zero, Act.put, List.setIfInBounds_toArray, List.set_cons_zero, List.set_cons_succ]
          refine wpAnyH_take (i := 29) (oi := _) (v := ?v10n1_29) rfl (by kernel_rfl) (by kernel_rfl) (by kernel_rfl) (fun _ _ _ h => h) (Or.inl ⟨by rfl, ?hy10n1_29⟩) hHeld15 ?_
          case hy10n1_29 => (intro wS hSw; (try dsimp only at hSw); obtain ⟨⟨s0, s1, s2, s3⟩, ⟨q0, q1, q2, q3⟩, ⟨r0, r1, r2, r3⟩⟩ := hSw; go_simp; try with_reducible rfl)
          try simp only [List.getElem_toArray, List.getElem_cons_succ, List.getElem_cons_zero, Act.put, List.setIfInBounds_toArray, List.set_cons_zero, List.set_cons_succ]
          refine wpAnyH_take (i := 30) (oi := _) (v := ?v10n1_30) rfl (by kernel_rfl) (by kernel_rfl) (by kernel_rfl) (fun _ _ _ h => h) (Or.inl ⟨by rfl, ?hy10n1_30⟩) hHeld15 ?_
          case hy10n1_30 => (intro wS hSw; (try dsimp only at hSw); obtain ⟨⟨s0, s1, s2, s3⟩, ⟨q0, q1, q2, q3⟩, ⟨r0, r1, r2, r3⟩⟩ := hSw; go_simp; try with_reducible rfl)
          try simp only [List.getElem_toArray, List.getElem_cons_succ, List.getElem_cons_zero, Act.put, List.setIfInBounds_toArray, List.set_cons_zero, List.set_cons_succ]
          refine wpAnyH_take (i := 31) (oi := _) (v := ?v10n1_31) rfl (by kernel_rfl) (by kernel_rfl) (by kernel_rfl) (fun _ _ _ h => h) (Or.inl ⟨by rfl, ?hy10n1_31⟩) hHeld15 ?_
          case hy10n1_31 => (intro wS hSw; (try dsimp only at hSw); obtain ⟨⟨s0, s1, s2, s3⟩, ⟨q0, q1, q2, q3⟩, ⟨r0, r1, r2, r3⟩⟩ := hSw; go_simp; try with_reducible rfl)
          try simp only [List.getElem_toArray, List.getElem_cons_succ, List.getElem_cons_zero, Act.put, List.setIfInBounds_toArray, List.set_cons_zero, List.set_cons_succ]
          refine wpAnyH_take (i := 32) (oi := _) (v := ?v10n1_32) rfl (by kernel_rfl) (by kernel_rfl) (by kernel_rfl) (fun _ _ _ h => h) (Or.inl ⟨by rfl, ?hy10n1_32⟩) hHeld15 ?_
          case hy10n1_32 => (intro wS hSw; (try dsimp only at hSw); obtain ⟨⟨s0, s1, s2, s3⟩, ⟨q0, q1, q2, q3⟩, ⟨r0, r1, r2, r3⟩⟩ := hSw; go_simp; try with_reducible rfl)
          try simp only [List.getElem_toArray, List.getElem_cons_succ, List.getElem_cons_zero, Act.put, List.setIfInBounds_toArray, List.set_cons_zero, List.set_cons_succ]
          refine wpAnyH_take (i := 33) (oi := _) (v := ?v10n1_33) rfl (by kernel_rfl) (by kernel_rfl) (by kernel_rfl) (fun _ _ _ h => h) (Or.inl ⟨by rfl, ?hy10n1_33⟩) hHeld15 ?_
          case hy10n1_33 => (intro wS hSw; (try dsimp only at hSw); obtain ⟨⟨s0, s1, s2, s3⟩, ⟨q0, q1, q2, q3⟩, ⟨r0, r1, r2, r3⟩⟩ := hSw; go_simp; try with_reducible rfl)
          try simp only [List.getElem_toArray, List.getElem_cons_succ, List.getElem_cons_zero, Act.put, List.setIfInBounds_toArray, List.set_cons_zero, List.set_cons_succ]
          refine wpAnyH_take (i := 34) (oi := _) (v := ?v10n1_34) rfl (by kernel_rfl) (by kernel_rfl) (by kernel_rfl) (fun _ _ _ h => h) (Or.inl ⟨by rfl, ?hy10n1_34⟩) hHeld15 ?_
          case hy10n1_34 => (intro wS hSw; (try dsimp only at hSw); obtain ⟨⟨s0, s1, s2, s3⟩, ⟨q0, q1, q2, q3⟩, ⟨r0, r1, r2, r3⟩⟩ := hSw; go_simp; try with_reducible rfl)
          try simp only [List.getElem_toArray, List.getElem_cons_succ, List.getElem_cons_zero, Act.put, List.setIfInBounds_toArray, List.set_cons_zero, List.set_cons_succ]
          refine wpAnyH_take (i := 35) (oi := _) (v := ?v10n1_35) rfl (by kernel_rfl) (by kernel_rfl) (by kernel_rfl) (fun _ _ _ h => h) (Or.inl ⟨by rfl, ?hy10n1_35⟩) hHeld15 ?_
          case hy10n1_35 => (intro wS hSw; (try dsimp only at hSw); obtain ⟨⟨s0, s1, s2, s3⟩, ⟨q0, q1, q2, q3⟩, ⟨r0, r1, r2, r3⟩⟩ := hSw; go_simp; try with_reducible rfl)
          try simp only [List.getElem_toArray, List.getElem_cons_succ, List.getElem_cons_zero, Act.put, List.setIfInBounds_toArray, List.set_cons_zero, List.set_cons_succ]
          refine wpAnyH_take (i := 36) (oi := _) (v := ?v10n1_36) rfl (by kernel_rfl) (by kernel_rfl) (by kernel_rfl) (fun _ _ _ h => h) (Or.inl ⟨by rfl, ?hy10n1_36⟩) hHeld15 ?_
          case hy10n1_36 => (intro wS hSw; (try dsimp only at hSw); obtain ⟨⟨s0, s1, s2, s3⟩, ⟨q0, q1, q2, q3⟩, ⟨r0, r1, r2, r3⟩⟩ := hSw; go_simp; try with_reducible rfl)
          try simp only [List.getElem_toArray, List.getElem_cons_succ, List.getElem_cons_zero, Act.put, List.setIfInBounds_toArray, List.set_cons_zero, List.set_cons_succ]
          refine wpAnyH_take (i := 37) (oi := _) (v := ?v10n1_37) rfl (by kernel_rfl) (by kernel_rfl) (by kernel_rfl) (fun _ _ _ h => h) (Or.inl ⟨by rfl, ?hy10n1_37⟩) hHeld15 ?_
          case hy10n1_37 => (intro wS hSw; (try dsimp only at hSw); obtain ⟨⟨s0, s1, s2, s3⟩, ⟨q0, q1, q2, q3⟩, ⟨r0, r1, r2, r3⟩⟩ := hSw; go_simp; try with_reducible rfl)
          try simp only [List.getElem_toArray, List.getElem_cons_succ, List.getElem_cons_zero, Act.put, List.setIfInBounds_toArray, List.set_cons_zero, List.set_cons_succ]
          refine wpAnyH_take (i := 38) (oi := _) (v := ?v10n1_38) rfl (by kernel_rfl) (by kernel_rfl) (by kernel_rfl) (fun _ _ _ h => h) (Or.inl ⟨by rfl, ?hy10n1_38⟩) hHeld15 ?_
          case hy10n1_38 => (intro wS hSw; (try dsimp only at hSw); obtain ⟨⟨s0, s1, s2, s3⟩, ⟨q0, q1, q2, q3⟩, ⟨r0, r1, r2, r3⟩⟩ := hSw; go_simp; try with_reducible rfl)
          try simp only [List.getElem_toArray, List.getElem_cons_succ, List.getElem_cons_zero, Act.put, List.setIfInBounds_toArray, List.set_cons_zero, List.set_cons_succ]
          refine wpAnyH_take (i := 39) (oi := _) (v := ?v10n1_39) rfl (by kernel_rfl) (by kernel_rfl) (by kernel_rfl) (fun _ _ _ h => h) (Or.inl ⟨by rfl, ?hy10n1_39⟩) hHeld15 ?_
          case hy10n1_39 => (intro wS hSw; (try dsimp only at hSw); obtain ⟨⟨s0, s1, s2, s3⟩, ⟨q0, q1, q2, q3⟩, ⟨r0, r1, r2, r3⟩⟩ := hSw; go_simp; try with_reducible rfl)
          try simp only [List.getElem_toArray, List.getElem_cons_succ, List.getElem_cons_zero, Act.put, List.setIfInBounds_toArray, List.set_cons_zero, List.set_cons_succ]
          refine wpAnyH_take (i := 40) (oi := _) (v := ?v10n1_40) rfl (by kernel_rfl) (by kernel_rfl) (by kernel_rfl) (fun _ _ _ h => h) (Or.inl ⟨by rfl, ?hy10n1_40⟩) hHeld15 ?_
          case hy10n1_40 => (intro wS hSw; (try dsimp only at hSw); obtain ⟨⟨s0, s1, s2, s3⟩, ⟨q0, q1, q2, q3⟩, ⟨r0, r1, r2, r3⟩⟩ := hSw; go_simp; try with_reducible rfl)
          try simp only [List.getElem_toArray, List.getElem_cons_succ, List.getElem_cons_zero, Act.put, List.setIfInBounds_toArray, List.set_cons_zero, List.set_cons_succ]
          refine wpAnyH_take (i := 41) (oi := _) (v := ?v10n1_41) rfl (by kernel_rfl) (by kernel_rfl) (by kernel_rfl) (fun _ _ _ h => h) (Or.inl ⟨by rfl, ?hy10n1_41⟩) hHeld15 ?_
          case hy10n1_41 => (intro wS hSw; (try dsimp only at hSw); obtain ⟨⟨s0, s1, s2, s3⟩, ⟨q0, q1, q2, q3⟩, ⟨r0, r1, r2, r3⟩⟩ := hSw; go_simp; try with_reducible rfl)
          try simp only [List.getElem_toArray, List.getElem_cons_succ, List.getElem_cons_zero, Act.put, List.setIfInBounds_toArray, List.set_cons_zero, List.set_cons_succ]
          refine wpAnyH_take (i := 42) (oi := _) (v := ?v10n1_42) rfl (by kernel_rfl) (by kernel_rfl) (by kernel_rfl) (fun _ _ _ h => h) (Or.inl ⟨by rfl, ?hy10n1_42⟩) hHeld15 ?_
          case hy10n1_42 => (intro wS hSw; (try dsimp only at hSw); obtain ⟨⟨s0, s1, s2, s3⟩, ⟨q0, q1, q2, q3⟩, ⟨r0, r1, r2, r3⟩⟩ := hSw; go_simp; try with_reducible rfl)
          try simp only [List.getElem_toArray, List.getElem_cons_succ, List.getElem_cons_zero, Act.put, List.setIfInBounds_toArray, List.set_cons_zero, List.set_cons_succ]
          refine wpAnyH_take (i := 43) (oi := _) (v := ?v10n1_43) rfl (by kernel_rfl) (by kernel_rfl) (by kernel_rfl) (fun _ _ _ h => h) (Or.inl ⟨by rfl, ?hy10n1_43⟩) hHeld15 ?_
          case hy10n1_43 => (intro wS hSw; (try dsimp only at hSw); obtain ⟨⟨s0, s1, s2, s3⟩, ⟨q0, q1, q2, q3⟩, ⟨r0, r1, r2, r3⟩⟩ := hSw; go_simp; try with_reducible rfl)
          try simp only [List.getElem_toArray, List.getElem_cons_succ, List.getElem_cons_zero, Act.put, List.setIfInBounds_toArray, List.set_cons_zero, List.set_cons_succ]
          refine wpAnyH_take (i := 44) (oi := _) (v := ?v10n1_44) rfl (by kernel_rfl) (by kernel_rfl) (by kernel_rfl) (fun _ _ _ h => h) (Or.inl ⟨by rfl, ?hy10n1_44⟩) hHeld15 ?_
          case hy10n1_44 => (intro wS hSw; (try dsimp only at hSw); obtain ⟨⟨s0, s1, s2, s3⟩, ⟨q0, q1, q2, q3⟩, ⟨r0, r1, r2, r3⟩⟩ := hSw; go_simp; try with_reducible rfl)
          try simp only [List.getElem_toArray, List.getElem_cons_succ, List.getElem_cons_zero, Act.put, List.setIfInBounds_toArray, List.set_cons_zero, List.set_cons_succ]
          refine wpAnyH_take (i := 45) (oi := _) (v := ?v10n1_45) rfl (by kernel_rfl) (by kernel_rfl) (by kernel_rfl) (fun _ _ _ h => h) (Or.inl ⟨by rfl, ?hy10n1_45⟩) hHeld15 ?_
          case hy10n1_45 => (intro wS hSw; (try dsimp only at hSw); obtain ⟨⟨s0, s1, s2, s3⟩, ⟨q0, q1, q2, q3⟩, ⟨r0, r1, r2, r3⟩⟩ := hSw; go_simp; try with_reducible rfl)
          try simp only [List.getElem_toArray, List.getElem_cons_succ, List.getElem_cons_zero, Act.put, List.setIfInBounds_toArray, List.set_cons_zero, List.set_cons_succ]
          refine wpAnyH_take (i := 46) (oi := _) (v := ?v10n1_46) rfl (by kernel_rfl) (by kernel_rfl) (by kernel_rfl) (fun _ _ _ h => h) (Or.inl ⟨by rfl, ?hy10n1_46⟩) hHeld15 ?_
          case hy10n1_46 => (intro wS hSw; (try dsimp only at hSw); obtain ⟨⟨s0, s1, s2, s3⟩, ⟨q0, q1, q2, q3⟩, ⟨r0, r1, r2, r3⟩⟩ := hSw; go_simp; try with_reducible rfl)
          try simp only [List.getElem_toArray, List.getElem_cons_succ, List.getElem_cons_zero, Act.put, List.setIfInBounds_toArray, List.set_cons_zero, List.set_cons_succ]
          refine wpAnyH_take (i := 47) (oi := _) (v := ?v10n1_47) rfl (by kernel_rfl) (by kernel_rfl) (by kernel_rfl) (fun _ _ _ h => h) (Or.inl ⟨by rfl, ?hy10n1_47⟩) hHeld15 ?_
          case hy10n1_47 => (intro wS hSw; (try dsimp only at hSw); obtain ⟨⟨s0, s1, s2, s3⟩, ⟨q0, q1, q2, q3⟩, ⟨r0, r1, r2, r3⟩⟩ := hSw; go_simp; try with_reducible rfl)
          try simp only [List.getElem_toArray, List.getElem_cons_succ, List.getElem_cons_zero, Act.put, List.setIfInBounds_toArray, List.set_cons_zero, List.set_cons_succ]
          refine wpAnyH_ready (rs := [48]) (by kernel_rfl) (by simp) ?_
          refine AllReadyH.cons (o := _) rfl (fun K hK => ?_) AllReadyH.nil
          go_simp
          refine (same_calls _ _ _ _ _ _ _ _ _ (Kd.C_mono hb15 (Kd.C_mono hb6 GX2)) (Kd.C_mono hb15 (Kd.C_mono hb6 G0)) hlb).mono ?_
          rintro e w48 ⟨rfl, hb48⟩
          go_wp2_with fail
          refine hK.out _ _ (⟨A4.below hb48 hHeld15.1, A4.below hb48 hHeld15.2.1, A4.below hb48 hHeld15.2.2⟩) (fun hHeld48 => ?_)
          clear hK K hHeld15
          try simp only [List.getElem_toArray, List.getElem_cons_succ, List.getElem_cons_zero, Act.put, List.setIfInBounds_toArray, List.set_cons_zero, List.set_cons_succ]
          refine wpAnyH_take (i := 49) (oi := _) (v := ?v10n1_49) rfl (by kernel_rfl) (by kernel_rfl) (by kernel_rfl) (fun _ _ _ h => h) (Or.inl ⟨by rfl, ?hy10n1_49⟩) hHeld48 ?_
          case hy10n1_49 => (intro wS hSw; (try dsimp only at hSw); obtain ⟨⟨s0, s1, s2, s3⟩, ⟨q0, q1, q2, q3⟩, ⟨r0, r1, r2, r3⟩⟩ := hSw; go_simp; try with_reducible rfl)
          try simp only [List.getElem_toArray, List.getElem_cons_succ, List.getElem_cons_zero, Act.put, List.setIfInBounds_toArray, List.set_cons_zero, List.set_cons_succ]
          refine wpAnyH_take (i := 50) (oi := _) (v := ?v10n1_50) rfl (by kernel_rfl) (by kernel_rfl) (by kernel_rfl) (fun _ _ _ h => h) (Or.inl ⟨by rfl, ?hy10n1_50⟩) hHeld48 ?_
          case hy10n1_50 => (intro wS hSw; (try dsimp only at hSw); obtain ⟨⟨s0, s1, s2, s3⟩, ⟨q0, q1, q2, q3⟩, ⟨r0, r1, r2, r3⟩⟩ := hSw; go_simp; try with_reducible rfl)
          try simp only [List.getElem_toArray, List.getElem_cons_succ, List.getElem_cons_zero, Act.put, List.setIfInBounds_toArray, List.set_cons_zero, List.set_cons_succ]
          refine wpAnyH_take (i := 51) (oi := _) (v := ?v10n1_51) rfl (by kernel_rfl) (by kernel_rfl) (by kernel_rfl) (fun _ _ _ h => h) (Or.inl ⟨by rfl, ?hy10n1_51⟩) hHeld48 ?_
          case hy10n1_51 => (intro wS hSw; (try dsimp only at hSw); obtain ⟨⟨s0, s1, s2, s3⟩, ⟨q0, q1, q2, q3⟩, ⟨r0, r1, r2, r3⟩⟩ := hSw; go_simp; try with_reducible rfl)
          try simp only [List.getElem_toArray, List.getElem_cons_succ, List.getElem_cons_zero, Act.put, List.setIfInBounds_toArray, List.set_cons_zero, List.set_cons_succ]
          refine wpAnyH_take (i := 52) (oi := _) (v := ?v10n1_52) rfl (by kernel_rfl) (by kernel_rfl) (by kernel_rfl) (fun _ _ _ h => h) (Or.inl ⟨by rfl, ?hy10n1_52⟩) hHeld48 ?_
          case hy10n1_52 => (intro wS hSw; (try dsimp only at hSw); obtain ⟨⟨s0, s1, s2, s3⟩, ⟨q0, q1, q2, q3⟩, ⟨r0, r1, r2, r3⟩⟩ := hSw; go_simp; try with_reducible rfl)
          try simp only [List.getElem_toArray, List.getElem_cons_succ, List.getElem_cons_zero, Act.put, List.setIfInBounds_toArray, List.set_cons_zero, List.set_cons_succ]
          refine wpAnyH_take (i := 53) (oi := _) (v := ?v10n1_53) rfl (by kernel_rfl) (by kernel_rfl) (by kernel_rfl) (fun _ _ _ h => h) (Or.inl ⟨by rfl, ?hy10n1_53⟩) hHeld48 ?_
          case hy10n1_53 => (intro wS hSw; (try dsimp only at hSw); obtain ⟨⟨s0, s1, s2, s3⟩, ⟨q0, q1, q2, q3⟩, ⟨r0, r1, r2, r3⟩⟩ := hSw; go_simp; try with_reducible rfl)
          try simp only [List.getElem_toArray, List.getElem_cons_succ, List.getElem_cons_zero, Act.put, List.setIfInBounds_toArray, List.set_cons_zero, List.set_cons_succ]
          refine wpAnyH_take (i := 54) (oi := _) (v := ?v10n1_54) rfl (by kernel_rfl) (by kernel_rfl) (by kernel_rfl) (fun _ _ _ h => h) (Or.inl ⟨by rfl, ?hy10n1_54⟩) hHeld48 ?_
          case hy10n1_54 => (intro wS hSw; (try dsimp only at hSw); obtain ⟨⟨s0, s1, s2, s3⟩, ⟨q0, q1, q2, q3⟩, ⟨r0, r1, r2, r3⟩⟩ := hSw; go_simp; try with_reducible rfl)
          try simp only [List.getElem_toArray, List.getElem_cons_succ, List.getElem_cons_zero, Act.put, List.setIfInBounds_toArray, List.set_cons_zero, List.set_cons_succ]
          refine wpAnyH_take (i := 55) (oi := _) (v := ?v10n1_55) rfl (by kernel_rfl) (by kernel_rfl) (by kernel_rfl) (fun _ _ _ h => h) (Or.inl ⟨by rfl, ?hy10n1_55⟩) hHeld48 ?_
          case hy10n1_55 => (intro wS hSw; (try dsimp only at hSw); obtain ⟨⟨s0, s1, s2, s3⟩, ⟨q0, q1, q2, q3⟩, ⟨r0, r1, r2, r3⟩⟩ := hSw; go_simp; try with_reducible rfl)
          try simp only [List.getElem_toArray, List.getElem_cons_succ, List.getElem_cons_zero, Act.put, List.setIfInBounds_toArray, List.set_cons_zero, List.set_cons_succ]
          refine wpAnyH_take (i := 56) (oi := _) (v := ?v10n1_56) rfl (by kernel_rfl) (by kernel_rfl) (by kernel_rfl) (fun _ _ _ h => h) (Or.inl ⟨by rfl, ?hy10n1_56⟩) hHeld48 ?_
          case hy10n1_56 => (intro wS hSw; (try dsimp only at hSw); obtain ⟨⟨s0, s1, s2, s3⟩, ⟨q0, q1, q2, q3⟩, ⟨r0, r1, r2, r3⟩⟩ := hSw; go_simp; try with_reducible rfl)
          try simp only [List.getElem_toArray, List.getElem_cons_succ, List.getElem_cons_zero, Act.put, List.setIfInBounds_toArray, List.set_cons_zero, List.set_cons_succ]
          refine wpAnyH_take (i := 57) (oi := _) (v := ?v10n1_57) rfl (by kernel_rfl) (by kernel_rfl) (by kernel_rfl) (fun _ _ _ h => h) (Or.inl ⟨by rfl, ?hy10n1_57⟩) hHeld48 ?_
          case hy10n1_57 => (intro wS hSw; (try dsimp only at hSw); obtain ⟨⟨s0, s1, s2, s3⟩, ⟨q0, q1, q2, q3⟩, ⟨r0, r1, r2, r3⟩⟩ := hSw; go_simp; try with_reducible rfl)
          try simp only [List.getElem_toArray, List.getElem_cons_succ, List.getElem_cons_zero, Act.put, List.setIfInBounds_toArray, List.set_cons_zero, List.set_cons_succ]
          refine wpAnyH_take (i := 58) (oi := _) (v := ?v10n1_58) rfl (by kernel_rfl) (by kernel_rfl) (by kernel_rfl) (fun _ _ _ h => h) (Or.inl ⟨by rfl, ?hy10n1_58⟩) hHeld48 ?_
          case hy10n1_58 => (intro wS hSw; (try dsimp only at hSw); obtain ⟨⟨s0, s1, s2, s3⟩, ⟨q0, q1, q2, q3⟩, ⟨r0, r1, r2, r3⟩⟩ := hSw; go_simp; try with_reducible rfl)
          try simp only [List.getElem_toArray, List.getElem_cons_succ, List.getElem_cons_zero, Act.put, List.setIfInBounds_toArray, List.set_cons_zero, List.set_cons_succ]
          refine wpAnyH_ready (rs := [59]) (by kernel_rfl) (by simp) ?_
          refine AllReadyH.cons (o := _) rfl (fun K hK => ?_) AllReadyH.nil
          go_simp
          refine (same_calls _ _ _ _ _ _ _ _ _ (Kd.C_mono hb48 (Kd.C_mono hb15 (Kd.C_mono hb6 GY2))) (Kd.C_mono hb48 (Kd.C_mono hb15 (Kd.C_mono hb6 G0))) hlb).mono ?_
          rintro e w59 ⟨rfl, hb59⟩
          go_wp2_with fail
          refine hK.out _ _ (⟨A4.below hb59 hHeld48.1, A4.below hb59 hHeld48.2.1, A4.below hb59 hHeld48.2.2⟩) (fun hHeld59 => ?_)
          clear hK K hHeld48
          try simp only [List.getElem_toArray, List.getElem_cons_succ, List.getElem_cons_zero, Act.put, List.setIfInBounds_toArray, List.set_cons_zero, List.set_cons_succ]
          refine wpAnyH_take (i := 60) (oi := _) (v := ?v10n1_60) rfl (by kernel_rfl) (by kernel_rfl) (by kernel_rfl) (fun _ _ _ h => h) (Or.inl ⟨by rfl, ?hy10n1_60⟩) hHeld59 ?_
          case hy10n1_60 => (intro wS hSw; (try dsimp only at hSw); obtain ⟨⟨s0, s1, s2, s3⟩, ⟨q0, q1, q2, q3⟩, ⟨r0, r1, r2, r3⟩⟩ := hSw; go_simp; try with_reducible rfl)
          try simp only [List.getElem_toArray, List.getElem_cons_succ, List.getElem_cons_zero, Act.put, List.setIfInBounds_toArray, List.set_cons_zero, List.set_cons_succ]
          refine wpAnyH_take (i := 61) (oi := _) (v := ?v10n1_61) rfl (by kernel_rfl) (by kernel_rfl) (by kernel_rfl) (fun _ _ _ h => h) (Or.inl ⟨by rfl, ?hy10n1_61⟩) hHeld59 ?_
          case hy10n1_61 => (intro wS hSw; (try dsimp only at hSw); obtain ⟨⟨s0, s1, s2, s3⟩, ⟨q0, q1, q2, q3⟩, ⟨r0, r1, r2, r3⟩⟩ := hSw; go_simp; try with_reducible rfl)
          try simp only [List.getElem_toArray, List.getElem_cons_succ, List.getElem_cons_zero, Act.put, List.setIfInBounds_toArray, List.set_cons_zero, List.set_cons_succ]
          refine wpAnyH_take (i := 62) (oi := _) (v := ?v10n1_62) rfl (by kernel_rfl) (by kernel_rfl) (by kernel_rfl) (fun _ _ _ h => h) (Or.inl ⟨by rfl, ?hy10n1_62⟩) hHeld59 ?_
          case hy10n1_62 => (intro wS hSw; (try dsimp only at hSw); obtain ⟨⟨s0, s1, s2, s3⟩, ⟨q0, q1, q2, q3⟩, ⟨r0, r1, r2, r3⟩⟩ := hSw; go_simp; try with_reducible rfl)
          try simp only [List.getElem_toArray, List.getElem_cons_succ, List.getElem_cons_zero, Act.put, List.setIfInBounds_toArray, List.set_cons_zero, List.set_cons_succ]
          refine wpAnyH_take (i := 63) (oi := _) (v := ?v10n1_63) rfl (by kernel_rfl) (by kernel_rfl) (by kernel_rfl) (fun _ _ _ h => h) (Or.inl ⟨by rfl, ?hy10n1_63⟩) hHeld59 ?_
          case hy10n1_63 => (intro wS hSw; (try dsimp only at hSw); obtain ⟨⟨s0, s1, s2, s3⟩, ⟨q0, q1, q2, q3⟩, ⟨r0, r1, r2, r3⟩⟩ := hSw; go_simp; try with_reducible rfl)
          try simp only [List.getElem_toArray, List.getElem_cons_succ, List.getElem_cons_zero, Act.put, List.setIfInBounds_toArray, List.set_cons_zero, List.set_cons_succ]
          refine wpAnyH_done (by kernel_rfl) ?_ _
          have u6 := (Below.refl wr.heap.size wr).drew.trans hb6
          have u15 := u6.trans (hb15.mono u6.size)
          have u48 := u15.trans (hb48.mono u15.size)
          have u59 := u48.trans (hb59.mono u48.size)
          have tb := hbr.trans (u59.mono hbr.size)
          have tb4 := hbr4.trans (u59.mono hbr4.size)
          have f1' := (u59.cell (World.lt_of_cell f1)).trans f1
          clear f1
          go_wp2_with fail
          go_loopw [6] (fun i wr => i = .int .i64 0 ∧ wr = w59) (fun i _ => 0)
          case atStart => exact ⟨rfl, rfl⟩
          case round =>
            obtain ⟨rfl, rfl⟩ := hrel
            have hz1 : decide (0 < gs.length) = true := by simp; omega
            go_wp2_with fail
            exact ⟨⟨k + 1, by omega, by go_num, tb, tb4⟩, by simp [intOf]; omega⟩
        · rw [hke] at f1 x1 y1
          have HKE := Lib.hid hke
          have F0 : A4 wr (ax.add (k * 4)) g.name false g.leaf (.slice X0 g.blocks.length cx) ∧ A4 wr (ay.add (k * 4)) g.name false g.leaf (.slice Y0 g.blocks.length cy) ∧ A4 wr (ad.add (k * 4)) g.name false g.leaf (.slice A0 g.blocks.length c0) := ⟨⟨x0, x1, x2, x3⟩, ⟨y0, y1, y2, y3⟩, ⟨f0, f1, f2, f3⟩⟩
          have FX : A4 wr (ax.add (k * 4)) g.name false g.leaf (.slice X0 g.blocks.length cx) := F0.1
          have FA : A4 wr (ad.add (k * 4)) g.name false g.leaf (.slice A0 g.blocks.length c0) := F0.2.2
          clear hg hgm hgx hgy hex hey hrx hry hcx hnx hny hke f0 f1 f2 f3 x0 x1 x2 x3 y0 y1 y2 y3
          go_upto_region 10 with fail
          refine wp_region_held_drew (S := (fun w' => (A4 w' (ax.add (k * 4)) g.name false g.leaf (.slice X0 g.blocks.length cx)) ∧ (A4 w' (ay.add (k * 4)) g.name false g.leaf (.slice Y0 g.blocks.length cy)) ∧ (A4 w' (ad.add (k * 4)) g.name false g.leaf (.slice A0 g.blocks.length c0)))) (by kernel_rfl) (F0) (fun hHeld => ?_)
          refine wpAnyH_take (i := 0) (oi := _) (v := ?v10n2_0) rfl (by kernel_rfl) (by kernel_rfl) (by kernel_rfl) (fun _ _ _ h => h) (Or.inl ⟨by rfl, ?hy10n2_0⟩) hHeld ?_
          case hy10n2_0 => (intro wS hSw; (try dsimp only at hSw); obtain ⟨⟨s0, s1, s2, s3⟩, ⟨q0, q1, q2, q3⟩, ⟨r0, r1, r2, r3⟩⟩ := hSw; go_simp; try with_reducible rfl)
          try simp only [List.getElem_toArray, List.getElem_cons_succ, List.getElem_cons_zero, Act.put, List.setIfInBounds_toArray, List.set_cons_zero, List.set_cons_succ]
          refine wpAnyH_take (i := 1) (oi := _) (v := ?v10n2_1) rfl (by kernel_rfl) (by kernel_rfl) (by kernel_rfl) (fun _ _ _ h => h) (Or.inl ⟨by rfl, ?hy10n2_1⟩) hHeld ?_
          case hy10n2_1 => (intro wS hSw; (try dsimp only at hSw); obtain ⟨⟨s0, s1, s2, s3⟩, ⟨q0, q1, q2, q3⟩, ⟨r0, r1, r2, r3⟩⟩ := hSw; go_simp; try with_reducible rfl)
          try simp only [List.getElem_toArray, List.getElem_cons_succ, List.getElem_cons_zero, Act.put, List.setIfInBounds_toArray, List.set_cons_zero, List.set_cons_succ]
          refine wpAnyH_take (i := 2) (oi := _) (v := ?v10n2_2) rfl (by kernel_rfl) (by kernel_rfl) (by kernel_rfl) (fun _ _ _ h => h) (Or.inl ⟨by rfl, ?hy10n2_2⟩) hHeld ?_
          case hy10n2_2 => (intro wS hSw; (try dsimp only at hSw); obtain ⟨⟨s0, s1, s2, s3⟩, ⟨q0, q1, q2, q3⟩, ⟨r0, r1, r2, r3⟩⟩ := hSw; go_simp; try with_reducible rfl)
          try simp only [List.getElem_toArray, List.getElem_cons_succ, List.getElem_cons_zero, Act.put, List.setIfInBounds_toArray, List.set_cons_zero, List.set_cons_succ]
          refine wpAnyH_take (i := 3) (oi := _) (v := ?v10n2_3) rfl (by kernel_rfl) (by kernel_rfl) (by kernel_rfl) (fun _ _ _ h => h) (Or.inl ⟨by rfl, ?hy10n2_3⟩) hHeld ?_
          case hy10n2_3 => (intro wS hSw; (try dsimp only at hSw); obtain ⟨⟨s0, s1, s2, s3⟩, ⟨q0, q1, q2, q3⟩, ⟨r0, r1, r2, r3⟩⟩ := hSw; go_simp; try with_reducible rfl)
          try simp only [List.getElem_toArray, List.getElem_cons_succ, List.getElem_cons_zero, Act.put, List.setIfInBounds_toArray, List.set_cons_zero, List.set_cons_succ]
          refine wpAnyH_take (i := 4) (oi := _) (v := ?v10n2_4) rfl (by kernel_rfl) (by kernel_rfl) (by kernel_rfl) (fun _ _ _ h => h) (Or.inl ⟨by rfl, ?hy10n2_4⟩) hHeld ?_
          case hy10n2_4 => (intro wS hSw; (try dsimp only at hSw); obtain ⟨⟨s0, s1, s2, s3⟩, ⟨q0, q1, q2, q3⟩, ⟨r0, r1, r2, r3⟩⟩ := hSw; go_simp; try with_reducible rfl)
          try simp only [List.getElem_toArray, List.getElem_cons_succ, List.getElem_cons_zero, Act.put, List.setIfInBounds_toArray, List.set_cons_zero, List.set_cons_succ]
          refine wpAnyH_take (i := 5) (oi := _) (v := ?v10n2_5) rfl (by kernel_rfl) (by kernel_rfl) (by kernel_rfl) (fun _ _ _ h => h) (Or.inl ⟨by rfl, ?hy10n2_5⟩) hHeld ?_
          case hy10n2_5 => (intro wS hSw; (try dsimp only at hSw); obtain ⟨⟨s0, s1, s2, s3⟩, ⟨q0, q1, q2, q3⟩, ⟨r0, r1, r2, r3⟩⟩ := hSw; go_simp; try with_reducible rfl)
          try simp only [List.getElem_toArray, List.getElem_cons_succ, List.getElem_cons_zero, Act.put, List.setIfInBounds_toArray, List.set_cons_zero, List.set_cons_succ]
          refine wpAnyH_ready (rs := [6]) (by kernel_rfl) (by simp) ?_
          refine AllReadyH.cons (o := _) rfl (fun K hK => ?_) AllReadyH.nil
          go_simp
          refine (right_at _ _ _ _ _ _ _ _ _ _ GX (by simp) hlb).mono ?_
          rw [HX.out]
          rintro e w6 ⟨rfl, hb6⟩
          go_wp2_with fail
          refine hK.out _ _ (⟨A4.below hb6 hHeld.1, A4.below hb6 hHeld.2.1, A4.below hb6 hHeld.2.2⟩) (fun hHeld6 => ?_)
          clear hK K hHeld
          try simp only [List.getElem_toArray, List.getElem_cons_succ, List.getElem_cons_zero, Act.put, List.setIfInBounds_toArray, List.set_cons_zero, List.set_cons_succ]
          refine wpAnyH_take (i := 7) (oi := _) (v := ?v10n2_7) rfl (by kernel_rfl) (by kernel_rfl) (by kernel_rfl) (fun _ _ _ h => h) (Or.inl ⟨by rfl, ?hy10n2_7⟩) hHeld6 ?_
          case hy10n2_7 => (intro wS hSw; (try dsimp only at hSw); obtain ⟨⟨s0, s1, s2, s3⟩, ⟨q0, q1, q2, q3⟩, ⟨r0, r1, r2, r3⟩⟩ := hSw; go_simp; try with_reducible rfl)
          try simp only [List.getElem_toArray, List.getElem_cons_succ, List.getElem_cons_zero, Act.put, List.setIfInBounds_toArray, List.set_cons_zero, List.set_cons_succ]
          refine wpAnyH_take (i := 8) (oi := _) (v := ?v10n2_8) rfl (by kernel_rfl) (by kernel_rfl) (by kernel_rfl) (fun _ _ _ h => h) (Or.inl ⟨by rfl, ?hy10n2_8⟩) hHeld6 ?_
          case hy10n2_8 => (intro wS hSw; (try dsimp only at hSw); obtain ⟨⟨s0, s1, s2, s3⟩, ⟨q0, q1, q2, q3⟩, ⟨r0, r1, r2, r3⟩⟩ := hSw; go_simp; try with_reducible rfl)
          try simp only [List.getElem_toArray, List.getElem_cons_succ, List.getElem_cons_zero, Act.put, List.setIfInBounds_toArray, List.set_cons_zero, List.set_cons_succ]
          refine wpAnyH_take (i := 9) (oi := _) (v := ?v10n2_9) rfl (by kernel_rfl) (by kernel_rfl) (by kernel_rfl) (fun _ _ _ h => h) (Or.inl ⟨by rfl, ?hy10n2_9⟩) hHeld6 ?_
          case hy10n2_9 => (intro wS hSw; (try dsimp only at hSw); obtain ⟨⟨s0, s1, s2, s3⟩, ⟨q0, q1, q2, q3⟩, ⟨r0, r1, r2, r3⟩⟩ := hSw; go_simp; try with_reducible rfl)
          try simp only [List.getElem_toArray, List.getElem_cons_succ, List.getElem_cons_zero, Act.put, List.setIfInBounds_toArray, List.set_cons_zero, List.set_cons_succ]
          refine wpAnyH_take (i := 10) (oi := _) (v := ?v10n2_10) rfl (by kernel_rfl) (by kernel_rfl) (by kernel_rfl) (fun _ _ _ h => h) (Or.inl ⟨by rfl, ?hy10n2_10⟩) hHeld6 ?_
          case hy10n2_10 => (intro wS hSw; (try dsimp only at hSw); obtain ⟨⟨s0, s1, s2, s3⟩, ⟨q0, q1, q2, q3⟩, ⟨r0, r1, r2, r3⟩⟩ := hSw; go_simp; try with_reducible rfl)
          try simp only [List.getElem_toArray, List.getElem_cons_succ, List.getElem_cons_zero, Act.put, List.setIfInBounds_toArray, List.set_cons_zero, List.set_cons_succ]
          refine wpAnyH_take (i := 11) (oi := _) (v := ?v10n2_11) rfl (by kernel_rfl) (by kernel_rfl) (by kernel_rfl) (fun _ _ _ h => h) (Or.inl ⟨by rfl, ?hy10n2_11⟩) hHeld6 ?_
          case hy10n2_11 => (intro wS hSw; (try dsimp only at hSw); obtain ⟨⟨s0, s1, s2, s3⟩, ⟨q0, q1, q2, q3⟩, ⟨r0, r1, r2, r3⟩⟩ := hSw; go_simp; try with_reducible rfl)
          try simp only [List.getElem_toArray, List.getElem_cons_succ, List.getElem_cons_zero, Act.put, List.setIfInBounds_toArray, List.set_cons_zero, List.set_cons_succ]
          refine wpAnyH_take (i := 12) (oi := _) (v := ?v10n2_12) rfl (by kernel_rfl) (by kernel_rfl) (by kernel_rfl) (fun _ _ _ h => h) (Or.inl ⟨by rfl, ?hy10n2_12⟩) hHeld6 ?_
          case hy10n2_12 => (intro wS hSw; (try dsimp only at hSw); obtain ⟨⟨s0, s1, s2, s3⟩, ⟨q0, q1, q2, q3⟩, ⟨r0, r1, r2, r3⟩⟩ := hSw; go_simp; try with_reducible rfl)
          try simp only [List.getElem_toArray, List.getElem_cons_succ, List.getElem_cons_zero, Act.put, List.setIfInBounds_toArray, List.set_cons_zero, List.set_cons_succ]
          refine wpAnyH_take (i := 13) (oi := _) (v := ?v10n2_13) rfl (by kernel_rfl) (by kernel_rfl) (by kernel_rfl) (fun _ _ _ h => h) (Or.inl ⟨by rfl, ?hy10n2_13⟩) hHeld6 ?_
          case hy10n2_13 => (intro wS hSw; (try dsimp only at hSw); obtain ⟨⟨s0, s1, s2, s3⟩, ⟨q0, q1, q2, q3⟩, ⟨r0, r1, r2, r3⟩⟩ := hSw; go_simp; try with_reducible rfl)
          try simp only [List.getElem_toArray, List.getElem_cons_succ, List.getElem_cons_zero, Act.put, List.setIfInBounds_toArray, List.set_cons_zero, List.set_cons_succ]
          refine wpAnyH_take (i := 14) (oi := _) (v := ?v10n2_14) rfl (by kernel_rfl) (by kernel_rfl) (by kernel_rfl) (fun _ _ _ h => h) (Or.inl ⟨by rfl, ?hy10n2_14⟩) hHeld6 ?_
          case hy10n2_14 => (intro wS hSw; (try dsimp only at hSw); obtain ⟨⟨s0, s1, s2, s3⟩, ⟨q0, q1, q2, q3⟩, ⟨r0, r1, r2, r3⟩⟩ := hSw; go_simp; try with_reducible rfl)
          try simp only [List.getElem_toArray, List.getElem_cons_succ, List.getElem_cons_zero, Act.put, List.setIfInBounds_toArray, List.set_cons_zero, List.set_cons_succ]
          refine wpAnyH_ready (rs := [15]) (by kernel_rfl) (by simp) ?_
          refine AllReadyH.cons (o := _) rfl (fun K hK => ?_) AllReadyH.nil
          go_simp
          refine (right_at _ _ _ _ _ _ _ _ _ _ (Kd.C_mono hb6 GY) (by simp) hlb).mono ?_
          rw [HY.out]
          rintro e w15 ⟨rfl, hb15⟩
          go_wp2_with fail
          refine hK.out _ _ (⟨A4.below hb15 hHeld6.1, A4.below hb15 hHeld6.2.1, A4.below hb15 hHeld6.2.2⟩) (fun hHeld15 => ?_)
          clear hK K hHeld6
          try simp only [List.getElem_toArray, List.getElem_cons_succ, List.getElem_cons_zero, Act.put, List.setIfInBounds_toArray, List.set_cons_zero, List.set_cons_succ]
          refine wpAnyH_take (i := 16) (oi := _) (v := ?v10n2_16) rfl (by kernel_rfl) (by kernel_rfl) (by kernel_rfl) (fun _ _ _ h => h) (Or.inl ⟨by rfl, ?hy10n2_16⟩) hHeld15 ?_
          case hy10n2_16 => (intro wS hSw; (try dsimp only at hSw); obtain ⟨⟨s0, s1, s2, s3⟩, ⟨q0, q1, q2, q3⟩, ⟨r0, r1, r2, r3⟩⟩ := hSw; go_simp; try with_reducible rfl)
          try simp only [List.getElem_toArray, List.getElem_cons_succ, List.getElem_cons_zero, Act.put, List.setIfInBounds_toArray, List.set_cons_zero, List.set_cons_succ]
          refine wpAnyH_take (i := 17) (oi := _) (v := ?v10n2_17) rfl (by kernel_rfl) (by kernel_rfl) (by kernel_rfl) (fun _ _ _ h => h) (Or.inl ⟨by rfl, ?hy10n2_17⟩) hHeld15 ?_
          case hy10n2_17 => (intro wS hSw; (try dsimp only at hSw); obtain ⟨⟨s0, s1, s2, s3⟩, ⟨q0, q1, q2, q3⟩, ⟨r0, r1, r2, r3⟩⟩ := hSw; go_simp; try with_reducible rfl)
          try simp only [List.getElem_toArray, List.getElem_cons_succ, List.getElem_cons_zero, Act.put, List.setIfInBounds_toArray, List.set_cons_zero, List.set_cons_succ]
          refine wpAnyH_take (i := 18) (oi := _) (v := ?v10n2_18) rfl (by kernel_rfl) (by kernel_rfl) (by kernel_rfl) (fun _ _ _ h => h) (Or.inl ⟨by rfl, ?hy10n2_18⟩) hHeld15 ?_
          case hy10n2_18 => (intro wS hSw; (try dsimp only at hSw); obtain ⟨⟨s0, s1, s2, s3⟩, ⟨q0, q1, q2, q3⟩, ⟨r0, r1, r2, r3⟩⟩ := hSw; go_simp; try with_reducible rfl)
          try simp only [List.getElem_toArray, List.getElem_cons_succ, List.getElem_cons_zero, Act.put, List.setIfInBounds_toArray, List.set_cons_zero, List.set_cons_succ]
          refine wpAnyH_take (i := 19) (oi := _) (v := ?v10n2_19) rfl (by kernel_rfl) (by kernel_rfl) (by kernel_rfl) (fun _ _ _ h => h) (Or.inl ⟨by rfl, ?hy10n2_19⟩) hHeld15 ?_
          case hy10n2_19 => (intro wS hSw; (try dsimp only at hSw); obtain ⟨⟨s0, s1, s2, s3⟩, ⟨q0, q1, q2, q3⟩, ⟨r0, r1, r2, r3⟩⟩ := hSw; go_simp; try with_reducible rfl)
          try simp only [List.getElem_toArray, List.getElem_cons_succ, List.getElem_cons_zero, Act.put, List.setIfInBounds_toArray, List.set_cons_zero, List.set_cons_succ]
          refine wpAnyH_take (i := 20) (oi := _) (v := ?v10n2_20) rfl (by kernel_rfl) (by kernel_rfl) (by kernel_rfl) (fun _ _ _ h => h) (Or.inl ⟨by rfl, ?hy10n2_20⟩) hHeld15 ?_
          case hy10n2_20 => (intro wS hSw; (try dsimp only at hSw); obtain ⟨⟨s0, s1, s2, s3⟩, ⟨q0, q1, q2, q3⟩, ⟨r0, r1, r2, r3⟩⟩ := hSw; go_simp; try with_reducible rfl)
          try simp only [List.getElem_toArray, List.getElem_cons_succ, List.getElem_cons_zero, Act.put, List.setIfInBounds_toArray, List.set_cons_zero, List.set_cons_succ]
          refine wpAnyH_take (i := 21) (oi := _) (v := ?v10n2_21) rfl (by kernel_rfl) (by kernel_rfl) (by kernel_rfl) (fun _ _ _ h => h) (Or.inl ⟨by rfl, ?hy10n2_21⟩) hHeld15 ?_
          case hy10n2_21 => (intro wS hSw; (try dsimp only at hSw); obtain ⟨⟨s0, s1, s2, s3⟩, ⟨q0, q1, q2, q3⟩, ⟨r0, r1, r2, r3⟩⟩ := hSw; go_simp; try with_reducible rfl)
          try simp only [List.getElem_toArray, List.getElem_cons_succ, List.getElem_cons_zero, Act.put, List.setIfInBounds_toArray, List.set_cons_zero, List.set_cons_succ]
          refine wpAnyH_take (i := 22) (oi := _) (v := ?v10n2_22) rfl (by kernel_rfl) (by kernel_rfl) (by kernel_rfl) (fun _ _ _ h => h) (Or.inl ⟨by rfl, ?hy10n2_22⟩) hHeld15 ?_
          case hy10n2_22 => (intro wS hSw; (try dsimp only at hSw); obtain ⟨⟨s0, s1, s2, s3⟩, ⟨q0, q1, q2, q3⟩, ⟨r0, r1, r2, r3⟩⟩ := hSw; go_simp; try with_reducible rfl)
          try simp only [List.getElem_toArray, List.getElem_cons_succ, List.getElem_cons_zero, Act.put, List.setIfInBounds_toArray, List.set_cons_zero, List.set_cons_succ]
          refine wpAnyH_take (i := 23) (oi := _) (v := ?v10n2_23) rfl (by kernel_rfl) (by kernel_rfl) (by kernel_rfl) (fun _ _ _ h => h) (Or.inl ⟨by rfl, ?hy10n2_23⟩) hHeld15 ?_
          case hy10n2_23 => (intro wS hSw; (try dsimp only at hSw); obtain ⟨⟨s0, s1, s2, s3⟩, ⟨q0, q1, q2, q3⟩, ⟨r0, r1, r2, r3⟩⟩ := hSw; go_simp; try with_reducible rfl)
          try simp only [List.getElem_toArray, List.getElem_cons_succ, List.getElem_cons_zero, Act.put, List.setIfInBounds_toArray, List.set_cons_zero, List.set_cons_succ]
          refine wpAnyH_take (i := 24) (oi := _) (v := ?v10n2_24) rfl (by kernel_rfl) (by kernel_rfl) (by kernel_rfl) (fun _ _ _ h => h) (Or.inl ⟨by rfl, ?hy10n2_24⟩) hHeld15 ?_
          case hy10n2_24 => (intro wS hSw; (try dsimp only at hSw); obtain ⟨⟨s0, s1, s2, s3⟩, ⟨q0, q1, q2, q3⟩, ⟨r0, r1, r2, r3⟩⟩ := hSw; go_simp; try with_reducible rfl)
          try simp only [List.getElem_toArray, List.getElem_cons_succ, List.getElem_cons_zero, Act.put, List.setIfInBounds_toArray, List.set_cons_zero, List.set_cons_succ]
          refine wpAnyH_take (i := 25) (oi := _) (v := ?v10n2_25) rfl (by kernel_rfl) (by kernel_rfl) (by kernel_rfl) (fun _ _ _ h => h) (Or.inl ⟨by rfl, ?hy10n2_25⟩) hHeld15 ?_
          case hy10n2_25 => (intro wS hSw; (try dsimp only at hSw); obtain ⟨⟨s0, s1, s2, s3⟩, ⟨q0, q1, q2, q3⟩, ⟨r0, r1, r2, r3⟩⟩ := hSw; go_simp; try with_reducible rfl)
          try simp only [List.getElem_toArray, List.getElem_cons_succ, List.getElem_cons_zero, Act.put, List.setIfInBounds_toArray, List.set_cons_zero, List.set_cons_succ]
          refine wpAnyH_take (i := 26) (oi := _) (v := ?v10n2_26) rfl (by kernel_rfl) (by kernel_rfl) (by kernel_rfl) (fun _ _ _ h => h) (Or.inl ⟨by rfl, ?hy10n2_26⟩) hHeld15 ?_
          case hy10n2_26 => (intro wS hSw; (try dsimp only at hSw); obtain ⟨⟨s0, s1, s2, s3⟩, ⟨q0, q1, q2, q3⟩, ⟨r0, r1, r2, r3⟩⟩ := hSw; go_simp; try with_reducible rfl)
          try simp only [List.getElem_toArray, List.getElem_cons_succ, List.getElem_cons_zero, Act.put, List.setIfInBounds_toArray, List.set_cons_zero, List.set_cons_succ]
          refine wpAnyH_take (i := 27) (oi := _) (v := ?v10n2_27) rfl (by kernel_rfl) (by kernel_rfl) (by kernel_rfl) (fun _ _ _ h => h) (Or.inl ⟨by rfl, ?hy10n2_27⟩) hHeld15 ?_
          case hy10n2_27 => (intro wS hSw; (try dsimp only at hSw); obtain ⟨⟨s0, s1, s2, s3⟩, ⟨q0, q1, q2, q3⟩, ⟨r0, r1, r2, r3⟩⟩ := hSw; go_simp; try with_reducible rfl)
          try simp only [List.getElem_toArray, List.getElem_cons_succ, List.getElem_cons_zero, Act.put, List.setIfInBounds_toArray, List.set_cons_zero, List.set_cons_succ]
          refine wpAnyH_take (i := 28) (oi := _) (v := ?v10n2_28) rfl (by kernel_rfl) (by kernel_rfl) (by kernel_rfl) (fun _ _ _ h => h) (Or.inl ⟨by rfl, ?hy10n2_28⟩) hHeld15 ?_
          case hy10n2_28 => (intro wS hSw; (try dsimp only at hSw); obtain ⟨⟨s0, s1, s2, s3⟩, ⟨q0, q1, q2, q3⟩, ⟨r0, r1, r2, r3⟩⟩ := hSw; go_simp; try with_reducible rfl)
          try simp only [List.getElem_toArray, List.getElem_cons_succ, List.getElem_cons_zero, Act.put, List.setIfInBounds_toArray, List.set_cons_zero, List.set_cons_succ]
          refine wpAnyH_take (i := 29) (oi := _) (v := ?v10n2_29) rfl (by kernel_rfl) (by kernel_rfl) (by kernel_rfl) (fun _ _ _ h => h) (Or.inl ⟨by rfl, ?hy10n2_29⟩) hHeld15 ?_
          case hy10n2_29 => (intro wS hSw; (try dsimp only at hSw); obtain ⟨⟨s0, s1, s2, s3⟩, ⟨q0, q1, q2, q3⟩, ⟨r0, r1, r2, r3⟩⟩ := hSw; go_simp; try with_reducible rfl)
          try simp only [List.getElem_toArray, List.getElem_cons_succ, List.getElem_cons_zero, Act.put, List.setIfInBounds_toArray, List.set_cons_zero, List.set_cons_succ]
          refine wpAnyH_take (i := 30) (oi := _) (v := ?v10n2_30) rfl (by kernel_rfl) (by kernel_rfl) (by kernel_rfl) (fun _ _ _ h => h) (Or.inl ⟨by rfl, ?hy10n2_30⟩) hHeld15 ?_
          case hy10n2_30 => (intro wS hSw; (try dsimp only at hSw); obtain ⟨⟨s0, s1, s2, s3⟩, ⟨q0, q1, q2, q3⟩, ⟨r0, r1, r2, r3⟩⟩ := hSw; go_simp; try with_reducible rfl)
          try simp only [List.getElem_toArray, List.getElem_cons_succ, List.getElem_cons_zero, Act.put, List.setIfInBounds_toArray, List.set_cons_zero, List.set_cons_succ]
          refine wpAnyH_take (i := 31) (oi := _) (v := ?v10n2_31) rfl (by kernel_rfl) (by kernel_rfl) (by kernel_rfl) (fun _ _ _ h => h) (Or.inl ⟨by rfl, ?hy10n2_31⟩) hHeld15 ?_
          case hy10n2_31 => (intro wS hSw; (try dsimp only at hSw); obtain ⟨⟨s0, s1, s2, s3⟩, ⟨q0, q1, q2, q3⟩, ⟨r0, r1, r2, r3⟩⟩ := hSw; go_simp; try with_reducible rfl)
          try simp only [List.getElem_toArray, List.getElem_cons_succ, List.getElem_cons_zero, Act.put, List.setIfInBounds_toArray, List.set_cons_zero, List.set_cons_succ]
          refine wpAnyH_take (i := 32) (oi := _) (v := ?v10n2_32) rfl (by kernel_rfl) (by kernel_rfl) (by kernel_rfl) (fun _ _ _ h => h) (Or.inl ⟨by rfl, ?hy10n2_32⟩) hHeld15 ?_
          case hy10n2_32 => (intro wS hSw; (try dsimp only at hSw); obtain ⟨⟨s0, s1, s2, s3⟩, ⟨q0, q1, q2, q3⟩, ⟨r0, r1, r2, r3⟩⟩ := hSw; go_simp; try with_reducible rfl)
          try simp only [List.getElem_toArray, List.getElem_cons_succ, List.getElem_cons_zero, Act.put, List.setIfInBounds_toArray, List.set_cons_zero, List.set_cons_succ]
          refine wpAnyH_take (i := 33) (oi := _) (v := ?v10n2_33) rfl (by kernel_rfl) (by kernel_rfl) (by kernel_rfl) (fun _ _ _ h => h) (Or.inl ⟨by rfl, ?hy10n2_33⟩) hHeld15 ?_
          case hy10n2_33 => (intro wS hSw; (try dsimp only at hSw); obtain ⟨⟨s0, s1, s2, s3⟩, ⟨q0, q1, q2, q3⟩, ⟨r0, r1, r2, r3⟩⟩ := hSw; go_simp; try with_reducible rfl)
          try simp only [List.getElem_toArray, List.getElem_cons_succ, List.getElem_cons_zero, Act.put, List.setIfInBounds_toArray, List.set_cons_zero, List.set_cons_succ]
          refine wpAnyH_take (i := 34) (oi := _) (v := ?v10n2_34) rfl (by kernel_rfl) (by kernel_rfl) (by kernel_rfl) (fun _ _ _ h => h) (Or.inl ⟨by rfl, ?hy10n2_34⟩) hHeld15 ?_
          case hy10n2_34 => (intro wS hSw; (try dsimp only at hSw); obtain ⟨⟨s0, s1, s2, s3⟩, ⟨q0, q1, q2, q3⟩, ⟨r0, r1, r2, r3⟩⟩ := hSw; go_simp; try with_reducible rfl)
          try simp only [List.getElem_toArray, List.getElem_cons_succ, List.getElem_cons_zero, Act.put, List.setIfInBounds_toArray, List.set_cons_zero, List.set_cons_succ]
          refine wpAnyH_take (i := 35) (oi := _) (v := ?v10n2_35) rfl (by kernel_rfl) (by kernel_rfl) (by kernel_rfl) (fun _ _ _ h => h) (Or.inl ⟨by rfl, ?hy10n2_35⟩) hHeld15 ?_
          case hy10n2_35 => (intro wS hSw; (try dsimp only at hSw); obtain ⟨⟨s0, s1, s2, s3⟩, ⟨q0, q1, q2, q3⟩, ⟨r0, r1, r2, r3⟩⟩ := hSw; go_simp; try with_reducible rfl)
          try simp only [List.getElem_toArray, List.getElem_cons_succ, List.getElem_cons_zero, Act.put, List.setIfInBounds_toArray, List.set_cons_zero, List.set_cons_succ]
          refine wpAnyH_take (i := 36) (oi := _) (v := ?v10n2_36) rfl (by kernel_rfl) (by kernel_rfl) (by kernel_rfl) (fun _ _ _ h => h) (Or.inl ⟨by rfl, ?hy10n2_36⟩) hHeld15 ?_
          case hy10n2_36 => (intro wS hSw; (try dsimp only at hSw); obtain ⟨⟨s0, s1, s2, s3⟩, ⟨q0, q1, q2, q3⟩, ⟨r0, r1, r2, r3⟩⟩ := hSw; go_simp; try with_reducible rfl)
          try simp only [List.getElem_toArray, List.getElem_cons_succ, List.getElem_cons_zero, Act.put, List.setIfInBounds_toArray, List.set_cons_zero, List.set_cons_succ]
          refine wpAnyH_take (i := 37) (oi := _) (v := ?v10n2_37) rfl (by kernel_rfl) (by kernel_rfl) (by kernel_rfl) (fun _ _ _ h => h) (Or.inl ⟨by rfl, ?hy10n2_37⟩) hHeld15 ?_
          case hy10n2_37 => (intro wS hSw; (try dsimp only at hSw); obtain ⟨⟨s0, s1, s2, s3⟩, ⟨q0, q1, q2, q3⟩, ⟨r0, r1, r2, r3⟩⟩ := hSw; go_simp; try with_reducible rfl)
          try simp only [List.getElem_toArray, List.getElem_cons_succ, List.getElem_cons_zero, Act.put, List.setIfInBounds_toArray, List.set_cons_zero, List.set_cons_succ]
          refine wpAnyH_take (i := 38) (oi := _) (v := ?v10n2_38) rfl (by kernel_rfl) (by kernel_rfl) (by kernel_rfl) (fun _ _ _ h => h) (Or.inl ⟨by rfl, ?hy10n2_38⟩) hHeld15 ?_
          case hy10n2_38 => (intro wS hSw; (try dsimp only at hSw); obtain ⟨⟨s0, s1, s2, s3⟩, ⟨q0, q1, q2, q3⟩, ⟨r0, r1, r2, r3⟩⟩ := hSw; go_simp; try with_reducible rfl)
          try simp only [List.getElem_toArray, List.getElem_cons_succ, List.getElem_cons_zero, Act.put, List.setIfInBounds_toArray, List.set_cons_zero, List.set_cons_succ]
          refine wpAnyH_take (i := 39) (oi := _) (v := ?v10n2_39) rfl (by kernel_rfl) (by kernel_rfl) (by kernel_rfl) (fun _ _ _ h => h) (Or.inl ⟨by rfl, ?hy10n2_39⟩) hHeld15 ?_
          case hy10n2_39 => (intro wS hSw; (try dsimp only at hSw); obtain ⟨⟨s0, s1, s2, s3⟩, ⟨q0, q1, q2, q3⟩, ⟨r0, r1, r2, r3⟩⟩ := hSw; go_simp; try with_reducible rfl)
          try simp only [List.getElem_toArray, List.getElem_cons_succ, List.getElem_cons_zero, Act.put, List.setIfInBounds_toArray, List.set_cons_zero, List.set_cons_succ]
          refine wpAnyH_take (i := 40) (oi := _) (v := undef) rfl (by kernel_rfl) (by kernel_rfl) (by kernel_rfl) (fun _ _ _ h => h) (Or.inr ⟨by rfl, rfl⟩) hHeld15 ?_
          try simp only [List.getElem_toArray, List.getElem_cons_succ, List.getElem_cons_zero, Act.put, List.setIfInBounds_toArray, List.set_cons_zero, List.set_cons_succ]
          refine wpAnyH_take (i := 41) (oi := _) (v := undef) rfl (by kernel_rfl) (by kernel_rfl) (by kernel_rfl) (fun _ _ _ h => h) (Or.inr ⟨by rfl, rfl⟩) hHeld15 ?_
          try simp only [List.getElem_toArray, List.getElem_cons_succ, List.getElem_cons_zero, Act.put, List.setIfInBounds_toArray, List.set_cons_zero, List.set_cons_succ]
          refine wpAnyH_take (i := 42) (oi := _) (v := undef) rfl (by kernel_rfl) (by kernel_rfl) (by kernel_rfl) (fun _ _ _ h => h) (Or.inr ⟨by rfl, rfl⟩) hHeld15 ?_
          try simp only [List.getElem_toArray, List.getElem_cons_succ, List.getElem_cons_zero, Act.put, List.setIfInBounds_toArray, List.set_cons_zero, List.set_cons_succ]
          refine wpAnyH_take (i := 43) (oi := _) (v := undef) rfl (by kernel_rfl) (by kernel_rfl) (by kernel_rfl) (fun _ _ _ h => h) (Or.inr ⟨by rfl, rfl⟩) hHeld15 ?_
          try simp only [List.getElem_toArray, List.getElem_cons_succ, List.getElem_cons_zero, Act.put, List.setIfInBounds_toArray, List.set_cons_zero, List.set_cons_succ]
          refine wpAnyH_take (i := 44) (oi := _) (v := undef) rfl (by kernel_rfl) (by kernel_rfl) (by kernel_rfl) (fun _ _ _ h => h) (Or.inr ⟨by rfl, rfl⟩) hHeld15 ?_
          try simp only [List.getElem_toArray, List.getElem_cons_succ, List.getElem_cons_zero, Act.put, List.setIfInBounds_toArray, List.set_cons_zero, List.set_cons_succ]
          refine wpAnyH_take (i := 45) (oi := _) (v := undef) rfl (by kernel_rfl) (by kernel_rfl) (by kernel_rfl) (fun _ _ _ h => h) (Or.inr ⟨by rfl, rfl⟩) hHeld15 ?_
          try simp only [List.getElem_toArray, List.getElem_cons_succ, List.getElem_cons_zero, Act.put, List.setIfInBounds_toArray, List.set_cons_zero, List.set_cons_succ]
          refine wpAnyH_take (i := 46) (oi := _) (v := undef) rfl (by kernel_rfl) (by kernel_rfl) (by kernel_rfl) (fun _ _ _ h => h) (Or.inr ⟨by rfl, rfl⟩) hHeld15 ?_
          try simp only [List.getElem_toArray, List.getElem_cons_succ, List.getElem_cons_zero, Act.put, List.setIfInBounds_toArray, List.set_cons_zero, List.set_cons_succ]
          refine wpAnyH_take (i := 47) (oi := _) (v := undef) rfl (by kernel_rfl) (by kernel_rfl) (by kernel_rfl) (fun _ _ _ h => h) (Or.inr ⟨by rfl, rfl⟩) hHeld15 ?_
          try simp only [List.getElem_toArray, List.getElem_cons_succ, List.getElem_cons_zero, Act.put, List.setIfInBounds_toArray, List.set_cons_zero, List.set_cons_succ]
          refine wpAnyH_take (i := 48) (oi := _) (v := undef) rfl (by kernel_rfl) (by kernel_rfl) (by kernel_rfl) (fun _ _ _ h => h) (Or.inr ⟨by rfl, rfl⟩) hHeld15 ?_
          try simp only [List.getElem_toArray, List.getElem_cons_succ, List.getElem_cons_zero, Act.put, List.setIfInBounds_toArray, List.set_cons_zero, List.set_cons_succ]
          refine wpAnyH_take (i := 49) (oi := _) (v := undef) rfl (by kernel_rfl) (by kernel_rfl) (by kernel_rfl) (fun _ _ _ h => h) (Or.inr ⟨by rfl, rfl⟩) hHeld15 ?_
          try simp only [List.getElem_toArray, List.getElem_cons_succ, List.getElem_cons_zero, Act.put, List.setIfInBounds_toArray, List.set_cons_zero, List.set_cons_succ]
          refine wpAnyH_take (i := 50) (oi := _) (v := undef) rfl (by kernel_rfl) (by kernel_rfl) (by kernel_rfl) (fun _ _ _ h => h) (Or.inr ⟨by rfl, rfl⟩) hHeld15 ?_
          try simp only [List.getElem_toArray, List.getElem_cons_succ, List.getElem_cons_zero, Act.put, List.setIfInBounds_toArray, List.set_cons_zero, List.set_cons_succ]
          refine wpAnyH_take (i := 51) (oi := _) (v := undef) rfl (by kernel_rfl) (by kernel_rfl) (by kernel_rfl) (fun _ _ _ h => h) (Or.inr ⟨by rfl, rfl⟩) hHeld15 ?_
          try simp only [List.getElem_toArray, List.getElem_cons_succ, List.getElem_cons_zero, Act.put, List.setIfInBounds_toArray, List.set_cons_zero, List.set_cons_succ]
          refine wpAnyH_take (i := 52) (oi := _) (v := undef) rfl (by kernel_rfl) (by kernel_rfl) (by kernel_rfl) (fun _ _ _ h => h) (Or.inr ⟨by rfl, rfl⟩) hHeld15 ?_
          try simp only [List.getElem_toArray, List.getElem_cons_succ, List.getElem_cons_zero, Act.put, List.setIfInBounds_toArray, List.set_cons_zero, List.set_cons_succ]
          refine wpAnyH_take (i := 53) (oi := _) (v := undef) rfl (by kernel_rfl) (by kernel_rfl) (by kernel_rfl) (fun _ _ _ h => h) (Or.inr ⟨by rfl, rfl⟩) hHeld15 ?_
          try simp only [List.getElem_toArray, List.getElem_cons_succ, List.getElem_cons_zero, Act.put, List.setIfInBounds_toArray, List.set_cons_zero, List.set_cons_succ]
          refine wpAnyH_take (i := 54) (oi := _) (v := undef) rfl (by kernel_rfl) (by kernel_rfl) (by kernel_rfl) (fun _ _ _ h => h) (Or.inr ⟨by rfl, rfl⟩) hHeld15 ?_
          try simp only [List.getElem_toArray, List.getElem_cons_succ, List.getElem_cons_zero, Act.put, List.setIfInBounds_toArray, List.set_cons_zero, List.set_cons_succ]
          refine wpAnyH_take (i := 55) (oi := _) (v := undef) rfl (by kernel_rfl) (by kernel_rfl) (by kernel_rfl) (fun _ _ _ h => h) (Or.inr ⟨by rfl, rfl⟩) hHeld15 ?_
          try simp only [List.getElem_toArray, List.getElem_cons_succ, List.getElem_cons_zero, Act.put, List.setIfInBounds_toArray, List.set_cons_zero, List.set_cons_succ]
          refine wpAnyH_take (i := 56) (oi := _) (v := undef) rfl (by kernel_rfl) (by kernel_rfl) (by kernel_rfl) (fun _ _ _ h => h) (Or.inr ⟨by rfl, rfl⟩) hHeld15 ?_
          try simp only [List.getElem_toArray, List.getElem_cons_succ, List.getElem_cons_zero, Act.put, List.setIfInBounds_toArray, List.set_cons_zero, List.set_cons_succ]
          refine wpAnyH_take (i := 57) (oi := _) (v := undef) rfl (by kernel_rfl) (by kernel_rfl) (by kernel_rfl) (fun _ _ _ h => h) (Or.inr ⟨by rfl, rfl⟩) hHeld15 ?_
          try simp only [List.getElem_toArray, List.getElem_cons_succ, List.getElem_cons_zero, Act.put, List.setIfInBounds_toArray, List.set_cons_zero, List.set_cons_succ]
          refine wpAnyH_take (i := 58) (oi := _) (v := undef) rfl (by kernel_rfl) (by kernel_rfl) (by kernel_rfl) (fun _ _ _ h => h) (Or.inr ⟨by rfl, rfl⟩) hHeld15 ?_
          try simp only [List.getElem_toArray, List.getElem_cons_succ, List.getElem_cons_zero, Act.put, List.setIfInBounds_toArray, List.set_cons_zero, List.set_cons_succ]
          refine wpAnyH_take (i := 59) (oi := _) (v := undef) rfl (by kernel_rfl) (by kernel_rfl) (by kernel_rfl) (fun _ _ _ h => h) (Or.inr ⟨by rfl, rfl⟩) hHeld15 ?_
          try simp only [List.getElem_toArray, List.getElem_cons_succ, List.getElem_cons_zero, Act.put, List.setIfInBounds_toArray, List.set_cons_zero, List.set_cons_succ]
          refine wpAnyH_take (i := 60) (oi := _) (v := undef) rfl (by kernel_rfl) (by kernel_rfl) (by kernel_rfl) (fun _ _ _ h => h) (Or.inr ⟨by rfl, rfl⟩) hHeld15 ?_
          try simp only [List.getElem_toArray, List.getElem_cons_succ, List.getElem_cons_zero, Act.put, List.setIfInBounds_toArray, List.set_cons_zero, List.set_cons_succ]
          refine wpAnyH_take (i := 61) (oi := _) (v := undef) rfl (by kernel_rfl) (by kernel_rfl) (by kernel_rfl) (fun _ _ _ h => h) (Or.inr ⟨by rfl, rfl⟩) hHeld15 ?_
          try simp only [List.getElem_toArray, List.getElem_cons_succ, List.getElem_cons_zero, Act.put, List.setIfInBounds_toArray, List.set_cons_zero, List.set_cons_succ]
          refine wpAnyH_take (i := 62) (oi := _) (v := ?v10n2_62) rfl (by kernel_rfl) (by kernel_rfl) (by kernel_rfl) (fun _ _ _ h => h) (Or.inl ⟨by rfl, ?hy10n2_62⟩) hHeld15 ?_
          case hy10n2_62 => (intro wS hSw; (try dsimp only at hSw); obtain ⟨⟨s0, s1, s2, s3⟩, ⟨q0, q1, q2, q3⟩, ⟨r0, r1, r2, r3⟩⟩ := hSw; go_simp; try with_reducible rfl)
          try simp only [List.getElem_toArray, List.getElem_cons_succ, List.getElem_cons_zero, Act.put, List.setIfInBounds_toArray, List.set_cons_zero, List.set_cons_succ]
          refine wpAnyH_take (i := 63) (oi := _) (v := ?v10n2_63) rfl (by kernel_rfl) (by kernel_rfl) (by kernel_rfl) (fun _ _ _ h => h) (Or.inl ⟨by rfl, ?hy10n2_63⟩) hHeld15 ?_
          case hy10n2_63 => (intro wS hSw; (try dsimp only at hSw); obtain ⟨⟨s0, s1, s2, s3⟩, ⟨q0, q1, q2, q3⟩, ⟨r0, r1, r2, r3⟩⟩ := hSw; go_simp; try with_reducible rfl)
          try simp only [List.getElem_toArray, List.getElem_cons_succ, List.getElem_cons_zero, Act.put, List.setIfInBounds_toArray, List.set_cons_zero, List.set_cons_succ]
          refine wpAnyH_done (by kernel_rfl) ?_ _
          have u6 := (Below.refl wr.heap.size wr).drew.trans hb6
          have u15 := u6.trans (hb15.mono u6.size)
          have tb := hbr.trans (u15.mono hbr.size)
          have tb4 := hbr4.trans (u15.mono hbr4.size)
          have FX := A4.below u15 FX
          have FA := A4.below u15 FA
          have gx := Kd.C_mono u15 gx
          have g0 := Kd.C_mono u15 g0
          obtain ⟨wo, hwo⟩ : ∃ wo : World, wo = w15 := ⟨_, rfl⟩
          subst hwo
          go_wp2_with fail
          go_loopw [6] (fun i wr => ∃ q : Nat, q ≤ gs.length ∧ i = .int .i64 q ∧ Below wo.heap.size wo wr) (fun i _ => gs.length - (intOf i).toNat)
          case atStart => exact ⟨0, Nat.zero_le _, rfl, Below.refl _ _⟩
          case round =>
            obtain ⟨q, hq, rfl, hbq⟩ := hrel
            have tq := tb.trans (hbq.mono tb.size)
            have tq4 := tb4.trans (hbq.mono tb4.size)
            obtain ⟨f0, f1, f2, f3⟩ := A4.below hbq FA
            obtain ⟨x0, x1, x2, x3⟩ := A4.below hbq FX
            by_cases hltq : q < gs.length
            · obtain ⟨h, hh⟩ := get_some gs q hltq
              have hhm := List.mem_of_getElem? hh
              have hof := ofList_eq (HRI.out h hhm)
              obtain ⟨ah, H0, ch, eah, p0, p1, p2, p3, -, lh, mh, gh⟩ := Graph_at (Kd.C_mono tq hC) hh
              injection eah with eah
              subst eah
              have hlh := len_le lh mh
              have HOF := Lib.hid hof
              have HH := Lib.hid hh
              have hz1 : decide (q < gs.length) = true := by simp; omega
              clear hh hhm hof
              cases hsm : smallB h.blocks with
              | false =>
                have HSM := Lib.hid hsm
                clear hsm
                go_wp2_with fail
                refine (refSmall_calls _ _ _ _ _ _ _ (by omega) _ gh (Nat.le_trans lh mh) HOF.out).mono ?_
                rw [HSM.out]
                rintro e w7 ⟨rfl, hb7⟩
                go_wp2_with fail
                exact ⟨⟨q + 1, by omega, by go_num, hbq.trans (hb7.mono hbq.size)⟩, by simp [intOf]; omega⟩
              | true =>
                have HSM := Lib.hid hsm
                clear hsm
                rcases Bool.eq_false_or_eq_true h.keep with hkh | hkh
                · rw [hkh] at p1
                  clear hkh
                  go_wp2_with fail
                  refine (refSmall_calls _ _ _ _ _ _ _ (by omega) _ gh (Nat.le_trans lh mh) HOF.out).mono ?_
                  rw [HSM.out]
                  rintro e w7 ⟨rfl, hb7⟩
                  have p1' := (hb7.cell (World.lt_of_cell p1)).trans p1
                  clear p0 p1 p2 p3
                  go_wp2_with fail
                  exact ⟨⟨q + 1, by omega, by go_num, hbq.trans (hb7.mono hbq.size)⟩, by simp [intOf]; omega⟩
                · rw [hkh] at p1
                  have HKH := Lib.hid hkh
                  clear hkh
                  cases hcb : callsB (g.blocks.map (eachB (leavesB gs) g)) (q : Int) with
                  | false =>
                    have HCB := Lib.hid hcb
                    clear hcb
                    go_wp2_with fail
                    refine (refSmall_calls _ _ _ _ _ _ _ (by omega) _ gh (Nat.le_trans lh mh) HOF.out).mono ?_
                    rw [HSM.out]
                    rintro e w7 ⟨rfl, hb7⟩
                    have p1' := (hb7.cell (World.lt_of_cell p1)).trans p1
                    obtain ⟨z0, z1, z2, z3⟩ := A4.below hb7 (show A4 wr (ax.add (k * 4)) g.name false g.leaf (.slice X0 g.blocks.length cx) from ⟨x0, x1, x2, x3⟩)
                    clear p0 p1 p2 p3 x0 x1 x2 x3 f0 f1 f2 f3
                    go_wp2_with fail
                    refine (calls_at _ _ _ _ _ (g.blocks.map (eachB (leavesB gs) g)) _ _ _ (Kd.C_mono hb7 (Kd.C_mono hbq gx)) (by simp) hlb).mono ?_
                    rw [HCB.out]
                    rintro e w8 ⟨rfl, hb8⟩
                    go_wp2_with fail
                    exact ⟨⟨q + 1, by omega, by go_num, (hbq.trans (hb7.mono hbq.size)).trans (hb8.mono (Nat.le_trans hbq.size hb7.size))⟩, by simp [intOf]; omega⟩
                  | true =>
                    have htl : tailsTo g.blocks (q : Int) = true := by
                      cases htl : tailsTo g.blocks (q : Int) with
                      | true => rfl
                      | false =>
                        have := HCX.out q h HH.out HSM.out HKH.out HKE.out htl
                        rw [hcb] at this
                        cases this
                    have HCB := Lib.hid hcb
                    have HTL := Lib.hid htl
                    clear hcb htl
                    go_wp2_with fail
                    refine (refSmall_calls _ _ _ _ _ _ _ (by omega) _ gh (Nat.le_trans lh mh) HOF.out).mono ?_
                    rw [HSM.out]
                    rintro e w7 ⟨rfl, hb7⟩
                    have p1' := (hb7.cell (World.lt_of_cell p1)).trans p1
                    obtain ⟨z0, z1, z2, z3⟩ := A4.below hb7 (show A4 wr (ax.add (k * 4)) g.name false g.leaf (.slice X0 g.blocks.length cx) from ⟨x0, x1, x2, x3⟩)
                    have FA7 := A4.below hb7 (show A4 wr (ad.add (k * 4)) g.name false g.leaf (.slice A0 g.blocks.length c0) from ⟨f0, f1, f2, f3⟩)
                    clear p0 p1 p2 p3 x0 x1 x2 x3 f0 f1 f2 f3
                    go_wp2_with fail
                    refine (calls_at _ _ _ _ _ (g.blocks.map (eachB (leavesB gs) g)) _ _ _ (Kd.C_mono hb7 (Kd.C_mono hbq gx)) (by simp) hlb).mono ?_
                    rw [HCB.out]
                    rintro e w8 ⟨rfl, hb8⟩
                    obtain ⟨f0, f1, f2, f3⟩ := A4.below hb8 FA7
                    clear z0 z1 z2 z3 p1'
                    go_wp2_with fail
                    refine (lawTails_calls _ _ _ _ _ _ _ _ (Kd.C_mono hb8 (Kd.C_mono hb7 (Kd.C_mono hbq g0))) hlb).mono ?_
                    rw [HTL.out]
                    rintro e w9 ⟨rfl, hb9⟩
                    go_wp2_with fail
                    exact ⟨⟨q + 1, by omega, by go_num, ((hbq.trans (hb7.mono hbq.size)).trans (hb8.mono (Nat.le_trans hbq.size hb7.size))).trans (hb9.mono (Nat.le_trans hbq.size (Nat.le_trans hb7.size hb8.size)))⟩, by simp [intOf]; omega⟩
            · obtain rfl : q = gs.length := by omega
              go_wp2_with fail
              exact ⟨⟨k + 1, by omega, by go_num, tq, tq4⟩, by simp [intOf]; omega⟩
      · obtain rfl : k = gs.length := by omega
        go_wp2_with fail
        go_ret
        exact ⟨rfl, hbr⟩
end Go.Proofs.Ytobhjjbhlnbcpaa
