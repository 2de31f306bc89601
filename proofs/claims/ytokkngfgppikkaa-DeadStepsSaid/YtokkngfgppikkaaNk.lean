/- Layer 22 (dead): all of it, the program's and the document's; how many instructions; is a graph right, and small. Printed by genNk.py of this repository. -/
import Derived.Test.YtokkngfgppikkaaNh
import Derived.Test.YtokkngfgppikkaaNj
namespace Go.Proofs.Ytokkngfgppikkaa
set_option linter.unusedVariables false
set_option linter.unusedSimpArgs false
open Go.RowKit

theorem few_mk {bs : List Block} (h : bs.length ≤ 200) (h3 : ∀ b ∈ bs, b.ops.length ≤ 300) : blocksFew bs = true := by
  unfold blocksFew
  rw [Bool.and_eq_true, decide_eq_true_eq, List.all_eq_true]
  exact ⟨fun b hb => by simpa using h3 b (List.mem_of_mem_take hb), h⟩
/-- Threaded, trimmed, swept, threaded, trimmed. -/
def DeadG (bs bs' : List Block) : Prop := ∃ s1 s2 sw, IsReachE (TEdge (threadBs bs)) (threadBs bs).length 0 s1 ∧ Swept (trimBs s1 (threadBs bs)) sw ∧ IsReachE (TEdge (threadBs sw)) (threadBs sw).length 0 s2 ∧ bs' = trimBs s2 (threadBs sw)
theorem DeadG.unique {bs a b : List Block} (hok : BsOk bs) (h : DeadG bs a) (k : DeadG bs b) : a = b := by
  obtain ⟨s1, s2, sw, h1, h2, h3, rfl⟩ := h
  obtain ⟨t1, t2, tw, k1, k2, k3, rfl⟩ := k
  obtain rfl := h1.unique k1
  have hok2 : BsOk (trimBs s1 (threadBs bs)) := by
    obtain ⟨f, d, h⟩ := hok
    exact ⟨f, d, trimBs_right (threadBs_right h) h1⟩
  obtain rfl := h2.unique hok2 k2
  obtain rfl := h3.unique k3
  rfl
/-- What Graph leaves of a graph's blocks. -/
def DeadR (kp : Bool) (bs bs' : List Block) : Prop := match kp with | true => bs' = bs | false => DeadG bs bs'
theorem DeadR.unique {kp : Bool} {bs a b : List Block} (hok : BsOk bs) (h : DeadR kp bs a) (k : DeadR kp bs b) : a = b := by
  cases kp with
  | true => exact h.trans k.symm
  | false => exact DeadG.unique hok h k
def DeadO (nm : ByteArray) (kp lf : Bool) (bs : List Block) (w : World) (e : Ending) (w' : World) : Prop := ∃ bs', DeadR kp bs bs' ∧ CopiedG nm kp lf bs' w e w'

set_option maxHeartbeats 8000000 in
set_option maxRecDepth 100000 in
theorem deadGraph_calls (nm : ByteArray) (kp lf : Bool) (A : Option Addr) (c : Nat) (bs : List Block) (w : World) (hC : kBlock.C w A bs) (hfew : blocksFew bs = true) (hok : BsOk bs) (hpos : 0 < bs.length) : Calls Try.prog 37 #[.agg #[.string nm, .bool kp, .bool lf, .slice A bs.length c]] w
    (DeadO nm kp lf bs w) := by
  obtain ⟨h200, h300⟩ := blocksFew_parts hfew
  have hl : bs.length ≤ 1000 := by omega
  obtain ⟨W, hW, b0, hz0, r0, z0⟩ := two_rows w #[.string nm, .bool kp, .bool lf, .slice A bs.length c] #[.string ⟨#[]⟩, .bool false, .bool false, .slice none 0 0] 33 33
  have r0' : Row W w.heap.size 33 (graphCells (.slice A bs.length c) ⟨nm, kp, lf, bs⟩) := r0
  obtain ⟨x0, x1, x2, x3⟩ := r0'.graph
  have C0 := Kd.C_mono b0 hC
  cases kp with
  | true =>
    have HFW := Lib.hid hfew
    have H3 := Lib.hid h300
    clear hok hfew h300
    go_enter Try.func37, Try.ntmps37
    go_upto_region 1 with fail
    rw [← hW]
    have HZ0 := Lib.hid hz0
    have HW := Lib.hid hW
    clear hz0 hW
    go_wp2_with fail
    refine (copied_calls _ _ _ _ _ bs _ C0 hl H3.out).mono ?_
    rintro e w1 ⟨A1, c1, F1, rfl, own1, hF1, hb1⟩
    have z1 := z0.below hb1
    have OW := Lib.hid own1
    clear own1 x0 x1 x2 x3
    go_wp2_with (refine wpList_put_row rfl 33 _ _ rfl (w.heap.size + 1) (graphCells (.slice A1 bs.length c1) ⟨nm, true, lf, bs⟩) rfl rfl z1 (by kernel_rfl) rfl (graphCells_one _) ?_; intro w6 r6 g6 s6)
    refine bodyPost_ret (results_cell_row rfl _ _ (w.heap.size + 1) 33 (graphCells (.slice A1 bs.length c1) ⟨nm, true, lf, bs⟩).toArray (0, 0) _ rfl r6 Try.underlying33 rfl (by kernel_rfl)) rfl ?_
    have hz := HZ0.out
    have t1 := b0.trans (hb1.mono b0.size)
    exact ⟨bs, rfl, A1, c1, F1, rfl, OW.out.grown g6 (fun x hx e => by injection e with e; have := hF1 x hx; omega), fun x hx => by have := hF1 x hx; omega, t1.grown g6 t1.size (fun j hj => by injection hj with hj; omega)⟩
  | false =>
    have hlead := hok.leads
    have hok1 : BsOk (threadBs bs) := by
      obtain ⟨f, d, h⟩ := hok
      exact ⟨f, d, threadBs_right h⟩
    have h3001 : ∀ b ∈ threadBs bs, b.ops.length ≤ 300 := threadBs_ops (P := fun n => n ≤ 300) h300
    have hlen1 := threadBs_len bs
    have HLEAD := Lib.hid hlead
    have HOK1 := Lib.hid hok1
    have H31 := Lib.hid h3001
    have HL1 := Lib.hid hlen1
    have HFW := Lib.hid hfew
    have H3 := Lib.hid h300
    clear hok hfew h300 hlead hok1 h3001 hlen1
    go_enter Try.func37, Try.ntmps37
    go_upto_region 1 with fail
    rw [← hW]
    have HZ0 := Lib.hid hz0
    have HW := Lib.hid hW
    clear hz0 hW
    go_wp2_with fail
    refine (thread_calls _ _ _ _ _ bs _ C0 hl H3.out HLEAD.out).mono ?_
    rintro e w1 ⟨A1, c1, F1, rfl, own1, hF1, hb1⟩
    have C1 := own_bs_read own1
    have t1 := b0.trans (hb1.mono b0.size)
    clear own1 x0 x1 x2 x3 hF1
    go_wp2_with fail
    refine (trim_calls _ _ _ _ _ (threadBs bs) _ C1 (by rw [HL1.out]; exact hl) H31.out HOK1.out.leads (by rw [HL1.out]; exact hpos)).mono ?_
    rintro e w2 ⟨s1, hs1, A2, c2, F2, rfl, own2, hF2, hb2⟩
    have C2 := own_bs_read own2
    have t2 := t1.trans (hb2.mono t1.size)
    obtain ⟨f1, d1, hr1⟩ := HOK1.out
    have hr2 := trimBs_right hr1 hs1
    have hok2 : BsOk (trimBs s1 (threadBs bs)) := ⟨f1, d1, hr2⟩
    have h3002 : ∀ b ∈ trimBs s1 (threadBs bs), b.ops.length ≤ 300 := trimBs_ops (P := fun n => n ≤ 300) hs1.1 H31.out
    have hlen2 : (trimBs s1 (threadBs bs)).length ≤ bs.length := by have := trimBs_le (bs := threadBs bs) hs1.1; rw [HL1.out] at this; exact this
    have hpos2 := (blocksRight_iff.1 hr2).2
    have HS1 := Lib.hid hs1
    generalize hb2' : trimBs s1 (threadBs bs) = bs2 at *
    have HB2 := Lib.hid hb2'
    have HOK2 := Lib.hid hok2
    have H32 := Lib.hid h3002
    clear own2 hF2 hs1 hr1 hr2 hok2 h3002 hb2' C1
    go_wp2_with fail
    refine (sweep_calls _ _ _ _ _ bs2 _ C2 (by omega) H32.out HOK2.out).mono ?_
    rintro e w3 ⟨bs3, hsw, A3, c3, F3, rfl, own3, hF3, hb3⟩
    have C3 := own_bs_read own3
    have t3 := t2.trans (hb3.mono t2.size)
    have hok3 := hsw.1.ok HOK2.out
    have h3003 := hsw.1.ops H32.out
    have hlen3 := hsw.1.len
    have hl3 : bs3.length ≤ 200 := by omega
    have hp3 : 0 < bs3.length := by omega
    have HLEN3 := Lib.hid hlen3
    clear hlen3
    have hok4 : BsOk (threadBs bs3) := by
      obtain ⟨f, d, h⟩ := hok3
      exact ⟨f, d, threadBs_right h⟩
    have h3004 : ∀ b ∈ threadBs bs3, b.ops.length ≤ 300 := threadBs_ops (P := fun n => n ≤ 300) h3003
    have hpos4 : 0 < (threadBs bs3).length := by rw [threadBs_len]; exact hp3
    have hl4 : (threadBs bs3).length ≤ 200 := by rw [threadBs_len]; exact hl3
    have HSW := Lib.hid hsw
    have HLEAD3 := Lib.hid hok3.leads
    have HOK4 := Lib.hid hok4
    have H33 := Lib.hid h3003
    have H34 := Lib.hid h3004
    clear own3 hF3 hsw hok3 h3003 hok4 h3004 C2 C0
    go_wp2_with fail
    refine (thread_calls _ _ _ _ _ bs3 _ C3 (by omega) H33.out HLEAD3.out).mono ?_
    rintro e w4 ⟨A4, c4, F4, rfl, own4, hF4, hb4⟩
    have C4 := own_bs_read own4
    have t4 := t3.trans (hb4.mono t3.size)
    clear own4 hF4 C3
    go_wp2_with fail
    refine (trim_calls _ _ _ _ _ (threadBs bs3) _ C4 (by omega) H34.out HOK4.out.leads hpos4).mono ?_
    rintro e w5 ⟨s2, hs2, A5, c5, F5, rfl, own5, hF5, hb5⟩
    have t5 := t4.trans (hb5.mono t4.size)
    have hdead : DeadG bs (trimBs s2 (threadBs bs3)) := ⟨s1, s2, bs3, HS1.out, by rw [HB2.out]; exact HSW.out, hs2, rfl⟩
    have HD := Lib.hid hdead
    have z5 : Row w5 (w.heap.size + 1) 33 [.string ⟨#[]⟩, .bool false, .bool false, .slice none 0 0] := z0.belowAt (hb1.trans ((hb2.mono hb1.size).trans ((hb3.mono (Nat.le_trans hb1.size hb2.size)).trans ((hb4.mono (Nat.le_trans hb1.size (Nat.le_trans hb2.size hb3.size))).trans (hb5.mono (Nat.le_trans hb1.size (Nat.le_trans hb2.size (Nat.le_trans hb3.size hb4.size)))))))) (by have := HZ0.out; omega)
    have OW := Lib.hid own5
    have hbig : w.heap.size + 1 < w4.heap.size := by have := HZ0.out; have := hb1.size; have := hb2.size; have := hb3.size; have := hb4.size; omega
    generalize hbs5 : trimBs s2 (threadBs bs3) = bs5 at *
    clear own5 hs2 hdead C4 hbs5
    go_wp2_with (refine wpList_put_row rfl 33 _ _ rfl (w.heap.size + 1) (graphCells (.slice A5 bs5.length c5) ⟨nm, false, lf, bs5⟩) rfl rfl z5 (by kernel_rfl) rfl (graphCells_one _) ?_; intro w6 r6 g6 s6)
    refine bodyPost_ret (results_cell_row rfl _ _ (w.heap.size + 1) 33 (graphCells (.slice A5 bs5.length c5) ⟨nm, false, lf, bs5⟩).toArray (0, 0) _ rfl r6 Try.underlying33 rfl (by kernel_rfl)) rfl ?_
    exact ⟨bs5, HD.out, A5, c5, F5, rfl, OW.out.grown g6 (fun x hx e => by injection e with e; have := hF5 x hx; omega), fun x hx => by have := hF5 x hx; omega, t5.grown g6 t5.size (fun j hj => by injection hj with hj; omega)⟩

set_option maxHeartbeats 8000000 in
set_option maxRecDepth 100000 in
theorem refDeadGraph_calls (nm : ByteArray) (kp lf : Bool) (A : Option Addr) (c : Nat) (bs : List Block) (w : World) (hC : kBlock.C w A bs) (hfew : blocksFew bs = true) (hok : BsOk bs) (hpos : 0 < bs.length) : Calls Try.prog 38 #[.agg #[.string nm, .bool kp, .bool lf, .slice A bs.length c]] w
    (DeadO nm kp lf bs w) := by
  obtain ⟨h200, h300⟩ := blocksFew_parts hfew
  have hl : bs.length ≤ 1000 := by omega
  obtain ⟨W, hW, b0, hz0, r0, z0⟩ := two_rows w #[.string nm, .bool kp, .bool lf, .slice A bs.length c] #[.string ⟨#[]⟩, .bool false, .bool false, .slice none 0 0] 33 33
  have r0' : Row W w.heap.size 33 (graphCells (.slice A bs.length c) ⟨nm, kp, lf, bs⟩) := r0
  obtain ⟨x0, x1, x2, x3⟩ := r0'.graph
  have C0 := Kd.C_mono b0 hC
  cases kp with
  | true =>
    have HFW := Lib.hid hfew
    have H3 := Lib.hid h300
    clear hok hfew h300
    go_enter Try.func38, Try.ntmps38
    go_upto_region 1 with fail
    rw [← hW]
    have HZ0 := Lib.hid hz0
    have HW := Lib.hid hW
    clear hz0 hW
    go_wp2_with fail
    refine (copy_calls _ _ _ _ _ bs _ C0 (Nat.le_trans hl (by decide)) HFW.out).mono ?_
    rintro e w1 ⟨A1, c1, F1, rfl, own1, hF1, hb1⟩
    have z1 := z0.below hb1
    have OW := Lib.hid own1
    clear own1 x0 x1 x2 x3
    go_wp2_with (refine wpList_put_row rfl 33 _ _ rfl (w.heap.size + 1) (graphCells (.slice A1 bs.length c1) ⟨nm, true, lf, bs⟩) rfl rfl z1 (by kernel_rfl) rfl (graphCells_one _) ?_; intro w6 r6 g6 s6)
    refine bodyPost_ret (results_cell_row rfl _ _ (w.heap.size + 1) 33 (graphCells (.slice A1 bs.length c1) ⟨nm, true, lf, bs⟩).toArray (0, 0) _ rfl r6 Try.underlying33 rfl (by kernel_rfl)) rfl ?_
    have hz := HZ0.out
    have t1 := b0.trans (hb1.mono b0.size)
    exact ⟨bs, rfl, A1, c1, F1, rfl, OW.out.grown g6 (fun x hx e => by injection e with e; have := hF1 x hx; omega), fun x hx => by have := hF1 x hx; omega, t1.grown g6 t1.size (fun j hj => by injection hj with hj; omega)⟩
  | false =>
    have hlead := hok.leads
    have hok1 : BsOk (threadBs bs) := by
      obtain ⟨f, d, h⟩ := hok
      exact ⟨f, d, threadBs_right h⟩
    have h3001 : ∀ b ∈ threadBs bs, b.ops.length ≤ 300 := threadBs_ops (P := fun n => n ≤ 300) h300
    have hlen1 := threadBs_len bs
    have HLEAD := Lib.hid hlead
    have HOK1 := Lib.hid hok1
    have H31 := Lib.hid h3001
    have HL1 := Lib.hid hlen1
    have HFW := Lib.hid hfew
    have H3 := Lib.hid h300
    clear hok hfew h300 hlead hok1 h3001 hlen1
    go_enter Try.func38, Try.ntmps38
    go_upto_region 1 with fail
    rw [← hW]
    have HZ0 := Lib.hid hz0
    have HW := Lib.hid hW
    clear hz0 hW
    go_wp2_with fail
    refine (refThread_calls _ _ _ _ _ bs _ C0 hl HFW.out HLEAD.out).mono ?_
    rintro e w1 ⟨A1, c1, F1, rfl, own1, hF1, hb1⟩
    have C1 := own_bs_read own1
    have t1 := b0.trans (hb1.mono b0.size)
    clear own1 x0 x1 x2 x3 hF1
    go_wp2_with fail
    refine (refTrim_calls _ _ _ _ _ (threadBs bs) _ C1 (by rw [HL1.out]; exact hl) (few_mk (by rw [HL1.out]; exact h200) H31.out) HOK1.out.leads (by rw [HL1.out]; exact hpos)).mono ?_
    rintro e w2 ⟨s1, hs1, A2, c2, F2, rfl, own2, hF2, hb2⟩
    have C2 := own_bs_read own2
    have t2 := t1.trans (hb2.mono t1.size)
    obtain ⟨f1, d1, hr1⟩ := HOK1.out
    have hr2 := trimBs_right hr1 hs1
    have hok2 : BsOk (trimBs s1 (threadBs bs)) := ⟨f1, d1, hr2⟩
    have h3002 : ∀ b ∈ trimBs s1 (threadBs bs), b.ops.length ≤ 300 := trimBs_ops (P := fun n => n ≤ 300) hs1.1 H31.out
    have hlen2 : (trimBs s1 (threadBs bs)).length ≤ bs.length := by have := trimBs_le (bs := threadBs bs) hs1.1; rw [HL1.out] at this; exact this
    have hpos2 := (blocksRight_iff.1 hr2).2
    have HS1 := Lib.hid hs1
    generalize hb2' : trimBs s1 (threadBs bs) = bs2 at *
    have HB2 := Lib.hid hb2'
    have HOK2 := Lib.hid hok2
    have H32 := Lib.hid h3002
    clear own2 hF2 hs1 hr1 hr2 hok2 h3002 hb2' C1
    go_wp2_with fail
    refine (refSweep_calls _ _ _ _ _ bs2 _ C2 (by omega) (few_mk (by omega) H32.out) HOK2.out).mono ?_
    rintro e w3 ⟨bs3, hsw, A3, c3, F3, rfl, own3, hF3, hb3⟩
    have C3 := own_bs_read own3
    have t3 := t2.trans (hb3.mono t2.size)
    have hok3 := hsw.1.ok HOK2.out
    have h3003 := hsw.1.ops H32.out
    have hlen3 := hsw.1.len
    have hl3 : bs3.length ≤ 200 := by omega
    have hp3 : 0 < bs3.length := by omega
    have HLEN3 := Lib.hid hlen3
    clear hlen3
    have hok4 : BsOk (threadBs bs3) := by
      obtain ⟨f, d, h⟩ := hok3
      exact ⟨f, d, threadBs_right h⟩
    have h3004 : ∀ b ∈ threadBs bs3, b.ops.length ≤ 300 := threadBs_ops (P := fun n => n ≤ 300) h3003
    have hpos4 : 0 < (threadBs bs3).length := by rw [threadBs_len]; exact hp3
    have hl4 : (threadBs bs3).length ≤ 200 := by rw [threadBs_len]; exact hl3
    have HSW := Lib.hid hsw
    have HLEAD3 := Lib.hid hok3.leads
    have HOK4 := Lib.hid hok4
    have H33 := Lib.hid h3003
    have H34 := Lib.hid h3004
    clear own3 hF3 hsw hok3 h3003 hok4 h3004 C2 C0
    go_wp2_with fail
    refine (refThread_calls _ _ _ _ _ bs3 _ C3 (by omega) (few_mk hl3 H33.out) HLEAD3.out).mono ?_
    rintro e w4 ⟨A4, c4, F4, rfl, own4, hF4, hb4⟩
    have C4 := own_bs_read own4
    have t4 := t3.trans (hb4.mono t3.size)
    clear own4 hF4 C3
    go_wp2_with fail
    refine (refTrim_calls _ _ _ _ _ (threadBs bs3) _ C4 (by omega) (few_mk (by omega) H34.out) HOK4.out.leads hpos4).mono ?_
    rintro e w5 ⟨s2, hs2, A5, c5, F5, rfl, own5, hF5, hb5⟩
    have t5 := t4.trans (hb5.mono t4.size)
    have hdead : DeadG bs (trimBs s2 (threadBs bs3)) := ⟨s1, s2, bs3, HS1.out, by rw [HB2.out]; exact HSW.out, hs2, rfl⟩
    have HD := Lib.hid hdead
    have z5 : Row w5 (w.heap.size + 1) 33 [.string ⟨#[]⟩, .bool false, .bool false, .slice none 0 0] := z0.belowAt (hb1.trans ((hb2.mono hb1.size).trans ((hb3.mono (Nat.le_trans hb1.size hb2.size)).trans ((hb4.mono (Nat.le_trans hb1.size (Nat.le_trans hb2.size hb3.size))).trans (hb5.mono (Nat.le_trans hb1.size (Nat.le_trans hb2.size (Nat.le_trans hb3.size hb4.size)))))))) (by have := HZ0.out; omega)
    have OW := Lib.hid own5
    have hbig : w.heap.size + 1 < w4.heap.size := by have := HZ0.out; have := hb1.size; have := hb2.size; have := hb3.size; have := hb4.size; omega
    generalize hbs5 : trimBs s2 (threadBs bs3) = bs5 at *
    clear own5 hs2 hdead C4 hbs5
    go_wp2_with (refine wpList_put_row rfl 33 _ _ rfl (w.heap.size + 1) (graphCells (.slice A5 bs5.length c5) ⟨nm, false, lf, bs5⟩) rfl rfl z5 (by kernel_rfl) rfl (graphCells_one _) ?_; intro w6 r6 g6 s6)
    refine bodyPost_ret (results_cell_row rfl _ _ (w.heap.size + 1) 33 (graphCells (.slice A5 bs5.length c5) ⟨nm, false, lf, bs5⟩).toArray (0, 0) _ rfl r6 Try.underlying33 rfl (by kernel_rfl)) rfl ?_
    exact ⟨bs5, HD.out, A5, c5, F5, rfl, OW.out.grown g6 (fun x hx e => by injection e with e; have := hF5 x hx; omega), fun x hx => by have := hF5 x hx; omega, t5.grown g6 t5.size (fun j hj => by injection hj with hj; omega)⟩

theorem opsN_succ {bs : List Block} {k : Nat} {b : Block} (h : bs[k]? = some b) : opsN (bs.take (k + 1)) = opsN (bs.take k) + b.ops.length := by
  unfold opsN
  rw [take_snoc h, List.map_append, List.sum_append]
  simp
theorem opsN_le {bs : List Block} {n : Nat} (h : ∀ b ∈ bs, b.ops.length ≤ n) : opsN bs ≤ n * bs.length := by
  unfold opsN
  induction bs with
  | nil => simp
  | cons b r ih =>
    have h1 := h b (List.mem_cons_self ..)
    have h2 := ih (fun c hc => h c (List.mem_cons_of_mem _ hc))
    simp only [List.map_cons, List.sum_cons, List.length_cons]
    rw [Nat.mul_succ]
    omega
set_option maxHeartbeats 4000000 in
set_option maxRecDepth 100000 in
theorem refOps_calls (nm : ByteArray) (kp lf : Bool) (A : Option Addr) (c : Nat) (bs : List Block) (w : World) (hC : kBlock.C w A bs) (hfew : blocksFew bs = true) : Calls Try.prog 39 #[.agg #[.string nm, .bool kp, .bool lf, .slice A bs.length c]] w fun e w' => e = .returned (.int .i64 (opsN bs : Int)) ∧ Below w.heap.size w w' := by
  obtain ⟨h200, h300⟩ := blocksFew_parts hfew
  have hlo : bs.length ≤ 9223372036854775807 := by omega
  have H3 := Lib.hid h300
  clear hfew h300
  have b0 := below_alloc' w (.cells #[.string nm, .bool kp, .bool lf, .slice A bs.length c] 33)
  have r0 : Row (w.alloc (.cells #[.string nm, .bool kp, .bool lf, .slice A bs.length c] 33)) w.heap.size 33 [.string nm, .bool kp, .bool lf, .slice A bs.length c] := Row.new w _ _
  go_enter Try.func39, Try.ntmps39
  go_upto_region 1 with fail
  generalize w.alloc (.cells #[.string nm, .bool kp, .bool lf, .slice A bs.length c] 33) = W at *
  have x3 := r0.cell (j := 3) rfl
  have CW := Kd.C_mono b0 hC
  go_wp2_with fail
  go_loopw [4, 3] (fun i v wr => ∃ k : Nat, k ≤ bs.length ∧ i = .int .i64 k ∧ v = .int .i64 (opsN (bs.take k) : Int) ∧ wr = W) (fun i _ _ => bs.length - (intOf i).toNat)
  case atStart => exact ⟨0, Nat.zero_le _, rfl, rfl, rfl⟩
  case round =>
    obtain ⟨k, hk, rfl, rfl, rfl⟩ := hrel
    by_cases hlt : k < bs.length
    · obtain ⟨x, hx⟩ := get_some bs k hlt
      have hs := opsN_succ hx
      have h3 := H3.out x (List.mem_of_getElem? hx)
      have hbig := opsN_le (bs := bs.take k) (n := 300) (fun b hb => H3.out b (List.mem_of_mem_take hb))
      have hbig2 : opsN (bs.take k) ≤ 60000 := by
        have : (bs.take k).length ≤ 200 := Nat.le_trans (by simp [List.length_take]; omega) h200
        omega
      obtain ⟨ad, A0, c0, rfl, f0, -, -, -, -, -, -, -, -, -, -, -, -, l0, m0, g0⟩ := Block_at CW hx
      have hl0 := len_le l0 m0
      have HS := Lib.hid hs
      clear hx hs hbig g0
      generalize opsN (bs.take k) = n at *
      go_wp2_with fail
      exact ⟨⟨k + 1, by omega, by go_num, by rw [HS.out]; go_num, by trivial⟩, by simp [intOf]; omega⟩
    · obtain rfl : k = bs.length := by omega
      rw [List.take_length]
      go_wp2_with fail
      go_ret
      exact ⟨rfl, b0⟩
/-- Is a graph right, and small? -/
def fineB (bs : List Block) : Bool := blocksFew bs && decide (bs.length ≤ 30) && decide (opsN bs ≤ 60) && blocksRight bs 1000 1000
set_option maxHeartbeats 4000000 in
set_option maxRecDepth 100000 in
theorem fine22_calls (nm : ByteArray) (kp lf : Bool) (A : Option Addr) (c : Nat) (bs : List Block) (w : World) (hC : kBlock.C w A bs) (hl : bs.length ≤ maxLen) : Calls Try.prog 30 #[.agg #[.string nm, .bool kp, .bool lf, .slice A bs.length c]] w fun e w' => e = .returned (.bool (fineB bs)) ∧ Below w.heap.size w w' := by
  have hlo : bs.length ≤ 9223372036854775807 := hl
  have b0 := below_alloc' w (.cells #[.string nm, .bool kp, .bool lf, .slice A bs.length c] 33)
  have r0 : Row (w.alloc (.cells #[.string nm, .bool kp, .bool lf, .slice A bs.length c] 33)) w.heap.size 33 (graphCells (.slice A bs.length c) ⟨nm, kp, lf, bs⟩) := Row.new w _ _
  cases hr : blocksFew bs with
  | false =>
    have HR := Lib.hid hr
    have HF : Hid (fineB bs = false) := Lib.hid (by unfold fineB; rw [hr]; rfl)
    clear hr
    go_enter Try.func30, Try.ntmps30
    go_upto_region 1 with fail
    generalize w.alloc (.cells #[.string nm, .bool kp, .bool lf, .slice A bs.length c] 33) = W at *
    obtain ⟨x0, x1, x2, x3⟩ := r0.graph
    go_wp2_with fail
    refine (few_calls _ _ _ _ _ _ _ (Kd.C_mono b0 hC) hl).mono ?_
    rw [HR.out]
    rintro e w1 ⟨rfl, hb1⟩
    have t1 := b0.trans (hb1.mono b0.size)
    have r1 := r0.below hb1
    clear x0 x1 x2 x3
    obtain ⟨x0, x1, x2, x3⟩ := r1.graph
    go_wp2_with fail
    go_ret
    exact ⟨by rw [HF.out]; rfl, t1⟩
  | true =>
    have HR := Lib.hid hr
    by_cases h30 : bs.length ≤ 30
    · have z0 : decide (bs.length ≤ 30) = true := decide_eq_true h30
      have hle := opsN_le (bs := bs) (n := 300) (blocksFew_parts hr).2
      have hbig : opsN bs ≤ 9000 := by omega
      by_cases h60 : opsN bs ≤ 60
      · have z1 : decide (opsN bs ≤ 60) = true := decide_eq_true h60
        have HF : Hid (fineB bs = blocksRight bs 1000 1000) := Lib.hid (by unfold fineB; rw [hr, z0, z1]; rfl)
        clear hr hle z0 z1
        go_enter Try.func30, Try.ntmps30
        go_upto_region 1 with fail
        generalize w.alloc (.cells #[.string nm, .bool kp, .bool lf, .slice A bs.length c] 33) = W at *
        obtain ⟨x0, x1, x2, x3⟩ := r0.graph
        go_wp2_with fail
        refine (few_calls _ _ _ _ _ _ _ (Kd.C_mono b0 hC) hl).mono ?_
        rw [HR.out]
        rintro e w1 ⟨rfl, hb1⟩
        have t1 := b0.trans (hb1.mono b0.size)
        have r1 := r0.below hb1
        clear x0 x1 x2 x3
        obtain ⟨x0, x1, x2, x3⟩ := r1.graph
        go_wp2_with fail
        refine (refOps_calls _ _ _ _ _ bs _ (Kd.C_mono t1 hC) HR.out).mono ?_
        rintro e w2 ⟨rfl, hb2⟩
        have t2 := t1.trans (hb2.mono t1.size)
        clear x0 x1 x2 x3
        obtain ⟨x0, x1, x2, x3⟩ := (r1.below hb2).graph
        generalize opsN bs = n at *
        go_wp2_with fail
        refine (right_calls _ _ _ _ _ _ _ _ _ (Kd.C_mono t2 hC) hl).mono ?_
        rintro e w3 ⟨rfl, hb3⟩
        go_wp2_with fail
        go_ret
        exact ⟨by rw [HF.out]; rfl, t2.trans (hb3.mono t2.size)⟩
      · have z1 : decide (opsN bs ≤ 60) = false := decide_eq_false h60
        have HF : Hid (fineB bs = false) := Lib.hid (by unfold fineB; rw [z1, Bool.and_false]; rfl)
        clear hr hle z0 z1
        go_enter Try.func30, Try.ntmps30
        go_upto_region 1 with fail
        generalize w.alloc (.cells #[.string nm, .bool kp, .bool lf, .slice A bs.length c] 33) = W at *
        obtain ⟨x0, x1, x2, x3⟩ := r0.graph
        go_wp2_with fail
        refine (few_calls _ _ _ _ _ _ _ (Kd.C_mono b0 hC) hl).mono ?_
        rw [HR.out]
        rintro e w1 ⟨rfl, hb1⟩
        have t1 := b0.trans (hb1.mono b0.size)
        have r1 := r0.below hb1
        clear x0 x1 x2 x3
        obtain ⟨x0, x1, x2, x3⟩ := r1.graph
        go_wp2_with fail
        refine (refOps_calls _ _ _ _ _ bs _ (Kd.C_mono t1 hC) HR.out).mono ?_
        rintro e w2 ⟨rfl, hb2⟩
        have t2 := t1.trans (hb2.mono t1.size)
        clear x0 x1 x2 x3
        generalize opsN bs = n at *
        go_wp2_with fail
        go_ret
        exact ⟨by rw [HF.out]; rfl, t2⟩
    · have z0 : decide (bs.length ≤ 30) = false := decide_eq_false h30
      have HF : Hid (fineB bs = false) := Lib.hid (by unfold fineB; rw [z0, Bool.and_false]; rfl)
      clear hr z0
      go_enter Try.func30, Try.ntmps30
      go_upto_region 1 with fail
      generalize w.alloc (.cells #[.string nm, .bool kp, .bool lf, .slice A bs.length c] 33) = W at *
      obtain ⟨x0, x1, x2, x3⟩ := r0.graph
      go_wp2_with fail
      refine (few_calls _ _ _ _ _ _ _ (Kd.C_mono b0 hC) hl).mono ?_
      rw [HR.out]
      rintro e w1 ⟨rfl, hb1⟩
      have t1 := b0.trans (hb1.mono b0.size)
      have r1 := r0.below hb1
      clear x0 x1 x2 x3
      obtain ⟨x0, x1, x2, x3⟩ := r1.graph
      go_wp2_with fail
      go_ret
      exact ⟨by rw [HF.out]; rfl, t1⟩
end Go.Proofs.Ytokkngfgppikkaa
