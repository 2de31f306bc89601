/- Layer 21: the document's folded graph. Printed by genVk.py of this repository. -/
import Derived.Test.YtokkngfgppikkabVi
import Derived.Test.YtokkngfgppikkabKx
import Derived.Deep.RegionHeld3
namespace Go.Proofs.Ytokkngfgppikkab
set_option linter.unusedVariables false
set_option linter.unusedSimpArgs false
open Go.RowKit

/-- The first k of one list, the others of another. -/
def mixZ {α : Type} (L bs : List α) (k : Nat) : List α := L.take k ++ bs.drop k
theorem mixZ_zero {α : Type} (L bs : List α) : mixZ L bs 0 = bs := by simp [mixZ]
theorem mixZ_len {α : Type} {L bs : List α} (h : L.length = bs.length) (k : Nat) : (mixZ L bs k).length = bs.length := by simp [mixZ]; omega
theorem mixZ_all {α : Type} {L bs : List α} (h : L.length = bs.length) : mixZ L bs bs.length = L := by simp [mixZ, ← h]
theorem mixZ_at {α : Type} {L bs : List α} (h : L.length = bs.length) {k : Nat} {b : α} (hb : bs[k]? = some b) : (mixZ L bs k)[k]? = some b := by
  have hk := (List.getElem?_eq_some_iff.1 hb).1
  unfold mixZ
  rw [List.getElem?_append_right (by simp; omega), List.getElem?_drop, ← hb]
  congr 1
  simp
  omega
theorem mixZ_succ {α : Type} {L bs : List α} (h : L.length = bs.length) {k : Nat} {l : α} (hl : L[k]? = some l) : (mixZ L bs k).set k l = mixZ L bs (k + 1) := by
  have hk := (List.getElem?_eq_some_iff.1 hl).1
  unfold mixZ
  rw [take_snoc hl, List.set_append_right _ _ (by simp; omega)]
  rw [show k - (L.take k).length = 0 from by simp; omega]
  have hd : bs.drop k = bs[k]'(by omega) :: bs.drop (k + 1) := List.drop_eq_getElem_cons (by omega)
  rw [hd, List.set_cons_zero, List.append_assoc]
  rfl
theorem termRow {w : World} {g : Nat} {T : TypeId} {t : Term} (h : Row w g T (finCells t)) : w.cell? ⟨g, 0, none⟩ = some (.int .i64 t.kind) ∧ w.cell? ⟨g, 1, none⟩ = some (.int .i64 t.op) ∧ w.cell? ⟨g, 2, none⟩ = some (.int .i64 t.a) ∧ w.cell? ⟨g, 3, none⟩ = some (.int .i64 t.b) ∧ w.cell? ⟨g, 4, none⟩ = some (.int .i64 t.to) ∧ w.cell? ⟨g, 5, none⟩ = some (.int .i64 t.els) ∧ w.cell? ⟨g, 6, none⟩ = some (.int .i64 t.ins.op) ∧ w.cell? ⟨g, 7, none⟩ = some (.int .i64 t.ins.a) ∧ w.cell? ⟨g, 8, none⟩ = some (.int .i64 t.ins.b) ∧ w.cell? ⟨g, 9, none⟩ = some (.int .i64 t.ins.c) ∧ w.cell? ⟨g, 10, none⟩ = some (.int .i64 t.ins.imm) :=
  ⟨h.cell rfl, h.cell rfl, h.cell rfl, h.cell rfl, h.cell rfl, h.cell rfl, h.cell rfl, h.cell rfl, h.cell rfl, h.cell rfl, h.cell rfl⟩
theorem add_blockV (a : Addr) (n : Nat) : (a.add n).block = a.block := by unfold Addr.add; split <;> rfl
theorem set_getC {α : Type} {xs : List α} {i : Nat} {x : α} (h : i < xs.length) : (xs.set i x)[i]? = some x := by rw [List.getElem?_set, if_pos rfl, if_pos h]
theorem foldOps_at {os : List Op} {j : Nat} {o : Op} (h : os[j]? = some o) (k : Known) : (foldOps os k)[j]? = some (foldOp o (behindOps (os.take (j + 1)) k)) := by
  have hj := (List.getElem?_eq_some_iff.1 h).1
  have h1 := foldOps_snoc h k
  have h2 : foldOps os k = foldOps (os.take (j + 1)) k ++ foldOps (os.drop (j + 1)) (behindOps (os.take (j + 1)) k) := by rw [← foldOps_append, List.take_append_drop]
  have hl : (foldOps (os.take j) k).length = j := by rw [foldOps_len]; simp; omega
  rw [h2, h1, List.getElem?_append_left (by simp [hl]), List.getElem?_append_right (by omega), hl, Nat.sub_self]
  rfl
theorem foldTerm_no {t : Term} {k : Known} (h : ¬ (t.kind = 2 ∧ (takenK k t).2 = true)) : foldTerm t k = t := by unfold foldTerm; rw [if_neg h]
theorem foldTerm_is {t : Term} {k : Known} (hre : k.reached = true) (h2 : t.kind = 2) (ha : k.isAt t.a.toNat = true) (hb : k.isAt t.b.toNat = true) : foldTerm t k = jumpI (if aluTaken t.op (k.wAt t.a.toNat) (k.wAt t.b.toNat) = true then t.to else t.els) := by
  have ht : takenK k t = (aluTaken t.op (k.wAt t.a.toNat) (k.wAt t.b.toNat), true) := by unfold takenK; rw [if_neg (by simp [hre, ha, hb])]
  unfold foldTerm
  rw [if_pos ⟨h2, by rw [ht]⟩, ht]
theorem goesK_is {t : Term} {k : Known} (h2 : t.kind = 2) (ha : k.isAt t.a.toNat = true) (hb : k.isAt t.b.toNat = true) : goesK k t t.to = (aluTaken t.op (k.wAt t.a.toNat) (k.wAt t.b.toNat) || t.els == t.to) := by
  unfold goesK
  rw [if_neg (by omega), if_neg (by simp [h2]), if_neg (by simp [ha, hb])]
  cases aluTaken t.op (k.wAt t.a.toNat) (k.wAt t.b.toNat) <;> simp

set_option maxHeartbeats 8000000 in
set_option maxRecDepth 100000 in
theorem refFold_true (nm : ByteArray) (lf : Bool) (A : Option Addr) (c : Nat) (bs : List Block) (w : World) (hC : kBlock.C w A bs) (hl : bs.length ≤ 1000) (hfew : blocksFew bs = true) (hok : BsOk bs) (h300 : ∀ b ∈ bs, b.ops.length ≤ 300) (hpos : 0 < bs.length) : Calls Try.prog 26 #[.agg #[.string nm, .bool true, .bool lf, .slice A bs.length c]] w fun e w' => CopiedG nm true lf bs w e w' := by
  have hlo : bs.length ≤ 9223372036854775807 := by omega
  have HOK := Lib.hid hok
  have H3 := Lib.hid h300
  have HFW := Lib.hid hfew
  clear hok h300 hfew
  obtain ⟨W, hW, b0, hz0, r0, z0⟩ := two_rows w #[.string nm, .bool true, .bool lf, .slice A bs.length c] #[.string ⟨#[]⟩, .bool false, .bool false, .slice none 0 0] 24 24
  go_enter Try.func26, Try.ntmps26
  go_upto_region 1 with fail
  rw [← hW]
  have HZ0 := Lib.hid hz0
  clear hz0 hW
  have r0' : Row W w.heap.size 24 (graphCells (.slice A bs.length c) ⟨nm, true, lf, bs⟩) := r0
  obtain ⟨x0, x1, x2, x3⟩ := r0'.graph
  go_wp2_with fail
  refine (copy_calls _ _ _ _ _ bs _ (Kd.C_mono b0 hC) (Nat.le_trans hl (by decide)) HFW.out).mono ?_
  rintro e w1 ⟨A1, c1, F1, rfl, own1, hF1, hb1⟩
  have t1 := b0.trans (hb1.mono b0.size)
  have bq := below_alloc' w1 (.cells #[.string nm, .bool true, .bool lf, .slice A1 bs.length c1] 24)
  have r3 : Row (w1.alloc (.cells #[.string nm, .bool true, .bool lf, .slice A1 bs.length c1] 24)) w1.heap.size 24 (graphCells (.slice A1 bs.length c1) ⟨nm, true, lf, bs⟩) := Row.new w1 _ _
  go_upto_region 2 with fail
  generalize w1.alloc (.cells #[.string nm, .bool true, .bool lf, .slice A1 bs.length c1] 24) = W3 at *
  have t3 := t1.trans (bq.mono t1.size)
  have ra := (r0'.below hb1).below bq
  have rz := (z0.below hb1).below bq
  clear x0 x1 x2 x3
  obtain ⟨x0, x1, x2, x3⟩ := ra.graph
  obtain ⟨y0, y1, y2, y3⟩ := r3.graph
  go_wp2_with (refine wpList_put_row rfl 24 _ _ rfl (w.heap.size + 1) (graphCells (.slice A1 bs.length c1) ⟨nm, true, lf, bs⟩) rfl rfl rz (by kernel_rfl) rfl (graphCells_one _) ?_; intro w6 r6 g6 s6)
  refine bodyPost_ret (results_cell_row rfl _ _ (w.heap.size + 1) 24 (graphCells (.slice A1 bs.length c1) ⟨nm, true, lf, bs⟩).toArray (0, 0) _ rfl r6 Try.underlying24 rfl (by kernel_rfl)) rfl ?_
  have hz := HZ0.out
  exact ⟨A1, c1, F1, rfl, (own1.below bq).grown g6 (fun b hb e => by injection e with e; have := hF1 b hb; omega), fun b hb => by have := hF1 b hb; omega, t3.grown g6 t3.size (fun j hj => by injection hj with hj; omega)⟩

set_option maxHeartbeats 16000000 in
set_option maxRecDepth 100000 in
theorem refFold_false (nm : ByteArray) (lf : Bool) (A : Option Addr) (c : Nat) (bs : List Block) (w : World) (hC : kBlock.C w A bs) (hl : bs.length ≤ 1000) (hfew : blocksFew bs = true) (hok : BsOk bs) (h300 : ∀ b ∈ bs, b.ops.length ≤ 300) (hpos : 0 < bs.length) : Calls Try.prog 26 #[.agg #[.string nm, .bool false, .bool lf, .slice A bs.length c]] w fun e w' => ∃ ins, IsAt bs ins ∧ CopiedG nm false lf (foldBs bs ins) w e w' := by
  have hlo : bs.length ≤ 9223372036854775807 := by omega
  have HOK := Lib.hid hok
  have H3 := Lib.hid h300
  have HFW := Lib.hid hfew
  clear hok h300 hfew
  obtain ⟨W, hW, b0, hz0, r0, z0⟩ := two_rows w #[.string nm, .bool false, .bool lf, .slice A bs.length c] #[.string ⟨#[]⟩, .bool false, .bool false, .slice none 0 0] 24 24
  go_enter Try.func26, Try.ntmps26
  go_upto_region 1 with fail
  rw [← hW]
  have HZ0 := Lib.hid hz0
  clear hz0 hW
  have r0' : Row W w.heap.size 24 (graphCells (.slice A bs.length c) ⟨nm, false, lf, bs⟩) := r0
  obtain ⟨x0, x1, x2, x3⟩ := r0'.graph
  go_wp2_with fail
  refine (copy_calls _ _ _ _ _ bs _ (Kd.C_mono b0 hC) (Nat.le_trans hl (by decide)) HFW.out).mono ?_
  rintro e w1 ⟨A1, c1, F1, rfl, own1, hF1, hb1⟩
  have t1 := b0.trans (hb1.mono b0.size)
  have bq := below_alloc' w1 (.cells #[.string nm, .bool false, .bool lf, .slice A1 bs.length c1] 24)
  have r3 : Row (w1.alloc (.cells #[.string nm, .bool false, .bool lf, .slice A1 bs.length c1] 24)) w1.heap.size 24 (graphCells (.slice A1 bs.length c1) ⟨nm, false, lf, bs⟩) := Row.new w1 _ _
  go_upto_region 2 with fail
  generalize w1.alloc (.cells #[.string nm, .bool false, .bool lf, .slice A1 bs.length c1] 24) = W3 at *
  have t3 := t1.trans (bq.mono t1.size)
  have ra := (r0'.below hb1).below bq
  have rz := (z0.below hb1).below bq
  clear x0 x1 x2 x3
  obtain ⟨x0, x1, x2, x3⟩ := ra.graph
  go_wp2_with fail
  refine (refAt_calls nm false lf A c bs _ (Kd.C_mono t3 hC) hl HOK.out H3.out hpos).mono ?_
  rintro e w5 ⟨H, ins, rfl, hat, hkn, hH, hb5⟩
  obtain ⟨L, hL⟩ : ∃ L, L = foldBs bs ins := ⟨_, rfl⟩
  have hll : L.length = bs.length := by rw [hL]; exact foldBs_len hat.inv.len
  have own5 : OwnF oBlock 39 w5 (.slice A1 bs.length c1) (mixZ L bs 0) F1 := by rw [mixZ_zero]; exact (own1.below bq).below hb5
  have hF5 : ∀ x, F1 x → w.heap.size + 1 + 1 ≤ x ∧ x ≠ w1.heap.size ∧ x ≠ H := fun x hx => by
    have h1 := hF1 x hx; have h2 := own1.lt x hx; have h3 := HZ0.out; have h4 := bq.size; omega
  have hG3 : w.heap.size + 1 + 1 ≤ w1.heap.size := by have := hb1.size; have := HZ0.out; omega
  have hGH : w1.heap.size < H := by have := r3.lt; omega
  have t5 := t3.trans (hb5.mono t3.size)
  have HRA := Lib.hid (ra.below hb5)
  have HRZ := Lib.hid (rz.below hb5)
  have HR3 := Lib.hid (r3.below hb5)
  have HAT := Lib.hid hat
  have HKN := Lib.hid hkn
  have HO5 := Lib.hid own5
  have HF5 := Lib.hid hF5
  have HL := Lib.hid hL
  have HLL := Lib.hid hll
  clear x0 x1 x2 x3 own1 own5 hF1 hF5 hat hkn hL hll bq ra rz r3 r0 r0' z0 hb1 hb5 hH t1 t3 b0
  generalize w1.heap.size = G3 at *
  go_wp2_with fail
  go_loopw [5] (fun i wr => ∃ (k : Nat) (F : Nat → Prop), k ≤ bs.length ∧ i = .int .i64 (k : Int) ∧ OwnF oBlock 39 wr (.slice A1 bs.length c1) (mixZ L bs k) F ∧ (∀ x, F x → w.heap.size + 1 + 1 ≤ x ∧ x ≠ G3 ∧ x ≠ H) ∧ Row wr w.heap.size 24 (graphCells (.slice A bs.length c) ⟨nm, false, lf, bs⟩) ∧ Row wr (w.heap.size + 1) 24 [.string ⟨#[]⟩, .bool false, .bool false, .slice none 0 0] ∧ Row wr G3 24 (graphCells (.slice A1 bs.length c1) ⟨nm, false, lf, bs⟩) ∧ OwnF oKnown 77 wr (.slice (some ⟨H, 0, none⟩) bs.length bs.length) ins (fun b => b = H) ∧ Below w.heap.size w wr) (fun i _ => bs.length - (intOf i).toNat)
  case atStart => exact ⟨0, F1, Nat.zero_le _, rfl, HO5.out, HF5.out, HRA.out, HRZ.out, HR3.out, HKN.out, t5⟩
  case round =>
    obtain ⟨k, F, hk, rfl, ho, hF, ra, rz, r3, hkn, hbr⟩ := hrel
    obtain ⟨x0, x1, x2, x3⟩ := ra.graph
    obtain ⟨y0, y1, y2, y3⟩ := r3.graph
    by_cases hlt : k < bs.length
    · obtain ⟨b, hb⟩ := get_some bs k hlt
      obtain ⟨y, hy⟩ := get_some ins k (by rw [HAT.out.inv.len]; exact hlt)
      have hl1 := foldBs_get hb hy
      rw [← HL.out] at hl1
      have hmk := mixZ_at HLL.out hb
      have hms := mixZ_succ HLL.out hl1
      have hmlen := mixZ_len HLL.out k
      obtain ⟨hkr, hyw⟩ := hkn.krange hy
      have kre := rangeAt_re hkr
      cases hre : y.reached with
      | false =>
        obtain ⟨g1, q1, cs, Fi, F0, e0, lq, mq, h0, hO, d0, iff0⟩ := ho.open_ hmk
        injection e0 with e01 e02 e03
        subst e01 e03
        clear e02
        obtain ⟨v, rfl, hwf, oo⟩ := hO
        have hG1 := hF g1 ((iff0 g1).2 (.inl h0.row))
        have htb : foldB b y = trapBlock := by unfold foldB; rw [if_pos hre]
        rw [htb] at hms hl1
        rw [hre] at kre
        have HH0 := Lib.hid h0
        have HI := Lib.hid iff0
        have HF := Lib.hid hF
        have HMS := Lib.hid hms
        have HML := Lib.hid hmlen
        have HKNR := Lib.hid hkn
        have hz : k < bs.length := hlt
        clear hb hy hl1 hmk hms hmlen hkr hyw ho hF h0 iff0 oo hwf d0 lq mq hre htb
        go_wp2_with (refine wpList_put_hole rfl 39 _ _ rfl g1 (blockCells (.slice none 0 0) trapBlock) rfl rfl HH0.out (by kernel_rfl) rfl (blockCells_one _) ?_; intro w9 h9 g9 s9; clear s9)
        have hcl := h9.close (y := trapBlock) ⟨_, rfl, trap_wf, OwnF.nil oOp 56 w9⟩ (fun _ h => h.elim)
        rw [HML.out, HMS.out] at hcl
        exact ⟨⟨k + 1, _, by omega, by go_num, hcl, fun x hx => HF.out x ((HI.out x).2 (hx.elim .inl (fun h => h.elim))), ra.grown g9 (fun e => by injection e with e; omega), rz.grown g9 (fun e => by injection e with e; omega), r3.grown g9 (fun e => by injection e with e; omega), HKNR.out.grown g9 (fun x hx e => by injection e with e; omega), hbr.grown g9 hbr.size (fun x hx => by injection hx with hx; omega)⟩, by simp [intOf]; omega⟩
      | true =>
        have hbm := List.mem_of_getElem? hb
        have hrt := HOK.out.ops hbm
        have hab : b.fin.kind = 2 → (0 ≤ b.fin.a ∧ b.fin.a < 16) ∧ 0 ≤ b.fin.b ∧ b.fin.b < 16 := fun h2 => by
          obtain ⟨f, hf⟩ := HOK.out.fin hbm
          obtain ⟨-, -, -, ha, hb⟩ := Term.right_branch hf h2
          exact ⟨ha, hb⟩
        have hfb : foldB b y = ⟨foldOps b.ops y, foldTerm b.fin (behindOps b.ops y)⟩ := by unfold foldB; rw [if_neg (by rw [hre]; decide)]
        rw [hfb] at hms
        rw [hre] at kre
        obtain ⟨ad, A0, c0, rfl, w0, w1, w2, w3, w4, w5, w6, w7, w8, w9, w10, w11, hwfb, l0, m0, g0⟩ := Block_at hC hb
        have hadw : ad.block < w.heap.size := by have := World.lt_of_cell w0; unfold Addr.add at this; split at this <;> exact this
        have HIW := Lib.hid (And.intro w0 (And.intro w1 (And.intro w2 (And.intro w3 (And.intro w4 (And.intro w5 (And.intro w6 (And.intro w7 (And.intro w8 (And.intro w9 (And.intro w10 w11)))))))))))
        have hl0 := len_le l0 m0
        have HRE := Lib.hid hre
        have HKR := Lib.hid hkr
        have HB := Lib.hid hb
        have HMS := Lib.hid hms
        have HMK := Lib.hid hmk
        have HML := Lib.hid hmlen
        have HRT := Lib.hid hrt
        have HAB := Lib.hid hab
        have HWB := Lib.hid hwfb
        have HO := Lib.hid ho
        have HF := Lib.hid hF
        have HKNR := Lib.hid hkn
        have HG0 := Lib.hid g0
        have HGT0 := Lib.hid (fun x hx => ho.lt x hx : ∀ x, F x → x < wr.heap.size)
        have hHl : H < wr.heap.size := hkn.lt H rfl
        have hG3l := r3.lt
        have hwl : w.heap.size + 1 < wr.heap.size := rz.lt
        clear w0 w1 w2 w3 w4 w5 w6 w7 w8 w9 w10 w11 hb hl1 hmk hms hmlen ho hF hkn hre hrt hab hfb hwfb l0 m0 g0 hbm
        go_upto_region 10 with fail
        have b6 := below_alloc' wr (.cells #[.bool false, .bool false, .bool false, .bool false, .bool false, .bool false, .bool false, .bool false, .bool false, .bool false, .bool false, .bool false, .bool false, .bool false, .bool false, .bool false, .bool false, .int .u32 0, .int .u32 0, .int .u32 0, .int .u32 0, .int .u32 0, .int .u32 0, .int .u32 0, .int .u32 0, .int .u32 0, .int .u32 0, .int .u32 0, .int .u32 0, .int .u32 0, .int .u32 0, .int .u32 0, .int .u32 0] 77)
        have u6 := hbr.trans (b6.mono hbr.size)
        go_upto_region 11 with (first | (refine wpList_load_knownAt _ y H (k * 33) hyw HKR.out rfl rfl rfl ?_) | (refine wpList_put_known _ _ y wr.heap.size hyw Known.zero_wf (Row.new wr 77 _) rfl rfl rfl rfl ?_; intro w7 r7 g7 s7))
        have b7 : Below wr.heap.size wr w7 := b6.grown g7 b6.size (fun j hj => by injection hj with hj; subst hj; exact Nat.le_refl _)
        have hGT7 : wr.heap.size < w7.heap.size := r7.lt
        have t7 := hbr.trans (b7.mono hbr.size)
        have HRA7 := Lib.hid (ra.below b7)
        have HRZ7 := Lib.hid (rz.below b7)
        have HR37 := Lib.hid (r3.below b7)
        have HKN7 := Lib.hid (HKNR.out.below b7)
        have HO7 := Lib.hid (HO.out.below b7)
        clear b6 u6 g7 s7 b7 ra rz r3 x0 x1 x2 x3 y0 y1 y2 y3 hbr kre
        generalize wr.heap.size = GT at *
        go_wp2_with fail
        go_loopw [7] (fun i wi => ∃ (j : Nat) (F2 : Nat → Prop), j ≤ b.ops.length ∧ i = .int .i64 (j : Int) ∧ OwnF oBlock 39 wi (.slice A1 bs.length c1) ((mixZ L bs k).set k ⟨mixZ (foldOps b.ops y) b.ops j, b.fin⟩) F2 ∧ (∀ x, F2 x → F x) ∧ Row wi GT 77 (knownCells (behindOps (b.ops.take j) y)) ∧ Row wi w.heap.size 24 (graphCells (.slice (some ad) bs.length c) ⟨nm, false, lf, bs⟩) ∧ Row wi (w.heap.size + 1) 24 [.string ⟨#[]⟩, .bool false, .bool false, .slice none 0 0] ∧ Row wi G3 24 (graphCells (.slice A1 bs.length c1) ⟨nm, false, lf, bs⟩) ∧ OwnF oKnown 77 wi (.slice (some ⟨H, 0, none⟩) bs.length bs.length) ins (fun b => b = H) ∧ Below w.heap.size w wi ∧ GT < wi.heap.size) (fun i _ => b.ops.length - (intOf i).toNat)
        case atStart => exact ⟨0, F, Nat.zero_le _, rfl, by rw [mixZ_zero]; exact (set_same HMK.out).symm ▸ HO7.out, fun x hx => hx, r7, HRA7.out, HRZ7.out, HR37.out, HKN7.out, t7, hGT7⟩
        case round =>
          obtain ⟨j, F2, hj, rfl, ho, hF2, rk, ra, rz, r3, hknO, hbr, hgt⟩ := hrel
          clear r7 t7 hGT7
          have x3 := ra.cell (j := 3) rfl
          have HML2 := Lib.hid (HML.out : (mixZ L bs k).length = bs.length)
          have hkL : k < (mixZ L bs k).length := by rw [HML2.out]; exact hlt
          have HKL := Lib.hid hkL
          obtain ⟨w0, w1, w2, w3, w4, w5, w6, w7, w8, w9, w10, w11⟩ := HIW.out
          have i0 := Sub.of_below hbr _ _ w0
          by_cases hltj : j < b.ops.length
          · obtain ⟨o, hoj⟩ := get_some b.ops j hltj
            have hro := HRT.out o (List.mem_of_getElem? hoj)
            have hkk := behindOps_wf (os := b.ops.take j) hyw
            have hsn := behindOps_snoc hoj y
            have hmo := mixZ_at (foldOps_len b.ops y) hoj
            have hmso := mixZ_succ (foldOps_len b.ops y) (foldOps_at hoj y)
            have hmlo := mixZ_len (foldOps_len b.ops y) j
            obtain ⟨ad2, rfl, v0, v1, v2, v3, v4, v5, v6, v7, v8, hwo⟩ := Op_at HG0.out hoj
            have had2 : ad2.block < w.heap.size := by have := World.lt_of_cell v0; unfold Addr.add at this; split at this <;> exact this
            obtain ⟨kn, hkne⟩ : ∃ kn, kn = behindOps (b.ops.take (j + 1)) y := ⟨_, rfl⟩
            obtain ⟨kk, hkke⟩ : ∃ kk, kk = behindOps (b.ops.take j) y := ⟨_, rfl⟩
            rw [← hkke] at hkk hsn rk
            rw [← hkne] at hsn hmso
            have hkn : kn.wf := by rw [hsn]; exact behindK_wf hkk o
            have hfwf := foldOp_wf hkn hro hwo
            obtain ⟨fo, hfo⟩ : ∃ fo, fo = foldOp o kn := ⟨_, rfl⟩
            rw [← hfo] at hmso hfwf
            obtain ⟨g1, q1, cs, Fi, F0, z0, lq, mq, h0, hO, d0, iff0⟩ := ho.open_ (set_getC hkL)
            injection z0 with z1 z2 z3
            subst z1 z3
            obtain ⟨v, rfl, hwf, oo⟩ := hO
            obtain ⟨p2, q2, z4, l4, m4, h2⟩ := oo.openOp hmo
            subst z4
            have hp2 : Fi p2 := oo.row rfl
            have hg1F := hF2 g1 ((iff0 g1).2 (.inl h0.row))
            have hp2F := hF2 p2 ((iff0 p2).2 (.inr hp2))
            have hG1 := HF.out g1 hg1F
            have hP2 := HF.out p2 hp2F
            have hG1t := HGT0.out g1 hg1F
            have hP2t := HGT0.out p2 hp2F
            have hne : p2 ≠ g1 := fun e => d0 _ hp2 (e ▸ h0.row)
            have hF0t : ∀ x, F0 x → x < GT := fun x hx => HGT0.out x (hF2 x ((iff0 x).2 (.inl hx)))
            have hFit : ∀ x, Fi x → x < GT := fun x hx => HGT0.out x (hF2 x ((iff0 x).2 (.inr hx)))
            have HBK := Lib.hid hsn.symm
            have HFO := Lib.hid hfo.symm
            have HKNE := Lib.hid hkne
            have HMSO := Lib.hid hmso
            have HMLO := Lib.hid hmlo
            have HD0 := Lib.hid d0
            have HIFF := Lib.hid iff0
            have HWF := Lib.hid hwf
            have HFWF := Lib.hid hfwf
            have HP2 := Lib.hid hp2
            have HF2 := Lib.hid hF2
            have HF0T := Lib.hid hF0t
            have HFIT := Lib.hid hFit
            have HH0 := Lib.hid h0
            have HH2i := Lib.hid h2
            have HKNO := Lib.hid hknO
            have HVS := Lib.hid (And.intro v0 (And.intro v1 (And.intro v2 (And.intro v3 (And.intro v4 (And.intro v5 (And.intro v6 (And.intro v7 v8))))))))
            have HLTJ : (j : Int) < (b.ops.length : Int) := by omega
            have HLTK : (k : Int) < (bs.length : Int) := by omega
            have e0 := Sub.of_below hbr _ _ v0
            have e1 := Sub.of_below hbr _ _ v1
            have e2 := Sub.of_below hbr _ _ v2
            have e3 := Sub.of_below hbr _ _ v3
            have e4 := Sub.of_below hbr _ _ v4
            have e5 := Sub.of_below hbr _ _ v5
            have e6 := Sub.of_below hbr _ _ v6
            have e7 := Sub.of_below hbr _ _ v7
            have e8 := Sub.of_below hbr _ _ v8
            have bd := (Below.refl wr.heap.size wr).drew
            have rkd := rk.below bd
            clear z2 ho hF2 hsn hfo hkne hkke hmo hmso hmlo d0 iff0 hwf hfwf hp2 hg1F hp2F hF0t hFit h0 h2 oo hknO lq mq l4 m4 hoj hwo w0 w1 w2 w3 w4 w5 w6 w7 w8 w9 w10 w11 v0 v1 v2 v3 v4 v5 v6 v7 v8
            go_upto_region 14 with fail
            refine wp_region_held_drew (S := (fun w' => wr.grownBy w' (some GT))) (by kernel_rfl) (grown_below bd) (fun hHeld => ?_)
            refine wpAnyH_take (i := 1) (oi := _) (v := ?v14m1_1) rfl (by kernel_rfl) (by kernel_rfl) (by kernel_rfl) (fun _ _ _ h => h) (Or.inl ⟨by rfl, ?hy14m1_1⟩) hHeld ?_
            case hy14m1_1 => (intro wS hSw; (try dsimp only at hSw); have cx3 := hSw.cell x3 (fun e => by injection e with e; (try simp only [add_blockV] at e); omega); have ci0 := hSw.cell i0 (fun e => by injection e with e; (try simp only [add_blockV] at e); omega); have ce0 := hSw.cell e0 (fun e => by injection e with e; (try simp only [add_blockV] at e); omega); have ce1 := hSw.cell e1 (fun e => by injection e with e; (try simp only [add_blockV] at e); omega); have ce2 := hSw.cell e2 (fun e => by injection e with e; (try simp only [add_blockV] at e); omega); have ce3 := hSw.cell e3 (fun e => by injection e with e; (try simp only [add_blockV] at e); omega); have ce4 := hSw.cell e4 (fun e => by injection e with e; (try simp only [add_blockV] at e); omega); have ce5 := hSw.cell e5 (fun e => by injection e with e; (try simp only [add_blockV] at e); omega); have ce6 := hSw.cell e6 (fun e => by injection e with e; (try simp only [add_blockV] at e); omega); have ce7 := hSw.cell e7 (fun e => by injection e with e; (try simp only [add_blockV] at e); omega); have ce8 := hSw.cell e8 (fun e => by injection e with e; (try simp only [add_blockV] at e); omega); clear hSw; go_simp; try with_reducible rfl)
            try simp only [List.getElem_toArray, List.getElem_cons_succ, List.getElem_cons_zero, Act.put, List.setIfInBounds_toArray, List.set_cons_zero, List.set_cons_succ]
            refine wpAnyH_take (i := 2) (oi := _) (v := ?v14m1_2) rfl (by kernel_rfl) (by kernel_rfl) (by kernel_rfl) (fun _ _ _ h => h) (Or.inl ⟨by rfl, ?hy14m1_2⟩) hHeld ?_
            case hy14m1_2 => (intro wS hSw; (try dsimp only at hSw); have cx3 := hSw.cell x3 (fun e => by injection e with e; (try simp only [add_blockV] at e); omega); have ci0 := hSw.cell i0 (fun e => by injection e with e; (try simp only [add_blockV] at e); omega); have ce0 := hSw.cell e0 (fun e => by injection e with e; (try simp only [add_blockV] at e); omega); have ce1 := hSw.cell e1 (fun e => by injection e with e; (try simp only [add_blockV] at e); omega); have ce2 := hSw.cell e2 (fun e => by injection e with e; (try simp only [add_blockV] at e); omega); have ce3 := hSw.cell e3 (fun e => by injection e with e; (try simp only [add_blockV] at e); omega); have ce4 := hSw.cell e4 (fun e => by injection e with e; (try simp only [add_blockV] at e); omega); have ce5 := hSw.cell e5 (fun e => by injection e with e; (try simp only [add_blockV] at e); omega); have ce6 := hSw.cell e6 (fun e => by injection e with e; (try simp only [add_blockV] at e); omega); have ce7 := hSw.cell e7 (fun e => by injection e with e; (try simp only [add_blockV] at e); omega); have ce8 := hSw.cell e8 (fun e => by injection e with e; (try simp only [add_blockV] at e); omega); clear hSw; go_simp; try with_reducible rfl)
            try simp only [List.getElem_toArray, List.getElem_cons_succ, List.getElem_cons_zero, Act.put, List.setIfInBounds_toArray, List.set_cons_zero, List.set_cons_succ]
            refine wpAnyH_take (i := 3) (oi := _) (v := ?v14m1_3) rfl (by kernel_rfl) (by kernel_rfl) (by kernel_rfl) (fun _ _ _ h => h) (Or.inl ⟨by rfl, ?hy14m1_3⟩) hHeld ?_
            case hy14m1_3 => (intro wS hSw; (try dsimp only at hSw); have cx3 := hSw.cell x3 (fun e => by injection e with e; (try simp only [add_blockV] at e); omega); have ci0 := hSw.cell i0 (fun e => by injection e with e; (try simp only [add_blockV] at e); omega); have ce0 := hSw.cell e0 (fun e => by injection e with e; (try simp only [add_blockV] at e); omega); have ce1 := hSw.cell e1 (fun e => by injection e with e; (try simp only [add_blockV] at e); omega); have ce2 := hSw.cell e2 (fun e => by injection e with e; (try simp only [add_blockV] at e); omega); have ce3 := hSw.cell e3 (fun e => by injection e with e; (try simp only [add_blockV] at e); omega); have ce4 := hSw.cell e4 (fun e => by injection e with e; (try simp only [add_blockV] at e); omega); have ce5 := hSw.cell e5 (fun e => by injection e with e; (try simp only [add_blockV] at e); omega); have ce6 := hSw.cell e6 (fun e => by injection e with e; (try simp only [add_blockV] at e); omega); have ce7 := hSw.cell e7 (fun e => by injection e with e; (try simp only [add_blockV] at e); omega); have ce8 := hSw.cell e8 (fun e => by injection e with e; (try simp only [add_blockV] at e); omega); clear hSw; go_simp; try with_reducible rfl)
            try simp only [List.getElem_toArray, List.getElem_cons_succ, List.getElem_cons_zero, Act.put, List.setIfInBounds_toArray, List.set_cons_zero, List.set_cons_succ]
            refine wpAnyH_take (i := 4) (oi := _) (v := ?v14m1_4) rfl (by kernel_rfl) (by kernel_rfl) (by kernel_rfl) (fun _ _ _ h => h) (Or.inl ⟨by rfl, ?hy14m1_4⟩) hHeld ?_
            case hy14m1_4 => (intro wS hSw; (try dsimp only at hSw); have cx3 := hSw.cell x3 (fun e => by injection e with e; (try simp only [add_blockV] at e); omega); have ci0 := hSw.cell i0 (fun e => by injection e with e; (try simp only [add_blockV] at e); omega); have ce0 := hSw.cell e0 (fun e => by injection e with e; (try simp only [add_blockV] at e); omega); have ce1 := hSw.cell e1 (fun e => by injection e with e; (try simp only [add_blockV] at e); omega); have ce2 := hSw.cell e2 (fun e => by injection e with e; (try simp only [add_blockV] at e); omega); have ce3 := hSw.cell e3 (fun e => by injection e with e; (try simp only [add_blockV] at e); omega); have ce4 := hSw.cell e4 (fun e => by injection e with e; (try simp only [add_blockV] at e); omega); have ce5 := hSw.cell e5 (fun e => by injection e with e; (try simp only [add_blockV] at e); omega); have ce6 := hSw.cell e6 (fun e => by injection e with e; (try simp only [add_blockV] at e); omega); have ce7 := hSw.cell e7 (fun e => by injection e with e; (try simp only [add_blockV] at e); omega); have ce8 := hSw.cell e8 (fun e => by injection e with e; (try simp only [add_blockV] at e); omega); clear hSw; go_simp; try with_reducible rfl)
            try simp only [List.getElem_toArray, List.getElem_cons_succ, List.getElem_cons_zero, Act.put, List.setIfInBounds_toArray, List.set_cons_zero, List.set_cons_succ]
            refine wpAnyH_take (i := 5) (oi := _) (v := ?v14m1_5) rfl (by kernel_rfl) (by kernel_rfl) (by kernel_rfl) (fun _ _ _ h => h) (Or.inl ⟨by rfl, ?hy14m1_5⟩) hHeld ?_
            case hy14m1_5 => (intro wS hSw; (try dsimp only at hSw); have cx3 := hSw.cell x3 (fun e => by injection e with e; (try simp only [add_blockV] at e); omega); have ci0 := hSw.cell i0 (fun e => by injection e with e; (try simp only [add_blockV] at e); omega); have ce0 := hSw.cell e0 (fun e => by injection e with e; (try simp only [add_blockV] at e); omega); have ce1 := hSw.cell e1 (fun e => by injection e with e; (try simp only [add_blockV] at e); omega); have ce2 := hSw.cell e2 (fun e => by injection e with e; (try simp only [add_blockV] at e); omega); have ce3 := hSw.cell e3 (fun e => by injection e with e; (try simp only [add_blockV] at e); omega); have ce4 := hSw.cell e4 (fun e => by injection e with e; (try simp only [add_blockV] at e); omega); have ce5 := hSw.cell e5 (fun e => by injection e with e; (try simp only [add_blockV] at e); omega); have ce6 := hSw.cell e6 (fun e => by injection e with e; (try simp only [add_blockV] at e); omega); have ce7 := hSw.cell e7 (fun e => by injection e with e; (try simp only [add_blockV] at e); omega); have ce8 := hSw.cell e8 (fun e => by injection e with e; (try simp only [add_blockV] at e); omega); clear hSw; go_simp; try with_reducible rfl)
            try simp only [List.getElem_toArray, List.getElem_cons_succ, List.getElem_cons_zero, Act.put, List.setIfInBounds_toArray, List.set_cons_zero, List.set_cons_succ]
            refine wpAnyH_take (i := 6) (oi := _) (v := ?v14m1_6) rfl (by kernel_rfl) (by kernel_rfl) (by kernel_rfl) (fun _ _ _ h => h) (Or.inl ⟨by rfl, ?hy14m1_6⟩) hHeld ?_
            case hy14m1_6 => (intro wS hSw; (try dsimp only at hSw); have cx3 := hSw.cell x3 (fun e => by injection e with e; (try simp only [add_blockV] at e); omega); have ci0 := hSw.cell i0 (fun e => by injection e with e; (try simp only [add_blockV] at e); omega); have ce0 := hSw.cell e0 (fun e => by injection e with e; (try simp only [add_blockV] at e); omega); have ce1 := hSw.cell e1 (fun e => by injection e with e; (try simp only [add_blockV] at e); omega); have ce2 := hSw.cell e2 (fun e => by injection e with e; (try simp only [add_blockV] at e); omega); have ce3 := hSw.cell e3 (fun e => by injection e with e; (try simp only [add_blockV] at e); omega); have ce4 := hSw.cell e4 (fun e => by injection e with e; (try simp only [add_blockV] at e); omega); have ce5 := hSw.cell e5 (fun e => by injection e with e; (try simp only [add_blockV] at e); omega); have ce6 := hSw.cell e6 (fun e => by injection e with e; (try simp only [add_blockV] at e); omega); have ce7 := hSw.cell e7 (fun e => by injection e with e; (try simp only [add_blockV] at e); omega); have ce8 := hSw.cell e8 (fun e => by injection e with e; (try simp only [add_blockV] at e); omega); clear hSw; go_simp; try with_reducible rfl)
            try simp only [List.getElem_toArray, List.getElem_cons_succ, List.getElem_cons_zero, Act.put, List.setIfInBounds_toArray, List.set_cons_zero, List.set_cons_succ]
            refine wpAnyH_take (i := 7) (oi := _) (v := ?v14m1_7) rfl (by kernel_rfl) (by kernel_rfl) (by kernel_rfl) (fun _ _ _ h => h) (Or.inl ⟨by rfl, ?hy14m1_7⟩) hHeld ?_
            case hy14m1_7 => (intro wS hSw; (try dsimp only at hSw); have cx3 := hSw.cell x3 (fun e => by injection e with e; (try simp only [add_blockV] at e); omega); have ci0 := hSw.cell i0 (fun e => by injection e with e; (try simp only [add_blockV] at e); omega); have ce0 := hSw.cell e0 (fun e => by injection e with e; (try simp only [add_blockV] at e); omega); have ce1 := hSw.cell e1 (fun e => by injection e with e; (try simp only [add_blockV] at e); omega); have ce2 := hSw.cell e2 (fun e => by injection e with e; (try simp only [add_blockV] at e); omega); have ce3 := hSw.cell e3 (fun e => by injection e with e; (try simp only [add_blockV] at e); omega); have ce4 := hSw.cell e4 (fun e => by injection e with e; (try simp only [add_blockV] at e); omega); have ce5 := hSw.cell e5 (fun e => by injection e with e; (try simp only [add_blockV] at e); omega); have ce6 := hSw.cell e6 (fun e => by injection e with e; (try simp only [add_blockV] at e); omega); have ce7 := hSw.cell e7 (fun e => by injection e with e; (try simp only [add_blockV] at e); omega); have ce8 := hSw.cell e8 (fun e => by injection e with e; (try simp only [add_blockV] at e); omega); clear hSw; go_simp; try with_reducible rfl)
            try simp only [List.getElem_toArray, List.getElem_cons_succ, List.getElem_cons_zero, Act.put, List.setIfInBounds_toArray, List.set_cons_zero, List.set_cons_succ]
            refine wpAnyH_take (i := 8) (oi := _) (v := ?v14m1_8) rfl (by kernel_rfl) (by kernel_rfl) (by kernel_rfl) (fun _ _ _ h => h) (Or.inl ⟨by rfl, ?hy14m1_8⟩) hHeld ?_
            case hy14m1_8 => (intro wS hSw; (try dsimp only at hSw); have cx3 := hSw.cell x3 (fun e => by injection e with e; (try simp only [add_blockV] at e); omega); have ci0 := hSw.cell i0 (fun e => by injection e with e; (try simp only [add_blockV] at e); omega); have ce0 := hSw.cell e0 (fun e => by injection e with e; (try simp only [add_blockV] at e); omega); have ce1 := hSw.cell e1 (fun e => by injection e with e; (try simp only [add_blockV] at e); omega); have ce2 := hSw.cell e2 (fun e => by injection e with e; (try simp only [add_blockV] at e); omega); have ce3 := hSw.cell e3 (fun e => by injection e with e; (try simp only [add_blockV] at e); omega); have ce4 := hSw.cell e4 (fun e => by injection e with e; (try simp only [add_blockV] at e); omega); have ce5 := hSw.cell e5 (fun e => by injection e with e; (try simp only [add_blockV] at e); omega); have ce6 := hSw.cell e6 (fun e => by injection e with e; (try simp only [add_blockV] at e); omega); have ce7 := hSw.cell e7 (fun e => by injection e with e; (try simp only [add_blockV] at e); omega); have ce8 := hSw.cell e8 (fun e => by injection e with e; (try simp only [add_blockV] at e); omega); clear hSw; go_simp; try with_reducible rfl)
            try simp only [List.getElem_toArray, List.getElem_cons_succ, List.getElem_cons_zero, Act.put, List.setIfInBounds_toArray, List.set_cons_zero, List.set_cons_succ]
            refine wpAnyH_take (i := 9) (oi := _) (v := ?v14m1_9) rfl (by kernel_rfl) (by kernel_rfl) (by kernel_rfl) (fun _ _ _ h => h) (Or.inl ⟨by rfl, ?hy14m1_9⟩) hHeld ?_
            case hy14m1_9 => (intro wS hSw; (try dsimp only at hSw); have cx3 := hSw.cell x3 (fun e => by injection e with e; (try simp only [add_blockV] at e); omega); have ci0 := hSw.cell i0 (fun e => by injection e with e; (try simp only [add_blockV] at e); omega); have ce0 := hSw.cell e0 (fun e => by injection e with e; (try simp only [add_blockV] at e); omega); have ce1 := hSw.cell e1 (fun e => by injection e with e; (try simp only [add_blockV] at e); omega); have ce2 := hSw.cell e2 (fun e => by injection e with e; (try simp only [add_blockV] at e); omega); have ce3 := hSw.cell e3 (fun e => by injection e with e; (try simp only [add_blockV] at e); omega); have ce4 := hSw.cell e4 (fun e => by injection e with e; (try simp only [add_blockV] at e); omega); have ce5 := hSw.cell e5 (fun e => by injection e with e; (try simp only [add_blockV] at e); omega); have ce6 := hSw.cell e6 (fun e => by injection e with e; (try simp only [add_blockV] at e); omega); have ce7 := hSw.cell e7 (fun e => by injection e with e; (try simp only [add_blockV] at e); omega); have ce8 := hSw.cell e8 (fun e => by injection e with e; (try simp only [add_blockV] at e); omega); clear hSw; go_simp; try with_reducible rfl)
            try simp only [List.getElem_toArray, List.getElem_cons_succ, List.getElem_cons_zero, Act.put, List.setIfInBounds_toArray, List.set_cons_zero, List.set_cons_succ]
            refine wpAnyH_ready (rs := [0]) (by kernel_rfl) (by simp) ?_
            refine (AllReadyH.cons (o := _) rfl (fun K hK => ?_) AllReadyH.nil)
            refine step_load_known _ kk GT hkk rkd rfl rfl rfl ?_
            refine hK.out _ _ (hHeld) (fun hHeld10 => ?_)
            clear hK K hHeld
            try simp only [List.getElem_toArray, List.getElem_cons_succ, List.getElem_cons_zero, Act.put, List.setIfInBounds_toArray, List.set_cons_zero, List.set_cons_succ]
            refine wpAnyH_ready (rs := [10]) (by kernel_rfl) (by simp) ?_
            refine (AllReadyH.cons (o := _) rfl (fun K hK => ?_) AllReadyH.nil)
            go_simp
            refine (refBehind_calls kk o _ hkk hro).mono ?_
            rw [HBK.out]
            rintro e w5 ⟨rfl, hb5⟩
            have q5 := rkd.below hb5
            go_wp2_with fail
            refine hK.out _ _ (grown_trans hHeld10 (grown_below hb5)) (fun hHeld11 => ?_)
            clear hK K hHeld10
            try simp only [List.getElem_toArray, List.getElem_cons_succ, List.getElem_cons_zero, Act.put, List.setIfInBounds_toArray, List.set_cons_zero, List.set_cons_succ]
            refine wpAnyH_ready (rs := [11]) (by kernel_rfl) (by simp) ?_
            refine (AllReadyH.cons (o := _) rfl (fun K hK => ?_) AllReadyH.nil)
            refine step_put_row rfl _ _ _ rfl GT (knownCells kn) rfl rfl q5 (infoKnown hkn) (by rw [knownCells_len hkn, knownCells_len hkk]) (knownCells_one _) ?_
            intro w6 r6 g6 s6
            clear s6
            refine hK.out _ _ (grown_trans hHeld11 g6) (fun hHeld12 => ?_)
            clear hK K hHeld11
            try simp only [List.getElem_toArray, List.getElem_cons_succ, List.getElem_cons_zero, Act.put, List.setIfInBounds_toArray, List.set_cons_zero, List.set_cons_succ]
            refine wpAnyH_done (by kernel_rfl) ?_ _
            have g14 := hHeld12
            have t6 := hbr.grown g14 hbr.size (fun q hq => by injection hq with hq; omega)
            clear x3 i0 e0 e1 e2 e3 e4 e5 e6 e7 e8 hHeld12 q5 rkd rk bd hb5 g6
            have ra6 := ra.grown g14 (fun e => by injection e with e; omega)
            have r36 := r3.grown g14 (fun e => by injection e with e; omega)
            have rz6 := rz.grown g14 (fun e => by injection e with e; omega)
            have h06 := HH0.out.grown g14 (fun x hx e => by injection e with e; have := HF0T.out x hx; omega)
            have HH2 := Lib.hid (HH2i.out.grown g14 (fun x hx e => by injection e with e; have := HFIT.out x hx; omega))
            have hkn6 := HKNO.out.grown g14 (fun x hx e => by injection e with e; omega)
            have x3 := ra6.cell (j := 3) rfl
            have y3 := r36.cell (j := 3) rfl
            have z0 := h06.block.1
            rw [HMLO.out] at z0
            have bd6 := (Below.refl w6.heap.size w6).drew
            obtain ⟨v0, v1, v2, v3, v4, v5, v6, v7, v8⟩ := HVS.out
            have i0 := Sub.of_below t6 _ _ HIW.out.1
            have e0 := Sub.of_below t6 _ _ v0
            have e1 := Sub.of_below t6 _ _ v1
            have e2 := Sub.of_below t6 _ _ v2
            have e3 := Sub.of_below t6 _ _ v3
            have e4 := Sub.of_below t6 _ _ v4
            have e5 := Sub.of_below t6 _ _ v5
            have e6 := Sub.of_below t6 _ _ v6
            have e7 := Sub.of_below t6 _ _ v7
            have e8 := Sub.of_below t6 _ _ v8
            have HRA6 := Lib.hid ra6
            have HR36 := Lib.hid r36
            have HRZ6 := Lib.hid rz6
            have HH06 := Lib.hid h06
            have HKN6 := Lib.hid hkn6
            clear ra6 r36 rz6 h06 hkn6 v0 v1 v2 v3 v4 v5 v6 v7 v8 ra r3 rz
            go_upto_region 15 with fail
            refine wp_region_held_drew (S := (fun w' => w6.grownBy w' (some p2))) (by kernel_rfl) (grown_below bd6) (fun hHeld => ?_)
            refine wpAnyH_take (i := 0) (oi := _) (v := ?v15m2_1) rfl (by kernel_rfl) (by kernel_rfl) (by kernel_rfl) (fun _ _ _ h => h) (Or.inl ⟨by rfl, ?hy15m2_1⟩) hHeld ?_
            case hy15m2_1 => (intro wS hSw; (try dsimp only at hSw); have dx3 := hSw.cell x3 (fun e => by injection e with e; (try simp only [add_blockV] at e); omega); have dy3 := hSw.cell y3 (fun e => by injection e with e; (try simp only [add_blockV] at e); omega); have dz0 := hSw.cell z0 (fun e => by injection e with e; (try simp only [add_blockV] at e); omega); have di0 := hSw.cell i0 (fun e => by injection e with e; (try simp only [add_blockV] at e); omega); have de0 := hSw.cell e0 (fun e => by injection e with e; (try simp only [add_blockV] at e); omega); have de1 := hSw.cell e1 (fun e => by injection e with e; (try simp only [add_blockV] at e); omega); have de2 := hSw.cell e2 (fun e => by injection e with e; (try simp only [add_blockV] at e); omega); have de3 := hSw.cell e3 (fun e => by injection e with e; (try simp only [add_blockV] at e); omega); have de4 := hSw.cell e4 (fun e => by injection e with e; (try simp only [add_blockV] at e); omega); have de5 := hSw.cell e5 (fun e => by injection e with e; (try simp only [add_blockV] at e); omega); have de6 := hSw.cell e6 (fun e => by injection e with e; (try simp only [add_blockV] at e); omega); have de7 := hSw.cell e7 (fun e => by injection e with e; (try simp only [add_blockV] at e); omega); have de8 := hSw.cell e8 (fun e => by injection e with e; (try simp only [add_blockV] at e); omega); clear hSw; go_simp; try with_reducible rfl)
            try simp only [List.getElem_toArray, List.getElem_cons_succ, List.getElem_cons_zero, Act.put, List.setIfInBounds_toArray, List.set_cons_zero, List.set_cons_succ]
            refine wpAnyH_take (i := 1) (oi := _) (v := ?v15m2_2) rfl (by kernel_rfl) (by kernel_rfl) (by kernel_rfl) (fun _ _ _ h => h) (Or.inl ⟨by rfl, ?hy15m2_2⟩) hHeld ?_
            case hy15m2_2 => (intro wS hSw; (try dsimp only at hSw); have dx3 := hSw.cell x3 (fun e => by injection e with e; (try simp only [add_blockV] at e); omega); have dy3 := hSw.cell y3 (fun e => by injection e with e; (try simp only [add_blockV] at e); omega); have dz0 := hSw.cell z0 (fun e => by injection e with e; (try simp only [add_blockV] at e); omega); have di0 := hSw.cell i0 (fun e => by injection e with e; (try simp only [add_blockV] at e); omega); have de0 := hSw.cell e0 (fun e => by injection e with e; (try simp only [add_blockV] at e); omega); have de1 := hSw.cell e1 (fun e => by injection e with e; (try simp only [add_blockV] at e); omega); have de2 := hSw.cell e2 (fun e => by injection e with e; (try simp only [add_blockV] at e); omega); have de3 := hSw.cell e3 (fun e => by injection e with e; (try simp only [add_blockV] at e); omega); have de4 := hSw.cell e4 (fun e => by injection e with e; (try simp only [add_blockV] at e); omega); have de5 := hSw.cell e5 (fun e => by injection e with e; (try simp only [add_blockV] at e); omega); have de6 := hSw.cell e6 (fun e => by injection e with e; (try simp only [add_blockV] at e); omega); have de7 := hSw.cell e7 (fun e => by injection e with e; (try simp only [add_blockV] at e); omega); have de8 := hSw.cell e8 (fun e => by injection e with e; (try simp only [add_blockV] at e); omega); clear hSw; go_simp; try with_reducible rfl)
            try simp only [List.getElem_toArray, List.getElem_cons_succ, List.getElem_cons_zero, Act.put, List.setIfInBounds_toArray, List.set_cons_zero, List.set_cons_succ]
            refine wpAnyH_take (i := 2) (oi := _) (v := ?v15m2_3) rfl (by kernel_rfl) (by kernel_rfl) (by kernel_rfl) (fun _ _ _ h => h) (Or.inl ⟨by rfl, ?hy15m2_3⟩) hHeld ?_
            case hy15m2_3 => (intro wS hSw; (try dsimp only at hSw); have dx3 := hSw.cell x3 (fun e => by injection e with e; (try simp only [add_blockV] at e); omega); have dy3 := hSw.cell y3 (fun e => by injection e with e; (try simp only [add_blockV] at e); omega); have dz0 := hSw.cell z0 (fun e => by injection e with e; (try simp only [add_blockV] at e); omega); have di0 := hSw.cell i0 (fun e => by injection e with e; (try simp only [add_blockV] at e); omega); have de0 := hSw.cell e0 (fun e => by injection e with e; (try simp only [add_blockV] at e); omega); have de1 := hSw.cell e1 (fun e => by injection e with e; (try simp only [add_blockV] at e); omega); have de2 := hSw.cell e2 (fun e => by injection e with e; (try simp only [add_blockV] at e); omega); have de3 := hSw.cell e3 (fun e => by injection e with e; (try simp only [add_blockV] at e); omega); have de4 := hSw.cell e4 (fun e => by injection e with e; (try simp only [add_blockV] at e); omega); have de5 := hSw.cell e5 (fun e => by injection e with e; (try simp only [add_blockV] at e); omega); have de6 := hSw.cell e6 (fun e => by injection e with e; (try simp only [add_blockV] at e); omega); have de7 := hSw.cell e7 (fun e => by injection e with e; (try simp only [add_blockV] at e); omega); have de8 := hSw.cell e8 (fun e => by injection e with e; (try simp only [add_blockV] at e); omega); clear hSw; go_simp; try with_reducible rfl)
            try simp only [List.getElem_toArray, List.getElem_cons_succ, List.getElem_cons_zero, Act.put, List.setIfInBounds_toArray, List.set_cons_zero, List.set_cons_succ]
            refine wpAnyH_take (i := 3) (oi := _) (v := ?v15m2_4) rfl (by kernel_rfl) (by kernel_rfl) (by kernel_rfl) (fun _ _ _ h => h) (Or.inl ⟨by rfl, ?hy15m2_4⟩) hHeld ?_
            case hy15m2_4 => (intro wS hSw; (try dsimp only at hSw); have dx3 := hSw.cell x3 (fun e => by injection e with e; (try simp only [add_blockV] at e); omega); have dy3 := hSw.cell y3 (fun e => by injection e with e; (try simp only [add_blockV] at e); omega); have dz0 := hSw.cell z0 (fun e => by injection e with e; (try simp only [add_blockV] at e); omega); have di0 := hSw.cell i0 (fun e => by injection e with e; (try simp only [add_blockV] at e); omega); have de0 := hSw.cell e0 (fun e => by injection e with e; (try simp only [add_blockV] at e); omega); have de1 := hSw.cell e1 (fun e => by injection e with e; (try simp only [add_blockV] at e); omega); have de2 := hSw.cell e2 (fun e => by injection e with e; (try simp only [add_blockV] at e); omega); have de3 := hSw.cell e3 (fun e => by injection e with e; (try simp only [add_blockV] at e); omega); have de4 := hSw.cell e4 (fun e => by injection e with e; (try simp only [add_blockV] at e); omega); have de5 := hSw.cell e5 (fun e => by injection e with e; (try simp only [add_blockV] at e); omega); have de6 := hSw.cell e6 (fun e => by injection e with e; (try simp only [add_blockV] at e); omega); have de7 := hSw.cell e7 (fun e => by injection e with e; (try simp only [add_blockV] at e); omega); have de8 := hSw.cell e8 (fun e => by injection e with e; (try simp only [add_blockV] at e); omega); clear hSw; go_simp; try with_reducible rfl)
            try simp only [List.getElem_toArray, List.getElem_cons_succ, List.getElem_cons_zero, Act.put, List.setIfInBounds_toArray, List.set_cons_zero, List.set_cons_succ]
            refine wpAnyH_take (i := 4) (oi := _) (v := ?v15m2_5) rfl (by kernel_rfl) (by kernel_rfl) (by kernel_rfl) (fun _ _ _ h => h) (Or.inl ⟨by rfl, ?hy15m2_5⟩) hHeld ?_
            case hy15m2_5 => (intro wS hSw; (try dsimp only at hSw); have dx3 := hSw.cell x3 (fun e => by injection e with e; (try simp only [add_blockV] at e); omega); have dy3 := hSw.cell y3 (fun e => by injection e with e; (try simp only [add_blockV] at e); omega); have dz0 := hSw.cell z0 (fun e => by injection e with e; (try simp only [add_blockV] at e); omega); have di0 := hSw.cell i0 (fun e => by injection e with e; (try simp only [add_blockV] at e); omega); have de0 := hSw.cell e0 (fun e => by injection e with e; (try simp only [add_blockV] at e); omega); have de1 := hSw.cell e1 (fun e => by injection e with e; (try simp only [add_blockV] at e); omega); have de2 := hSw.cell e2 (fun e => by injection e with e; (try simp only [add_blockV] at e); omega); have de3 := hSw.cell e3 (fun e => by injection e with e; (try simp only [add_blockV] at e); omega); have de4 := hSw.cell e4 (fun e => by injection e with e; (try simp only [add_blockV] at e); omega); have de5 := hSw.cell e5 (fun e => by injection e with e; (try simp only [add_blockV] at e); omega); have de6 := hSw.cell e6 (fun e => by injection e with e; (try simp only [add_blockV] at e); omega); have de7 := hSw.cell e7 (fun e => by injection e with e; (try simp only [add_blockV] at e); omega); have de8 := hSw.cell e8 (fun e => by injection e with e; (try simp only [add_blockV] at e); omega); clear hSw; go_simp; try with_reducible rfl)
            try simp only [List.getElem_toArray, List.getElem_cons_succ, List.getElem_cons_zero, Act.put, List.setIfInBounds_toArray, List.set_cons_zero, List.set_cons_succ]
            refine wpAnyH_take (i := 5) (oi := _) (v := ?v15m2_6) rfl (by kernel_rfl) (by kernel_rfl) (by kernel_rfl) (fun _ _ _ h => h) (Or.inl ⟨by rfl, ?hy15m2_6⟩) hHeld ?_
            case hy15m2_6 => (intro wS hSw; (try dsimp only at hSw); have dx3 := hSw.cell x3 (fun e => by injection e with e; (try simp only [add_blockV] at e); omega); have dy3 := hSw.cell y3 (fun e => by injection e with e; (try simp only [add_blockV] at e); omega); have dz0 := hSw.cell z0 (fun e => by injection e with e; (try simp only [add_blockV] at e); omega); have di0 := hSw.cell i0 (fun e => by injection e with e; (try simp only [add_blockV] at e); omega); have de0 := hSw.cell e0 (fun e => by injection e with e; (try simp only [add_blockV] at e); omega); have de1 := hSw.cell e1 (fun e => by injection e with e; (try simp only [add_blockV] at e); omega); have de2 := hSw.cell e2 (fun e => by injection e with e; (try simp only [add_blockV] at e); omega); have de3 := hSw.cell e3 (fun e => by injection e with e; (try simp only [add_blockV] at e); omega); have de4 := hSw.cell e4 (fun e => by injection e with e; (try simp only [add_blockV] at e); omega); have de5 := hSw.cell e5 (fun e => by injection e with e; (try simp only [add_blockV] at e); omega); have de6 := hSw.cell e6 (fun e => by injection e with e; (try simp only [add_blockV] at e); omega); have de7 := hSw.cell e7 (fun e => by injection e with e; (try simp only [add_blockV] at e); omega); have de8 := hSw.cell e8 (fun e => by injection e with e; (try simp only [add_blockV] at e); omega); clear hSw; go_simp; try with_reducible rfl)
            try simp only [List.getElem_toArray, List.getElem_cons_succ, List.getElem_cons_zero, Act.put, List.setIfInBounds_toArray, List.set_cons_zero, List.set_cons_succ]
            refine wpAnyH_take (i := 6) (oi := _) (v := ?v15m2_7) rfl (by kernel_rfl) (by kernel_rfl) (by kernel_rfl) (fun _ _ _ h => h) (Or.inl ⟨by rfl, ?hy15m2_7⟩) hHeld ?_
            case hy15m2_7 => (intro wS hSw; (try dsimp only at hSw); have dx3 := hSw.cell x3 (fun e => by injection e with e; (try simp only [add_blockV] at e); omega); have dy3 := hSw.cell y3 (fun e => by injection e with e; (try simp only [add_blockV] at e); omega); have dz0 := hSw.cell z0 (fun e => by injection e with e; (try simp only [add_blockV] at e); omega); have di0 := hSw.cell i0 (fun e => by injection e with e; (try simp only [add_blockV] at e); omega); have de0 := hSw.cell e0 (fun e => by injection e with e; (try simp only [add_blockV] at e); omega); have de1 := hSw.cell e1 (fun e => by injection e with e; (try simp only [add_blockV] at e); omega); have de2 := hSw.cell e2 (fun e => by injection e with e; (try simp only [add_blockV] at e); omega); have de3 := hSw.cell e3 (fun e => by injection e with e; (try simp only [add_blockV] at e); omega); have de4 := hSw.cell e4 (fun e => by injection e with e; (try simp only [add_blockV] at e); omega); have de5 := hSw.cell e5 (fun e => by injection e with e; (try simp only [add_blockV] at e); omega); have de6 := hSw.cell e6 (fun e => by injection e with e; (try simp only [add_blockV] at e); omega); have de7 := hSw.cell e7 (fun e => by injection e with e; (try simp only [add_blockV] at e); omega); have de8 := hSw.cell e8 (fun e => by injection e with e; (try simp only [add_blockV] at e); omega); clear hSw; go_simp; try with_reducible rfl)
            try simp only [List.getElem_toArray, List.getElem_cons_succ, List.getElem_cons_zero, Act.put, List.setIfInBounds_toArray, List.set_cons_zero, List.set_cons_succ]
            refine wpAnyH_take (i := 7) (oi := _) (v := ?v15m2_8) rfl (by kernel_rfl) (by kernel_rfl) (by kernel_rfl) (fun _ _ _ h => h) (Or.inl ⟨by rfl, ?hy15m2_8⟩) hHeld ?_
            case hy15m2_8 => (intro wS hSw; (try dsimp only at hSw); have dx3 := hSw.cell x3 (fun e => by injection e with e; (try simp only [add_blockV] at e); omega); have dy3 := hSw.cell y3 (fun e => by injection e with e; (try simp only [add_blockV] at e); omega); have dz0 := hSw.cell z0 (fun e => by injection e with e; (try simp only [add_blockV] at e); omega); have di0 := hSw.cell i0 (fun e => by injection e with e; (try simp only [add_blockV] at e); omega); have de0 := hSw.cell e0 (fun e => by injection e with e; (try simp only [add_blockV] at e); omega); have de1 := hSw.cell e1 (fun e => by injection e with e; (try simp only [add_blockV] at e); omega); have de2 := hSw.cell e2 (fun e => by injection e with e; (try simp only [add_blockV] at e); omega); have de3 := hSw.cell e3 (fun e => by injection e with e; (try simp only [add_blockV] at e); omega); have de4 := hSw.cell e4 (fun e => by injection e with e; (try simp only [add_blockV] at e); omega); have de5 := hSw.cell e5 (fun e => by injection e with e; (try simp only [add_blockV] at e); omega); have de6 := hSw.cell e6 (fun e => by injection e with e; (try simp only [add_blockV] at e); omega); have de7 := hSw.cell e7 (fun e => by injection e with e; (try simp only [add_blockV] at e); omega); have de8 := hSw.cell e8 (fun e => by injection e with e; (try simp only [add_blockV] at e); omega); clear hSw; go_simp; try with_reducible rfl)
            try simp only [List.getElem_toArray, List.getElem_cons_succ, List.getElem_cons_zero, Act.put, List.setIfInBounds_toArray, List.set_cons_zero, List.set_cons_succ]
            refine wpAnyH_take (i := 8) (oi := _) (v := ?v15m2_9) rfl (by kernel_rfl) (by kernel_rfl) (by kernel_rfl) (fun _ _ _ h => h) (Or.inl ⟨by rfl, ?hy15m2_9⟩) hHeld ?_
            case hy15m2_9 => (intro wS hSw; (try dsimp only at hSw); have dx3 := hSw.cell x3 (fun e => by injection e with e; (try simp only [add_blockV] at e); omega); have dy3 := hSw.cell y3 (fun e => by injection e with e; (try simp only [add_blockV] at e); omega); have dz0 := hSw.cell z0 (fun e => by injection e with e; (try simp only [add_blockV] at e); omega); have di0 := hSw.cell i0 (fun e => by injection e with e; (try simp only [add_blockV] at e); omega); have de0 := hSw.cell e0 (fun e => by injection e with e; (try simp only [add_blockV] at e); omega); have de1 := hSw.cell e1 (fun e => by injection e with e; (try simp only [add_blockV] at e); omega); have de2 := hSw.cell e2 (fun e => by injection e with e; (try simp only [add_blockV] at e); omega); have de3 := hSw.cell e3 (fun e => by injection e with e; (try simp only [add_blockV] at e); omega); have de4 := hSw.cell e4 (fun e => by injection e with e; (try simp only [add_blockV] at e); omega); have de5 := hSw.cell e5 (fun e => by injection e with e; (try simp only [add_blockV] at e); omega); have de6 := hSw.cell e6 (fun e => by injection e with e; (try simp only [add_blockV] at e); omega); have de7 := hSw.cell e7 (fun e => by injection e with e; (try simp only [add_blockV] at e); omega); have de8 := hSw.cell e8 (fun e => by injection e with e; (try simp only [add_blockV] at e); omega); clear hSw; go_simp; try with_reducible rfl)
            try simp only [List.getElem_toArray, List.getElem_cons_succ, List.getElem_cons_zero, Act.put, List.setIfInBounds_toArray, List.set_cons_zero, List.set_cons_succ]
            refine wpAnyH_take (i := 9) (oi := _) (v := ?v15m2_10) rfl (by kernel_rfl) (by kernel_rfl) (by kernel_rfl) (fun _ _ _ h => h) (Or.inl ⟨by rfl, ?hy15m2_10⟩) hHeld ?_
            case hy15m2_10 => (intro wS hSw; (try dsimp only at hSw); have dx3 := hSw.cell x3 (fun e => by injection e with e; (try simp only [add_blockV] at e); omega); have dy3 := hSw.cell y3 (fun e => by injection e with e; (try simp only [add_blockV] at e); omega); have dz0 := hSw.cell z0 (fun e => by injection e with e; (try simp only [add_blockV] at e); omega); have di0 := hSw.cell i0 (fun e => by injection e with e; (try simp only [add_blockV] at e); omega); have de0 := hSw.cell e0 (fun e => by injection e with e; (try simp only [add_blockV] at e); omega); have de1 := hSw.cell e1 (fun e => by injection e with e; (try simp only [add_blockV] at e); omega); have de2 := hSw.cell e2 (fun e => by injection e with e; (try simp only [add_blockV] at e); omega); have de3 := hSw.cell e3 (fun e => by injection e with e; (try simp only [add_blockV] at e); omega); have de4 := hSw.cell e4 (fun e => by injection e with e; (try simp only [add_blockV] at e); omega); have de5 := hSw.cell e5 (fun e => by injection e with e; (try simp only [add_blockV] at e); omega); have de6 := hSw.cell e6 (fun e => by injection e with e; (try simp only [add_blockV] at e); omega); have de7 := hSw.cell e7 (fun e => by injection e with e; (try simp only [add_blockV] at e); omega); have de8 := hSw.cell e8 (fun e => by injection e with e; (try simp only [add_blockV] at e); omega); clear hSw; go_simp; try with_reducible rfl)
            try simp only [List.getElem_toArray, List.getElem_cons_succ, List.getElem_cons_zero, Act.put, List.setIfInBounds_toArray, List.set_cons_zero, List.set_cons_succ]
            refine wpAnyH_take (i := 10) (oi := _) (v := ?v15m2_11) rfl (by kernel_rfl) (by kernel_rfl) (by kernel_rfl) (fun _ _ _ h => h) (Or.inl ⟨by rfl, ?hy15m2_11⟩) hHeld ?_
            case hy15m2_11 => (intro wS hSw; (try dsimp only at hSw); have dx3 := hSw.cell x3 (fun e => by injection e with e; (try simp only [add_blockV] at e); omega); have dy3 := hSw.cell y3 (fun e => by injection e with e; (try simp only [add_blockV] at e); omega); have dz0 := hSw.cell z0 (fun e => by injection e with e; (try simp only [add_blockV] at e); omega); have di0 := hSw.cell i0 (fun e => by injection e with e; (try simp only [add_blockV] at e); omega); have de0 := hSw.cell e0 (fun e => by injection e with e; (try simp only [add_blockV] at e); omega); have de1 := hSw.cell e1 (fun e => by injection e with e; (try simp only [add_blockV] at e); omega); have de2 := hSw.cell e2 (fun e => by injection e with e; (try simp only [add_blockV] at e); omega); have de3 := hSw.cell e3 (fun e => by injection e with e; (try simp only [add_blockV] at e); omega); have de4 := hSw.cell e4 (fun e => by injection e with e; (try simp only [add_blockV] at e); omega); have de5 := hSw.cell e5 (fun e => by injection e with e; (try simp only [add_blockV] at e); omega); have de6 := hSw.cell e6 (fun e => by injection e with e; (try simp only [add_blockV] at e); omega); have de7 := hSw.cell e7 (fun e => by injection e with e; (try simp only [add_blockV] at e); omega); have de8 := hSw.cell e8 (fun e => by injection e with e; (try simp only [add_blockV] at e); omega); clear hSw; go_simp; try with_reducible rfl)
            try simp only [List.getElem_toArray, List.getElem_cons_succ, List.getElem_cons_zero, Act.put, List.setIfInBounds_toArray, List.set_cons_zero, List.set_cons_succ]
            refine wpAnyH_take (i := 11) (oi := _) (v := ?v15m2_12) rfl (by kernel_rfl) (by kernel_rfl) (by kernel_rfl) (fun _ _ _ h => h) (Or.inl ⟨by rfl, ?hy15m2_12⟩) hHeld ?_
            case hy15m2_12 => (intro wS hSw; (try dsimp only at hSw); have dx3 := hSw.cell x3 (fun e => by injection e with e; (try simp only [add_blockV] at e); omega); have dy3 := hSw.cell y3 (fun e => by injection e with e; (try simp only [add_blockV] at e); omega); have dz0 := hSw.cell z0 (fun e => by injection e with e; (try simp only [add_blockV] at e); omega); have di0 := hSw.cell i0 (fun e => by injection e with e; (try simp only [add_blockV] at e); omega); have de0 := hSw.cell e0 (fun e => by injection e with e; (try simp only [add_blockV] at e); omega); have de1 := hSw.cell e1 (fun e => by injection e with e; (try simp only [add_blockV] at e); omega); have de2 := hSw.cell e2 (fun e => by injection e with e; (try simp only [add_blockV] at e); omega); have de3 := hSw.cell e3 (fun e => by injection e with e; (try simp only [add_blockV] at e); omega); have de4 := hSw.cell e4 (fun e => by injection e with e; (try simp only [add_blockV] at e); omega); have de5 := hSw.cell e5 (fun e => by injection e with e; (try simp only [add_blockV] at e); omega); have de6 := hSw.cell e6 (fun e => by injection e with e; (try simp only [add_blockV] at e); omega); have de7 := hSw.cell e7 (fun e => by injection e with e; (try simp only [add_blockV] at e); omega); have de8 := hSw.cell e8 (fun e => by injection e with e; (try simp only [add_blockV] at e); omega); clear hSw; go_simp; try with_reducible rfl)
            try simp only [List.getElem_toArray, List.getElem_cons_succ, List.getElem_cons_zero, Act.put, List.setIfInBounds_toArray, List.set_cons_zero, List.set_cons_succ]
            refine wpAnyH_take (i := 12) (oi := _) (v := ?v15m2_13) rfl (by kernel_rfl) (by kernel_rfl) (by kernel_rfl) (fun _ _ _ h => h) (Or.inl ⟨by rfl, ?hy15m2_13⟩) hHeld ?_
            case hy15m2_13 => (intro wS hSw; (try dsimp only at hSw); have dx3 := hSw.cell x3 (fun e => by injection e with e; (try simp only [add_blockV] at e); omega); have dy3 := hSw.cell y3 (fun e => by injection e with e; (try simp only [add_blockV] at e); omega); have dz0 := hSw.cell z0 (fun e => by injection e with e; (try simp only [add_blockV] at e); omega); have di0 := hSw.cell i0 (fun e => by injection e with e; (try simp only [add_blockV] at e); omega); have de0 := hSw.cell e0 (fun e => by injection e with e; (try simp only [add_blockV] at e); omega); have de1 := hSw.cell e1 (fun e => by injection e with e; (try simp only [add_blockV] at e); omega); have de2 := hSw.cell e2 (fun e => by injection e with e; (try simp only [add_blockV] at e); omega); have de3 := hSw.cell e3 (fun e => by injection e with e; (try simp only [add_blockV] at e); omega); have de4 := hSw.cell e4 (fun e => by injection e with e; (try simp only [add_blockV] at e); omega); have de5 := hSw.cell e5 (fun e => by injection e with e; (try simp only [add_blockV] at e); omega); have de6 := hSw.cell e6 (fun e => by injection e with e; (try simp only [add_blockV] at e); omega); have de7 := hSw.cell e7 (fun e => by injection e with e; (try simp only [add_blockV] at e); omega); have de8 := hSw.cell e8 (fun e => by injection e with e; (try simp only [add_blockV] at e); omega); clear hSw; go_simp; try with_reducible rfl)
            try simp only [List.getElem_toArray, List.getElem_cons_succ, List.getElem_cons_zero, Act.put, List.setIfInBounds_toArray, List.set_cons_zero, List.set_cons_succ]
            refine wpAnyH_take (i := 13) (oi := _) (v := ?v15m2_14) rfl (by kernel_rfl) (by kernel_rfl) (by kernel_rfl) (fun _ _ _ h => h) (Or.inl ⟨by rfl, ?hy15m2_14⟩) hHeld ?_
            case hy15m2_14 => (intro wS hSw; (try dsimp only at hSw); have dx3 := hSw.cell x3 (fun e => by injection e with e; (try simp only [add_blockV] at e); omega); have dy3 := hSw.cell y3 (fun e => by injection e with e; (try simp only [add_blockV] at e); omega); have dz0 := hSw.cell z0 (fun e => by injection e with e; (try simp only [add_blockV] at e); omega); have di0 := hSw.cell i0 (fun e => by injection e with e; (try simp only [add_blockV] at e); omega); have de0 := hSw.cell e0 (fun e => by injection e with e; (try simp only [add_blockV] at e); omega); have de1 := hSw.cell e1 (fun e => by injection e with e; (try simp only [add_blockV] at e); omega); have de2 := hSw.cell e2 (fun e => by injection e with e; (try simp only [add_blockV] at e); omega); have de3 := hSw.cell e3 (fun e => by injection e with e; (try simp only [add_blockV] at e); omega); have de4 := hSw.cell e4 (fun e => by injection e with e; (try simp only [add_blockV] at e); omega); have de5 := hSw.cell e5 (fun e => by injection e with e; (try simp only [add_blockV] at e); omega); have de6 := hSw.cell e6 (fun e => by injection e with e; (try simp only [add_blockV] at e); omega); have de7 := hSw.cell e7 (fun e => by injection e with e; (try simp only [add_blockV] at e); omega); have de8 := hSw.cell e8 (fun e => by injection e with e; (try simp only [add_blockV] at e); omega); clear hSw; go_simp; try with_reducible rfl)
            try simp only [List.getElem_toArray, List.getElem_cons_succ, List.getElem_cons_zero, Act.put, List.setIfInBounds_toArray, List.set_cons_zero, List.set_cons_succ]
            refine wpAnyH_take (i := 14) (oi := _) (v := ?v15m2_15) rfl (by kernel_rfl) (by kernel_rfl) (by kernel_rfl) (fun _ _ _ h => h) (Or.inl ⟨by rfl, ?hy15m2_15⟩) hHeld ?_
            case hy15m2_15 => (intro wS hSw; (try dsimp only at hSw); have dx3 := hSw.cell x3 (fun e => by injection e with e; (try simp only [add_blockV] at e); omega); have dy3 := hSw.cell y3 (fun e => by injection e with e; (try simp only [add_blockV] at e); omega); have dz0 := hSw.cell z0 (fun e => by injection e with e; (try simp only [add_blockV] at e); omega); have di0 := hSw.cell i0 (fun e => by injection e with e; (try simp only [add_blockV] at e); omega); have de0 := hSw.cell e0 (fun e => by injection e with e; (try simp only [add_blockV] at e); omega); have de1 := hSw.cell e1 (fun e => by injection e with e; (try simp only [add_blockV] at e); omega); have de2 := hSw.cell e2 (fun e => by injection e with e; (try simp only [add_blockV] at e); omega); have de3 := hSw.cell e3 (fun e => by injection e with e; (try simp only [add_blockV] at e); omega); have de4 := hSw.cell e4 (fun e => by injection e with e; (try simp only [add_blockV] at e); omega); have de5 := hSw.cell e5 (fun e => by injection e with e; (try simp only [add_blockV] at e); omega); have de6 := hSw.cell e6 (fun e => by injection e with e; (try simp only [add_blockV] at e); omega); have de7 := hSw.cell e7 (fun e => by injection e with e; (try simp only [add_blockV] at e); omega); have de8 := hSw.cell e8 (fun e => by injection e with e; (try simp only [add_blockV] at e); omega); clear hSw; go_simp; try with_reducible rfl)
            try simp only [List.getElem_toArray, List.getElem_cons_succ, List.getElem_cons_zero, Act.put, List.setIfInBounds_toArray, List.set_cons_zero, List.set_cons_succ]
            refine wpAnyH_take (i := 15) (oi := _) (v := ?v15m2_16) rfl (by kernel_rfl) (by kernel_rfl) (by kernel_rfl) (fun _ _ _ h => h) (Or.inl ⟨by rfl, ?hy15m2_16⟩) hHeld ?_
            case hy15m2_16 => (intro wS hSw; (try dsimp only at hSw); have dx3 := hSw.cell x3 (fun e => by injection e with e; (try simp only [add_blockV] at e); omega); have dy3 := hSw.cell y3 (fun e => by injection e with e; (try simp only [add_blockV] at e); omega); have dz0 := hSw.cell z0 (fun e => by injection e with e; (try simp only [add_blockV] at e); omega); have di0 := hSw.cell i0 (fun e => by injection e with e; (try simp only [add_blockV] at e); omega); have de0 := hSw.cell e0 (fun e => by injection e with e; (try simp only [add_blockV] at e); omega); have de1 := hSw.cell e1 (fun e => by injection e with e; (try simp only [add_blockV] at e); omega); have de2 := hSw.cell e2 (fun e => by injection e with e; (try simp only [add_blockV] at e); omega); have de3 := hSw.cell e3 (fun e => by injection e with e; (try simp only [add_blockV] at e); omega); have de4 := hSw.cell e4 (fun e => by injection e with e; (try simp only [add_blockV] at e); omega); have de5 := hSw.cell e5 (fun e => by injection e with e; (try simp only [add_blockV] at e); omega); have de6 := hSw.cell e6 (fun e => by injection e with e; (try simp only [add_blockV] at e); omega); have de7 := hSw.cell e7 (fun e => by injection e with e; (try simp only [add_blockV] at e); omega); have de8 := hSw.cell e8 (fun e => by injection e with e; (try simp only [add_blockV] at e); omega); clear hSw; go_simp; try with_reducible rfl)
            try simp only [List.getElem_toArray, List.getElem_cons_succ, List.getElem_cons_zero, Act.put, List.setIfInBounds_toArray, List.set_cons_zero, List.set_cons_succ]
            refine wpAnyH_take (i := 16) (oi := _) (v := .agg (knownCells kn).toArray) rfl (by kernel_rfl) (by kernel_rfl) (by kernel_rfl) (fun _ _ _ h => h) (yieldsIf_load_known _ kn GT 0 hkn (fun wS hS => (r6.grown hS (fun e => by injection e with e; omega)).range) rfl rfl rfl) hHeld ?_
            try simp only [List.getElem_toArray, List.getElem_cons_succ, List.getElem_cons_zero, Act.put, List.setIfInBounds_toArray, List.set_cons_zero, List.set_cons_succ]
            refine wpAnyH_ready (rs := [17]) (by kernel_rfl) (by simp) ?_
            refine (AllReadyH.cons (o := _) rfl (fun K hK => ?_) AllReadyH.nil)
            go_simp
            refine (refop_calls o kn _ hkn hro).mono ?_
            rw [HFO.out]
            rintro e w7 ⟨rfl, hb7⟩
            have b67 := bd6.trans (hb7.mono bd6.size)
            have hh7 := HH2.out.below b67
            go_wp2_with fail
            refine hK.out _ _ (grown_trans hHeld (grown_below hb7)) (fun hHeld18 => ?_)
            clear hK K hHeld
            try simp only [List.getElem_toArray, List.getElem_cons_succ, List.getElem_cons_zero, Act.put, List.setIfInBounds_toArray, List.set_cons_zero, List.set_cons_succ]
            refine wpAnyH_take (i := 18) (oi := _) (v := ?v15m2_19) rfl (by kernel_rfl) (by kernel_rfl) (by kernel_rfl) (fun _ _ _ h => h) (Or.inl ⟨by rfl, ?hy15m2_19⟩) hHeld18 ?_
            case hy15m2_19 => (intro wS hSw; (try dsimp only at hSw); have dx3 := hSw.cell x3 (fun e => by injection e with e; (try simp only [add_blockV] at e); omega); have dy3 := hSw.cell y3 (fun e => by injection e with e; (try simp only [add_blockV] at e); omega); have dz0 := hSw.cell z0 (fun e => by injection e with e; (try simp only [add_blockV] at e); omega); have di0 := hSw.cell i0 (fun e => by injection e with e; (try simp only [add_blockV] at e); omega); have de0 := hSw.cell e0 (fun e => by injection e with e; (try simp only [add_blockV] at e); omega); have de1 := hSw.cell e1 (fun e => by injection e with e; (try simp only [add_blockV] at e); omega); have de2 := hSw.cell e2 (fun e => by injection e with e; (try simp only [add_blockV] at e); omega); have de3 := hSw.cell e3 (fun e => by injection e with e; (try simp only [add_blockV] at e); omega); have de4 := hSw.cell e4 (fun e => by injection e with e; (try simp only [add_blockV] at e); omega); have de5 := hSw.cell e5 (fun e => by injection e with e; (try simp only [add_blockV] at e); omega); have de6 := hSw.cell e6 (fun e => by injection e with e; (try simp only [add_blockV] at e); omega); have de7 := hSw.cell e7 (fun e => by injection e with e; (try simp only [add_blockV] at e); omega); have de8 := hSw.cell e8 (fun e => by injection e with e; (try simp only [add_blockV] at e); omega); clear hSw; go_simp; try with_reducible rfl)
            try simp only [List.getElem_toArray, List.getElem_cons_succ, List.getElem_cons_zero, Act.put, List.setIfInBounds_toArray, List.set_cons_zero, List.set_cons_succ]
            refine wpAnyH_ready (rs := [19]) (by kernel_rfl) (by simp) ?_
            refine (AllReadyH.cons (o := _) rfl (fun K hK => ?_) AllReadyH.nil)
            refine step_put_hole rfl 56 _ _ rfl p2 (opCells fo) rfl rfl hh7 (by kernel_rfl) rfl (opCells_one _) ?_
            intro w8 h8 g8 s8
            clear s8
            refine hK.out _ _ (grown_trans hHeld18 g8) (fun hHeld20 => ?_)
            clear hK K hHeld18
            try simp only [List.getElem_toArray, List.getElem_cons_succ, List.getElem_cons_zero, Act.put, List.setIfInBounds_toArray, List.set_cons_zero, List.set_cons_succ]
            refine wpAnyH_done (by kernel_rfl) ?_ _
            go_wp2_with fail
            have g15 := hHeld20
            have t8 := t6.grown g15 t6.size (fun q hq => by injection hq with hq; omega)
            have o8 := h8.closeOp HFWF.out
            rw [HMSO.out] at o8
            have h08 := HH06.out.grown g15 (fun x hx e => by injection e with e; subst e; exact HD0.out _ HP2.out hx)
            have hcl := h08.close (y := ⟨mixZ (foldOps b.ops y) b.ops (j + 1), b.fin⟩) (Gi := Fi) ⟨_, rfl, HWF.out, o8⟩ HD0.out
            rw [List.set_set, List.length_set, HML2.out] at hcl
            exact ⟨⟨j + 1, _, by omega, by go_num, hcl, fun x hx => HF2.out x ((HIFF.out x).2 hx), HKNE.out ▸ r6.grown g15 (fun e => by injection e with e; omega), HRA6.out.grown g15 (fun e => by injection e with e; omega), HRZ6.out.grown g15 (fun e => by injection e with e; omega), HR36.out.grown g15 (fun e => by injection e with e; omega), HKN6.out.grown g15 (fun x hx e => by injection e with e; omega), t8, Nat.lt_of_lt_of_le r6.lt g15.size⟩, by simp [intOf]; omega⟩
          · obtain rfl : j = b.ops.length := by omega
            rw [List.take_length] at rk
            rw [mixZ_all (foldOps_len b.ops y)] at ho
            have hkz := behindOps_wf (os := b.ops) hyw
            have hrz := behindOps_reached (os := b.ops) HRE.out
            have HMS' := HMS
            generalize behindOps b.ops y = kz at *
            have i1 := Sub.of_below hbr _ _ w1
            have i2 := Sub.of_below hbr _ _ w2
            have i3 := Sub.of_below hbr _ _ w3
            have i4 := Sub.of_below hbr _ _ w4
            have i5 := Sub.of_below hbr _ _ w5
            have i6 := Sub.of_below hbr _ _ w6
            have i7 := Sub.of_below hbr _ _ w7
            have i8 := Sub.of_below hbr _ _ w8
            have i9 := Sub.of_below hbr _ _ w9
            have i10 := Sub.of_below hbr _ _ w10
            have i11 := Sub.of_below hbr _ _ w11
            have HO := Lib.hid ho
            have HF2 := Lib.hid hF2
            have HKNO := Lib.hid hknO
            have HTL := Lib.hid hltj
            clear w0 w1 w2 w3 w4 w5 w6 w7 w8 w9 w10 w11 ho hF2 hknO hltj hj
            have bq := below_alloc' wr (.cells #[.int .i64 b.fin.kind, .int .i64 b.fin.op, .int .i64 b.fin.a, .int .i64 b.fin.b, .int .i64 b.fin.to, .int .i64 b.fin.els, .int .i64 b.fin.ins.op, .int .i64 b.fin.ins.a, .int .i64 b.fin.ins.b, .int .i64 b.fin.ins.c, .int .i64 b.fin.ins.imm] 37)
            have rt : Row (wr.alloc (.cells #[.int .i64 b.fin.kind, .int .i64 b.fin.op, .int .i64 b.fin.a, .int .i64 b.fin.b, .int .i64 b.fin.to, .int .i64 b.fin.els, .int .i64 b.fin.ins.op, .int .i64 b.fin.ins.a, .int .i64 b.fin.ins.b, .int .i64 b.fin.ins.c, .int .i64 b.fin.ins.imm] 37)) wr.heap.size 37 (finCells b.fin) := Row.new wr _ _
            go_upto_region 17 with fail
            have ra2 := ra.below bq
            have rz2 := rz.below bq
            have r32 := r3.below bq
            have rk2 := rk.below bq
            have HO2 := Lib.hid (HO.out.below bq)
            have HK2 := Lib.hid (HKNO.out.below bq)
            have t2 := hbr.trans (bq.mono hbr.size)
            have HGV := Lib.hid hgt
            have hgv2 : wr.heap.size < (wr.alloc (.cells #[.int .i64 b.fin.kind, .int .i64 b.fin.op, .int .i64 b.fin.a, .int .i64 b.fin.b, .int .i64 b.fin.to, .int .i64 b.fin.els, .int .i64 b.fin.ins.op, .int .i64 b.fin.ins.a, .int .i64 b.fin.ins.b, .int .i64 b.fin.ins.c, .int .i64 b.fin.ins.imm] 37)).heap.size := rt.lt
            clear HO HKNO hbr bq ra rz r3 rk x3 i0 i1 i2 i3 i4 i5 i6 i7 i8 i9 i10 i11
            generalize wr.alloc (.cells #[.int .i64 b.fin.kind, .int .i64 b.fin.op, .int .i64 b.fin.a, .int .i64 b.fin.b, .int .i64 b.fin.to, .int .i64 b.fin.els, .int .i64 b.fin.ins.op, .int .i64 b.fin.ins.a, .int .i64 b.fin.ins.b, .int .i64 b.fin.ins.c, .int .i64 b.fin.ins.imm] 37) = w2 at *
            generalize wr.heap.size = GV at *
            have r3c := r32.cell (j := 3) rfl
            obtain ⟨y0, y1, y2, y3, y4, y5, y6, y7, y8, y9, y10⟩ := termRow rt
            have fin2 : ∀ (wz : World), OwnF oBlock 39 wz (.slice A1 bs.length c1) ((mixZ L bs k).set k ⟨foldOps b.ops y, b.fin⟩) F2 → foldTerm b.fin kz = b.fin → OwnF oBlock 39 wz (.slice A1 bs.length c1) (mixZ L bs (k + 1)) F2 := fun wz h e => by
              have := HMS.out
              rw [e] at this
              rw [← this]
              exact h
            have FIN2 := Lib.hid fin2
            clear fin2
            by_cases h2 : b.fin.kind = 2
            · have z1 : (b.fin.kind == 2) = true := by simp [h2]
              obtain ⟨ha, hb⟩ := HAB.out h2
              obtain ⟨na, hna'⟩ := Int.eq_ofNat_of_zero_le ha.1
              obtain ⟨nb, hnb'⟩ := Int.eq_ofNat_of_zero_le hb.1
              have hna : na < 16 := by omega
              have hnb : nb < 16 := by omega
              have haI : (na : Int) < 16 := by omega
              have hbI : (nb : Int) < 16 := by omega
              have hta : b.fin.a.toNat = na := by omega
              have htb : b.fin.b.toNat = nb := by omega
              have HNA := Lib.hid hna'
              have HNB := Lib.hid hnb'
              have HTA := Lib.hid hta
              have HTB := Lib.hid htb
              have HK2' := Lib.hid h2
              rw [hna'] at y2
              rw [hnb'] at y3
              have d1 := rk2.kis hkz hna
              have d2 := rk2.kis hkz hnb
              clear hta htb hna' hnb' ha hb h2
              by_cases hboth : kz.isAt na = true ∧ kz.isAt nb = true
              · obtain ⟨hia, hib⟩ := hboth
                rw [hia] at d1
                rw [hib] at d2
                have hft := foldTerm_is (t := b.fin) hrz HK2'.out (by rw [HTA.out]; exact hia) (by rw [HTB.out]; exact hib)
                have hgo := goesK_is (t := b.fin) HK2'.out (by rw [HTA.out]; exact hia) (by rw [HTB.out]; exact hib)
                obtain ⟨x, hx⟩ : ∃ x, x = (if goesK kz b.fin b.fin.to = true then b.fin.to else b.fin.els) := ⟨_, rfl⟩
                have hfx : foldTerm b.fin kz = jumpI x := by
                  rw [hft, hx, hgo]
                  congr 1
                  cases aluTaken b.fin.op (kz.wAt b.fin.a.toNat) (kz.wAt b.fin.b.toNat) with
                  | true => simp
                  | false =>
                    by_cases e : b.fin.els = b.fin.to
                    · simp [e]
                    · simp [e]
                have hms2 := HMS.out
                rw [hfx] at hms2
                have hwx : (⟨foldOps b.ops y, jumpI x⟩ : Block).wf := by
                  rw [hx]
                  split
                  · exact jump_wf HWB.out.2.2.2.2.1
                  · exact jump_wf HWB.out.2.2.2.2.2.1
                have HMS2 := Lib.hid hms2
                have HWX := Lib.hid hwx
                have HX := Lib.hid hx
                clear hft hgo hfx hms2 hwx hx hia hib
                go_upto_region 19 with fail
                clear d1 d2 y2 y3
                obtain ⟨y0, y1, y2, y3, y4, y5, y6, y7, y8, y9, y10⟩ := termRow rt
                go_wp2_with (refine wpList_load_known _ kz GT hkz rk2 rfl rfl rfl ?_)
                refine (refGoes_calls kz b.fin b.fin.to _ hkz HAB.out).mono ?_
                rintro e w4 ⟨rfl, hb4⟩
                have t4 := t2.trans (hb4.mono t2.size)
                have ra4 := ra2.below hb4
                have rz4 := rz2.below hb4
                have r34 := r32.below hb4
                have rt4 := rt.below hb4
                have HK4 := Lib.hid (HK2.out.below hb4)
                obtain ⟨g1, q1, cs, Fi, F0, z0, lq, mq, h0, hO, d0, iff0⟩ := (HO2.out.below hb4).open_ (set_getC HKL.out)
                injection z0 with z1 z2 z3
                subst z1 z3
                obtain ⟨v, rfl, hwf, oo⟩ := hO
                have hg1F := HF2.out g1 ((iff0 g1).2 (.inl h0.row))
                have hG1 := HF.out g1 hg1F
                have HH0 := Lib.hid h0
                have HD0 := Lib.hid d0
                have HIFF := Lib.hid iff0
                have HOO := Lib.hid oo
                have HHG := Lib.hid hG1
                clear z2 lq mq h0 oo d0 iff0 hwf hg1F y0 y1 y2 y3 y4 y5 y6 y7 y8 y9 y10 r3c HO2 HK2 ra2 rz2 r32 rk2 rt t2 hG1
                have y3 := r34.cell (j := 3) rfl
                obtain ⟨v0, v1, v2, v3, v4, v5, v6, v7, v8, v9, v10⟩ := termRow rt4
                cases hgo : goesK kz b.fin b.fin.to with
                | true =>
                  have hx := HX.out
                  rw [if_pos hgo] at hx
                  clear hgo
                  go_wp2_with (refine wpList_put_part (k := oBlock) rfl 37 _ _ rfl g1 1 (finCells (jumpI b.fin.to)) rfl rfl HH0.out (by kernel_rfl) (by show 1 + 11 ≤ 12; decide) (finCells_one _) ?_; intro w9 h9 g9 s9; clear s9)
                  have o9 := HOO.out.grown g9 (fun x hx e => by injection e with e; subst e; exact HD0.out _ hx HH0.out.row)
                  have hcl := h9.close (y := ⟨foldOps b.ops y, jumpI b.fin.to⟩) (Gi := Fi) ⟨_, rfl, hx ▸ HWX.out, o9⟩ HD0.out
                  rw [← hx, List.set_set, List.length_set, HML2.out, HMS2.out] at hcl
                  have hq := HHG.out
                  exact ⟨⟨k + 1, _, by omega, by go_num, hcl, fun x hx => HF.out x (HF2.out x ((HIFF.out x).2 hx)), ra4.grown g9 (fun e => by injection e with e; omega), rz4.grown g9 (fun e => by injection e with e; omega), r34.grown g9 (fun e => by injection e with e; omega), HK4.out.grown g9 (fun x hx e => by injection e with e; omega), t4.grown g9 t4.size (fun q hq => by injection hq with hq; omega)⟩, by simp [intOf]; omega⟩
                | false =>
                  have hx := HX.out
                  rw [if_neg (by rw [hgo]; decide)] at hx
                  clear hgo
                  go_wp2_with (refine wpList_put_part (k := oBlock) rfl 37 _ _ rfl g1 1 (finCells (jumpI b.fin.els)) rfl rfl HH0.out (by kernel_rfl) (by show 1 + 11 ≤ 12; decide) (finCells_one _) ?_; intro w9 h9 g9 s9; clear s9)
                  have o9 := HOO.out.grown g9 (fun x hx e => by injection e with e; subst e; exact HD0.out _ hx HH0.out.row)
                  have hcl := h9.close (y := ⟨foldOps b.ops y, jumpI b.fin.els⟩) (Gi := Fi) ⟨_, rfl, hx ▸ HWX.out, o9⟩ HD0.out
                  rw [← hx, List.set_set, List.length_set, HML2.out, HMS2.out] at hcl
                  have hq := HHG.out
                  exact ⟨⟨k + 1, _, by omega, by go_num, hcl, fun x hx => HF.out x (HF2.out x ((HIFF.out x).2 hx)), ra4.grown g9 (fun e => by injection e with e; omega), rz4.grown g9 (fun e => by injection e with e; omega), r34.grown g9 (fun e => by injection e with e; omega), HK4.out.grown g9 (fun x hx e => by injection e with e; omega), t4.grown g9 t4.size (fun q hq => by injection hq with hq; omega)⟩, by simp [intOf]; omega⟩
              · have hft : foldTerm b.fin kz = b.fin := foldTerm_no (fun h => hboth (by
                  have h3 := h.2
                  unfold takenK at h3
                  split at h3
                  · exact absurd h3 (by decide)
                  · rename_i h4
                    rw [HTA.out, HTB.out] at h4
                    simpa [hrz] using h4))
                have HFT := Lib.hid hft
                clear hft
                cases hia : kz.isAt na with
                | false =>
                  rw [hia] at d1
                  clear hia hboth
                  go_wp2_with fail
                  exact ⟨⟨k + 1, F2, by omega, by go_num, FIN2.out _ HO2.out HFT.out, fun x hx => HF.out x (HF2.out x hx), ra2, rz2, r32, HK2.out, t2⟩, by simp [intOf]; omega⟩
                | true =>
                  have hib : kz.isAt nb = false := by
                    cases h : kz.isAt nb with
                    | false => rfl
                    | true => exact absurd ⟨hia, h⟩ hboth
                  rw [hia] at d1
                  rw [hib] at d2
                  clear hia hib hboth
                  go_wp2_with fail
                  exact ⟨⟨k + 1, F2, by omega, by go_num, FIN2.out _ HO2.out HFT.out, fun x hx => HF.out x (HF2.out x hx), ra2, rz2, r32, HK2.out, t2⟩, by simp [intOf]; omega⟩
            · have z1 : (b.fin.kind == 2) = false := by simp [h2]
              have HFT := Lib.hid (foldTerm_no (k := kz) (fun h => h2 h.1) : foldTerm b.fin kz = b.fin)
              clear h2
              go_wp2_with fail
              exact ⟨⟨k + 1, F2, by omega, by go_num, FIN2.out _ HO2.out HFT.out, fun x hx => HF.out x (HF2.out x hx), ra2, rz2, r32, HK2.out, t2⟩, by simp [intOf]; omega⟩
    · obtain rfl : k = bs.length := by omega
      rw [mixZ_all HLL.out, HL.out] at ho
      have hoo := ho
      rw [← HL.out] at hoo
      have HF := Lib.hid hF
      have HO := Lib.hid ho
      have HFL := Lib.hid (HLL.out)
      clear ho hF hkn hoo
      go_wp2_with (refine wpList_put_row rfl 24 _ _ rfl (w.heap.size + 1) (graphCells (.slice A1 bs.length c1) ⟨nm, false, lf, bs⟩) rfl rfl rz (by kernel_rfl) rfl (graphCells_one _) ?_; intro w6 r6 g6 s6)
      refine bodyPost_ret (results_cell_row rfl _ _ (w.heap.size + 1) 24 (graphCells (.slice A1 bs.length c1) ⟨nm, false, lf, bs⟩).toArray (0, 0) _ rfl r6 Try.underlying24 rfl (by kernel_rfl)) rfl ?_
      have hlf : (foldBs bs ins).length = bs.length := foldBs_len HAT.out.inv.len
      refine ⟨ins, HAT.out, A1, c1, F, ?_, ?_, fun b hb => by have := HF.out b hb; omega, hbr.grown g6 hbr.size (fun j hj => by injection hj with hj; omega)⟩
      · rw [hlf]; rfl
      · rw [hlf]
        exact HO.out.grown g6 (fun b hb e => by injection e with e; have := HF.out b hb; omega)
end Go.Proofs.Ytokkngfgppikkab
