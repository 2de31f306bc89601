/- chain.Blocks. Printed by genYk.py of this repository. -/
import Derived.Test.YthnkikdbllkmkaaYg
import Derived.Test.YthnkikdbllkmkaaYi
import Derived.Test.YthnkikdbllkmkaaYj
namespace Go.Proofs.Ythnkikdbllkmkaa
set_option linter.unusedVariables false
set_option linter.unusedSimpArgs false
open Go.RowKit
attribute [local go_sem] run_store_float

def mixC {α : Type} (L bs : List α) (k : Nat) : List α := L.take k ++ bs.drop k
theorem mixC_zero {α : Type} (L bs : List α) : mixC L bs 0 = bs := by simp [mixC]
theorem mixC_len {α : Type} {L bs : List α} (h : L.length = bs.length) (k : Nat) : (mixC L bs k).length = bs.length := by simp [mixC]; omega
theorem mixC_all {α : Type} {L bs : List α} (h : L.length = bs.length) : mixC L bs bs.length = L := by simp [mixC, ← h]
theorem mixC_at {α : Type} {L bs : List α} (h : L.length = bs.length) {k : Nat} {b : α} (hb : bs[k]? = some b) : (mixC L bs k)[k]? = some b := by
  have hk := (List.getElem?_eq_some_iff.1 hb).1
  unfold mixC
  rw [List.getElem?_append_right (by simp; omega), List.getElem?_drop, ← hb]
  congr 1
  simp
  omega
theorem mixC_succ {α : Type} {L bs : List α} (h : L.length = bs.length) {k : Nat} {l : α} (hl : L[k]? = some l) : (mixC L bs k).set k l = mixC L bs (k + 1) := by
  have hk := (List.getElem?_eq_some_iff.1 hl).1
  unfold mixC
  rw [take_snoc hl, List.set_append_right _ _ (by simp; omega)]
  rw [show k - (L.take k).length = 0 from by simp; omega]
  have hd : bs.drop k = bs[k]'(by omega) :: bs.drop (k + 1) := List.drop_eq_getElem_cons (by omega)
  rw [hd, List.set_cons_zero, List.append_assoc]
  rfl
def stepE (s : ChS) (e : Edg) : ChS := stepC s e.src.toNat e.dst.toNat
def runE (n : Nat) (E : List Edg) : ChS := E.foldl stepE (chStart n)
/-- The order of blocks. -/
def blocksD (n : Nat) (E : List Edg) : List Nat := (runE n E).ch.flatten
def EdgIn (n : Nat) (e : Edg) : Prop := ∃ f t : Nat, e.src = (f : Int) ∧ e.dst = (t : Int) ∧ f < n ∧ t < n
theorem stepE_inv {n : Nat} {s : ChS} {e : Edg} (h : InvC n s) (he : EdgIn n e) : InvC n (stepE s e) := by
  obtain ⟨f, t, h1, h2, h3, h4⟩ := he
  unfold stepE
  rw [h1, h2]
  exact stepC_inv h h3 h4
theorem foldE_inv {n : Nat} : ∀ (E : List Edg) (s : ChS), InvC n s → (∀ e ∈ E, EdgIn n e) → InvC n (E.foldl stepE s)
  | [], _, h, _ => h
  | e :: r, s, h, hE => foldE_inv r _ (stepE_inv h (hE e (List.mem_cons_self ..))) (fun x hx => hE x (List.mem_cons_of_mem _ hx))
theorem runE_inv {n : Nat} {E : List Edg} (hE : ∀ e ∈ E, EdgIn n e) : InvC n (runE n E) := foldE_inv E _ (chStart_inv n) hE
theorem runE_take {n : Nat} {E : List Edg} {k : Nat} {e : Edg} (h : E[k]? = some e) : runE n (E.take (k + 1)) = stepE (runE n (E.take k)) e := by
  unfold runE
  rw [take_snoc h, List.foldl_append]
  rfl
theorem OwnF.cellN {w : World} {g n cap : Nat} {xs : List Nat} {F : Nat → Prop} (h : OwnF oN 3 w (.slice (some ⟨g, 0, none⟩) n cap) xs F) {i x : Nat} (hx : xs[i]? = some x) : w.cell? ⟨g, i, none⟩ = some (.int .i64 (x : Int)) := by
  obtain ⟨A, c, e, -, -, hC, -⟩ := h.readN
  injection e with e
  obtain ⟨g', e', -, hc⟩ := hC i x hx
  rw [← e] at e'
  injection e' with e'
  injection e' with e'
  subst e'
  exact hc
theorem stepC_no {s : ChS} {f t : Nat} (h : ¬ joins s f t) : stepC s f t = s := by unfold stepC; rw [if_neg h]
theorem stepC_yes {s : ChS} {f t a b : Nat} {x y : List Nat} (ha : s.of[f]? = some a) (hb : s.of[t]? = some b) (hx : s.ch[a]? = some x) (hy : s.ch[b]? = some y) (hab : a ≠ b) (hl : x.getLast? = some f) (hh : y.head? = some t) : stepC s f t = ⟨(s.ch.set a (x ++ y)).set b [], fillL y a s.of⟩ := by
  have hj : joins s f t := by unfold joins; rw [getD_of ha, getD_of hb, getD_of hx, getD_of hy]; exact ⟨hab, hl, hh⟩
  unfold stepC
  rw [if_pos hj, getD_of ha, getD_of hb, getD_of hx, getD_of hy]
theorem joins_iff {s : ChS} {f t a b : Nat} {x y : List Nat} (ha : s.of[f]? = some a) (hb : s.of[t]? = some b) (hx : s.ch[a]? = some x) (hy : s.ch[b]? = some y) : joins s f t ↔ (a ≠ b ∧ x.getLast? = some f ∧ y.head? = some t) := by
  unfold joins
  rw [getD_of ha, getD_of hb, getD_of hx, getD_of hy]
theorem last_of {x : List Nat} (h : x ≠ []) : ∃ m z, x.length = m + 1 ∧ x[m]? = some z ∧ x.getLast? = some z := by
  have hp : 0 < x.length := List.length_pos_iff.2 h
  obtain ⟨z, hz⟩ := get_some x (x.length - 1) (by omega)
  exact ⟨x.length - 1, z, by omega, hz, by rw [List.getLast?_eq_getElem?]; exact hz⟩
theorem head_of {x : List Nat} (h : x ≠ []) : ∃ m z, x.length = m + 1 ∧ x[0]? = some z ∧ x.head? = some z := by
  cases x with
  | nil => exact absurd rfl h
  | cons z r => exact ⟨r.length, z, rfl, rfl, rfl⟩
theorem HoleF.cellNN {w : World} {g cap i : Nat} {xss : List (List Nat)} {v : Value} {F : Nat → Prop} (h : HoleF oNN 29 w g cap xss i [v] F) : w.cell? ⟨g, i, none⟩ = some v ∧ w.frozen? ⟨g, i, none⟩ = false := by
  have hc := h.cell (j := 0) rfl
  have e4 : i * oNN.kd.size + 0 = i := by show i * 1 + 0 = i; omega
  rw [e4] at hc
  exact ⟨hc, h.frozen i⟩
/-- Two chains made one, in memory. -/
theorem join_mem {w9 w10 : World} {G1 n cap a b : Nat} {chs : List (List Nat)} {xs ys : List Nat} {va vb v10 : Value} {F Fa F0a F10 : Nat → Prop} (hlen : chs.length = n) (hb : chs[b]? = some ys) (hab : a ≠ b) (h0 : HoleF oNN 29 w9 G1 cap chs a [va] F0a) (ox : OwnF oN 3 w9 va xs Fa)
    (da : ∀ x, Fa x → ¬ F0a x) (ia : ∀ x, F x ↔ F0a x ∨ Fa x) (cb : w9.cell? ⟨G1, b, none⟩ = some vb) (hg : w9.grownBy w10 va.ownBlock) (o10 : OwnF oN 3 w10 v10 (xs ++ ys) F10) (hF10 : ∀ x, F10 x → Fa x ∨ w9.heap.size ≤ x) :
    w10.cell? ⟨G1, a, none⟩ = some va ∧ w10.frozen? ⟨G1, a, none⟩ = false ∧ (w10.setCell ⟨G1, a, none⟩ v10).cell? ⟨G1, b, none⟩ = some vb ∧ (w10.setCell ⟨G1, a, none⟩ v10).frozen? ⟨G1, b, none⟩ = false ∧
    (∃ F', OwnF oNN 29 ((w10.setCell ⟨G1, a, none⟩ v10).setCell ⟨G1, b, none⟩ (.slice none 0 0)) (.slice (some ⟨G1, 0, none⟩) n cap) ((chs.set a (xs ++ ys)).set b []) F' ∧ ∀ x, F' x → F x ∨ w9.heap.size ≤ x) ∧
    (∃ Fb, OwnF oN 3 ((w10.setCell ⟨G1, a, none⟩ v10).setCell ⟨G1, b, none⟩ (.slice none 0 0)) vb ys Fb ∧ ∀ x, Fb x → F x ∨ w9.heap.size ≤ x) := by
  have hg1 : F0a G1 := h0.row
  have hne1 : va.ownBlock ≠ some G1 := fun e => da _ (ox.row e) hg1
  have h10 := h0.grown hg (fun x hx e => da _ (ox.row e) hx)
  obtain ⟨c1, f1⟩ := h10.cellNN
  obtain ⟨s11, g11⟩ := h10.setNN o10 (fun x hx h => by
    rcases hF10 x hx with e | e
    · exact da x e h
    · have := h0.lt x h; omega)
  rw [hlen] at s11
  have hl2 : (chs.set a (xs ++ ys)).length = n := by rw [List.length_set]; exact hlen
  have hb2 : (chs.set a (xs ++ ys))[b]? = some ys := by rw [List.getElem?_set, if_neg hab]; exact hb
  obtain ⟨vb2, Fb2, F0b2, h11, oy, db, ib, c2, f2, hg2⟩ := s11.openNN hl2 hb2
  have e1 : w10.cell? ⟨G1, b, none⟩ = some vb := hg.cell cb (fun e => hne1 e.symm)
  have e2 : (w10.setCell ⟨G1, a, none⟩ v10).cell? ⟨G1, b, none⟩ = some vb := by
    rw [World.cell?_setCell_other w10 ⟨G1, a, none⟩ ⟨G1, b, none⟩ v10 (fun e => hab (by injection e))]
    exact e1
  rw [e2] at c2
  injection c2 with c2
  subst c2
  obtain ⟨s12, g12⟩ := h11.setNN (OwnF.nil oN 3 _) (fun _ h => h.elim)
  rw [hl2] at s12
  have hup : ∀ x, (F0a x ∨ F10 x) → F x ∨ w9.heap.size ≤ x := fun x hx => by
    rcases hx with e | e
    · exact .inl ((ia x).2 (.inl e))
    · rcases hF10 x e with e | e
      · exact .inl ((ia x).2 (.inr e))
      · exact .inr e
  exact ⟨c1, f1, e2, f2, ⟨_, s12, fun x hx => hup x ((ib x).2 (hx.elim .inl (fun h => h.elim)))⟩, ⟨Fb2, oy.grown g12 (fun x hx e => by injection e with e; subst e; exact db _ hx hg2), fun x hx => hup x ((ib x).2 (.inr hx))⟩⟩
theorem fillL_take {ys : List Nat} {j i : Nat} (h : ys[j]? = some i) (a : Nat) (o : List Nat) : fillL (ys.take (j + 1)) a o = (fillL (ys.take j) a o).set i a := by
  unfold fillL
  rw [take_snoc h, List.foldl_append]
  rfl
theorem litN (T : TypeId) (w : World) (i : Nat) : OwnF oN T (w.alloc (.cells #[.int .i64 (i : Int)] T)) (.slice (some ⟨w.heap.size, 0, none⟩) 1 1) [i] (fun b => b = w.heap.size) :=
  OwnF.lit (kd := kN) (hk := kN_any) T w [i] [[.int .i64 (i : Int)]] #[.int .i64 (i : Int)] rfl rfl (by simp [maxLen]) (fun j x cs hx hcs => by
    cases j with
    | zero => simp at hx hcs; subst hx hcs; rfl
    | succ j => simp at hx)

set_option maxHeartbeats 3000000 in
set_option maxRecDepth 100000 in
theorem blocks_calls (nm : ByteArray) (kp lf : Bool) (A : Option Addr) (c : Nat) (bs : List Block) (LA : Option Addr) (lc : Nat) (l : List Edge) (w : World) (hC : kBlock.C w A bs) (hL : kEdge.C w LA l) (hw : ∀ e ∈ l, e.wf) (hl : l.length ≤ maxLen) (hbl : bs.length ≤ 1000) (hE : ∀ e ∈ edgesD l nm bs, EdgIn bs.length e) : Calls Try.prog 10 #[.agg #[.string nm, .bool kp, .bool lf, .slice A bs.length c], .slice LA l.length lc] w fun e w' =>
    ∃ v F, e = .returned v ∧ OwnF oN 3 w' v (blocksD bs.length (edgesD l nm bs)) F ∧ (∀ b, F b → w.heap.size ≤ b) ∧ Below w.heap.size w w' := by
  have hlo : bs.length ≤ 9223372036854775807 := by omega
  have HW := Lib.hid hw
  have HE := Lib.hid hE
  have hb0 := below_alloc' w (.cells #[.string nm, .bool kp, .bool lf, .slice A bs.length c] 24)
  have r0 : Row (w.alloc (.cells #[.string nm, .bool kp, .bool lf, .slice A bs.length c] 24)) w.heap.size 24 (graphCells (.slice A bs.length c) ⟨nm, kp, lf, bs⟩) := Row.new w _ _
  clear hw hE
  go_enter Try.func10, Try.ntmps10
  go_upto_region 1 with fail
  generalize w.alloc (.cells #[.string nm, .bool kp, .bool lf, .slice A bs.length c] 24) = w0 at *
  obtain ⟨x0, x1, x2, x3⟩ := r0.graph
  obtain ⟨w1, hm1, own1, hb1, hz1⟩ := make_NN bs.length (by omega) w0
  have HZ1 := Lib.hid hz1
  clear hz1
  go_upto_region 2 with fail
  have r1 := r0.below hb1
  have hm1' := Lib.hid hm1
  clear x0 x1 x2 x3 hm1
  obtain ⟨x0, x1, x2, x3⟩ := r1.graph
  obtain ⟨w2, hm2, own2, hb2, hz2⟩ := make_N bs.length (by omega) w1
  have HZ2 := Lib.hid hz2
  clear hz2
  go_upto_region 3 with fail
  have r2 := r1.below hb2
  have hm2' := Lib.hid hm2
  have own1' := own1.below hb2
  have G12 : w0.heap.size < w1.heap.size := by have := HZ1.out; omega
  have G2l : w1.heap.size < w2.heap.size := by have := HZ2.out; omega
  have G1l : w.heap.size < w0.heap.size := r0.lt
  have t2 := (hb0.trans (hb1.mono hb0.size)).trans (hb2.mono (Nat.le_trans hb0.size hb1.size))
  have HR2 := Lib.hid r2
  have HO1 := Lib.hid own1'
  have HO2 := Lib.hid own2
  clear x0 x1 x2 x3 hm2 hm1' hm2' r0 r1 own1 own2 own1' hb0 hb1 hb2 HZ1 HZ2 r2
  generalize w0.heap.size = G1 at *
  generalize w1.heap.size = G2 at *
  go_wp2_with fail
  go_loopw [26] (fun i wr => ∃ (k : Nat) (F : Nat → Prop), k ≤ bs.length ∧ i = .int .i64 (k : Int) ∧ OwnF oNN 29 wr (.slice (some ⟨G1, 0, none⟩) bs.length bs.length) (mixC (chStart bs.length).ch (List.replicate bs.length []) k) F ∧ OwnF oN 3 wr (.slice (some ⟨G2, 0, none⟩) bs.length bs.length) (mixC (chStart bs.length).of (List.replicate bs.length 0) k) (fun b => b = G2) ∧ (∀ b, F b → w.heap.size ≤ b ∧ b ≠ G2 ∧ b ≠ w.heap.size) ∧ Row wr w.heap.size 24 (graphCells (.slice A bs.length c) ⟨nm, kp, lf, bs⟩) ∧ Below w.heap.size w wr) (fun i _ => bs.length - (intOf i).toNat)
  case atStart => exact ⟨0, _, Nat.zero_le _, rfl, by rw [mixC_zero]; exact HO1.out, by rw [mixC_zero]; exact HO2.out, fun b hb => by rw [hb]; omega, HR2.out, t2⟩
  case round =>
    obtain ⟨k, F, hk, rfl, ho1, ho2, hF, hr, hbr⟩ := hrel
    have hcl : (chStart bs.length).ch.length = (List.replicate bs.length ([] : List Nat)).length := by simp [chStart]
    have hol : (chStart bs.length).of.length = (List.replicate bs.length (0 : Nat)).length := by simp [chStart]
    by_cases hlt : k < bs.length
    · have hat := mixC_at hcl (k := k) (b := []) (by simp [hlt])
      have hsc := mixC_succ hcl (k := k) (l := [k]) (by rw [chStart_get, if_pos hlt])
      have hso := mixC_succ hol (k := k) (l := k) (by show (List.range bs.length)[k]? = some k; exact List.getElem?_range hlt)
      have hl1 : (mixC (chStart bs.length).ch (List.replicate bs.length []) k).length = bs.length := by rw [mixC_len hcl]; simp
      have hl2 : (mixC (chStart bs.length).of (List.replicate bs.length 0) k).length = bs.length := by rw [mixC_len hol]; simp
      have b6 := below_alloc' wr (.cells #[.int .i64 (k : Int)] 3)
      obtain ⟨v, Fi, F0, h0, hox, hd, hiff, hc, hz, hg⟩ := (ho1.below b6).openNN hl1 hat
      obtain ⟨hs1, hg1⟩ := h0.setNN (litN 3 wr k) (fun b hb h => by
        have h1 := (hiff b).2 (.inl h)
        have := ho1.lt b h1
        omega)
      have ho2' := (ho2.below b6).grown hg1 (fun b hb e => by injection e with e; have := hF G1 (((hiff G1).2 (.inl hg))); omega)
      obtain ⟨ho3, hg3, hz3, -, x, -, hc3⟩ := ho2'.setN hl2 hlt k
      have hfz : (wr.alloc (.cells #[.int .i64 (k : Int)] 3)).frozen? ⟨G1, k, none⟩ = false := hz
      rw [hl1, hsc] at hs1
      rw [hso] at ho3
      have HS1 := Lib.hid hs1
      have HO3 := Lib.hid ho3
      have HF := Lib.hid hF
      have HI := Lib.hid hiff
      have HG1 := Lib.hid hg1
      have HG3 := Lib.hid hg3
      have HB6 := Lib.hid b6
      have HRW := Lib.hid hr
      have HO1w := Lib.hid ho1.lt
      have hltI : (k : Int) < (bs.length : Int) := by omega
      have hG2w : G2 < wr.heap.size := ho2.lt G2 rfl
      have hww : w.heap.size < wr.heap.size := hr.lt
      clear hat hsc hso hl1 hl2 h0 hox hd hs1 ho2' ho3 hF hiff hg1 hg3 ho1 ho2 b6 hr hcl hol
      go_wp2_with fail
      refine ⟨⟨k + 1, fun b => F0 b ∨ b = wr.heap.size, by omega, by go_num, ?_, ?_, ?_, ?_, ?_⟩, by simp [intOf]; omega⟩
      · exact HS1.out.grown HG3.out (fun b hb e => by
          injection e with e
          rcases hb with hb | hb
          · have := (HF.out b ((HI.out b).2 (.inl hb))).2.1
            omega
          · omega)
      · exact HO3.out
      · intro b hb
        rcases hb with hb | hb
        · exact HF.out b ((HI.out b).2 (.inl hb))
        · omega
      · exact ((HRW.out.below HB6.out).grown HG1.out (fun e => by injection e with e; omega)).grown HG3.out (fun e => by injection e with e; omega)
      · exact ((hbr.trans (HB6.out.mono hbr.size)).grown HG1.out (Nat.le_trans hbr.size HB6.out.size) (fun j hj => by injection hj with hj; omega)).grown HG3.out (Nat.le_trans (Nat.le_trans hbr.size HB6.out.size) HG1.out.size) (fun j hj => by injection hj with hj; omega)
    · obtain rfl : k = bs.length := by omega
      have hcz : (List.replicate bs.length ([] : List Nat)).length = bs.length := by simp
      have hoz : (List.replicate bs.length (0 : Nat)).length = bs.length := by simp
      have hca : mixC (chStart bs.length).ch (List.replicate bs.length []) bs.length = (chStart bs.length).ch := by
        have := mixC_all hcl
        rwa [hcz] at this
      have hoa : mixC (chStart bs.length).of (List.replicate bs.length 0) bs.length = (chStart bs.length).of := by
        have := mixC_all hol
        rwa [hoz] at this
      rw [hca] at ho1
      rw [hoa] at ho2
      have HA1 := Lib.hid ho1
      have HA2 := Lib.hid ho2
      have HAF := Lib.hid hF
      have hG2w : G2 < wr.heap.size := ho2.lt G2 rfl
      have hww : w.heap.size < wr.heap.size := hr.lt
      have hCB := Kd.C_mono hbr hC
      have hCL := Kd.C_mono hbr hL
      have HRW := Lib.hid hr
      obtain ⟨x0, x1, x2, x3⟩ := hr.graph
      clear hcl hol hcz hoz hca hoa ho1 ho2 hF hr hlt hk
      go_wp2_with fail
      refine (edges_calls nm kp lf A c bs LA lc l _ hCB hCL HW.out hl hbl).mono ?_
      rintro e w5 ⟨vE, FE, rfl, ownE, hFE, hb5⟩
      obtain ⟨E, hEe⟩ : ∃ E, E = edgesD l nm bs := ⟨_, rfl⟩
      rw [← hEe] at ownE
      have HEE := Lib.hid hEe
      have hin : ∀ e ∈ E, EdgIn bs.length e := by rw [hEe]; exact HE.out
      have HIN := Lib.hid hin
      obtain ⟨AE, cE, rfl, lE, mE, -⟩ := ownE.read
      have hlE := len_le lE mE
      have B1 := HA1.out.below hb5
      have B2 := HA2.out.below hb5
      have t5 := hbr.trans (hb5.mono hbr.size)
      have HB1 := Lib.hid B1
      have HB2 := Lib.hid B2
      have HBE := Lib.hid ownE
      have hFx : ∀ b, F b → w.heap.size ≤ b ∧ b ≠ G2 ∧ ¬ FE b := fun b hb => ⟨(HAF.out b hb).1, (HAF.out b hb).2.1, fun h => by have := hFE b h; have := HA1.out.lt b hb; omega⟩
      have HFX := Lib.hid hFx
      have hFEG : ∀ b, FE b → w.heap.size ≤ b ∧ b ≠ G2 := fun b hb => by have := hFE b hb; omega
      have HFEG := Lib.hid hFEG
      clear hEe hin lE mE B1 B2 ownE hFx hFEG hFE x0 x1 x2 x3 hCB hCL HA1 HA2 HAF HRW hbr hb5
      go_wp2_with fail
      go_loopw [43] (fun i wr => ∃ (k : Nat) (F : Nat → Prop), k ≤ E.length ∧ i = .int .i64 (k : Int) ∧ OwnF oNN 29 wr (.slice (some ⟨G1, 0, none⟩) bs.length bs.length) (runE bs.length (E.take k)).ch F ∧ OwnF oN 3 wr (.slice (some ⟨G2, 0, none⟩) bs.length bs.length) (runE bs.length (E.take k)).of (fun b => b = G2) ∧ OwnF oEdg 55 wr (.slice AE E.length cE) E FE ∧ (∀ b, F b → w.heap.size ≤ b ∧ b ≠ G2 ∧ ¬ FE b) ∧ Below w.heap.size w wr) (fun i _ => E.length - (intOf i).toNat)
      case atStart => exact ⟨0, F, Nat.zero_le _, rfl, HB1.out, HB2.out, HBE.out, HFX.out, t5⟩
      case round =>
        obtain ⟨k, F, hk, rfl, ho1, ho2, hoE, hF, hbr⟩ := hrel
        by_cases hlt : k < E.length
        · obtain ⟨x, hx⟩ := get_some E k hlt
          have hinv := runE_inv (n := bs.length) (E := E.take k) (fun e he => HIN.out e (List.mem_of_mem_take he))
          obtain ⟨f, t, hfe, hte, hfn, htn⟩ := HIN.out x (List.mem_of_getElem? hx)
          have hrt := runE_take (n := bs.length) hx
          generalize runE bs.length (E.take k) = s at *
          obtain ⟨a, xs, hofa, hcha, hfx, han, hxn, hxl, -⟩ := hinv.of hfn
          obtain ⟨b, ys, hofb, hchb, hty, hbn, hyn, hyl, hyb⟩ := hinv.of htn
          have hst : stepE s x = stepC s f t := by unfold stepE; rw [hfe, hte]; simp
          rw [hst] at hrt
          have hj := joins_iff hofa hofb hcha hchb
          obtain ⟨m, z, hxm, hxz, hlast⟩ := last_of hxn
          obtain ⟨p, y0, hyp, hy0, hhead⟩ := head_of hyn
          rw [hlast, hhead] at hj
          obtain ⟨hE1, -⟩ := hoE.edges
          have hRE := hE1
          obtain ⟨-, ⟨hv, hn0⟩ | ⟨gE, capE, curE, hvE, -⟩⟩ := hE1
          · omega
          injection hvE with q1 q2 q3
          subst q1 q3
          clear q2
          obtain ⟨c0, c1, c2⟩ := RowE.cells hRE hx
          rw [hfe] at c0
          rw [hte] at c1
          have b9 := below_alloc' wr (.cells #[.int .i64 (f : Int), .int .i64 (t : Int), .float .f64 x.w.1] 55)
          have r9 : Row (wr.alloc (.cells #[.int .i64 (f : Int), .int .i64 (t : Int), .float .f64 x.w.1] 55)) wr.heap.size 55 [.int .i64 (f : Int), .int .i64 (t : Int), .float .f64 x.w.1] := Row.new wr _ _
          have o1 := ho1.below b9
          have o2 := ho2.below b9
          have oE := hoE.below b9
          have t9 := hbr.trans (b9.mono hbr.size)
          have HRT := Lib.hid hrt
          have HJ := Lib.hid hj
          have HINV := Lib.hid hinv
          have HOFA := Lib.hid hofa
          have HOFB := Lib.hid hofb
          have HCHA := Lib.hid hcha
          have HCHB := Lib.hid hchb
          have HLA := Lib.hid hlast
          have HHE := Lib.hid hhead
          have HXM := Lib.hid hxm
          have HYP := Lib.hid hyp
          have HXL := Lib.hid hxl
          have HYL := Lib.hid hyl
          have HYB := Lib.hid hyb
          have HF := Lib.hid hF
          have hltI : (k : Int) < (E.length : Int) := by omega
          clear hx hrt hfe hte hst hj hfx hty hxn hyn ho1 ho2 hoE hRE hbr
          go_upto_region 11 with fail
          generalize wr.alloc (.cells #[.int .i64 (f : Int), .int .i64 (t : Int), .float .f64 x.w.1] 55) = w9 at *
          clear b9 c0 c1 c2
          have c0 := r9.cell (j := 0) rfl
          have c1 := r9.cell (j := 1) rfl
          have d0 := o2.cellN hofa
          have d1 := o2.cellN hofb
          obtain ⟨va, Fa, F0a, h0a, oxa, da, ia, ca, za, ga⟩ := o1.openNN hinv.len hcha
          obtain ⟨vb, Fb, F0b, h0b, oyb, db, ib, cb, zb, gb⟩ := o1.openNN hinv.len hchb
          obtain ⟨Aa, na, rfl, la, ma, Ca, ea⟩ := oxa.readN
          obtain ⟨Ab, nb, rfl, lb, mb, Cb, eb⟩ := oyb.readN
          obtain ⟨pa, rfl, -, xz⟩ := Ca m z hxz
          obtain ⟨pb, rfl, -, yz⟩ := Cb 0 y0 hy0
          rw [hxm] at ca oxa h0a
          rw [hyp] at cb oyb h0b
          have HO1 := Lib.hid o1
          have HO2 := Lib.hid o2
          have HOE := Lib.hid oE
          have hfnI : (f : Int) < (bs.length : Int) := by omega
          have htnI : (t : Int) < (bs.length : Int) := by omega
          have hanI : (a : Int) < (bs.length : Int) := by omega
          have hbnI : (b : Int) < (bs.length : Int) := by omega
          have hml : m ≤ 1000 := by omega
          have hpl : p ≤ 1000 := by omega
          have hpI : (0 : Int) < (p : Int) + 1 := by omega
          clear la ma lb mb Ca Cb ea eb hinv hofa hofb hcha hchb hxz hy0 hlast hhead hxm hyp hxl hyl hyb hF o1 o2 oE
          have HOX := Lib.hid oxa
          have HOY := Lib.hid oyb
          have HHA := Lib.hid h0a
          have HDA := Lib.hid da
          have HIA := Lib.hid ia
          have HIB := Lib.hid ib
          have HDB := Lib.hid db
          clear oxa oyb h0a h0b da ia db ib
          by_cases hab : a = b
          · have z1 : ((a : Int) == (b : Int)) = true := by simp [hab]
            have z1' : (a == b) = true := by simp [hab]
            have hno : stepC s f t = s := stepC_no (fun h => (HJ.out.1 h).1 hab)
            have HNO := Lib.hid hno
            clear hno hab
            go_quiet (fail)
            go_wp2_with fail
            go_quiet (fail)
            go_wp2_with fail
            go_quiet (fail)
            go_wp2_with fail
            exact ⟨⟨k + 1, F, by omega, by go_num, by rw [HRT.out, HNO.out]; exact HO1.out.keep (fun _ _ => rfl), by rw [HRT.out, HNO.out]; exact HO2.out.keep (fun _ _ => rfl), HOE.out.keep (fun _ _ => rfl), HF.out, Below.drewN t9 _⟩, by simp [intOf]; omega⟩
          · have z1 : ((a : Int) == (b : Int)) = false := beq_eq_false_iff_ne.2 (by omega)
            have z1' : (a == b) = false := by simpa using hab
            by_cases hzf : z = f
            · have z2 : ((z : Int) != (f : Int)) = false := by simp [hzf]
              have z2' : (z != f) = false := by simp [hzf]
              by_cases hyt : y0 = t
              · have z3 : ((y0 : Int) != (t : Int)) = false := by simp [hyt]
                have z3' : (y0 != t) = false := by simp [hyt]
                have hyes := stepC_yes HOFA.out HOFB.out HCHA.out HCHB.out hab (by rw [HLA.out, hzf]) (by rw [HHE.out, hyt])
                have HYES := Lib.hid hyes
                have hba : ¬ b = a := fun e => hab e.symm
                have hcY : kN.C w9 (some ⟨pb, 0, none⟩) ys := by
                  obtain ⟨A2, n2, e2, -, -, hC2⟩ := HOY.out.read
                  injection e2 with e2
                  rw [e2]
                  exact hC2
                have hxyl : xs.length + ys.length ≤ 100000000 := by have := HXL.out; have := HYL.out; omega
                have HXY := Lib.hid hxyl
                have HAB := Lib.hid hab
                have HBA := Lib.hid hba
                have HCY := Lib.hid hcY
                have hpa : Fa pa := HOX.out.row rfl
                have hpb : Fb pb := HOY.out.row rfl
                have HPA := Lib.hid hpa
                have HPB := Lib.hid hpb
                clear hyes hzf hyt hab hba hcY hxyl hpa hpb
                go_quiet (fail)
                go_wp2_with fail
                go_quiet (fail)
                go_wp2_with fail
                go_quiet (fail)
                go_upto_region 14 with fail
                clear xz yz c0 c1 d0 d1 ca za zb
                go_upto_region 15 with (refine wpList_append_f (k := oN) elN rfl _ _ rfl (A := some ⟨pb, 0, none⟩) (c := nb) (v := .slice (some ⟨pa, 0, none⟩) (m + 1) na) (xs := xs) (ys := ys) (F := Fa) (G := noF) (by exact HOX.out.keep (fun _ _ => rfl)) (by exact YF.flat (kd := kN) (hk := kN_any) HCY.out) (fun _ _ h => h) rfl (by rw [HYP.out]; rfl) HXY.out ?_; intro v10 w10 hg10; obtain ⟨⟨F10, own10, hF10⟩, hgr10⟩ := hg10; obtain ⟨A10, n10, rfl, l10, m10, -⟩ := own10.readN; obtain ⟨L10, hL10⟩ : ∃ L, L = (xs ++ ys).length := ⟨_, rfl⟩; rw [← hL10] at own10 ⊢; have hgw : w9.grownBy w10 (some pa) := ⟨hgr10.os, hgr10.tape, hgr10.output, hgr10.size, hgr10.block⟩; obtain ⟨k1, k2, k3, k4, k5, k6⟩ := join_mem HINV.out.len HCHB.out HAB.out HHA.out HOX.out HDA.out HIA.out cb hgw own10 (fun x hx => (hF10 x hx).elim .inl (fun h => h.elim (fun h => h.elim) .inr)); have K5 := Lib.hid k5; have K6 := Lib.hid k6; have HGW := Lib.hid hgw; clear k5 k6 own10 hF10 hgr10 l10 m10 hL10)
                obtain ⟨F12, ow12, hF12⟩ := K5.out
                obtain ⟨Fb2, oy12, hFb⟩ := K6.out
                have hpa3 := HF.out pa ((HIA.out pa).2 (.inr HPA.out))
                have hG13 := HF.out G1 ((HIA.out G1).2 (.inl HHA.out.row))
                have hG2s : G2 < w9.heap.size := HO2.out.lt G2 rfl
                have hws : w.heap.size ≤ w9.heap.size := t9.size
                have gs1 := grown_set w10 G1 a (.slice A10 L10 n10)
                have gs2 := grown_set (w10.setCell ⟨G1, a, none⟩ (.slice A10 L10 n10)) G1 b (.slice none 0 0)
                have o2c := ((HO2.out.grown HGW.out (fun q hq e => by injection e with e; omega)).grown gs1 (fun q hq e => by injection e with e; omega)).grown gs2 (fun q hq e => by injection e with e; omega)
                have oEc := ((HOE.out.grown HGW.out (fun q hq e => by injection e with e; subst e; exact hpa3.2.2 hq)).grown gs1 (fun q hq e => by injection e with e; subst e; exact hG13.2.2 hq)).grown gs2 (fun q hq e => by injection e with e; subst e; exact hG13.2.2 hq)
                have t10 := t9.grown HGW.out t9.size (fun q hq => by injection hq with hq; omega)
                have t11 := t10.grown gs1 t10.size (fun q hq => by injection hq with hq; omega)
                have t12 := t11.grown gs2 t11.size (fun q hq => by injection hq with hq; omega)
                obtain ⟨A', c', e', -, -, Cy, ey⟩ := oy12.readN
                injection e' with e1 e2 e3
                rw [← e1] at Cy ey
                have hpb : Fb2 pb := ey pb rfl
                have hpbG : pb ≠ G2 := by
                  rcases hFb pb hpb with e | e
                  · exact (HF.out pb e).2.1
                  · omega
                have hF12' : ∀ q, F12 q → w.heap.size ≤ q ∧ q ≠ G2 ∧ ¬ FE q := fun q hq => by
                  rcases hF12 q hq with e | e
                  · exact HF.out q e
                  · exact ⟨by omega, by omega, fun h => by have := HOE.out.lt q h; omega⟩
                have HO2c := Lib.hid o2c
                have HOEc := Lib.hid oEc
                have HOW := Lib.hid ow12
                have HF12 := Lib.hid hF12'
                have HCy := Lib.hid Cy
                clear k1 k2 k3 k4 K5 K6 HGW gs1 gs2 o2c oEc t10 t11 oy12 ow12 hF12 hF12' hFb Cy ey e1 e2 e3 hpb HO1 HO2 HOE HOX HOY HHA HDA HIA HIB HDB HCY cb t9 HPA HPB
                generalize (w10.setCell ⟨G1, a, none⟩ (.slice A10 L10 n10)).setCell ⟨G1, b, none⟩ (.slice none 0 0) = w12 at *
                go_wp2_with fail
                go_loopw [98] (fun i wr => ∃ j : Nat, j ≤ ys.length ∧ i = .int .i64 (j : Int) ∧ OwnF oN 3 wr (.slice (some ⟨G2, 0, none⟩) bs.length bs.length) (fillL (ys.take j) a s.of) (fun b => b = G2) ∧ w12.grownBy wr (some G2)) (fun i _ => ys.length - (intOf i).toNat)
                case atStart => exact ⟨0, Nat.zero_le _, rfl, HO2c.out, grown_refl _ _⟩
                case round =>
                  obtain ⟨j, hj, rfl, hof, hgr⟩ := hrel
                  by_cases hltj : j < ys.length
                  · obtain ⟨i0, hi0⟩ := get_some ys j hltj
                    have hi0n := HYB.out i0 (List.mem_of_getElem? hi0)
                    obtain ⟨g', e', -, cy⟩ := HCy.out j i0 hi0
                    injection e' with e'
                    injection e' with e'
                    subst e'
                    have cy' := hgr.cell cy (fun e => hpbG (by injection e))
                    have hfl := fillL_take hi0 a s.of
                    have hfn : (fillL (ys.take j) a s.of).length = bs.length := by rw [fillL_len]; exact HINV.out.len2
                    obtain ⟨o3, g3, z3f, -, y3, -, c3⟩ := hof.setN hfn hi0n a
                    rw [← hfl] at o3
                    have HO3 := Lib.hid o3
                    have HG3 := Lib.hid g3
                    have hi0I : (i0 : Int) < (bs.length : Int) := by omega
                    have hyp := HYP.out
                    have hltjI : (j : Int) < (p : Int) + 1 := by omega
                    clear hi0 cy hfl hfn o3 g3 hof hyp
                    go_wp2_with fail
                    exact ⟨⟨j + 1, by omega, by go_num, HO3.out, grown_trans hgr HG3.out⟩, by simp [intOf]; omega⟩
                  · obtain rfl : j = ys.length := by omega
                    have hyp := HYP.out
                    have hend : ¬ ((ys.length : Int) < (p : Int) + 1) := by omega
                    have hend2 : ¬ (ys.length < p + 1) := by omega
                    rw [List.take_length] at hof
                    have HOF := Lib.hid hof
                    clear hof hyp
                    go_wp2_with fail
                    exact ⟨⟨k + 1, F12, by omega, by go_num, by rw [HRT.out, HYES.out]; exact HOW.out.grown hgr (fun q hq e => by injection e with e; exact (HF12.out q hq).2.1 e.symm), by rw [HRT.out, HYES.out]; exact HOF.out, HOEc.out.grown hgr (fun q hq e => by injection e with e; subst e; exact (HFEG.out _ hq).2 rfl), HF12.out, t12.grown hgr t12.size (fun q hq => by injection hq with hq; omega)⟩, by simp [intOf]; omega⟩
              · have z3 : ((y0 : Int) != (t : Int)) = true := bne_iff_ne.2 (by omega)
                have z3' : (y0 != t) = true := by simpa using hyt
                have hno : stepC s f t = s := stepC_no (fun h => hyt (by have := (HJ.out.1 h).2.2; injection this))
                have HNO := Lib.hid hno
                clear hno hzf hyt hab
                go_quiet (fail)
                go_wp2_with fail
                go_quiet (fail)
                go_wp2_with fail
                go_quiet (fail)
                go_wp2_with fail
                exact ⟨⟨k + 1, F, by omega, by go_num, by rw [HRT.out, HNO.out]; exact HO1.out.keep (fun _ _ => rfl), by rw [HRT.out, HNO.out]; exact HO2.out.keep (fun _ _ => rfl), HOE.out.keep (fun _ _ => rfl), HF.out, Below.drewN t9 _⟩, by simp [intOf]; omega⟩
            · have z2 : ((z : Int) != (f : Int)) = true := bne_iff_ne.2 (by omega)
              have z2' : (z != f) = true := by simpa using hzf
              have hno : stepC s f t = s := stepC_no (fun h => hzf (by have := (HJ.out.1 h).2.1; injection this))
              have HNO := Lib.hid hno
              clear hno hzf hab
              go_quiet (fail)
              go_wp2_with fail
              go_quiet (fail)
              go_wp2_with fail
              go_quiet (fail)
              go_wp2_with fail
              exact ⟨⟨k + 1, F, by omega, by go_num, by rw [HRT.out, HNO.out]; exact HO1.out.keep (fun _ _ => rfl), by rw [HRT.out, HNO.out]; exact HO2.out.keep (fun _ _ => rfl), HOE.out.keep (fun _ _ => rfl), HF.out, Below.drewN t9 _⟩, by simp [intOf]; omega⟩
        · obtain rfl : k = E.length := by omega
          rw [List.take_length] at ho1 ho2
          have hinv := runE_inv (n := bs.length) (E := E) HIN.out
          have hfl : (runE bs.length E).ch.flatten.length ≤ 1000000 := by rw [List.length_flatten, hinv.tot]; omega
          have hrl : (runE bs.length E).ch.length ≤ 1000 := by rw [hinv.len]; exact hbl
          obtain ⟨A', c', e', l', m', hCC⟩ := ho1.read
          injection e' with e1 e2 e3
          have hcon := concat_calls A' c' (runE bs.length E).ch wr hCC hrl hfl
          rw [← e1, ← e2, ← e3] at hcon
          have HCON := Lib.hid hcon
          have HEQ := HEE
          clear hcon e1 e2 e3 l' m' hCC hfl hrl hinv ho1 ho2 hoE
          go_wp2_with fail
          refine HCON.out.mono ?_
          rintro e w9 ⟨v9, F9, rfl, own9, hF9, hb9⟩
          go_wp2_with fail
          go_ret
          exact ⟨v9, F9, rfl, by rw [← HEE.out]; exact own9, fun b hb => Nat.le_trans hbr.size (hF9 b hb), hbr.trans (hb9.mono hbr.size)⟩
end Go.Proofs.Ythnkikdbllkmkaa
