/- Plain: folding. -/
import Derived.Test.YtokkngfgppikkabKk
import Derived.Test.YtokkngfgppikkabPs
namespace Go.Proofs.Ytokkngfgppikkab
open Go.RowKit
set_option linter.unusedVariables false
set_option linter.unusedSimpArgs false

/-- An instruction folded, with what is known behind it. -/
def foldOp (o : Op) (k : Known) : Op :=
  if ¬ fkind o.ins.op = 0 ∨ writes o.ins.op o.ins.a < 0 ∨ k.isAt (writes o.ins.op o.ins.a).toNat = false then o else
  if -32768 ≤ wrap32 (k.wAt (writes o.ins.op o.ins.a).toNat : Int) ∧ wrap32 (k.wAt (writes o.ins.op o.ins.a).toNat : Int) ≤ 32767 then ⟨⟨8, writes o.ins.op o.ins.a, 0, 0, wrap32 (k.wAt (writes o.ins.op o.ins.a).toNat : Int)⟩, false, 0, 0, 0⟩ else
  if k.wAt (writes o.ins.op o.ins.a).toNat % 65536 = 0 then ⟨⟨9, writes o.ins.op o.ins.a, 0, 0, ((k.wAt (writes o.ins.op o.ins.a).toNat / 65536 : Nat) : Int)⟩, false, 0, 0, 0⟩ else o
def jumpI (x : Int) : Term := ⟨1, 0, 0, 0, x, 0, Ins.zero⟩
def foldTerm (t : Term) (k : Known) : Term := if t.kind = 2 ∧ (takenK k t).2 = true then jumpI (if (takenK k t).1 = true then t.to else t.els) else t
def foldOps : List Op → Known → List Op
  | [], _ => []
  | o :: r, k => foldOp o (behindK k o) :: foldOps r (behindK k o)
def trapBlock : Block := ⟨[], ⟨3, 0, 0, 0, 0, 0, ⟨25, 0, 0, 0, 0⟩⟩⟩
def foldB (b : Block) (k : Known) : Block := if k.reached = false then trapBlock else ⟨foldOps b.ops k, foldTerm b.fin (behindOps b.ops k)⟩
def foldBs (bs : List Block) (ins : List Known) : List Block := List.zipWith foldB bs ins
theorem foldOps_len : ∀ (os : List Op) (k : Known), (foldOps os k).length = os.length
  | [], _ => rfl
  | o :: r, k => by
    show (foldOps r (behindK k o)).length + 1 = r.length + 1
    rw [foldOps_len r]
theorem foldBs_len {bs : List Block} {ins : List Known} (h : ins.length = bs.length) : (foldBs bs ins).length = bs.length := by
  unfold foldBs
  rw [List.length_zipWith, h, Nat.min_self]
theorem foldBs_get {bs : List Block} {ins : List Known} {i : Nat} {b : Block} {k : Known} (hb : bs[i]? = some b) (hk : ins[i]? = some k) : (foldBs bs ins)[i]? = some (foldB b k) := by
  unfold foldBs
  rw [List.getElem?_zipWith, hb, hk]
theorem foldBs_from {bs : List Block} {ins : List Known} {i : Nat} {c : Block} (h : (foldBs bs ins)[i]? = some c) : ∃ b k, bs[i]? = some b ∧ ins[i]? = some k ∧ c = foldB b k := by
  unfold foldBs at h
  rw [List.getElem?_zipWith] at h
  cases hb : bs[i]? with
  | none => rw [hb] at h; cases h
  | some b =>
    cases hk : ins[i]? with
    | none => rw [hb, hk] at h; cases h
    | some k =>
      rw [hb, hk] at h
      injection h with h
      exact ⟨b, k, rfl, rfl, h.symm⟩

theorem wrap32_eq (x : Nat) (h : x < 4294967296) : wrap32 (x : Int) = if x < 2147483648 then (x : Int) else (x : Int) - 4294967296 := by
  unfold wrap32
  split <;> omega
theorem cut32_wrap {x : Nat} (h : x < 4294967296) : cutN (wrap32 (x : Int)) 32 = x := by
  rw [wrap32_eq x h]
  unfold cutN
  rw [show ((2 ^ 32 : Nat) : Int) = 4294967296 from rfl]
  split <;> omega
theorem cut16_small {x : Nat} (h : x < 65536) : cutN (x : Int) 16 = x := by
  unfold cutN
  rw [show ((2 ^ 16 : Nat) : Int) = 65536 from rfl]
  omega
/-- How an instruction that is folded looks. -/
theorem foldOp_cases (o : Op) (k : Known) : foldOp o k = o ∨ (fkind o.ins.op = 0 ∧ ¬ writes o.ins.op o.ins.a < 0 ∧ k.isAt (writes o.ins.op o.ins.a).toNat = true ∧
    ((-32768 ≤ wrap32 (k.wAt (writes o.ins.op o.ins.a).toNat : Int) ∧ wrap32 (k.wAt (writes o.ins.op o.ins.a).toNat : Int) ≤ 32767 ∧ foldOp o k = ⟨⟨8, writes o.ins.op o.ins.a, 0, 0, wrap32 (k.wAt (writes o.ins.op o.ins.a).toNat : Int)⟩, false, 0, 0, 0⟩) ∨
     (¬ (-32768 ≤ wrap32 (k.wAt (writes o.ins.op o.ins.a).toNat : Int) ∧ wrap32 (k.wAt (writes o.ins.op o.ins.a).toNat : Int) ≤ 32767) ∧ k.wAt (writes o.ins.op o.ins.a).toNat % 65536 = 0 ∧ foldOp o k = ⟨⟨9, writes o.ins.op o.ins.a, 0, 0, ((k.wAt (writes o.ins.op o.ins.a).toNat / 65536 : Nat) : Int)⟩, false, 0, 0, 0⟩))) := by
  by_cases h1 : ¬ fkind o.ins.op = 0 ∨ writes o.ins.op o.ins.a < 0 ∨ k.isAt (writes o.ins.op o.ins.a).toNat = false
  · left; unfold foldOp; rw [if_pos h1]
  · have h2 : fkind o.ins.op = 0 ∧ ¬ writes o.ins.op o.ins.a < 0 ∧ k.isAt (writes o.ins.op o.ins.a).toNat = true := by
      refine ⟨?_, fun h => h1 (.inr (.inl h)), ?_⟩
      · apply Classical.byContradiction; intro h; exact h1 (.inl h)
      · cases hh : k.isAt (writes o.ins.op o.ins.a).toNat with
        | true => rfl
        | false => exact absurd (.inr (.inr hh)) h1
    by_cases h3 : -32768 ≤ wrap32 (k.wAt (writes o.ins.op o.ins.a).toNat : Int) ∧ wrap32 (k.wAt (writes o.ins.op o.ins.a).toNat : Int) ≤ 32767
    · exact .inr ⟨h2.1, h2.2.1, h2.2.2, .inl ⟨h3.1, h3.2, by unfold foldOp; rw [if_neg h1, if_pos h3]⟩⟩
    · by_cases h4 : k.wAt (writes o.ins.op o.ins.a).toNat % 65536 = 0
      · exact .inr ⟨h2.1, h2.2.1, h2.2.2, .inr ⟨h3, h4, by unfold foldOp; rw [if_neg h1, if_neg h3, if_pos h4]⟩⟩
      · left; unfold foldOp; rw [if_neg h1, if_neg h3, if_neg h4]
theorem fold_wr {o : Op} (hr : o.ins.right = true) (h : ¬ writes o.ins.op o.ins.a < 0) : writes o.ins.op o.ins.a = o.ins.a ∧ 1 ≤ o.ins.a ∧ o.ins.a ≤ 15 := by
  obtain ⟨h1, h2, -⟩ := writes_pos h
  obtain ⟨h3, h4⟩ := right_a hr
  exact ⟨h1, by omega, h4⟩
theorem addi_ins_right {a n : Int} (h1 : 1 ≤ a) (h2 : a ≤ 15) (h3 : -32768 ≤ n) (h4 : n ≤ 32767) : (⟨8, a, 0, 0, n⟩ : Ins).right = true := by
  unfold Ins.right three near reg
  simp
  omega
theorem high_ins_right {a n : Int} (h1 : 1 ≤ a) (h2 : a ≤ 15) (h3 : 0 ≤ n) (h4 : n ≤ 65535) : (⟨9, a, 0, 0, n⟩ : Ins).right = true := by
  unfold Ins.right three near reg branch
  simp
  omega
theorem plain_right {i : Ins} {f d : Int} (h : i.right = true) (hk : i.kind ≤ 1) : (⟨i, false, 0, 0, 0⟩ : Op).right f d = true := by
  unfold Op.right
  simp [h, hk]
theorem foldOp_right {o : Op} {k : Known} (hk : k.wf) {f d : Int} (hr : o.right f d = true) : (foldOp o k).right f d = true := by
  have hri := Op.right_ins hr
  have hlt := Known.w_lt hk (writes o.ins.op o.ins.a).toNat
  rcases foldOp_cases o k with e | ⟨h1, h2, h3, ⟨h4, h5, e⟩ | ⟨h4, h5, e⟩⟩
  · rw [e]; exact hr
  · obtain ⟨w1, w2, w3⟩ := fold_wr hri h2
    rw [w1] at h4 h5 e hlt
    rw [e]
    exact plain_right (addi_ins_right w2 w3 h4 h5) (by show kindOf 8 ≤ 1; decide)
  · obtain ⟨w1, w2, w3⟩ := fold_wr hri h2
    rw [w1] at h4 h5 e hlt
    rw [e]
    exact plain_right (high_ins_right w2 w3 (by omega) (by omega)) (by show kindOf 9 ≤ 1; decide)
theorem foldOps_right : ∀ {os : List Op} {k : Known} {f d : Int}, (∀ o ∈ os, o.right f d = true) → GoodK k → ∀ o ∈ foldOps os k, o.right f d = true
  | [], _, _, _, _, _, o, h => by cases h
  | x :: r, k, f, d, hr, hk, o, h => by
    have hx := hr x (List.mem_cons_self ..)
    have hb : GoodK (behindK k x) := ⟨behindK_wf hk.1 x, behindK_rightK hk.1 hk.2 (Op.right_ins hx)⟩
    rcases List.mem_cons.1 h with rfl | h
    · exact foldOp_right hb.1 hx
    · exact foldOps_right (fun o ho => hr o (List.mem_cons_of_mem _ ho)) hb o h
theorem jumpI_right {x : Int} {n f : Int} (h0 : 0 ≤ x) (h1 : x < n) : (jumpI x).right n f = true := by
  unfold Term.right jumpI Term.none
  simp
  omega
theorem foldTerm_right {t : Term} {k : Known} {n f : Int} (h : t.right n f = true) : (foldTerm t k).right n f = true := by
  unfold foldTerm
  split
  · rename_i hk
    obtain ⟨⟨h1, h2⟩, ⟨h3, h4⟩, -⟩ := Term.right_branch h hk.1
    split
    · exact jumpI_right h1 h2
    · exact jumpI_right h3 h4
  · exact h
theorem trap_right (n f d : Int) : trapBlock.right n f d = true := rfl
theorem foldB_right {b : Block} {k : Known} (hk : GoodK k) {n f d : Int} (h : b.right n f d = true) : (foldB b k).right n f d = true := by
  unfold foldB
  split
  · exact trap_right n f d
  · have := Block.right_iff.1 h
    exact Block.right_iff.2 ⟨foldOps_right this.1 hk, foldTerm_right this.2⟩
theorem foldBs_right {bs : List Block} {ins : List Known} {f d : Int} (hl : ins.length = bs.length) (hg : ∀ i, GoodK (getK ins i)) (h : blocksRight bs f d = true) : blocksRight (foldBs bs ins) f d = true := by
  rw [blocksRight_iff] at h ⊢
  rw [foldBs_len hl]
  refine ⟨fun c hc => ?_, h.2⟩
  obtain ⟨i, hi⟩ := List.mem_iff_getElem?.1 hc
  obtain ⟨b, k, hb, hk, rfl⟩ := foldBs_from hi
  have := hg i
  rw [getK_get hk] at this
  exact foldB_right this (h.1 b (List.mem_of_getElem? hb))
theorem foldB_ops (b : Block) (k : Known) : (foldB b k).ops.length ≤ b.ops.length := by
  unfold foldB
  split
  · exact Nat.zero_le _
  · exact Nat.le_of_eq (foldOps_len _ _)
theorem foldBs_ops {bs : List Block} {ins : List Known} {n : Nat} (h : ∀ b ∈ bs, b.ops.length ≤ n) : ∀ b ∈ foldBs bs ins, b.ops.length ≤ n := by
  intro c hc
  obtain ⟨i, hi⟩ := List.mem_iff_getElem?.1 hc
  obtain ⟨b, k, hb, hk, rfl⟩ := foldBs_from hi
  exact Nat.le_trans (foldB_ops b k) (h b (List.mem_of_getElem? hb))

theorem aluDo_8 (imm : Int) (b c : Nat) : aluDo 8 imm b c = (b + cutN imm 32) % 4294967296 := by
  unfold aluDo
  simp
theorem aluDo_9 (imm : Int) (b c : Nat) : aluDo 9 imm b c = cutN imm 16 * 65536 % 4294967296 := by
  unfold aluDo
  simp
theorem no_reads8 {a n : Int} (hr : (⟨8, a, 0, 0, n⟩ : Ins).right = true) : ∀ x ∈ readsList 8 a 0 0, False := by
  intro x hx
  have hm : 1 ≤ x ∧ x ≤ 15 := reads_mem hr x hx
  have hre := reads_iff hr (r := x.toNat) (by omega) (by omega)
  rw [show ((x.toNat : Nat) : Int) = x from by omega] at hre
  have h : refReads 8 a 0 0 x = true := by
    rw [← hre]
    simpa using hx
  rw [refReads_iff] at h
  omega
theorem no_reads9 {a n : Int} (hr : (⟨9, a, 0, 0, n⟩ : Ins).right = true) : ∀ x ∈ readsList 9 a 0 0, False := by
  intro x hx
  have hm : 1 ≤ x ∧ x ≤ 15 := reads_mem hr x hx
  have hre := reads_iff hr (r := x.toNat) (by omega) (by omega)
  rw [show ((x.toNat : Nat) : Int) = x from by omega] at hre
  have h : refReads 9 a 0 0 x = true := by
    rw [← hre]
    simpa using hx
  rw [refReads_iff] at h
  omega
theorem canK_8 {kk : Known} {a n : Int} (hr : (⟨8, a, 0, 0, n⟩ : Ins).right = true) : canK kk ⟨⟨8, a, 0, 0, n⟩, false, 0, 0, 0⟩ = true := by
  unfold canK
  rw [Bool.and_eq_true, Bool.and_eq_true]
  exact ⟨rfl, rfl, List.all_eq_true.2 (fun x hx => (no_reads8 hr x hx).elim)⟩
theorem canK_9 {kk : Known} {a n : Int} (hr : (⟨9, a, 0, 0, n⟩ : Ins).right = true) : canK kk ⟨⟨9, a, 0, 0, n⟩, false, 0, 0, 0⟩ = true := by
  unfold canK
  rw [Bool.and_eq_true, Bool.and_eq_true]
  exact ⟨rfl, rfl, List.all_eq_true.2 (fun x hx => (no_reads9 hr x hx).elim)⟩
theorem writes_8 {a : Int} (h : 1 ≤ a) : writes 8 a = a := by unfold writes; rw [if_pos (by omega)]
theorem writes_9 {a : Int} (h : 1 ≤ a) : writes 9 a = a := by unfold writes; rw [if_pos (by omega)]
theorem behindK_8 {kk : Known} (hkk : kk.reached = true) {a n : Int} (ha : 1 ≤ a) (hr : (⟨8, a, 0, 0, n⟩ : Ins).right = true) :
    behindK kk ⟨⟨8, a, 0, 0, n⟩, false, 0, 0, 0⟩ = kk.put a.toNat true ((kk.wAt 0 + cutN n 32) % 4294967296) := by
  rw [behindK_re hkk]
  simp only [writes_8 ha]
  rw [if_neg (by decide), if_neg (by omega), if_pos (canK_8 hr)]
  exact congrArg (kk.put a.toNat true) (aluDo_8 n _ _)
theorem behindK_9 {kk : Known} (hkk : kk.reached = true) {a n : Int} (ha : 1 ≤ a) (hr : (⟨9, a, 0, 0, n⟩ : Ins).right = true) :
    behindK kk ⟨⟨9, a, 0, 0, n⟩, false, 0, 0, 0⟩ = kk.put a.toNat true (cutN n 16 * 65536 % 4294967296) := by
  rw [behindK_re hkk]
  simp only [writes_9 ha]
  rw [if_neg (by decide), if_neg (by omega), if_pos (canK_9 hr)]
  exact congrArg (kk.put a.toNat true) (aluDo_9 n _ _)
/-- What is known behind a folded instruction, where no less is known, is as behind it. -/
theorem behind_fold {k kk : Known} (gk : GoodK k) (gkk : GoodK kk) (hle : LeK kk k) {o : Op} (hr : o.ins.right = true) : behindK kk (foldOp o (behindK k o)) = behindK kk o := by
  cases hkk : kk.reached with
  | false =>
    unfold behindK
    rw [if_pos hkk, if_pos hkk]
  | true =>
    obtain ⟨hkr, -⟩ := hle hkk
    have hmono := behindK_mono gkk gk hle hr
    have hgb : GoodK (behindK k o) := ⟨behindK_wf gk.1 o, behindK_rightK gk.1 gk.2 hr⟩
    rcases foldOp_cases o (behindK k o) with e | ⟨h1, h2, h3, hc⟩
    · rw [e]
    · obtain ⟨w1, w2, w3⟩ := fold_wr hr h2
      have hn16 : o.ins.a.toNat < 16 := by omega
      obtain ⟨-, hle2⟩ := hmono (behindK_reached o hkk)
      rw [w1] at h3 hc
      obtain ⟨e1, e2⟩ := hle2 o.ins.a.toNat hn16 h3
      have hlt := Known.w_lt hgb.1 o.ins.a.toNat
      have hput : behindK kk o = kk.put o.ins.a.toNat true ((behindK k o).wAt o.ins.a.toNat) := by
        rw [behindK_re hkk, if_neg (by rw [h1]; decide), if_neg h2, w1] at e1 e2 ⊢
        by_cases hcan : canK kk o = true
        · rw [if_pos hcan] at e1 e2 ⊢
          rw [Known.put_w gkk.1 hn16, if_pos rfl] at e2
          rw [e2]
        · rw [if_neg hcan, Known.put_is gkk.1 hn16, if_pos rfl] at e1
          cases e1
      rw [hput]
      obtain ⟨k0, k0w⟩ := rightK_0 gkk.2 hkk
      rcases hc with ⟨h4, h5, e⟩ | ⟨h4, h5, e⟩
      · rw [e, behindK_8 hkk w2 (addi_ins_right w2 w3 h4 h5), k0w, cut32_wrap hlt]
        congr 1
        omega
      · rw [e, behindK_9 hkk w2 (high_ins_right w2 w3 (by omega) (by omega)), cut16_small (by omega)]
        congr 1
        omega
theorem behindOps_fold : ∀ {os : List Op} {k kk : Known}, (∀ o ∈ os, o.ins.right = true) → GoodK k → GoodK kk → LeK kk k → behindOps (foldOps os k) kk = behindOps os kk
  | [], _, _, _, _, _, _ => rfl
  | o :: r, k, kk, hr, gk, gkk, hle => by
    have h1 := hr o (List.mem_cons_self ..)
    show behindOps (foldOps r (behindK k o)) (behindK kk (foldOp o (behindK k o))) = behindOps r (behindK kk o)
    rw [behind_fold gk gkk hle h1]
    exact behindOps_fold (fun o ho => hr o (List.mem_cons_of_mem _ ho)) ⟨behindK_wf gk.1 o, behindK_rightK gk.1 gk.2 h1⟩ ⟨behindK_wf gkk.1 o, behindK_rightK gkk.1 gkk.2 h1⟩ (behindK_mono gkk gk hle h1)
theorem ways_fold {k kk : Known} (hkk : kk.reached = true) (hle : LeK kk k) {t : Term} (ha : t.kind = 2 → (0 ≤ t.a ∧ t.a < 16) ∧ 0 ≤ t.b ∧ t.b < 16) : waysK kk (foldTerm t k) = waysK kk t := by
  obtain ⟨hk, h3⟩ := hle hkk
  unfold foldTerm
  by_cases h : t.kind = 2 ∧ (takenK k t).2 = true
  · rw [if_pos h]
    obtain ⟨h2, ht⟩ := h
    obtain ⟨ha, hb⟩ := ha h2
    have hy : k.isAt t.a.toNat = true ∧ k.isAt t.b.toNat = true := by
      unfold takenK at ht
      cases p : k.isAt t.a.toNat <;> cases q : k.isAt t.b.toNat <;> simp_all
    obtain ⟨e1, e2⟩ := h3 _ (by omega) hy.1
    obtain ⟨e3, e4⟩ := h3 _ (by omega) hy.2
    have e : takenK kk t = takenK k t := by unfold takenK; rw [hk, hkk, e1, e3, hy.1, hy.2, e2, e4]
    have e2 : waysK kk t = if (takenK k t).1 = true then [t.to] else [t.els] := by
      unfold waysK
      rw [if_neg (by omega), if_pos h2, e, ht, if_neg (by decide)]
    rw [e2]
    unfold waysK
    rw [if_pos (show (jumpI _).kind = 1 from rfl)]
    cases (takenK k t).1 <;> rfl
  · rw [if_neg h]
/-- What is known of the folded graph is what was. -/
theorem fold_at {bs : List Block} {ins ys : List Known} (hok : BsOk bs) (h : IsAt bs ins) (hy : IsAt (foldBs bs ins) ys) : ys = ins := by
  have hl := h.inv.len
  have hli := foldBs_len hl
  have hpost1 : PostK (foldBs bs ins) ins := by
    refine ⟨h.inv.good, h.inv.zero, fun i c hc hre d hd => ?_⟩
    obtain ⟨b, k, hb, hk, rfl⟩ := foldBs_from hc
    have hki := getK_get hk
    rw [hki] at hre hd ⊢
    have gk := h.inv.good i
    rw [hki] at gk
    have hops := hok.ops (List.mem_of_getElem? hb)
    have hfb : foldB b k = ⟨foldOps b.ops k, foldTerm b.fin (behindOps b.ops k)⟩ := by unfold foldB; rw [if_neg (by rw [hre]; decide)]
    rw [hfb] at hd ⊢
    have e := behindOps_fold hops gk gk (LeK.refl k)
    have hfin : b.fin.kind = 2 → (0 ≤ b.fin.a ∧ b.fin.a < 16) ∧ 0 ≤ b.fin.b ∧ b.fin.b < 16 := fun h2 => by
      obtain ⟨f, hf⟩ := hok.fin (List.mem_of_getElem? hb)
      obtain ⟨-, -, -, ha, hb⟩ := Term.right_branch hf h2
      exact ⟨ha, hb⟩
    show LeK (behindOps (foldOps b.ops k) k) _
    replace hd : d ∈ waysK (behindOps (foldOps b.ops k) k) (foldTerm b.fin (behindOps b.ops k)) := hd
    rw [e] at hd ⊢
    rw [ways_fold (behindOps_reached hre) (LeK.refl _) hfin] at hd
    have := h.post.on i b hb (by rw [hki]; exact hre) d (by rw [hki]; exact hd)
    rwa [hki] at this
  have hle1 := hy.inv.low ins hpost1
  have hpost2 : PostK bs ys := by
    refine ⟨hy.inv.good, hy.inv.zero, fun i b hb hre d hd => ?_⟩
    obtain ⟨k, hk⟩ := get_some ins i (by rw [hl]; exact (List.getElem?_eq_some_iff.1 hb).1)
    have hki := getK_get hk
    have hle := hle1 i
    rw [hki] at hle
    obtain ⟨hkr, -⟩ := hle hre
    have gk := h.inv.good i
    rw [hki] at gk
    have gy := hy.inv.good i
    have hops := hok.ops (List.mem_of_getElem? hb)
    have hfb : foldB b k = ⟨foldOps b.ops k, foldTerm b.fin (behindOps b.ops k)⟩ := by unfold foldB; rw [if_neg (by rw [hkr]; decide)]
    have e := behindOps_fold hops gk gy hle
    have hfin : b.fin.kind = 2 → (0 ≤ b.fin.a ∧ b.fin.a < 16) ∧ 0 ≤ b.fin.b ∧ b.fin.b < 16 := fun h2 => by
      obtain ⟨f, hf⟩ := hok.fin (List.mem_of_getElem? hb)
      obtain ⟨-, -, -, ha, hb⟩ := Term.right_branch hf h2
      exact ⟨ha, hb⟩
    have hw := ways_fold (behindOps_reached hre) (behindOps_mono hops gy gk hle) hfin
    have := hy.post.on i (foldB b k) (foldBs_get hb hk) hre d (by
      rw [hfb]
      show d ∈ waysK (behindOps (foldOps b.ops k) (getK ys i)) (foldTerm b.fin (behindOps b.ops k))
      rw [e, hw]
      exact hd)
    rw [hfb] at this
    replace this : LeK (behindOps (foldOps b.ops k) (getK ys i)) (getK ys d.toNat) := this
    rwa [e] at this
  have hle2 := h.inv.low ys hpost2
  apply List.ext_getElem?
  intro i
  by_cases hi : i < bs.length
  · obtain ⟨x, hx⟩ := get_some ins i (by rw [hl]; exact hi)
    obtain ⟨y, hyy⟩ := get_some ys i (by rw [hy.inv.len, hli]; exact hi)
    have h1 := hle1 i
    have h2 := hle2 i
    have gx := h.inv.good i
    have gy := hy.inv.good i
    rw [getK_get hx] at h1 h2 gx
    rw [getK_get hyy] at h1 h2 gy
    rw [hx, hyy, LeK.antisymm gy.1 gx.1 gy.2 gx.2 h1 h2]
  · rw [List.getElem?_eq_none (by rw [hy.inv.len, hli]; omega), List.getElem?_eq_none (by rw [hl]; omega)]
theorem foldOp_twice {o : Op} {k : Known} (hk : k.wf) (hr : o.ins.right = true) : foldOp (foldOp o k) k = foldOp o k := by
  have hlt := Known.w_lt hk o.ins.a.toNat
  rcases foldOp_cases o k with e | ⟨h1, h2, h3, hc⟩
  · rw [e, e]
  · obtain ⟨w1, w2, w3⟩ := fold_wr hr h2
    rw [w1] at h3 hc
    have hw8 : writes 8 o.ins.a = o.ins.a := by unfold writes; rw [if_pos (by omega)]
    have hw9 : writes 9 o.ins.a = o.ins.a := by unfold writes; rw [if_pos (by omega)]
    rcases hc with ⟨h4, h5, e⟩ | ⟨h4, h5, e⟩
    · rw [e]
      unfold foldOp
      simp only [hw8]
      rw [if_neg (fun h => by rcases h with h | h | h; exact h rfl; omega; rw [h3] at h; cases h), if_pos ⟨h4, h5⟩]
    · rw [e]
      unfold foldOp
      simp only [hw9]
      rw [if_neg (fun h => by rcases h with h | h | h; exact h rfl; omega; rw [h3] at h; cases h), if_neg h4, if_pos h5]
theorem foldOps_twice : ∀ {os : List Op} {k : Known}, (∀ o ∈ os, o.ins.right = true) → GoodK k → foldOps (foldOps os k) k = foldOps os k
  | [], _, _, _ => rfl
  | o :: r, k, hr, gk => by
    have h1 := hr o (List.mem_cons_self ..)
    have gb : GoodK (behindK k o) := ⟨behindK_wf gk.1 o, behindK_rightK gk.1 gk.2 h1⟩
    show foldOp (foldOp o (behindK k o)) (behindK k (foldOp o (behindK k o))) :: foldOps (foldOps r (behindK k o)) (behindK k (foldOp o (behindK k o))) = _
    rw [behind_fold gk gk (LeK.refl k) h1, foldOp_twice gb.1 h1, foldOps_twice (fun o ho => hr o (List.mem_cons_of_mem _ ho)) gb]
    rfl
theorem foldTerm_twice (t : Term) (k : Known) : foldTerm (foldTerm t k) k = foldTerm t k := by
  unfold foldTerm
  by_cases h : t.kind = 2 ∧ (takenK k t).2 = true
  · rw [if_pos h, if_neg (fun h2 => absurd h2.1 (by show ¬ (1 : Int) = 2; decide))]
  · rw [if_neg h, if_neg h]
theorem foldB_twice {b : Block} {k : Known} (hr : ∀ o ∈ b.ops, o.ins.right = true) (gk : GoodK k) : foldB (foldB b k) k = foldB b k := by
  cases hk : k.reached with
  | false => unfold foldB; rw [if_pos hk, if_pos hk]
  | true =>
    have e : foldB b k = ⟨foldOps b.ops k, foldTerm b.fin (behindOps b.ops k)⟩ := by unfold foldB; rw [if_neg (by rw [hk]; decide)]
    rw [e]
    unfold foldB
    rw [if_neg (by rw [hk]; decide)]
    show (⟨foldOps (foldOps b.ops k) k, foldTerm (foldTerm b.fin (behindOps b.ops k)) (behindOps (foldOps b.ops k) k)⟩ : Block) = _
    rw [foldOps_twice hr gk, behindOps_fold hr gk gk (LeK.refl k), foldTerm_twice]
/-- Folded twice is as once. -/
theorem foldBs_twice {bs : List Block} {ins : List Known} (hok : BsOk bs) (hl : ins.length = bs.length) (hg : ∀ i, GoodK (getK ins i)) : foldBs (foldBs bs ins) ins = foldBs bs ins := by
  apply List.ext_getElem?
  intro i
  by_cases hi : i < bs.length
  · obtain ⟨b, hb⟩ := get_some bs i hi
    obtain ⟨k, hk⟩ := get_some ins i (by rw [hl]; exact hi)
    have gk := hg i
    rw [getK_get hk] at gk
    rw [foldBs_get (foldBs_get hb hk) hk, foldBs_get hb hk, foldB_twice (hok.ops (List.mem_of_getElem? hb)) gk]
  · rw [List.getElem?_eq_none (by rw [foldBs_len (by rw [foldBs_len hl]; exact hl), foldBs_len hl]; omega), List.getElem?_eq_none (by rw [foldBs_len hl]; omega)]
end Go.Proofs.Ytokkngfgppikkab
