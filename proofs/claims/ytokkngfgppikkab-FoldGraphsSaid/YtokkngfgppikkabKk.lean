/- Plain: what is known at blocks' beginnings: the least that holds. -/
import Derived.Test.YtokkngfgppikkabKg
import Derived.Test.YtokkngfgppikkabGe
namespace Go.Proofs.Ytokkngfgppikkab
set_option linter.unusedVariables false
set_option linter.unusedSimpArgs false

/-- Right, and of the right shape. -/
def GoodK (k : Known) : Prop := k.wf ∧ rightK k = true
def behindOps (os : List Op) (k : Known) : Known := os.foldl behindK k
theorem behindOps_good {os : List Op} (h : ∀ o ∈ os, o.ins.right = true) {k : Known} (hk : GoodK k) : GoodK (behindOps os k) := by
  induction os generalizing k with
  | nil => exact hk
  | cons o r ih => exact ih (fun o ho => h o (List.mem_cons_of_mem _ ho)) ⟨behindK_wf hk.1 o, behindK_rightK hk.1 hk.2 (h o (List.mem_cons_self ..))⟩
theorem behindK_reached {k : Known} (o : Op) (h : k.reached = true) : (behindK k o).reached = true := by
  unfold behindK
  rw [if_neg (by rw [h]; decide)]
  split
  · rfl
  · split
    · exact h
    · split <;> exact h
theorem behindOps_reached {os : List Op} {k : Known} (h : k.reached = true) : (behindOps os k).reached = true := by
  induction os generalizing k with
  | nil => exact h
  | cons o r ih => exact ih (behindK_reached o h)
theorem isAt_eq {a b : Known} (ga : GoodK a) (gb : GoodK b) (ha : a.reached = true) (hb : b.reached = true) (h1 : ∀ r, r < 16 → b.isAt r = true → a.isAt r = true ∧ a.wAt r = b.wAt r) {r : Int} (h0 : 0 ≤ r) (h15 : r ≤ 15) {l : List Int} (hl : r ≠ 0 → r ∈ l) (hall : allK b l = true) : a.isAt r.toNat = true ∧ b.isAt r.toNat = true ∧ a.wAt r.toNat = b.wAt r.toNat := by
  by_cases e : r = 0
  · subst e
    obtain ⟨x0, x1⟩ := rightK_0 ga.2 ha
    obtain ⟨y0, y1⟩ := rightK_0 gb.2 hb
    exact ⟨x0, y0, x1.trans y1.symm⟩
  · have hb := List.all_eq_true.1 hall _ (hl e)
    obtain ⟨e1, e2⟩ := h1 r.toNat (by omega) hb
    exact ⟨e1, hb, e2⟩
theorem behindK_re {k : Known} (h : k.reached = true) (o : Op) : behindK k o = (if fkind o.ins.op = 4 then Known.none else if writes o.ins.op o.ins.a < 0 then k else if canK k o = true then k.put (writes o.ins.op o.ins.a).toNat true (doneK k o) else k.put (writes o.ins.op o.ins.a).toNat false 0) := by
  unfold behindK
  exact if_neg (by rw [h]; decide)
theorem behindK_mono {a b : Known} (ga : GoodK a) (gb : GoodK b) (h : LeK a b) {o : Op} (ho : o.ins.right = true) : LeK (behindK a o) (behindK b o) := by
  cases ha : a.reached with
  | false =>
    intro hr
    unfold behindK at hr
    rw [if_pos ha, ha] at hr
    cases hr
  | true =>
    obtain ⟨hb, h1⟩ := h ha
    rw [behindK_re ha, behindK_re hb]
    by_cases h4 : fkind o.ins.op = 4
    · rw [if_pos h4, if_pos h4]
      exact LeK.refl _
    · rw [if_neg h4, if_neg h4]
      by_cases hn : writes o.ins.op o.ins.a < 0
      · rw [if_pos hn, if_pos hn]
        exact h
      · rw [if_neg hn, if_neg hn]
        obtain ⟨e, hane, hops⟩ := writes_pos hn
        obtain ⟨a0, a15⟩ := right_a ho
        rw [e]
        have hn16 : o.ins.a.toNat < 16 := by omega
        cases hcb : canK b o with
        | false =>
          rw [if_neg (show ¬ (false = true) by decide)]
          have hput : ∀ (x : Nat) (v : Bool), LeK (a.put o.ins.a.toNat v x) (b.put o.ins.a.toNat false 0) := fun x v _ => ⟨hb, fun r hr hi => by
            rw [Known.put_is gb.1 hn16] at hi
            rw [Known.put_is ga.1 hn16, Known.put_w ga.1 hn16, Known.put_w gb.1 hn16]
            by_cases er : r = o.ins.a.toNat
            · rw [if_pos er] at hi; cases hi
            · rw [if_neg er] at hi; rw [if_neg er, if_neg er, if_neg er]; exact h1 r hr hi⟩
          split <;> exact hput _ _
        | true =>
          unfold canK at hcb
          rw [Bool.and_eq_true, Bool.and_eq_true] at hcb
          obtain ⟨k0, k1, k2⟩ := hcb
          have hk0 : fkind o.ins.op = 0 := by simpa using k0
          have hca : canK a o = true := by
            unfold canK
            rw [Bool.and_eq_true, Bool.and_eq_true]
            refine ⟨k0, k1, List.all_eq_true.2 (fun x hx => ?_)⟩
            obtain ⟨x1, x15⟩ := reads_mem ho x hx
            exact (h1 x.toNat (by omega) (List.all_eq_true.1 k2 x hx)).1
          rw [if_pos hca, if_pos rfl]
          have hdone : doneK a o = doneK b o := by
            obtain ⟨⟨b0, b15⟩, ⟨c0, c15⟩⟩ := right_bc ho
            have memr : ∀ r : Int, 0 ≤ r → r ≤ 15 → r ≠ 0 → refReads o.ins.op o.ins.a o.ins.b o.ins.c r = true → r ∈ readsList o.ins.op o.ins.a o.ins.b o.ins.c := fun r r0 r15 rne hrr => by
              have := reads_iff ho (r := r.toNat) (by omega) (by omega)
              rw [show ((r.toNat : Nat) : Int) = r from by omega, hrr] at this
              simpa using this
            have eb : (1 ≤ o.ins.op ∧ o.ins.op ≤ 8 ∨ o.ins.op = 10) → a.wAt o.ins.b.toNat = b.wAt o.ins.b.toNat := fun hop =>
              (isAt_eq ga gb ha hb h1 b0 b15 (fun ne => memr _ b0 b15 ne (refReads_iff.2 ⟨ne, .inr (.inl ⟨by omega, rfl⟩)⟩)) k2).2.2
            have ec : (1 ≤ o.ins.op ∧ o.ins.op ≤ 7) → a.wAt o.ins.c.toNat = b.wAt o.ins.c.toNat := fun hop =>
              (isAt_eq ga gb ha hb h1 c0 c15 (fun ne => memr _ c0 c15 ne (refReads_iff.2 ⟨ne, .inr (.inr ⟨hop, rfl⟩)⟩)) k2).2.2
            have hop : 1 ≤ o.ins.op ∧ o.ins.op ≤ 10 := by
              unfold fkind at hk0
              repeat' split at hk0
              all_goals omega
            unfold doneK
            by_cases h7 : o.ins.op ≤ 7
            · rw [eb (by omega), ec (by omega)]
            · by_cases h9 : o.ins.op = 9
              · simp [aluDo, h9]
              · rw [eb (by omega)]
                have : o.ins.op = 8 ∨ o.ins.op = 10 := by omega
                rcases this with q | q <;> simp [aluDo, q]
          rw [hdone]
          intro _
          refine ⟨hb, fun r hr hi => ?_⟩
          rw [Known.put_is gb.1 hn16] at hi
          rw [Known.put_is ga.1 hn16, Known.put_w ga.1 hn16, Known.put_w gb.1 hn16]
          by_cases er : r = o.ins.a.toNat
          · rw [if_pos er, if_pos er, if_pos er]; exact ⟨rfl, rfl⟩
          · rw [if_neg er] at hi; rw [if_neg er, if_neg er, if_neg er]; exact h1 r hr hi
theorem behindOps_mono {os : List Op} (ho : ∀ o ∈ os, o.ins.right = true) {a b : Known} (ga : GoodK a) (gb : GoodK b) (h : LeK a b) : LeK (behindOps os a) (behindOps os b) := by
  induction os generalizing a b with
  | nil => exact h
  | cons o r ih =>
    have h1 := ho o (List.mem_cons_self ..)
    exact ih (fun o h => ho o (List.mem_cons_of_mem _ h)) ⟨behindK_wf ga.1 o, behindK_rightK ga.1 ga.2 h1⟩ ⟨behindK_wf gb.1 o, behindK_rightK gb.1 gb.2 h1⟩ (behindK_mono ga gb h h1)
theorem waysK_mono {a b : Known} (h : LeK a b) (ha : a.reached = true) {t : Term} (h1 : 0 ≤ t.a ∧ t.a < 16) (h2 : 0 ≤ t.b ∧ t.b < 16) {x : Int} (hx : x ∈ waysK a t) : x ∈ waysK b t := by
  obtain ⟨hb, h3⟩ := h ha
  unfold waysK at hx ⊢
  split
  · rename_i hk; rw [if_pos hk] at hx; exact hx
  · rename_i hk1
    rw [if_neg hk1] at hx
    split
    · rename_i hk2
      rw [if_pos hk2] at hx
      by_cases hy : (b.isAt t.a.toNat && b.isAt t.b.toNat) = true
      · rw [Bool.and_eq_true] at hy
        obtain ⟨e1, e2⟩ := h3 _ (by omega) hy.1
        obtain ⟨e3, e4⟩ := h3 _ (by omega) hy.2
        have e : takenK a t = takenK b t := by unfold takenK; rw [ha, hb, e1, e3, hy.1, hy.2, e2, e4]
        rw [← e]
        exact hx
      · have e : (takenK b t).2 = false := by
          unfold takenK
          rw [if_pos]
          rw [hb]
          cases p : b.isAt t.a.toNat <;> cases q : b.isAt t.b.toNat <;> simp_all
        rw [if_pos e]
        split at hx
        · exact hx
        · split at hx
          · rw [List.mem_singleton] at hx; rw [hx]; exact List.mem_cons_self ..
          · rw [List.mem_singleton] at hx; rw [hx]; exact List.mem_cons_of_mem _ (List.mem_cons_self ..)
    · rename_i hk2; rw [if_neg hk2] at hx; cases hx

/-- How much may yet be lost. -/
def rankK (k : Known) : Nat := if k.reached = true then (List.range 16).countP (fun r => k.isAt r) else 17
theorem countP_lt {p q : Nat → Bool} : ∀ {l : List Nat}, (∀ x ∈ l, p x = true → q x = true) → ∀ {r : Nat}, r ∈ l → q r = true → p r = false → l.countP p < l.countP q
  | [], _, r, hr, _, _ => by cases hr
  | x :: t, h, r, hr, hq, hp => by
    have hle : t.countP p ≤ t.countP q := List.countP_mono_left (fun y hy => h y (List.mem_cons_of_mem _ hy))
    rw [List.countP_cons, List.countP_cons]
    rcases List.mem_cons.1 hr with e | hr
    · subst e
      rw [if_neg (by rw [hp]; decide), if_pos hq]
      omega
    · have ih := countP_lt (fun y hy => h y (List.mem_cons_of_mem _ hy)) hr hq hp
      have hx := h x (List.mem_cons_self ..)
      cases hpx : p x with
      | false => cases q x <;> simp <;> omega
      | true => rw [hx hpx]; simp; omega
theorem rankK_lt {x k : Known} (gx : GoodK x) (gk : GoodK k) (hk : k.reached = true) (hne : joinK x k ≠ x) : rankK (joinK x k) < rankK x := by
  cases hx : x.reached with
  | false =>
    have e : joinK x k = k := by unfold joinK; rw [if_pos hx]
    rw [e]
    unfold rankK
    rw [if_pos hk, if_neg (by rw [hx]; decide)]
    have := List.countP_le_length (p := fun r => k.isAt r) (l := List.range 16)
    rw [List.length_range] at this
    omega
  | true =>
    have e : joinK x k = mkK true (fun r => x.isAt r && (k.isAt r && x.wAt r == k.wAt r)) (fun r => if (k.isAt r && x.wAt r == k.wAt r) = true then x.wAt r else 0) := by
      unfold joinK; rw [if_neg (by rw [hx]; decide), if_neg (by rw [hk]; decide)]
    have hr : (joinK x k).reached = true := by rw [e]; rfl
    have hi : ∀ r, r < 16 → (joinK x k).isAt r = (x.isAt r && (k.isAt r && x.wAt r == k.wAt r)) := fun r h => by rw [e, mkK_is _ _ _ h]
    have hw : ∀ r, r < 16 → (joinK x k).wAt r = if (k.isAt r && x.wAt r == k.wAt r) = true then x.wAt r else 0 := fun r h => by rw [e, mkK_w _ _ _ h]
    unfold rankK
    rw [if_pos hr, if_pos hx]
    by_cases hd : ∃ r, r < 16 ∧ x.isAt r = true ∧ (joinK x k).isAt r = false
    · obtain ⟨r, h16, h1, h2⟩ := hd
      exact countP_lt (fun y hy h => by rw [hi y (List.mem_range.1 hy), Bool.and_eq_true] at h; exact h.1) (List.mem_range.2 h16) h1 h2
    · exfalso
      apply hne
      have hall : ∀ r, r < 16 → x.isAt r = true → (k.isAt r && x.wAt r == k.wAt r) = true := fun r h16 h1 => by
        cases hc : (k.isAt r && x.wAt r == k.wAt r) with
        | true => rfl
        | false => exact absurd ⟨r, h16, h1, by rw [hi r h16, hc, Bool.and_false]⟩ hd
      refine Known.ext16 (joinK_wf gx.1 gk.1) gx.1 (by rw [hr, hx]) (fun r h16 => ?_) (fun r h16 => ?_)
      · rw [hi r h16]
        cases h1 : x.isAt r with
        | false => rfl
        | true => rw [hall r h16 h1]; rfl
      · rw [hw r h16]
        cases h1 : x.isAt r with
        | false => rw [rightK_w gx.2 hx h16 h1]; split <;> rfl
        | true => rw [if_pos (hall r h16 h1)]
def roomK (ins : List Known) : Nat := (ins.map rankK).sum
theorem roomK_set : ∀ {ins : List Known} {i : Nat} {x y : Known}, ins[i]? = some x → rankK y < rankK x → roomK (ins.set i y) < roomK ins
  | [], i, x, y, h, _ => by simp at h
  | a :: r, 0, x, y, h, h1 => by
    simp at h
    subst h
    unfold roomK
    simp
    omega
  | a :: r, i + 1, x, y, h, h1 => by
    have := roomK_set (ins := r) (i := i) (by simpa using h) h1
    unfold roomK at *
    simp at *
    omega

def getK (X : List Known) (i : Nat) : Known := X.getD i Known.zero
theorem getK_get {X : List Known} {i : Nat} {x : Known} (h : X[i]? = some x) : getK X i = x := by unfold getK; rw [List.getD_eq_getElem?_getD, h]; rfl
theorem getK_set {X : List Known} {i j : Nat} {y : Known} (hi : i < X.length) : getK (X.set i y) j = if j = i then y else getK X j := by
  unfold getK
  rw [List.getD_eq_getElem?_getD, List.getElem?_set]
  by_cases h : j = i
  · subst h; rw [if_pos rfl, if_pos hi, if_pos rfl]; rfl
  · rw [if_neg (fun e => h e.symm), if_neg h, List.getD_eq_getElem?_getD]
theorem zero_good : GoodK Known.zero := ⟨Known.zero_wf, by unfold rightK; rw [if_pos (show Known.zero.reached = false from rfl)]; simp⟩
theorem none_good : GoodK Known.none := ⟨Known.none_wf, none_rightK⟩
/-- What holds whatever is done: an answer that asks for nothing more. -/
structure PostK (bs : List Block) (X : List Known) : Prop where
  good : ∀ i, GoodK (getK X i)
  zero : LeK Known.none (getK X 0)
  on : ∀ i b, bs[i]? = some b → (getK X i).reached = true → ∀ d ∈ waysK (behindOps b.ops (getK X i)) b.fin, LeK (behindOps b.ops (getK X i)) (getK X d.toNat)
structure AtI (bs : List Block) (ins : List Known) : Prop where
  len : ins.length = bs.length
  good : ∀ i, GoodK (getK ins i)
  zero : LeK Known.none (getK ins 0)
  low : ∀ X, PostK bs X → ∀ i, LeK (getK ins i) (getK X i)
theorem AtI.start {bs : List Block} (h0 : 0 < bs.length) : AtI bs ((List.replicate bs.length Known.zero).set 0 Known.none) := by
  have hz : ∀ i, getK (List.replicate bs.length Known.zero) i = Known.zero := fun i => by
    unfold getK
    rw [List.getD_eq_getElem?_getD, List.getElem?_replicate]
    split <;> rfl
  have hg : ∀ i, getK ((List.replicate bs.length Known.zero).set 0 Known.none) i = if i = 0 then Known.none else Known.zero := fun i => by
    rw [getK_set (by simpa using h0), hz]
  refine ⟨by simp, fun i => ?_, ?_, fun X hX i => ?_⟩
  · rw [hg]; split; exact none_good; exact zero_good
  · rw [hg, if_pos rfl]; exact LeK.refl _
  · rw [hg]
    split
    · rename_i e; rw [e]; exact hX.zero
    · intro h; cases h
/-- What a block hands on, as it was when it was reckoned. -/
structure HandK (bs : List Block) (b : Block) (i : Nat) (kk : Known) : Prop where
  at_ : bs[i]? = some b
  good : GoodK kk
  re : kk.reached = true
  low : ∀ X, PostK bs X → (getK X i).reached = true ∧ LeK kk (behindOps b.ops (getK X i))
theorem AtI.hand {bs : List Block} {ins : List Known} (hok : BsOk bs) (h : AtI bs ins) {i : Nat} {b : Block} (hb : bs[i]? = some b) (hr : (getK ins i).reached = true) : HandK bs b i (behindOps b.ops (getK ins i)) :=
  ⟨hb, behindOps_good (hok.ops (List.mem_of_getElem? hb)) (h.good i), behindOps_reached hr, fun X hX => ⟨(h.low X hX i hr).1, behindOps_mono (hok.ops (List.mem_of_getElem? hb)) (h.good i) (hX.good i) (h.low X hX i)⟩⟩
theorem AtI.set {bs : List Block} {ins : List Known} (hok : BsOk bs) (h : AtI bs ins) {i : Nat} {b : Block} {kk : Known} (hh : HandK bs b i kk) {d : Nat} (hto : (d : Int) ∈ waysK kk b.fin) (hl : d < bs.length) : AtI bs (ins.set d (joinK (getK ins d) kk)) := by
  have hi : d < ins.length := by rw [h.len]; exact hl
  refine ⟨by rw [List.length_set]; exact h.len, fun j => ?_, ?_, fun X hX j => ?_⟩
  · rw [getK_set hi]
    split
    · exact ⟨joinK_wf (h.good d).1 hh.good.1, joinK_rightK (h.good d).2 hh.good.2⟩
    · exact h.good j
  · rw [getK_set hi]
    split
    · rename_i e
      rw [← e]
      exact h.zero.trans (joinK_left _ _)
    · exact h.zero
  · rw [getK_set hi]
    split
    · rename_i e
      subst e
      obtain ⟨hr, hle⟩ := hh.low X hX
      have hw : (j : Int) ∈ waysK (behindOps b.ops (getK X i)) b.fin := by
        by_cases h2 : b.fin.kind = 2
        · obtain ⟨f, hf⟩ := hok.fin (List.mem_of_getElem? hh.at_)
          obtain ⟨-, -, -, ha, hb⟩ := Term.right_branch hf h2
          exact waysK_mono hle hh.re ha hb hto
        · unfold waysK at hto ⊢
          rw [if_neg h2] at hto ⊢
          exact hto
      have := hX.on i b hh.at_ hr _ hw
      rw [Int.toNat_natCast] at this
      exact joinK_le (h.low X hX j) (hle.trans this)
    · exact h.low X hX j
structure IsAt (bs : List Block) (ins : List Known) : Prop where
  inv : AtI bs ins
  post : PostK bs ins
theorem IsAt.unique {bs : List Block} {xs ys : List Known} (h : IsAt bs xs) (k : IsAt bs ys) : xs = ys := by
  apply List.ext_getElem?
  intro i
  by_cases hi : i < bs.length
  · obtain ⟨x, hx⟩ := get_some xs i (by rw [h.inv.len]; exact hi)
    obtain ⟨y, hy⟩ := get_some ys i (by rw [k.inv.len]; exact hi)
    have h1 := h.inv.low ys k.post i
    have h2 := k.inv.low xs h.post i
    have gx := h.inv.good i
    have gy := k.inv.good i
    rw [getK_get hx] at h1 h2 gx
    rw [getK_get hy] at h1 h2 gy
    rw [hx, hy, LeK.antisymm gx.1 gy.1 gx.2 gy.2 h1 h2]
  · rw [List.getElem?_eq_none (by rw [h.inv.len]; omega), List.getElem?_eq_none (by rw [k.inv.len]; omega)]
theorem joinK_eq_le {x k : Known} (h : joinK x k = x) : LeK k x := by
  have := joinK_right x k
  rw [h] at this
  exact this
theorem waysK_in {bs : List Block} (hok : BsOk bs) {b : Block} (hb : b ∈ bs) (k : Known) {x : Int} (hx : x ∈ waysK k b.fin) : 0 ≤ x ∧ x < bs.length := by
  obtain ⟨f, hf⟩ := hok.fin hb
  unfold waysK at hx
  split at hx
  · rename_i h1
    rw [List.mem_singleton] at hx
    rw [hx]
    exact Term.right_jump hf h1
  · split at hx
    · rename_i h2
      obtain ⟨h3, h4, -⟩ := Term.right_branch hf h2
      split at hx
      · rcases List.mem_cons.1 hx with e | hx
        · rw [e]; exact h3
        · rw [List.mem_singleton] at hx; rw [hx]; exact h4
      · split at hx
        · rw [List.mem_singleton] at hx; rw [hx]; exact h3
        · rw [List.mem_singleton] at hx; rw [hx]; exact h4
    · cases hx
end Go.Proofs.Ytokkngfgppikkab
