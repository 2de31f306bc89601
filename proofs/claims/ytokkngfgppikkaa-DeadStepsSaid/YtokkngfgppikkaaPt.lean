/- Plain: instructions that do nothing, left out in whatever order, leave the same. -/
import Derived.Test.YtokkngfgppikkaaPs
import Derived.Test.YtokkngfgppikkaaGe
namespace Go.Proofs.Ytokkngfgppikkaa
set_option linter.unusedVariables false
set_option linter.unusedSimpArgs false

theorem live_grow {bs : List Block} (hok : BsOk bs) : ∀ (m : Nat) (ins : List Nat), room ins ≤ m → LiveI bs ins → ∃ ys, IsLive bs ys
  | m, ins, hm, h => by
    by_cases hf : ∀ (k : Nat) (b : Block), bs[k]? = some b → ins[k]? = some (aheadN b ins)
    · exact ⟨ins, h, hf⟩
    · have : ∃ (k : Nat) (b : Block), bs[k]? = some b ∧ ins[k]? ≠ some (aheadN b ins) := by
        apply Classical.byContradiction
        intro hno
        apply hf
        intro k b hb
        apply Classical.byContradiction
        intro hne
        exact hno ⟨k, b, hb, hne⟩
      obtain ⟨k, b, hb, hne⟩ := this
      obtain ⟨x, hx⟩ := get_some ins k (by rw [h.len]; exact (List.getElem?_eq_some_iff.1 hb).1)
      have hg := h.grows hok hb hx (fun e => hne (by rw [hx, e]))
      match m, hm with
      | 0, hm => omega
      | m + 1, hm => exact live_grow hok m _ (by omega) (h.set hok hb)
theorem live_exists {bs : List Block} (hok : BsOk bs) : ∃ ys, IsLive bs ys := live_grow hok _ _ (Nat.le_refl _) (LiveI.start bs)

/-- Does an instruction do nothing, where these are live behind it? -/
def idleO (o : Op) (a : Nat) : Prop := fkind o.ins.op = 0 ∧ (writes o.ins.op o.ins.a < 0 ∨ a.testBit (writes o.ins.op o.ins.a).toNat = false)
instance (o : Op) (a : Nat) : Decidable (idleO o a) := by unfold idleO; exact inferInstance
theorem idleO.mono {o : Op} {a b : Nat} (h : idleO o b) (hs : SubN a b) : idleO o a := by
  refine ⟨h.1, h.2.imp id (fun h2 => ?_)⟩
  cases hr : a.testBit (writes o.ins.op o.ins.a).toNat with
  | false => rfl
  | true => rw [hs _ hr] at h2; exact h2
theorem idleO.ahead {o : Op} {a : Nat} (h : idleO o a) (hr : o.ins.right = true) (ha : a < 65536) : SubN a (beforeN o a) := by
  intro r hb
  unfold beforeN
  rw [if_neg (by rw [h.1]; decide), Nat.testBit_or, Bool.or_eq_true]
  left
  split
  · rename_i hw
    have h15 := writes_le hr
    rw [Nat.testBit_and, hb, mask_bit (by omega)]
    have h16 : r < 16 := by
      apply Classical.byContradiction
      intro hn
      rw [Nat.testBit_lt_two_pow (Nat.lt_of_lt_of_le ha (Nat.pow_le_pow_right (n := 2) (by decide) (show 16 ≤ r by omega)))] at hb
      exact Bool.noConfusion hb
    have hne : (writes o.ins.op o.ins.a).toNat ≠ r := by
      rcases h.2 with h2 | h2
      · omega
      · intro e
        rw [e, hb] at h2
        exact Bool.noConfusion h2
    simp [h16, hne]
  · exact hb
theorem aheadOps_append (p q : List Op) (e : Nat) : aheadOps (p ++ q) e = aheadOps p (aheadOps q e) := by unfold aheadOps; rw [List.foldr_append]
theorem aheadOps_cons (o : Op) (q : List Op) (e : Nat) : aheadOps (o :: q) e = beforeN o (aheadOps q e) := rfl
theorem endN_lt16 {bs : List Block} (hok : BsOk bs) {b : Block} (hb : b ∈ bs) {ins : List Nat} (h : IsLive bs ins) : endN b.fin ins < 65536 := by
  obtain ⟨f, hf⟩ := hok.fin hb
  exact endN_lt (f := f) (by rw [h.inv.len]; exact hf) h.inv.lt

/-- One instruction that does nothing is left out. -/
def Sw (bs bs' : List Block) : Prop := ∃ k b p o q ins, bs[k]? = some b ∧ b.ops = p ++ o :: q ∧ IsLive bs ins ∧ idleO o (aheadOps q (endN b.fin ins)) ∧ bs' = bs.set k ⟨p ++ q, b.fin⟩
inductive SwR (bs : List Block) : List Block → Prop
  | refl : SwR bs bs
  | step {x y : List Block} : SwR bs x → Sw x y → SwR bs y
theorem SwR.trans {a b c : List Block} (h : SwR a b) (k : SwR b c) : SwR a c := by
  induction k with
  | refl => exact h
  | step _ e ih => exact ih.step e
def Normal (bs : List Block) : Prop := ∀ bs', ¬ Sw bs bs'

theorem mem_setB {bs : List Block} {k : Nat} {c x : Block} (h : x ∈ bs.set k c) : x ∈ bs ∨ x = c := List.mem_or_eq_of_mem_set h
theorem right_set {bs : List Block} {k : Nat} {b : Block} {os : List Op} {f d : Int} (hb : bs[k]? = some b) (ho : ∀ o ∈ os, o ∈ b.ops) (h : blocksRight bs f d = true) : blocksRight (bs.set k ⟨os, b.fin⟩) f d = true := by
  rw [blocksRight_iff] at h ⊢
  rw [List.length_set]
  refine ⟨fun x hx => ?_, h.2⟩
  rcases mem_setB hx with hx | rfl
  · exact h.1 x hx
  · have := Block.right_iff.1 (h.1 b (List.mem_of_getElem? hb))
    exact Block.right_iff.2 ⟨fun o hoo => this.1 o (ho o hoo), this.2⟩
theorem Sw.right {a b : List Block} {f d : Int} (h : Sw a b) (hr : blocksRight a f d = true) : blocksRight b f d = true := by
  obtain ⟨k, x, p, o, q, ins, hx, e, hL, hi, rfl⟩ := h
  exact right_set hx (fun y hy => by rw [e]; rw [List.mem_append] at hy ⊢; exact hy.imp id (List.mem_cons_of_mem _)) hr
theorem SwR.right {a b : List Block} {f d : Int} (h : SwR a b) (hr : blocksRight a f d = true) : blocksRight b f d = true := by
  induction h with
  | refl => exact hr
  | step _ e ih => exact e.right ih
theorem Sw.ok {a b : List Block} (h : Sw a b) (hok : BsOk a) : BsOk b := by
  obtain ⟨f, d, hr⟩ := hok
  exact ⟨f, d, h.right hr⟩
theorem SwR.ok {a b : List Block} (h : SwR a b) (hok : BsOk a) : BsOk b := by
  obtain ⟨f, d, hr⟩ := hok
  exact ⟨f, d, h.right hr⟩
theorem Sw.len {a b : List Block} (h : Sw a b) : b.length = a.length := by
  obtain ⟨k, x, p, o, q, ins, hx, e, hL, hi, rfl⟩ := h
  rw [List.length_set]
theorem SwR.len {a b : List Block} (h : SwR a b) : b.length = a.length := by
  induction h with
  | refl => rfl
  | step _ e ih => exact e.len.trans ih
theorem SwR.ops {a b : List Block} (h : SwR a b) {n : Nat} (hn : ∀ x ∈ a, x.ops.length ≤ n) : ∀ x ∈ b, x.ops.length ≤ n := by
  induction h with
  | refl => exact hn
  | step _ e ih =>
    obtain ⟨k, x, p, o, q, ins, hx, e, hL, hi, rfl⟩ := e
    intro y hy
    rcases mem_setB hy with hy | rfl
    · exact ih y hy
    · have := ih x (List.mem_of_getElem? hx)
      rw [e] at this
      simp at this ⊢
      omega
theorem aheadOps_lt16 {bs : List Block} (hok : BsOk bs) {b : Block} (hb : b ∈ bs) {ins : List Nat} (h : IsLive bs ins) {q : List Op} (hq : ∀ o ∈ q, o ∈ b.ops) : aheadOps q (endN b.fin ins) < 65536 :=
  aheadOps_lt (fun o ho => hok.ops hb o (hq o ho)) (endN_lt16 hok hb h)
theorem IsLive.sub {bs : List Block} {ins : List Nat} (h : IsLive bs ins) {k : Nat} {b : Block} (hb : bs[k]? = some b) : ins.getD k 0 = aheadN b ins := getD_get (h.fix k b hb)
/-- What is live grows less. -/
theorem Sw.live {a b : List Block} (hok : BsOk a) (h : Sw a b) {xs ys : List Nat} (hx : IsLive a xs) (hy : IsLive b ys) : SubL ys xs := by
  obtain ⟨k, x, p, o, q, ins, hb, e, hL, hi, rfl⟩ := h
  obtain rfl := hx.unique hL
  refine hy.inv.low xs (fun i c hc => ?_)
  have hxm := List.mem_of_getElem? hb
  have hmem : ∀ o' ∈ o :: q, o' ∈ x.ops := fun o' ho => by rw [e, List.mem_append]; exact .inr ho
  rw [List.getElem?_set] at hc
  split at hc
  · rename_i hki
    subst hki
    split at hc
    · injection hc with hc
      subst hc
      rw [hx.sub hb]
      unfold aheadN
      rw [e]
      show SubN (aheadOps (p ++ q) _) _
      rw [aheadOps_append, aheadOps_append]
      exact aheadOps_mono p (hi.ahead (hok.ops hxm o (hmem o (by simp))) (aheadOps_lt16 hok hxm hx (fun o' ho => hmem o' (by simp [ho]))))
    · cases hc
  · rw [hx.sub hc]
    exact SubN.refl _
theorem SwR.live {a b : List Block} (hok : BsOk a) (h : SwR a b) {xs ys : List Nat} (hx : IsLive a xs) (hy : IsLive b ys) : SubL ys xs := by
  induction h generalizing ys with
  | refl => rw [hx.unique hy]; exact fun i => SubN.refl _
  | step h1 e ih =>
    obtain ⟨zs, hz⟩ := live_exists (h1.ok hok)
    exact fun i => (e.live (h1.ok hok) hz hy i).trans (ih hz i)

theorem set_swap {bs : List Block} {i j : Nat} {x y : Block} (h : i ≠ j) : (bs.set i x).set j y = (bs.set j y).set i x := List.set_comm _ _ h
theorem split_two : ∀ {p q p' q' : List Op} {o o' : Op}, p ++ o :: q = p' ++ o' :: q' → (p = p' ∧ o = o' ∧ q = q') ∨ (∃ m, p' = p ++ o :: m ∧ q = m ++ o' :: q') ∨ (∃ m, p = p' ++ o' :: m ∧ q' = m ++ o :: q)
  | [], q, [], q', o, o', h => by
    injection h with h1 h2
    exact .inl ⟨rfl, h1, h2⟩
  | [], q, x :: r, q', o, o', h => by
    injection h with h1 h2
    subst h1
    exact .inr (.inl ⟨r, rfl, h2⟩)
  | x :: r, q, [], q', o, o', h => by
    injection h with h1 h2
    subst h1
    exact .inr (.inr ⟨r, rfl, h2.symm⟩)
  | x :: r, q, y :: s, q', o, o', h => by
    injection h with h1 h2
    subst h1
    rcases split_two h2 with ⟨rfl, rfl, rfl⟩ | ⟨m, rfl, rfl⟩ | ⟨m, rfl, rfl⟩
    · exact .inl ⟨rfl, rfl, rfl⟩
    · exact .inr (.inl ⟨m, rfl, rfl⟩)
    · exact .inr (.inr ⟨m, rfl, rfl⟩)
/-- Two in one block, the first one ahead of the second. -/
theorem Sw.same {a : List Block} (hok : BsOk a) {k : Nat} {b : Block} {p m q : List Op} {o o' : Op} {ins : List Nat} (hb : a[k]? = some b) (e : b.ops = p ++ o :: (m ++ o' :: q)) (hL : IsLive a ins) (h1 : idleO o (aheadOps (m ++ o' :: q) (endN b.fin ins))) (h2 : idleO o' (aheadOps q (endN b.fin ins))) :
    Sw (a.set k ⟨p ++ (m ++ o' :: q), b.fin⟩) (a.set k ⟨p ++ (m ++ q), b.fin⟩) ∧ Sw (a.set k ⟨(p ++ o :: m) ++ q, b.fin⟩) (a.set k ⟨p ++ (m ++ q), b.fin⟩) := by
  have hk := (List.getElem?_eq_some_iff.1 hb).1
  have hbm := List.mem_of_getElem? hb
  have s1 : Sw a (a.set k ⟨p ++ (m ++ o' :: q), b.fin⟩) := ⟨k, b, p, o, m ++ o' :: q, ins, hb, e, hL, h1, rfl⟩
  have s2 : Sw a (a.set k ⟨(p ++ o :: m) ++ q, b.fin⟩) := ⟨k, b, p ++ o :: m, o', q, ins, hb, by rw [e]; simp, hL, h2, rfl⟩
  obtain ⟨x1, l1⟩ := live_exists (s1.ok hok)
  obtain ⟨x2, l2⟩ := live_exists (s2.ok hok)
  have u1 := s1.live hok hL l1
  have u2 := s2.live hok hL l2
  have hset : ∀ c : Block, (a.set k c)[k]? = some c := fun c => by rw [List.getElem?_set, if_pos rfl, if_pos hk]
  refine ⟨⟨k, _, p ++ m, o', q, x1, hset _, by simp, l1, h2.mono (aheadOps_mono q (endN_mono _ u1)), by rw [List.set_set]; simp⟩, ⟨k, _, p, o, m ++ q, x2, hset _, by simp, l2, h1.mono ?_, by rw [List.set_set]⟩⟩
  show SubN (aheadOps (m ++ q) (endN b.fin x2)) _
  rw [aheadOps_append, aheadOps_append, aheadOps_cons]
  refine aheadOps_mono m ((aheadOps_mono q (endN_mono _ u2)).trans (h2.ahead (hok.ops hbm o' (by rw [e]; simp)) (aheadOps_lt16 hok hbm hL (fun y hy => by rw [e]; simp [hy]))))
theorem Sw.diamond {a b c : List Block} (hok : BsOk a) (h : Sw a b) (k : Sw a c) : b = c ∨ ∃ d, Sw b d ∧ Sw c d := by
  have h0 := h
  have k0 := k
  obtain ⟨i, x, p, o, q, ins, hx, e, hL, hi, rfl⟩ := h
  obtain ⟨j, y, p', o', q', ins', hy, e', hL', hi', rfl⟩ := k
  obtain rfl := hL.unique hL'
  by_cases hij : i = j
  · subst hij
    rw [hx] at hy
    injection hy with hy
    subst hy
    rw [e] at e'
    rcases split_two e' with ⟨rfl, rfl, rfl⟩ | ⟨m, rfl, rfl⟩ | ⟨m, rfl, rfl⟩
    · exact .inl rfl
    · obtain ⟨s1, s2⟩ := Sw.same hok hx e hL hi hi'
      exact .inr ⟨_, s1, s2⟩
    · obtain ⟨s1, s2⟩ := Sw.same hok hx (e.trans e') hL hi' hi
      exact .inr ⟨_, s2, s1⟩
  · right
    obtain ⟨x1, l1⟩ := live_exists (h0.ok hok)
    obtain ⟨x2, l2⟩ := live_exists (k0.ok hok)
    have u1 := h0.live hok hL l1
    have u2 := k0.live hok hL l2
    refine ⟨(a.set i ⟨p ++ q, x.fin⟩).set j ⟨p' ++ q', y.fin⟩, ⟨j, y, p', o', q', x1, ?_, e', l1, hi'.mono (aheadOps_mono q' (endN_mono _ u1)), rfl⟩, ⟨i, x, p, o, q, x2, ?_, e, l2, hi.mono (aheadOps_mono q (endN_mono _ u2)), set_swap hij⟩⟩
    · rw [List.getElem?_set, if_neg hij]; exact hy
    · rw [List.getElem?_set, if_neg (fun h => hij h.symm)]; exact hx
theorem SwR.strip {a b c : List Block} (hok : BsOk a) (h : SwR a b) (k : Sw a c) : ∃ d, (b = d ∨ Sw b d) ∧ SwR c d := by
  induction h with
  | refl => exact ⟨c, .inr k, .refl⟩
  | step h1 e ih =>
    obtain ⟨d, hd, hc⟩ := ih
    rename_i x y
    rcases hd with rfl | hd
    · exact ⟨y, .inl rfl, hc.step e⟩
    · rcases Sw.diamond (h1.ok hok) e hd with rfl | ⟨z, z1, z2⟩
      · exact ⟨y, .inl rfl, hc⟩
      · exact ⟨z, .inr z1, hc.step z2⟩
theorem SwR.confl {a b c : List Block} (hok : BsOk a) (h : SwR a b) (k : SwR a c) : ∃ d, SwR b d ∧ SwR c d := by
  induction k with
  | refl => exact ⟨b, .refl, h⟩
  | step k1 e ih =>
    obtain ⟨d, hb, hc⟩ := ih
    obtain ⟨z, hz, hcz⟩ := SwR.strip (k1.ok hok) hc e
    rcases hz with rfl | hz
    · exact ⟨_, hb, hcz⟩
    · exact ⟨z, hb.step hz, hcz⟩
theorem Normal.stay {a b : List Block} (hn : Normal a) (h : SwR a b) : b = a := by
  induction h with
  | refl => rfl
  | step _ e ih => rw [ih] at e; exact absurd e (hn _)
/-- What is left doesn't hang on the order. -/
theorem swept_unique {a b c : List Block} (hok : BsOk a) (h : SwR a b) (hb : Normal b) (k : SwR a c) (hc : Normal c) : b = c := by
  obtain ⟨d, h1, h2⟩ := SwR.confl hok h k
  rw [← hb.stay h1, ← hc.stay h2]

/-- All of a block at once. -/
def sweepOps : List Op → Nat → List Op
  | [], _ => []
  | o :: r, e => if idleO o (aheadOps r e) then sweepOps r e else o :: sweepOps r e
theorem sweepOps_mem {os : List Op} {e : Nat} : ∀ o ∈ sweepOps os e, o ∈ os := by
  induction os with
  | nil => intro o h; exact h
  | cons x r ih =>
    intro o h
    unfold sweepOps at h
    split at h
    · exact List.mem_cons_of_mem _ (ih o h)
    · rw [List.mem_cons] at h ⊢
      exact h.imp id (ih o)
theorem sweepOps_len (os : List Op) (e : Nat) : (sweepOps os e).length ≤ os.length := by
  induction os with
  | nil => exact Nat.le_refl _
  | cons x r ih =>
    unfold sweepOps
    split
    · simp; omega
    · simp; omega
theorem sweepOps_ahead {os : List Op} {e e' : Nat} (hr : ∀ o ∈ os, o.ins.right = true) (he : e < 65536) (h : SubN e' e) : SubN (aheadOps (sweepOps os e) e') (aheadOps os e) := by
  induction os with
  | nil => exact h
  | cons x r ih =>
    have ih := ih (fun o ho => hr o (List.mem_cons_of_mem _ ho))
    unfold sweepOps
    split
    · rename_i hi
      exact ih.trans (hi.ahead (hr x (List.mem_cons_self ..)) (aheadOps_lt (fun o ho => hr o (List.mem_cons_of_mem _ ho)) he))
    · exact beforeN_mono x ih
theorem sweepOps_swr {a : List Block} (hok : BsOk a) {k : Nat} {b : Block} {ins : List Nat} (hb : a[k]? = some b) (hL : IsLive a ins) : ∀ (os p : List Op), b.ops = p ++ os → SwR a (a.set k ⟨p ++ sweepOps os (endN b.fin ins), b.fin⟩)
  | [], p, e => by
    have : a.set k ⟨p ++ sweepOps [] (endN b.fin ins), b.fin⟩ = a := by
      have hbb : (⟨p ++ sweepOps [] (endN b.fin ins), b.fin⟩ : Block) = b := by
        show (⟨p ++ [], b.fin⟩ : Block) = b
        rw [← e]
      rw [hbb]
      exact set_same hb
    rw [this]
    exact .refl
  | o :: r, p, e => by
    have hk := (List.getElem?_eq_some_iff.1 hb).1
    have hbm := List.mem_of_getElem? hb
    have ih := sweepOps_swr hok hb hL r (p ++ [o]) (by rw [e]; simp)
    have e1 : p ++ [o] ++ sweepOps r (endN b.fin ins) = p ++ o :: sweepOps r (endN b.fin ins) := by simp
    rw [e1] at ih
    unfold sweepOps
    split
    · rename_i hi
      obtain ⟨xs, lx⟩ := live_exists (ih.ok hok)
      have u := ih.live hok hL lx
      refine ih.step ⟨k, _, p, o, sweepOps r (endN b.fin ins), xs, by rw [List.getElem?_set, if_pos rfl, if_pos hk], rfl, lx, hi.mono ?_, by rw [List.set_set]⟩
      exact sweepOps_ahead (fun y hy => hok.ops hbm y (by rw [e]; simp [hy])) (endN_lt16 hok hbm hL) (endN_mono _ u)
    · exact ih
theorem sweepOps_same {os : List Op} {e : Nat} (h : (sweepOps os e).length = os.length) : sweepOps os e = os ∧ ∀ p o q, os = p ++ o :: q → ¬ idleO o (aheadOps q e) := by
  induction os with
  | nil => exact ⟨rfl, fun p o q h => by simp at h⟩
  | cons x r ih =>
    have hl := sweepOps_len r e
    unfold sweepOps at h ⊢
    split at h
    · simp at h; omega
    · rename_i hx
      obtain ⟨i1, i2⟩ := ih (by simpa using h)
      rw [if_neg hx]
      refine ⟨by rw [i1], fun p o q e' => ?_⟩
      cases p with
      | nil =>
        injection e' with e1 e2
        subst e1 e2
        exact hx
      | cons y s =>
        injection e' with e1 e2
        exact i2 s o q e2
/-- Nothing in a block does nothing. -/
def CleanB (b : Block) (ins : List Nat) : Prop := ∀ p o q, b.ops = p ++ o :: q → ¬ idleO o (aheadOps q (endN b.fin ins))
theorem normal_of_clean {bs : List Block} {ins : List Nat} (hL : IsLive bs ins) (h : ∀ (k : Nat) (b : Block), bs[k]? = some b → CleanB b ins) : Normal bs := by
  rintro bs' ⟨k, b, p, o, q, ins', hb, e, hL', hi, rfl⟩
  obtain rfl := hL.unique hL'
  exact h k b hb p o q e hi
theorem clean_of_normal {bs : List Block} {ins : List Nat} (hL : IsLive bs ins) (h : Normal bs) : ∀ (k : Nat) (b : Block), bs[k]? = some b → CleanB b ins := by
  intro k b hb p o q e hi
  exact h _ ⟨k, b, p, o, q, ins, hb, e, hL, hi, rfl⟩
/-- What is swept: unlike what was, by instructions that do nothing; nothing does nothing any more. -/
def Swept (bs bs' : List Block) : Prop := SwR bs bs' ∧ Normal bs'
theorem Swept.unique {a b c : List Block} (hok : BsOk a) (h : Swept a b) (k : Swept a c) : b = c := swept_unique hok h.1 h.2 k.1 k.2
def opsN (bs : List Block) : Nat := (bs.map (fun b => b.ops.length)).sum
theorem opsN_set : ∀ {bs : List Block} {k : Nat} {b c : Block}, bs[k]? = some b → opsN (bs.set k c) + b.ops.length = opsN bs + c.ops.length
  | [], k, b, c, h => by simp at h
  | x :: r, 0, b, c, h => by
    simp at h
    subst h
    unfold opsN
    simp
    omega
  | x :: r, k + 1, b, c, h => by
    have := opsN_set (bs := r) (k := k) (b := b) (c := c) (by simpa using h)
    unfold opsN at *
    simp at *
    omega
theorem Sw.opsN {a b : List Block} (h : Sw a b) : opsN b + 1 = opsN a := by
  obtain ⟨k, x, p, o, q, ins, hx, e, hL, hi, rfl⟩ := h
  have := opsN_set (c := ⟨p ++ q, x.fin⟩) hx
  rw [e] at this
  simp at this
  omega
theorem SwR.opsN {a b : List Block} (h : SwR a b) : opsN b ≤ opsN a := by
  induction h with
  | refl => exact Nat.le_refl _
  | step _ e ih => have := e.opsN; omega
end Go.Proofs.Ytokkngfgppikkaa
