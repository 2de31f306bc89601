/- Plain: the sets of what is live grow to their least solution. -/
import Derived.Test.YtobhjjbhlnbcpaaEb
namespace Go.Proofs.Ytobhjjbhlnbcpaa
set_option linter.unusedVariables false
set_option linter.unusedSimpArgs false

/-- Is a set within another one? -/
def SubN (a b : Nat) : Prop := ∀ r, a.testBit r = true → b.testBit r = true
theorem SubN.refl (a : Nat) : SubN a a := fun _ h => h
theorem SubN.trans {a b c : Nat} (h : SubN a b) (k : SubN b c) : SubN a c := fun r hr => k r (h r hr)
theorem SubN.zero (a : Nat) : SubN 0 a := fun r h => by simp at h
theorem SubN.or {a b c d : Nat} (h : SubN a b) (k : SubN c d) : SubN (a ||| c) (b ||| d) := fun r hr => by
  rw [Nat.testBit_or] at hr ⊢
  rw [Bool.or_eq_true] at hr ⊢
  exact hr.elim (fun x => .inl (h r x)) (fun x => .inr (k r x))
theorem SubN.le {a b : Nat} (h : SubN a b) : a ≤ b := by
  have e : a ||| b = b := by
    apply Nat.eq_of_testBit_eq
    intro r
    rw [Nat.testBit_or]
    cases ha : a.testBit r with
    | false => simp
    | true => simp [h r ha]
  have := @Nat.left_le_or a b
  omega
theorem SubN.antisymm {a b : Nat} (h : SubN a b) (k : SubN b a) : a = b := Nat.le_antisymm h.le k.le
theorem beforeN_mono (o : Op) {a b : Nat} (h : SubN a b) : SubN (beforeN o a) (beforeN o b) := by
  unfold beforeN
  split
  · exact SubN.refl _
  · refine SubN.or ?_ (SubN.refl _)
    split
    · intro r hr
      rw [Nat.testBit_and, Bool.and_eq_true] at hr ⊢
      exact ⟨h r hr.1, hr.2⟩
    · exact h
theorem aheadOps_mono (os : List Op) {a b : Nat} (h : SubN a b) : SubN (aheadOps os a) (aheadOps os b) := by
  unfold aheadOps
  induction os with
  | nil => exact h
  | cons o r ih => exact beforeN_mono o ih
/-- Pointwise within. -/
def SubL (xs ys : List Nat) : Prop := ∀ i, SubN (xs.getD i 0) (ys.getD i 0)
theorem endN_mono (t : Term) {xs ys : List Nat} (h : SubL xs ys) : SubN (endN t xs) (endN t ys) := by
  unfold endN
  split
  · exact h _
  · split
    · exact SubN.or (SubN.or (h _) (h _)) (SubN.refl _)
    · exact SubN.refl _
theorem aheadN_mono (b : Block) {xs ys : List Nat} (h : SubL xs ys) : SubN (aheadN b xs) (aheadN b ys) := aheadOps_mono _ (endN_mono _ h)
theorem aheadOps_lt {os : List Op} {a : Nat} (h : ∀ o ∈ os, o.ins.right = true) (ha : a < 65536) : aheadOps os a < 65536 := by
  unfold aheadOps
  induction os with
  | nil => exact ha
  | cons o r ih => exact beforeN_lt (h o (by simp)) (ih (fun o ho => h o (by simp [ho])))
theorem Op.right_ins {o : Op} {f d : Int} (h : o.right f d = true) : o.ins.right = true := by
  unfold Op.right at h
  cases hr : o.ins.right with
  | true => rfl
  | false => simp [hr] at h
/-- Right blocks of a graph, of so many. -/
def BsOk (bs : List Block) : Prop := ∃ f d : Int, blocksRight bs f d = true
theorem BsOk.ops {bs : List Block} (h : BsOk bs) {b : Block} (hb : b ∈ bs) : ∀ o ∈ b.ops, o.ins.right = true := fun o ho => by
  obtain ⟨f, d, h⟩ := h
  exact Op.right_ins (blocksRight_ops h hb ho)
theorem BsOk.fin {bs : List Block} (h : BsOk bs) {b : Block} (hb : b ∈ bs) : ∃ f : Int, b.fin.right bs.length f = true := by
  obtain ⟨f, d, h⟩ := h
  unfold blocksRight at h
  rw [Bool.and_eq_true, List.all_eq_true] at h
  have := h.1 b hb
  unfold Block.right at this
  rw [Bool.and_eq_true] at this
  exact ⟨f, this.2⟩
theorem aheadN_lt {bs : List Block} (h : BsOk bs) {b : Block} (hb : b ∈ bs) {ins : List Nat} (hl : ins.length = bs.length) (hi : ∀ x ∈ ins, x < 65536) : aheadN b ins < 65536 := by
  obtain ⟨f, hf⟩ := h.fin hb
  exact aheadOps_lt (h.ops hb) (endN_lt (f := f) (by rw [hl]; exact hf) hi)

/-- Sets that hold what they are asked for. -/
def PostN (bs : List Block) (X : List Nat) : Prop := ∀ i b, bs[i]? = some b → SubN (aheadN b X) (X.getD i 0)
/-- Where the growing stands. -/
structure LiveI (bs : List Block) (ins : List Nat) : Prop where
  len : ins.length = bs.length
  lt : ∀ x ∈ ins, x < 65536
  up : ∀ i b, bs[i]? = some b → SubN (ins.getD i 0) (aheadN b ins)
  low : ∀ X, PostN bs X → SubL ins X
theorem LiveI.start (bs : List Block) : LiveI bs (List.replicate bs.length 0) := by
  have h0 : ∀ i, (List.replicate bs.length (0 : Nat)).getD i 0 = 0 := fun i => by
    rw [List.getD_eq_getElem?_getD, List.getElem?_replicate]
    split <;> rfl
  refine ⟨by simp, fun x hx => ?_, fun i b _ => ?_, fun X _ i => ?_⟩
  · have := (List.mem_replicate.1 hx).2
    omega
  · rw [h0]; exact SubN.zero _
  · rw [h0]; exact SubN.zero _
theorem getD_set {xs : List Nat} {i j y : Nat} (hi : i < xs.length) : (xs.set i y).getD j 0 = if j = i then y else xs.getD j 0 := by
  rw [List.getD_eq_getElem?_getD, List.getElem?_set]
  by_cases h : j = i
  · subst h; rw [if_pos rfl, if_pos hi, if_pos rfl]; rfl
  · rw [if_neg (fun e => h e.symm), if_neg h, List.getD_eq_getElem?_getD]
theorem LiveI.set {bs : List Block} {ins : List Nat} (hok : BsOk bs) (h : LiveI bs ins) {i : Nat} {b : Block} (hb : bs[i]? = some b) : LiveI bs (ins.set i (aheadN b ins)) := by
  have hi : i < ins.length := by rw [h.len]; exact (List.getElem?_eq_some_iff.1 hb).1
  have hup := h.up i b hb
  have hsub : SubL ins (ins.set i (aheadN b ins)) := fun j => by
    rw [getD_set hi]
    split
    · rename_i e; rw [e]; exact hup
    · exact SubN.refl _
  refine ⟨by rw [List.length_set]; exact h.len, fun x hx => ?_, fun j c hc => ?_, fun X hX j => ?_⟩
  · rcases List.mem_or_eq_of_mem_set hx with hx | rfl
    · exact h.lt x hx
    · exact aheadN_lt hok (List.mem_of_getElem? hb) h.len h.lt
  · rw [getD_set hi]
    split
    · rename_i e
      subst e
      rw [hb] at hc
      injection hc with e
      subst e
      exact aheadN_mono _ hsub
    · exact (h.up j c hc).trans (aheadN_mono _ hsub)
  · rw [getD_set hi]
    split
    · rename_i e
      subst e
      exact (aheadN_mono b (h.low X hX)).trans (hX _ b hb)
    · exact h.low X hX j
def room (ins : List Nat) : Nat := (ins.map (fun x => 65536 - x)).sum
theorem room_set : ∀ {ins : List Nat} {i x y : Nat}, ins[i]? = some x → x < y → y < 65536 → room (ins.set i y) < room ins
  | [], i, x, y, h, _, _ => by simp at h
  | a :: r, 0, x, y, h, h1, h2 => by
    simp at h
    subst h
    unfold room
    simp
    omega
  | a :: r, i + 1, x, y, h, h1, h2 => by
    have := room_set (ins := r) (i := i) (by simpa using h) h1 h2
    unfold room at *
    simp at *
    omega
theorem LiveI.grows {bs : List Block} {ins : List Nat} (hok : BsOk bs) (h : LiveI bs ins) {i x : Nat} {b : Block} (hb : bs[i]? = some b) (hx : ins[i]? = some x) (hne : aheadN b ins ≠ x) : room (ins.set i (aheadN b ins)) < room ins := by
  refine room_set hx ?_ (aheadN_lt hok (List.mem_of_getElem? hb) h.len h.lt)
  have := (h.up i b hb)
  rw [getD_get hx] at this
  have := this.le
  omega
/-- The least solution. -/
structure IsLive (bs : List Block) (ins : List Nat) : Prop where
  inv : LiveI bs ins
  fix : ∀ (k : Nat) (b : Block), bs[k]? = some b → ins[k]? = some (aheadN b ins)
theorem IsLive.unique {bs : List Block} {xs ys : List Nat} (h : IsLive bs xs) (k : IsLive bs ys) : xs = ys := by
  have post : ∀ {zs : List Nat}, IsLive bs zs → PostN bs zs := fun {zs} hz i b hb => by
    rw [getD_get (hz.fix i b hb)]; exact SubN.refl _
  apply List.ext_getElem?
  intro i
  by_cases hi : i < bs.length
  · obtain ⟨b, hb⟩ := get_some bs i hi
    have h1 := h.inv.low ys (post k) i
    have h2 := k.inv.low xs (post h) i
    rw [getD_get (h.fix i b hb), getD_get (k.fix i b hb)] at h1
    rw [getD_get (h.fix i b hb), getD_get (k.fix i b hb)] at h2
    rw [h.fix i b hb, k.fix i b hb, h1.antisymm h2]
  · rw [List.getElem?_eq_none (by rw [h.inv.len]; omega), List.getElem?_eq_none (by rw [k.inv.len]; omega)]
end Go.Proofs.Ytobhjjbhlnbcpaa
