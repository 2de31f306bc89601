/- Plain: which graphs a graph reaches. -/
import Derived.Test.YtobhjjbhlnbcpaaPf
namespace Go.Proofs.Ytobhjjbhlnbcpaa
set_option linter.unusedVariables false
set_option linter.unusedSimpArgs false

def CEdge (gs : List Graph) (x y : Nat) : Prop := ∃ g, gs[x]? = some g ∧ (y : Int) ∈ ofList g.blocks
inductive Reaches (gs : List Graph) (s : Nat) : Nat → Prop
  | refl : Reaches gs s s
  | step {x y : Nat} : Reaches gs s x → CEdge gs x y → Reaches gs s y
theorem Reaches.trans {gs : List Graph} {a b c : Nat} (h : Reaches gs a b) (k : Reaches gs b c) : Reaches gs a c := by
  induction k with
  | refl => exact h
  | step _ e ih => exact ih.step e
def On (xs : List Bool) (x : Nat) : Prop := xs[x]? = some true
theorem On.lt {xs : List Bool} {x : Nat} (h : On xs x) : x < xs.length := (List.getElem?_eq_some_iff.1 h).1
theorem on_set {xs : List Bool} {i x : Nat} (hi : i < xs.length) : On (xs.set i true) x ↔ x = i ∨ On xs x := by
  unfold On
  rw [List.getElem?_set]
  by_cases h : i = x
  · subst h; simp [hi]
  · rw [if_neg h]
    constructor
    · exact .inr
    · rintro (rfl | e)
      · exact absurd rfl h
      · exact e

/-- What a search from i leaves of the list of those seen. -/
structure DoneR (gs : List Graph) (xs : List Bool) (i : Nat) (ys : List Bool) : Prop where
  len : ys.length = xs.length
  mono : ∀ x, On xs x → On ys x
  at_ : On ys i
  sound : ∀ x, On ys x → On xs x ∨ Reaches gs i x
  closed : ∀ x y, On ys x → ¬ On xs x → CEdge gs x y → On ys y
/-- What its first k calls leave. -/
structure PartR (gs : List Graph) (xs : List Bool) (i : Nat) (cs : List Int) (k : Nat) (ys : List Bool) : Prop where
  len : ys.length = xs.length
  mono : ∀ x, On xs x → On ys x
  at_ : On ys i
  sound : ∀ x, On ys x → On xs x ∨ Reaches gs i x
  closed : ∀ x y, On ys x → ¬ On xs x → x ≠ i → CEdge gs x y → On ys y
  calls : ∀ j y, j < k → cs[j]? = some y → On ys y.toNat
theorem DoneR.seen {gs : List Graph} {xs : List Bool} {i : Nat} (h : On xs i) : DoneR gs xs i xs :=
  ⟨rfl, fun _ h => h, h, fun _ h => .inl h, fun x y h1 h2 => absurd h1 h2⟩
theorem PartR.start {gs : List Graph} {xs : List Bool} {i : Nat} {cs : List Int} (hi : i < xs.length) : PartR gs xs i cs 0 (xs.set i true) :=
  ⟨by simp, fun x h => (on_set hi).2 (.inr h), (on_set hi).2 (.inl rfl), fun x h => (by
    rcases (on_set hi).1 h with rfl | h
    · exact .inr .refl
    · exact .inl h), fun x y h1 h2 h3 => (by
    rcases (on_set hi).1 h1 with rfl | h
    · exact absurd rfl h3
    · exact absurd h h2), fun j y h => absurd h (by omega)⟩
theorem PartR.step {gs : List Graph} {xs ys zs : List Bool} {i k : Nat} {cs : List Int} {y : Int} (h : PartR gs xs i cs k ys) (hy : cs[k]? = some y) (hy0 : 0 ≤ y) (he : CEdge gs i y.toNat) (d : DoneR gs ys y.toNat zs) : PartR gs xs i cs (k + 1) zs := by
  refine ⟨d.len.trans h.len, fun x hx => d.mono x (h.mono x hx), d.mono i h.at_, fun x hx => ?_, fun x z h1 h2 h3 h4 => ?_, fun j z hj hz => ?_⟩
  · rcases d.sound x hx with h1 | h1
    · exact h.sound x h1
    · exact .inr (((Reaches.refl).step he).trans h1)
  · by_cases hx : On ys x
    · exact d.mono z (h.closed x z hx h2 h3 h4)
    · exact d.closed x z h1 hx h4
  · by_cases hjk : j < k
    · exact d.mono _ (h.calls j z hjk hz)
    · obtain rfl : j = k := by omega
      rw [hy] at hz
      injection hz with e
      rw [← e]
      exact d.at_
theorem PartR.done {gs : List Graph} {xs ys : List Bool} {i : Nat} {g : Graph} (hg : gs[i]? = some g) (h : PartR gs xs i (ofList g.blocks) (ofList g.blocks).length ys) : DoneR gs xs i ys := by
  refine ⟨h.len, h.mono, h.at_, h.sound, fun x y h1 h2 h3 => ?_⟩
  by_cases hx : x = i
  · subst hx
    obtain ⟨g', hg', hy⟩ := h3
    rw [hg] at hg'
    injection hg' with e
    subst e
    obtain ⟨j, hj, hj2⟩ := List.getElem_of_mem hy
    have := h.calls j y hj (by rw [List.getElem?_eq_getElem hj, hj2])
    simpa using this
  · exact h.closed x y h1 h2 hx h3

/-- How many are unseen. -/
def offs (xs : List Bool) : Nat := (xs.filter fun b => !b).length
theorem offs_set {xs : List Bool} {i : Nat} (h : xs[i]? = some false) : offs (xs.set i true) + 1 = offs xs := by
  unfold offs
  induction xs generalizing i with
  | nil => simp at h
  | cons b r ih =>
    cases i with
    | zero =>
      simp at h
      subst h
      simp
    | succ i =>
      simp at h
      have := ih h
      cases b <;> simp at this ⊢ <;> omega
theorem offs_mono {xs ys : List Bool} (hl : ys.length = xs.length) (h : ∀ x, On xs x → On ys x) : offs ys ≤ offs xs := by
  unfold offs
  induction xs generalizing ys with
  | nil =>
    have : ys = [] := List.eq_nil_of_length_eq_zero (by simpa using hl)
    subst this
    simp
  | cons b r ih =>
    cases ys with
    | nil => simp at hl
    | cons c s =>
      have h1 := ih (ys := s) (by simpa using hl) (fun x hx => h (x + 1) hx)
      have h0 := h 0
      unfold On at h0
      cases b <;> cases c <;> simp at h0 h1 ⊢ <;> omega

/-- The list of those that are reached. -/
def IsReach (gs : List Graph) (s : Nat) (xs : List Bool) : Prop := xs.length = gs.length ∧ ∀ x, On xs x ↔ Reaches gs s x
theorem IsReach.unique {gs : List Graph} {s : Nat} {xs ys : List Bool} (h : IsReach gs s xs) (k : IsReach gs s ys) : xs = ys := by
  apply List.ext_getElem?
  intro x
  have hx := (h.2 x).trans (k.2 x).symm
  unfold On at hx
  by_cases hl : x < gs.length
  · obtain ⟨b, hb⟩ := get_some xs x (by rw [h.1]; exact hl)
    obtain ⟨c, hc⟩ := get_some ys x (by rw [k.1]; exact hl)
    rw [hb, hc] at hx ⊢
    cases b <;> cases c <;> simp_all
  · rw [List.getElem?_eq_none (by rw [h.1]; omega), List.getElem?_eq_none (by rw [k.1]; omega)]
theorem DoneR.isReach {gs : List Graph} {s : Nat} {ys : List Bool} (h : DoneR gs (List.replicate gs.length false) s ys) : IsReach gs s ys := by
  have hno : ∀ x, ¬ On (List.replicate gs.length false) x := by
    intro x hx
    unfold On at hx
    rw [List.getElem?_replicate] at hx
    split at hx <;> simp at hx
  refine ⟨by rw [h.len]; simp, fun x => ⟨fun hx => (h.sound x hx).resolve_left (hno x), fun hx => ?_⟩⟩
  induction hx with
  | refl => exact h.at_
  | step _ e ih => exact h.closed _ _ ih (hno _) e
/-- Every call is of a graph that is there, and the graphs are few. -/
def GsOk (gs : List Graph) : Prop := gs.length ≤ 61 ∧ ∀ g ∈ gs, blocksFew g.blocks = true ∧ ∀ x ∈ ofList g.blocks, 0 ≤ x ∧ x < gs.length
end Go.Proofs.Ytobhjjbhlnbcpaa
