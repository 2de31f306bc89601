/- Plain: what is reached along edges; two ways to find it. -/
import Derived.Test.YthnkikdbllkmkaaGc
import Derived.Test.YthnkikdbllkmkaaPh
namespace Go.Proofs.Ythnkikdbllkmkaa
set_option linter.unusedVariables false
set_option linter.unusedSimpArgs false

inductive ReachE (E : Nat → Nat → Prop) (s : Nat) : Nat → Prop
  | refl : ReachE E s s
  | step {x y : Nat} : ReachE E s x → E x y → ReachE E s y
theorem ReachE.trans {E : Nat → Nat → Prop} {a b c : Nat} (h : ReachE E a b) (k : ReachE E b c) : ReachE E a c := by
  induction k with
  | refl => exact h
  | step _ e ih => exact ih.step e
theorem ReachE.lt {E : Nat → Nat → Prop} {n s x : Nat} (hE : ∀ x y, E x y → y < n) (hs : s < n) (h : ReachE E s x) : x < n := by
  cases h with
  | refl => exact hs
  | step _ e => exact hE _ _ e

/-- What a search from i leaves of the list of those seen. -/
structure DoneE (E : Nat → Nat → Prop) (xs : List Bool) (i : Nat) (ys : List Bool) : Prop where
  len : ys.length = xs.length
  mono : ∀ x, On xs x → On ys x
  at_ : On ys i
  sound : ∀ x, On ys x → On xs x ∨ ReachE E i x
  closed : ∀ x y, On ys x → ¬ On xs x → E x y → On ys y
/-- What it leaves where those of D have been gone to. -/
structure PartE (E : Nat → Nat → Prop) (xs : List Bool) (i : Nat) (D : Nat → Prop) (ys : List Bool) : Prop where
  len : ys.length = xs.length
  mono : ∀ x, On xs x → On ys x
  at_ : On ys i
  sound : ∀ x, On ys x → On xs x ∨ ReachE E i x
  closed : ∀ x y, On ys x → ¬ On xs x → x ≠ i → E x y → On ys y
  goes : ∀ y, D y → On ys y
theorem DoneE.seen {E : Nat → Nat → Prop} {xs : List Bool} {i : Nat} (h : On xs i) : DoneE E xs i xs :=
  ⟨rfl, fun _ h => h, h, fun _ h => .inl h, fun x y h1 h2 => absurd h1 h2⟩
theorem PartE.start {E : Nat → Nat → Prop} {xs : List Bool} {i : Nat} (hi : i < xs.length) : PartE E xs i (fun _ => False) (xs.set i true) :=
  ⟨by simp, fun x h => (on_set hi).2 (.inr h), (on_set hi).2 (.inl rfl), fun x h => (by
    rcases (on_set hi).1 h with rfl | h
    · exact .inr .refl
    · exact .inl h), fun x y h1 h2 h3 => (by
    rcases (on_set hi).1 h1 with rfl | h
    · exact absurd rfl h3
    · exact absurd h h2), fun y h => h.elim⟩
theorem PartE.step {E : Nat → Nat → Prop} {xs ys zs : List Bool} {i y : Nat} {D : Nat → Prop} (h : PartE E xs i D ys) (he : E i y) (d : DoneE E ys y zs) : PartE E xs i (fun z => D z ∨ z = y) zs := by
  refine ⟨d.len.trans h.len, fun x hx => d.mono x (h.mono x hx), d.mono i h.at_, fun x hx => ?_, fun x z h1 h2 h3 h4 => ?_, fun z hz => ?_⟩
  · rcases d.sound x hx with h1 | h1
    · exact h.sound x h1
    · exact .inr (((ReachE.refl).step he).trans h1)
  · by_cases hx : On ys x
    · exact d.mono z (h.closed x z hx h2 h3 h4)
    · exact d.closed x z h1 hx h4
  · rcases hz with hz | rfl
    · exact d.mono _ (h.goes z hz)
    · exact d.at_
theorem PartE.done {E : Nat → Nat → Prop} {xs ys : List Bool} {i : Nat} {D : Nat → Prop} (h : PartE E xs i D ys) (hD : ∀ y, E i y → D y) : DoneE E xs i ys := by
  refine ⟨h.len, h.mono, h.at_, h.sound, fun x y h1 h2 h3 => ?_⟩
  by_cases hx : x = i
  · subst hx
    exact h.goes y (hD y h3)
  · exact h.closed x y h1 h2 hx h3

/-- The list of those that are reached. -/
def IsReachE (E : Nat → Nat → Prop) (n s : Nat) (xs : List Bool) : Prop := xs.length = n ∧ ∀ x, On xs x ↔ ReachE E s x
theorem IsReachE.unique {E : Nat → Nat → Prop} {n s : Nat} {xs ys : List Bool} (h : IsReachE E n s xs) (k : IsReachE E n s ys) : xs = ys := by
  apply List.ext_getElem?
  intro x
  have hx := (h.2 x).trans (k.2 x).symm
  unfold On at hx
  by_cases hl : x < n
  · obtain ⟨b, hb⟩ := get_some xs x (by rw [h.1]; exact hl)
    obtain ⟨c, hc⟩ := get_some ys x (by rw [k.1]; exact hl)
    rw [hb, hc] at hx ⊢
    cases b <;> cases c <;> simp_all
  · rw [List.getElem?_eq_none (by rw [h.1]; omega), List.getElem?_eq_none (by rw [k.1]; omega)]
theorem DoneE.isReach {E : Nat → Nat → Prop} {n s : Nat} {ys : List Bool} (h : DoneE E (List.replicate n false) s ys) : IsReachE E n s ys := by
  have hno : ∀ x, ¬ On (List.replicate n false) x := by
    intro x hx
    unfold On at hx
    rw [List.getElem?_replicate] at hx
    split at hx <;> simp at hx
  refine ⟨by rw [h.len]; simp, fun x => ⟨fun hx => (h.sound x hx).resolve_left (hno x), fun hx => ?_⟩⟩
  induction hx with
  | refl => exact h.at_
  | step _ e ih => exact h.closed _ _ ih (hno _) e

/- In rounds. -/
structure RSE (E : Nat → Nat → Prop) (n s : Nat) (xs : List Bool) : Prop where
  len : xs.length = n
  at_ : On xs s
  sound : ∀ x, On xs x → ReachE E s x
def ClosedE (E : Nat → Nat → Prop) (xs : List Bool) : Prop := ∀ x y, On xs x → E x y → On xs y
structure RMidE (E : Nat → Nat → Prop) (n s : Nat) (xs0 : List Bool) (j : Nat) (xs : List Bool) : Prop where
  rs : RSE E n s xs
  mono : ∀ x, On xs0 x → On xs x
  done : ∀ x y, x < j → On xs0 x → E x y → On xs y
theorem RMidE.start {E : Nat → Nat → Prop} {n s : Nat} {xs : List Bool} (h : RSE E n s xs) : RMidE E n s xs 0 xs := ⟨h, fun _ h => h, fun x y h => absurd h (by omega)⟩
theorem RMidE.skip {E : Nat → Nat → Prop} {n s j : Nat} {xs0 xs : List Bool} (h : RMidE E n s xs0 j xs) (hn : ¬ On xs j) : RMidE E n s xs0 (j + 1) xs :=
  ⟨h.rs, h.mono, fun x y hx h0 he => by
    by_cases hk : x < j
    · exact h.done x y hk h0 he
    · obtain rfl : x = j := by omega
      exact absurd (h.mono x h0) hn⟩
theorem RMidE.next {E : Nat → Nat → Prop} {n s j : Nat} {xs0 xs : List Bool} (h : RMidE E n s xs0 j xs) (hn : ∀ y, E j y → On xs y) : RMidE E n s xs0 (j + 1) xs :=
  ⟨h.rs, h.mono, fun x y hx h0 he => by
    by_cases hk : x < j
    · exact h.done x y hk h0 he
    · obtain rfl : x = j := by omega
      exact hn y he⟩
theorem RMidE.set {E : Nat → Nat → Prop} {n s j k : Nat} {xs0 xs : List Bool} (h : RMidE E n s xs0 j xs) (hj : On xs j) (he : E j k) (hk : k < n) : RMidE E n s xs0 j (xs.set k true) ∧ (∀ x, On xs x → On (xs.set k true) x) ∧ On (xs.set k true) k := by
  have hkl : k < xs.length := by rw [h.rs.len]; exact hk
  have hm : ∀ x, On xs x → On (xs.set k true) x := fun x hx => (on_set hkl).2 (.inr hx)
  refine ⟨⟨⟨by simp [h.rs.len], hm _ h.rs.at_, fun x hx => ?_⟩, fun x hx => hm x (h.mono x hx), fun x y h1 h2 h3 => hm y (h.done x y h1 h2 h3)⟩, hm, (on_set hkl).2 (.inl rfl)⟩
  rcases (on_set hkl).1 hx with rfl | hx
  · exact (h.rs.sound j hj).step he
  · exact h.rs.sound x hx
theorem RSE.closed_all {E : Nat → Nat → Prop} {n s : Nat} {xs : List Bool} (h : RSE E n s xs) (hc : ClosedE E xs) : ∀ x, ReachE E s x → On xs x := by
  intro x hx
  induction hx with
  | refl => exact h.at_
  | step _ e ih => exact hc _ _ ih e
theorem RMidE.round {E : Nat → Nat → Prop} {n s r : Nat} {xs0 xs : List Bool} (h0 : RSE E n s xs0) (hk : ClosedE E xs0 ∨ offs xs0 + r + 1 ≤ n) (h : RMidE E n s xs0 n xs) : ClosedE E xs ∨ offs xs + (r + 1) + 1 ≤ n := by
  by_cases hc : ClosedE E xs0
  · left
    intro x y hx he
    exact h.mono y (h0.closed_all hc y ((h.rs.sound x hx).step he))
  · right
    have hk := hk.resolve_left hc
    unfold ClosedE at hc
    have : ∃ x y, On xs0 x ∧ E x y ∧ ¬ On xs0 y := by
      apply Classical.byContradiction
      intro hno
      apply hc
      intro x y hx he
      apply Classical.byContradiction
      intro hy
      exact hno ⟨x, y, hx, he, hy⟩
    obtain ⟨x, y, hx, he, hy⟩ := this
    have := offs_strict (xs := xs0) (ys := xs) (by rw [h.rs.len, h0.len]) h.mono (h.done x y (by rw [← h0.len]; exact hx.lt) hx he) hy
    omega
theorem RSE.isReach {E : Nat → Nat → Prop} {n s : Nat} {xs : List Bool} (h : RSE E n s xs) (hc : ClosedE E xs) : IsReachE E n s xs := ⟨h.len, fun x => ⟨h.sound x, h.closed_all hc x⟩⟩
theorem RSE.first {E : Nat → Nat → Prop} {n s : Nat} (hs : s < n) : RSE E n s ((List.replicate n false).set s true) ∧ offs ((List.replicate n false).set s true) + 0 + 1 ≤ n := by
  have hl : s < (List.replicate n false).length := by simpa using hs
  refine ⟨⟨by simp, (on_set hl).2 (.inl rfl), fun x hx => ?_⟩, ?_⟩
  · rcases (on_set hl).1 hx with rfl | hx
    · exact .refl
    · unfold On at hx
      rw [List.getElem?_replicate] at hx
      split at hx <;> simp at hx
  · have := offs_set (xs := List.replicate n false) (i := s) (by rw [List.getElem?_replicate, if_pos hs])
    rw [offs_replicate] at this
    omega
end Go.Proofs.Ythnkikdbllkmkaa
