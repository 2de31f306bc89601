/- Plain: the document's way to find what is reached. -/
import Derived.Test.YthnkikdbllkmkaaGc
namespace Go.Proofs.Ythnkikdbllkmkaa
set_option linter.unusedVariables false
set_option linter.unusedSimpArgs false

theorem cedge_iff {gs : List Graph} {x y : Nat} {g : Graph} (hg : gs[x]? = some g) : CEdge gs x y ↔ callsB g.blocks y = true := by
  unfold callsB
  rw [decide_eq_true_eq, ← mem_ofList]
  constructor
  · rintro ⟨g', hg', hy⟩
    rw [hg] at hg'
    injection hg' with e
    subst e
    exact hy
  · exact fun h => ⟨g, hg, h⟩
theorem cedge_lt {gs : List Graph} (hok : GsOk gs) {x y : Nat} (h : CEdge gs x y) : y < gs.length := by
  obtain ⟨g, hg, hy⟩ := h
  have := ((hok.2 g (List.mem_of_getElem? hg)).2 y hy).2
  omega
structure RS (gs : List Graph) (s : Nat) (xs : List Bool) : Prop where
  len : xs.length = gs.length
  at_ : On xs s
  sound : ∀ x, On xs x → Reaches gs s x
def RClosed (gs : List Graph) (xs : List Bool) : Prop := ∀ x y, On xs x → CEdge gs x y → On xs y
structure RMid (gs : List Graph) (s : Nat) (xs0 : List Bool) (j : Nat) (xs : List Bool) : Prop where
  rs : RS gs s xs
  mono : ∀ x, On xs0 x → On xs x
  done : ∀ x y, x < j → On xs0 x → CEdge gs x y → On xs y
structure RInn (gs : List Graph) (s : Nat) (xs0 : List Bool) (j k : Nat) (xs : List Bool) : Prop where
  mid : RMid gs s xs0 j xs
  row : ∀ y, y < k → On xs0 j → CEdge gs j y → On xs y
theorem RMid.start {gs : List Graph} {s : Nat} {xs : List Bool} (h : RS gs s xs) : RMid gs s xs 0 xs := ⟨h, fun _ h => h, fun x y h => absurd h (by omega)⟩
theorem RInn.start {gs : List Graph} {s j : Nat} {xs0 xs : List Bool} (h : RMid gs s xs0 j xs) : RInn gs s xs0 j 0 xs := ⟨h, fun y h => absurd h (by omega)⟩
theorem RInn.skip {gs : List Graph} {s j k : Nat} {xs0 xs : List Bool} (h : RInn gs s xs0 j k xs) (hn : ¬ (On xs j ∧ CEdge gs j k)) : RInn gs s xs0 j (k + 1) xs :=
  ⟨h.mid, fun y hy h0 he => by
    by_cases hk : y < k
    · exact h.row y hk h0 he
    · obtain rfl : y = k := by omega
      exact absurd ⟨h.mid.mono j h0, he⟩ hn⟩
theorem RInn.set {gs : List Graph} {s j k : Nat} {xs0 xs : List Bool} (h : RInn gs s xs0 j k xs) (hj : On xs j) (he : CEdge gs j k) (hk : k < gs.length) : RInn gs s xs0 j (k + 1) (xs.set k true) := by
  have hkl : k < xs.length := by rw [h.mid.rs.len]; exact hk
  have hm : ∀ x, On xs x → On (xs.set k true) x := fun x hx => (on_set hkl).2 (.inr hx)
  refine ⟨⟨⟨by simp [h.mid.rs.len], hm _ h.mid.rs.at_, fun x hx => ?_⟩, fun x hx => hm x (h.mid.mono x hx), fun x y h1 h2 h3 => hm y (h.mid.done x y h1 h2 h3)⟩, fun y hy h0 hey => ?_⟩
  · rcases (on_set hkl).1 hx with rfl | hx
    · exact (h.mid.rs.sound j hj).step he
    · exact h.mid.rs.sound x hx
  · by_cases hyk : y < k
    · exact hm y (h.row y hyk h0 hey)
    · obtain rfl : y = k := by omega
      exact (on_set hkl).2 (.inl rfl)
theorem RInn.done {gs : List Graph} {s j : Nat} {xs0 xs : List Bool} (hok : GsOk gs) (h : RInn gs s xs0 j gs.length xs) : RMid gs s xs0 (j + 1) xs :=
  ⟨h.mid.rs, h.mid.mono, fun x y hx h0 he => by
    by_cases hxj : x < j
    · exact h.mid.done x y hxj h0 he
    · obtain rfl : x = j := by omega
      exact h.row y (cedge_lt hok he) h0 he⟩
theorem offs_strict {xs ys : List Bool} {y : Nat} (hl : ys.length = xs.length) (h : ∀ x, On xs x → On ys x) (h1 : On ys y) (h2 : ¬ On xs y) : offs ys + 1 ≤ offs xs := by
  have hy : y < xs.length := by rw [← hl]; exact h1.lt
  have hf : xs[y]? = some false := by
    obtain ⟨b, hb⟩ := get_some xs y hy
    cases b with
    | false => exact hb
    | true => exact absurd hb h2
  have h3 := offs_set hf
  have h4 := offs_mono (xs := xs.set y true) (ys := ys) (by simp [hl]) (fun x hx => by
    rcases (on_set hy).1 hx with rfl | hx
    · exact h1
    · exact h x hx)
  omega
theorem RS.closed_all {gs : List Graph} {s : Nat} {xs : List Bool} (h : RS gs s xs) (hc : RClosed gs xs) : ∀ x, Reaches gs s x → On xs x := by
  intro x hx
  induction hx with
  | refl => exact h.at_
  | step _ e ih => exact hc _ _ ih e
theorem RMid.round {gs : List Graph} {s r : Nat} {xs0 xs : List Bool} (h0 : RS gs s xs0) (hk : RClosed gs xs0 ∨ offs xs0 + r + 1 ≤ gs.length) (h : RMid gs s xs0 gs.length xs) : RClosed gs xs ∨ offs xs + (r + 1) + 1 ≤ gs.length := by
  by_cases hc : RClosed gs xs0
  · left
    intro x y hx he
    exact h.mono y (h0.closed_all hc y ((h.rs.sound x hx).step he))
  · right
    have hk := hk.resolve_left hc
    unfold RClosed at hc
    have : ∃ x y, On xs0 x ∧ CEdge gs x y ∧ ¬ On xs0 y := by
      apply Classical.byContradiction
      intro hno
      apply hc
      intro x y hx he
      apply Classical.byContradiction
      intro hy
      exact hno ⟨x, y, hx, he, hy⟩
    obtain ⟨x, y, hx, he, hy⟩ := this
    have := offs_strict (xs := xs0) (ys := xs) (by rw [h.rs.len, h0.len]) h.mono (h.done x y (by rw [← h0.len]; exact hx.lt) hx he) hy
    omega
theorem RS.isReach {gs : List Graph} {s : Nat} {xs : List Bool} (h : RS gs s xs) (hc : RClosed gs xs) : IsReach gs s xs := ⟨h.len, fun x => ⟨h.sound x, h.closed_all hc x⟩⟩
theorem offs_replicate (n : Nat) : offs (List.replicate n false) = n := by
  unfold offs
  rw [List.filter_replicate]
  simp
theorem RS.first {gs : List Graph} {s : Nat} (hs : s < gs.length) : RS gs s ((List.replicate gs.length false).set s true) ∧ offs ((List.replicate gs.length false).set s true) + 0 + 1 ≤ gs.length := by
  have hl : s < (List.replicate gs.length false).length := by simpa using hs
  refine ⟨⟨by simp, (on_set hl).2 (.inl rfl), fun x hx => ?_⟩, ?_⟩
  · rcases (on_set hl).1 hx with rfl | hx
    · exact .refl
    · unfold On at hx
      rw [List.getElem?_replicate] at hx
      split at hx <;> simp at hx
  · have := offs_set (xs := List.replicate gs.length false) (i := s) (by rw [List.getElem?_replicate, if_pos hs])
    rw [offs_replicate] at this
    omega
end Go.Proofs.Ythnkikdbllkmkaa
