/- Plain: a graph behind all others that calls nothing. -/
import Derived.Test.YtklhhdhokobbmaaPg
import Derived.Test.YtklhhdhokobbmaaPc
namespace Go.Proofs.Ytklhhdhokobbmaa
set_option linter.unusedVariables false
set_option linter.unusedSimpArgs false

theorem edge_more {gs : List Graph} {m : Graph} (hm : ofList m.blocks = []) {x y : Nat} : CEdge (gs ++ [m]) x y ↔ CEdge gs x y := by
  constructor
  · rintro ⟨g, hg, hy⟩
    by_cases hx : x < gs.length
    · rw [List.getElem?_append_left hx] at hg
      exact ⟨g, hg, hy⟩
    · rw [List.getElem?_append_right (by omega)] at hg
      cases hk : x - gs.length with
      | zero =>
        rw [hk] at hg
        simp at hg
        subst hg
        rw [hm] at hy
        simp at hy
      | succ k => rw [hk] at hg; simp at hg
  · rintro ⟨g, hg, hy⟩
    exact ⟨g, by rw [List.getElem?_append_left (List.getElem?_eq_some_iff.1 hg).1]; exact hg, hy⟩
theorem reaches_more {gs : List Graph} {m : Graph} (hm : ofList m.blocks = []) {s x : Nat} : Reaches (gs ++ [m]) s x ↔ Reaches gs s x := by
  constructor
  · intro h
    induction h with
    | refl => exact .refl
    | step _ e ih => exact ih.step ((edge_more hm).1 e)
  · intro h
    induction h with
    | refl => exact .refl
    | step _ e ih => exact ih.step ((edge_more hm).2 e)
theorem edge_ltc {gs : List Graph} (hok : GsOk gs) {x y : Nat} (h : CEdge gs x y) : x < gs.length ∧ y < gs.length := by
  obtain ⟨g, hg, hy⟩ := h
  have := ((hok.2 g (List.mem_of_getElem? hg)).2 y hy).2
  exact ⟨(List.getElem?_eq_some_iff.1 hg).1, by omega⟩
theorem reaches_lt {gs : List Graph} (hok : GsOk gs) {s x : Nat} (hs : s < gs.length) (h : Reaches gs s x) : x < gs.length := by
  cases h with
  | refl => exact hs
  | step _ e => exact (edge_ltc hok e).2
theorem reaches_end {gs : List Graph} (hok : GsOk gs) {x : Nat} (h : Reaches gs gs.length x) : x = gs.length := by
  induction h with
  | refl => rfl
  | step _ e ih => have := (edge_ltc hok e).1; omega
theorem gsOk_more {gs : List Graph} {m : Graph} (hok : GsOk gs) (hl : gs.length ≤ 60) (hm : ofList m.blocks = []) (hf : blocksFew m.blocks = true) : GsOk (gs ++ [m]) := by
  refine ⟨by simp; omega, fun g hg => ?_⟩
  rw [List.mem_append] at hg
  rcases hg with hg | hg
  · obtain ⟨h1, h2⟩ := hok.2 g hg
    exact ⟨h1, fun x hx => ⟨(h2 x hx).1, by have := (h2 x hx).2; simp; omega⟩⟩
  · simp at hg
    subst hg
    exact ⟨hf, fun x hx => by rw [hm] at hx; simp at hx⟩
/-- What the searches answer over the graphs with one more behind. -/
theorem more_list {gs : List Graph} {m : Graph} (hok : GsOk gs) (hm : ofList m.blocks = []) {s : Nat} (hs : s < gs.length) {ys zs : List Bool} (hy : IsReach gs s ys) (hz : IsReach (gs ++ [m]) s zs) : zs = ys ++ [false] := by
  apply List.ext_getElem?
  intro x
  have h1 := hy.2 x
  have h2 := (hz.2 x).trans (reaches_more hm)
  have hl1 := hy.1
  have hl2 : zs.length = gs.length + 1 := by rw [hz.1]; simp
  unfold On at h1 h2
  by_cases hx : x < gs.length
  · rw [List.getElem?_append_left (by omega)]
    obtain ⟨b, hb⟩ := get_some ys x (by omega)
    obtain ⟨b', hb'⟩ := get_some zs x (by omega)
    rw [hb] at h1 ⊢
    rw [hb'] at h2 ⊢
    have := h2.trans h1.symm
    cases b <;> cases b' <;> simp_all
  · by_cases hx2 : x = gs.length
    · subst hx2
      rw [List.getElem?_append_right (by omega), hl1]
      simp
      obtain ⟨b', hb'⟩ := get_some zs gs.length (by omega)
      rw [hb'] at h2 ⊢
      cases b' with
      | false => rfl
      | true => have := reaches_lt hok hs (h2.1 rfl); omega
    · rw [List.getElem?_eq_none (by omega), List.getElem?_eq_none (by simp; omega)]
theorem more_end {gs : List Graph} {m : Graph} (hok : GsOk gs) (hm : ofList m.blocks = []) {us : List Bool} (hu : IsReach (gs ++ [m]) gs.length us) : us = List.replicate gs.length false ++ [true] := by
  apply List.ext_getElem?
  intro x
  have h2 := (hu.2 x).trans (reaches_more hm)
  have hl2 : us.length = gs.length + 1 := by rw [hu.1]; simp
  unfold On at h2
  by_cases hx : x < gs.length
  · rw [List.getElem?_append_left (by simpa using hx), List.getElem?_replicate, if_pos hx]
    obtain ⟨b', hb'⟩ := get_some us x (by omega)
    rw [hb'] at h2 ⊢
    cases b' with
    | false => rfl
    | true => have := reaches_end hok (h2.1 rfl); omega
  · by_cases hx2 : x = gs.length
    · subst hx2
      rw [List.getElem?_append_right (by simp)]
      simp
      exact h2.2 .refl
    · rw [List.getElem?_eq_none (by omega), List.getElem?_eq_none (by simp; omega)]
end Go.Proofs.Ytklhhdhokobbmaa
