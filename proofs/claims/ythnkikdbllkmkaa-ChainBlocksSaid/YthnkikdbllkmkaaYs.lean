/- Plain: an order of blocks has each block once, the first one first. -/
import Derived.Test.YthnkikdbllkmkaaYo
namespace Go.Proofs.Ythnkikdbllkmkaa
set_option linter.unusedVariables false
set_option linter.unusedSimpArgs false
open Go.RowKit

theorem putE_ne {l : List Edge} {nm : ByteArray} {i t : Int} : ∀ e ∈ putE l nm i t, e.dst ≠ 0 ∧ e.dst ≠ e.src := by
  intro e he
  unfold putE at he
  split at he
  · rename_i h
    rw [List.mem_singleton] at he
    subst he
    exact h
  · cases he
theorem atE_ne {l : List Edge} {nm : ByteArray} {i : Nat} {b : Block} : ∀ e ∈ atE l nm i b, e.dst ≠ 0 ∧ e.dst ≠ e.src := by
  intro e he
  unfold atE at he
  split at he
  · rcases List.mem_append.1 he with he | he
    · exact putE_ne e he
    · exact putE_ne e he
  · split at he
    · exact putE_ne e he
    · cases he
theorem rawTo_ne {l : List Edge} {nm : ByteArray} {bs : List Block} : ∀ k, ∀ e ∈ rawTo l nm bs k, e.dst ≠ 0 ∧ e.dst ≠ e.src
  | 0, e, h => by cases h
  | k + 1, e, h => by
    rcases List.mem_append.1 (show e ∈ rawTo l nm bs k ++ _ from h) with h | h
    · exact rawTo_ne k e h
    · split at h
      · exact atE_ne e h
      · cases h
theorem edgesD_ne {l : List Edge} {nm : ByteArray} {bs : List Block} : ∀ e ∈ edgesD l nm bs, e.dst ≠ 0 ∧ e.dst ≠ e.src := fun e he => rawTo_ne bs.length e ((sortE_perm _).mem_iff.1 (ddN_mem he))

/-- The first chain begins with the first block. -/
def Zero0 (s : ChS) : Prop := ∃ r, s.ch[0]? = some (0 :: r)
theorem stepC_zero {n : Nat} {s : ChS} (h : InvC n s) (hz : Zero0 s) {f t : Nat} (hf : f < n) (ht : t < n) (ht0 : t ≠ 0) : Zero0 (stepC s f t) := by
  obtain ⟨a, x, ha, hx, hfx, han, -, -, hxn⟩ := h.of hf
  obtain ⟨b, y, hb, hy, hty, hbn, -, -, hyn⟩ := h.of ht
  obtain ⟨r, hr⟩ := hz
  unfold stepC
  split
  · rename_i hj
    rw [joins_iff ha hb hx hy] at hj
    obtain ⟨hab, hlast, hhead⟩ := hj
    rw [getD_of ha, getD_of hb, getD_of hx, getD_of hy]
    have hb0 : b ≠ 0 := fun e => by
      subst e
      rw [hr] at hy
      injection hy with hy
      subst hy
      injection hhead with e
      exact ht0 e.symm
    by_cases ha0 : a = 0
    · subst ha0
      rw [hr] at hx
      injection hx with hx
      subst hx
      refine ⟨r ++ y, ?_⟩
      show ((s.ch.set 0 ((0 :: r) ++ y)).set b [])[0]? = _
      rw [List.getElem?_set, if_neg hb0, List.getElem?_set, if_pos rfl, if_pos (by rw [h.len]; omega)]
      rfl
    · refine ⟨r, ?_⟩
      show ((s.ch.set a (x ++ y)).set b [])[0]? = _
      rw [List.getElem?_set, if_neg hb0, List.getElem?_set, if_neg ha0]
      exact hr
  · exact ⟨r, hr⟩
theorem foldE_zero {n : Nat} : ∀ (E : List Edg) (s : ChS), InvC n s → Zero0 s → (∀ e ∈ E, EdgIn n e ∧ e.dst ≠ 0) → Zero0 (E.foldl stepE s)
  | [], _, _, h, _ => h
  | e :: r, s, hi, h, hE => by
    obtain ⟨he, h0⟩ := hE e (List.mem_cons_self ..)
    have hi' := stepE_inv hi he
    refine foldE_zero r _ hi' ?_ (fun x hx => hE x (List.mem_cons_of_mem _ hx))
    obtain ⟨f, t, h1, h2, h3, h4⟩ := he
    unfold stepE
    rw [h1, h2]
    exact stepC_zero hi h h3 h4 (fun e0 => h0 (h2.trans (congrArg Int.ofNat e0)))
theorem runE_zero {n : Nat} {E : List Edg} (hn : 0 < n) (hE : ∀ e ∈ E, EdgIn n e ∧ e.dst ≠ 0) : Zero0 (runE n E) :=
  foldE_zero E _ (chStart_inv n) ⟨[], by rw [chStart_get, if_pos hn]⟩ hE
theorem InvC.flat_nodup {n : Nat} {s : ChS} (h : InvC n s) : s.ch.flatten.Nodup := by
  unfold List.Nodup
  rw [List.pairwise_flatten]
  refine ⟨fun c hc => ?_, ?_⟩
  · obtain ⟨a, ha⟩ := List.mem_iff_getElem?.1 hc
    exact h.nodup a c ha
  · rw [List.pairwise_iff_getElem]
    intro a b ha hb hab x hx y hy e
    subst e
    have e1 := (h.mem x a).2 ⟨_, List.getElem?_eq_getElem ha, hx⟩
    have e2 := (h.mem x b).2 ⟨_, List.getElem?_eq_getElem hb, hy⟩
    rw [e1] at e2
    injection e2 with e2
    omega
theorem InvC.flat_mem {n : Nat} {s : ChS} (h : InvC n s) {i : Nat} : i ∈ s.ch.flatten ↔ i < n := by
  rw [List.mem_flatten]
  constructor
  · rintro ⟨c, hc, hi⟩
    obtain ⟨a, ha⟩ := List.mem_iff_getElem?.1 hc
    have := (List.getElem?_eq_some_iff.1 ((h.mem i a).2 ⟨c, ha, hi⟩)).1
    rw [h.len2] at this
    exact this
  · intro hi
    obtain ⟨a, c, -, hc, hic, -⟩ := h.of hi
    exact ⟨c, List.mem_of_getElem? hc, hic⟩
theorem InvC.flat_len {n : Nat} {s : ChS} (h : InvC n s) : s.ch.flatten.length = n := by rw [List.length_flatten, h.tot]
theorem zero_flat {s : ChS} (h : Zero0 s) : s.ch.flatten[0]? = some 0 := by
  obtain ⟨r, hr⟩ := h
  cases hc : s.ch with
  | nil => rw [hc] at hr; cases hr
  | cons c rest =>
    rw [hc] at hr
    injection hr with hr
    subst hr
    rfl
end Go.Proofs.Ythnkikdbllkmkaa
