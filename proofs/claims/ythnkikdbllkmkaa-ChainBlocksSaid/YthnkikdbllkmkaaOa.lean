/- How arguments that the row reads as data tell kinds: one law a shape. -/
import Derived.Test.YthnkikdbllkmkaaGa
import Derived.OpenShut
import Derived.ChangeOld
import Derived.ProofKit
namespace Go.Proofs.Ythnkikdbllkmkaa
set_option linter.unusedVariables false
set_option linter.unusedSimpArgs false
open Go.RowKit

/-- Whatever reads as data at type t is a value of kind k. -/
def Opens {α : Type} (P : Program) (t : TypeId) (k : Kd α) : Prop :=
  ∀ (H : Type) (enc : TypeId × Value → H) (W : World) (base : Nat) (spare : Nat → Bool) (held : Bool) (fuel : Nat) (cs : List Value) (d : DataW H) (ps : List MemPlace), DataW.trod enc P W base spare held fuel t cs = some (d, ps) → ∃ x, k.K W x cs

theorem opens_int {P : Program} {t : TypeId} {q : IntKind} (hu : P.underlying t = some (.int q)) : Opens P t (Kd.int q) := by
  intro H enc W base spare held fuel cs d ps h
  cases fuel with
  | zero => simp [DataW.trod] at h
  | succ n =>
    simp only [DataW.trod, hu] at h
    split at h <;> simp_all
    obtain ⟨⟨rfl, hw⟩, _⟩ := h
    exact ⟨_, rfl, hw⟩
theorem opens_float {P : Program} {t : TypeId} {q : FloatKind} (hu : P.underlying t = some (.float q)) : Opens P t (Kd.float q) := by
  intro H enc W base spare held fuel cs d ps h
  cases fuel with
  | zero => simp [DataW.trod] at h
  | succ n =>
    simp only [DataW.trod, hu] at h
    split at h <;> simp_all
    obtain ⟨⟨rfl, hw⟩, _⟩ := h
    exact ⟨_, rfl, hw⟩
theorem opens_bool {P : Program} {t : TypeId} (hu : P.underlying t = some .bool) : Opens P t Kd.bool := by
  intro H enc W base spare held fuel cs d ps h
  cases fuel with
  | zero => simp [DataW.trod] at h
  | succ n =>
    simp only [DataW.trod, hu] at h
    split at h <;> simp_all
    rename_i b
    cases b
    · exact .inl rfl
    · exact .inr rfl
theorem opens_string {P : Program} {t : TypeId} (hu : P.underlying t = some .string) : Opens P t Kd.string := by
  intro H enc W base spare held fuel cs d ps h
  cases fuel with
  | zero => simp [DataW.trod] at h
  | succ n =>
    simp only [DataW.trod, hu] at h
    split at h <;> simp_all
    exact ⟨_, rfl, h.1⟩

theorem opens_iso {α β : Type} {P : Program} {t : TypeId} {k : Kd α} {f : β → α} (g : α → β) (hg : ∀ y, f (g y) = y) (h : Opens P t k) : Opens P t (Kd.iso k f) := by
  intro H enc W base spare held fuel cs d ps hd
  obtain ⟨y, hy⟩ := h H enc W base spare held fuel cs d ps hd
  exact ⟨g y, by show k.K W (f (g y)) cs; rw [hg]; exact hy⟩

/-- A struct's fields, one behind the other. -/
def OpensL {α : Type} (P : Program) (L : List Field) (start : Nat) (k : Kd α) : Prop :=
  ∀ (H : Type) (enc : TypeId × Value → H) (W : World) (base : Nat) (spare : Nat → Bool) (held : Bool) (fuel : Nat) (cs : List Value) (xs : List (DataW H × List MemPlace)), cs.length = start + k.size → L.mapM (fun f => DataW.trod enc P W base spare held fuel f.type ((cs.drop f.offset).take (P.cellsOf f.type))) = some xs → ∃ x, k.K W x (cs.drop start)

theorem opensL_one {α : Type} {P : Program} {f : Field} {start : Nat} {k : Kd α} (ho : f.offset = start) (hc : P.cellsOf f.type = k.size) (h : Opens P f.type k) : OpensL P [f] start k := by
  intro H enc W base spare held fuel cs xs hl hm
  simp only [List.mapM_cons, List.mapM_nil] at hm
  cases he : DataW.trod enc P W base spare held fuel f.type ((cs.drop f.offset).take (P.cellsOf f.type)) with
  | none => rw [he] at hm; simp at hm
  | some y =>
    obtain ⟨x, hx⟩ := h H enc W base spare held fuel _ y.1 y.2 he
    rw [ho, hc, List.take_of_length_le (by simp; omega)] at hx
    exact ⟨x, hx⟩
theorem opensL_cons {α β : Type} {P : Program} {f : Field} {L : List Field} {start : Nat} {a : Kd α} {b : Kd β} (ho : f.offset = start) (hc : P.cellsOf f.type = a.size) (h : Opens P f.type a) (hr : OpensL P L (start + a.size) b) : OpensL P (f :: L) start (Kd.pair a b) := by
  intro H enc W base spare held fuel cs xs hl hm
  have hl' : cs.length = start + (a.size + b.size) := hl
  simp only [List.mapM_cons] at hm
  cases he : DataW.trod enc P W base spare held fuel f.type ((cs.drop f.offset).take (P.cellsOf f.type)) with
  | none => rw [he] at hm; simp at hm
  | some y =>
    cases hs : L.mapM (fun f => DataW.trod enc P W base spare held fuel f.type ((cs.drop f.offset).take (P.cellsOf f.type))) with
    | none => rw [he] at hm; simp [hs] at hm
    | some ys =>
      obtain ⟨x, hx⟩ := h H enc W base spare held fuel _ y.1 y.2 he
      obtain ⟨z, hz⟩ := hr H enc W base spare held fuel cs ys (by omega) hs
      rw [ho, hc] at hx
      refine ⟨(x, z), _, _, ?_, hx, hz⟩
      rw [← List.drop_drop, List.take_append_drop]
theorem opens_struct {α : Type} {P : Program} {t : TypeId} {fs : Array Field} {k : Kd α} (hu : P.underlying t = some (.struct fs)) (hc : P.cellsOf t = k.size) (h : OpensL P fs.toList 0 k) : Opens P t k := by
  intro H enc W base spare held fuel cs d ps hd
  cases fuel with
  | zero => simp [DataW.trod] at hd
  | succ n =>
    simp only [DataW.trod, hu] at hd
    split at hd <;> simp_all
    obtain ⟨xs, hm, _⟩ := hd
    obtain ⟨x, hx⟩ := h H enc W base spare held n _ xs (by omega) hm
    exact ⟨x, by simpa using hx⟩

theorem okWide_agg {P : Program} {W : World} {r : Reach} {base : Nat} {t : TypeId} {fs : Array Field} {v : Value} (hu : P.underlying t = some (.struct fs)) (h : Value.okWide P W r base t v) : ∃ cs, v = .agg cs ∧ cs.size = P.cellsOf t := by
  simp only [Value.okWide, hu] at h
  obtain ⟨cs, h1, h2, _⟩ := h
  exact ⟨cs, h1, h2⟩
theorem cells_eq {cs : Array Value} {l : List Value} (h : (Value.agg cs).cells.toList = l) : cs = l.toArray := by
  simp only [Value.cells] at h
  rw [← h, Array.toArray_toList]

theorem mapM_range {α : Type} {f : Nat → Option α} {n : Nat} {xs : List α} (h : (List.range n).mapM f = some xs) : xs.length = n ∧ ∀ i, i < n → f i = xs[i]? := by
  induction n generalizing xs with
  | zero => simp at h; subst h; simp
  | succ n ih =>
    rw [List.range_succ, List.mapM_append] at h
    cases hm : (List.range n).mapM f with
    | none => rw [hm] at h; simp at h
    | some ys =>
      obtain ⟨h1, h2⟩ := ih hm
      rw [hm] at h
      cases hf : f n with
      | none => simp [hf] at h
      | some y =>
        simp [hf] at h
        subst h
        refine ⟨by simp [h1], fun i hi => ?_⟩
        by_cases hin : i < n
        · rw [List.getElem?_append_left (by omega), h2 i hin]
        · have : i = n := by omega
          subst this
          rw [List.getElem?_append_right (by omega), h1, hf]
          simp

theorem list_of {α : Type} {p : Nat → α → Prop} (n : Nat) (h : ∀ i, i < n → ∃ x, p i x) : ∃ xs : List α, xs.length = n ∧ ∀ i x, xs[i]? = some x → p i x := by
  induction n with
  | zero => exact ⟨[], rfl, fun i x hx => by simp at hx⟩
  | succ n ih =>
    obtain ⟨xs, hl, hp⟩ := ih fun i hi => h i (by omega)
    obtain ⟨x, hx⟩ := h n (by omega)
    refine ⟨xs ++ [x], by simp [hl], fun i y hy => ?_⟩
    by_cases hi : i < n
    · rw [List.getElem?_append_left (by omega)] at hy
      exact hp i y hy
    · by_cases hin : i = n
      · subst hin
        rw [List.getElem?_append_right (by omega), hl] at hy
        simp at hy
        subst hy
        exact hx
      · rw [List.getElem?_eq_none (by simp; omega)] at hy
        simp at hy

theorem add_add (ad : Addr) (n j : Nat) : (ad.add n).add j = ad.add (n + j) := by
  by_cases hj : j = 0
  · subst hj; simp [Addr.add]
  · unfold Addr.add
    by_cases hn : n = 0
    · subst hn; simp
    · rw [if_neg hn, if_neg hj, if_neg (by omega)]
      simp
      omega

theorem opens_slice {α : Type} {P : Program} {t e : TypeId} {k : Kd α} (hu : P.underlying t = some (.slice e)) (hc : P.cellsOf e = k.size) (h : Opens P e k) : Opens P t (Kd.slice k) := by
  intro H enc W base spare held fuel cs d ps hd
  cases fuel with
  | zero => simp [DataW.trod] at hd
  | succ n =>
    simp only [DataW.trod, hu] at hd
    split at hd
    case h_7 =>
      exact ⟨[], none, 0, rfl, Nat.le_refl _, Nat.zero_le _, fun i x hx => by simp at hx⟩
    case h_8 =>
      rename_i e' a len cap heq
      obtain rfl : e = e' := by simpa using heq
      split at hd
      · rename_i hcond
        cases hm : (List.range len).mapM (fun i => (W.cells? base (a.add (i * P.cellsOf e)) (P.cellsOf e)).bind (DataW.trod enc P W base spare held n e)) with
        | none => rw [hm] at hd; simp at hd
        | some elems =>
          obtain ⟨hl, hi⟩ := mapM_range hm
          have hel : ∀ i, i < len → ∃ x, ∃ cs, k.K W x cs ∧ ∀ j v, cs[j]? = some v → W.cell? (a.add (i * k.size + j)) = some v := by
            intro i hlt
            have h1 := hi i hlt
            rw [List.getElem?_eq_getElem (by omega)] at h1
            cases hc1 : W.cells? base (a.add (i * P.cellsOf e)) (P.cellsOf e) with
            | none => rw [hc1] at h1; simp at h1
            | some cs =>
              rw [hc1] at h1
              obtain ⟨x, hx⟩ := h H enc W base spare held n cs _ _ h1
              refine ⟨x, cs, hx, fun j v hv => ?_⟩
              unfold World.cells? at hc1
              split at hc1
              · obtain ⟨hl2, hi2⟩ := mapM_range hc1
                have hj : j < cs.length := (List.getElem?_eq_some_iff.1 hv).1
                have := hi2 j (by omega)
                rw [hv, add_add, hc] at this
                exact this
              · simp at hc1
          obtain ⟨xs, hxl, hxs⟩ := list_of len hel
          refine ⟨xs, some a, cap, by rw [hxl], by omega, hcond.2.2, fun i x hx => ?_⟩
          obtain ⟨cs, h1, h2⟩ := hxs i x hx
          exact ⟨a, cs, rfl, h1, h2⟩
      · simp at hd
    all_goals simp_all
end Go.Proofs.Ythnkikdbllkmkaa
