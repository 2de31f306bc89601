/- What reads as data at the type of what is known is that: arrays. -/
import Derived.Test.YtokkngfgppikkaaKc
import Derived.Test.YtokkngfgppikkaaOb
namespace Go.Proofs.Ytokkngfgppikkaa
set_option linter.unusedVariables false
set_option linter.unusedSimpArgs false
open Go.RowKit

/-- An array whose elements are single cells of one make reads as a row of such cells. -/
theorem trod_row {α H : Type} {P : Program} {enc : TypeId × Value → H} {W : World} {base : Nat} {spare : Nat → Bool} {held : Bool} {fuel n : Nat} {t e : TypeId} {cs : List Value} {d : DataW H} {ps : List MemPlace} (f : α → Value) (p : α → Prop) (hu : P.underlying t = some (.array n e)) (hc : P.cellsOf t = n) (he : P.cellsOf e = 1)
    (h1 : ∀ (fuel : Nat) (v : Value) (d : DataW H) (ps : List MemPlace), DataW.trod enc P W base spare held fuel e [v] = some (d, ps) → ∃ x, v = f x ∧ p x) (h : DataW.trod enc P W base spare held fuel t cs = some (d, ps)) : ∃ xs : List α, cs = xs.map f ∧ xs.length = n ∧ ∀ x ∈ xs, p x := by
  obtain ⟨ys, m, -, -, hl, hyl, hi⟩ := DataW.trod_array hu h
  rw [hc] at hl
  obtain ⟨xs, hxl, hxs⟩ := list_of (p := fun i x => cs[i]? = some (f x) ∧ p x) n (fun i hlt => by
    have := hi i hlt
    rw [he, Nat.mul_one, List.getElem?_eq_getElem (by omega)] at this
    have hci : i < cs.length := by omega
    have e0 : (cs.drop i).take 1 = [cs[i]] := by rw [List.drop_eq_getElem_cons hci]; rfl
    rw [e0] at this
    obtain ⟨x, e1, e2⟩ := h1 m cs[i] (ys[i]'(by omega)).1 (ys[i]'(by omega)).2 this
    exact ⟨x, by rw [List.getElem?_eq_getElem hci, e1], e2⟩)
  refine ⟨xs, ?_, hxl, fun x hx => ?_⟩
  · apply List.ext_getElem?
    intro i
    rw [List.getElem?_map]
    by_cases hlt : i < n
    · obtain ⟨x, hx⟩ := get_some xs i (by omega)
      rw [hx, (hxs i x hx).1]
      rfl
    · rw [List.getElem?_eq_none (by omega), List.getElem?_eq_none (by omega)]
      rfl
  · obtain ⟨i, hi⟩ := List.mem_iff_getElem?.1 hx
    exact (hxs i x hi).2
/-- A row of single cells of one make, as a kind. -/
def kRow {α : Type} (f : α → Value) (p : α → Prop) (n : Nat) (hf : ∀ x, (f x).oneCell' = true) : Kd (List α) where
  size := n
  K := fun _ xs cs => cs = xs.map f ∧ xs.length = n ∧ ∀ x ∈ xs, p x
  len := by rintro w x cs ⟨rfl, h, _⟩; simpa using h
  one := by rintro w x cs ⟨rfl, _⟩ u hu; obtain ⟨y, _, rfl⟩ := List.mem_map.1 hu; exact hf y
  sub := fun _ h => h
theorem opens_row {α : Type} {P : Program} {t e : TypeId} {n : Nat} (f : α → Value) (p : α → Prop) (hf : ∀ x, (f x).oneCell' = true) (hu : P.underlying t = some (.array n e)) (hc : P.cellsOf t = n) (he : P.cellsOf e = 1)
    (h1 : ∀ (H : Type) (enc : TypeId × Value → H) (W : World) (base : Nat) (spare : Nat → Bool) (held : Bool) (fuel : Nat) (v : Value) (d : DataW H) (ps : List MemPlace), DataW.trod enc P W base spare held fuel e [v] = some (d, ps) → ∃ x, v = f x ∧ p x) : Opens P t (kRow f p n hf) := by
  intro H enc W base spare held fuel cs d ps h
  obtain ⟨xs, e1, e2, e3⟩ := trod_row f p hu hc he (h1 H enc W base spare held) h
  exact ⟨xs, e1, e2, e3⟩
theorem one_bool (H : Type) (enc : TypeId × Value → H) (W : World) (base : Nat) (spare : Nat → Bool) (held : Bool) (fuel : Nat) (v : Value) (d : DataW H) (ps : List MemPlace) (h : DataW.trod enc Try.prog W base spare held fuel 4 [v] = some (d, ps)) : ∃ x : Bool, v = Value.bool x ∧ True := by
  obtain ⟨x, hx⟩ := opens_bool Try.underlying4 H enc W base spare held fuel [v] d ps h
  injection hx with hx
  exact ⟨x, hx, trivial⟩
theorem one_word (H : Type) (enc : TypeId × Value → H) (W : World) (base : Nat) (spare : Nat → Bool) (held : Bool) (fuel : Nat) (v : Value) (d : DataW H) (ps : List MemPlace) (h : DataW.trod enc Try.prog W base spare held fuel 23 [v] = some (d, ps)) : ∃ x : Nat, v = Value.int .u32 (x : Int) ∧ x < 4294967296 := by
  obtain ⟨x, hx, hwf⟩ := opens_int Try.underlying23 H enc W base spare held fuel [v] d ps h
  injection hx with hx
  simp [Lit.wf] at hwf
  have h1 : IntKind.u32.min = 0 := by decide
  have h2 : IntKind.u32.max = 4294967295 := by decide
  obtain ⟨n, rfl⟩ := Int.eq_ofNat_of_zero_le (show 0 ≤ x by omega)
  exact ⟨n, hx, by omega⟩
theorem opens_Known : Opens Try.prog 26 kKnown := by
  intro H enc W base spare held fuel cs d ps h
  have rw1 := opens_row (P := Try.prog) (fun b : Bool => Value.bool b) (fun _ => True) (fun _ => rfl) Try.underlying22 (by kernel_rfl) (by kernel_rfl) one_bool
  have rw2 := opens_row (P := Try.prog) (fun x : Nat => Value.int .u32 (x : Int)) (fun x => x < 4294967296) (fun _ => rfl) Try.underlying24 (by kernel_rfl) (by kernel_rfl) one_word
  have hs := opens_struct (P := Try.prog) Try.underlying26 (by kernel_rfl) (opensL_cons rfl (by kernel_rfl) (opens_bool Try.underlying4) (opensL_cons rfl (by kernel_rfl) rw1 (opensL_one rfl (by kernel_rfl) rw2)))
  obtain ⟨⟨r, is, ws⟩, hK⟩ := hs H enc W base spare held fuel cs d ps h
  obtain ⟨us, bs, rfl, rfl, ts, ds, rfl, ⟨rfl, hl, _⟩, ⟨rfl, hl2, hp⟩⟩ := hK
  exact ⟨⟨r, is, ws⟩, rfl, hl, hl2, hp⟩
/-- A guarded load of what is known. -/
theorem wpList_loadg_known {ops : Array Oper} {rest : List Oper} {o : Oper} {a : Act} {w : World} {Q : Exit → Act → World → Prop} (x : Operand) (k : Known) (g : Nat) (hw : k.wf) (hR : Row w g 26 (knownCells k)) (hgd : Region.wanted o (yielded ops a.tmps) = true) (ho : o.op = .load 26 x) (hx : a.eval x = .pointer (some ⟨g, 0, none⟩))
    (h : wpList Try.prog ops Q rest (a.put o.dst (.agg (knownCells k).toArray)) w) : wpList Try.prog ops Q (o :: rest) a w :=
  wpList_step fun K hK => by
    rw [if_pos hgd]
    exact wp_load_row _ x ho g hx 26 _ (0, 0) _ hR Try.underlying26 rfl (infoKnown' hw) (hK _ _ h)
end Go.Proofs.Ytokkngfgppikkaa
