/- How values of Go's types lie in memory: kinds, their reading, and what a change elsewhere leaves of it. -/
import Derived.WalkKit
import Derived.Lib.Hide
import Derived.Deep.QuietTactic
import Derived.BigQuiet
namespace Go.Proofs.Ytobhjjbhlnbcpaa
set_option linter.unusedVariables false
set_option linter.unusedSimpArgs false
open Go.RowKit

theorem World.lt_of_cell {w : World} {a : Addr} {v : Value} (h : w.cell? a = some v) : a.block < w.heap.size := by
  unfold World.cell? at h
  by_cases hlt : a.block < w.heap.size
  · exact hlt
  · rw [Array.getElem?_eq_none (by omega)] at h
    simp at h

/-- All that reads in w reads so in w'. -/
def Sub (w w' : World) : Prop := ∀ a v, w.cell? a = some v → w'.cell? a = some v
theorem Sub.of_below {w w' : World} (hb : Below w.heap.size w w') : Sub w w' := fun a v h => (hb.cell (World.lt_of_cell h)).trans h
/-- A kind of value: how many cells it takes, and when a row of cells tells it. -/
structure Kd (α : Type) where
  size : Nat
  K : World → α → List Value → Prop
  len : ∀ {w : World} {x : α} {cs : List Value}, K w x cs → cs.length = size
  one : ∀ {w : World} {x : α} {cs : List Value}, K w x cs → ∀ u ∈ cs, u.oneCell' = true
  sub : ∀ {w w' : World} {x : α} {cs : List Value}, Sub w w' → K w x cs → K w' x cs
theorem Kd.mono {α : Type} (k : Kd α) {w w' : World} {x : α} {cs : List Value} (hb : Below w.heap.size w w') (h : k.K w x cs) : k.K w' x cs := k.sub (Sub.of_below hb) h

/-- A row of values at an address. -/
def Kd.C {α : Type} (k : Kd α) (w : World) (A : Option Addr) (xs : List α) : Prop :=
  ∀ i x, xs[i]? = some x → ∃ ad cs, A = some ad ∧ k.K w x cs ∧ ∀ j v, cs[j]? = some v → w.cell? (ad.add (i * k.size + j)) = some v

theorem Kd.C_sub {α : Type} {k : Kd α} {w w' : World} {A : Option Addr} {xs : List α} (hb : Sub w w') (h : k.C w A xs) : k.C w' A xs := by
  intro i x hx
  obtain ⟨ad, cs, e, hk, hc⟩ := h i x hx
  exact ⟨ad, cs, e, k.sub hb hk, fun j v hv => hb _ _ (hc j v hv)⟩
theorem Kd.C_mono {α : Type} {k : Kd α} {w w' : World} {A : Option Addr} {xs : List α} (hb : Below w.heap.size w w') (h : k.C w A xs) : k.C w' A xs := Kd.C_sub (Sub.of_below hb) h

def Kd.int (q : IntKind) : Kd Int where
  size := 1
  K := fun _ x cs => cs = [.int q x] ∧ (Lit.int q x).wf = true
  len := by rintro w x cs ⟨rfl, _⟩; rfl
  one := by rintro w x cs ⟨rfl, _⟩ u hu; rw [List.mem_singleton] at hu; subst hu; rfl
  sub := fun _ h => h

def Kd.bool : Kd Bool where
  size := 1
  K := fun _ x cs => cs = [.bool x]
  len := by rintro w x cs rfl; rfl
  one := by rintro w x cs rfl u hu; rw [List.mem_singleton] at hu; subst hu; rfl
  sub := fun _ h => h

def Kd.string : Kd ByteArray where
  size := 1
  K := fun _ x cs => cs = [.string x] ∧ x.size ≤ maxLen
  len := by rintro w x cs ⟨rfl, _⟩; rfl
  one := by rintro w x cs ⟨rfl, _⟩ u hu; rw [List.mem_singleton] at hu; subst hu; rfl
  sub := fun _ h => h

def Kd.float (q : FloatKind) : Kd Nat where
  size := 1
  K := fun _ x cs => cs = [.float q x] ∧ (Lit.float q x).wf = true
  len := by rintro w x cs ⟨rfl, _⟩; rfl
  one := by rintro w x cs ⟨rfl, _⟩ u hu; rw [List.mem_singleton] at hu; subst hu; rfl
  sub := fun _ h => h

def Kd.pair {α β : Type} (a : Kd α) (b : Kd β) : Kd (α × β) where
  size := a.size + b.size
  K := fun w x cs => ∃ as bs, cs = as ++ bs ∧ a.K w x.1 as ∧ b.K w x.2 bs
  len := by rintro w x cs ⟨as, bs, rfl, ha, hb⟩; rw [List.length_append, a.len ha, b.len hb]
  one := by rintro w x cs ⟨as, bs, rfl, ha, hb⟩ u hu; rw [List.mem_append] at hu; exact hu.elim (a.one ha u) (b.one hb u)
  sub := by rintro w w' x cs hw ⟨as, bs, e, ha, hb⟩; exact ⟨as, bs, e, a.sub hw ha, b.sub hw hb⟩

def Kd.iso {α β : Type} (k : Kd α) (f : β → α) : Kd β where
  size := k.size
  K := fun w x cs => k.K w (f x) cs
  len := fun h => k.len h
  one := fun h => k.one h
  sub := fun hw h => k.sub hw h

def Kd.slice {α : Type} (k : Kd α) : Kd (List α) where
  size := 1
  K := fun w xs cs => ∃ A c, cs = [.slice A xs.length c] ∧ xs.length ≤ c ∧ c ≤ maxLen ∧ k.C w A xs
  len := by rintro w x cs ⟨_, _, rfl, _⟩; rfl
  one := by rintro w x cs ⟨_, _, rfl, _⟩ u hu; rw [List.mem_singleton] at hu; subst hu; rfl
  sub := by rintro w w' x cs hw ⟨A, c, e, h1, h2, h3⟩; exact ⟨A, c, e, h1, h2, Kd.C_sub hw h3⟩

/-- An array of n values. -/
def Kd.arr {α : Type} (k : Kd α) (n : Nat) : Kd (List α) where
  size := n * k.size
  K := fun w xs cs => xs.length = n ∧ ∃ css : List (List Value), css.length = n ∧ cs = css.flatten ∧ ∀ i x c, xs[i]? = some x → css[i]? = some c → k.K w x c
  len := by
    rintro w xs cs ⟨hx, css, hl, rfl, h⟩
    have : ∀ c ∈ css, c.length = k.size := by
      intro c hc
      obtain ⟨i, hi, rfl⟩ := List.mem_iff_getElem.1 hc
      exact k.len (h i (xs[i]'(by omega)) css[i] (List.getElem?_eq_getElem _) (List.getElem?_eq_getElem _))
    clear h hx
    induction css generalizing n with
    | nil => simp at hl; simp [← hl]
    | cons a r ih =>
      rw [List.flatten_cons, List.length_append, this a (by simp), ih (n := r.length) rfl (fun c hc => this c (by simp [hc]))]
      rw [← hl, List.length_cons, Nat.succ_mul, Nat.add_comm]
  one := by
    rintro w xs cs ⟨hx, css, hl, rfl, h⟩ u hu
    rw [List.mem_flatten] at hu
    obtain ⟨c, hc, hu⟩ := hu
    obtain ⟨i, hi, rfl⟩ := List.mem_iff_getElem.1 hc
    exact k.one (h i (xs[i]'(by omega)) css[i] (List.getElem?_eq_getElem _) (List.getElem?_eq_getElem _)) u hu
  sub := by
    rintro w w' xs cs hw ⟨hx, css, hl, e, h⟩
    exact ⟨hx, css, hl, e, fun i x c h1 h2 => k.sub hw (h i x c h1 h2)⟩

theorem get_some {α : Type} (xs : List α) (i : Nat) (h : i < xs.length) : ∃ x, xs[i]? = some x := ⟨xs[i], by simp [h]⟩

theorem take_snoc {α : Type} {xs : List α} {i : Nat} {x : α} (h : xs[i]? = some x) : xs.take (i + 1) = xs.take i ++ [x] := by
  rw [List.take_add_one, h]; rfl

theorem forall_snoc {α : Type} {p : α → Prop} {xs : List α} {i : Nat} {x : α} (h : ∀ y ∈ xs.take i, p y) (e : xs.take (i + 1) = xs.take i ++ [x]) (hx : p x) : ∀ y ∈ xs.take (i + 1), p y := by
  rw [e]
  intro y hy
  rw [List.mem_append] at hy
  rcases hy with hy | hy
  · exact h y hy
  · rw [List.mem_singleton] at hy
    rw [hy]
    exact hx

theorem len_le {n c : Nat} (h : n ≤ c) (hc : c ≤ maxLen) : n ≤ 9223372036854775807 := by unfold maxLen at hc; omega

theorem add_field (ad : Addr) (n j : Nat) (hj : 0 < j) : (⟨(ad.add n).block, (ad.add n).off + j, none⟩ : Addr) = ad.add (n + j) := by
  unfold Addr.add
  by_cases h : n = 0
  · subst h; simp; omega
  · rw [if_neg h, if_neg (by omega)]; simp; omega

theorem bcell {W w1 : World} (hb : Below W.heap.size W w1) : (∀ b o, b < W.heap.size → w1.cell? ⟨b, o, none⟩ = W.cell? ⟨b, o, none⟩) ∧ (∀ b o, b < W.heap.size → w1.frozen? ⟨b, o, none⟩ = W.frozen? ⟨b, o, none⟩) :=
  ⟨fun b o h => hb.cell (p := ⟨b, o, none⟩) h, fun b o h => hb.frozen (p := ⟨b, o, none⟩) h⟩

theorem ret_bool {a b : Bool} (h : a = b) : Ending.returned (.bool a) = .returned (.bool b) := by rw [h]
theorem ret_int {k : IntKind} {a b : Int} (h : a = b) : Ending.returned (.int k a) = .returned (.int k b) := by rw [h]
end Go.Proofs.Ytobhjjbhlnbcpaa
