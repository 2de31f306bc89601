/- Values that own their memory: which blocks they lie in, how they read, how they turn. -/
import Derived.Test.YtobhjjbhlnbcpaaLn
namespace Go.Proofs.Ytobhjjbhlnbcpaa
set_option linter.unusedVariables false
set_option linter.unusedSimpArgs false
open Go.RowKit

/-- A kind of value that owns memory: when a row of cells tells it, and in which blocks lies what it owns. -/
structure Od (α : Type) where
  kd : Kd α
  O : World → α → List Value → (Nat → Prop) → Prop
  rd : ∀ {w : World} {x : α} {cs : List Value} {F : Nat → Prop}, O w x cs F → ∀ {S : Nat → Bool}, (∀ b, F b → S b = false) → kd.K (hideW w S) x cs
  lt : ∀ {w : World} {x : α} {cs : List Value} {F : Nat → Prop}, O w x cs F → ∀ b, F b → b < w.heap.size
  keep : ∀ {w w' : World} {x : α} {cs : List Value} {F : Nat → Prop}, O w x cs F → (∀ b, F b → w'.heap[b]? = w.heap[b]?) → O w' x cs F

theorem below_alloc' (w : World) (o : Obj) : Below w.heap.size w (w.alloc o) := (Below.refl _ _).alloc (Nat.le_refl _) _
theorem Below.drewN {B : Nat} {a w : World} (h : Below B a w) (n : Nat) : Below B a (w.drewN n) := ⟨h.os, h.tape, h.output, h.size, h.block⟩

theorem hide_no (w : World) : Sub (hideW w noS) w := hide_sub
theorem Od.kK {α : Type} (k : Od α) {w : World} {x : α} {cs : List Value} {F : Nat → Prop} (h : k.O w x cs F) : k.kd.K w x cs := k.kd.sub hide_sub (k.rd h (S := noS) (fun _ _ => rfl))
theorem Od.len {α : Type} (k : Od α) {w : World} {x : α} {cs : List Value} {F : Nat → Prop} (h : k.O w x cs F) : cs.length = k.kd.size := k.kd.len (k.kK h)

/-- A kind that owns nothing. -/
def Od.flat {α : Type} (k : Kd α) (hk : ∀ {w w' : World} {x : α} {cs : List Value}, k.K w x cs → k.K w' x cs) : Od α where
  kd := k
  O := fun w x cs F => (∀ b, ¬ F b) ∧ k.K w x cs
  rd := fun h _ _ => hk h.2
  lt := fun h b hb => absurd hb (h.1 b)
  keep := fun h _ => ⟨h.1, hk h.2⟩
def noF : Nat → Prop := fun _ => False

/-- A slice of the call's own, its elements' parts in blocks apart; F: all of these blocks. -/
structure OwnF {α : Type} (k : Od α) (T : TypeId) (w : World) (v : Value) (xs : List α) (F : Nat → Prop) : Prop where
  ex : ∃ (css : List (List Value)) (Fs : Nat → Nat → Prop), css.length = xs.length ∧ (∀ (i : Nat) (x : α) (cs : List Value), xs[i]? = some x → css[i]? = some cs → k.O w x cs (Fs i)) ∧ w.ownsRow 0 T k.kd.size v xs.length css.flatten ∧
    (∀ i j b, i < xs.length → j < xs.length → i ≠ j → Fs i b → ¬ Fs j b) ∧ (∀ i b, i < xs.length → Fs i b → v.ownBlock ≠ some b) ∧ (∀ b, F b ↔ v.ownBlock = some b ∨ ∃ i, i < xs.length ∧ Fs i b)

section
variable {α : Type} {k : Od α} {T : TypeId} {w w' : World} {v : Value} {xs : List α} {F : Nat → Prop}

theorem OwnF.nil (k : Od α) (T : TypeId) (w : World) : OwnF k T w (.slice none 0 0) [] noF :=
  ⟨[], fun _ _ => False, rfl, fun i x cs h => by simp at h, World.ownsRow_nil w 0 T k.kd.size, fun i j b hi => by simp at hi, fun i b hi => by simp at hi, fun b => ⟨fun h => h.elim, fun h => by rcases h with h | ⟨i, hi, _⟩; simp [Value.ownBlock] at h; simp at hi⟩⟩
theorem OwnF.empty (k : Od α) (T : TypeId) (w : World) : OwnF k T (w.alloc (.cells #[] T)) (.slice (some ⟨w.heap.size, 0, none⟩) 0 0) [] (fun b => b = w.heap.size) :=
  ⟨[], fun _ _ => False, rfl, fun i x cs h => by simp at h, World.ownsRow_lit w #[] 0 (Nat.zero_le _) (Nat.zero_le _) (by simp), fun i j b hi => by simp at hi, fun i b hi => by simp at hi, fun b => ⟨fun h => .inl (by rw [h]; rfl), fun h => by rcases h with h | ⟨i, hi, _⟩; injection h with h; exact h.symm; simp at hi⟩⟩
theorem OwnF.lt (h : OwnF k T w v xs F) : ∀ b, F b → b < w.heap.size := by
  obtain ⟨css, Fs, h1, h2, h3, h4, h5, h6⟩ := h.ex
  intro b hb
  rcases (h6 b).1 hb with e | ⟨i, hi, hf⟩
  · exact (h3.lt b e).2
  · obtain ⟨x, hx⟩ := get_some xs i hi
    obtain ⟨cs, hcs⟩ := get_some css i (by rw [h1]; exact hi)
    exact k.lt (h2 i x cs hx hcs) b hf
theorem OwnF.row (h : OwnF k T w v xs F) {g : Nat} (e : v.ownBlock = some g) : F g := by
  obtain ⟨css, Fs, h1, h2, h3, h4, h5, h6⟩ := h.ex
  exact (h6 g).2 (.inl e)
theorem ownsRow_same {w w' : World} {base : Nat} {T : TypeId} {s n : Nat} {v : Value} {cs : List Value} (h : w.ownsRow base T s v n cs) (hb : ∀ g, v.ownBlock = some g → w'.heap[g]? = w.heap[g]?) : w'.ownsRow base T s v n cs := by
  rcases h with ⟨h1, h2 | ⟨g, cap, cur, rfl, h3, h4, h5⟩⟩
  · exact ⟨h1, .inl h2⟩
  · exact ⟨h1, .inr ⟨g, cap, cur, rfl, h3, (hb g rfl).trans h4, h5⟩⟩
theorem OwnF.keep (h : OwnF k T w v xs F) (hb : ∀ b, F b → w'.heap[b]? = w.heap[b]?) : OwnF k T w' v xs F := by
  obtain ⟨css, Fs, h1, h2, h3, h4, h5, h6⟩ := h.ex
  refine ⟨css, Fs, h1, fun i x cs hx hcs => k.keep (h2 i x cs hx hcs) (fun b hf => hb b ((h6 b).2 (.inr ⟨i, (List.getElem?_eq_some_iff.1 hx).1, hf⟩))), ownsRow_same h3 (fun g hg => hb g ((h6 g).2 (.inl hg))), h4, h5, h6⟩
theorem OwnF.below (h : OwnF k T w v xs F) (hb : Below w.heap.size w w') : OwnF k T w' v xs F := h.keep fun b hf => hb.block b (h.lt b hf)
theorem OwnF.grown (h : OwnF k T w v xs F) {r : Option Nat} (hg : w.grownBy w' r) (hr : ∀ b, F b → r ≠ some b) : OwnF k T w' v xs F := h.keep fun b hf => hg.block b (h.lt b hf) (fun e => hr b hf e.symm)
theorem OwnF.iff {G : Nat → Prop} (h : OwnF k T w v xs F) (e : ∀ b, G b ↔ F b) : OwnF k T w v xs G := by
  obtain ⟨css, Fs, h1, h2, h3, h4, h5, h6⟩ := h.ex
  exact ⟨css, Fs, h1, h2, h3, h4, h5, fun b => (e b).trans (h6 b)⟩
theorem all_len {k : Od α} {css : List (List Value)} {Fs : Nat → Nat → Prop} (h1 : css.length = xs.length) (h2 : ∀ (i : Nat) (x : α) (cs : List Value), xs[i]? = some x → css[i]? = some cs → k.O w x cs (Fs i)) : ∀ cs ∈ css, cs.length = k.kd.size := by
  intro cs hcs
  obtain ⟨i, hi⟩ := List.mem_iff_getElem?.1 hcs
  obtain ⟨x, hx⟩ := get_some xs i (by rw [← h1]; exact (List.getElem?_eq_some_iff.1 hi).1)
  exact k.len (h2 i x cs hx hi)
/-- What reads of it when blocks that it doesn't own are hid. -/
theorem OwnF.readS (h : OwnF k T w v xs F) {S : Nat → Bool} (hS : ∀ b, F b → S b = false) : ∃ A c, v = .slice A xs.length c ∧ xs.length ≤ c ∧ c ≤ maxLen ∧ k.kd.C (hideW w S) A xs := by
  obtain ⟨css, Fs, h1, h2, h3, h4, h5, h6⟩ := h.ex
  have hr := h3.2
  rcases hr with ⟨rfl, h7⟩ | ⟨g, cap, cur, rfl, h7, h8, h9, h10, h11, h12⟩
  · have : xs = [] := List.eq_nil_of_length_eq_zero h7
    subst this
    exact ⟨none, 0, rfl, Nat.le_refl _, Nat.zero_le _, C_nil k.kd _ none⟩
  · refine ⟨_, _, rfl, h9, h10, fun i x hx => ?_⟩
    have hi := (List.getElem?_eq_some_iff.1 hx).1
    obtain ⟨cs, hcs⟩ := get_some css i (by rw [h1]; exact hi)
    refine ⟨_, cs, rfl, k.rd (h2 i x cs hx hcs) (fun b hb => hS b ((h6 b).2 (.inr ⟨i, hi, hb⟩))), fun j u hu => ?_⟩
    have hb : ((⟨g, 0, none⟩ : Addr).add (i * k.kd.size + j)).block = g := by unfold Addr.add; split <;> rfl
    exact hide_cell.2 ⟨by rw [hb]; exact hS g ((h6 g).2 (.inl rfl)), h3.cells rfl _ u (flatten_get (all_len h1 h2) hcs hu)⟩
theorem OwnF.read (h : OwnF k T w v xs F) : ∃ A c, v = .slice A xs.length c ∧ xs.length ≤ c ∧ c ≤ maxLen ∧ k.kd.C w A xs := by
  obtain ⟨A, c, e, h1, h2, h3⟩ := h.readS (S := noS) (fun _ _ => rfl)
  exact ⟨A, c, e, h1, h2, Kd.C_sub hide_sub h3⟩

/-- Its row, one element's cells being whatever they are; F: its row's block, and the blocks of the other elements. -/
structure HoleF (k : Od α) (T : TypeId) (w : World) (g cap : Nat) (xs : List α) (i : Nat) (cs : List Value) (F : Nat → Prop) : Prop where
  hi : i < xs.length
  ex : ∃ (css : List (List Value)) (Fs : Nat → Nat → Prop), css.length = xs.length ∧ css[i]? = some cs ∧ cs.length = k.kd.size ∧ (∀ (j : Nat) (x : α) (ds : List Value), j ≠ i → xs[j]? = some x → css[j]? = some ds → k.O w x ds (Fs j)) ∧ w.ownsRow 0 T k.kd.size (.slice (some ⟨g, 0, none⟩) xs.length cap) xs.length css.flatten ∧
    (∀ j l b, j < xs.length → l < xs.length → j ≠ i → l ≠ i → j ≠ l → Fs j b → ¬ Fs l b) ∧ (∀ j b, j < xs.length → j ≠ i → Fs j b → g ≠ b) ∧ (∀ b, F b ↔ b = g ∨ ∃ j, j < xs.length ∧ j ≠ i ∧ Fs j b)

theorem OwnF.open_ (h : OwnF k T w v xs F) {i : Nat} {x : α} (hx : xs[i]? = some x) : ∃ g cap cs Fi F0, v = .slice (some ⟨g, 0, none⟩) xs.length cap ∧ xs.length ≤ cap ∧ cap ≤ maxLen ∧ HoleF k T w g cap xs i cs F0 ∧ k.O w x cs Fi ∧ (∀ b, Fi b → ¬ F0 b) ∧ (∀ b, F b ↔ F0 b ∨ Fi b) := by
  obtain ⟨css, Fs, h1, h2, h3, h4, h5, h6⟩ := h.ex
  have hi := (List.getElem?_eq_some_iff.1 hx).1
  rcases h3.2 with ⟨rfl, h7⟩ | ⟨g, cap, cur, rfl, h7, h8, h9, h10, h11, h12⟩
  · omega
  · obtain ⟨cs, hcs⟩ := get_some css i (by rw [h1]; exact hi)
    refine ⟨g, cap, cs, Fs i, fun b => b = g ∨ ∃ j, j < xs.length ∧ j ≠ i ∧ Fs j b, rfl, h9, h10, ⟨hi, css, Fs, h1, hcs, k.len (h2 i x cs hx hcs), fun j y ds _ hy hds => h2 j y ds hy hds, h3, fun j l b hj hl _ _ hjl => h4 j l b hj hl hjl, fun j b hj _ hf => fun e => h5 j b hj hf (by rw [← e]; rfl), fun b => Iff.rfl⟩, h2 i x cs hx hcs, ?_, ?_⟩
    · rintro b hb (rfl | ⟨j, hj, hji, hf⟩)
      · exact h5 i b hi hb rfl
      · exact h4 j i b hj hi hji hf hb
    · intro b
      rw [h6 b]
      constructor
      · rintro (e | ⟨j, hj, hf⟩)
        · injection e with e; exact .inl (.inl e.symm)
        · by_cases hji : j = i
          · subst hji; exact .inr hf
          · exact .inl (.inr ⟨j, hj, hji, hf⟩)
      · rintro ((rfl | ⟨j, hj, hji, hf⟩) | hf)
        · exact .inl rfl
        · exact .inr ⟨j, hj, hf⟩
        · exact .inr ⟨i, hi, hf⟩

variable {g cap i : Nat} {cs : List Value}
theorem flatten_set {s : Nat} : ∀ {css : List (List Value)} {i j : Nat} {cs : List Value} (u : Value), (∀ c ∈ css, c.length = s) → css[i]? = some cs → j < s → css.flatten.set (i * s + j) u = (css.set i (cs.set j u)).flatten
  | [], i, j, cs, u, _, h, _ => by simp at h
  | c :: r, 0, j, cs, u, hl, h, hj => by
    simp at h
    subst h
    have hc := hl c (by simp)
    rw [List.flatten_cons, Nat.zero_mul, Nat.zero_add, List.set_append_left _ _ (by omega)]
    rfl
  | c :: r, i + 1, j, cs, u, hl, h, hj => by
    have hc := hl c (by simp)
    have e : (i + 1) * s + j - c.length = i * s + j := by rw [hc, Nat.succ_mul]; omega
    rw [List.flatten_cons, List.set_append_right _ _ (by rw [hc, Nat.succ_mul]; omega), e, flatten_set u (fun c h => hl c (by simp [h])) (by simpa using h) hj]
    rfl
theorem HoleF.hall (h : HoleF k T w g cap xs i cs F) : ∃ css : List (List Value), css[i]? = some cs ∧ (∀ c ∈ css, c.length = k.kd.size) ∧ w.ownsRow 0 T k.kd.size (.slice (some ⟨g, 0, none⟩) xs.length cap) xs.length css.flatten := by
  obtain ⟨css, Fs, h1, h2, h2', h3, h4, h5, h6, h7⟩ := h.ex
  refine ⟨css, h2, fun c hc => ?_, h4⟩
  obtain ⟨j, hj⟩ := List.mem_iff_getElem?.1 hc
  by_cases hji : j = i
  · subst hji; rw [hj] at h2; injection h2 with e; rw [e]; exact h2'
  · obtain ⟨x, hx⟩ := get_some xs j (by rw [← h1]; exact (List.getElem?_eq_some_iff.1 hj).1)
    exact k.len (h3 j x c hji hx hj)
theorem HoleF.cell (h : HoleF k T w g cap xs i cs F) {j : Nat} {u : Value} (hu : cs[j]? = some u) : w.cell? ⟨g, i * k.kd.size + j, none⟩ = some u := by
  obtain ⟨css, h1, h2, h3⟩ := h.hall
  have := h3.cells rfl _ u (flatten_get h2 h1 hu)
  rwa [show (⟨g, 0, none⟩ : Addr).add (i * k.kd.size + j) = ⟨g, i * k.kd.size + j, none⟩ from by
    unfold Addr.add
    split
    · rename_i e; rw [e]
    · simp] at this
theorem HoleF.frozen (h : HoleF k T w g cap xs i cs F) (j : Nat) : w.frozen? ⟨g, j, none⟩ = false := by
  obtain ⟨css, h1, h2, h3⟩ := h.hall
  exact h3.frozenAt j
theorem HoleF.lt (h : HoleF k T w g cap xs i cs F) : ∀ b, F b → b < w.heap.size := by
  obtain ⟨css, Fs, h1, h2, h2', h3, h4, h5, h6, h7⟩ := h.ex
  intro b hb
  rcases (h7 b).1 hb with rfl | ⟨j, hj, hji, hf⟩
  · exact (h4.lt b rfl).2
  · obtain ⟨x, hx⟩ := get_some xs j hj
    obtain ⟨ds, hds⟩ := get_some css j (by rw [h1]; exact hj)
    exact k.lt (h3 j x ds hji hx hds) b hf
theorem HoleF.row (h : HoleF k T w g cap xs i cs F) : F g := by
  obtain ⟨css, Fs, h1, h2, h2', h3, h4, h5, h6, h7⟩ := h.ex
  exact (h7 g).2 (.inl rfl)
theorem HoleF.keep (h : HoleF k T w g cap xs i cs F) (hb : ∀ b, F b → w'.heap[b]? = w.heap[b]?) : HoleF k T w' g cap xs i cs F := by
  obtain ⟨css, Fs, h1, h2, h2', h3, h4, h5, h6, h7⟩ := h.ex
  exact ⟨h.hi, css, Fs, h1, h2, h2', fun j x ds hji hx hds => k.keep (h3 j x ds hji hx hds) (fun b hf => hb b ((h7 b).2 (.inr ⟨j, (List.getElem?_eq_some_iff.1 hx).1, hji, hf⟩))), ownsRow_same h4 (fun g' hg => hb g' ((h7 g').2 (.inl (by injection hg with e; exact e.symm)))), h5, h6, h7⟩
theorem HoleF.below (h : HoleF k T w g cap xs i cs F) (hb : Below w.heap.size w w') : HoleF k T w' g cap xs i cs F := h.keep fun b hf => hb.block b (h.lt b hf)
theorem HoleF.grown (h : HoleF k T w g cap xs i cs F) {r : Option Nat} (hg : w.grownBy w' r) (hr : ∀ b, F b → r ≠ some b) : HoleF k T w' g cap xs i cs F := h.keep fun b hf => hg.block b (h.lt b hf) (fun e => hr b hf e.symm)
theorem grown_none (w : World) (r : Option Nat) : w.grownBy w r := ⟨rfl, rfl, rfl, Nat.le_refl _, fun _ _ _ => rfl⟩
theorem grown_set (w : World) (g j : Nat) (u : Value) : w.grownBy (w.setCell ⟨g, j, none⟩ u) (some g) := ⟨rfl, rfl, rfl, by simp, fun k _ hk => heap_setCell_other w ⟨g, j, none⟩ k _ (fun e => hk (by simp [e]))⟩
theorem HoleF.set (h : HoleF k T w g cap xs i cs F) {j : Nat} (hj : j < k.kd.size) (u : Value) : HoleF k T (w.setCell ⟨g, i * k.kd.size + j, none⟩ u) g cap xs i (cs.set j u) F := by
  obtain ⟨css, hc1, hc2, -⟩ := h.hall
  obtain ⟨css, Fs, h1, h2, h2', h3, h4, h5, h6, h7⟩ := h.ex
  have hlen : ∀ c ∈ css, c.length = k.kd.size := by
    intro c hc
    obtain ⟨j, hj⟩ := List.mem_iff_getElem?.1 hc
    by_cases hji : j = i
    · subst hji; rw [hj] at h2; injection h2 with e; rw [e]; exact h2'
    · obtain ⟨x, hx⟩ := get_some xs j (by rw [← h1]; exact (List.getElem?_eq_some_iff.1 hj).1)
      exact k.len (h3 j x c hji hx hj)
  refine ⟨h.hi, css.set i (cs.set j u), Fs, by simp [h1], by rw [List.getElem?_set, if_pos rfl, if_pos (by rw [h1]; exact h.hi)], by simp [h2'], fun l x ds hl hx hds => ?_, ?_, h5, h6, h7⟩
  · rw [List.getElem?_set, if_neg (fun e => hl e.symm)] at hds
    refine k.keep (h3 l x ds hl hx hds) (fun b hf => heap_setCell_other w ⟨g, i * k.kd.size + j, none⟩ b u (fun e => ?_))
    exact h6 l b (List.getElem?_eq_some_iff.1 hx).1 hl hf e.symm
  · rw [← flatten_set u hlen h2 hj]
    exact (h4.stored _ u).1
theorem HoleF.close (h : HoleF k T w g cap xs i cs F) {y : α} {Gi : Nat → Prop} (hy : k.O w y cs Gi) (hd : ∀ b, Gi b → ¬ F b) : OwnF k T w (.slice (some ⟨g, 0, none⟩) xs.length cap) (xs.set i y) (fun b => F b ∨ Gi b) := by
  obtain ⟨css, Fs, h1, h2, h2', h3, h4, h5, h6, h7⟩ := h.ex
  have hi := h.hi
  refine ⟨css, fun j b => if j = i then Gi b else Fs j b, by simp [h1], fun j x ds hx hds => ?_, by simpa using h4, fun j l b hj hl hjl => ?_, fun j b hj => ?_, fun b => ?_⟩
  · by_cases hji : j = i
    · subst hji
      rw [h2] at hds
      injection hds with e
      subst e
      rw [List.getElem?_set, if_pos rfl, if_pos hi] at hx
      injection hx with e
      subst e
      simpa using hy
    · rw [List.getElem?_set, if_neg (fun e => hji e.symm)] at hx
      simpa [hji] using h3 j x ds hji hx hds
  · rw [List.length_set] at hj hl
    by_cases hji : j = i
    · subst hji
      have hli : ¬ l = j := fun e => hjl e.symm
      simp only [if_pos, hli, if_false, ite_true, ite_false]
      exact fun hb hf => hd b hb ((h7 b).2 (.inr ⟨l, hl, hli, hf⟩))
    · by_cases hli : l = i
      · subst hli
        simp only [hji, ite_true, ite_false]
        exact fun hf hb => hd b hb ((h7 b).2 (.inr ⟨j, hj, hji, hf⟩))
      · simp only [hji, hli, ite_false]
        exact h5 j l b hj hl hji hli hjl
  · rw [List.length_set] at hj
    intro hf e
    injection e with e
    by_cases hji : j = i
    · subst hji
      simp at hf
      exact hd b hf ((h7 b).2 (.inl e.symm))
    · simp only [hji, ite_false] at hf
      exact h6 j b hj hji hf e
  · rw [List.length_set, h7 b]
    constructor
    · rintro ((rfl | ⟨j, hj, hji, hf⟩) | hb)
      · exact .inl rfl
      · exact .inr ⟨j, hj, by simpa [hji] using hf⟩
      · exact .inr ⟨i, hi, by simpa using hb⟩
    · rintro (e | ⟨j, hj, hf⟩)
      · injection e with e; exact .inl (.inl e.symm)
      · by_cases hji : j = i
        · subst hji; exact .inr (by simpa using hf)
        · exact .inl (.inr ⟨j, hj, hji, by simpa [hji] using hf⟩)
end
end Go.Proofs.Ytobhjjbhlnbcpaa
