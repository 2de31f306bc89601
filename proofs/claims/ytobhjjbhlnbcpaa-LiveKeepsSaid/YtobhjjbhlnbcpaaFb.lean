/- Appending to slices that own their memory; making them. -/
import Derived.Test.YtobhjjbhlnbcpaaFa
namespace Go.Proofs.Ytobhjjbhlnbcpaa
set_option linter.unusedVariables false
set_option linter.unusedSimpArgs false
open Go.RowKit

/-- A row of new elements at an address, their parts in blocks apart. -/
structure YF {α : Type} (k : Od α) (w : World) (A : Option Addr) (ys : List α) (G : Nat → Prop) : Prop where
  ex : ∃ (dss : List (List Value)) (Gs : Nat → Nat → Prop), dss.length = ys.length ∧ (∀ (i : Nat) (y : α) (ds : List Value), ys[i]? = some y → dss[i]? = some ds → k.O w y ds (Gs i)) ∧ (A = none → ys = []) ∧ (∀ ad, A = some ad → ∀ j u, dss.flatten[j]? = some u → w.cell? (ad.add j) = some u) ∧
    (∀ i j b, i < ys.length → j < ys.length → i ≠ j → Gs i b → ¬ Gs j b) ∧ (∀ b, G b ↔ ∃ i, i < ys.length ∧ Gs i b)

theorem YF.flat {α : Type} {kd : Kd α} {hk : ∀ {w w' : World} {x : α} {cs : List Value}, kd.K w x cs → kd.K w' x cs} {w : World} {A : Option Addr} {ys : List α} (h : kd.C w A ys) : YF (Od.flat kd hk) w A ys noF := by
  cases A with
  | none =>
    have hys : ys = [] := by
      cases ys with
      | nil => rfl
      | cons y r =>
        obtain ⟨ad, cs, e, _⟩ := h 0 y rfl
        cases e
    subst hys
    exact ⟨[], fun _ _ => False, rfl, fun i x cs h => by simp at h, fun _ => rfl, fun ad e => by (cases e), fun i j b hi => by simp at hi, fun b => ⟨fun h => h.elim, fun ⟨i, hi, _⟩ => by simp at hi⟩⟩
  | some ad =>
    obtain ⟨dss, d1, d2, d3⟩ := C_cells (Kd.C2_flat (w' := w) (fun _ _ h => h) h)
    exact ⟨dss, fun _ _ => False, d1, fun i y ds hy hds => ⟨fun b h => h, d2 i y ds hy hds⟩, fun e => by (cases e), fun ad' e => by (injection e with e; subst e; exact d3), fun i j b _ _ _ h => h.elim, fun b => ⟨fun h => h.elim, fun ⟨i, _, h⟩ => h.elim⟩⟩
/-- One new element, in a new block. -/
theorem YF.one {α : Type} {k : Od α} {W : World} {b : Nat} (hb : b = W.heap.size) {T : TypeId} {x : α} {cells : Array Value} {G : Nat → Prop} (h : k.O W x cells.toList G) : YF k (W.alloc (.cells cells T)) (some ⟨b, 0, none⟩) [x] G := by
  subst hb
  refine ⟨[cells.toList], fun _ => G, rfl, fun i y ds hy hds => ?_, fun e => by (cases e), fun ad e j u hu => ?_, fun i j b hi hj hij => by simp at hi hj; omega, fun b => ⟨fun h => ⟨0, by simp, h⟩, fun ⟨_, _, h⟩ => h⟩⟩
  · cases i with
    | zero =>
      simp at hy hds
      subst hy hds
      exact k.keep h (fun b' hb' => ((Below.refl _ _).alloc (Nat.le_refl _) _).block b' (k.lt h b' hb'))
    | succ i => simp at hy
  · injection e with e
    subst e
    have ha : (⟨W.heap.size, 0, none⟩ : Addr).add j = ⟨W.heap.size, j, none⟩ := by
      unfold Addr.add
      by_cases h0 : j = 0
      · rw [if_pos (by simpa using h0), h0]
      · rw [if_neg (by simpa using h0)]; simp
    rw [ha]
    simp at hu
    simp [hu]

/-- What append leaves: the new slice in old or new blocks; no other block has turned. -/
structure GrewF {α : Type} (k : Od α) (T : TypeId) (w w' : World) (v v' : Value) (zs : List α) (F G : Nat → Prop) : Prop where
  own : ∃ F', OwnF k T w' v' zs F' ∧ ∀ b, F' b → F b ∨ G b ∨ w.heap.size ≤ b
  grown : w.grownBy w' v.ownBlock

theorem run_append_f {α : Type} {k : Od α} {T U ty : TypeId} {z : Value} {bytes : Nat} (el : ElK k.kd T U z bytes)
    {w : World} {v : Value} {xs ys : List α} {F G : Nat → Prop} {A : Option Addr} {c : Nat} (hown : OwnF k T w v xs F) (hY : YF k w A ys G) (hd : ∀ b, F b → ¬ G b)
    (hl : xs.length + ys.length ≤ 100000000) : ∃ v' w', (Builtin.append_ #[U, U] ty #[v, .slice A ys.length c]).run Try.prog w = .ok v' w' ∧ GrewF k T w w' v v' (xs ++ ys) F G := by
  obtain ⟨i0, hi, hz0, hz1, hz2⟩ := info_parts el.info
  obtain ⟨css, Fs, h1, h2, h3, h4, h5, h6⟩ := hown.ex
  obtain ⟨dss, Gs, d1, d2, d3, d4, d5, d6⟩ := hY.ex
  cases A with
  | none =>
    have hys := d3 rfl
    subst hys
    refine ⟨v, w, run_append_nil U ty T i0 k.kd.size 0 el.under hi v xs.length c css.flatten h3, ⟨F, by rw [List.append_nil]; exact hown, fun b hb => .inl hb⟩, grown_none w _⟩
  | some ad =>
    have hall : ∀ cs ∈ dss, cs.length = k.kd.size := all_len d1 d2
    have hflat : ∀ (l : List (List Value)), (∀ cs ∈ l, cs.length = k.kd.size) → l.flatten.length = l.length * k.kd.size := by
      intro l hl
      induction l with
      | nil => simp
      | cons c r ih => rw [List.flatten_cons, List.length_append, hl c (by simp), ih (fun cs hcs => hl cs (by simp [hcs])), List.length_cons, Nat.succ_mul, Nat.add_comm]
    obtain ⟨v', w', hr, ho', hg, _, hv⟩ := run_append_own_at (P := Try.prog) w 0 U ty T i0 z k.kd.size bytes el.under hi hz0 hz1 hz2 el.zs el.pos v xs.length css.flatten h3 ad ys.length c dss.flatten (by rw [hflat dss hall, d1]) (d4 ad rfl) (by
      intro u hu
      rw [List.mem_flatten] at hu
      obtain ⟨cs, hcs, hu⟩ := hu
      obtain ⟨i, hi⟩ := List.mem_iff_getElem?.1 hcs
      obtain ⟨x, hx⟩ := get_some ys i (by rw [← d1]; exact (List.getElem?_eq_some_iff.1 hi).1)
      exact k.kd.one (k.kK (d2 i x cs hx hi)) u hu) (by unfold maxLen; omega) (Nat.le_trans (Nat.mul_le_mul hl el.small) (by decide)) (Nat.zero_le _)
    refine ⟨v', w', hr, ⟨_, ⟨css ++ dss, fun i b => if i < xs.length then Fs i b else Gs (i - xs.length) b, by simp [h1, d1], fun i x cs hx hcs => ?_, by rw [List.length_append, List.flatten_append]; exact ho', fun i j b hil hjl hij => ?_, fun i b hil => ?_, fun b => Iff.rfl⟩, ?_⟩, hg⟩
    · by_cases hlt : i < xs.length
      · rw [List.getElem?_append_left hlt] at hx
        rw [List.getElem?_append_left (by rw [h1]; exact hlt)] at hcs
        have ho := h2 i x cs hx hcs
        simp only [hlt, ite_true]
        exact k.keep ho (fun b hb => hg.block b (k.lt ho b hb) (fun e => h5 i b hlt hb e.symm))
      · rw [List.getElem?_append_right (by omega)] at hx
        rw [List.getElem?_append_right (by omega), h1] at hcs
        have ho := d2 _ x cs hx hcs
        simp only [hlt, ite_false]
        exact k.keep ho (fun b hb => hg.block b (k.lt ho b hb) (fun e => hd b ((h6 b).2 (.inl e.symm)) ((d6 b).2 ⟨_, (List.getElem?_eq_some_iff.1 hx).1, hb⟩)))
    · rw [List.length_append] at hil hjl
      by_cases hi' : i < xs.length <;> by_cases hj' : j < xs.length <;> simp only [hi', hj', ite_true, ite_false]
      · exact h4 i j b hi' hj' hij
      · exact fun hf hgb => hd b ((h6 b).2 (.inr ⟨i, hi', hf⟩)) ((d6 b).2 ⟨_, by omega, hgb⟩)
      · exact fun hgb hf => hd b ((h6 b).2 (.inr ⟨j, hj', hf⟩)) ((d6 b).2 ⟨_, by omega, hgb⟩)
      · exact d5 _ _ b (by omega) (by omega) (by omega)
    · rw [List.length_append] at hil
      intro hf e
      by_cases hi' : i < xs.length
      · simp only [hi', ite_true] at hf
        rcases hv with ev | ev
        · rw [ev] at e; exact h5 i b hi' hf e
        · rw [ev] at e; injection e with e
          have := hown.lt b ((h6 b).2 (.inr ⟨i, hi', hf⟩)); omega
      · simp only [hi', ite_false] at hf
        have hgb := (d6 b).2 ⟨_, by omega, hf⟩
        rcases hv with ev | ev
        · rw [ev] at e; exact hd b ((h6 b).2 (.inl e)) hgb
        · rw [ev] at e; injection e with e
          obtain ⟨y, hy⟩ := get_some ys (i - xs.length) (by omega)
          obtain ⟨ds, hds⟩ := get_some dss (i - xs.length) (by omega)
          have := k.lt (d2 _ y ds hy hds) b hf; omega
    · rintro b (e | ⟨i, hil, hf⟩)
      · rcases hv with ev | ev
        · rw [ev] at e; exact .inl ((h6 b).2 (.inl e))
        · rw [ev] at e; injection e with e; exact .inr (.inr (by omega))
      · rw [List.length_append] at hil
        by_cases hi' : i < xs.length
        · simp only [hi', ite_true] at hf; exact .inl ((h6 b).2 (.inr ⟨i, hi', hf⟩))
        · simp only [hi', ite_false] at hf; exact .inr (.inl ((d6 b).2 ⟨_, by omega, hf⟩))

theorem wp_append_f {α : Type} {k : Od α} {T U : TypeId} {z : Value} {bytes : Nat} (el : ElK k.kd T U z bytes) {o : Oper} {a : Act} {K : Act → World → Prop} {Q : Exit → Act → World → Prop} (s x : Operand)
    (ho : o.op = .call { callee := .builtin .append, args := #[s, x], argTypes := #[U, U] }) {w : World} {v : Value} {xs ys : List α} {F G : Nat → Prop} {A : Option Addr} {c : Nat} (hown : OwnF k T w v xs F) (hY : YF k w A ys G) (hd : ∀ b, F b → ¬ G b) (hs : a.eval s = v) (hx : a.eval x = .slice A ys.length c)
    (hl : xs.length + ys.length ≤ 100000000) (h : ∀ v' w', GrewF k T w w' v v' (xs ++ ys) F G → K (a.put o.dst v') w') : Oper.wp Try.prog o a w K Q := by
  obtain ⟨v', w', hr, hg⟩ := run_append_f (ty := o.type) (c := c) el hown hY hd hl
  unfold Oper.wp execOp
  simp only [ho, resolve, invoke, builtin, Sem.run_bind, Sem.run_pure, Result.andThen_ok, List.map_toArray, List.map_cons, List.map_nil, hs, hx, hr]
  exact h v' w' hg
theorem wpList_append_f {α : Type} {k : Od α} {T U : TypeId} {z : Value} {bytes : Nat} (el : ElK k.kd T U z bytes) {ops : Array Oper} {rest : List Oper} {o : Oper} {a : Act} {Q : Exit → Act → World → Prop} (hgd : o.guard = none) (s x : Operand)
    (ho : o.op = .call { callee := .builtin .append, args := #[s, x], argTypes := #[U, U] }) {w : World} {v : Value} {xs ys : List α} {F G : Nat → Prop} {A : Option Addr} {c : Nat} (hown : OwnF k T w v xs F) (hY : YF k w A ys G) (hd : ∀ b, F b → ¬ G b) (hs : a.eval s = v) (hx : a.eval x = .slice A ys.length c)
    (hl : xs.length + ys.length ≤ 100000000) (h : ∀ v' w', GrewF k T w w' v v' (xs ++ ys) F G → wpList Try.prog ops Q rest (a.put o.dst v') w') : wpList Try.prog ops Q (o :: rest) a w :=
  wpList_plain hgd fun _ hK => wp_append_f el s x ho hown hY hd hs hx hl fun v' w' hg => hK _ _ (h v' w' hg)
/-- At a step of a region that draws its order. -/
theorem step_append_f {α : Type} {k : Od α} {T U : TypeId} {z : Value} {bytes : Nat} (el : ElK k.kd T U z bytes) {ops : Array Oper} {o : Oper} {a : Act} {K : Act → World → Prop} {Q : Exit → Act → World → Prop} {E : Prop} (hgd : o.guard = none) (s x : Operand)
    (ho : o.op = .call { callee := .builtin .append, args := #[s, x], argTypes := #[U, U] }) {w : World} {v : Value} {xs ys : List α} {F G : Nat → Prop} {A : Option Addr} {c : Nat} (hown : OwnF k T w v xs F) (hY : YF k w A ys G) (hd : ∀ b, F b → ¬ G b) (hs : a.eval s = v) (hx : a.eval x = .slice A ys.length c)
    (hl : xs.length + ys.length ≤ 100000000) (h : ∀ v' w', GrewF k T w w' v v' (xs ++ ys) F G → K (a.put o.dst v') w') : if Region.wanted o (yielded ops a.tmps) = true then Oper.wp Try.prog o a w K Q else E := by
  have hw : Region.wanted o (yielded ops a.tmps) = true := by simp [Region.wanted, hgd]
  rw [if_pos hw]
  exact wp_append_f el s x ho hown hY hd hs hx hl h

/-- A row of flat values, made at once. -/
theorem OwnF.lit {α : Type} {kd : Kd α} {hk : ∀ {w w' : World} {x : α} {cs : List Value}, kd.K w x cs → kd.K w' x cs} (T : TypeId) (w : World) (xs : List α) (css : List (List Value)) (cells : Array Value) (hc : cells.toList = css.flatten) (hl : css.length = xs.length) (hx : xs.length ≤ maxLen) (hK : ∀ (i : Nat) (x : α) (cs : List Value), xs[i]? = some x → css[i]? = some cs → kd.K w x cs) :
    OwnF (Od.flat kd hk) T (w.alloc (.cells cells T)) (.slice (some ⟨w.heap.size, 0, none⟩) xs.length xs.length) xs (fun b => b = w.heap.size) := by
  have hall : ∀ cs ∈ css, cs.length = kd.size := by
    intro cs hcs
    obtain ⟨i, hi⟩ := List.mem_iff_getElem?.1 hcs
    obtain ⟨x, hx⟩ := get_some xs i (by rw [← hl]; exact (List.getElem?_eq_some_iff.1 hi).1)
    exact kd.len (hK i x cs hx hi)
  have hflat : ∀ (l : List (List Value)), (∀ cs ∈ l, cs.length = kd.size) → l.flatten.length = l.length * kd.size := by
    intro l hl
    induction l with
    | nil => simp
    | cons c r ih => rw [List.flatten_cons, List.length_append, hl c (by simp), ih (fun cs hcs => hl cs (by simp [hcs])), List.length_cons, Nat.succ_mul, Nat.add_comm]
  refine ⟨css, fun _ _ => False, hl, fun i x cs hx hcs => ⟨fun _ h => h, hk (hK i x cs hx hcs)⟩, ?_, fun i j b _ _ _ h => h.elim, fun i b _ h => h.elim, fun b => ⟨fun h => .inl (by rw [h]; rfl), fun h => by rcases h with h | ⟨i, _, h⟩; injection h with h; exact h.symm; exact h.elim⟩⟩
  rw [← hc]
  exact World.ownsRow_lit w cells xs.length (Nat.zero_le _) hx (by rw [← Array.length_toList, hc, hflat css hall, hl]; rfl)
/-- Its first elements. -/
theorem OwnF.take {α : Type} {k : Od α} {T : TypeId} {w : World} {g cap n : Nat} {xs : List α} {F : Nat → Prop} (h : OwnF k T w (.slice (some ⟨g, 0, none⟩) xs.length cap) xs F) (hn : n ≤ xs.length) : ∃ F', OwnF k T w (.slice (some ⟨g, 0, none⟩) n cap) (xs.take n) F' ∧ ∀ b, F' b → F b := by
  obtain ⟨css, Fs, h1, h2, h3, h4, h5, h6⟩ := h.ex
  have hall := all_len h1 h2
  have hflat : ∀ (n : Nat) (l : List (List Value)), (∀ cs ∈ l, cs.length = k.kd.size) → n ≤ l.length → (l.take n).flatten = l.flatten.take (n * k.kd.size) := by
    intro n
    induction n with
    | zero => intro l _ _; simp
    | succ n ih =>
      intro l hl hn
      cases l with
      | nil => simp
      | cons c r =>
        have hc := hl c (by simp)
        have e : (n + 1) * k.kd.size = c.length + n * k.kd.size := by rw [hc, Nat.succ_mul]; omega
        rw [List.take_succ_cons, List.flatten_cons, List.flatten_cons, ih r (fun cs h => hl cs (by simp [h])) (by simpa using hn), e, List.take_length_add_append]
  have hlen : (xs.take n).length = n := by simp; omega
  refine ⟨_, ⟨css.take n, Fs, by simp [h1], fun i x cs hx hcs => ?_, ?_, fun i j b hi hj => ?_, fun i b hi hf => ?_, fun b => Iff.rfl⟩, fun b hb => ?_⟩
  · have hi : i < n := by have := (List.getElem?_eq_some_iff.1 hx).1; simp at this; omega
    rw [List.getElem?_take_of_lt hi] at hx hcs
    exact h2 i x cs hx hcs
  · rcases h3 with ⟨q1, q2 | ⟨g', cap', cur, e, q3, q4, q5, q6, q7, q8⟩⟩
    · cases q2.1
    · injection e with e1 e2 e3
      rw [hlen, hflat n css hall (by omega)]
      have hle : n * k.kd.size ≤ xs.length * k.kd.size := Nat.mul_le_mul_right _ hn
      refine ⟨by rw [List.length_take, q1]; omega, .inr ⟨g', cap', cur, by rw [e1, e3], q3, q4, by omega, q6, q7, by rw [← q8, List.take_take, Nat.min_eq_left hle]⟩⟩
  · rw [hlen] at hi hj
    exact h4 i j b (by omega) (by omega)
  · rw [hlen] at hi
    exact h5 i b (by omega) hf
  · rcases hb with e | ⟨i, hi, hf⟩
    · exact (h6 b).2 (.inl e)
    · rw [hlen] at hi
      exact (h6 b).2 (.inr ⟨i, by omega, hf⟩)
theorem OwnF.takeA {α : Type} {k : Od α} {T : TypeId} {w : World} {A : Option Addr} {cap n : Nat} {xs : List α} {F : Nat → Prop} (h : OwnF k T w (.slice A xs.length cap) xs F) (hn : n ≤ xs.length) (hp : 0 < xs.length) : ∃ F', OwnF k T w (.slice A n cap) (xs.take n) F' ∧ ∀ b, F' b → F b := by
  obtain ⟨x, hx⟩ := get_some xs 0 hp
  obtain ⟨g, cap', cs, Fi, FF, e, -⟩ := h.open_ hx
  injection e with e1 e2 e3
  subst e1 e3
  exact h.take hn
end Go.Proofs.Ytobhjjbhlnbcpaa
