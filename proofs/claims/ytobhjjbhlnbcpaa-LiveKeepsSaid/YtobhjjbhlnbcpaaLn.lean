/- Appending to a slice of the call's own, of whatever kind. -/
import Derived.Test.YtobhjjbhlnbcpaaLm
import Derived.Test.YtobhjjbhlnbcpaaChecked
namespace Go.Proofs.Ytobhjjbhlnbcpaa
set_option linter.unusedVariables false
set_option linter.unusedSimpArgs false
open Go.RowKit

theorem flatten_inv {s : Nat} : ∀ {css : List (List Value)} {j : Nat} {v : Value}, (∀ cs ∈ css, cs.length = s) → css.flatten[j]? = some v → ∃ i j' cs, css[i]? = some cs ∧ cs[j']? = some v ∧ j = i * s + j'
  | [], j, v, _, h => by simp at h
  | c :: r, j, v, hl, h => by
    have hc := hl c (by simp)
    rw [List.flatten_cons] at h
    by_cases hj : j < c.length
    · rw [List.getElem?_append_left hj] at h
      exact ⟨0, j, c, rfl, h, by omega⟩
    · rw [List.getElem?_append_right (by omega)] at h
      obtain ⟨i, j', cs, h1, h2, h3⟩ := flatten_inv (fun cs hcs => hl cs (by simp [hcs])) h
      refine ⟨i + 1, j', cs, by simpa using h1, h2, ?_⟩
      rw [Nat.succ_mul]
      omega
/-- A row of values whose cells lie in one world, and tell their values in another. -/
def Kd.C2 {α : Type} (k : Kd α) (wk wc : World) (A : Option Addr) (xs : List α) : Prop :=
  ∀ i x, xs[i]? = some x → ∃ ad cs, A = some ad ∧ k.K wk x cs ∧ ∀ j v, cs[j]? = some v → wc.cell? (ad.add (i * k.size + j)) = some v
theorem Kd.C2_hide {α : Type} {k : Kd α} {w : World} {S : Nat → Bool} {A : Option Addr} {xs : List α} (h : k.C (hideW w S) A xs) : k.C2 (hideW w S) w A xs := fun i x hx => by
  obtain ⟨ad, cs, e, hk, hc⟩ := h i x hx
  exact ⟨ad, cs, e, hk, fun j v hv => hide_sub _ _ (hc j v hv)⟩
theorem Kd.C2_flat {α : Type} {k : Kd α} {w w' : World} {A : Option Addr} {xs : List α} (hf : ∀ x cs, k.K w x cs → k.K w' x cs) (h : k.C w A xs) : k.C2 w' w A xs := fun i x hx => by
  obtain ⟨ad, cs, e, hk, hc⟩ := h i x hx
  exact ⟨ad, cs, e, hf x cs hk, hc⟩
theorem C_cells {α : Type} {k : Kd α} {wk w : World} {ad : Addr} {ys : List α} (h : k.C2 wk w (some ad) ys) : ∃ css : List (List Value), css.length = ys.length ∧ (∀ (i : Nat) (x : α) (cs : List Value), ys[i]? = some x → css[i]? = some cs → k.K wk x cs) ∧ ∀ j u, css.flatten[j]? = some u → w.cell? (ad.add j) = some u := by
  have h' : ∀ i, ∃ cs : List Value, ∀ x, ys[i]? = some x → k.K wk x cs ∧ ∀ j v, cs[j]? = some v → w.cell? (ad.add (i * k.size + j)) = some v := by
    intro i
    cases hi : ys[i]? with
    | none => exact ⟨[], fun x hx => by simp at hx⟩
    | some x =>
      obtain ⟨ad', cs, e, h1, h2⟩ := h i x hi
      injection e with e
      subst e
      exact ⟨cs, fun x' hx => by injection hx with e; subst e; exact ⟨h1, h2⟩⟩
  obtain ⟨f, hf⟩ := Classical.axiomOfChoice h'
  have hget : ∀ (i : Nat) (cs : List Value), ((List.range ys.length).map f)[i]? = some cs → i < ys.length ∧ f i = cs := by
    intro i cs hcs
    have hi := (List.getElem?_eq_some_iff.1 hcs).1
    simp at hi
    simp [hi] at hcs
    exact ⟨hi, hcs⟩
  refine ⟨(List.range ys.length).map f, by simp, fun i x cs hx hcs => ?_, fun j u hu => ?_⟩
  · obtain ⟨_, rfl⟩ := hget i cs hcs
    exact (hf i x hx).1
  · have hall : ∀ cs ∈ (List.range ys.length).map f, cs.length = k.size := by
      intro cs hcs
      obtain ⟨i, hi⟩ := List.mem_iff_getElem?.1 hcs
      obtain ⟨hlt, rfl⟩ := hget i cs hi
      obtain ⟨x, hx⟩ := get_some ys i hlt
      exact k.len (hf i x hx).1
    obtain ⟨i, j', cs, h1, h2, rfl⟩ := flatten_inv hall hu
    obtain ⟨hlt, rfl⟩ := hget i cs h1
    obtain ⟨x, hx⟩ := get_some ys i hlt
    exact (hf i x hx).2 j' u h2

theorem sub_grown {S : Nat → Bool} {w w1 w' : World} {v v' : Value} (hb : Below w.heap.size w w1) (hg : w1.grownBy w' v.ownBlock) (hv : v'.ownBlock = v.ownBlock ∨ v'.ownBlock = some w1.heap.size) : Sub (hideW w (withRow S v)) (hideW w' (withRow S v')) := by
  intro a u hu
  obtain ⟨h1, h2⟩ := hide_cell.1 hu
  obtain ⟨h0, h1⟩ := withRow_false.1 h1
  have hlt := World.lt_of_cell h2
  have h3 : w'.cell? a = some u := by
    rw [World.cell?_of_block (a := a) (hg.block a.block (Nat.lt_of_lt_of_le hlt hb.size) (fun e => h1 e.symm)), hb.cell hlt]
    exact h2
  refine hide_cell.2 ⟨withRow_false.2 ⟨h0, ?_⟩, h3⟩
  rcases hv with e | e
  · rw [e]; exact h1
  · rw [e]
    intro e2
    injection e2 with e2
    have := hb.size
    omega

/-- What append leaves: the new slice, all below, all apart. -/
structure Grew {α : Type} (k : Kd α) (T : TypeId) (S : Nat → Bool) (base : Nat) (w w' : World) (v v' : Value) (zs : List α) : Prop where
  own : OwnK k T S w' base v' zs
  below : Below base w w'
  apart : ∀ b, b < w.heap.size → v.ownBlock ≠ some b → w'.heap[b]? = w.heap[b]?
  fresh : v'.ownBlock = v.ownBlock ∨ ∃ g, v'.ownBlock = some g ∧ w.heap.size ≤ g

theorem run_append_nil (t ty e : TypeId) (i : TypeInfo) (size base : Nat) (ht : Try.prog.underlying t = some (.slice e)) (hi : Try.prog.info? e = some i) {w : World} (v : Value) (n c : Nat) (xs : List Value) (hown : w.ownsRow base e size v n xs) :
    (Builtin.append_ #[t, t] ty #[v, .slice none 0 c]).run Try.prog w = .ok v w := by
  rcases hown.2 with ⟨rfl, rfl⟩ | ⟨g, cap, cur, rfl, _, _, hnc, _⟩
  · simp [Builtin.append_, run_underlying ht, sizeOf, typeInfo, hi, Builtin.lenOf, Builtin.firstCells]
  · simp [Builtin.append_, run_underlying ht, sizeOf, typeInfo, hi, Builtin.lenOf, Builtin.firstCells, hnc, storeCells]

/-- What an element type's facts are. -/
structure ElK {α : Type} (k : Kd α) (T U : TypeId) (z : Value) (bytes : Nat) : Prop where
  under : Try.prog.underlying U = some (.slice T)
  info : (Try.prog.info? T).map (fun i => (i.zero, i.size, i.bytes)) = some (some z, k.size, bytes)
  zs : z.cells.size = k.size
  pos : 0 < k.size
  small : bytes ≤ 1000

theorem run_append_k {α : Type} {k : Kd α} {T U ty : TypeId} {S : Nat → Bool} {z : Value} {bytes : Nat} (el : ElK k T U z bytes)
    {w w1 : World} (base : Nat) {v : Value} {xs ys : List α} {A : Option Addr} {c : Nat} (hown : OwnK k T S w base v xs) (hbw : Below w.heap.size w w1) (hY : k.C2 (hideW w1 (withRow S v)) w1 A ys)
    (hl : xs.length + ys.length ≤ 100000000) (hb : base ≤ w.heap.size) : ∃ v' w', (Builtin.append_ #[U, U] ty #[v, .slice A ys.length c]).run Try.prog w1 = .ok v' w' ∧ Grew k T S base w w' v v' (xs ++ ys) := by
  obtain ⟨i0, hi, hz0, hz1, hz2⟩ := info_parts el.info
  have hown1 := hown.below hbw
  obtain ⟨css, h1, h2, h3⟩ := hown1
  cases A with
  | none =>
    have hys : ys = [] := by
      cases ys with
      | nil => rfl
      | cons y r =>
        obtain ⟨ad, cs, e, _⟩ := hY 0 y rfl
        cases e
    subst hys
    refine ⟨v, w1, run_append_nil U ty T i0 k.size base el.under hi v xs.length c css.flatten h3, ⟨by rw [List.append_nil]; exact hown.below hbw, hbw.mono hb, fun b hbl _ => hbw.block b hbl, .inl rfl⟩⟩
  | some ad =>
    obtain ⟨dss, d1, d2, d3⟩ := C_cells hY
    have hall : ∀ cs ∈ dss, cs.length = k.size := by
      intro cs hcs
      obtain ⟨i, hi⟩ := List.mem_iff_getElem?.1 hcs
      obtain ⟨x, hx⟩ := get_some ys i (by rw [← d1]; exact (List.getElem?_eq_some_iff.1 hi).1)
      exact k.len (d2 i x cs hx hi)
    have hflat : ∀ (l : List (List Value)), (∀ cs ∈ l, cs.length = k.size) → l.flatten.length = l.length * k.size := by
      intro l hl
      induction l with
      | nil => simp
      | cons c r ih => rw [List.flatten_cons, List.length_append, hl c (by simp), ih (fun cs hcs => hl cs (by simp [hcs])), List.length_cons, Nat.succ_mul, Nat.add_comm]
    obtain ⟨v', w', hr, ho', hg, _, hv⟩ := run_append_own_at (P := Try.prog) w1 base U ty T i0 z k.size bytes el.under hi hz0 hz1 hz2 el.zs el.pos v xs.length css.flatten h3 ad ys.length c dss.flatten (by rw [hflat dss hall, d1]) d3 (by
      intro u hu
      rw [List.mem_flatten] at hu
      obtain ⟨cs, hcs, hu⟩ := hu
      obtain ⟨i, hi⟩ := List.mem_iff_getElem?.1 hcs
      obtain ⟨x, hx⟩ := get_some ys i (by rw [← d1]; exact (List.getElem?_eq_some_iff.1 hi).1)
      exact k.one (d2 i x cs hx hi) u hu) (by unfold maxLen; omega) (Nat.le_trans (Nat.mul_le_mul hl el.small) (by decide)) (Nat.le_trans hb hbw.size)
    refine ⟨v', w', hr, ?_⟩
    have hsub := sub_grown (S := S) (w := w1) (w1 := w1) (v := v) (v' := v') (Below.refl _ _) hg hv
    refine ⟨⟨css ++ dss, by simp [h1, d1], fun i x cs hx hcs => ?_, ?_⟩, ?_, ?_, ?_⟩
    · by_cases hlt : i < xs.length
      · rw [List.getElem?_append_left hlt] at hx
        rw [List.getElem?_append_left (by rw [h1]; exact hlt)] at hcs
        exact k.sub hsub (h2 i x cs hx hcs)
      · rw [List.getElem?_append_right (by omega)] at hx
        rw [List.getElem?_append_right (by omega), h1] at hcs
        exact k.sub hsub (d2 _ x cs hx hcs)
    · rw [List.length_append, List.flatten_append]
      exact ho'
    · exact (hbw.mono hb).trans ((Below.refl base w1).grown hg (Nat.le_trans hb hbw.size) (fun j hj => (hown.block j hj).1))
    · exact fun b hbl hne => (hg.block b (Nat.lt_of_lt_of_le hbl hbw.size) (fun e => hne e.symm)).trans (hbw.block b hbl)
    · rcases hv with e | e
      · exact .inl e
      · exact .inr ⟨_, e, hbw.size⟩

/-- At the operation. -/
theorem wp_append_k {α : Type} {k : Kd α} {T U : TypeId} {S : Nat → Bool} {z : Value} {bytes : Nat} (el : ElK k T U z bytes) {o : Oper} {a : Act} {K : Act → World → Prop} {Q : Exit → Act → World → Prop} (s x : Operand)
    (ho : o.op = .call { callee := .builtin .append, args := #[s, x], argTypes := #[U, U] }) {w w1 : World} (base : Nat) {v : Value} {xs ys : List α} {A : Option Addr} {c : Nat} (hown : OwnK k T S w base v xs) (hbw : Below w.heap.size w w1) (hY : k.C2 (hideW w1 (withRow S v)) w1 A ys) (hs : a.eval s = v) (hx : a.eval x = .slice A ys.length c)
    (hl : xs.length + ys.length ≤ 100000000) (hb : base ≤ w.heap.size) (h : ∀ v' w', Grew k T S base w w' v v' (xs ++ ys) → K (a.put o.dst v') w') : Oper.wp Try.prog o a w1 K Q := by
  obtain ⟨v', w', hr, hg⟩ := run_append_k (ty := o.type) (c := c) el base hown hbw hY hl hb
  unfold Oper.wp execOp
  simp only [ho, resolve, invoke, builtin, Sem.run_bind, Sem.run_pure, Result.andThen_ok, List.map_toArray, List.map_cons, List.map_nil, hs, hx, hr]
  exact h v' w' hg
theorem wpList_append_k {α : Type} {k : Kd α} {T U : TypeId} {S : Nat → Bool} {z : Value} {bytes : Nat} (el : ElK k T U z bytes) {ops : Array Oper} {rest : List Oper} {o : Oper} {a : Act} {Q : Exit → Act → World → Prop} (hgd : o.guard = none) (s x : Operand)
    (ho : o.op = .call { callee := .builtin .append, args := #[s, x], argTypes := #[U, U] }) {w w1 : World} (base : Nat) {v : Value} {xs ys : List α} {A : Option Addr} {c : Nat} (hown : OwnK k T S w base v xs) (hbw : Below w.heap.size w w1) (hY : k.C2 (hideW w1 (withRow S v)) w1 A ys) (hs : a.eval s = v) (hx : a.eval x = .slice A ys.length c)
    (hl : xs.length + ys.length ≤ 100000000) (hb : base ≤ w.heap.size) (h : ∀ v' w', Grew k T S base w w' v v' (xs ++ ys) → wpList Try.prog ops Q rest (a.put o.dst v') w') : wpList Try.prog ops Q (o :: rest) a w1 :=
  wpList_plain hgd fun _ hK => wp_append_k el s x ho base hown hbw hY hs hx hl hb fun v' w' hg => hK _ _ (h v' w' hg)
/-- At a step of a region that draws its order. -/
theorem step_append_k {α : Type} {k : Kd α} {T U : TypeId} {S : Nat → Bool} {z : Value} {bytes : Nat} (el : ElK k T U z bytes) {ops : Array Oper} {o : Oper} {a : Act} {K : Act → World → Prop} {Q : Exit → Act → World → Prop} {E : Prop} (hgd : o.guard = none) (s x : Operand)
    (ho : o.op = .call { callee := .builtin .append, args := #[s, x], argTypes := #[U, U] }) {w w1 : World} (base : Nat) {v : Value} {xs ys : List α} {A : Option Addr} {c : Nat} (hown : OwnK k T S w base v xs) (hbw : Below w.heap.size w w1) (hY : k.C2 (hideW w1 (withRow S v)) w1 A ys) (hs : a.eval s = v) (hx : a.eval x = .slice A ys.length c)
    (hl : xs.length + ys.length ≤ 100000000) (hb : base ≤ w.heap.size) (h : ∀ v' w', Grew k T S base w w' v v' (xs ++ ys) → K (a.put o.dst v') w') : if Region.wanted o (yielded ops a.tmps) = true then Oper.wp Try.prog o a w1 K Q else E := by
  have hw : Region.wanted o (yielded ops a.tmps) = true := by simp [Region.wanted, hgd]
  rw [if_pos hw]
  exact wp_append_k el s x ho base hown hbw hY hs hx hl hb h

theorem C2_one {α : Type} (k : Kd α) (W : World) (b : Nat) (hb : b = W.heap.size) (T : TypeId) (x : α) (cells : Array Value) (wk : World) (hK : k.K wk x cells.toList) : k.C2 wk (W.alloc (.cells cells T)) (some ⟨b, 0, none⟩) [x] := by
  subst hb
  intro i y hx
  cases i with
  | zero =>
    simp at hx
    subst hx
    refine ⟨_, cells.toList, rfl, hK, fun j v hv => ?_⟩
    have ha : (⟨W.heap.size, 0, none⟩ : Addr).add (0 * k.size + j) = ⟨W.heap.size, j, none⟩ := by
      unfold Addr.add
      by_cases h0 : j = 0
      · rw [if_pos (by simpa using h0), h0]
      · rw [if_neg (by simpa using h0)]; simp
    rw [ha]
    rw [Array.getElem?_toList] at hv
    simp [hv]
  | succ i => simp at hx
theorem kOp_any {w w' : World} {x : Op} {cs : List Value} (h : kOp.K w x cs) : kOp.K w' x cs := by
  obtain ⟨rfl, hw⟩ := kOp_open h
  exact kOp_mk w' x hw
/-- All blocks made before. -/
def oldS (B : Nat) : Nat → Bool := fun g => decide (g < B)
def zOp : Value := .agg #[.int .i64 0, .int .i64 0, .int .i64 0, .int .i64 0, .int .i64 0, .bool false, .int .i64 0, .int .i64 0, .int .i64 0]
def zBlock : Value := .agg #[.slice none 0 0, .int .i64 0, .int .i64 0, .int .i64 0, .int .i64 0, .int .i64 0, .int .i64 0, .int .i64 0, .int .i64 0, .int .i64 0, .int .i64 0, .int .i64 0]
def zGraph : Value := .agg #[.string ByteArray.empty, .bool false, .bool false, .slice none 0 0]
theorem elOp : ElK kOp 45 37 zOp 72 := ⟨Try.underlying37, by kernel_rfl, rfl, by decide, by decide⟩
theorem elBlock : ElK kBlock 43 26 zBlock 112 := ⟨Try.underlying26, by kernel_rfl, rfl, by decide, by decide⟩
theorem elGraph : ElK kGraph 28 22 zGraph 48 := ⟨Try.underlying22, by kernel_rfl, rfl, by decide, by decide⟩
end Go.Proofs.Ytobhjjbhlnbcpaa
