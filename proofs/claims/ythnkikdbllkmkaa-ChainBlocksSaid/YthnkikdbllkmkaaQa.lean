/- Plain: chains told by what stands behind, and ahead of, each place. -/
import Derived.Test.YthnkikdbllkmkaaYi
namespace Go.Proofs.Ythnkikdbllkmkaa
set_option linter.unusedVariables false
set_option linter.unusedSimpArgs false

/-- Behind i stands j. -/
def Nxt (s : ChS) (i j : Nat) : Prop := ∃ (a : Nat) (p q : List Nat), s.ch[a]? = some (p ++ i :: j :: q)
/-- The place k in its chain a, behind p. -/
def In (s : ChS) (a : Nat) (p : List Nat) (k : Nat) : Prop := ∃ q : List Nat, s.ch[a]? = some (p ++ k :: q)
theorem split_eq {p q p' q' : List Nat} {k : Nat} (h : (p ++ k :: q).Nodup) (e : p ++ k :: q = p' ++ k :: q') : p = p' ∧ q = q' := by
  induction p generalizing p' with
  | nil =>
    cases p' with
    | nil => injection e with _ e; exact ⟨rfl, e⟩
    | cons x r =>
      exfalso
      injection e with e1 e2
      subst e1
      rw [List.nil_append, List.nodup_cons] at h
      exact h.1 (by rw [e2]; simp)
  | cons x r ih =>
    cases p' with
    | nil =>
      exfalso
      injection e with e1 e2
      subst e1
      rw [List.cons_append, List.nodup_cons] at h
      exact h.1 (by simp)
    | cons y r' =>
      injection e with e1 e2
      rw [List.cons_append, List.nodup_cons] at h
      obtain ⟨h1, h2⟩ := ih h.2 e2
      exact ⟨by rw [e1, h1], h2⟩
theorem InvC.of_in {n : Nat} {s : ChS} (h : InvC n s) {a k : Nat} {c : List Nat} (hc : s.ch[a]? = some c) (hk : k ∈ c) : s.of[k]? = some a := (h.mem k a).2 ⟨c, hc, hk⟩
theorem InvC.same {n : Nat} {s : ChS} (h : InvC n s) {a b k : Nat} {c e : List Nat} (hc : s.ch[a]? = some c) (he : s.ch[b]? = some e) (hk : k ∈ c) (hk2 : k ∈ e) : a = b := by
  have h1 := h.of_in hc hk
  rw [h.of_in he hk2] at h1
  injection h1 with h1
  exact h1.symm
theorem Nxt.lt {n : Nat} {s : ChS} (h : InvC n s) {i j : Nat} (hx : Nxt s i j) : i < n ∧ j < n := by
  obtain ⟨a, p, q, hc⟩ := hx
  have h1 := (List.getElem?_eq_some_iff.1 (h.of_in hc (k := i) (by simp))).1
  have h2 := (List.getElem?_eq_some_iff.1 (h.of_in hc (k := j) (by simp))).1
  rw [h.len2] at h1 h2
  exact ⟨h1, h2⟩
/-- What stands behind a place that isn't its chain's last one. -/
theorem nxt_iff {n : Nat} {s : ChS} (h : InvC n s) {a i j : Nat} {p q : List Nat} (hc : s.ch[a]? = some (p ++ i :: q)) : Nxt s i j ↔ q.head? = some j := by
  constructor
  · rintro ⟨b, p', q', hb⟩
    obtain rfl := h.same hc hb (k := i) (by simp) (by simp)
    rw [hc] at hb
    injection hb with hb
    obtain ⟨-, e⟩ := split_eq (h.nodup _ _ hc) hb
    rw [e]
    rfl
  · intro e
    cases q with
    | nil => cases e
    | cons x r => injection e with e; subst e; exact ⟨a, p, r, hc⟩
theorem prv_iff {n : Nat} {s : ChS} (h : InvC n s) {a i j : Nat} {p q : List Nat} (hc : s.ch[a]? = some (p ++ j :: q)) : Nxt s i j ↔ p.getLast? = some i := by
  constructor
  · rintro ⟨b, p', q', hb⟩
    obtain rfl := h.same hc hb (k := j) (by simp) (by simp)
    rw [hc] at hb
    injection hb with hb
    have e : p ++ j :: q = (p' ++ [i]) ++ j :: q' := by rw [hb]; simp
    obtain ⟨e1, -⟩ := split_eq (h.nodup _ _ hc) e
    rw [e1]
    simp
  · intro e
    obtain ⟨r, hr⟩ : ∃ r, p = r ++ [i] := by
      cases hp : p.reverse with
      | nil => rw [List.reverse_eq_nil_iff] at hp; subst hp; cases e
      | cons x r =>
        have : p = r.reverse ++ [x] := by rw [← List.reverse_reverse p, hp]; simp
        subst this
        simp at e
        exact ⟨r.reverse, by rw [e]⟩
    subst hr
    exact ⟨a, r, q, by rw [hc]; simp⟩
theorem In.of {n : Nat} {s : ChS} (h : InvC n s) {i : Nat} (hi : i < n) : ∃ a p, In s a p i ∧ s.of[i]? = some a ∧ a < n ∧ p.length < n := by
  obtain ⟨a, c, h1, h2, h3, h4, h5, h6, h7⟩ := h.of hi
  obtain ⟨p, q, rfl⟩ := List.append_of_mem h3
  exact ⟨a, p, ⟨q, h2⟩, h1, h4, by simp at h6; omega⟩
/-- The first of its chain bears the chain's number. -/
theorem In.first {n : Nat} {s : ChS} (h : InvC n s) {a k : Nat} (hk : In s a [] k) : k = a := by
  obtain ⟨q, hq⟩ := hk
  rcases h.head a _ hq with e | e
  · cases e
  · injection e

/-- What the document's two rows say of the chains. -/
structure NP (n : Nat) (s : ChS) (nx pv : List Int) : Prop where
  ln : nx.length = n
  lp : pv.length = n
  nx : ∀ (i : Nat) (v : Int), nx[i]? = some v → (v = -1 ∧ ∀ j, ¬ Nxt s i j) ∨ ∃ j : Nat, v = (j : Int) ∧ Nxt s i j
  pv : ∀ (j : Nat) (v : Int), pv[j]? = some v → (v = -1 ∧ ∀ i, ¬ Nxt s i j) ∨ ∃ i : Nat, v = (i : Int) ∧ Nxt s i j
theorem NP.start (n : Nat) : NP n (chStart n) (List.replicate n (-1)) (List.replicate n (-1)) := by
  have no : ∀ i j, ¬ Nxt (chStart n) i j := by
    rintro i j ⟨a, p, q, h⟩
    rw [chStart_get] at h
    split at h
    · injection h with h
      have := congrArg List.length h
      simp at this
      omega
    · cases h
  have val : ∀ (i : Nat) (v : Int), (List.replicate n (-1 : Int))[i]? = some v → v = -1 := by
    intro i v hv
    rw [List.getElem?_replicate] at hv
    split at hv
    · injection hv with hv
      exact hv.symm
    · cases hv
  exact ⟨by simp, by simp, fun i v hv => .inl ⟨val i v hv, fun j => no i j⟩, fun j v hv => .inl ⟨val j v hv, fun i => no i j⟩⟩
/-- One place ahead. -/
theorem NP.back {n : Nat} {s : ChS} {nx pv : List Int} (h : NP n s nx pv) (hi : InvC n s) {a k : Nat} {p : List Nat} {v : Int} (hk : In s a p k) (hv : pv[k]? = some v) :
    (v = -1 ∧ p = [] ∧ k = a) ∨ ∃ (i : Nat) (p' : List Nat), v = (i : Int) ∧ i < n ∧ In s a p' i ∧ p.length = p'.length + 1 := by
  obtain ⟨q, hq⟩ := hk
  rcases h.pv k v hv with ⟨h1, h2⟩ | ⟨i, h1, h2⟩
  · left
    have hp : p = [] := by
      cases hl : p.getLast? with
      | none => exact List.getLast?_eq_none_iff.1 hl
      | some i => exact absurd ((prv_iff hi hq).2 hl) (h2 i)
    subst hp
    exact ⟨h1, rfl, In.first hi ⟨q, hq⟩⟩
  · right
    have hl := (prv_iff hi hq).1 h2
    obtain ⟨r, hr⟩ : ∃ r, p = r ++ [i] := by
      obtain ⟨b, p', q', hb⟩ := h2
      obtain rfl := hi.same hq hb (k := k) (by simp) (by simp)
      rw [hq] at hb
      injection hb with hb
      have e : p ++ k :: q = (p' ++ [i]) ++ k :: q' := by rw [hb]; simp
      exact ⟨p', (split_eq (hi.nodup _ _ hq) e).1⟩
    subst hr
    exact ⟨i, r, h1, (Nxt.lt hi h2).1, ⟨k :: q, by rw [hq]; simp⟩, by simp⟩
/-- .. behind. -/
theorem NP.forth {n : Nat} {s : ChS} {nx pv : List Int} (h : NP n s nx pv) (hi : InvC n s) {a k : Nat} {p q : List Nat} {v : Int} (hq : s.ch[a]? = some (p ++ k :: q)) (hv : nx[k]? = some v) :
    (v = -1 ∧ q = []) ∨ ∃ (j : Nat) (q' : List Nat), v = (j : Int) ∧ j < n ∧ q = j :: q' := by
  rcases h.nx k v hv with ⟨h1, h2⟩ | ⟨j, h1, h2⟩
  · left
    refine ⟨h1, ?_⟩
    cases q with
    | nil => rfl
    | cons x r => exact absurd ⟨a, p, r, hq⟩ (h2 x)
  · right
    have hl := (nxt_iff hi hq).1 h2
    cases q with
    | nil => cases hl
    | cons x r => injection hl with hl; subst hl; exact ⟨x, r, h1, (Nxt.lt hi h2).2, rfl⟩
theorem joins_ab {s : ChS} {f t a b : Nat} {x y : List Nat} (ha : s.of[f]? = some a) (hb : s.of[t]? = some b) (hx : s.ch[a]? = some x) (hy : s.ch[b]? = some y) : joins s f t ↔ (a ≠ b ∧ x.getLast? = some f ∧ y.head? = some t) := by
  unfold joins
  rw [getD_of ha, getD_of hb, getD_of hx, getD_of hy]
/-- The document's condition is the program's. -/
theorem NP.joins {n : Nat} {s : ChS} {nx pv : List Int} (h : NP n s nx pv) (hi : InvC n s) {f t a : Nat} {u v : Int} (hf : f < n) (ht : t < n) (ha : s.of[f]? = some a) (hu : nx[f]? = some u) (hv : pv[t]? = some v) :
    joins s f t ↔ (u < 0 ∧ v < 0 ∧ a ≠ t) := by
  obtain ⟨a', p, ⟨q, hq⟩, ha', -, -⟩ := In.of hi hf
  rw [ha] at ha'
  injection ha' with ha'
  subst ha'
  obtain ⟨b, p2, ⟨q2, hq2⟩, hb, -, -⟩ := In.of hi ht
  rw [joins_ab ha hb hq hq2]
  have e1 : (p ++ f :: q).getLast? = some f ↔ u < 0 := by
    rcases h.forth hi hq hu with ⟨h1, h2⟩ | ⟨j, q', h1, -, h2⟩
    · subst h2; subst h1; simp
    · subst h2; subst h1
      constructor
      · intro e
        exfalso
        have hnd := hi.nodup _ _ hq
        have hm : f ∈ j :: q' := by
          have e2 : (p ++ f :: j :: q') = (p ++ [f]) ++ (j :: q') := by simp
          rw [e2, List.getLast?_append] at e
          cases hl : (j :: q').getLast? with
          | none => simp at hl
          | some z =>
            rw [hl] at e
            simp at e
            subst e
            exact List.mem_of_getLast? hl
        rw [List.nodup_append] at hnd
        exact (List.nodup_cons.1 hnd.2.1).1 hm
      · intro e; omega
  have e2 : (p2 ++ t :: q2).head? = some t ↔ v < 0 := by
    rcases h.back hi ⟨q2, hq2⟩ hv with ⟨h1, h2, -⟩ | ⟨i, p', h1, -, -, h2⟩
    · subst h2; subst h1; simp
    · subst h1
      constructor
      · intro e
        exfalso
        cases p2 with
        | nil => simp at h2
        | cons x r =>
          injection e with e
          subst e
          have hnd := hi.nodup _ _ hq2
          rw [List.cons_append, List.nodup_cons] at hnd
          exact hnd.1 (by simp)
      · intro e; omega
  rw [e1, e2]
  constructor
  · rintro ⟨h1, h2, h3⟩
    refine ⟨h2, h3, fun e => ?_⟩
    rcases h.back hi ⟨q2, hq2⟩ hv with ⟨-, -, h4⟩ | ⟨i, p', h4, -⟩
    · exact h1 (by rw [e, h4])
    · omega
  · rintro ⟨h1, h2, h3⟩
    refine ⟨fun e => ?_, h1, h2⟩
    rcases h.back hi ⟨q2, hq2⟩ hv with ⟨-, -, h4⟩ | ⟨i, p', h4, -⟩
    · exact h3 (by rw [e, h4])
    · omega
theorem stepC_ch {s : ChS} {f t a b : Nat} {x y : List Nat} (ha : s.of[f]? = some a) (hb : s.of[t]? = some b) (hx : s.ch[a]? = some x) (hy : s.ch[b]? = some y) (hj : joins s f t) : (stepC s f t).ch = (s.ch.set a (x ++ y)).set b [] := by
  unfold stepC
  rw [if_pos hj, getD_of ha, getD_of hb, getD_of hx, getD_of hy]
/-- Joined. -/
theorem NP.join {n : Nat} {s : ChS} {nx pv : List Int} (h : NP n s nx pv) (hi : InvC n s) {f t : Nat} (hf : f < n) (ht : t < n) (hj : Go.Proofs.Ythnkikdbllkmkaa.joins s f t) : NP n (stepC s f t) (nx.set f (t : Int)) (pv.set t (f : Int)) := by
  obtain ⟨a, p, ⟨q, hq⟩, ha, han, -⟩ := In.of hi hf
  obtain ⟨b, p2, ⟨q2, hq2⟩, hb, hbn, -⟩ := In.of hi ht
  have hch := stepC_ch ha hb hq hq2 hj
  obtain ⟨hab, hl, hh⟩ := (joins_ab ha hb hq hq2).1 hj
  obtain ⟨r, hr⟩ : ∃ r, p ++ f :: q = r ++ [f] := by
    obtain ⟨r, hr⟩ := List.getLast?_eq_some_iff.1 hl
    exact ⟨r, hr⟩
  obtain ⟨r2, hr2⟩ : ∃ r2, p2 ++ t :: q2 = t :: r2 := by
    cases hc : p2 ++ t :: q2 with
    | nil => rw [hc] at hh; cases hh
    | cons x y => rw [hc] at hh; injection hh with hh; subst hh; exact ⟨y, rfl⟩
  rw [hr] at hq hch
  rw [hr2] at hq2 hch
  have get : ∀ c : Nat, (stepC s f t).ch[c]? = if c = b then some [] else if c = a then some ((r ++ [f]) ++ (t :: r2)) else s.ch[c]? := by
    intro c
    rw [hch, List.getElem?_set, List.length_set, hi.len]
    by_cases h1 : b = c
    · rw [if_pos h1, if_pos hbn, if_pos h1.symm]
    · rw [if_neg h1, if_neg (fun e => h1 e.symm), List.getElem?_set, hi.len]
      by_cases h2 : a = c
      · rw [if_pos h2, if_pos han, if_pos h2.symm]
      · rw [if_neg h2, if_neg (fun e => h2 e.symm)]
  have hiff : ∀ i j, Nxt (stepC s f t) i j ↔ Nxt s i j ∨ (i = f ∧ j = t) := by
    intro i j
    constructor
    · rintro ⟨c, x, y, hc⟩
      rw [get] at hc
      split at hc
      · injection hc with hc
        have := congrArg List.length hc
        simp at this
      · split at hc
        · injection hc with hc
          -- where i stands
          rcases List.append_eq_append_iff.1 hc with ⟨z, e1, e2⟩ | ⟨z, e1, e2⟩
          · -- x = (r ++ [f]) ++ z : behind the joint
            left
            refine ⟨b, z, y, ?_⟩
            rw [hq2, e2]
          · -- r ++ [f] = x ++ z
            cases z with
            | nil =>
              left
              refine ⟨b, [], y, ?_⟩
              rw [hq2]
              rw [List.nil_append] at e2
              rw [e2]
              rfl
            | cons w z =>
              injection e2 with e3 e4
              subst e3
              cases z with
              | nil =>
                right
                change j :: y = t :: r2 at e4
                injection e4 with e5 e6
                have : r ++ [f] = x ++ [i] := e1
                have h7 := congrArg List.getLast? this
                simp at h7
                exact ⟨h7.symm, e5⟩
              | cons w2 z =>
                injection e4 with e5 e6
                subst e5
                left
                exact ⟨a, x, z, by rw [hq, e1]⟩
        · left
          exact ⟨c, x, y, hc⟩
    · rintro (⟨c, x, y, hc⟩ | ⟨rfl, rfl⟩)
      · by_cases h1 : c = a
        · subst h1
          rw [hq] at hc
          injection hc with hc
          refine ⟨c, x, y ++ (t :: r2), ?_⟩
          rw [get, if_neg hab, if_pos rfl, hc]
          simp
        · by_cases h2 : c = b
          · subst h2
            rw [hq2] at hc
            injection hc with hc
            refine ⟨a, (r ++ [f]) ++ x, y, ?_⟩
            rw [get, if_neg hab, if_pos rfl, hc]
            simp
          · exact ⟨c, x, y, by rw [get, if_neg h2, if_neg h1]; exact hc⟩
      · exact ⟨a, r, r2, by rw [get, if_neg hab, if_pos rfl]; simp⟩
  refine ⟨by rw [List.length_set]; exact h.ln, by rw [List.length_set]; exact h.lp, fun i v hv => ?_, fun j v hv => ?_⟩
  · by_cases e : f = i
    · subst e
      rw [List.getElem?_set, if_pos rfl, if_pos (by rw [h.ln]; exact hf)] at hv
      injection hv with hv
      exact .inr ⟨t, hv.symm, (hiff f t).2 (.inr ⟨rfl, rfl⟩)⟩
    · rw [List.getElem?_set, if_neg e] at hv
      rcases h.nx i v hv with ⟨h1, h2⟩ | ⟨j, h1, h2⟩
      · exact .inl ⟨h1, fun j hj' => by rcases (hiff i j).1 hj' with h3 | h3; exact h2 j h3; exact e h3.1.symm⟩
      · exact .inr ⟨j, h1, (hiff i j).2 (.inl h2)⟩
  · by_cases e : t = j
    · subst e
      rw [List.getElem?_set, if_pos rfl, if_pos (by rw [h.lp]; exact ht)] at hv
      injection hv with hv
      exact .inr ⟨f, hv.symm, (hiff f t).2 (.inr ⟨rfl, rfl⟩)⟩
    · rw [List.getElem?_set, if_neg e] at hv
      rcases h.pv j v hv with ⟨h1, h2⟩ | ⟨i, h1, h2⟩
      · exact .inl ⟨h1, fun i hj' => by rcases (hiff i j).1 hj' with h3 | h3; exact h2 i h3; exact e h3.2.symm⟩
      · exact .inr ⟨i, h1, (hiff i j).2 (.inl h2)⟩
theorem stepC_none {s : ChS} {f t : Nat} (h : ¬ joins s f t) : stepC s f t = s := by unfold stepC; rw [if_neg h]
/-- The chain with a place's number: all of it, or none. -/
theorem NP.chain {n : Nat} {s : ChS} {nx pv : List Int} (h : NP n s nx pv) (hi : InvC n s) {i : Nat} {v : Int} (hlt : i < n) (hv : pv[i]? = some v) : ∃ c, s.ch[i]? = some c ∧ ((¬ v < 0 ∧ c = []) ∨ (v < 0 ∧ ∃ q, c = i :: q)) := by
  obtain ⟨c, hc⟩ : ∃ c, s.ch[i]? = some c := ⟨_, List.getElem?_eq_getElem (by rw [hi.len]; exact hlt)⟩
  refine ⟨c, hc, ?_⟩
  rcases hi.head i c hc with e | e
  · left
    refine ⟨fun hneg => ?_, e⟩
    obtain ⟨a, p, ⟨q, hq⟩, ha, -, -⟩ := In.of hi hlt
    rcases h.back hi ⟨q, hq⟩ hv with ⟨-, hp, hia⟩ | ⟨k, p', h1, -⟩
    · subst hia
      rw [hc, e] at hq
      injection hq with hq
      have := congrArg List.length hq
      simp at this
    · omega
  · right
    cases c with
    | nil => cases e
    | cons x q =>
      injection e with e
      subst e
      refine ⟨?_, q, rfl⟩
      rcases h.back hi (p := []) ⟨q, hc⟩ hv with ⟨h1, -⟩ | ⟨k, p', h1, -, -, h2⟩
      · omega
      · simp at h2
end Go.Proofs.Ythnkikdbllkmkaa
