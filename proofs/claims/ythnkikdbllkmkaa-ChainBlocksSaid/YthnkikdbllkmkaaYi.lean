/- Plain: chains that are joined. -/
namespace Go.Proofs.Ythnkikdbllkmkaa
set_option linter.unusedVariables false
set_option linter.unusedSimpArgs false

structure ChS where
  ch : List (List Nat)
  of : List Nat
def chStart (n : Nat) : ChS := ⟨(List.range n).map (fun i => [i]), List.range n⟩
def fillL (y : List Nat) (a : Nat) (o : List Nat) : List Nat := y.foldl (fun o i => o.set i a) o
/-- May f's chain and t's be joined? -/
def joins (s : ChS) (f t : Nat) : Prop := s.of.getD f 0 ≠ s.of.getD t 0 ∧ (s.ch.getD (s.of.getD f 0) []).getLast? = some f ∧ (s.ch.getD (s.of.getD t 0) []).head? = some t
instance (s : ChS) (f t : Nat) : Decidable (joins s f t) := inferInstanceAs (Decidable (_ ∧ _ ∧ _))
def stepC (s : ChS) (f t : Nat) : ChS :=
  if joins s f t then ⟨(s.ch.set (s.of.getD f 0) (s.ch.getD (s.of.getD f 0) [] ++ s.ch.getD (s.of.getD t 0) [])).set (s.of.getD t 0) [], fillL (s.ch.getD (s.of.getD t 0) []) (s.of.getD f 0) s.of⟩ else s

structure InvC (n : Nat) (s : ChS) : Prop where
  len : s.ch.length = n
  len2 : s.of.length = n
  mem : ∀ i a : Nat, s.of[i]? = some a ↔ ∃ c, s.ch[a]? = some c ∧ i ∈ c
  nodup : ∀ (a : Nat) (c : List Nat), s.ch[a]? = some c → c.Nodup
  head : ∀ (a : Nat) (c : List Nat), s.ch[a]? = some c → c = [] ∨ c.head? = some a
  tot : (s.ch.map List.length).sum = n

theorem fillL_len (y : List Nat) (a : Nat) : ∀ o : List Nat, (fillL y a o).length = o.length := by
  induction y with
  | nil => intro o; rfl
  | cons i r ih => intro o; show (fillL r a (o.set i a)).length = _; rw [ih, List.length_set]
theorem fillL_get (y : List Nat) (a : Nat) : ∀ (o : List Nat) (j : Nat), (fillL y a o)[j]? = if j ∈ y ∧ j < o.length then some a else o[j]? := by
  induction y with
  | nil => intro o j; simp [fillL]
  | cons i r ih =>
    intro o j
    show (fillL r a (o.set i a))[j]? = _
    rw [ih, List.length_set]
    by_cases hr : j ∈ r
    · by_cases hl : j < o.length
      · rw [if_pos ⟨hr, hl⟩, if_pos ⟨List.mem_cons_of_mem _ hr, hl⟩]
      · rw [if_neg (fun h => hl h.2), if_neg (fun h => hl h.2), List.getElem?_eq_none (by simp; omega), List.getElem?_eq_none (by omega)]
    · rw [if_neg (fun h => hr h.1), List.getElem?_set]
      by_cases hij : i = j
      · subst hij
        rw [if_pos rfl]
        by_cases hl : i < o.length
        · rw [if_pos hl, if_pos ⟨List.mem_cons_self .., hl⟩]
        · rw [if_neg hl, if_neg (fun h => hl h.2), List.getElem?_eq_none (by omega)]
      · rw [if_neg hij, if_neg (fun h => by rcases List.mem_cons.1 h.1 with e | e; exact hij e.symm; exact hr e)]
theorem sum_set {l : List Nat} {i v : Nat} (u : Nat) (h : l[i]? = some v) : (l.set i u).sum + v = l.sum + u := by
  induction l generalizing i with
  | nil => simp at h
  | cons x r ih =>
    cases i with
    | zero =>
      simp at h
      subst h
      simp only [List.set_cons_zero, List.sum_cons]
      omega
    | succ i =>
      have := ih (i := i) (by simpa using h)
      simp only [List.set_cons_succ, List.sum_cons]
      omega
theorem le_sum {l : List Nat} {i v : Nat} (h : l[i]? = some v) : v ≤ l.sum := by
  induction l generalizing i with
  | nil => simp at h
  | cons x r ih =>
    cases i with
    | zero => simp at h; subst h; simp
    | succ i => have := ih (i := i) (by simpa using h); simp only [List.sum_cons]; omega
theorem getD_of {α : Type} {l : List α} {i : Nat} {d x : α} (h : l[i]? = some x) : l.getD i d = x := by simp [List.getD, h]
theorem chStart_get (n i : Nat) : (chStart n).ch[i]? = if i < n then some [i] else none := by
  unfold chStart
  by_cases h : i < n
  · rw [if_pos h]; simp [h]
  · rw [if_neg h]; simp; omega
theorem chStart_inv (n : Nat) : InvC n (chStart n) where
  len := by simp [chStart]
  len2 := by simp [chStart]
  mem i a := by
    rw [chStart_get]
    constructor
    · intro h
      have h1 : (List.range n)[i]? = some a := h
      rw [List.getElem?_eq_some_iff] at h1
      obtain ⟨hl, he⟩ := h1
      simp at hl he
      subst he
      exact ⟨[i], by rw [if_pos hl], List.mem_singleton.2 rfl⟩
    · rintro ⟨c, hc, hi⟩
      split at hc
      · injection hc with hc
        subst hc
        rw [List.mem_singleton] at hi
        subst hi
        rename_i hlt
        exact List.getElem?_range hlt
      · cases hc
  nodup a c h := by
    rw [chStart_get] at h
    split at h
    · injection h with h; subst h; simp
    · cases h
  head a c h := by
    rw [chStart_get] at h
    split at h
    · injection h with h; subst h; exact .inr rfl
    · cases h
  tot := by
    unfold chStart
    rw [List.map_map]
    have : (List.length ∘ fun i : Nat => [i]) = fun _ => 1 := rfl
    rw [this]
    induction n with
    | zero => rfl
    | succ m ih => rw [List.range_succ, List.map_append, List.sum_append, ih]; rfl
/-- What a place's chain is. -/
theorem InvC.of {n : Nat} {s : ChS} (h : InvC n s) {i : Nat} (hi : i < n) : ∃ a c, s.of[i]? = some a ∧ s.ch[a]? = some c ∧ i ∈ c ∧ a < n ∧ c ≠ [] ∧ c.length ≤ n ∧ (∀ j ∈ c, j < n) := by
  obtain ⟨a, ha⟩ : ∃ a, s.of[i]? = some a := ⟨_, List.getElem?_eq_getElem (by rw [h.len2]; exact hi)⟩
  obtain ⟨c, hc, hic⟩ := (h.mem i a).1 ha
  refine ⟨a, c, ha, hc, hic, ?_, fun e => (by rw [e] at hic; cases hic), ?_, fun j hj => ?_⟩
  · have := (List.getElem?_eq_some_iff.1 hc).1; rw [h.len] at this; exact this
  · have : (s.ch.map List.length)[a]? = some c.length := by simp [hc]
    have := le_sum this
    rw [h.tot] at this
    exact this
  · have := (h.mem j a).2 ⟨c, hc, hj⟩
    have := (List.getElem?_eq_some_iff.1 this).1
    rw [h.len2] at this
    exact this
theorem stepC_inv {n : Nat} {s : ChS} (h : InvC n s) {f t : Nat} (hf : f < n) (ht : t < n) : InvC n (stepC s f t) := by
  obtain ⟨a, x, ha, hx, hfx, han, -, -, hxn⟩ := h.of hf
  obtain ⟨b, y, hb, hy, hty, hbn, -, -, hyn⟩ := h.of ht
  unfold stepC
  split
  · rename_i hj
    unfold joins at hj
    rw [getD_of ha, getD_of hb, getD_of hx, getD_of hy] at hj ⊢
    obtain ⟨hab, hlast, hhead⟩ := hj
    have hch : ∀ q : Nat, ((s.ch.set a (x ++ y)).set b [])[q]? = if q = b then some [] else if q = a then some (x ++ y) else s.ch[q]? := by
      intro q
      rw [List.getElem?_set, List.length_set, h.len]
      by_cases hqb : b = q
      · rw [if_pos hqb, if_pos hbn, if_pos hqb.symm]
      · rw [if_neg hqb, if_neg (fun e => hqb e.symm), List.getElem?_set, h.len]
        by_cases hqa : a = q
        · rw [if_pos hqa, if_pos han, if_pos hqa.symm]
        · rw [if_neg hqa, if_neg (fun e => hqa e.symm)]
    have hof : ∀ q : Nat, (fillL y a s.of)[q]? = if q ∈ y then some a else s.of[q]? := by
      intro q
      rw [fillL_get]
      by_cases hq : q ∈ y
      · rw [if_pos ⟨hq, by rw [h.len2]; exact hyn q hq⟩, if_pos hq]
      · rw [if_neg (fun e => hq e.1), if_neg hq]
    refine ⟨by simp [h.len], by rw [fillL_len]; exact h.len2, fun i q => ?_, fun q c hc => ?_, fun q c hc => ?_, ?_⟩
    · show (fillL y a s.of)[i]? = some q ↔ _
      rw [hof]
      constructor
      · intro hi
        split at hi
        · rename_i hiy
          injection hi with hi
          subst hi
          exact ⟨x ++ y, by rw [hch, if_neg hab, if_pos rfl], List.mem_append_right _ hiy⟩
        · rename_i hiy
          obtain ⟨c, hc, hic⟩ := (h.mem i q).1 hi
          have hqb : q ≠ b := fun e => by subst e; rw [hy] at hc; injection hc with hc; subst hc; exact hiy hic
          by_cases hqa : q = a
          · subst hqa
            rw [hx] at hc
            injection hc with hc
            subst hc
            exact ⟨x ++ y, by rw [hch, if_neg hqb, if_pos rfl], List.mem_append_left _ hic⟩
          · exact ⟨c, by rw [hch, if_neg hqb, if_neg hqa]; exact hc, hic⟩
      · rintro ⟨c, hc, hic⟩
        rw [hch] at hc
        split at hc
        · injection hc with hc; subst hc; cases hic
        · split at hc
          · rename_i hqb hqa
            injection hc with hc
            subst hc hqa
            rcases List.mem_append.1 hic with e | e
            · have hiq := (h.mem i q).2 ⟨x, hx, e⟩
              rw [if_neg (fun e2 => by
                have := (h.mem i b).2 ⟨y, hy, e2⟩
                rw [hiq] at this
                injection this with this
                exact hab this)]
              exact hiq
            · rw [if_pos e]
          · rename_i hqb hqa
            have hiq := (h.mem i q).2 ⟨c, hc, hic⟩
            rw [if_neg (fun e2 => by
              have := (h.mem i b).2 ⟨y, hy, e2⟩
              rw [hiq] at this
              injection this with this
              exact hqb this)]
            exact hiq
    · rw [hch] at hc
      split at hc
      · injection hc with hc; subst hc; exact List.nodup_nil
      · split at hc
        · injection hc with hc
          subst hc
          rw [List.nodup_append]
          refine ⟨h.nodup a x hx, h.nodup b y hy, fun i hi j hj e => ?_⟩
          subst e
          have e1 := (h.mem i a).2 ⟨x, hx, hi⟩
          have e2 := (h.mem i b).2 ⟨y, hy, hj⟩
          rw [e1] at e2
          injection e2 with e2
          exact hab e2
        · exact h.nodup q c hc
    · rw [hch] at hc
      split at hc
      · injection hc with hc; exact .inl hc.symm
      · split at hc
        · rename_i hqb hqa
          injection hc with hc
          subst hc hqa
          rcases h.head q x hx with e | e
          · rw [e] at hlast; cases hlast
          · right
            cases x with
            | nil => cases hfx
            | cons p r => exact e
        · exact h.head q c hc
    · show (((s.ch.set a (x ++ y)).set b []).map List.length).sum = n
      rw [List.map_set, List.map_set]
      have e1 : (s.ch.map List.length)[a]? = some x.length := by simp [hx]
      have e2 : ((s.ch.map List.length).set a (x ++ y).length)[b]? = some y.length := by
        rw [List.getElem?_set, if_neg hab]
        simp [hy]
      have s1 := sum_set (x ++ y).length e1
      have s2 := sum_set ([] : List Nat).length e2
      have := h.tot
      rw [List.length_append] at s1 s2 ⊢
      simp only [List.length_nil] at s2 ⊢
      omega
  · exact h
end Go.Proofs.Ythnkikdbllkmkaa
