/- Plain: the heaviest edge that was not gone through, found by looking at all: it is the next one in the sorted row. -/
import Derived.Test.YthnkikdbllkmkaaYu
import Derived.Test.YthnkikdbllkmkaaQa
namespace Go.Proofs.Ythnkikdbllkmkaa
set_option linter.unusedVariables false
set_option linter.unusedSimpArgs false

def leadsD (bs : List Block) (i k : Nat) : Prop := ∃ b, bs[i]? = some b ∧ k ≠ 0 ∧ k ≠ i ∧ ((b.fin.kind = 1 ∨ b.fin.kind = 2) ∧ b.fin.to = (k : Int) ∨ b.fin.kind = 2 ∧ b.fin.els = (k : Int))
theorem putE_iff {l : List Edge} {nm : ByteArray} {i t : Int} {e : Edg} : e ∈ putE l nm i t ↔ e = mkE l nm i t ∧ t ≠ 0 ∧ t ≠ i := by
  unfold putE
  split
  · rename_i h; rw [List.mem_singleton]; exact ⟨fun e => ⟨e, h⟩, fun e => e.1⟩
  · rename_i h; exact ⟨fun e => (by cases e), fun e => absurd e.2 h⟩
theorem atE_iff {l : List Edge} {nm : ByteArray} {i : Nat} {b : Block} {e : Edg} : e ∈ atE l nm i b ↔ ∃ t : Int, e = mkE l nm i t ∧ t ≠ 0 ∧ t ≠ i ∧ ((b.fin.kind = 1 ∨ b.fin.kind = 2) ∧ b.fin.to = t ∨ b.fin.kind = 2 ∧ b.fin.els = t) := by
  unfold atE
  split
  · rename_i h2
    rw [List.mem_append, putE_iff, putE_iff]
    constructor
    · rintro (⟨h, h3⟩ | ⟨h, h3⟩)
      · exact ⟨_, h, h3.1, h3.2, .inr ⟨h2, rfl⟩⟩
      · exact ⟨_, h, h3.1, h3.2, .inl ⟨.inr h2, rfl⟩⟩
    · rintro ⟨t, h, h3, h4, (⟨-, rfl⟩ | ⟨-, rfl⟩)⟩
      · exact .inr ⟨h, h3, h4⟩
      · exact .inl ⟨h, h3, h4⟩
  · rename_i h2
    split
    · rename_i h1
      rw [putE_iff]
      constructor
      · rintro ⟨h, h3⟩
        exact ⟨_, h, h3.1, h3.2, .inl ⟨.inl h1, rfl⟩⟩
      · rintro ⟨t, h, h3, h4, (⟨-, rfl⟩ | ⟨h5, -⟩)⟩
        · exact ⟨h, h3, h4⟩
        · exact absurd h5 h2
    · rename_i h1
      constructor
      · intro h; cases h
      · rintro ⟨t, h, h3, h4, (⟨(h5 | h5), -⟩ | ⟨h5, -⟩)⟩
        · exact absurd h5 h1
        · exact absurd h5 h2
        · exact absurd h5 h2
theorem rawTo_iff {l : List Edge} {nm : ByteArray} {bs : List Block} {e : Edg} : ∀ m, e ∈ rawTo l nm bs m ↔ ∃ i b, i < m ∧ bs[i]? = some b ∧ e ∈ atE l nm i b
  | 0 => ⟨fun h => (by cases h), fun ⟨i, b, h, _⟩ => (by omega)⟩
  | m + 1 => by
    show e ∈ rawTo l nm bs m ++ _ ↔ _
    rw [List.mem_append, rawTo_iff m]
    constructor
    · rintro (⟨i, b, h1, h2, h3⟩ | h)
      · exact ⟨i, b, by omega, h2, h3⟩
      · split at h
        · rename_i b hb
          exact ⟨m, b, by omega, hb, h⟩
        · cases h
    · rintro ⟨i, b, h1, h2, h3⟩
      by_cases c : i < m
      · exact .inl ⟨i, b, c, h2, h3⟩
      · obtain rfl : i = m := by omega
        right
        rw [h2]
        exact h3
/-- Sorted, equal ones next to each other: of each one is left. -/
theorem ddN_strict {ys : List Edg} (hp : ys.Pairwise (fun x y => ¬ ltE y x)) : ∀ m, m ≤ ys.length → (ddN ys m).Pairwise ltE ∧ ∀ e, e ∈ ddN ys m ↔ ∃ j, j < m ∧ ys[j]? = some e
  | 0, _ => ⟨List.Pairwise.nil, fun e => ⟨fun h => (by cases h), fun ⟨j, h, _⟩ => by omega⟩⟩
  | m + 1, hm => by
    obtain ⟨h1, h2⟩ := ddN_strict hp m (by omega)
    obtain ⟨x, hx⟩ := get_some ys m (by omega)
    have hord : ∀ j z, j < m → ys[j]? = some z → ¬ ltE x z := fun j z hj hz => by
      rw [List.pairwise_iff_getElem] at hp
      obtain ⟨a1, a2⟩ := List.getElem?_eq_some_iff.1 hz
      obtain ⟨b1, b2⟩ := List.getElem?_eq_some_iff.1 hx
      have := hp j m a1 b1 hj
      rw [a2, b2] at this
      exact this
    by_cases c : 0 < m ∧ ys[m]? = ys[m - 1]?
    · rw [ddN_skip c.1 c.2]
      refine ⟨h1, fun e => (h2 e).trans ⟨fun ⟨j, h, k⟩ => ⟨j, by omega, k⟩, fun ⟨j, h, k⟩ => ?_⟩⟩
      by_cases c2 : j < m
      · exact ⟨j, c2, k⟩
      · obtain rfl : j = m := by omega
        exact ⟨j - 1, by omega, by rw [← c.2]; exact k⟩
    · rw [ddN_keep hx c]
      refine ⟨?_, fun e => ?_⟩
      · rw [List.pairwise_append]
        refine ⟨h1, List.pairwise_singleton _ _, fun z hz y hy => ?_⟩
        rw [List.mem_singleton] at hy
        subst hy
        obtain ⟨j, hj, hjz⟩ := (h2 z).1 hz
        by_cases e : ltE z y
        · exact e
        · exfalso
          have hzy := ltE_total e (hord j z hj hjz)
          subst hzy
          refine c ⟨by omega, ?_⟩
          obtain ⟨u, hu⟩ := get_some ys (m - 1) (by omega)
          rw [hx, hu]
          by_cases c3 : j = m - 1
          · rw [← c3, hjz] at hu; exact hu
          · have n1 := hord (m - 1) u (by omega) hu
            have n2 : ¬ ltE u z := by
              rw [List.pairwise_iff_getElem] at hp
              obtain ⟨a1, a2⟩ := List.getElem?_eq_some_iff.1 hjz
              obtain ⟨b1, b2⟩ := List.getElem?_eq_some_iff.1 hu
              have := hp j (m - 1) a1 b1 (by omega)
              rw [a2, b2] at this
              exact this
            rw [ltE_total n1 n2]
      · rw [List.mem_append, h2, List.mem_singleton]
        constructor
        · rintro (⟨j, h, k⟩ | rfl)
          · exact ⟨j, by omega, k⟩
          · exact ⟨m, by omega, hx⟩
        · rintro ⟨j, h, k⟩
          by_cases c2 : j < m
          · exact .inl ⟨j, c2, k⟩
          · obtain rfl : j = m := by omega
            rw [hx] at k
            injection k with k
            exact .inr k.symm
theorem edgesD_strict (l : List Edge) (nm : ByteArray) (bs : List Block) : (edgesD l nm bs).Pairwise ltE := (ddN_strict (sortE_pairwise _) _ (Nat.le_refl _)).1
theorem edgesD_mem {l : List Edge} {nm : ByteArray} {bs : List Block} {e : Edg} : e ∈ edgesD l nm bs ↔ e ∈ rawTo l nm bs bs.length := by
  unfold edgesD
  rw [(ddN_strict (sortE_pairwise _) _ (Nat.le_refl _)).2, ← (sortE_perm (rawTo l nm bs bs.length)).mem_iff]
  constructor
  · rintro ⟨j, -, h⟩; exact List.mem_of_getElem? h
  · intro h
    obtain ⟨j, hj⟩ := List.mem_iff_getElem?.1 h
    exact ⟨j, (List.getElem?_eq_some_iff.1 hj).1, hj⟩
theorem edges_leads {l : List Edge} {nm : ByteArray} {bs : List Block} {i k : Nat} : mkE l nm i k ∈ edgesD l nm bs ↔ leadsD bs i k := by
  rw [edgesD_mem, rawTo_iff]
  constructor
  · rintro ⟨j, b, hj, hb, h⟩
    obtain ⟨t, e, h1, h2, h3⟩ := atE_iff.1 h
    have e1 : (i : Int) = (j : Int) := congrArg Edg.src e
    have e2 : (k : Int) = t := congrArg Edg.dst e
    obtain rfl : i = j := by omega
    subst e2
    exact ⟨b, hb, by omega, by omega, h3⟩
  · rintro ⟨b, hb, h1, h2, h3⟩
    exact ⟨i, b, (List.getElem?_eq_some_iff.1 hb).1, hb, atE_iff.2 ⟨k, rfl, by omega, by omega, h3⟩⟩
theorem edges_form {l : List Edge} {nm : ByteArray} {bs : List Block} (hl : Leads bs) {e : Edg} (h : e ∈ edgesD l nm bs) : ∃ i k : Nat, e = mkE l nm i k ∧ i < bs.length ∧ k < bs.length ∧ leadsD bs i k := by
  obtain ⟨f, t, h1, h2, h3, h4⟩ := edgesD_in hl e h
  obtain ⟨p, q, hpq⟩ := rawTo_form _ e (edgesD_mem.1 h)
  subst hpq
  have h1' : p = (f : Int) := h1
  have h2' : q = (t : Int) := h2
  subst h1' h2'
  exact ⟨f, t, rfl, h3, h4, edges_leads.1 h⟩

/-- Looked at: all of the rows ahead of a, and what is ahead of c in a's. -/
def Scn (n a c i k : Nat) : Prop := k < n ∧ (i < a ∨ (i = a ∧ k < c))
/-- The best of those that were looked at, and not gone through. -/
def Best (l : List Edge) (nm : ByteArray) (bs : List Block) (E : List Edg) (a c : Nat) (f t : Int) (w : Nat) : Prop :=
  (f = -1 ∧ ∀ i k, Scn bs.length a c i k → leadsD bs i k → mkE l nm i k ∈ E) ∨
  ∃ i k : Nat, f = (i : Int) ∧ t = (k : Int) ∧ w = ofW l nm i k ∧ Scn bs.length a c i k ∧ leadsD bs i k ∧ mkE l nm i k ∉ E ∧ ∀ i' k', Scn bs.length a c i' k' → leadsD bs i' k' → mkE l nm i' k' ∉ E → (i' = i ∧ k' = k) ∨ ltE (mkE l nm i k) (mkE l nm i' k')
theorem Best.start (l : List Edge) (nm : ByteArray) (bs : List Block) (E : List Edg) (t : Int) (w : Nat) : Best l nm bs E 0 0 (-1) t w := .inl ⟨rfl, fun i k h => by have := h.2; omega⟩
theorem Best.mono {l : List Edge} {nm : ByteArray} {bs : List Block} {E : List Edg} {a c a' c' : Nat} {f t : Int} {w : Nat} (h : Best l nm bs E a c f t w) (h1 : ∀ i k, Scn bs.length a c i k → Scn bs.length a' c' i k) (h2 : ∀ i k, Scn bs.length a' c' i k → leadsD bs i k → mkE l nm i k ∉ E → Scn bs.length a c i k) : Best l nm bs E a' c' f t w := by
  rcases h with ⟨hf, h⟩ | ⟨i, k, e1, e2, e3, e4, e5, e6, e7⟩
  · exact .inl ⟨hf, fun i k hs hl => Classical.byContradiction (fun hn => hn (h i k (h2 i k hs hl hn) hl))⟩
  · exact .inr ⟨i, k, e1, e2, e3, h1 _ _ e4, e5, e6, fun i' k' hs hl hn => e7 i' k' (h2 i' k' hs hl hn) hl hn⟩
theorem Best.skip {l : List Edge} {nm : ByteArray} {bs : List Block} {E : List Edg} {a c : Nat} {f t : Int} {w : Nat} (h : Best l nm bs E a c f t w) (hs : ¬ leadsD bs a c ∨ mkE l nm a c ∈ E) : Best l nm bs E a (c + 1) f t w :=
  h.mono (fun i k ⟨h1, h2⟩ => ⟨h1, by omega⟩) (fun i k ⟨h1, h2⟩ hl hn => ⟨h1, by
    by_cases e : i = a ∧ k = c
    · obtain ⟨rfl, rfl⟩ := e
      rcases hs with hs | hs
      · exact absurd hl hs
      · exact absurd hs hn
    · omega⟩)
theorem Best.row {l : List Edge} {nm : ByteArray} {bs : List Block} {E : List Edg} {a : Nat} {f t : Int} {w : Nat} (h : Best l nm bs E a bs.length f t w) : Best l nm bs E (a + 1) 0 f t w :=
  h.mono (fun i k ⟨h1, h2⟩ => ⟨h1, by omega⟩) (fun i k ⟨h1, h2⟩ _ _ => ⟨h1, by omega⟩)
theorem Best.take {l : List Edge} (hw : ∀ e ∈ l, e.wf) {nm : ByteArray} {bs : List Block} {E : List Edg} {a c : Nat} {f t : Int} {w : Nat} (h : Best l nm bs E a c f t w) (hc : c < bs.length) (hl : leadsD bs a c) (hn : mkE l nm a c ∉ E) (hf : f < 0 ∨ w < ofW l nm a c) : Best l nm bs E a (c + 1) (a : Int) (c : Int) (ofW l nm a c) := by
  refine .inr ⟨a, c, rfl, rfl, rfl, ⟨hc, .inr ⟨rfl, by omega⟩⟩, hl, hn, fun i' k' hs' hl' hn' => ?_⟩
  by_cases e : i' = a ∧ k' = c
  · exact .inl e
  · right
    have hs2 : Scn bs.length a c i' k' := ⟨hs'.1, by have := hs'.2; omega⟩
    rcases h with ⟨_, h⟩ | ⟨i, k, e1, e2, e3, e4, e5, e6, e7⟩
    · exact absurd (h i' k' hs2 hl') hn'
    · have hlt : w < ofW l nm a c := by rcases hf with hf | hf; omega; exact hf
      have h1 : ltE (mkE l nm a c) (mkE l nm i k) := by
        left
        rw [mkE_w hw, mkE_w hw, ← e3]
        exact hlt
      rcases e7 i' k' hs2 hl' hn' with ⟨rfl, rfl⟩ | h2
      · exact h1
      · exact ltE_trans h1 h2
theorem Best.keep {l : List Edge} (hw : ∀ e ∈ l, e.wf) {nm : ByteArray} {bs : List Block} {E : List Edg} {a c : Nat} {f t : Int} {w : Nat} (h : Best l nm bs E a c f t w) (hf : ¬ f < 0) (hle : ¬ w < ofW l nm a c) : Best l nm bs E a (c + 1) f t w := by
  rcases h with ⟨h0, _⟩ | ⟨i, k, e1, e2, e3, e4, e5, e6, e7⟩
  · omega
  · refine .inr ⟨i, k, e1, e2, e3, ⟨e4.1, by have := e4.2; omega⟩, e5, e6, fun i' k' hs' hl' hn' => ?_⟩
    by_cases e : i' = a ∧ k' = c
    · obtain ⟨rfl, rfl⟩ := e
      right
      have hs := e4.2
      unfold ltE
      rw [mkE_w hw, mkE_w hw, ← e3]
      show _ ∨ (_ ∧ ((i : Int) < (i' : Int) ∨ (i : Int) = (i' : Int) ∧ (k : Int) < (k' : Int)))
      omega
    · exact e7 i' k' ⟨hs'.1, by have := hs'.2; omega⟩ hl' hn'
theorem not_mem_take {E : List Edg} (hp : E.Pairwise ltE) {m : Nat} {e : Edg} (he : E[m]? = some e) : e ∉ E.take m := fun h => by
  obtain ⟨j, hj⟩ := List.mem_iff_getElem?.1 h
  rw [List.getElem?_take] at hj
  split at hj
  · rw [List.pairwise_iff_getElem] at hp
    obtain ⟨a1, a2⟩ := List.getElem?_eq_some_iff.1 hj
    obtain ⟨b1, b2⟩ := List.getElem?_eq_some_iff.1 he
    have := hp j m a1 b1 (by assumption)
    rw [a2, b2] at this
    exact ltE_irrefl _ this
  · cases hj
/-- All looked at. -/
theorem Best.done {l : List Edge} {nm : ByteArray} {bs : List Block} (hld : Leads bs) {m : Nat} {f t : Int} {w : Nat} (h : Best l nm bs ((edgesD l nm bs).take m) bs.length 0 f t w) (hm : m ≤ (edgesD l nm bs).length) :
    (f = -1 ∧ m = (edgesD l nm bs).length) ∨ ∃ i k : Nat, f = (i : Int) ∧ t = (k : Int) ∧ i < bs.length ∧ k < bs.length ∧ m < (edgesD l nm bs).length ∧ (edgesD l nm bs)[m]? = some (mkE l nm i k) := by
  have hp := edgesD_strict l nm bs
  by_cases hlt : m < (edgesD l nm bs).length
  · obtain ⟨e, he⟩ := get_some (edgesD l nm bs) m hlt
    have hn := not_mem_take hp he
    obtain ⟨i', k', rfl, h1, h2, h3⟩ := edges_form hld (List.mem_of_getElem? he)
    rcases h with ⟨hf, h⟩ | ⟨i, k, e1, e2, e3, e4, e5, e6, e7⟩
    · exact absurd (h i' k' ⟨h2, .inl h1⟩ h3) hn
    · right
      refine ⟨i, k, e1, e2, by have := e4.2; omega, e4.1, hlt, ?_⟩
      rcases e7 i' k' ⟨h2, .inl h1⟩ h3 hn with ⟨rfl, rfl⟩ | h4
      · exact he
      · exfalso
        obtain ⟨j, hj⟩ := List.mem_iff_getElem?.1 (edges_leads.2 e5 : mkE l nm i k ∈ edgesD l nm bs)
        rw [List.pairwise_iff_getElem] at hp
        obtain ⟨a1, a2⟩ := List.getElem?_eq_some_iff.1 hj
        obtain ⟨b1, b2⟩ := List.getElem?_eq_some_iff.1 he
        rcases Nat.lt_trichotomy j m with c | c | c
        · exact e6 (List.mem_iff_getElem?.2 ⟨j, by rw [List.getElem?_take, if_pos c]; exact hj⟩)
        · subst c
          rw [a2] at b2
          rw [b2] at h4
          exact ltE_irrefl _ h4
        · have := hp m j b1 a1 c
          rw [a2, b2] at this
          exact ltE_irrefl _ (ltE_trans this h4)
  · obtain rfl : m = (edgesD l nm bs).length := by omega
    left
    rw [List.take_length] at h
    rcases h with ⟨hf, _⟩ | ⟨i, k, e1, e2, e3, e4, e5, e6, e7⟩
    · exact ⟨hf, rfl⟩
    · exact absurd (edges_leads.2 e5) e6
/-- What was gone through, in rows of n. -/
def UsedB (l : List Edge) (nm : ByteArray) (n : Nat) (E : List Edg) (us : List Bool) : Prop := us.length = n * n ∧ ∀ (i k : Nat) (b : Bool), i < n → k < n → us[i * n + k]? = some b → (b = true ↔ mkE l nm i k ∈ E)
theorem row_lt {n i k : Nat} (hi : i < n) (hk : k < n) : i * n + k < n * n := by
  have : (i + 1) * n ≤ n * n := Nat.mul_le_mul_right _ hi
  rw [Nat.add_mul, Nat.one_mul] at this
  omega
theorem row_inj {n i k i' k' : Nat} (hk : k < n) (hk' : k' < n) (h : i * n + k = i' * n + k') : i = i' ∧ k = k' := by
  have hn : 0 < n := by omega
  have e : ∀ x y, y < n → (x * n + y) / n = x := fun x y hy => by rw [Nat.add_comm, Nat.add_mul_div_right _ _ hn, Nat.div_eq_of_lt hy, Nat.zero_add]
  have h1 := e i k hk
  rw [h, e i' k' hk'] at h1
  subst h1
  exact ⟨rfl, by omega⟩
theorem UsedB.start (l : List Edge) (nm : ByteArray) (n : Nat) : UsedB l nm n [] (List.replicate (n * n) false) := ⟨by simp, fun i k b hi hk h => by
  rw [List.getElem?_replicate, if_pos (row_lt hi hk)] at h
  injection h with h
  subst h
  simp⟩
theorem UsedB.set {l : List Edge} {nm : ByteArray} {n : Nat} {E : List Edg} {us : List Bool} (h : UsedB l nm n E us) {i k : Nat} (hi : i < n) (hk : k < n) : UsedB l nm n (E ++ [mkE l nm i k]) (us.set (i * n + k) true) := by
  refine ⟨by rw [List.length_set]; exact h.1, fun i' k' b hi' hk' hb => ?_⟩
  rw [List.mem_append, List.mem_singleton]
  by_cases c : i * n + k = i' * n + k'
  · obtain ⟨rfl, rfl⟩ := row_inj hk hk' c
    rw [List.getElem?_set, if_pos rfl, if_pos (by rw [h.1]; exact row_lt hi hk)] at hb
    injection hb with hb
    subst hb
    exact ⟨fun _ => .inr rfl, fun _ => rfl⟩
  · rw [List.getElem?_set, if_neg c] at hb
    rw [h.2 i' k' b hi' hk' hb]
    refine ⟨.inl, fun e => e.elim id (fun e => ?_)⟩
    exfalso
    have e1 : (i' : Int) = (i : Int) := congrArg Edg.src e
    have e2 : (k' : Int) = (k : Int) := congrArg Edg.dst e
    exact c (by rw [show i' = i by omega, show k' = k by omega])
end Go.Proofs.Ythnkikdbllkmkaa
