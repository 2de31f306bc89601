/- Plain: a rotation, and the merging of two sorted neighbours in place by rotations (slices.symMergeCmpFunc). -/
import Derived.Test.YthnkikdbllkmkaaSj
namespace Go.Proofs.Ythnkikdbllkmkaa
set_option linter.unusedVariables false
open Go.Sort (swp PermIn permIn_refl permIn_trans permIn_mono permIn_all swp_permIn swp_left swp_right swp_other size_swp)
variable {α : Type} [Inhabited α]

/-- Each place holds what lies before each later one's. -/
def Srt (r : α → α → Prop) (a b : Nat) (d : Array α) : Prop := ∀ i j, a ≤ i → i < j → j < b → r d[i]! d[j]!
def Bef (q : α → α → Prop) (a m b : Nat) (d : Array α) : Prop := ∀ i j, a ≤ i → i < m → m ≤ j → j < b → q d[i]! d[j]!
/-- [a, m) and [m, b) change places. -/
structure RotAt (a m b : Nat) (d d' : Array α) : Prop where
  perm : PermIn a b d d'
  lo : ∀ k, a ≤ k → k < a + (b - m) → d'[k]! = d[k - a + m]!
  hi : ∀ k, a + (b - m) ≤ k → k < b → d'[k]! = d[k - (b - m)]!
theorem RotAt.out {a m b : Nat} {d d' : Array α} (h : RotAt a m b d d') (k : Nat) (hk : k < a ∨ b ≤ k) : d'[k]! = d[k]! := h.perm.2.1 k hk
theorem RotAt.same {a m b : Nat} (d : Array α) (h : a = m ∨ m = b) : RotAt a m b d d where
  perm := permIn_refl d a b
  lo k h1 h2 := by congr 1; omega
  hi k h1 h2 := by congr 1; omega

/-- n places from a on change with n from b on. -/
def swapN (d : Array α) (a b : Nat) : Nat → Array α
  | 0 => d
  | n + 1 => swp (swapN d a b n) (a + n) (b + n)
theorem swapN_size (d : Array α) (a b : Nat) : ∀ n, (swapN d a b n).size = d.size
  | 0 => rfl
  | n + 1 => by rw [swapN, size_swp, swapN_size d a b n]
theorem swapN_at (d : Array α) (a b : Nat) : ∀ n, a + n ≤ b → b + n ≤ d.size → (∀ k, a ≤ k → k < a + n → (swapN d a b n)[k]! = d[k - a + b]!) ∧ (∀ k, b ≤ k → k < b + n → (swapN d a b n)[k]! = d[k - b + a]!) ∧ ∀ k, ¬ (a ≤ k ∧ k < a + n) → ¬ (b ≤ k ∧ k < b + n) → (swapN d a b n)[k]! = d[k]!
  | 0, h1, h2 => ⟨fun k _ _ => by omega, fun k _ _ => by omega, fun _ _ _ => rfl⟩
  | n + 1, h1, h2 => by
    obtain ⟨i1, i2, i3⟩ := swapN_at d a b n (by omega) (by omega)
    have hs := swapN_size d a b n
    refine ⟨fun k hk1 hk2 => ?_, fun k hk1 hk2 => ?_, fun k hk1 hk2 => ?_⟩
    · rw [swapN]
      by_cases e : k = a + n
      · subst e
        rw [swp_left _ _ _ (by omega) (by omega), i3 (b + n) (by omega) (by omega)]
        congr 1
        omega
      · rw [swp_other _ _ _ _ e (by omega), i1 k hk1 (by omega)]
    · rw [swapN]
      by_cases e : k = b + n
      · subst e
        rw [swp_right _ _ _ (by omega), i3 (a + n) (by omega) (by omega)]
        congr 1
        omega
      · rw [swp_other _ _ _ _ (by omega) e, i2 k hk1 (by omega)]
    · rw [swapN, swp_other _ _ _ _ (by omega) (by omega), i3 k (by omega) (by omega)]
theorem swapN_perm (d : Array α) (a b lo hi : Nat) : ∀ n, lo ≤ a → a + n ≤ b → b + n ≤ hi → hi ≤ d.size → PermIn lo hi d (swapN d a b n)
  | 0, _, _, _, _ => permIn_refl d lo hi
  | n + 1, h0, h1, h2, h3 => permIn_trans _ _ _ _ _ (swapN_perm d a b lo hi n h0 (by omega) (by omega) h3) (swp_permIn _ _ _ _ _ (by omega) (by omega) (by omega) (by omega) (by rw [swapN_size]; omega))

theorem rot_eq (d : Array α) (m i : Nat) (hm : i ≤ m) (hb : m + i ≤ d.size) : RotAt (m - i) m (m + i) d (swapN d (m - i) m i) := by
  obtain ⟨h1, h2, h3⟩ := swapN_at d (m - i) m i (by omega) hb
  refine ⟨swapN_perm d _ _ _ _ i (Nat.le_refl _) (by omega) (Nat.le_refl _) hb, fun k hk1 hk2 => h1 k hk1 (by omega), fun k hk1 hk2 => ?_⟩
  rw [h2 k (by omega) (by omega)]
  congr 1
  omega
theorem rot_gt {d df : Array α} {m i j : Nat} (hm : i ≤ m) (hb : m + j ≤ d.size) (hij : j < i) (h : RotAt (m - (i - j)) m (m + j) (swapN d (m - i) m j) df) : RotAt (m - i) m (m + j) d df := by
  obtain ⟨h1, h2, h3⟩ := swapN_at d (m - i) m j (by omega) hb
  have hs := swapN_size d (m - i) m j
  refine ⟨permIn_trans _ _ _ _ _ (swapN_perm d _ _ _ _ j (Nat.le_refl _) (by omega) (Nat.le_refl _) hb) (permIn_mono _ _ _ _ _ _ (by omega) (Nat.le_refl _) (by omega) h.perm), fun k hk1 hk2 => ?_, fun k hk1 hk2 => ?_⟩
  · rw [h.out k (by omega), h1 k hk1 (by omega)]
  · by_cases e : k < m - (i - j) + j
    · rw [h.lo k (by omega) (by omega), h2 _ (by omega) (by omega)]
      congr 1
      omega
    · rw [h.hi k (by omega) (by omega), h3 _ (by omega) (by omega)]
theorem rot_lt {d df : Array α} {m i j : Nat} (hm : i ≤ m) (hb : m + j ≤ d.size) (hij : i < j) (h : RotAt (m - i) m (m + (j - i)) (swapN d (m - i) (m + j - i) i) df) : RotAt (m - i) m (m + j) d df := by
  obtain ⟨h1, h2, h3⟩ := swapN_at d (m - i) (m + j - i) i (by omega) (by omega)
  have hs := swapN_size d (m - i) (m + j - i) i
  refine ⟨permIn_trans _ _ _ _ _ (swapN_perm d _ _ _ _ i (Nat.le_refl _) (by omega) (by omega) hb) (permIn_mono _ _ _ _ _ _ (Nat.le_refl _) (by omega) (by omega) h.perm), fun k hk1 hk2 => ?_, fun k hk1 hk2 => ?_⟩
  · by_cases e : k < m - i + (j - i)
    · rw [h.lo k (by omega) (by omega)]
      by_cases e2 : m - i + (j - i) < m
      · rw [h3 _ (by omega) (by omega)]
      · by_cases e3 : k - (m - i) + m < m + j - i
        · rw [h3 _ (by omega) (by omega)]
        · omega
    · by_cases e4 : k < m + (j - i)
      · rw [h.hi k (by omega) (by omega), h1 _ (by omega) (by omega)]
        congr 1
        omega
      · rw [h.out k (by omega)]
        omega
  · by_cases e4 : k < m + (j - i)
    · omega
    · rw [h.out k (by omega), h2 _ (by omega) (by omega)]
      congr 1
      omega
/-- One step more of the place that is carried upwards. -/
theorem rot_up {d dk : Array α} {a k : Nat} (hak : a ≤ k) (hk : k + 1 < d.size) (h : RotAt a (a + 1) (k + 1) d dk) : RotAt a (a + 1) (k + 2) d (swp dk k (k + 1)) := by
  have hs := h.perm.1
  refine ⟨permIn_trans _ _ _ _ _ (permIn_mono _ _ _ _ _ _ (Nat.le_refl _) (by omega) (by omega) h.perm) (swp_permIn _ _ _ _ _ (by omega) (by omega) (by omega) (by omega) (by omega)), fun x h1 h2 => ?_, fun x h1 h2 => ?_⟩
  · by_cases e : x = k
    · subst e
      rw [swp_left _ _ _ (by omega) (by omega), h.out _ (by omega)]
      congr 1
      omega
    · rw [swp_other _ _ _ _ e (by omega), h.lo x h1 (by omega)]
  · obtain rfl : x = k + 1 := by omega
    rw [swp_right _ _ _ (by omega), h.hi k (by omega) (by omega)]
    congr 1
    omega
/-- .. downwards. -/
theorem rot_down {d dk : Array α} {m k : Nat} (hkm : k + 1 ≤ m) (hm : m < d.size) (h : RotAt (k + 1) m (m + 1) d dk) : RotAt k m (m + 1) d (swp dk (k + 1) k) := by
  have hs := h.perm.1
  refine ⟨permIn_trans _ _ _ _ _ (permIn_mono _ _ _ _ _ _ (by omega) (Nat.le_refl _) (by omega) h.perm) (swp_permIn _ _ _ _ _ (by omega) (by omega) (by omega) (by omega) (by omega)), fun x h1 h2 => ?_, fun x h1 h2 => ?_⟩
  · obtain rfl : x = k := by omega
    rw [swp_right _ _ _ (by omega), h.lo (x + 1) (by omega) (by omega)]
    congr 1
    omega
  · by_cases e : x = k + 1
    · subst e
      rw [swp_left _ _ _ (by omega) (by omega), h.out _ (by omega)]
      congr 1
      omega
    · rw [swp_other _ _ _ _ e (by omega), h.hi x (by omega) (by omega)]

/-- A comparison that, asked of a later one and an earlier one, settles an order. -/
structure Stb (lt : α → α → Bool) (r q : α → α → Prop) : Prop where
  trans : ∀ x y z, r x y → r y z → r x z
  yes : ∀ x y, q x y → lt y x = true → r y x
  no : ∀ x y, q x y → lt y x = false → r x y
variable {lt : α → α → Bool} {r q : α → α → Prop}

/-- The first alone, carried up to its place. -/
theorem sym_up (O : Stb lt r q) {a i b : Nat} {d d' : Array α} (hai : a + 1 ≤ i) (hib : i ≤ b) (hS : Srt r (a + 1) b d) (hB : Bef q a (a + 1) b d)
    (h1 : a + 1 < i → lt d[i - 1]! d[a]! = true) (h2 : i < b → lt d[i]! d[a]! = false) (h : RotAt a (a + 1) i d d') : Srt r a b d' := by
  have e1 : ∀ k, a ≤ k → k < i - 1 → d'[k]! = d[k + 1]! := fun k hk1 hk2 => by rw [h.lo k hk1 (by omega)]; congr 1; omega
  have e2 : d'[i - 1]! = d[a]! := by rw [h.hi (i - 1) (by omega) (by omega)]; congr 1; omega
  have e3 : ∀ k, i ≤ k → d'[k]! = d[k]! := fun k hk => h.out k (.inr hk)
  intro k l hk hkl hl
  by_cases c1 : k < i - 1
  · rw [e1 k hk c1]
    by_cases c2 : l < i - 1
    · rw [e1 l (by omega) c2]
      exact hS _ _ (by omega) (by omega) (by omega)
    · by_cases c3 : l = i - 1
      · rw [c3, e2]
        have hy := O.yes _ _ (hB a (i - 1) (Nat.le_refl _) (by omega) (by omega) (by omega)) (h1 (by omega))
        by_cases c4 : k + 1 = i - 1
        · rw [c4]; exact hy
        · exact O.trans _ _ _ (hS (k + 1) (i - 1) (by omega) (by omega) (by omega)) hy
      · rw [e3 l (by omega)]
        exact hS _ _ (by omega) (by omega) (by omega)
  · by_cases c5 : k = i - 1
    · rw [c5, e2, e3 l (by omega)]
      have hn := O.no _ _ (hB a i (Nat.le_refl _) (by omega) (by omega) (by omega)) (h2 (by omega))
      by_cases c6 : l = i
      · rw [c6]; exact hn
      · exact O.trans _ _ _ hn (hS i l (by omega) (by omega) (by omega))
    · rw [e3 k (by omega), e3 l (by omega)]
      exact hS _ _ (by omega) (by omega) (by omega)
/-- The last alone, carried down to its place. -/
theorem sym_down (O : Stb lt r q) {a i m : Nat} {d d' : Array α} (hai : a ≤ i) (him : i ≤ m) (hS : Srt r a m d) (hB : Bef q a m (m + 1) d)
    (h1 : a < i → lt d[m]! d[i - 1]! = false) (h2 : i < m → lt d[m]! d[i]! = true) (h : RotAt i m (m + 1) d d') : Srt r a (m + 1) d' := by
  have e1 : ∀ k, k < i → d'[k]! = d[k]! := fun k hk => h.out k (.inl hk)
  have e2 : d'[i]! = d[m]! := by rw [h.lo i (by omega) (by omega)]; congr 1; omega
  have e3 : ∀ k, i + 1 ≤ k → k < m + 1 → d'[k]! = d[k - 1]! := fun k hk hk2 => by rw [h.hi k (by omega) (by omega)]; congr 1; omega
  intro k l hk hkl hl
  by_cases c1 : k < i
  · rw [e1 k c1]
    have hn := O.no _ _ (hB (i - 1) m (by omega) (by omega) (by omega) (by omega)) (h1 (by omega))
    by_cases c2 : l < i
    · rw [e1 l c2]
      exact hS _ _ (by omega) (by omega) (by omega)
    · by_cases c3 : l = i
      · rw [c3, e2]
        by_cases c4 : k = i - 1
        · rw [c4]; exact hn
        · exact O.trans _ _ _ (hS k (i - 1) (by omega) (by omega) (by omega)) hn
      · rw [e3 l (by omega) (by omega)]
        exact hS _ _ (by omega) (by omega) (by omega)
  · by_cases c5 : k = i
    · rw [c5, e2, e3 l (by omega) (by omega)]
      have hy := O.yes _ _ (hB i m (by omega) (by omega) (by omega) (by omega)) (h2 (by omega))
      by_cases c6 : l - 1 = i
      · rw [c6]; exact hy
      · exact O.trans _ _ _ hy (hS i (l - 1) (by omega) (by omega) (by omega))
    · rw [e3 k (by omega) (by omega), e3 l (by omega) (by omega)]
      exact hS _ _ (by omega) (by omega) (by omega)

/-- What the turn about the middle leaves to do. -/
structure Turned (r q : α → α → Prop) (a st mid en b : Nat) (d : Array α) : Prop where
  s1 : Srt r a st d
  s2 : Srt r st mid d
  b1 : Bef q a st mid d
  s3 : Srt r mid en d
  s4 : Srt r en b d
  b2 : Bef q mid en b d
  x : Bef r a mid b d
theorem sym_turn (O : Stb lt r q) {a m b mid st en : Nat} {d d' : Array α} (ha : a ≤ st) (hm1 : a < mid) (hm2 : mid < b) (hsm : st ≤ m) (hsd : st ≤ mid) (hn : st + en = mid + m) (heb : en ≤ b) (hS1 : Srt r a m d) (hS2 : Srt r m b d) (hB : Bef q a m b d)
    (h1 : a < st → en < b → lt d[en]! d[st - 1]! = false) (h2 : st < m → m < en → lt d[en - 1]! d[st]! = true) (h : RotAt st m en d d') : Turned r q a st mid en b d' := by
  have e1 : ∀ k, k < st → d'[k]! = d[k]! := fun k hk => h.out k (.inl hk)
  have e2 : ∀ k, st ≤ k → k < mid → d'[k]! = d[k - st + m]! := fun k hk1 hk2 => h.lo k hk1 (by omega)
  have e3 : ∀ k, mid ≤ k → k < en → d'[k]! = d[k - (en - m)]! := fun k hk1 hk2 => h.hi k (by omega) hk2
  have e4 : ∀ k, en ≤ k → d'[k]! = d[k]! := fun k hk => h.out k (.inr hk)
  refine ⟨fun i j hi hij hj => ?_, fun i j hi hij hj => ?_, fun i j hi hij hj hjb => ?_, fun i j hi hij hj => ?_, fun i j hi hij hj => ?_, fun i j hi hij hj hjb => ?_, fun i j hi hij hj hjb => ?_⟩
  · rw [e1 i (by omega), e1 j hj]; exact hS1 _ _ hi hij (by omega)
  · rw [e2 i hi (by omega), e2 j (by omega) hj]; exact hS2 _ _ (by omega) (by omega) (by omega)
  · rw [e1 i hij, e2 j hj hjb]; exact hB _ _ hi (by omega) (by omega) (by omega)
  · rw [e3 i hi (by omega), e3 j (by omega) hj]; exact hS1 _ _ (by omega) (by omega) (by omega)
  · rw [e4 i hi, e4 j (by omega)]; exact hS2 _ _ (by omega) (by omega) (by omega)
  · rw [e3 i hi (by omega), e4 j hj]; exact hB _ _ (by omega) (by omega) (by omega) (by omega)
  · by_cases c1 : i < st
    · rw [e1 i c1]
      by_cases c2 : j < en
      · rw [e3 j hj c2]; exact hS1 _ _ (by omega) (by omega) (by omega)
      · rw [e4 j (by omega)]
        have hno := O.no _ _ (hB (st - 1) en (by omega) (by omega) (by omega) (by omega)) (h1 (by omega) (by omega))
        have hl : r d[i]! d[en]! := by
          by_cases c3 : i = st - 1
          · rw [c3]; exact hno
          · exact O.trans _ _ _ (hS1 i (st - 1) hi (by omega) (by omega)) hno
        by_cases c4 : j = en
        · rw [c4]; exact hl
        · exact O.trans _ _ _ hl (hS2 en j (by omega) (by omega) hjb)
    · rw [e2 i (by omega) hij]
      by_cases c2 : j < en
      · rw [e3 j hj c2]
        have hy := O.yes _ _ (hB st (en - 1) (by omega) (by omega) (by omega) (by omega)) (h2 (by omega) (by omega))
        have hl : r d[i - st + m]! d[st]! := by
          by_cases c3 : i - st + m = en - 1
          · rw [c3]; exact hy
          · exact O.trans _ _ _ (hS2 _ (en - 1) (by omega) (by omega) (by omega)) hy
        by_cases c4 : j - (en - m) = st
        · rw [c4]; exact hl
        · exact O.trans _ _ _ hl (hS1 st _ (by omega) (by omega) (by omega))
      · rw [e4 j (by omega)]
        exact hS2 _ _ (by omega) (by omega) hjb
/-- Both halves in order, and the one ahead of the other. -/
theorem sym_join {a mid b : Nat} {d d1 d2 : Array α} (hm : a ≤ mid) (hmb : mid ≤ b) (hb : b ≤ d.size) (hX : Bef r a mid b d) (p1 : PermIn a mid d d1) (s1 : Srt r a mid d1) (p2 : PermIn mid b d1 d2) (s2 : Srt r mid b d2) : Srt r a b d2 := by
  have hz := p1.1
  have x1 : Bef r a mid b d1 := fun i j hi hij hj hjb => by
    rw [p1.2.1 j (.inr hj)]
    exact permIn_all d d1 a mid (fun x => r x d[j]!) (by omega) p1 (fun i hi hij => hX i j hi hij hj hjb) i hi hij
  have x2 : Bef r a mid b d2 := fun i j hi hij hj hjb => by
    rw [p2.2.1 i (.inl hij)]
    exact permIn_all d1 d2 mid b (fun x => r d1[i]! x) (by omega) p2 (fun j hj hjb => x1 i j hi hij hj hjb) j hj hjb
  intro i j hi hij hj
  by_cases c1 : j < mid
  · rw [p2.2.1 i (.inl (by omega)), p2.2.1 j (.inl c1)]; exact s1 i j hi hij c1
  · by_cases c2 : i < mid
    · exact x2 i j hi c2 (by omega) hj
    · exact s2 i j (by omega) hij hj
end Go.Proofs.Ythnkikdbllkmkaa
