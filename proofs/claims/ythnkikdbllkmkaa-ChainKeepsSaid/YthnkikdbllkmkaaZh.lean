/- Plain: a row in the order of its places is sorted by insertion, and by the merging of blocks. -/
import Derived.Test.YthnkikdbllkmkaaZa
namespace Go.Proofs.Ythnkikdbllkmkaa
set_option linter.unusedVariables false
open Go.Sort (swp PermIn permIn_refl permIn_trans permIn_mono permIn_all swp_permIn swp_left swp_right swp_other size_swp insInner insOuter insertionSort)
variable {α : Type} [Inhabited α]
variable {lt : α → α → Bool} {r q : α → α → Prop}

theorem insInner_rot {a m : Nat} {d : Array α} (hm : m < d.size) : ∀ (k : Nat) (dk : Array α), a ≤ k → k ≤ m → RotAt k m (m + 1) d dk → (k < m → lt d[m]! d[k]! = true) → ∃ i, a ≤ i ∧ i ≤ m ∧ RotAt i m (m + 1) d (insInner lt a k dk) ∧ (a < i → lt d[m]! d[i - 1]! = false) ∧ (i < m → lt d[m]! d[i]! = true)
  | 0, dk, h1, h2, h3, h4 => ⟨0, h1, h2, h3, fun h => by omega, h4⟩
  | k + 1, dk, h1, h2, h3, h4 => by
    have e1 : dk[k + 1]! = d[m]! := by rw [h3.lo (k + 1) (by omega) (by omega)]; congr 1; omega
    have e2 : dk[k]! = d[k]! := h3.out k (.inl (by omega))
    unfold insInner
    rw [e1, e2]
    by_cases c1 : k + 1 > a
    · cases c2 : lt d[m]! d[k]! with
      | true =>
        rw [if_pos (by simp [c1])]
        exact insInner_rot hm k _ (by omega) (by omega) (rot_down h2 hm h3) (fun _ => c2)
      | false =>
        rw [if_neg (by simp)]
        exact ⟨k + 1, h1, h2, h3, fun _ => c2, h4⟩
    · rw [if_neg (by simp [c1])]
      exact ⟨k + 1, h1, h2, h3, fun h => by omega, h4⟩
theorem insOuter_srt (O : Stb lt r q) {a b : Nat} : ∀ (n i : Nat) (d : Array α), b - i = n → a ≤ i → i ≤ b → b ≤ d.size → Srt r a i d → Bef q a i b d → Srt q i b d → PermIn a b d (insOuter lt a b i d) ∧ Srt r a b (insOuter lt a b i d)
  | 0, i, d, hn, h1, h2, h3, h4, h5, h6 => by
    obtain rfl : i = b := by omega
    unfold insOuter
    rw [if_neg (by omega)]
    exact ⟨permIn_refl _ _ _, h4⟩
  | n + 1, i, d, hn, h1, h2, h3, h4, h5, h6 => by
    unfold insOuter
    rw [if_pos (by omega)]
    obtain ⟨k, k1, k2, k3, k4, k5⟩ := insInner_rot (lt := lt) (a := a) (m := i) (d := d) (by omega) i d h1 (Nat.le_refl _) (RotAt.same d (.inl rfl)) (fun h => by omega)
    generalize insInner lt a i d = d' at *
    have hz := k3.perm.1
    have s1 : Srt r a (i + 1) d' := sym_down O k1 k2 h4 (fun x y hx hxi hy hy2 => h5 x y hx hxi hy (by omega)) k4 k5 k3
    have p1 : PermIn a (i + 1) d d' := permIn_mono _ _ _ _ _ _ k1 (Nat.le_refl _) (by omega) k3.perm
    obtain ⟨r1, r2⟩ := insOuter_srt O (a := a) (b := b) n (i + 1) d' (by omega) (by omega) (by omega) (by omega) s1
      (fun x y hx hxi hy hy2 => by
        rw [p1.2.1 y (.inr hy)]
        exact permIn_all d d' a (i + 1) (fun z => q z d[y]!) (by omega) p1 (fun z hz hz2 => by
          by_cases c : z < i
          · exact h5 z y hz c (by omega) hy2
          · obtain rfl : z = i := by omega
            exact h6 z y (Nat.le_refl _) (by omega) hy2) x hx hxi)
      (fun x y hx hxy hy => by
        rw [p1.2.1 x (.inr hx), p1.2.1 y (.inr (by omega))]
        exact h6 x y (by omega) hxy hy)
    exact ⟨permIn_trans _ _ _ _ _ (permIn_mono d d' a (i + 1) a b (Nat.le_refl _) (by omega) (by omega) p1) r1, r2⟩
theorem insertion_srt (O : Stb lt r q) {a b : Nat} {d : Array α} (hab : a ≤ b) (hb : b ≤ d.size) (h : Srt q a b d) : PermIn a b d (insertionSort lt d a b) ∧ Srt r a b (insertionSort lt d a b) := by
  unfold insertionSort
  by_cases c : a < b
  · exact insOuter_srt O _ (a + 1) d rfl (by omega) c hb (fun x y _ _ _ => by omega) (fun x y hx hxa hy hy2 => h x y hx (by omega) hy2) (fun x y hx hxy hy => h x y (by omega) hxy hy)
  · unfold insOuter
    rw [if_neg (by omega)]
    exact ⟨permIn_refl _ _ _, fun x y _ _ _ => by omega⟩

/-- Up to a the row is sorted in groups of W; beyond in groups by c; whatever is not in one group is as it was. -/
def Mix (r q : α → α → Prop) (W : Nat) (c : Nat → Nat → Prop) (a n : Nat) (d : Array α) : Prop :=
  ∀ i j, i < j → j < n → (((j < a ∧ i / W = j / W) ∨ (a ≤ i ∧ c i j)) → r d[i]! d[j]!) ∧ (¬ ((j < a ∧ i / W = j / W) ∨ (a ≤ i ∧ c i j)) → q d[i]! d[j]!)
theorem div_apart {W t i j : Nat} (hW : 0 < W) (hi : i < t * W) (hj : t * W ≤ j) : i / W ≠ j / W := by
  have h1 : i / W < t := (Nat.div_lt_iff_lt_mul hW).2 hi
  have h2 : t ≤ j / W := (Nat.le_div_iff_mul_le hW).2 hj
  omega
theorem div_same {W t i j : Nat} (hW : 0 < W) (hi : t * W ≤ i) (hij : i ≤ j) (hj : j < t * W + W) : i / W = j / W := by
  have h1 : i / W < t + 1 := (Nat.div_lt_iff_lt_mul hW).2 (by rw [Nat.succ_mul]; omega)
  have h2 : t ≤ i / W := (Nat.le_div_iff_mul_le hW).2 hi
  have h3 : j / W < t + 1 := (Nat.div_lt_iff_lt_mul hW).2 (by rw [Nat.succ_mul]; omega)
  have h4 : t ≤ j / W := (Nat.le_div_iff_mul_le hW).2 (by omega)
  omega
theorem Mix.step {W : Nat} {c : Nat → Nat → Prop} {t b n : Nat} {d d' : Array α} (h : Mix r q W c (t * W) n d) (hW : 0 < W) (hb : t * W ≤ b) (hbn : b ≤ n) (hn : n ≤ d.size) (hbW : b ≤ t * W + W) (hp : PermIn (t * W) b d d') (hs : Srt r (t * W) b d')
    (hc : b < n → ∀ i j, t * W ≤ i → i < b → b ≤ j → ¬ c i j) : Mix r q W c b n d' := by
  have hz := hp.1
  intro i j hij hj
  by_cases c1 : j < t * W
  · rw [hp.2.1 i (.inl (by omega)), hp.2.1 j (.inl c1)]
    obtain ⟨h1, h2⟩ := h i j hij hj
    exact ⟨fun e => h1 (by rcases e with ⟨_, e⟩ | ⟨e, _⟩; exact .inl ⟨c1, e⟩; omega), fun e => h2 (fun e2 => e (by rcases e2 with ⟨_, e2⟩ | ⟨e2, _⟩; exact .inl ⟨by omega, e2⟩; omega))⟩
  · by_cases c2 : j < b
    · by_cases c3 : i < t * W
      · refine ⟨fun e => ?_, fun _ => ?_⟩
        · rcases e with ⟨_, e⟩ | ⟨e, _⟩
          · exact absurd e (div_apart hW c3 (by omega))
          · omega
        · rw [hp.2.1 i (.inl c3)]
          exact permIn_all d d' (t * W) b (fun x => q d[i]! x) (by omega) hp (fun z hz hz2 => (h i z (by omega) (by omega)).2 (fun e => by rcases e with ⟨e, _⟩ | ⟨e, _⟩ <;> omega)) j (by omega) c2
      · exact ⟨fun _ => hs i j (by omega) hij c2, fun e => absurd (Or.inl ⟨c2, div_same (t := t) hW (by omega) (by omega) (by omega)⟩) e⟩
    · by_cases c4 : i < b
      · refine ⟨fun e => by rcases e with ⟨e, _⟩ | ⟨e, _⟩ <;> omega, fun _ => ?_⟩
        rw [hp.2.1 j (.inr (by omega))]
        by_cases c3 : i < t * W
        · rw [hp.2.1 i (.inl c3)]
          exact (h i j hij hj).2 (fun e => by rcases e with ⟨e, _⟩ | ⟨e, _⟩ <;> omega)
        · exact permIn_all d d' (t * W) b (fun x => q x d[j]!) (by omega) hp (fun z hz hz2 => (h z j (by omega) hj).2 (fun e => by
            rcases e with ⟨e, _⟩ | ⟨_, e⟩
            · omega
            · exact hc (by omega) z j hz hz2 (by omega) e)) i (by omega) c4
      · rw [hp.2.1 i (.inr (by omega)), hp.2.1 j (.inr (by omega))]
        obtain ⟨h1, h2⟩ := h i j hij hj
        exact ⟨fun e => h1 (by rcases e with ⟨e, _⟩ | ⟨_, e⟩; omega; exact .inr ⟨by omega, e⟩), fun e => h2 (fun e2 => e (by rcases e2 with ⟨e2, _⟩ | ⟨_, e2⟩; omega; exact .inr ⟨by omega, e2⟩))⟩
def never (_ _ : Nat) : Prop := False
def alike (W : Nat) (i j : Nat) : Prop := i / W = j / W
theorem Mix.start {W n : Nat} {d : Array α} (h : Srt q 0 n d) : Mix r q W never 0 n d := fun i j hij hj => ⟨fun e => by rcases e with ⟨e, _⟩ | ⟨_, e⟩; omega; exact e.elim, fun _ => h i j (Nat.zero_le _) hij hj⟩
/-- The next pass. -/
theorem Mix.turn {W V : Nat} {c : Nat → Nat → Prop} {n : Nat} {d : Array α} (h : Mix r q W c n n d) : Mix r q V (alike W) 0 n d := fun i j hij hj => by
  obtain ⟨h1, h2⟩ := h i j hij hj
  refine ⟨fun e => h1 (by rcases e with ⟨e, _⟩ | ⟨_, e⟩; omega; exact .inl ⟨hj, e⟩), fun e => h2 (fun e2 => e (by rcases e2 with ⟨_, e2⟩ | ⟨e2, _⟩; exact .inr ⟨Nat.zero_le _, e2⟩; omega))⟩
/-- One group alone. -/
theorem Mix.all {W : Nat} {c : Nat → Nat → Prop} {n : Nat} {d : Array α} (h : Mix r q W c n n d) (hn : n ≤ W) : Srt r 0 n d := fun i j _ hij hj => (h i j hij hj).1 (.inl ⟨hj, by rw [Nat.div_eq_of_lt (by omega), Nat.div_eq_of_lt (by omega)]⟩)
/-- What a merge of two neighbours finds. -/
theorem Mix.halves {V a n b : Nat} {d : Array α} {t : Nat} (h : Mix r q (2 * V) (alike V) (t * (2 * V)) n d) (hV : 0 < V) (ha : a = t * (2 * V)) (hb1 : a + V ≤ b) (hb : b ≤ a + 2 * V) (hbn : b ≤ n) : Srt r a (a + V) d ∧ Srt r (a + V) b d ∧ Bef q a (a + V) b d := by
  have e : t * (2 * V) = (2 * t) * V := by rw [Nat.mul_comm 2 t, Nat.mul_assoc]
  have e1 : (2 * t + 1) * V = (2 * t) * V + V := by rw [Nat.add_mul, Nat.one_mul]
  refine ⟨fun i j hi hij hj => (h i j hij (by omega)).1 (.inr ⟨by omega, div_same (t := 2 * t) hV (by omega) (by omega) (by omega)⟩), fun i j hi hij hj => (h i j hij (by omega)).1 (.inr ⟨by omega, div_same (t := 2 * t + 1) hV (by omega) (by omega) (by omega)⟩), fun i j hi hij hj hjb => (h i j (by omega) (by omega)).2 (fun e2 => ?_)⟩
  rcases e2 with ⟨e2, _⟩ | ⟨_, e2⟩
  · omega
  · exact div_apart (t := 2 * t + 1) hV (by omega) (by omega) e2
theorem Mix.one {V a n : Nat} {d : Array α} {t : Nat} (h : Mix r q (2 * V) (alike V) (t * (2 * V)) n d) (hV : 0 < V) (ha : a = t * (2 * V)) (hn : n ≤ a + V) : Srt r a n d := by
  have e : t * (2 * V) = (2 * t) * V := by rw [Nat.mul_comm 2 t, Nat.mul_assoc]
  exact fun i j hi hij hj => (h i j hij (by omega)).1 (.inr ⟨by omega, div_same (t := 2 * t) hV (by omega) (by omega) (by omega)⟩)
theorem Mix.far {V b t : Nat} (hV : 0 < V) (hb : b = t * (2 * V) + 2 * V) : ∀ i j, i < b → b ≤ j → ¬ alike V i j := by
  have e1 : (2 * t + 2) * V = t * (2 * V) + 2 * V := by rw [Nat.add_mul, Nat.mul_comm 2 t, Nat.mul_assoc]
  exact fun i j hi hj => div_apart (t := 2 * t + 2) hV (by omega) (by omega)
end Go.Proofs.Ythnkikdbllkmkaa
