/- Plain: threading; leaving out blocks that one doesn't come to. -/
import Derived.Test.YthnkikdbllkmkaaPr
import Derived.Test.YthnkikdbllkmkaaGe
namespace Go.Proofs.Ythnkikdbllkmkaa
set_option linter.unusedVariables false
set_option linter.unusedSimpArgs false

/-- Does a block lead on, and do nothing else? -/
def passB (x : Block) : Prop := x.ops.length = 0 ∧ x.fin.kind = 1
instance (x : Block) : Decidable (passB x) := by unfold passB; exact inferInstance
def stepT (bs : List Block) (b : Nat) : Nat :=
  match bs[b]? with
  | some x => if passB x then x.fin.to.toNat else b
  | none => b
theorem stepT_get {bs : List Block} {b : Nat} {x : Block} (h : bs[b]? = some x) : stepT bs b = if passB x then x.fin.to.toNat else b := by unfold stepT; rw [h]
def thrN (bs : List Block) : Nat → Nat → Nat
  | 0, b => b
  | n + 1, b => stepT bs (thrN bs n b)
def thr (bs : List Block) (b : Nat) : Nat := thrN bs bs.length b
theorem thrN_add (bs : List Block) (m n b : Nat) : thrN bs (m + n) b = thrN bs m (thrN bs n b) := by
  induction m with
  | zero => rw [Nat.zero_add]; rfl
  | succ m ih => rw [Nat.succ_add]; show stepT _ _ = stepT _ _; rw [ih]
theorem thrN_stay {bs : List Block} {n b : Nat} (h : stepT bs (thrN bs n b) = thrN bs n b) : ∀ m, n ≤ m → thrN bs m b = thrN bs n b := by
  intro m hm
  obtain ⟨d, rfl⟩ : ∃ d, m = d + n := ⟨m - n, by omega⟩
  clear hm
  induction d with
  | zero => rw [Nat.zero_add]
  | succ d ih => rw [Nat.succ_add]; show stepT _ _ = _; rw [ih, h]
/-- Ends lead to blocks that are there. -/
def Leads (bs : List Block) : Prop := ∀ b ∈ bs, (b.fin.kind = 1 ∨ b.fin.kind = 2 → 0 ≤ b.fin.to ∧ b.fin.to < bs.length) ∧ (b.fin.kind = 2 → 0 ≤ b.fin.els ∧ b.fin.els < bs.length)
theorem Term.right_two {t : Term} {n f : Int} (h : t.right n f = true) (hk : t.kind = 2) : (0 ≤ t.to ∧ t.to < n) ∧ (0 ≤ t.els ∧ t.els < n) := by
  unfold Term.right at h
  rw [if_neg (by omega), if_neg (by omega), if_neg (by omega)] at h
  simp at h
  omega
theorem BsOk.leads {bs : List Block} (h : BsOk bs) : Leads bs := fun b hb => by
  obtain ⟨f, hf⟩ := h.fin hb
  refine ⟨fun hk => ?_, fun hk => (Term.right_two hf hk).2⟩
  rcases hk with hk | hk
  · exact Term.right_jump hf hk
  · exact (Term.right_two hf hk).1
theorem stepT_lt {bs : List Block} (h : Leads bs) {b : Nat} (hb : b < bs.length) : stepT bs b < bs.length := by
  obtain ⟨x, hx⟩ := get_some bs b hb
  rw [stepT_get hx]
  split
  · rename_i hp
    have := (h x (List.mem_of_getElem? hx)).1 (.inl hp.2)
    omega
  · exact hb
theorem thrN_lt {bs : List Block} (h : Leads bs) {b : Nat} (hb : b < bs.length) : ∀ n, thrN bs n b < bs.length
  | 0 => hb
  | n + 1 => stepT_lt h (thrN_lt h hb n)
theorem thr_lt {bs : List Block} (h : Leads bs) {b : Nat} (hb : b < bs.length) : thr bs b < bs.length := thrN_lt h hb _

/-- An end that leads elsewhere. -/
def Term.lead (t : Term) (x y : Int) : Term := ⟨t.kind, t.op, t.a, t.b, x, y, t.ins⟩
/-- A jump to a block. -/
def jumpTo (n : Nat) : Term := ⟨1, 0, 0, 0, n, 0, Ins.zero⟩
def threadT (bs : List Block) (t : Term) : Term :=
  if t.kind = 2 then (if thr bs t.to.toNat = thr bs t.els.toNat then jumpTo (thr bs t.to.toNat) else t.lead (thr bs t.to.toNat : Int) (thr bs t.els.toNat : Int)) else
  if t.kind = 1 then t.lead (thr bs t.to.toNat : Int) t.els else t
def threadB (bs : List Block) (b : Block) : Block := ⟨b.ops, threadT bs b.fin⟩
def threadBs (bs : List Block) : List Block := bs.map (threadB bs)
theorem threadBs_len (bs : List Block) : (threadBs bs).length = bs.length := by simp [threadBs]
theorem jumpTo_right {n : Nat} {m : Nat} {f : Int} (h : n < m) : (jumpTo n).right m f = true := by
  unfold Term.right jumpTo Term.none
  simp
  omega
theorem threadT_right {bs : List Block} (hl : Leads bs) {b : Block} (hb : b ∈ bs) {f : Int} (h : b.fin.right bs.length f = true) : (threadT bs b.fin).right bs.length f = true := by
  have hto : b.fin.kind = 1 ∨ b.fin.kind = 2 → thr bs b.fin.to.toNat < bs.length := fun hk => thr_lt hl (by have := (hl b hb).1 hk; omega)
  have hel : b.fin.kind = 2 → thr bs b.fin.els.toNat < bs.length := fun hk => thr_lt hl (by have := (hl b hb).2 hk; omega)
  unfold threadT
  by_cases hk : b.fin.kind = 2
  · have h1 := hto (.inr hk)
    have h2 := hel hk
    rw [if_pos hk]
    split
    · exact jumpTo_right h1
    · unfold Term.right Term.none Term.lead at *
      simp [hk] at h ⊢
      simp [h]
      omega
  · rw [if_neg hk]
    split
    · rename_i hk1
      have h1 := hto (.inl hk1)
      unfold Term.right Term.none Term.lead at *
      simp [hk1] at h ⊢
      simp [h]
      omega
    · exact h
theorem blocksRight_iff {bs : List Block} {f d : Int} : blocksRight bs f d = true ↔ (∀ b ∈ bs, b.right bs.length f d = true) ∧ 0 < bs.length := by
  unfold blocksRight
  rw [Bool.and_eq_true, List.all_eq_true, decide_eq_true_eq]
theorem Block.right_iff {b : Block} {n f d : Int} : b.right n f d = true ↔ (∀ o ∈ b.ops, o.right f d = true) ∧ b.fin.right n f = true := by
  unfold Block.right
  rw [Bool.and_eq_true, List.all_eq_true]
theorem threadBs_right {bs : List Block} {f d : Int} (h : blocksRight bs f d = true) : blocksRight (threadBs bs) f d = true := by
  have hl := BsOk.leads ⟨f, d, h⟩
  rw [blocksRight_iff] at h ⊢
  rw [threadBs_len]
  refine ⟨fun b hb => ?_, h.2⟩
  unfold threadBs at hb
  rw [List.mem_map] at hb
  obtain ⟨x, hx, rfl⟩ := hb
  have := Block.right_iff.1 (h.1 x hx)
  exact Block.right_iff.2 ⟨this.1, threadT_right hl hx this.2⟩
theorem threadBs_ops {bs : List Block} {P : Nat → Prop} (h : ∀ b ∈ bs, P b.ops.length) : ∀ b ∈ threadBs bs, P b.ops.length := by
  intro b hb
  unfold threadBs at hb
  rw [List.mem_map] at hb
  obtain ⟨x, hx, rfl⟩ := hb
  exact h x hx

/-- Two of n + 1 numbers below n are alike. -/
theorem pigeon : ∀ (n : Nat) (f : Nat → Nat), (∀ i, i ≤ n → f i < n) → ∃ i j, i < j ∧ j ≤ n ∧ f i = f j
  | 0, f, h => absurd (h 0 (Nat.le_refl _)) (by omega)
  | n + 1, f, h => by
    by_cases hv : ∃ i, i ≤ n ∧ f i = f (n + 1)
    · obtain ⟨i, hi, e⟩ := hv
      exact ⟨i, n + 1, by omega, Nat.le_refl _, e⟩
    · have hne : ∀ i, i ≤ n → f i ≠ f (n + 1) := fun i hi e => hv ⟨i, hi, e⟩
      have hv2 := h (n + 1) (Nat.le_refl _)
      obtain ⟨i, j, hij, hj, e⟩ := pigeon n (fun i => if f i < f (n + 1) then f i else f i - 1) (fun i hi => by
        have h1 := h i (by omega)
        have h2 := hne i hi
        show (if f i < f (n + 1) then f i else f i - 1) < n
        split <;> omega)
      refine ⟨i, j, hij, by omega, ?_⟩
      have h1 := hne i (by omega)
      have h2 := hne j hj
      replace e : (if f i < f (n + 1) then f i else f i - 1) = (if f j < f (n + 1) then f j else f j - 1) := e
      split at e <;> split at e <;> omega
/-- Where a block leads on from: to one that doesn't lead on, or round and round. -/
theorem thr_round {bs : List Block} (hl : Leads bs) {b : Nat} (hb : b < bs.length) {x : Block} (hx : bs[thr bs b]? = some x) (hp : passB x) : ∀ m, ∃ y, bs[thrN bs m (thr bs b)]? = some y ∧ passB y := by
  have hall : ∀ m, m ≤ bs.length → ∃ y, bs[thrN bs m b]? = some y ∧ passB y := by
    intro m hm
    obtain ⟨y, hy⟩ := get_some bs (thrN bs m b) (thrN_lt hl hb m)
    refine ⟨y, hy, ?_⟩
    by_cases h : passB y
    · exact h
    · have hs : stepT bs (thrN bs m b) = thrN bs m b := by rw [stepT_get hy, if_neg h]
      have := thrN_stay hs bs.length hm
      unfold thr at hx
      rw [this, hy] at hx
      injection hx with e
      rw [e]
      exact hp
  obtain ⟨i, j, hij, hj, e⟩ := pigeon bs.length (fun m => thrN bs m b) (fun m _ => thrN_lt hl hb m)
  have hmore : ∀ m, ∃ y, bs[thrN bs m b]? = some y ∧ passB y := by
    intro m
    induction m using Nat.strongRecOn with
    | _ m ih =>
      by_cases hm : m ≤ bs.length
      · exact hall m hm
      · have e2 : thrN bs m b = thrN bs (m - j + i) b := by
          rw [show m = (m - j) + j from by omega, thrN_add, ← e, ← thrN_add]
          congr 1
          omega
        rw [e2]
        exact ih _ (by omega)
  intro m
  unfold thr
  rw [← thrN_add]
  exact hmore _
/-- One block's step behind another. -/
theorem thrN_pass {bs : List Block} {m b : Nat} {y : Block} (hy : bs[thrN bs m b]? = some y) (hp : passB y) : thrN bs (m + 1) b = y.fin.to.toNat := by
  show stepT _ _ = _
  rw [stepT_get hy, if_pos hp]

/-- An end leads from a block to another one. -/
def TEdge (bs : List Block) (x y : Nat) : Prop := ∃ b, bs[x]? = some b ∧ ((b.fin.kind = 1 ∨ b.fin.kind = 2) ∧ b.fin.to = (y : Int) ∨ b.fin.kind = 2 ∧ b.fin.els = (y : Int))
theorem TEdge.lt {bs : List Block} (hl : Leads bs) : ∀ x y, TEdge bs x y → y < bs.length := by
  rintro x y ⟨b, hb, h⟩
  have := hl b (List.mem_of_getElem? hb)
  rcases h with ⟨hk, e⟩ | ⟨hk, e⟩
  · have := this.1 hk; omega
  · have := this.2 hk; omega
/-- The new place of a block. -/
def atN (seen : List Bool) (i : Nat) : Nat := (seen.take i).count true
theorem atN_succ {seen : List Bool} {i : Nat} {b : Bool} (h : seen[i]? = some b) : atN seen (i + 1) = atN seen i + (if b then 1 else 0) := by
  unfold atN
  rw [take_snoc h, List.count_append]
  cases b <;> simp
theorem atN_mono (seen : List Bool) {i j : Nat} (h : i ≤ j) : atN seen i ≤ atN seen j := by
  unfold atN
  have : seen.take i = (seen.take j).take i := by rw [List.take_take, Nat.min_eq_left h]
  rw [this]
  exact (List.take_sublist _ _).count_le _
theorem atN_le (seen : List Bool) (i : Nat) : atN seen i ≤ i := by
  unfold atN
  have := List.count_le_length (a := true) (l := seen.take i)
  simp at this ⊢
  omega
theorem atN_le_all (seen : List Bool) (i : Nat) : atN seen i ≤ seen.count true := (List.take_sublist _ _).count_le _
theorem atN_lt {seen : List Bool} {i : Nat} (h : On seen i) : atN seen i < seen.count true := by
  have h1 := atN_succ h
  have h2 := atN_le_all seen (i + 1)
  simp at h1
  omega
def trimT (seen : List Bool) (t : Term) : Term :=
  t.lead (if t.kind = 1 ∨ t.kind = 2 then (atN seen t.to.toNat : Int) else t.to) (if t.kind = 2 then (atN seen t.els.toNat : Int) else t.els)
def trimB (seen : List Bool) (b : Block) : Block := ⟨b.ops, trimT seen b.fin⟩
/-- Of the first k blocks those that are seen. -/
def trimK (seen : List Bool) (bs : List Block) : Nat → List Block
  | 0 => []
  | k + 1 => match bs[k]?, seen[k]? with
    | some b, some true => trimK seen bs k ++ [trimB seen b]
    | _, _ => trimK seen bs k
def trimBs (seen : List Bool) (bs : List Block) : List Block := trimK seen bs bs.length
theorem trimK_on {seen : List Bool} {bs : List Block} {k : Nat} {b : Block} (hb : bs[k]? = some b) (hs : seen[k]? = some true) : trimK seen bs (k + 1) = trimK seen bs k ++ [trimB seen b] := by
  show (match bs[k]?, seen[k]? with | some b, some true => trimK seen bs k ++ [trimB seen b] | _, _ => trimK seen bs k) = _
  rw [hb, hs]
theorem trimK_off {seen : List Bool} {bs : List Block} {k : Nat} (hs : seen[k]? = some false) : trimK seen bs (k + 1) = trimK seen bs k := by
  show (match bs[k]?, seen[k]? with | some b, some true => trimK seen bs k ++ [trimB seen b] | _, _ => trimK seen bs k) = _
  rw [hs]
  cases bs[k]? <;> rfl
theorem trimK_len {seen : List Bool} {bs : List Block} (hl : seen.length = bs.length) : ∀ k, k ≤ bs.length → (trimK seen bs k).length = atN seen k
  | 0, _ => by simp [trimK, atN]
  | k + 1, hk => by
    have ih := trimK_len hl k (by omega)
    obtain ⟨b, hb⟩ := get_some bs k (by omega)
    obtain ⟨s, hs⟩ := get_some seen k (by omega)
    rw [atN_succ hs]
    cases s with
    | true => rw [trimK_on hb hs, List.length_append, ih]; simp
    | false => rw [trimK_off hs, ih]; simp
theorem trimBs_len {seen : List Bool} {bs : List Block} (hl : seen.length = bs.length) : (trimBs seen bs).length = seen.count true := by
  unfold trimBs
  rw [trimK_len hl _ (Nat.le_refl _)]
  unfold atN
  rw [← hl, List.take_length]
/-- What stands in it. -/
theorem trimK_get {seen : List Bool} {bs : List Block} (hl : seen.length = bs.length) : ∀ k, k ≤ bs.length → ∀ i b, i < k → bs[i]? = some b → On seen i → (trimK seen bs k)[atN seen i]? = some (trimB seen b)
  | 0, _, i, b, hi, _, _ => by omega
  | k + 1, hk, i, b, hi, hb, hon => by
    by_cases hik : i < k
    · have ih := trimK_get hl k (by omega) i b hik hb hon
      obtain ⟨s, hs⟩ := get_some seen k (by omega)
      obtain ⟨c, hc⟩ := get_some bs k (by omega)
      cases s with
      | true => rw [trimK_on hc hs, List.getElem?_append_left (List.getElem?_eq_some_iff.1 ih).1, ih]
      | false => rw [trimK_off hs, ih]
    · obtain rfl : i = k := by omega
      rw [trimK_on hb hon, List.getElem?_append_right (by rw [trimK_len hl i (by omega)]; exact Nat.le_refl _), trimK_len hl i (by omega), Nat.sub_self]
      rfl
theorem trimBs_get {seen : List Bool} {bs : List Block} (hl : seen.length = bs.length) {i : Nat} {b : Block} (hb : bs[i]? = some b) (hon : On seen i) : (trimBs seen bs)[atN seen i]? = some (trimB seen b) :=
  trimK_get hl _ (Nat.le_refl _) i b (List.getElem?_eq_some_iff.1 hb).1 hb hon
theorem trimK_from {seen : List Bool} {bs : List Block} (hl : seen.length = bs.length) : ∀ k, k ≤ bs.length → ∀ j c, (trimK seen bs k)[j]? = some c → ∃ i b, i < k ∧ bs[i]? = some b ∧ On seen i ∧ j = atN seen i ∧ c = trimB seen b
  | 0, _, j, c, h => by simp [trimK] at h
  | k + 1, hk, j, c, h => by
    obtain ⟨s, hs⟩ := get_some seen k (by omega)
    obtain ⟨d, hd⟩ := get_some bs k (by omega)
    have hrec : (trimK seen bs k)[j]? = some c → ∃ i b, i < k + 1 ∧ bs[i]? = some b ∧ On seen i ∧ j = atN seen i ∧ c = trimB seen b := fun h => by
      obtain ⟨i, b, h1, h2, h3, h4, h5⟩ := trimK_from hl k (by omega) j c h
      exact ⟨i, b, by omega, h2, h3, h4, h5⟩
    cases s with
    | false => rw [trimK_off hs] at h; exact hrec h
    | true =>
      rw [trimK_on hd hs] at h
      have hlen := trimK_len hl k (by omega)
      by_cases hj : j < (trimK seen bs k).length
      · rw [List.getElem?_append_left hj] at h; exact hrec h
      · rw [List.getElem?_append_right (by omega)] at h
        have h0 : j - (trimK seen bs k).length = 0 := by
          have := (List.getElem?_eq_some_iff.1 h).1
          simp at this
          omega
        rw [h0] at h
        injection h with e
        exact ⟨k, d, by omega, hd, hs, by omega, e.symm⟩
theorem trimBs_from {seen : List Bool} {bs : List Block} (hl : seen.length = bs.length) {j : Nat} {c : Block} (h : (trimBs seen bs)[j]? = some c) : ∃ i b, bs[i]? = some b ∧ On seen i ∧ j = atN seen i ∧ c = trimB seen b := by
  obtain ⟨i, b, h1, h2⟩ := trimK_from hl _ (Nat.le_refl _) j c h
  exact ⟨i, b, h2⟩
theorem trimBs_right {seen : List Bool} {bs : List Block} {f d : Int} (h : blocksRight bs f d = true) (hs : IsReachE (TEdge bs) bs.length 0 seen) : blocksRight (trimBs seen bs) f d = true := by
  have hl := BsOk.leads ⟨f, d, h⟩
  rw [blocksRight_iff] at h ⊢
  have h0 : On seen 0 := (hs.2 0).2 .refl
  have hlen := trimBs_len (bs := bs) hs.1
  refine ⟨fun c hc => ?_, ?_⟩
  · obtain ⟨j, hj⟩ := List.mem_iff_getElem?.1 hc
    obtain ⟨i, b, hb, hon, rfl, rfl⟩ := trimBs_from hs.1 hj
    have hr := Block.right_iff.1 (h.1 b (List.mem_of_getElem? hb))
    have hre := (hs.2 i).1 hon
    have hlb := hl b (List.mem_of_getElem? hb)
    refine Block.right_iff.2 ⟨hr.1, ?_⟩
    have hto : b.fin.kind = 1 ∨ b.fin.kind = 2 → atN seen b.fin.to.toNat < seen.count true := fun hk => by
      have := hlb.1 hk
      exact atN_lt ((hs.2 _).2 (hre.step ⟨b, hb, .inl ⟨hk, by omega⟩⟩))
    have hel : b.fin.kind = 2 → atN seen b.fin.els.toNat < seen.count true := fun hk => by
      have := hlb.2 hk
      exact atN_lt ((hs.2 _).2 (hre.step ⟨b, hb, .inr ⟨hk, by omega⟩⟩))
    have hf := hr.2
    show (trimT seen b.fin).right _ f = true
    rw [hlen]
    unfold trimT
    by_cases hk : b.fin.kind = 2
    · have h1 := hto (.inr hk)
      have h2 := hel hk
      unfold Term.right Term.none Term.lead at *
      simp [hk] at hf ⊢
      simp [hf]
      omega
    · by_cases hk1 : b.fin.kind = 1
      · have h1 := hto (.inl hk1)
        unfold Term.right Term.none Term.lead at *
        simp [hk1] at hf ⊢
        simp [hf]
        omega
      · unfold Term.right Term.none Term.lead at *
        simp [hk, hk1] at hf ⊢
        exact hf
  · rw [hlen]
    exact Nat.lt_of_le_of_lt (Nat.zero_le _) (atN_lt h0)
theorem trimBs_ops {seen : List Bool} {bs : List Block} (hl : seen.length = bs.length) {P : Nat → Prop} (h : ∀ b ∈ bs, P b.ops.length) : ∀ b ∈ trimBs seen bs, P b.ops.length := by
  intro c hc
  obtain ⟨j, hj⟩ := List.mem_iff_getElem?.1 hc
  obtain ⟨i, b, hb, hon, rfl, rfl⟩ := trimBs_from hl hj
  exact h b (List.mem_of_getElem? hb)
theorem trimBs_le {seen : List Bool} {bs : List Block} (hl : seen.length = bs.length) : (trimBs seen bs).length ≤ bs.length := by
  rw [trimBs_len hl, ← hl]
  exact List.count_le_length
/-- Behind trimming all is come to. -/
theorem trimBs_all {seen : List Bool} {bs : List Block} (hl : Leads bs) (hs : IsReachE (TEdge bs) bs.length 0 seen) {seen' : List Bool} (hs' : IsReachE (TEdge (trimBs seen bs)) (trimBs seen bs).length 0 seen') : seen' = List.replicate (trimBs seen bs).length true := by
  have hmove : ∀ x, ReachE (TEdge bs) 0 x → ReachE (TEdge (trimBs seen bs)) 0 (atN seen x) := by
    intro x hx
    induction hx with
    | refl => exact .refl
    | step h e ih =>
      rename_i x y
      obtain ⟨b, hb, he⟩ := e
      refine ih.step ⟨_, trimBs_get hs.1 hb ((hs.2 x).2 h), ?_⟩
      have hlb := hl b (List.mem_of_getElem? hb)
      show ((b.fin.kind = 1 ∨ b.fin.kind = 2) ∧ (if b.fin.kind = 1 ∨ b.fin.kind = 2 then (atN seen b.fin.to.toNat : Int) else b.fin.to) = _ ∨ b.fin.kind = 2 ∧ (if b.fin.kind = 2 then (atN seen b.fin.els.toNat : Int) else b.fin.els) = _)
      rcases he with ⟨hk, e⟩ | ⟨hk, e⟩
      · exact .inl ⟨hk, by rw [if_pos hk, e, Int.toNat_natCast]⟩
      · exact .inr ⟨hk, by rw [if_pos hk, e, Int.toNat_natCast]⟩
  apply List.ext_getElem?
  intro j
  by_cases hj : j < (trimBs seen bs).length
  · obtain ⟨c, hc⟩ := get_some _ j hj
    obtain ⟨i, b, hb, hon, rfl, -⟩ := trimBs_from hs.1 hc
    have := (hs'.2 _).2 (hmove i ((hs.2 i).1 hon))
    unfold On at this
    rw [this, List.getElem?_replicate, if_pos hj]
  · rw [List.getElem?_eq_none (by rw [hs'.1]; omega), List.getElem?_eq_none (by simp; omega)]
theorem atN_all (n i : Nat) (h : i ≤ n) : atN (List.replicate n true) i = i := by
  unfold atN
  rw [List.take_replicate, Nat.min_eq_left h, List.count_replicate_self]
theorem trimB_all {bs : List Block} (hl : Leads bs) {b : Block} (hb : b ∈ bs) : trimB (List.replicate bs.length true) b = b := by
  have h := hl b hb
  unfold trimB trimT Term.lead
  have e1 : (if b.fin.kind = 1 ∨ b.fin.kind = 2 then (atN (List.replicate bs.length true) b.fin.to.toNat : Int) else b.fin.to) = b.fin.to := by
    split
    · rename_i hk
      have := h.1 hk
      rw [atN_all _ _ (by omega)]
      omega
    · rfl
  have e2 : (if b.fin.kind = 2 then (atN (List.replicate bs.length true) b.fin.els.toNat : Int) else b.fin.els) = b.fin.els := by
    split
    · rename_i hk
      have := h.2 hk
      rw [atN_all _ _ (by omega)]
      omega
    · rfl
  rw [e1, e2]
theorem trimK_all {bs : List Block} (hl : Leads bs) : ∀ k, k ≤ bs.length → trimK (List.replicate bs.length true) bs k = bs.take k
  | 0, _ => by simp [trimK]
  | k + 1, hk => by
    obtain ⟨b, hb⟩ := get_some bs k (by omega)
    rw [trimK_on hb (by rw [List.getElem?_replicate, if_pos (by omega)]), trimK_all hl k (by omega), trimB_all hl (List.mem_of_getElem? hb), take_snoc hb]
theorem trimBs_id {bs : List Block} (hl : Leads bs) : trimBs (List.replicate bs.length true) bs = bs := by
  unfold trimBs
  rw [trimK_all hl _ (Nat.le_refl _), List.take_length]
end Go.Proofs.Ythnkikdbllkmkaa
