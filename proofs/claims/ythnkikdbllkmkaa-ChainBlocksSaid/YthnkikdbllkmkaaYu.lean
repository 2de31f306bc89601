/- Plain: the one heavy edge is gone through first, and its blocks stay side by side. -/
import Derived.Test.YthnkikdbllkmkaaYs
import Derived.Test.YthnkikdbllkmkaaYp
namespace Go.Proofs.Ythnkikdbllkmkaa
set_option linter.unusedVariables false
set_option linter.unusedSimpArgs false
open Go.RowKit

def hvE (nm : ByteArray) (k t : Int) : Edge := ⟨nm, k, t, 4617315517961601024⟩
theorem hv_self (nm : ByteArray) (k t : Int) : ofW [hvE nm k t] nm k t = 4617315517961601024 := by
  have h : edgeIs nm k t (hvE nm k t) = true := by simp [edgeIs, hvE]
  unfold ofW sumW
  rw [List.foldl_cons, List.foldl_nil]
  unfold sumStep
  rw [if_pos h]
  show Fl.addW 0 (cleanW 4617315517961601024) = 4617315517961601024
  decide +kernel
theorem hv_other {nm : ByteArray} {k t i j : Int} (h : ¬ (i = k ∧ j = t)) : ofW [hvE nm k t] nm i j = 0 := by
  have h : ¬ edgeIs nm i j (hvE nm k t) = true := by
    simp only [edgeIs, hvE, Bool.and_eq_true, beq_iff_eq]
    rintro ⟨-, e1, e2⟩
    exact h ⟨e1.symm, e2.symm⟩
  unfold ofW sumW
  rw [List.foldl_cons, List.foldl_nil]
  unfold sumStep
  rw [if_neg h]
theorem putE_form {l : List Edge} {nm : ByteArray} {i t : Int} : ∀ e ∈ putE l nm i t, ∃ p q, e = mkE l nm p q := by
  intro e he
  unfold putE at he
  split at he
  · rw [List.mem_singleton] at he
    exact ⟨_, _, he⟩
  · cases he
theorem atE_form {l : List Edge} {nm : ByteArray} {i : Nat} {b : Block} : ∀ e ∈ atE l nm i b, ∃ p q, e = mkE l nm p q := by
  intro e he
  unfold atE at he
  split at he
  · rcases List.mem_append.1 he with he | he
    · exact putE_form e he
    · exact putE_form e he
  · split at he
    · exact putE_form e he
    · cases he
theorem rawTo_form {l : List Edge} {nm : ByteArray} {bs : List Block} : ∀ k, ∀ e ∈ rawTo l nm bs k, ∃ p q, e = mkE l nm p q
  | 0, e, h => by cases h
  | k + 1, e, h => by
    rcases List.mem_append.1 (show e ∈ rawTo l nm bs k ++ _ from h) with h | h
    · exact rawTo_form k e h
    · split at h
      · exact atE_form e h
      · cases h
theorem rawTo_has {l : List Edge} {nm : ByteArray} {bs : List Block} {k : Nat} {b : Block} (hb : bs[k]? = some b) {e : Edg} (he : e ∈ atE l nm k b) : ∀ m, k < m → e ∈ rawTo l nm bs m
  | 0, h => by omega
  | m + 1, h => by
    show e ∈ rawTo l nm bs m ++ _
    by_cases hk : k = m
    · subst hk
      rw [hb]
      exact List.mem_append_right _ he
    · exact List.mem_append_left _ (rawTo_has hb he m (by omega))
theorem le_trans_b (x y z : Edg) (h : (!(Go.Proofs.ltOf cfE) y x) = true) (k : (!(Go.Proofs.ltOf cfE) z y) = true) : (!(Go.Proofs.ltOf cfE) z x) = true := by
  have h' : Go.Proofs.ltOf cfE y x = false := by simpa using h
  have k' : Go.Proofs.ltOf cfE z y = false := by simpa using k
  rw [swoE.ntrans z y x k' h']
  rfl
theorem le_total_b (x y : Edg) : ((!(Go.Proofs.ltOf cfE) y x) || (!(Go.Proofs.ltOf cfE) x y)) = true := by
  cases h : Go.Proofs.ltOf cfE y x with
  | false => rfl
  | true =>
    cases k : Go.Proofs.ltOf cfE x y with
    | false => rfl
    | true => exact absurd (ltE_trans ((ltOf_cfE y x).1 h) ((ltOf_cfE x y).1 k)) (ltE_irrefl y)
theorem sortE_pairwise (xs : List Edg) : (sortE xs).Pairwise (fun x y => ¬ ltE y x) := by
  have h := List.pairwise_mergeSort (le := fun x y => !(Go.Proofs.ltOf cfE) y x) le_trans_b le_total_b xs
  refine List.Pairwise.imp ?_ h
  intro x y hxy e
  rw [(ltOf_cfE y x).2 e] at hxy
  cases hxy
/-- The least of all comes first. -/
theorem sortE_head {xs : List Edg} {x : Edg} (hx : x ∈ xs) (hmin : ∀ y ∈ xs, y = x ∨ ltE x y) : ∃ r, sortE xs = x :: r := by
  have hp := sortE_pairwise xs
  have hm := sortE_perm xs
  cases hs : sortE xs with
  | nil =>
    have := hm.mem_iff.2 hx
    rw [hs] at this
    cases this
  | cons h r =>
    rw [hs] at hp hm
    have hh : h ∈ xs := hm.mem_iff.1 (List.mem_cons_self ..)
    rcases hmin h hh with e | e
    · exact ⟨r, by rw [e]⟩
    · exfalso
      have hx' : x ∈ h :: r := hm.mem_iff.2 hx
      rcases List.mem_cons.1 hx' with e2 | e2
      · subst e2; exact ltE_irrefl _ e
      · exact (List.pairwise_cons.1 hp).1 x e2 e
theorem ddN_head {x : Edg} {r : List Edg} : ∀ m, ∃ q, ddN (x :: r) (m + 1) = x :: q
  | 0 => ⟨[], rfl⟩
  | m + 1 => by
    obtain ⟨q, hq⟩ := ddN_head (x := x) (r := r) m
    refine ⟨q ++ (if 0 < m + 1 ∧ (x :: r)[m + 1]? = (x :: r)[m + 1 - 1]? then [] else ((x :: r)[m + 1]?).toList), ?_⟩
    show ddN (x :: r) (m + 1) ++ _ = _
    rw [hq]
    rfl
theorem heavy_first {nm : ByteArray} {bs : List Block} {k : Nat} {b : Block} (hb : bs[k]? = some b) (hk : b.fin.kind = 1 ∨ b.fin.kind = 2) (h0 : b.fin.to ≠ 0) (h1 : b.fin.to ≠ k) : ∃ r, edgesD [hvE nm k b.fin.to] nm bs = mkE [hvE nm k b.fin.to] nm k b.fin.to :: r := by
  have hkl := (List.getElem?_eq_some_iff.1 hb).1
  have hwf : ∀ i j, (mkE [hvE nm k b.fin.to] nm i j).w.1 = ofW [hvE nm k b.fin.to] nm i j := by
    intro i j
    have hp : Fl.posW (ofW [hvE nm k b.fin.to] nm i j) := by
      by_cases h : i = k ∧ j = b.fin.to
      · obtain ⟨rfl, rfl⟩ := h
        rw [hv_self]
        unfold Fl.posW
        decide
      · rw [hv_other h]
        exact zero_pos
    unfold mkE
    rw [dif_pos hp]
  have hin : mkE [hvE nm k b.fin.to] nm k b.fin.to ∈ rawTo [hvE nm k b.fin.to] nm bs bs.length := by
    refine rawTo_has hb ?_ _ hkl
    unfold atE
    have hput : putE [hvE nm k b.fin.to] nm k b.fin.to = [mkE [hvE nm k b.fin.to] nm k b.fin.to] := by unfold putE; rw [if_pos ⟨h0, h1⟩]
    by_cases h2 : b.fin.kind = 2
    · rw [if_pos h2, hput]
      exact List.mem_append_right _ (List.mem_singleton.2 rfl)
    · rw [if_neg h2, if_pos (hk.elim id (fun h => absurd h h2)), hput]
      exact List.mem_singleton.2 rfl
  obtain ⟨r, hr⟩ := sortE_head hin (fun y hy => by
    obtain ⟨p, q, rfl⟩ := rawTo_form _ y hy
    by_cases h : p = k ∧ q = b.fin.to
    · obtain ⟨rfl, rfl⟩ := h
      exact .inl rfl
    · right
      left
      rw [hwf, hwf, hv_self, hv_other h]
      decide)
  unfold edgesD
  rw [hr]
  obtain ⟨q, hq⟩ := ddN_head (x := mkE [hvE nm k b.fin.to] nm k b.fin.to) (r := r) r.length
  exact ⟨q, hq⟩

/-- Two blocks stand side by side in a chain. -/
def Side (s : ChS) (k t : Nat) : Prop := ∃ (a : Nat) (p q : List Nat), s.ch[a]? = some (p ++ k :: t :: q)
theorem stepC_side {n : Nat} {s : ChS} (h : InvC n s) {k t f u : Nat} (hs : Side s k t) (hf : f < n) (hu : u < n) : Side (stepC s f u) k t := by
  obtain ⟨a, x, ha, hx, hfx, han, -, -, hxn⟩ := h.of hf
  obtain ⟨b, y, hb, hy, hty, hbn, -, -, hyn⟩ := h.of hu
  obtain ⟨c, p, q, hc⟩ := hs
  unfold stepC
  split
  · rename_i hj
    rw [joins_iff ha hb hx hy] at hj
    obtain ⟨hab, hlast, hhead⟩ := hj
    rw [getD_of ha, getD_of hb, getD_of hx, getD_of hy]
    have hgA : ((s.ch.set a (x ++ y)).set b [])[a]? = some (x ++ y) := by
      rw [List.getElem?_set, if_neg (fun e => hab e.symm), List.getElem?_set, if_pos rfl, if_pos (by rw [h.len]; exact han)]
    by_cases hca : c = a
    · subst hca
      rw [hx] at hc
      injection hc with hc
      subst hc
      exact ⟨c, p, q ++ y, by rw [hgA]; simp⟩
    · by_cases hcb : c = b
      · subst hcb
        rw [hy] at hc
        injection hc with hc
        subst hc
        exact ⟨a, x ++ p, q, by rw [hgA]; simp⟩
      · exact ⟨c, p, q, by show ((s.ch.set a (x ++ y)).set b [])[c]? = _; rw [List.getElem?_set, if_neg (fun e => hcb e.symm), List.getElem?_set, if_neg (fun e => hca e.symm)]; exact hc⟩
  · exact ⟨c, p, q, hc⟩
theorem foldE_side {n : Nat} {k t : Nat} : ∀ (E : List Edg) (s : ChS), InvC n s → Side s k t → (∀ e ∈ E, EdgIn n e) → Side (E.foldl stepE s) k t
  | [], _, _, h, _ => h
  | e :: r, s, hi, h, hE => by
    have he := hE e (List.mem_cons_self ..)
    have hi' := stepE_inv hi he
    refine foldE_side r _ hi' ?_ (fun x hx => hE x (List.mem_cons_of_mem _ hx))
    obtain ⟨f, u, h1, h2, h3, h4⟩ := he
    unfold stepE
    rw [h1, h2]
    exact stepC_side hi h h3 h4
theorem first_side {n k t : Nat} (hk : k < n) (ht : t < n) (hkt : k ≠ t) : Side (stepC (chStart n) k t) k t := by
  have e1 : (chStart n).of[k]? = some k := List.getElem?_range hk
  have e2 : (chStart n).of[t]? = some t := List.getElem?_range ht
  have c1 : (chStart n).ch[k]? = some [k] := by rw [chStart_get, if_pos hk]
  have c2 : (chStart n).ch[t]? = some [t] := by rw [chStart_get, if_pos ht]
  rw [stepC_yes e1 e2 c1 c2 hkt rfl rfl]
  refine ⟨k, [], [], ?_⟩
  show (((chStart n).ch.set k ([k] ++ [t])).set t [])[k]? = _
  rw [List.getElem?_set, if_neg (fun e => hkt e.symm), List.getElem?_set, if_pos rfl, if_pos (by rw [(chStart_inv n).len]; exact hk)]
  rfl
theorem side_flat {s : ChS} {k t : Nat} (h : Side s k t) : ∃ P Q, s.ch.flatten = P ++ k :: t :: Q := by
  obtain ⟨a, p, q, hc⟩ := h
  have ha := (List.getElem?_eq_some_iff.1 hc).1
  have e : s.ch = s.ch.take a ++ (p ++ k :: t :: q) :: s.ch.drop (a + 1) := by
    have h1 : s.ch[a] = p ++ k :: t :: q := by
      have := List.getElem?_eq_getElem ha
      rw [hc] at this
      injection this with this
      exact this.symm
    rw [← h1, List.getElem_cons_drop, List.take_append_drop]
  refine ⟨(s.ch.take a).flatten ++ p, q ++ (s.ch.drop (a + 1)).flatten, ?_⟩
  conv => lhs; rw [e]
  rw [List.flatten_append, List.flatten_cons]
  simp
/-- The heavy edge's blocks stand side by side in the order. -/
theorem heavy_side {nm : ByteArray} {bs : List Block} (hld : Leads bs) {k t : Nat} {b : Block} (hb : bs[k]? = some b) (hk : b.fin.kind = 1 ∨ b.fin.kind = 2) (ht : b.fin.to = (t : Int)) (h0 : t ≠ 0) (h1 : t ≠ k) : ∃ P Q, blocksD bs.length (edgesD [hvE nm k b.fin.to] nm bs) = P ++ k :: t :: Q := by
  have hkl := (List.getElem?_eq_some_iff.1 hb).1
  have htl : t < bs.length := by
    have := ((hld b (List.mem_of_getElem? hb)).1 hk).2
    omega
  obtain ⟨r, hr⟩ := heavy_first (nm := nm) hb hk (by omega) (by omega)
  have hin := edgesD_in (l := [hvE nm k b.fin.to]) (nm := nm) hld
  rw [hr] at hin ⊢
  unfold blocksD runE
  rw [List.foldl_cons]
  refine side_flat (foldE_side r _ (stepE_inv (chStart_inv _) (hin _ (List.mem_cons_self ..))) ?_ (fun e he => hin e (List.mem_cons_of_mem _ he)))
  unfold stepE
  show Side (stepC (chStart bs.length) ((k : Int)).toNat (b.fin.to).toNat) k t
  rw [ht]
  exact first_side hkl htl (fun e => h1 e.symm)
end Go.Proofs.Ythnkikdbllkmkaa
