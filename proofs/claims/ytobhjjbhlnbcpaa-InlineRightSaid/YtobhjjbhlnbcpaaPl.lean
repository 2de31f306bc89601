/- Plain: what is inlined is right; no call of a small leaf is left. -/
import Derived.Test.YtobhjjbhlnbcpaaPk
namespace Go.Proofs.Ytobhjjbhlnbcpaa
set_option linter.unusedVariables false
set_option linter.unusedSimpArgs false

theorem small_quiet {bs : List Block} (h : smallB bs = true) : ∀ b ∈ bs, ∀ o ∈ b.ops, o.calls = [] := by
  obtain ⟨b0, rfl, -⟩ := small_one h
  intro b hb o ho
  simp at hb
  subst hb
  have hl : leafB [b] = true := by
    unfold smallB at h
    simp at h
    exact h.1.1.1
  unfold leafB at hl
  have hnil : ofList [b] = [] := by simpa using hl
  cases hc : o.calls with
  | nil => rfl
  | cons x r =>
    have : x ∈ ofList [b] := by
      rw [mem_ofList]
      unfold blocksCalls
      rw [List.mem_flatMap]
      refine ⟨b, by simp, ?_⟩
      unfold Block.calls opsCalls
      rw [List.mem_append, List.mem_flatMap]
      exact .inl ⟨o, ho, by rw [hc]; simp⟩
    rw [hnil] at this
    simp at this
theorem calls_called {o : Op} {x : Int} (h : x ∈ o.calls) : calledI o = x := by
  unfold Op.calls at h
  split at h
  · rename_i hc
    simp at h
    unfold calledI
    rw [if_pos hc, h]
  · simp at h
theorem inlOps_calls {gs : List Graph} {k : Nat} {h : Graph} (hk : gs[k]? = some h) (hs : smallB h.blocks = true) (hke : h.keep = false) (o : Op) : ∀ o' ∈ inlOps gs o, (k : Int) ∉ o'.calls := by
  intro o' ho' hmem
  unfold inlOps at ho'
  split at ho'
  · rename_i h0
    split at ho'
    · rename_i h' hh'
      split at ho'
      · rename_i hc
        rw [Bool.and_eq_true] at hc
        obtain ⟨b, e, -⟩ := small_one hc.1
        rw [e] at ho'
        have := small_quiet hc.1 b (by rw [e]; simp) o' ho'
        rw [this] at hmem
        simp at hmem
      · rename_i hc
        simp at ho'
        subst ho'
        have e := calls_called hmem
        rw [e] at hh'
        simp only [Int.toNat_natCast] at hh'
        rw [hk] at hh'
        injection hh' with e2
        subst e2
        exact hc (by simp [hs, hke])
    · rename_i hh'
      simp at ho'
      subst ho'
      have e := calls_called hmem
      rw [e] at hh'
      simp only [Int.toNat_natCast] at hh'
      rw [hk] at hh'
      cases hh'
  · rename_i h0
    simp at ho'
    subst ho'
    have e := calls_called hmem
    omega
def tailsTo (bs : List Block) (f : Int) : Bool := bs.any (fun b => b.fin.kind == 4 && b.fin.to == f)
theorem leaves_calls_none {gs : List Graph} {k : Nat} {h g : Graph} (hk : gs[k]? = some h) (hs : smallB h.blocks = true) (hke : h.keep = false) (hg : g.keep = false) (ht : tailsTo g.blocks k = false) : callsB (leavesG gs g).blocks k = false := by
  unfold callsB
  rw [decide_eq_false_iff_not]
  intro hm
  unfold leavesG at hm
  rw [eachG_eq] at hm
  unfold blocksCalls at hm
  rw [List.mem_flatMap] at hm
  obtain ⟨b', hb', hm⟩ := hm
  simp only [List.mem_map] at hb'
  obtain ⟨b, hb, rfl⟩ := hb'
  unfold eachB at hm
  rw [if_neg (by simp [hg])] at hm
  unfold Block.calls leavesB at hm
  rw [List.mem_append] at hm
  rcases hm with hm | hm
  · unfold opsCalls inlAll at hm
    rw [List.mem_flatMap] at hm
    obtain ⟨o', ho', hm⟩ := hm
    rw [List.mem_flatMap] at ho'
    obtain ⟨o, ho, ho'⟩ := ho'
    exact inlOps_calls hk hs hke o o' ho' hm
  · simp only at hm
    unfold Term.calls at hm
    split at hm
    · rename_i hk4
      simp at hm
      unfold tailsTo at ht
      rw [List.any_eq_false] at ht
      exact ht b hb (by simp [hk4, hm])
    · simp at hm
theorem blocksRight_mk {bs : List Block} {f d : Int} (h : ∀ b ∈ bs, (∀ o ∈ b.ops, o.right f d = true) ∧ b.fin.right bs.length f = true) (hp : 0 < bs.length) : blocksRight bs f d = true := by
  unfold blocksRight
  rw [Bool.and_eq_true, List.all_eq_true]
  refine ⟨fun b hb => ?_, by simpa using hp⟩
  unfold Block.right
  rw [Bool.and_eq_true, List.all_eq_true]
  exact h b hb
theorem bRight_fin {bs : List Block} {f d : Int} (h : blocksRight bs f d = true) {b : Block} (hb : b ∈ bs) : b.fin.right bs.length f = true := by
  unfold blocksRight at h
  rw [Bool.and_eq_true, List.all_eq_true] at h
  have := h.1 b hb
  unfold Block.right at this
  rw [Bool.and_eq_true] at this
  exact this.2
theorem each_right {f : Block → Block} {g : Graph} {n d : Int} (hg : blocksRight g.blocks n d = true) (hf : ∀ b ∈ g.blocks, (∀ o ∈ (f b).ops, o.right n d = true) ∧ (f b).fin.right g.blocks.length n = true) : blocksRight (eachG f g).blocks n d = true := by
  rw [eachG_eq]
  refine blocksRight_mk (fun b' hb' => ?_) (by have := blocksRight_pos hg; simpa using this)
  simp only [List.mem_map] at hb'
  obtain ⟨b, hb, rfl⟩ := hb'
  rw [List.length_map]
  unfold eachB
  split
  · exact ⟨fun o ho => blocksRight_ops hg hb ho, bRight_fin hg hb⟩
  · exact hf b hb
theorem leavesG_right {gs : List Graph} {n d : Int} (hall : ∀ g ∈ gs, blocksRight g.blocks n d = true) {g : Graph} (hg : g ∈ gs) : blocksRight (leavesG gs g).blocks n d = true := by
  refine each_right (hall g hg) (fun b hb => ⟨fun o' ho' => ?_, (show b.fin.right _ _ = true from bRight_fin (hall g hg) hb)⟩)
  unfold leavesB inlAll at ho'
  simp only [List.mem_flatMap] at ho'
  obtain ⟨o, ho, ho'⟩ := ho'
  have hr := blocksRight_ops (hall g hg) hb ho
  unfold inlOps at ho'
  split at ho'
  · split at ho'
    · rename_i h' hh'
      split at ho'
      · rename_i hc
        rw [Bool.and_eq_true] at hc
        obtain ⟨b0, e, -⟩ := small_one hc.1
        rw [e] at ho'
        exact blocksRight_ops (hall h' (List.mem_of_getElem? hh')) (by rw [e]; simp) ho'
      · simp at ho'; subst ho'; exact hr
    · simp at ho'; subst ho'; exact hr
  · simp at ho'; subst ho'; exact hr
theorem tailTerm_right {x bl f : Int} (h0 : 0 ≤ x) (h1 : x < f) : (tailTerm x).right bl f = true := by
  unfold Term.right tailTerm Term.none
  simp [h0, h1]
theorem tailsG_right {gs : List Graph} {n d : Int} (hn : n = gs.length) (hok : GsOk gs) (hall : ∀ g ∈ gs, blocksRight g.blocks n d = true) {g : Graph} (hg : g ∈ gs) : blocksRight (tailsG g).blocks n d = true := by
  refine each_right (hall g hg) (fun b hb => ?_)
  have ha := fun o ho => blocksRight_ops (hall g hg) hb (o := o) ho
  have hb' := bRight_fin (hall g hg) hb
  unfold tailsB
  split
  · exact ⟨ha, hb'⟩
  · rename_i o ho
    split
    · rename_i hc
      refine ⟨fun o ho => ha o (List.mem_of_mem_take (by rwa [List.dropLast_eq_take] at ho)), tailTerm_right hc.2.2 ?_⟩
      rw [hn]
      exact calledI_lt hok hg hb (List.mem_of_getLast? ho)
    · exact ⟨ha, hb'⟩
end Go.Proofs.Ytobhjjbhlnbcpaa
