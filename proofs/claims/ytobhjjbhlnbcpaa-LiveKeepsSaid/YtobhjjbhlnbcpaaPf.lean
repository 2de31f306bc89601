/- What a graph calls, as plain lists. -/
import Derived.Test.YtobhjjbhlnbcpaaPe
import Derived.Test.YtobhjjbhlnbcpaaPa
namespace Go.Proofs.Ytobhjjbhlnbcpaa
set_option linter.unusedVariables false
set_option linter.unusedSimpArgs false

def Op.calls (o : Op) : List Int := if o.rel = true ∧ o.kind = 1 then [o.to] else []
def Term.calls (t : Term) : List Int := if t.kind = 4 then [t.to] else []
def opsCalls (os : List Op) : List Int := os.flatMap Op.calls
def Block.calls (b : Block) : List Int := opsCalls b.ops ++ b.fin.calls
def blocksCalls (bs : List Block) : List Int := bs.flatMap Block.calls
theorem opsCalls_succ {os : List Op} {k : Nat} {o : Op} (h : os[k]? = some o) : opsCalls (os.take (k + 1)) = opsCalls (os.take k) ++ o.calls := by
  unfold opsCalls
  rw [take_snoc h, List.flatMap_append]
  simp
theorem blocksCalls_succ {bs : List Block} {k : Nat} {b : Block} (h : bs[k]? = some b) : blocksCalls (bs.take (k + 1)) = blocksCalls (bs.take k) ++ (opsCalls b.ops ++ b.fin.calls) := by
  unfold blocksCalls
  rw [take_snoc h, List.flatMap_append]
  simp [Block.calls]
theorem opsCalls_len (os : List Op) : (opsCalls os).length ≤ os.length := by
  unfold opsCalls
  induction os with
  | nil => simp
  | cons o r ih =>
    rw [List.flatMap_cons, List.length_append, List.length_cons]
    have : (Op.calls o).length ≤ 1 := by unfold Op.calls; split <;> simp
    omega
theorem blocksCalls_len (bs : List Block) (h : ∀ b ∈ bs, b.ops.length ≤ 300) : (blocksCalls bs).length ≤ 301 * bs.length := by
  unfold blocksCalls
  induction bs with
  | nil => simp
  | cons b r ih =>
    rw [List.flatMap_cons, List.length_append, List.length_cons]
    have h1 := opsCalls_len b.ops
    have h2 := h b (by simp)
    have h3 : (Block.calls b).length ≤ 301 := by
      unfold Block.calls Term.calls
      rw [List.length_append]
      split <;> simp <;> omega
    have h4 := ih (fun b' hb' => h b' (by simp [hb']))
    omega
theorem blocksFew_parts {bs : List Block} (h : blocksFew bs = true) : bs.length ≤ 200 ∧ ∀ b ∈ bs, b.ops.length ≤ 300 := by
  unfold blocksFew at h
  rw [Bool.and_eq_true, decide_eq_true_eq, List.all_eq_true] at h
  refine ⟨h.2, fun b hb => ?_⟩
  have := h.1 b (by rw [List.take_of_length_le (by omega)]; exact hb)
  simpa using this
theorem blocksCalls_few {bs : List Block} (h : blocksFew bs = true) (k : Nat) : (blocksCalls (bs.take k)).length ≤ 60200 := by
  obtain ⟨h1, h2⟩ := blocksFew_parts h
  have h3 := blocksCalls_len (bs.take k) (fun b hb => h2 b (List.mem_of_mem_take hb))
  have h4 : (bs.take k).length ≤ 200 := Nat.le_trans (by simp [List.length_take]; omega) h1
  omega

theorem Op.right_to {o : Op} {funcs datas : Int} (h : o.right funcs datas = true) : ∀ x ∈ o.calls, 0 ≤ x ∧ x < funcs := by
  intro x hx
  unfold Op.calls at hx
  split at hx
  · rename_i hc
    simp at hx
    subst hx
    unfold Op.right at h
    simp only [hc.1, hc.2] at h
    repeat' split at h
    all_goals simp_all
    all_goals omega
  · simp at hx
theorem Term.right_to {t : Term} {blocks funcs : Int} (h : t.right blocks funcs = true) : ∀ x ∈ t.calls, 0 ≤ x ∧ x < funcs := by
  intro x hx
  unfold Term.calls at hx
  split at hx
  · rename_i hc
    simp at hx
    subst hx
    unfold Term.right at h
    rw [if_neg (by omega), if_pos hc] at h
    simp at h
    omega
  · simp at hx
theorem blocksRight_calls {bs : List Block} {funcs datas : Int} (h : blocksRight bs funcs datas = true) : ∀ x ∈ blocksCalls bs, 0 ≤ x ∧ x < funcs := by
  intro x hx
  unfold blocksCalls at hx
  rw [List.mem_flatMap] at hx
  obtain ⟨b, hb, hx⟩ := hx
  unfold blocksRight at h
  rw [Bool.and_eq_true, List.all_eq_true] at h
  have hr := h.1 b hb
  unfold Block.right at hr
  rw [Bool.and_eq_true, List.all_eq_true] at hr
  unfold Block.calls at hx
  rw [List.mem_append] at hx
  rcases hx with hx | hx
  · unfold opsCalls at hx
    rw [List.mem_flatMap] at hx
    obtain ⟨o, ho, hx⟩ := hx
    exact Op.right_to (hr.1 o ho) x hx
  · exact Term.right_to hr.2 x hx

/-- What calls.Of answers. -/
def ofList (bs : List Block) : List Int := compact (sorted (blocksCalls bs))
def callsB (bs : List Block) (x : Int) : Bool := decide (x ∈ blocksCalls bs)
/-- What the document's Of answers. -/
def refOf (bs : List Block) (n : Nat) : List Int := ((List.range n).map fun (i : Nat) => (i : Int)).filter (callsB bs)
theorem ofList_eq {bs : List Block} {n : Nat} {datas : Int} (h : blocksRight bs n datas = true) : ofList bs = refOf bs n :=
  compact_sorted_eq (blocksCalls bs) n (callsB bs) (fun i => by simp [callsB]) (fun x hx => blocksRight_calls h x hx)
theorem mem_ofList {bs : List Block} {x : Int} : x ∈ ofList bs ↔ x ∈ blocksCalls bs := by
  unfold ofList
  rw [(rising_of_sorted (sorted (blocksCalls bs)) (sorted_pairwise _)).2.1 x]
  exact (List.mergeSort_perm _ intLe).mem_iff
end Go.Proofs.Ytobhjjbhlnbcpaa
