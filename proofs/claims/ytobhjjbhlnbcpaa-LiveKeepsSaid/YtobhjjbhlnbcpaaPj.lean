/- Plain: inlining of small leaves, and tails. -/
import Derived.Test.YtobhjjbhlnbcpaaPg
import Derived.Test.YtobhjjbhlnbcpaaCk
namespace Go.Proofs.Ytobhjjbhlnbcpaa
set_option linter.unusedVariables false
set_option linter.unusedSimpArgs false

def calledI (o : Op) : Int := if o.rel = true ∧ o.kind = 1 then o.to else -1
/-- What stands in an instruction's place. -/
def inlOps (gs : List Graph) (o : Op) : List Op :=
  if 0 ≤ calledI o then match gs[(calledI o).toNat]? with
    | some h => if (smallB h.blocks && !h.keep) = true then (h.blocks.headD default).ops else [o]
    | none => [o]
  else [o]
def inlAll (gs : List Graph) (os : List Op) : List Op := os.flatMap (inlOps gs)
def leavesB (gs : List Graph) (b : Block) : Block := ⟨inlAll gs b.ops, b.fin⟩
def tailTerm (n : Int) : Term := ⟨4, 0, 0, 0, n, 0, Ins.zero⟩
def tailsB (b : Block) : Block :=
  match b.ops.getLast? with
  | none => b
  | some o => if b.fin.kind = 3 ∧ b.fin.ins.op = 21 ∧ 0 ≤ calledI o then ⟨b.ops.dropLast, tailTerm (calledI o)⟩ else b
def eachG (f : Block → Block) (g : Graph) : Graph := if g.keep = true then g else ⟨g.name, g.keep, g.leaf, g.blocks.map f⟩
def eachB (f : Block → Block) (g : Graph) (b : Block) : Block := if g.keep = true then b else f b
theorem eachG_eq (f : Block → Block) (g : Graph) : eachG f g = ⟨g.name, g.keep, g.leaf, g.blocks.map (eachB f g)⟩ := by
  unfold eachG eachB
  by_cases h : g.keep = true
  · simp [h]
    rw [← h]
  · simp [h]
def leavesG (gs : List Graph) : Graph → Graph := eachG (leavesB gs)
def tailsG : Graph → Graph := eachG tailsB

theorem inlOps_not {gs : List Graph} {o : Op} (h : calledI o < 0) : inlOps gs o = [o] := by unfold inlOps; rw [if_neg (by omega)]
theorem inlOps_at {gs : List Graph} {o : Op} {h : Graph} (h0 : 0 ≤ calledI o) (hh : gs[(calledI o).toNat]? = some h) : inlOps gs o = if (smallB h.blocks && !h.keep) = true then (h.blocks.headD default).ops else [o] := by
  unfold inlOps
  rw [if_pos h0, hh]
theorem small_one {bs : List Block} (h : smallB bs = true) : ∃ b, bs = [b] ∧ b.ops.length ≤ 8 := by
  unfold smallB at h
  match bs, h with
  | [b], h => exact ⟨b, rfl, by simp at h; omega⟩
theorem inlOps_len (gs : List Graph) (o : Op) : (inlOps gs o).length ≤ 8 := by
  unfold inlOps
  split
  · split
    · split
      · rename_i hc
        rw [Bool.and_eq_true] at hc
        obtain ⟨b, e, hb⟩ := small_one hc.1
        rw [e]
        exact hb
      · simp
    · simp
  · simp
theorem inl_len (gs : List Graph) (os : List Op) : (inlAll gs os).length ≤ 8 * os.length := by
  unfold inlAll
  induction os with
  | nil => simp
  | cons o r ih =>
    rw [List.flatMap_cons, List.length_append, List.length_cons]
    have := inlOps_len gs o
    omega
theorem inl_succ {gs : List Graph} {os : List Op} {k : Nat} {o : Op} (h : os[k]? = some o) : inlAll gs (os.take (k + 1)) = inlAll gs (os.take k) ++ inlOps gs o := by
  unfold inlAll
  rw [take_snoc h, List.flatMap_append]
  simp
/-- What an instruction calls lies among the graphs. -/
theorem calledI_in {b : Block} {bs : List Block} {o : Op} (hb : b ∈ bs) (ho : o ∈ b.ops) (h : 0 ≤ calledI o) : calledI o ∈ ofList bs := by
  unfold calledI at *
  split at h
  · rename_i hc
    rw [if_pos hc, mem_ofList]
    unfold blocksCalls
    rw [List.mem_flatMap]
    refine ⟨b, hb, ?_⟩
    unfold Block.calls opsCalls
    rw [List.mem_append, List.mem_flatMap]
    exact .inl ⟨o, ho, by unfold Op.calls; rw [if_pos hc]; simp⟩
  · omega
theorem calledI_lt {gs : List Graph} {g : Graph} {b : Block} {o : Op} (hok : GsOk gs) (hg : g ∈ gs) (hb : b ∈ g.blocks) (ho : o ∈ b.ops) : calledI o < gs.length := by
  by_cases h : 0 ≤ calledI o
  · exact ((hok.2 g hg).2 _ (calledI_in hb ho h)).2
  · omega
theorem tailsB_nil {b : Block} (h : b.ops.length = 0) : tailsB b = b := by
  unfold tailsB
  rw [List.eq_nil_of_length_eq_zero h]
  rfl
theorem tailsB_at {b : Block} {o : Op} (h : b.ops[b.ops.length - 1]? = some o) : tailsB b = if b.fin.kind = 3 ∧ b.fin.ins.op = 21 ∧ 0 ≤ calledI o then ⟨b.ops.dropLast, tailTerm (calledI o)⟩ else b := by
  unfold tailsB
  rw [List.getLast?_eq_getElem?, h]
end Go.Proofs.Ytobhjjbhlnbcpaa
