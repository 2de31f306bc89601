/- Plain: sets of registers as numbers; what is live ahead of instructions and ends. -/
import Derived.Test.YtobhjjbhlnbcpaaPd
import Derived.Test.YtobhjjbhlnbcpaaPk
namespace Go.Proofs.Ytobhjjbhlnbcpaa
set_option linter.unusedVariables false
set_option linter.unusedSimpArgs false

def setN (l : List Int) : Nat := l.foldl (fun acc r => acc ||| 2 ^ r.toNat) 0
theorem setN_snoc (l : List Int) (r : Int) : setN (l ++ [r]) = setN l ||| 2 ^ r.toNat := by
  unfold setN
  rw [List.foldl_append]
  rfl
theorem setN_fold (l : List Int) (acc : Nat) (r : Nat) (h : ∀ x ∈ l, 0 ≤ x) : (l.foldl (fun acc r => acc ||| 2 ^ r.toNat) acc).testBit r = (acc.testBit r || decide ((r : Int) ∈ l)) := by
  induction l generalizing acc with
  | nil => simp
  | cons x t ih =>
    rw [List.foldl_cons, ih _ (fun y hy => h y (by simp [hy])), Nat.testBit_or, Nat.testBit_two_pow, Bool.or_assoc]
    congr 1
    have hx := h x (by simp)
    rw [Bool.eq_iff_iff]
    simp
    constructor
    · rintro (e | e)
      · exact .inl (by omega)
      · exact .inr e
    · rintro (e | e)
      · exact .inl (by omega)
      · exact .inr e
theorem setN_bit (l : List Int) (r : Nat) (h : ∀ x ∈ l, 0 ≤ x) : (setN l).testBit r = decide ((r : Int) ∈ l) := by
  unfold setN
  rw [setN_fold l 0 r h]
  simp
theorem setN_lt (l : List Int) (h : ∀ x ∈ l, 0 ≤ x ∧ x ≤ 15) : setN l < 65536 := by
  unfold setN
  have : ∀ acc, acc < 65536 → l.foldl (fun acc r => acc ||| 2 ^ r.toNat) acc < 65536 := by
    induction l with
    | nil => intro acc ha; exact ha
    | cons x t ih =>
      intro acc ha
      rw [List.foldl_cons]
      refine ih (fun y hy => h y (by simp [hy])) _ ?_
      have hx := h x (by simp)
      have h2 : 2 ^ x.toNat < 2 ^ 16 := Nat.pow_lt_pow_right (by decide) (by omega)
      exact Nat.or_lt_two_pow (n := 16) ha h2
  exact this 0 (by decide)
theorem setN_take_lt (l : List Int) (h : ∀ x ∈ l, 0 ≤ x ∧ x ≤ 15) (k : Nat) : setN (l.take k) < 65536 := setN_lt _ (fun x hx => h x (List.mem_of_mem_take hx))

theorem mask_bit {w r : Nat} (hw : w ≤ 15) : (65535 - 2 ^ w).testBit r = (decide (r < 16) && !decide (w = r)) := by
  have h : 2 ^ w < 2 ^ 16 := Nat.pow_lt_pow_right (by decide) (by omega)
  have := Nat.testBit_two_pow_sub_succ (n := 16) (x := 2 ^ w) h r
  rw [Nat.testBit_two_pow] at this
  have e : 2 ^ 16 - (2 ^ w + 1) = 65535 - 2 ^ w := by omega
  rw [e] at this
  exact this
/-- What is live ahead of an instruction: the program's. -/
def beforeN (o : Op) (after : Nat) : Nat :=
  if fkind o.ins.op = 4 then 65534 else
  (if 0 < writes o.ins.op o.ins.a then after &&& (65535 - 2 ^ (writes o.ins.op o.ins.a).toNat) else after) ||| setN (readsList o.ins.op o.ins.a o.ins.b o.ins.c)
def endN (t : Term) (ins : List Nat) : Nat :=
  if t.kind = 1 then ins.getD t.to.toNat 0 else
  if t.kind = 2 then ins.getD t.to.toNat 0 ||| ins.getD t.els.toNat 0 ||| setN (readsList t.op t.a t.b 0) else
  if t.kind = 3 ∧ t.ins.op ≠ 21 then setN (readsList t.ins.op t.ins.a t.ins.b t.ins.c) else 65534
def aheadOps (os : List Op) (now : Nat) : Nat := os.foldr beforeN now
def aheadN (b : Block) (ins : List Nat) : Nat := aheadOps b.ops (endN b.fin ins)
/-- The document's, of one register. -/
def beforeB (o : Op) (r : Nat) (after : Bool) : Bool := if o.ins.op = 20 then true else refReads o.ins.op o.ins.a o.ins.b o.ins.c r || (after && refWrites o.ins.op o.ins.a != (r : Int))
def endB (t : Term) (r : Nat) (ins : List Bool) : Bool :=
  if t.kind = 1 then ins.getD t.to.toNat false else
  if t.kind = 2 then ins.getD t.to.toNat false || ins.getD t.els.toNat false || t.a == (r : Int) || t.b == (r : Int) else
  if t.kind = 3 ∧ t.ins.op ≠ 21 then refReads t.ins.op t.ins.a t.ins.b t.ins.c r else true
def aheadB (b : Block) (r : Nat) (ins : List Bool) : Bool := b.ops.foldr (fun o now => beforeB o r now) (endB b.fin r ins)

theorem Ins.right_eta {i : Ins} (h : i.right = true) : Ins.right ⟨i.op, i.a, i.b, i.c, i.imm⟩ = true := h
theorem reads_mem {i : Ins} (h : i.right = true) : ∀ x ∈ readsList i.op i.a i.b i.c, 1 ≤ x ∧ x ≤ 15 := by
  intro x hx
  rw [readsList_eq h] at hx
  unfold refList at hx
  rw [List.mem_filter] at hx
  exact mem_regs15 hx.1
theorem reads_iff {i : Ins} (h : i.right = true) {r : Nat} (h1 : 1 ≤ r) (h2 : r ≤ 15) : decide ((r : Int) ∈ readsList i.op i.a i.b i.c) = refReads i.op i.a i.b i.c r := by
  rw [readsList_eq h, Bool.eq_iff_iff, decide_eq_true_eq]
  unfold refList
  rw [List.mem_filter]
  refine ⟨fun h => h.2, fun h => ⟨?_, h⟩⟩
  rw [List.mem_map]
  exact ⟨r - 1, by simp; omega, by omega⟩
theorem reads_setN {i : Ins} (h : i.right = true) : setN (readsList i.op i.a i.b i.c) < 65536 := setN_lt _ (fun x hx => by have := reads_mem h x hx; omega)
theorem reads_bit {i : Ins} (h : i.right = true) {r : Nat} (h1 : 1 ≤ r) (h2 : r ≤ 15) : (setN (readsList i.op i.a i.b i.c)).testBit r = refReads i.op i.a i.b i.c r := by
  rw [setN_bit _ _ (fun x hx => by have := reads_mem h x hx; omega), reads_iff h h1 h2]
theorem reads_bit0 {i : Ins} (h : i.right = true) : (setN (readsList i.op i.a i.b i.c)).testBit 0 = false := by
  rw [setN_bit _ _ (fun x hx => by have := reads_mem h x hx; omega), decide_eq_false_iff_not]
  intro hx
  have := reads_mem h _ hx
  omega
theorem all_bit {r : Nat} (h1 : 1 ≤ r) (h2 : r ≤ 15) : (65534 : Nat).testBit r = true := by
  have : ∀ r : Fin 16, 1 ≤ r.val → (65534 : Nat).testBit r.val = true := by decide
  exact this ⟨r, by omega⟩ h1
theorem writes_le {i : Ins} (h : i.right = true) : writes i.op i.a ≤ 15 := by
  have := Ins.right_a (Ins.right_eta h)
  unfold writes
  split <;> omega
theorem fkind_four {i : Ins} (h : i.right = true) : fkind i.op = 4 ↔ i.op = 20 := by
  obtain ⟨h0, h1⟩ := Ins.right_op h
  rw [fkind_kindOf h0 h1]
  exact kindOf_four h0 h1
theorem beforeN_lt {o : Op} (h : o.ins.right = true) {after : Nat} (ha : after < 65536) : beforeN o after < 65536 := by
  unfold beforeN
  split
  · decide
  · have h2 : (if 0 < writes o.ins.op o.ins.a then after &&& (65535 - 2 ^ (writes o.ins.op o.ins.a).toNat) else after) < 2 ^ 16 := by
      split
      · exact Nat.and_lt_two_pow _ (Nat.lt_of_le_of_lt (Nat.sub_le _ _) (by decide))
      · exact ha
    exact Nat.or_lt_two_pow (n := 16) h2 (reads_setN h)
theorem beforeN_bit {o : Op} (h : o.ins.right = true) (after : Nat) {r : Nat} (h1 : 1 ≤ r) (h2 : r ≤ 15) : (beforeN o after).testBit r = beforeB o r (after.testBit r) := by
  unfold beforeN beforeB
  have h4 := fkind_four h
  by_cases h20 : o.ins.op = 20
  · rw [if_pos (h4.2 h20), if_pos h20]
    exact all_bit h1 h2
  · rw [if_neg (fun e => h20 (h4.1 e)), if_neg h20, Nat.testBit_or, reads_bit h h1 h2, Bool.or_comm]
    congr 1
    rw [writes_eq (Ins.right_eta h)]
    have hw : refWrites o.ins.op o.ins.a ≤ 15 := by rw [← writes_eq (Ins.right_eta h)]; exact writes_le h
    by_cases hp : 0 < refWrites o.ins.op o.ins.a
    · rw [if_pos hp, Nat.testBit_and, mask_bit (by omega)]
      have e : (refWrites o.ins.op o.ins.a != (r : Int)) = !decide ((refWrites o.ins.op o.ins.a).toNat = r) := by
        by_cases hq : refWrites o.ins.op o.ins.a = (r : Int)
        · rw [hq]; simp
        · have : ¬ (refWrites o.ins.op o.ins.a).toNat = r := by omega
          simp [hq, this]
      rw [e, show decide (r < 16) = true from by simp; omega, Bool.true_and]
    · rw [if_neg hp]
      have e : (refWrites o.ins.op o.ins.a != (r : Int)) = true := by simp; omega
      rw [e, Bool.and_true]
theorem beforeN_bit0 {o : Op} (h : o.ins.right = true) {after : Nat} (ha : after.testBit 0 = false) : (beforeN o after).testBit 0 = false := by
  unfold beforeN
  split
  · decide
  · rw [Nat.testBit_or, reads_bit0 h, Bool.or_false]
    split
    · rw [Nat.testBit_and, ha, Bool.false_and]
    · exact ha
end Go.Proofs.Ytobhjjbhlnbcpaa
