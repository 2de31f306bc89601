/- Plain: what is known behind instructions; whether branches are taken. -/
import Derived.Test.YtokkngfgppikkabKe
import Derived.Test.YtokkngfgppikkabGe
namespace Go.Proofs.Ytokkngfgppikkab
set_option linter.unusedVariables false
set_option linter.unusedSimpArgs false

theorem right_bc {i : Ins} (h : i.right = true) : (0 ≤ i.b ∧ i.b ≤ 15) ∧ (0 ≤ i.c ∧ i.c ≤ 15) := by
  unfold Ins.right three near branch far one reg at h
  repeat' split at h
  all_goals simp_all
  all_goals omega
theorem writes_pos {op a : Int} (h : ¬ writes op a < 0) : writes op a = a ∧ a ≠ 0 ∧ (1 ≤ op ∧ op ≤ 11 ∨ op = 13 ∨ op = 22) := by
  unfold writes at h ⊢
  split
  · rename_i k; exact ⟨rfl, k.2, k.1⟩
  · rename_i k; rw [if_neg k] at h; omega
theorem right_a {i : Ins} (h : i.right = true) : 0 ≤ i.a ∧ i.a ≤ 15 := by
  unfold Ins.right three near branch far one reg at h
  repeat' split at h
  all_goals simp_all
  all_goals omega
def allK (k : Known) (l : List Int) : Bool := l.all (fun r => k.isAt r.toNat)
def canK (k : Known) (o : Op) : Bool := fkind o.ins.op == 0 && (!o.rel && allK k (readsList o.ins.op o.ins.a o.ins.b o.ins.c))
def doneK (k : Known) (o : Op) : Nat := aluDo o.ins.op o.ins.imm (k.wAt o.ins.b.toNat) (k.wAt o.ins.c.toNat)
def behindK (k : Known) (o : Op) : Known :=
  if k.reached = false then k else
  if fkind o.ins.op = 4 then Known.none else
  if writes o.ins.op o.ins.a < 0 then k else
  if canK k o = true then k.put (writes o.ins.op o.ins.a).toNat true (doneK k o) else
  k.put (writes o.ins.op o.ins.a).toNat false 0
theorem doneK_lt {k : Known} (h : k.wf) (o : Op) : doneK k o < 4294967296 := aluDo_lt (Known.w_lt h _) (Known.w_lt h _)
theorem behindK_wf {k : Known} (h : k.wf) (o : Op) : (behindK k o).wf := by
  unfold behindK
  split
  · exact h
  · split
    · exact Known.none_wf
    · split
      · exact h
      · split
        · exact Known.put_wf h _ _ (doneK_lt h o)
        · exact Known.put_wf h _ _ (by decide)
theorem none_is (r : Nat) : Known.none.isAt r = (r == 0) := by
  cases r with
  | zero => rfl
  | succ n =>
    show (List.replicate 15 false).getD n false = false
    rw [List.getD_eq_getElem?_getD, List.getElem?_replicate]
    split <;> rfl
theorem none_w (r : Nat) : Known.none.wAt r = 0 := some0_w r
theorem none_rightK : rightK Known.none = true := by
  unfold rightK
  rw [if_neg (by show ¬ (true = false); decide), Bool.and_eq_true, List.all_eq_true]
  exact ⟨fun r _ => by rw [none_w]; simp, by rw [none_is, none_w]; rfl⟩
theorem put_rightK {k : Known} (hw : k.wf) (h : rightK k = true) (hr : k.reached = true) {r : Nat} (h1 : 1 ≤ r) (h2 : r < 16) (b : Bool) (x : Nat) (hb : b = true ∨ x = 0) : rightK (k.put r b x) = true := by
  obtain ⟨k0, k1⟩ := rightK_0 h hr
  unfold rightK
  rw [if_neg (by show ¬ (k.reached = false); rw [hr]; decide), Bool.and_eq_true, List.all_eq_true]
  refine ⟨fun s hs => ?_, ?_⟩
  · have hs := List.mem_range.1 hs
    rw [Known.put_is hw h2, Known.put_w hw h2]
    by_cases e : s = r
    · rw [if_pos e, if_pos e]
      rcases hb with rfl | rfl <;> simp
    · rw [if_neg e, if_neg e]
      cases hi : k.isAt s with
      | true => rfl
      | false => rw [rightK_w h hr hs hi]; rfl
  · rw [Known.put_is hw h2, Known.put_w hw h2, if_neg (by omega), if_neg (by omega), k0, k1]
    rfl
theorem behindK_rightK {k : Known} (hw : k.wf) (h : rightK k = true) {o : Op} (ho : o.ins.right = true) : rightK (behindK k o) = true := by
  unfold behindK
  split
  · exact h
  · rename_i hr
    have hr : k.reached = true := by simpa using hr
    split
    · exact none_rightK
    · split
      · exact h
      · rename_i hn
        obtain ⟨e, ha, -⟩ := writes_pos hn
        obtain ⟨a0, a1⟩ := right_a ho
        rw [e]
        split
        · exact put_rightK hw h hr (by omega) (by omega) _ _ (.inl rfl)
        · exact put_rightK hw h hr (by omega) (by omega) _ _ (.inr rfl)
def takenK (k : Known) (t : Term) : Bool × Bool := if (!k.reached || (!k.isAt t.a.toNat || !k.isAt t.b.toNat)) = true then (false, false) else (aluTaken t.op (k.wAt t.a.toNat) (k.wAt t.b.toNat), true)
def waysK (k : Known) (t : Term) : List Int :=
  if t.kind = 1 then [t.to] else
  if t.kind = 2 then (if (takenK k t).2 = false then [t.to, t.els] else if (takenK k t).1 = true then [t.to] else [t.els]) else []
end Go.Proofs.Ytokkngfgppikkab
