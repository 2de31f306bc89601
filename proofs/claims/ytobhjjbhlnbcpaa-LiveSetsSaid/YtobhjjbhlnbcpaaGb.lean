/- The library's Sort, Compact and DeleteFunc over ints of the call's own: what each leaves. Appending a number to a slice of the call's own. The reference's predicates on instructions: what each answers. The reference's predicates on graphs: what each answers. The reference's predicates on blocks' ends and graphs: what each answers. The reference's predicates on graphs: few, right. The reference's predicate on graphs: right. Layer 3 (flow) and its reference: what each function answers. flow.Reads: the registers that an instruction reads, sorted, each once, in memory of the call's own. The reference's list of what an instruction reads; comparing lists of ints. What the program lists as read is what the document lists; and what follows of it. The two ways to say what an instruction is agree. Plain: a sorted list with its doubles left out is the rising list of its members. What a graph calls, as plain lists. Appending a number to a slice of the call's own, with what else stays. A row of bools of the call's own; what turns in it alone. -/
import Derived.Test.YtobhjjbhlnbcpaaGa
import Derived.Test.YtobhjjbhlnbcpaaChecked
import Derived.Test.YtobhjjbhlnbcpaaSh
import Derived.Sort.OwnSortedInts
import Derived.Lib.RowBridge
import Derived.StillTailTactics
import Derived.Deep.CutBlock
import Derived.Deep.DeepCutAuto
import Derived.Maps.AppendAt
import Derived.Laws.OwnMore
namespace Go.Proofs.Ytobhjjbhlnbcpaa
set_option linter.unusedVariables false
set_option linter.unusedSimpArgs false
open Go.RowKit Go.Sort Go.Shelf

/-- A slice of ints of the call's own, from block number base on. -/
def OwnI (w : World) (base : Nat) (v : Value) (xs : List Int) : Prop := w.ownsRow base 3 1 v xs.length (xs.map (Value.int .i64))

theorem OwnI.nil (w : World) (base : Nat) : OwnI w base (.slice none 0 0) [] := World.ownsRow_nil w base 3 1
theorem OwnI.cases {w : World} {base : Nat} {v : Value} {xs : List Int} (h : OwnI w base v xs) : (v = .slice none 0 0 ∧ xs = []) ∨ ∃ g cap cur, v = .slice (some ⟨g, 0, none⟩) xs.length cap ∧ base ≤ g ∧ w.heap[g]? = some (.cells cur 3 (0, 0)) ∧ xs.length ≤ cap ∧ cap ≤ maxLen ∧ cur.size = cap ∧ cur.toList.take xs.length = xs.map (Value.int .i64) := by
  obtain ⟨_, h | ⟨g, cap, cur, h1, h2, h3, h4, h5, h6, h7⟩⟩ := h
  · exact .inl ⟨h.1, List.eq_nil_of_length_eq_zero h.2⟩
  · exact .inr ⟨g, cap, cur, h1, h2, h3, h4, h5, by simpa using h6, by simpa using h7⟩

theorem OwnI.mk {w : World} {base g cap : Nat} {cur : Array Value} {xs : List Int} (h2 : base ≤ g) (h3 : w.heap[g]? = some (.cells cur 3 (0, 0))) (h4 : xs.length ≤ cap) (h5 : cap ≤ maxLen) (h6 : cur.size = cap) (h7 : cur.toList.take xs.length = xs.map (Value.int .i64)) : OwnI w base (.slice (some ⟨g, 0, none⟩) xs.length cap) xs :=
  ⟨by simp, .inr ⟨g, cap, cur, rfl, h2, h3, h4, h5, by simpa using h6, by simpa using h7⟩⟩

def intLe (x y : Int) : Bool := decide (x ≤ y)
def sorted (xs : List Int) : List Int := xs.mergeSort intLe
theorem sorted_length (xs : List Int) : (sorted xs).length = xs.length := List.length_mergeSort xs

/-- What a call that writes a row of one's own leaves: the slice that it hands back, the row's new content. -/
def Wrote (w : World) (base : Nat) (v : Value) (xs : List Int) (e : Ending) (w' : World) : Prop := ∃ v', e = .returned v' ∧ OwnI w' base v' xs ∧ w.grownBy w' v.ownBlock ∧ v'.ownBlock = v.ownBlock

theorem sort_calls {w : World} {base : Nat} {v : Value} {xs : List Int} (h : OwnI w base v xs) (hl : xs.length < 4611686018427387904) : Calls Try.prog 57 #[v] w fun e w' => e = .returned (.tuple #[]) ∧ OwnI w' base v (sorted xs) ∧ w.grownBy w' v.ownBlock := by
  rcases h.cases with ⟨rfl, rfl⟩ | ⟨g, cap, cur, rfl, h2, h3, h4, h5, h6, h7⟩
  · have hc := AnyM.slices_Sort_int_none Try.sortI none 0 w
    change Calls Try.prog 57 _ _ _ at hc
    refine hc.mono ?_
    rintro e w' ⟨rfl, rfl⟩
    exact ⟨rfl, by simpa [sorted] using OwnI.nil w' base, ⟨rfl, rfl, rfl, Nat.le_refl _, fun _ _ _ => rfl⟩⟩
  · have hc := AnyM.slices_Sort_int Try.sortI g 0 cap xs w (holds_of_blockI h3 (by simpa using h7)) (Array.getElem?_eq_some_iff.1 h3).1 hl
    change Calls Try.prog 57 _ _ _ at hc
    refine hc.mono ?_
    rintro e w' ⟨rfl, n, os, rfl⟩
    refine ⟨rfl, ?_, grownBy_sortedI _⟩
    have := ownsRow_sortedI (n := n) (os := os) (ts := sorted xs) (sorted_length xs) h2 h3 h4 h5 (by simpa using h6)
    unfold OwnI
    rw [sorted_length]
    exact this

theorem zeroInt (w : World) : (zeroValue 3).run Try.prog w = .ok (.int .i64 0) w := by kernel_rfl

theorem putRow_own {w : World} {base g cap n : Nat} {cur : Array Value} {xs ys : List Int} (h2 : base ≤ g) (h3 : w.heap[g]? = some (.cells cur 3 (0, 0))) (h4 : xs.length ≤ cap) (h5 : cap ≤ maxLen) (h6 : cur.size = cap) (hl : ys.length ≤ xs.length) :
    OwnI (putRow (Value.int .i64) (Sort.ahead w n) g 0 (ys ++ List.replicate (xs.length - ys.length) (0 : Int)).toArray) base (.slice (some ⟨g, 0, none⟩) ys.length cap) ys ∧ w.grownBy (putRow (Value.int .i64) (Sort.ahead w n) g 0 (ys ++ List.replicate (xs.length - ys.length) (0 : Int)).toArray) (some g) := by
  have hh := heap_sortedI (n := n) (os := #[]) (ys ++ List.replicate (xs.length - ys.length) (0 : Int)).toArray h3
  have hg := grownBy_sortedI (w := w) (g := g) (n := n) (os := #[]) (ys ++ List.replicate (xs.length - ys.length) (0 : Int)).toArray
  rw [grow_empty] at hh hg
  refine ⟨OwnI.mk h2 hh (by omega) h5 (by simp [putCells, h6]) ?_, hg⟩
  have ht := take_putCellsI cur (ys ++ List.replicate (xs.length - ys.length) (0 : Int)) (by simp; omega)
  have := congrArg (List.take ys.length) ht
  rw [List.take_take] at this
  simpa [Nat.min_eq_left, hl] using this

def compact (xs : List Int) : List Int := Go.Lib.compact xs
set_option maxHeartbeats 400000 in
theorem compact_calls {w : World} {base : Nat} {v : Value} {xs : List Int} (h : OwnI w base v xs) (hl : xs.length < 4611686018427387904) : Calls Try.prog 58 #[v] w (Wrote w base v (compact xs)) := by
  rcases h.cases with ⟨rfl, rfl⟩ | ⟨g, cap, cur, rfl, h2, h3, h4, h5, h6, h7⟩
  · have hn : Wrote w base (.slice none 0 0) (compact []) (.returned (.slice none 0 0)) w := ⟨_, rfl, by simpa [compact, Go.Lib.compact, Go.Lib.compactUpTo] using OwnI.nil w base, ⟨rfl, rfl, rfl, Nat.le_refl _, fun _ _ _ => rfl⟩, rfl⟩
    have HN := Lib.hid hn
    clear hn
    go_enter Try.func58, Try.ntmps58
    go_wp2
    go_ret
    exact HN.out
  · have hc := AnyE.slices_Compact Try.compactI (Value.int .i64) (fun _ => rfl) (EqlAt.intD _ _ _) (NeqAt.intD _ _ _) (0 : Int) zeroInt g 0 cap xs.toArray w (holds_of_blockI h3 (by simpa using h7)) (by simp; omega) (by simpa using h4)
    change Calls Try.prog 58 _ _ _ at hc
    refine Calls.mono (by simpa using hc) ?_
    rintro e w' ⟨rfl, q, rfl⟩
    have hlen : (Go.Lib.compactUpTo xs.toArray xs.length).length ≤ xs.length := Go.Lib.compact_length_le xs
    obtain ⟨h8, h9⟩ := putRow_own (n := q) (ys := Go.Lib.compactUpTo xs.toArray xs.length) h2 h3 h4 h5 h6 hlen
    exact ⟨_, rfl, h8, h9, rfl⟩

/-- The literal that tells which registers are 0. -/
theorem isZero_gives (W : World) (x : Int) : FnGives Try.prog 60 #[] #[.int .i64 x] (.bool (x == 0)) W := by
  unfold FnGives
  go_enter Try.func60, Try.ntmps60
  go_wp2
  go_ret
  exact ⟨rfl, 0, rfl⟩

def noZero (xs : List Int) : List Int := xs.filter fun x => !(x == 0)
set_option maxHeartbeats 400000 in
theorem delete_calls {w : World} {base : Nat} {v : Value} {xs : List Int} (h : OwnI w base v xs) (hl : xs.length < 4611686018427387904) : Calls Try.prog 59 #[v, .func (.func 60) #[] #[]] w (Wrote w base v (noZero xs)) := by
  rcases h.cases with ⟨rfl, rfl⟩ | ⟨g, cap, cur, rfl, h2, h3, h4, h5, h6, h7⟩
  · have hn : Wrote w base (.slice none 0 0) (noZero []) (.returned (.slice none 0 0)) w := ⟨_, rfl, by simpa [noZero] using OwnI.nil w base, ⟨rfl, rfl, rfl, Nat.le_refl _, fun _ _ _ => rfl⟩, rfl⟩
    have HN := Lib.hid hn
    clear hn
    have hc : ∀ fv W, Calls Try.prog 69 #[.slice none 0 0, fv] W fun e w' => e = .returned (.int .i64 (-1)) ∧ w' = W := fun fv W => AnyE.slices_IndexFunc_empty (P := Try.prog) (ρ := Try.deleteI_ren) { Try.deleteI with } none 0 fv W
    go_enter Try.func59, Try.ntmps59
    go_wp2_with (go_at_call 69; refine (hc _ _).mono ?_; rintro e w' ⟨rfl, rfl⟩)
    go_ret
    exact HN.out
  · have hc := AnyE.slices_DeleteFunc Try.deleteI (Value.int .i64) (fun _ => rfl) (fun x => x == 0) 60 #[] (enters_of Try.func60 (by kernel_rfl) rfl) (0 : Int) zeroInt g 0 cap xs.toArray w (fun W x _ => isZero_gives W x) (fun n os dk x _ => isZero_gives _ x) (holds_of_blockI h3 (by simpa using h7)) (by simp; omega) (by simpa using h4)
    change Calls Try.prog 59 _ _ _ at hc
    have hlen : (noZero xs).length ≤ xs.length := List.length_filter_le _ _
    obtain ⟨hq⟩ : Nonempty (∀ q, OwnI (putRow (Value.int .i64) (Sort.ahead w q) g 0 (noZero xs ++ List.replicate (xs.length - (noZero xs).length) (0 : Int)).toArray) base (.slice (some ⟨g, 0, none⟩) (noZero xs).length cap) (noZero xs) ∧ w.grownBy (putRow (Value.int .i64) (Sort.ahead w q) g 0 (noZero xs ++ List.replicate (xs.length - (noZero xs).length) (0 : Int)).toArray) (some g)) := ⟨fun q => putRow_own (n := q) (ys := noZero xs) h2 h3 h4 h5 h6 hlen⟩
    refine Calls.mono hc ?_
    rintro e w' ⟨rfl, q, rfl⟩
    obtain ⟨h8, h9⟩ := hq q
    exact ⟨_, rfl, h8, h9, rfl⟩
end Go.Proofs.Ytobhjjbhlnbcpaa
namespace Go.Proofs.Ytobhjjbhlnbcpaa
set_option linter.unusedVariables false
set_option linter.unusedSimpArgs false
open Go.RowKit

theorem infoInt : (Try.prog.info? 3).map (fun i => (i.zero, i.size, i.bytes)) = some (some (.int .i64 0), 1, 8) := by kernel_rfl

theorem OwnI.mono {w : World} {base base' : Nat} {v : Value} {xs : List Int} (h : OwnI w base v xs) (hb : base' ≤ base) : OwnI w base' v xs := by
  obtain ⟨h0, h | ⟨g, cap, cur, h1, h2, h3⟩⟩ := h
  · exact ⟨h0, .inl h⟩
  · exact ⟨h0, .inr ⟨g, cap, cur, h1, Nat.le_trans hb h2, h3⟩⟩
theorem OwnI.alloc {w : World} {base : Nat} {v : Value} {xs : List Int} (h : OwnI w base v xs) (o : Obj) : OwnI (w.alloc o) base v xs := World.ownsRow.alloc h o
theorem OwnI.drew {w : World} {base : Nat} {v : Value} {xs : List Int} (h : OwnI w base v xs) : OwnI w.drew base v xs := h
/-- What lies in one's own row stays while no block of one's own is written. -/
theorem OwnI.block {w : World} {base : Nat} {v : Value} {xs : List Int} (h : OwnI w base v xs) : ∀ k, v.ownBlock = some k → base ≤ k ∧ k < w.heap.size := World.ownsRow.lt h
theorem OwnI.below {w w' : World} {base : Nat} {v : Value} {xs : List Int} (h : OwnI w base v xs) (hb : Below w.heap.size w w') : OwnI w' base v xs := by
  rcases h.cases with ⟨rfl, rfl⟩ | ⟨g, cap, cur, rfl, h2, h3, h4, h5, h6, h7⟩
  · exact OwnI.nil _ _
  · exact OwnI.mk h2 (by rw [hb.block g (Array.getElem?_eq_some_iff.1 h3).1]; exact h3) h4 h5 h6 h7
/-- What a write into one's own row leaves of all below it. -/
theorem OwnI.grown {w w' : World} {base : Nat} {v : Value} {xs : List Int} (h : OwnI w base v xs) (hb : base ≤ w.heap.size) (hg : w.grownBy w' v.ownBlock) : Below base w w' :=
  (Below.refl base w).grown hg hb (fun k hk => (h.block k hk).1)

theorem OwnI.cells {w : World} {base : Nat} {v : Value} {xs : List Int} (h : OwnI w base v xs) : ∃ A c, v = .slice A xs.length c ∧ xs.length ≤ c ∧ c ≤ maxLen ∧ ∀ i x, xs[i]? = some x → ∃ g, A = some ⟨g, 0, none⟩ ∧ w.cell? ⟨g, i, none⟩ = some (.int .i64 x) ∧ w.frozen? ⟨g, i, none⟩ = false ∧ base ≤ g := by
  rcases h.cases with ⟨rfl, rfl⟩ | ⟨g, cap, cur, rfl, h2, h3, h4, h5, h6, h7⟩
  · exact ⟨none, 0, rfl, Nat.le_refl _, Nat.zero_le _, fun i x hx => by simp at hx⟩
  · refine ⟨_, _, rfl, h4, h5, fun i x hx => ⟨g, rfl, ?_, by simp [World.frozen?, h3], h2⟩⟩
    have hi : i < xs.length := (List.getElem?_eq_some_iff.1 hx).1
    have h8 : (cur.toList.take xs.length)[i]? = (xs.map (Value.int .i64))[i]? := by rw [h7]
    rw [List.getElem?_take_of_lt hi, List.getElem?_map, hx] at h8
    simp only [World.cell?, h3, Option.isSome_none, Bool.false_eq_true, if_false]
    rw [← Array.getElem?_toList, h8]
    rfl

theorem wpList_append_one {ops : Array Oper} {rest : List Oper} {o : Oper} {a : Act} {Q : Exit → Act → World → Prop} (hgd : o.guard = none) (s x : Operand)
    (ho : o.op = .call { callee := .builtin .append, args := #[s, x], argTypes := #[29, 29] }) {w : World} (base : Nat) {v : Value} {xs : List Int} {y : Int} (hown : OwnI w base v xs) (hs : a.eval s = v) (hx : a.eval x = .slice (some ⟨w.heap.size, 0, none⟩) 1 1)
    (hl : xs.length ≤ 1099511627776) (hb : base ≤ w.heap.size)
    (h : ∀ v' w', OwnI w' base v' (xs ++ [y]) → Below base w w' → wpList Try.prog ops Q rest (a.put o.dst v') w') : wpList Try.prog ops Q (o :: rest) a (w.alloc (.cells #[.int .i64 y] 3)) := by
  obtain ⟨i0, hi, hz0, hz1, hz2⟩ := info_parts infoInt
  refine wpList_append_own _ hgd s x 29 ho base 3 i0 (.int .i64 0) 1 8 Try.underlying29 hi hz0 hz1 hz2 rfl (by decide) v xs.length (xs.map (Value.int .i64)) hs (World.ownsRow.alloc hown _) ⟨w.heap.size, 0, none⟩ 1 1 [.int .i64 y] hx rfl ?_ ?_ (by unfold maxLen; omega) (by omega) (by simp; omega) ?_
  · intro j u hj
    cases j with
    | zero => simp at hj; subst hj; simp [Addr.add]
    | succ j => simp at hj
  · intro u hu; simp at hu; subst hu; rfl
  · intro v' w' ho hg _
    refine h v' w' ?_ ?_
    · unfold OwnI
      simpa using ho
    · have hb2 := (Below.refl base (w.alloc (.cells #[.int .i64 y] 3))).grown hg (by simp; omega) (fun k hk => (hown.block k hk).1)
      exact (((Below.refl base w).alloc hb _)).trans hb2
end Go.Proofs.Ytobhjjbhlnbcpaa
namespace Go.Proofs.Ytobhjjbhlnbcpaa
set_option linter.unusedVariables false
set_option linter.unusedSimpArgs false
open Go.RowKit

set_option maxHeartbeats 400000 in
theorem three_calls (n : Int) (w : World) : Calls Try.prog 61 #[.int .i64 n] w fun e w' => e = .returned (.bool (three n)) ∧ w' = w := by
  go_enter Try.func61, Try.ntmps61
  go_wp2
  all_goals (go_ret; refine ⟨?_, rfl⟩; simp [three]; omega)
set_option maxHeartbeats 400000 in
theorem reg_calls (n : Int) (w : World) : Calls Try.prog 62 #[.int .i64 n] w fun e w' => e = .returned (.bool (reg n)) ∧ w' = w := by
  go_enter Try.func62, Try.ntmps62
  go_wp2
  all_goals (go_ret; refine ⟨?_, rfl⟩; simp [reg]; omega)
set_option maxHeartbeats 400000 in
theorem near_calls (n : Int) (w : World) : Calls Try.prog 63 #[.int .i64 n] w fun e w' => e = .returned (.bool (near n)) ∧ w' = w := by
  go_enter Try.func63, Try.ntmps63
  go_wp2
  all_goals (go_ret; refine ⟨?_, rfl⟩; simp_all [near]; try omega)
set_option maxHeartbeats 400000 in
theorem branch_calls (n : Int) (w : World) : Calls Try.prog 64 #[.int .i64 n] w fun e w' => e = .returned (.bool (branch n)) ∧ w' = w := by
  go_enter Try.func64, Try.ntmps64
  go_wp2
  all_goals (go_ret; refine ⟨?_, rfl⟩; simp [branch]; omega)
set_option maxHeartbeats 400000 in
theorem one_calls (n : Int) (w : World) : Calls Try.prog 65 #[.int .i64 n] w fun e w' => e = .returned (.bool (one n)) ∧ w' = w := by
  go_enter Try.func65, Try.ntmps65
  go_wp2
  all_goals (go_ret; refine ⟨?_, rfl⟩; simp_all [one])
set_option maxHeartbeats 400000 in
theorem far_calls (n : Int) (w : World) : Calls Try.prog 66 #[.int .i64 n] w fun e w' => e = .returned (.bool (far n)) ∧ w' = w := by
  go_enter Try.func66, Try.ntmps66
  go_wp2
  all_goals (go_ret; refine ⟨?_, rfl⟩; simp_all [far])
set_option maxHeartbeats 2000000 in
set_option maxRecDepth 100000 in
theorem insRight_calls (op a b c imm : Int) (w : World) : Calls Try.prog 55 #[.agg #[.int .i64 op, .int .i64 a, .int .i64 b, .int .i64 c, .int .i64 imm]] w fun e w' => e = .returned (.bool (Ins.right ⟨op, a, b, c, imm⟩)) ∧ Below w.heap.size w w' := by
  go_enter Try.func55, Try.ntmps55
  go_wp2_with (first
    | (go_at_call 61; refine (three_calls _ _).mono ?_; rintro e w' ⟨rfl, rfl⟩)
    | (go_at_call 62; refine (reg_calls _ _).mono ?_; rintro e w' ⟨rfl, rfl⟩)
    | (go_at_call 63; refine (near_calls _ _).mono ?_; rintro e w' ⟨rfl, rfl⟩)
    | (go_at_call 64; refine (branch_calls _ _).mono ?_; rintro e w' ⟨rfl, rfl⟩)
    | (go_at_call 65; refine (one_calls _ _).mono ?_; rintro e w' ⟨rfl, rfl⟩)
    | (go_at_call 66; refine (far_calls _ _).mono ?_; rintro e w' ⟨rfl, rfl⟩))
  all_goals (go_ret; refine ⟨?_, (Below.refl _ _).alloc (Nat.le_refl _) _⟩; (try simp_all [Ins.right]); try omega)
set_option maxHeartbeats 2000000 in
set_option maxRecDepth 100000 in
theorem kind_calls (op a b c imm : Int) (w : World) (h0 : 0 ≤ op) (h1 : op < 26) : Calls Try.prog 56 #[.agg #[.int .i64 op, .int .i64 a, .int .i64 b, .int .i64 c, .int .i64 imm]] w fun e w' => e = .returned (.int .i64 (kindOf op)) ∧ Below w.heap.size w w' := by
  obtain ⟨n, rfl⟩ := Int.eq_ofNat_of_zero_le h0
  have hn : n < 26 := by omega
  go_enter Try.func56, Try.ntmps56
  go_wp2
  go_ret
  refine ⟨?_, ((Below.refl _ _).alloc (Nat.le_refl _) _).alloc (by simp) _⟩
  unfold kindOf
  rw [Int.toNat_natCast, List.getD_eq_getElem?_getD, List.getElem?_eq_getElem (by simpa using hn), Option.getD_some]
  show Ending.returned ((([5, 0, 0, 0, 0, 0, 0, 0, 0, 0, 0, 1, 1, 1, 1, 2, 2, 2, 2, 3, 4, 5, 1, 1, 0, 5] : List Int).map (Value.int .i64))[n]'(by simpa using hn)) = _
  rw [List.getElem_map]
end Go.Proofs.Ytobhjjbhlnbcpaa
namespace Go.Proofs.Ytobhjjbhlnbcpaa
set_option linter.unusedVariables false
set_option linter.unusedSimpArgs false
open Go.RowKit

theorem beq_ins (i j : Ins) : (i == j) = (i.op == j.op && (i.a == j.a && (i.b == j.b && (i.c == j.c && i.imm == j.imm)))) := by
  obtain ⟨a, b, c, d, e⟩ := i
  obtain ⟨a', b', c', d', e'⟩ := j
  rw [Bool.eq_iff_iff]
  simp

theorem eqIns (d : Nat) (w : World) (x0 y0 x1 y1 x2 y2 x3 y3 x4 y4 : Int) :
    (Op.equalIn (d + 2) 39 (.agg #[.int .i64 x0, .int .i64 x1, .int .i64 x2, .int .i64 x3, .int .i64 x4]) (.agg #[.int .i64 y0, .int .i64 y1, .int .i64 y2, .int .i64 y3, .int .i64 y4])).run Try.prog w = .ok ((⟨x0, x1, x2, x3, x4⟩ : Ins) == ⟨y0, y1, y2, y3, y4⟩) w := by
  rw [beq_ins]
  have hu := Try.underlying39
  rw [run_equalIn_struct w (d + 1) 39 _ _ (by rfl) (by kernel_rfl)]
  simp [Try.underlying39, Program.fieldsOf, go_sem]
  (repeat' split) <;> simp_all
attribute [local go_sem high] eqIns

set_option maxHeartbeats 2000000 in
set_option maxRecDepth 100000 in
theorem op_calls (op a b c imm : Int) (rel : Bool) (kind too add funcs datas : Int) (w : World) : Calls Try.prog 43 #[.agg #[.int .i64 op, .int .i64 a, .int .i64 b, .int .i64 c, .int .i64 imm, .bool rel, .int .i64 kind, .int .i64 too, .int .i64 add], .int .i64 funcs, .int .i64 datas] w fun e w' => e = .returned (.bool (Op.right ⟨⟨op, a, b, c, imm⟩, rel, kind, too, add⟩ funcs datas)) ∧ Below w.heap.size w w' := by
  cases hr : Ins.right ⟨op, a, b, c, imm⟩ with
  | false =>
    go_enter Try.func43, Try.ntmps43
    go_wp2_with (go_at_call 55; refine (insRight_calls _ _ _ _ _ _).mono ?_; rintro e w1 ⟨rfl, hb1⟩; rw [hr])
    go_ret
    exact ⟨by simp [Op.right, hr], ((Below.refl _ _).alloc (Nat.le_refl _) _).trans (hb1.mono (by simp))⟩
  | true =>
    obtain ⟨h0, h1⟩ := Ins.right_op hr
    replace h0 : 0 ≤ op := h0
    replace h1 : op < 26 := h1
    have hop : Op.right ⟨⟨op, a, b, c, imm⟩, rel, kind, too, add⟩ funcs datas = (if !rel then decide (kindOf op ≤ 1) && kind == 0 && too == 0 && add == 0 else
      if imm ≠ 0 ∨ too < 0 then false else
      if kindOf op = 4 then kind == 1 && decide (too < funcs) && add == 0 else
      (kind == 2 && op == 9 || kind == 3 && op == 10) && decide (too < datas) && decide (-1048576 ≤ add) && decide (add ≤ 1048576)) := by
      unfold Op.right; rw [if_neg (by simp [hr])]; rfl
    rw [hop]
    have HR := Lib.hid hr
    clear hr hop
    go_enter Try.func43, Try.ntmps43
    go_wp2_with (first
      | (go_at_call 55; refine (insRight_calls _ _ _ _ _ _).mono ?_; rintro e w1 ⟨rfl, hb1⟩; rw [HR.out]; obtain ⟨hc1, hf1⟩ := bcell hb1; have hz1 : w.heap.size < w1.heap.size := by (have := hb1.size; simp at this; omega))
      | (go_at_call 56; refine (kind_calls _ _ _ _ _ _ h0 h1).mono ?_; rintro e w2 ⟨rfl, hb2⟩; obtain ⟨hc2, hf2⟩ := bcell hb2))
    all_goals (go_ret; refine ⟨?_, (((Below.refl _ _).alloc (Nat.le_refl _) _).trans (hb1.mono (by simp))).trans (hb2.mono (by have := hb1.size; simp at this; omega))⟩; (try simp_all); try omega)
end Go.Proofs.Ytobhjjbhlnbcpaa
namespace Go.Proofs.Ytobhjjbhlnbcpaa
set_option linter.unusedVariables false
set_option linter.unusedSimpArgs false
open Go.RowKit
attribute [local go_sem high] eqIns

set_option maxHeartbeats 4000000 in
set_option maxRecDepth 100000 in
theorem term_calls (kind op a b too els iop ia ib ic iimm blocks funcs : Int) (w : World) : Calls Try.prog 44 #[.agg #[.int .i64 kind, .int .i64 op, .int .i64 a, .int .i64 b, .int .i64 too, .int .i64 els, .int .i64 iop, .int .i64 ia, .int .i64 ib, .int .i64 ic, .int .i64 iimm], .int .i64 blocks, .int .i64 funcs] w fun e w' => e = .returned (.bool (Term.right ⟨kind, op, a, b, too, els, ⟨iop, ia, ib, ic, iimm⟩⟩ blocks funcs)) ∧ Below w.heap.size w w' := by
  by_cases h3 : kind = 3
  · subst h3
    cases hn : (op == 0 && a == 0 && b == 0 && els == 0 && too == 0) with
    | false =>
      have ht : Term.right ⟨3, op, a, b, too, els, ⟨iop, ia, ib, ic, iimm⟩⟩ blocks funcs = false := by
        simp [Term.right, Term.none]; intros; simp_all
      rw [ht]
      clear ht
      go_enter Try.func44, Try.ntmps44
      go_wp2_with fail
      all_goals first
        | (go_ret; refine ⟨?_, (Below.refl _ _).alloc (Nat.le_refl _) _⟩; (try simp_all); done)
        | (exfalso; simp_all; done)
    | true =>
      obtain ⟨⟨⟨⟨rfl, rfl⟩, rfl⟩, rfl⟩, rfl⟩ : (((op = 0 ∧ a = 0) ∧ b = 0) ∧ els = 0) ∧ too = 0 := by simpa using hn
      clear hn
      cases hr : Ins.right ⟨iop, ia, ib, ic, iimm⟩ with
      | false =>
        have ht : Term.right ⟨3, 0, 0, 0, 0, 0, ⟨iop, ia, ib, ic, iimm⟩⟩ blocks funcs = false := by simp [Term.right, Term.none, hr]
        rw [ht]
        have HR := Lib.hid hr
        clear hr ht
        go_enter Try.func44, Try.ntmps44
        go_wp2_with (go_at_call 55; refine (insRight_calls _ _ _ _ _ _).mono ?_; rintro e w1 ⟨rfl, hb1⟩; rw [HR.out])
        go_ret
        exact ⟨rfl, ((Below.refl _ _).alloc (Nat.le_refl _) _).trans (hb1.mono (by simp))⟩
      | true =>
        obtain ⟨h0, h1⟩ := Ins.right_op hr
        replace h0 : 0 ≤ iop := h0
        replace h1 : iop < 26 := h1
        have ht : Term.right ⟨3, 0, 0, 0, 0, 0, ⟨iop, ia, ib, ic, iimm⟩⟩ blocks funcs = (kindOf iop == 5) := by simp [Term.right, Term.none, hr, Ins.kind]
        rw [ht]
        have HR := Lib.hid hr
        clear hr ht
        go_enter Try.func44, Try.ntmps44
        go_wp2_with (first
          | (go_at_call 55; refine (insRight_calls _ _ _ _ _ _).mono ?_; rintro e w1 ⟨rfl, hb1⟩; rw [HR.out]; obtain ⟨hc1, hf1⟩ := bcell hb1; have hz1 : w.heap.size < w1.heap.size := by (have := hb1.size; simp at this; omega))
          | (go_at_call 56; refine (kind_calls _ _ _ _ _ _ h0 h1).mono ?_; rintro e w2 ⟨rfl, hb2⟩; obtain ⟨hc2, hf2⟩ := bcell hb2))
        go_ret
        exact ⟨rfl, (((Below.refl _ _).alloc (Nat.le_refl _) _).trans (hb1.mono (by simp))).trans (hb2.mono (by have := hb1.size; simp at this; omega))⟩
  · go_enter Try.func44, Try.ntmps44
    go_wp2_with fail
    all_goals (go_ret; refine ⟨?_, (Below.refl _ _).alloc (Nat.le_refl _) _⟩; (try simp_all [Term.right, Term.none, Ins.zero]); try omega)
end Go.Proofs.Ytobhjjbhlnbcpaa
namespace Go.Proofs.Ytobhjjbhlnbcpaa
set_option linter.unusedVariables false
set_option linter.unusedSimpArgs false
open Go.RowKit

theorem blocksFew_of {bs : List Block} {k : Nat} (h : ∀ b ∈ bs.take k, b.ops.length ≤ 300) (hk : k = bs.length ∨ k = 300) : blocksFew bs = decide (bs.length ≤ 200) := by
  unfold blocksFew
  have : (bs.take 300).all (fun b => decide (b.ops.length ≤ 300)) = true := by
    rw [List.all_eq_true]
    intro b hb
    rw [decide_eq_true_eq]
    rcases hk with hk | hk
    · subst hk
      rw [List.take_length] at h
      exact h b (List.mem_of_mem_take hb)
    · subst hk; exact h b hb
  rw [this, Bool.true_and]
theorem blocksFew_not {bs : List Block} {k : Nat} {b : Block} (hb : bs[k]? = some b) (hk : k < 300) (h : 300 < b.ops.length) : blocksFew bs = false := by
  unfold blocksFew
  rw [Bool.and_eq_false_iff]
  left
  rw [List.all_eq_false]
  refine ⟨b, ?_, by simp; omega⟩
  rw [List.mem_iff_getElem?]
  exact ⟨k, by rw [List.getElem?_take, if_pos hk, hb]⟩

set_option maxHeartbeats 4000000 in
set_option maxRecDepth 100000 in
theorem few_calls (nm : ByteArray) (kp lf : Bool) (A : Option Addr) (c : Nat) (bs : List Block) (w : World) (hC : kBlock.C w A bs) (hl : bs.length ≤ maxLen) : Calls Try.prog 27 #[.agg #[.string nm, .bool kp, .bool lf, .slice A bs.length c]] w fun e w' => e = .returned (.bool (blocksFew bs)) ∧ Below w.heap.size w w' := by
  unfold maxLen at hl
  go_enter Try.func27, Try.ntmps27
  go_wp2
  have hb0 : Below w.heap.size w (w.alloc (.cells #[.string nm, .bool kp, .bool lf, .slice A bs.length c] 28)) := (Below.refl _ _).alloc (Nat.le_refl _) _
  replace hC := Kd.C_mono hb0 hC
  go_loop [3] (fun i => ∃ k : Nat, k ≤ bs.length ∧ k ≤ 300 ∧ (∀ b ∈ bs.take k, b.ops.length ≤ 300) ∧ i = .int .i64 k) (fun i => bs.length - (intOf i).toNat)
  case atStart => exact ⟨0, Nat.zero_le _, by omega, by simp, rfl⟩
  case round =>
    obtain ⟨k, hk, hk3, hall, rfl⟩ := hrel
    by_cases hlt : k < bs.length
    · by_cases h3 : k < 300
      · obtain ⟨b, hb⟩ := get_some bs k hlt
        have hn := @blocksFew_not bs k b hb h3
        have htk := take_snoc hb
        obtain ⟨ad, A0, c0, rfl, f0, f1, f2, f3, f4, f5, f6, f7, f8, f9, f10, f11, -, l0, m0, g0⟩ := Block_at hC hb
        have HB := Lib.hid hb
        have HT := Lib.hid htk
        have HN := Lib.hid hn
        clear hb htk hn
        go_wp2
        · go_ret
          exact ⟨by rw [HN.out (by omega)]; rfl, hb0⟩
        · go_round
          case rel => exact ⟨k + 1, by omega, by omega, by rw [HT.out]; intro b' hb'; rw [List.mem_append] at hb'; rcases hb' with hb' | hb'; exact hall b' hb'; simp at hb'; subst hb'; omega, by go_num⟩
          case measure => simp [intOf]; omega
      · have : k = 300 := by omega
        have hf := blocksFew_of hall (.inr this)
        have HF := Lib.hid hf
        clear hf this
        go_wp2
        go_ret
        exact ⟨by rw [HF.out]; simp; omega, hb0⟩
    · have : k = bs.length := by omega
      have hf := blocksFew_of hall (.inl this)
      have HF := Lib.hid hf
      clear hf this
      go_wp2
      go_ret
      exact ⟨by rw [HF.out]; simp; omega, hb0⟩
end Go.Proofs.Ytobhjjbhlnbcpaa
namespace Go.Proofs.Ytobhjjbhlnbcpaa
set_option linter.unusedVariables false
set_option linter.unusedSimpArgs false
open Go.RowKit

theorem blocksRight_end {bs : List Block} {funcs datas : Int} (h : ∀ b ∈ bs, b.right bs.length funcs datas = true) : blocksRight bs funcs datas = decide (0 < bs.length) := by
  unfold blocksRight
  rw [List.all_eq_true.2 h, Bool.true_and]
theorem blocksRight_op {bs : List Block} {funcs datas : Int} {k m : Nat} {b : Block} {o : Op} (hb : bs[k]? = some b) (ho : b.ops[m]? = some o) (h : o.right funcs datas = false) : blocksRight bs funcs datas = false := by
  unfold blocksRight
  rw [Bool.and_eq_false_iff]
  left
  rw [List.all_eq_false]
  refine ⟨b, List.mem_of_getElem? hb, ?_⟩
  unfold Block.right
  have : b.ops.all (fun o => o.right funcs datas) = false := by
    rw [List.all_eq_false]
    exact ⟨o, List.mem_of_getElem? ho, by simp [h]⟩
  simp [this]
theorem blocksRight_fin {bs : List Block} {funcs datas : Int} {k : Nat} {b : Block} (hb : bs[k]? = some b) (h : b.fin.right bs.length funcs = false) : blocksRight bs funcs datas = false := by
  unfold blocksRight
  rw [Bool.and_eq_false_iff]
  left
  rw [List.all_eq_false]
  exact ⟨b, List.mem_of_getElem? hb, by unfold Block.right; simp [h]⟩
theorem block_right {b : Block} {n funcs datas : Int} (h : ∀ o ∈ b.ops, o.right funcs datas = true) (hf : b.fin.right n funcs = true) : b.right n funcs datas = true := by
  unfold Block.right
  rw [List.all_eq_true.2 h, hf]; rfl

set_option maxHeartbeats 4000000 in
set_option maxRecDepth 100000 in
theorem right_calls (nm : ByteArray) (kp lf : Bool) (A : Option Addr) (c : Nat) (bs : List Block) (funcs datas : Int) (w : World) (hC : kBlock.C w A bs) (hl : bs.length ≤ maxLen) : Calls Try.prog 20 #[.agg #[.string nm, .bool kp, .bool lf, .slice A bs.length c], .int .i64 funcs, .int .i64 datas] w fun e w' => e = .returned (.bool (blocksRight bs funcs datas)) ∧ Below w.heap.size w w' := by
  unfold maxLen at hl
  go_enter Try.func20, Try.ntmps20
  go_wp2
  have hb0 : Below w.heap.size w (w.alloc (.cells #[.string nm, .bool kp, .bool lf, .slice A bs.length c] 28)) := (Below.refl _ _).alloc (Nat.le_refl _) _
  replace hC := Kd.C_mono hb0 hC
  have hbx : (w.alloc (.cells #[.string nm, .bool kp, .bool lf, .slice A bs.length c] 28)).cell? ⟨w.heap.size, 3, none⟩ = some (.slice A bs.length c) := by simp
  have hsz : w.heap.size < (w.alloc (.cells #[.string nm, .bool kp, .bool lf, .slice A bs.length c] 28)).heap.size := by simp
  generalize hW : w.alloc (.cells #[.string nm, .bool kp, .bool lf, .slice A bs.length c] 28) = W at *
  clear hW
  go_loopw [7] (fun i wr => ∃ k : Nat, k ≤ bs.length ∧ (∀ b ∈ bs.take k, b.right bs.length funcs datas = true) ∧ i = .int .i64 k ∧ Below W.heap.size W wr) (fun i _ => bs.length - (intOf i).toNat)
  case atStart => exact ⟨0, Nat.zero_le _, by simp, rfl, Below.refl _ _⟩
  case round =>
    obtain ⟨k, hk, hall, rfl, hbr⟩ := hrel
    rename World => wo
    have hxr : wo.cell? ⟨w.heap.size, 3, none⟩ = some (.slice A bs.length c) := by rw [hbr.cell hsz]; exact hbx
    have hCr := Kd.C_mono hbr hC
    by_cases hlt : k < bs.length
    · obtain ⟨b, hb⟩ := get_some bs k hlt
      have htk := take_snoc hb
      have hfin := @blocksRight_fin bs funcs datas k b hb
      have hop := fun m o => @blocksRight_op bs funcs datas k m b o hb
      obtain ⟨ad, A0, c0, rfl, f0, f1, f2, f3, f4, f5, f6, f7, f8, f9, f10, f11, -, l0, m0, g0⟩ := Block_at hCr hb
      have hl0 := len_le l0 m0
      have HB := Lib.hid hb
      have HT := Lib.hid htk
      have HF := Lib.hid hfin
      have HO := Lib.hid hop
      clear hb htk hfin hop
      go_wp2_with fail
      go_loopw [8] (fun j wq => ∃ m : Nat, m ≤ b.ops.length ∧ (∀ o ∈ b.ops.take m, o.right funcs datas = true) ∧ j = .int .i64 m ∧ Below wo.heap.size wo wq) (fun j _ => b.ops.length - (intOf j).toNat)
      case atStart => exact ⟨0, Nat.zero_le _, by simp, rfl, Below.refl _ _⟩
      case round =>
        obtain ⟨m, hm, hallm, rfl, hbq⟩ := hrel
        have hxq : wr.cell? ⟨w.heap.size, 3, none⟩ = some (.slice (some ad) bs.length c) := by rw [hbq.cell (World.lt_of_cell hxr)]; exact hxr
        have f0q := (hbq.cell (World.lt_of_cell f0)).trans f0
        by_cases hltm : m < b.ops.length
        · obtain ⟨o, ho⟩ := get_some b.ops m hltm
          have htm := take_snoc ho
          have hob := HO.out m o ho
          obtain ⟨ad1, rfl, o0, o1, o2, o3, o4, o5, o6, o7, o8, -⟩ := Op_at (Kd.C_mono hbq g0) ho
          have HTM := Lib.hid htm
          have HOB := Lib.hid hob
          clear ho htm hob
          go_wp2_with (go_at_call 43; refine (op_calls _ _ _ _ _ _ _ _ _ _ _ _).mono ?_; rintro e w1 ⟨rfl, hb1⟩)
          · go_ret
            exact ⟨by rw [HOB.out (by simpa using ‹(!_) = true›)]; rfl, hb0.trans ((hbr.mono hb0.size).trans ((hbq.mono (Nat.le_trans hb0.size hbr.size)).trans (hb1.mono (Nat.le_trans hb0.size (Nat.le_trans hbr.size hbq.size)))))⟩
          · exact ⟨⟨m + 1, by omega, forall_snoc hallm HTM.out (by simpa using ‹(!_) = false›), by go_num, hbq.trans (hb1.mono hbq.size)⟩, by simp [intOf]; omega⟩
        · have hme : m = b.ops.length := by omega
          rw [hme, List.take_length] at hallm
          clear hme
          have f1q := (hbq.cell (World.lt_of_cell f1)).trans f1
          have f2q := (hbq.cell (World.lt_of_cell f2)).trans f2
          have f3q := (hbq.cell (World.lt_of_cell f3)).trans f3
          have f4q := (hbq.cell (World.lt_of_cell f4)).trans f4
          have f5q := (hbq.cell (World.lt_of_cell f5)).trans f5
          have f6q := (hbq.cell (World.lt_of_cell f6)).trans f6
          have f7q := (hbq.cell (World.lt_of_cell f7)).trans f7
          have f8q := (hbq.cell (World.lt_of_cell f8)).trans f8
          have f9q := (hbq.cell (World.lt_of_cell f9)).trans f9
          have f10q := (hbq.cell (World.lt_of_cell f10)).trans f10
          have f11q := (hbq.cell (World.lt_of_cell f11)).trans f11
          go_wp2_with fail
          go_still_tail 10, (by kernel_rfl)
          change wpList _ _ _ _ _ wr.drew
          go_wp2_with (go_at_call 44; refine (term_calls _ _ _ _ _ _ _ _ _ _ _ _ _ _).mono ?_; rintro e w1 ⟨rfl, hb1⟩)
          · go_ret
            exact ⟨by rw [HF.out (by simpa using ‹(!_) = true›)]; rfl, hb0.trans ((hbr.mono hb0.size).trans (((hbq.mono (Nat.le_trans hb0.size hbr.size)).drew).trans (hb1.mono (Nat.le_trans hb0.size (Nat.le_trans hbr.size hbq.size)))))⟩
          · exact ⟨⟨k + 1, by omega, forall_snoc hall HT.out (block_right hallm (by simpa using ‹(!_) = false›)), by go_num, hbr.trans (((hbq.mono hbr.size).drew).trans (hb1.mono (Nat.le_trans hbr.size hbq.size)))⟩, by simp [intOf]; omega⟩
    · have hke : k = bs.length := by omega
      rw [hke, List.take_length] at hall
      clear hke
      have he := blocksRight_end hall
      have HE := Lib.hid he
      clear he
      go_wp2_with fail
      go_ret
      exact ⟨by rw [HE.out]; simp, hb0.trans (hbr.mono hb0.size)⟩
end Go.Proofs.Ytobhjjbhlnbcpaa
namespace Go.Proofs.Ytobhjjbhlnbcpaa
set_option linter.unusedVariables false
set_option linter.unusedSimpArgs false
open Go.RowKit

set_option maxHeartbeats 1000000 in
theorem flowKind_calls (op a b c imm : Int) (w : World) : Calls Try.prog 49 #[.agg #[.int .i64 op, .int .i64 a, .int .i64 b, .int .i64 c, .int .i64 imm]] w fun e w' => e = .returned (.int .i64 (fkind op)) ∧ Below w.heap.size w w' := by
  go_enter Try.func49, Try.ntmps49
  go_wp2
  all_goals (go_ret; refine ⟨?_, (Below.refl _ _).alloc (Nat.le_refl _) _⟩; (try simp_all [fkind]); try omega)
set_option maxHeartbeats 1000000 in
theorem flowWrites_calls (op a b c imm : Int) (w : World) : Calls Try.prog 50 #[.agg #[.int .i64 op, .int .i64 a, .int .i64 b, .int .i64 c, .int .i64 imm]] w fun e w' => e = .returned (.int .i64 (writes op a)) ∧ Below w.heap.size w w' := by
  go_enter Try.func50, Try.ntmps50
  go_wp2
  all_goals (go_ret; refine ⟨ret_int ?_, (Below.refl _ _).alloc (Nat.le_refl _) _⟩; (try simp_all [writes]); try omega)
set_option maxHeartbeats 1000000 in
theorem refWrites_calls (op a b c imm : Int) (w : World) : Calls Try.prog 34 #[.agg #[.int .i64 op, .int .i64 a, .int .i64 b, .int .i64 c, .int .i64 imm]] w fun e w' => e = .returned (.int .i64 (refWrites op a)) ∧ Below w.heap.size w w' := by
  go_enter Try.func34, Try.ntmps34
  go_wp2
  all_goals (go_ret; refine ⟨ret_int ?_, (Below.refl _ _).alloc (Nat.le_refl _) _⟩; (try simp_all [refWrites]); try omega)
set_option maxHeartbeats 4000000 in
set_option maxRecDepth 100000 in
theorem refReads_calls (op a b c imm r : Int) (w : World) : Calls Try.prog 35 #[.agg #[.int .i64 op, .int .i64 a, .int .i64 b, .int .i64 c, .int .i64 imm], .int .i64 r] w fun e w' => e = .returned (.bool (refReads op a b c r)) ∧ Below w.heap.size w w' := by
  go_enter Try.func35, Try.ntmps35
  go_wp2
  all_goals (go_ret; refine ⟨?_, (Below.refl _ _).alloc (Nat.le_refl _) _⟩; refine ret_bool ?_; rw [Bool.eq_iff_iff, refReads_iff]; simp at *; omega)
end Go.Proofs.Ytobhjjbhlnbcpaa
namespace Go.Proofs.Ytobhjjbhlnbcpaa
set_option linter.unusedVariables false
set_option linter.unusedSimpArgs false
open Go.RowKit

def readsList (op a b c : Int) : List Int := noZero (compact (sorted (rawReads op a b c)))
theorem rawReads_len (op a b c : Int) : (rawReads op a b c).length ≤ 2 := by
  unfold rawReads
  (repeat' split) <;> simp
theorem compact_len (xs : List Int) : (compact xs).length ≤ xs.length := Go.Lib.compact_length_le xs
theorem readsList_len (op a b c : Int) : (readsList op a b c).length ≤ 2 :=
  Nat.le_trans (List.length_filter_le _ _) (Nat.le_trans (compact_len _) (by rw [sorted_length]; exact rawReads_len op a b c))

/-- A slice of ints that a call has made. -/
def MadeI (w : World) (xs : List Int) (e : Ending) (w' : World) : Prop := ∃ v, e = .returned v ∧ OwnI w' w.heap.size v xs ∧ Below w.heap.size w w'

set_option maxHeartbeats 4000000 in
set_option maxRecDepth 100000 in
theorem flowReads_calls (op a b c imm : Int) (w : World) : Calls Try.prog 52 #[.agg #[.int .i64 op, .int .i64 a, .int .i64 b, .int .i64 c, .int .i64 imm]] w (MadeI w (readsList op a b c)) := by
  have hraw := rawReads_len op a b c
  go_enter Try.func52, Try.ntmps52
  go_upto_block 0 with fail
  have hb0 : Below w.heap.size w (w.alloc (.cells #[.int .i64 op, .int .i64 a, .int .i64 b, .int .i64 c, .int .i64 imm] 39)) := (Below.refl _ _).alloc (Nat.le_refl _) _
  have hx1 : (w.alloc (.cells #[.int .i64 op, .int .i64 a, .int .i64 b, .int .i64 c, .int .i64 imm] 39)).cell? ⟨w.heap.size, 1, none⟩ = some (.int .i64 a) := by simp
  have hx2 : (w.alloc (.cells #[.int .i64 op, .int .i64 a, .int .i64 b, .int .i64 c, .int .i64 imm] 39)).cell? ⟨w.heap.size, 2, none⟩ = some (.int .i64 b) := by simp
  have hx3 : (w.alloc (.cells #[.int .i64 op, .int .i64 a, .int .i64 b, .int .i64 c, .int .i64 imm] 39)).cell? ⟨w.heap.size, 3, none⟩ = some (.int .i64 c) := by simp
  have hsz : w.heap.size < (w.alloc (.cells #[.int .i64 op, .int .i64 a, .int .i64 b, .int .i64 c, .int .i64 imm] 39)).heap.size := by simp
  generalize hW : w.alloc (.cells #[.int .i64 op, .int .i64 a, .int .i64 b, .int .i64 c, .int .i64 imm] 39) = W at *
  clear hW
  go_cut [3] (fun v wx => OwnI wx W.heap.size v (rawReads op a b c) ∧ Below W.heap.size W wx)
  case first =>
    clear hraw
    go_wp2_with (first
      | (at_builtin; refine wpList_append_one rfl _ _ rfl W.heap.size ho1 rfl rfl (by simp) hb1.size ?_; intro v2 w2 ho2 hb2)
      | (at_builtin; refine wpList_append_one rfl _ _ rfl W.heap.size (OwnI.nil _ _) rfl rfl (by simp) (Nat.le_refl _) ?_; intro v1 w1 ho1 hb1; obtain ⟨hc1, hf1⟩ := bcell hb1))
    all_goals (go_meet; refine ⟨?_, by first | exact hb1.trans hb2 | exact hb1 | exact Below.refl _ _⟩; first
      | (rw [show rawReads op a b c = [c, b] from by (unfold rawReads; rw [if_pos (by (try simp at *); omega)])]; exact ho2)
      | (rw [show rawReads op a b c = [b] from by (unfold rawReads; rw [if_neg (by (try simp at *); omega), if_pos (by (try simp at *); omega)])]; exact ho1)
      | (rw [show rawReads op a b c = [b, a] from by (unfold rawReads; rw [if_neg (by (try simp at *); omega), if_neg (by (try simp at *); omega), if_pos (by (try simp at *); omega)])]; exact ho2)
      | (rw [show rawReads op a b c = [a] from by (unfold rawReads; rw [if_neg (by (try simp at *); omega), if_neg (by (try simp at *); omega), if_neg (by (try simp at *); omega), if_pos (by (try simp at *); omega)])]; exact ho1)
      | (rw [show rawReads op a b c = [] from by (unfold rawReads; rw [if_neg (by (try simp at *); omega), if_neg (by (try simp at *); omega), if_neg (by (try simp at *); omega), if_neg (by (try simp at *); omega)])]; exact OwnI.nil _ _))
  case rest =>
    obtain ⟨ho, hb⟩ := hcut
    go_wp2_with (first
      | (go_at_call 57; refine (sort_calls ho (by omega)).mono ?_; rintro e w1 ⟨rfl, ho1, hg1⟩)
      | (go_at_call 58; refine (compact_calls ho1 (by rw [sorted_length]; omega)).mono ?_; rintro e w2 ⟨v2, rfl, ho2, hg2, hv2⟩)
      | (go_at_call 59; refine (delete_calls ho2 (by have := compact_len (sorted (rawReads op a b c)); rw [sorted_length] at this; omega)).mono ?_; rintro e w3 ⟨v3, rfl, ho3, hg3, hv3⟩))
    go_ret
    have b1 := ho.grown hb.size hg1
    have b2 := ho1.grown (Nat.le_trans hb.size b1.size) hg2
    have b3 := ho2.grown (Nat.le_trans hb.size (Nat.le_trans b1.size b2.size)) hg3
    exact ⟨v3, rfl, ho3.mono hb0.size, hb0.trans ((((hb.trans b1).trans b2).trans b3).mono hb0.size)⟩
end Go.Proofs.Ytobhjjbhlnbcpaa
namespace Go.Proofs.Ytobhjjbhlnbcpaa
set_option linter.unusedVariables false
set_option linter.unusedSimpArgs false
open Go.RowKit

def refUpTo (op a b c : Int) (n : Nat) : List Int := ((List.range n).map fun (i : Nat) => ((i : Int) + 1)).filter fun r => refReads op a b c r
theorem refUpTo_succ (op a b c : Int) (n : Nat) : refUpTo op a b c (n + 1) = refUpTo op a b c n ++ (if refReads op a b c ((n : Int) + 1) = true then [(n : Int) + 1] else []) := by
  unfold refUpTo
  rw [List.range_succ, List.map_append, List.filter_append]
  congr 1
  by_cases h : refReads op a b c ((n : Int) + 1) = true <;> simp [h]
theorem refUpTo_len (op a b c : Int) (n : Nat) : (refUpTo op a b c n).length ≤ n := by
  unfold refUpTo
  exact Nat.le_trans (List.length_filter_le _ _) (by simp)

/-- The cells of a slice of ints. -/
def CellsI (w : World) (A : Option Addr) (xs : List Int) : Prop := ∀ i x, xs[i]? = some x → ∃ ad, A = some ad ∧ w.cell? (ad.add i) = some (.int .i64 x)
theorem CellsI.below {w w' : World} {A : Option Addr} {xs : List Int} (h : CellsI w A xs) (hb : Below w.heap.size w w') : CellsI w' A xs := by
  intro i x hx
  obtain ⟨ad, e, hc⟩ := h i x hx
  exact ⟨ad, e, (hb.cell (World.lt_of_cell hc)).trans hc⟩
theorem CellsI.of_C {w : World} {A : Option Addr} {xs : List Int} (h : (Kd.int .i64).C w A xs) : CellsI w A xs := by
  intro i x hx
  obtain ⟨ad, e, hc⟩ := ints_at h hx
  exact ⟨ad, e, hc⟩
theorem OwnI.read {w : World} {base : Nat} {v : Value} {xs : List Int} (h : OwnI w base v xs) : ∃ A c, v = .slice A xs.length c ∧ xs.length ≤ c ∧ c ≤ maxLen ∧ CellsI w A xs := by
  obtain ⟨A, c, e, h1, h2, h3⟩ := h.cells
  refine ⟨A, c, e, h1, h2, fun i x hx => ?_⟩
  obtain ⟨g, e1, h4, _⟩ := h3 i x hx
  refine ⟨_, e1, ?_⟩
  unfold Addr.add
  by_cases h0 : i = 0
  · rw [if_pos h0]; subst h0; exact h4
  · rw [if_neg h0]; simpa using h4

theorem take_eq_snoc {xs ys : List Int} {k : Nat} {x y : Int} (hx : xs[k]? = some x) (hy : ys[k]? = some y) (h : xs.take k = ys.take k) (e : x = y) : xs.take (k + 1) = ys.take (k + 1) := by
  rw [take_snoc hx, take_snoc hy, h, e]

end Go.Proofs.Ytobhjjbhlnbcpaa
namespace Go.Proofs.Ytobhjjbhlnbcpaa
set_option linter.unusedVariables false
set_option linter.unusedSimpArgs false

theorem sorted_nil : sorted [] = [] := by simp [sorted]
theorem sorted_one (x : Int) : sorted [x] = [x] := by simp [sorted]
theorem sorted_two (x y : Int) : sorted [x, y] = if x ≤ y then [x, y] else [y, x] := by
  have h1 : (sorted [x, y]).Perm [x, y] := List.mergeSort_perm _ _
  have h2 : List.Pairwise (fun a b => intLe a b = true) (sorted [x, y]) := List.pairwise_mergeSort (fun a b c => by simp [intLe]; omega) (fun a b => by simp [intLe]; omega) _
  obtain ⟨a, b, hab⟩ : ∃ a b, sorted [x, y] = [a, b] := by
    have hl := sorted_length [x, y]
    match hs : sorted [x, y] with
    | [] => rw [hs] at hl; simp at hl
    | [a] => rw [hs] at hl; simp at hl
    | [a, b] => exact ⟨a, b, rfl⟩
    | a :: b :: c :: r => rw [hs] at hl; simp at hl
  rw [hab] at h1 h2 ⊢
  have hle : a ≤ b := by simpa [intLe] using h2
  have hc : (a = x ∧ b = y) ∨ (a = y ∧ b = x) := by
    have hx : a ∈ [x, y] := h1.subset (by simp)
    simp at hx
    rcases hx with rfl | rfl
    · left
      have := (List.perm_cons a).1 h1
      simp at this
      exact ⟨rfl, this⟩
    · right
      have := (List.perm_cons a).1 (h1.trans (List.Perm.swap a x []))
      simp at this
      exact ⟨rfl, this⟩
  rcases hc with ⟨rfl, rfl⟩ | ⟨rfl, rfl⟩
  · rw [if_pos hle]
  · by_cases h : b ≤ a
    · have : a = b := by omega
      subst this
      simp
    · rw [if_neg h]
theorem compact_nil : compact [] = [] := by simp [compact, Go.Lib.compact, Go.Lib.compactUpTo]
theorem compact_one (x : Int) : compact [x] = [x] := by simp [compact, Go.Lib.compact, Go.Lib.compactUpTo, Go.Lib.keeps, List.range_succ]
theorem compact_two (x y : Int) : compact [x, y] = if x = y then [x] else [x, y] := by
  by_cases h : x = y
  · simp [compact, Go.Lib.compact, Go.Lib.compactUpTo, Go.Lib.keeps, List.range_succ, h]
  · have h' : ¬ y = x := fun e => h e.symm
    simp [compact, Go.Lib.compact, Go.Lib.compactUpTo, Go.Lib.keeps, List.range_succ, h]
    refine ⟨1, ?_, rfl⟩
    simp [List.filter_cons, Go.Lib.keeps, h']

def regs15 : List Int := (List.range 15).map fun (i : Nat) => ((i : Int) + 1)
def two (x y : Int) : List Int := noZero (if x = y then [x] else if x ≤ y then [x, y] else [y, x])
theorem two_regs : ∀ x y : Fin 16, two (x.val : Int) (y.val : Int) = regs15.filter fun r => (decide ((x.val : Int) = r) || decide ((y.val : Int) = r)) := by decide +kernel
theorem two_of {x y : Int} (hx0 : 0 ≤ x) (hx : x ≤ 15) (hy0 : 0 ≤ y) (hy : y ≤ 15) : noZero (compact (sorted [x, y])) = regs15.filter fun r => (decide (x = r) || decide (y = r)) := by
  have h := two_regs ⟨x.toNat, by omega⟩ ⟨y.toNat, by omega⟩
  simp only [Int.toNat_of_nonneg hx0, Int.toNat_of_nonneg hy0] at h
  rw [← h, sorted_two]
  unfold two
  congr 1
  by_cases h1 : x ≤ y
  · rw [if_pos h1, compact_two]
  · rw [if_neg h1, compact_two, if_neg (by omega), if_neg (by omega)]
theorem one_of {x : Int} (hx0 : 0 ≤ x) (hx : x ≤ 15) : noZero (compact (sorted [x])) = regs15.filter fun r => decide (x = r) := by
  have h := two_of hx0 hx hx0 hx
  rw [sorted_one, compact_one]
  rw [sorted_two, if_pos (Int.le_refl _), compact_two, if_pos rfl] at h
  simpa using h

theorem mem_regs15 {r : Int} (h : r ∈ regs15) : 1 ≤ r ∧ r ≤ 15 := by
  unfold regs15 at h
  simp at h
  obtain ⟨i, hi, rfl⟩ := h
  omega

theorem readsList_eq {op a b c imm : Int} (h : Ins.right ⟨op, a, b, c, imm⟩ = true) : readsList op a b c = refList op a b c := by
  have hf : ∀ p : Int → Bool, (∀ r, 1 ≤ r → r ≤ 15 → p r = refReads op a b c r) → regs15.filter p = refList op a b c := by
    intro p hp
    unfold refList
    exact List.filter_congr fun r hr => hp r (mem_regs15 hr).1 (mem_regs15 hr).2
  unfold readsList rawReads
  unfold Ins.right at h
  by_cases h1 : 1 ≤ op ∧ op ≤ 7
  · rw [if_pos h1]
    have h2 : three op = true := by simp [three, h1]
    simp only [h2, if_true] at h
    simp [reg] at h
    rw [two_of (by omega) (by omega) (by omega) (by omega)]
    apply hf
    intro r hr hr'
    rw [Bool.eq_iff_iff, refReads_iff]
    simp
    omega
  · rw [if_neg h1]
    have h2 : three op = false := by simp [three]; omega
    simp only [h2, Bool.false_eq_true, if_false] at h
    by_cases hc : c = 0
    · subst hc
      simp only [ne_eq, not_true_eq_false, if_false] at h
      by_cases h3 : op = 8 ∨ op = 10 ∨ op = 11 ∨ op = 13
      · rw [if_pos h3]
        have hb : 0 ≤ b ∧ b ≤ 15 := by
          by_cases h4 : op = 10
          · rw [if_neg (by simp [near, h4]), if_pos h4] at h
            simp [reg] at h
            omega
          · rw [if_pos (by simp [near]; omega)] at h
            simp [reg] at h
            omega
        rw [one_of hb.1 hb.2]
        apply hf
        intro r hr hr'
        rw [Bool.eq_iff_iff, refReads_iff]
        simp
        omega
      · rw [if_neg h3]
        by_cases h4 : op = 12 ∨ 14 ≤ op ∧ op ≤ 18
        · rw [if_pos h4]
          have hb : (0 ≤ a ∧ a ≤ 15) ∧ (0 ≤ b ∧ b ≤ 15) := by
            by_cases h5 : near op = true
            · rw [if_pos h5] at h
              simp [reg] at h
              omega
            · rw [if_neg h5, if_neg (by omega), if_pos (by simp [near, branch] at *; omega)] at h
              simp [reg] at h
              omega
          rw [two_of hb.2.1 hb.2.2 hb.1.1 hb.1.2]
          apply hf
          intro r hr hr'
          rw [Bool.eq_iff_iff, refReads_iff]
          simp
          omega
        · rw [if_neg h4]
          by_cases h5 : op = 0 ∨ op = 23
          · rw [if_pos h5]
            have ha : 0 ≤ a ∧ a ≤ 15 := by
              rw [if_neg (by simp [near]; omega), if_neg (by omega), if_neg (by simp [branch]; omega)] at h
              by_cases hb : b ≠ 0
              · rw [if_pos hb] at h; simp at h
              · rw [if_neg hb, if_neg (by omega), if_pos (by simp [one]; omega)] at h
                simp [reg] at h
                omega
            rw [one_of ha.1 ha.2]
            apply hf
            intro r hr hr'
            rw [Bool.eq_iff_iff, refReads_iff]
            simp
            omega
          · rw [if_neg h5, sorted_nil, compact_nil]
            rw [← hf (fun _ => false)]
            · simp [noZero]
            · intro r hr hr'
              rw [Bool.eq_iff_iff, refReads_iff]
              simp
              omega
    · rw [if_pos hc] at h
      simp at h
end Go.Proofs.Ytobhjjbhlnbcpaa
namespace Go.Proofs.Ytobhjjbhlnbcpaa
set_option linter.unusedVariables false
set_option linter.unusedSimpArgs false

theorem Ins.right_a {op a b c imm : Int} (h : Ins.right ⟨op, a, b, c, imm⟩ = true) : 0 ≤ a ∧ a ≤ 15 := by
  unfold Ins.right three near branch far one reg at h
  repeat' split at h
  all_goals simp_all
  all_goals omega
theorem writes_eq {op a b c imm : Int} (h : Ins.right ⟨op, a, b, c, imm⟩ = true) : writes op a = refWrites op a := by
  have ha := Ins.right_a h
  unfold writes refWrites
  by_cases h1 : (1 ≤ op ∧ op ≤ 11 ∨ op = 13 ∨ op = 22) ∧ a ≠ 0
  · rw [if_pos h1, if_pos (by omega)]
  · rw [if_neg h1, if_neg (by omega)]
end Go.Proofs.Ytobhjjbhlnbcpaa
namespace Go.Proofs.Ytobhjjbhlnbcpaa
set_option linter.unusedVariables false
set_option linter.unusedSimpArgs false

theorem compact_snoc (xs : List Int) (x : Int) : compact (xs ++ [x]) = compact xs ++ (if xs.getLast? = some x then [] else [x]) := by
  unfold compact Go.Lib.compact
  have hl : (xs ++ [x]).length = xs.length + 1 := by simp
  rw [hl, Go.Lib.compactUpTo_succ]
  have h1 : Go.Lib.compactUpTo (xs ++ [x]).toArray xs.length = Go.Lib.compactUpTo xs.toArray xs.length := by
    unfold Go.Lib.compactUpTo
    have hk : ∀ j ∈ List.range xs.length, Go.Lib.keeps (xs ++ [x]).toArray j = Go.Lib.keeps xs.toArray j := by
      intro j hj
      have hj' : j < xs.length := by simpa using hj
      unfold Go.Lib.keeps
      have e1 : (xs ++ [x]).toArray[j]! = xs.toArray[j]! := by
        simp [getElem!_def, List.getElem?_append_left hj']
      have e2 : (xs ++ [x]).toArray[j - 1]! = xs.toArray[j - 1]! := by
        simp [getElem!_def, List.getElem?_append_left (show j - 1 < xs.length by omega)]
      rw [e1, e2]
    rw [List.filter_congr hk]
    apply List.map_congr_left
    intro j hj
    have hj' : j < xs.length := by simpa using (List.mem_filter.1 hj).1
    simp [getElem!_def, List.getElem?_append_left hj']
  rw [h1]
  congr 1
  have h2 : (xs ++ [x]).toArray[xs.length]! = x := by simp [getElem!_def]
  rw [h2]
  by_cases h0 : xs.length = 0
  · have : xs = [] := List.eq_nil_of_length_eq_zero h0
    subst this
    simp [Go.Lib.keeps]
  · have h3 : (xs ++ [x]).toArray[xs.length - 1]! = xs.getLast?.getD 0 := by
      simp [getElem!_def, List.getElem?_append_left (show xs.length - 1 < xs.length by omega), List.getLast?_eq_getElem?]
      cases h : xs[xs.length - 1]? <;> rfl
    obtain ⟨y, hy⟩ : ∃ y, xs.getLast? = some y := by
      rw [List.getLast?_eq_getElem?]
      exact ⟨xs[xs.length - 1], by simp⟩
    rw [hy] at h3 ⊢
    unfold Go.Lib.keeps
    rw [h3, h2]
    by_cases hxy : y = x
    · subst hxy; simp [h0]
    · have : ¬ x = y := fun e => hxy e.symm
      simp [hxy, this]

theorem rising_of_sorted (xs : List Int) : List.Pairwise (fun a b => a ≤ b) xs → List.Pairwise (fun a b => a < b) (compact xs) ∧ (∀ y, y ∈ compact xs ↔ y ∈ xs) ∧ (compact xs).getLast? = xs.getLast? := by
  induction h : xs.length generalizing xs with
  | zero =>
    intro _
    have : xs = [] := List.eq_nil_of_length_eq_zero h
    subst this
    simp [compact, Go.Lib.compact, Go.Lib.compactUpTo]
  | succ n ih =>
    intro hp
    have hne : xs ≠ [] := by intro e; subst e; simp at h
    obtain ⟨ys, x, rfl⟩ : ∃ ys x, xs = ys ++ [x] := ⟨xs.dropLast, xs.getLast hne, (List.dropLast_concat_getLast hne).symm⟩
    have hys : List.Pairwise (fun a b => a ≤ b) ys := (List.pairwise_append.1 hp).1
    have hle : ∀ y ∈ ys, y ≤ x := fun y hy => (List.pairwise_append.1 hp).2.2 y hy x (by simp)
    obtain ⟨h1, h2, h3⟩ := ih ys (by simpa using h) hys
    rw [compact_snoc]
    by_cases hl : ys.getLast? = some x
    · rw [if_pos hl, List.append_nil]
      refine ⟨h1, fun y => ?_, by rw [h3, hl]; simp⟩
      rw [h2 y, List.mem_append]
      constructor
      · exact .inl
      · rintro (hy | hy)
        · exact hy
        · simp at hy
          subst hy
          exact List.mem_of_getLast? hl
    · rw [if_neg hl]
      refine ⟨?_, fun y => ?_, by simp⟩
      · rw [List.pairwise_append]
        refine ⟨h1, by simp, fun y hy z hz => ?_⟩
        simp at hz
        subst hz
        have hyx := hle y ((h2 y).1 hy)
        by_cases he : y = z
        · subst he
          exfalso
          apply hl
          -- the last one of ys is at least y = x, and at most x
          obtain ⟨l, hl'⟩ : ∃ l, ys.getLast? = some l := by
            cases hh : ys.getLast? with
            | none =>
              rw [List.getLast?_eq_none_iff] at hh
              subst hh
              have := (h2 y).1 hy
              simp at this
            | some l => exact ⟨l, rfl⟩
          have hmem := List.mem_of_getLast? hl'
          have hlx := hle l hmem
          have hyl : y ≤ l := by
            have hyy := (h2 y).1 hy
            obtain ⟨zs, rfl⟩ : ∃ zs, ys = zs ++ [l] := by
              have hne2 : ys ≠ [] := by intro e; subst e; simp at hl'
              refine ⟨ys.dropLast, ?_⟩
              have := List.dropLast_concat_getLast hne2
              rw [List.getLast?_eq_some_getLast hne2] at hl'
              injection hl' with e
              rw [← e, this]
            rcases List.mem_append.1 hyy with hm | hm
            · exact (List.pairwise_append.1 hys).2.2 y hm l (by simp)
            · simp at hm; omega
          rw [hl', show l = y by omega]
        · omega
      · rw [List.mem_append, List.mem_append, h2 y]

/-- Two rising lists with the same members are one. -/
theorem rising_ext {xs ys : List Int} (hx : List.Pairwise (fun a b => a < b) xs) (hy : List.Pairwise (fun a b => a < b) ys) (h : ∀ z, z ∈ xs ↔ z ∈ ys) : xs = ys := by
  induction xs generalizing ys with
  | nil =>
    cases ys with
    | nil => rfl
    | cons y r => exact absurd ((h y).2 (by simp)) (by simp)
  | cons x r ih =>
    cases ys with
    | nil => exact absurd ((h x).1 (by simp)) (by simp)
    | cons y s =>
      rw [List.pairwise_cons] at hx hy
      have hxy : x = y := by
        have h1 := (h x).1 (by simp)
        have h2 := (h y).2 (by simp)
        simp at h1 h2
        rcases h1 with h1 | h1
        · exact h1
        · rcases h2 with h2 | h2
          · exact h2.symm
          · have := hy.1 x h1
            have := hx.1 y h2
            omega
      subst hxy
      congr 1
      refine ih hx.2 hy.2 fun z => ?_
      have hz := h z
      simp at hz
      constructor
      · intro hm
        rcases hz.1 (.inr hm) with e | e
        · subst e; exact absurd (hx.1 z hm) (by omega)
        · exact e
      · intro hm
        rcases hz.2 (.inr hm) with e | e
        · subst e; exact absurd (hy.1 z hm) (by omega)
        · exact e

theorem sorted_pairwise (xs : List Int) : List.Pairwise (fun a b => a ≤ b) (sorted xs) := by
  have h2 : List.Pairwise (fun a b => intLe a b = true) (sorted xs) := List.pairwise_mergeSort (fun a b c => by simp [intLe]; omega) (fun a b => by simp [intLe]; omega) _
  exact h2.imp (fun h => by simpa [intLe] using h)

/-- What is listed, sorted, each once, is what is asked number by number. -/
theorem compact_sorted_eq (xs : List Int) (m : Nat) (p : Int → Bool) (hp : ∀ i : Int, p i = true ↔ i ∈ xs) (hr : ∀ x ∈ xs, 0 ≤ x ∧ x < m) : compact (sorted xs) = ((List.range m).map fun (i : Nat) => (i : Int)).filter p := by
  obtain ⟨h1, h2, _⟩ := rising_of_sorted (sorted xs) (sorted_pairwise xs)
  refine rising_ext h1 ?_ fun z => ?_
  · apply List.Pairwise.filter
    rw [List.pairwise_map]
    exact List.pairwise_lt_range.imp (fun h => by omega)
  · rw [h2, List.mem_filter, hp]
    have hm : z ∈ sorted xs ↔ z ∈ xs := (List.mergeSort_perm xs intLe).mem_iff
    rw [hm]
    constructor
    · intro hz
      refine ⟨?_, hz⟩
      obtain ⟨a, b⟩ := hr z hz
      rw [List.mem_map]
      exact ⟨z.toNat, by simp; omega, by omega⟩
    · exact fun h => h.2
end Go.Proofs.Ytobhjjbhlnbcpaa
namespace Go.Proofs.Ytobhjjbhlnbcpaa
set_option linter.unusedVariables false
set_option linter.unusedSimpArgs false

def Op.calls (o : Op) : List Int := if o.rel = true ∧ o.kind = 1 then [o.to] else []
def Term.calls (t : Term) : List Int := if t.kind = 4 then [t.to] else []
def opsCalls (os : List Op) : List Int := os.flatMap Op.calls
def Block.calls (b : Block) : List Int := opsCalls b.ops ++ b.fin.calls
def blocksCalls (bs : List Block) : List Int := bs.flatMap Block.calls
theorem opsCalls_succ {os : List Op} {k : Nat} {o : Op} (h : os[k]? = some o) : opsCalls (os.take (k + 1)) = opsCalls (os.take k) ++ o.calls := by
  unfold opsCalls
  rw [take_snoc h, List.flatMap_append]
  simp
theorem blocksCalls_succ {bs : List Block} {k : Nat} {b : Block} (h : bs[k]? = some b) : blocksCalls (bs.take (k + 1)) = blocksCalls (bs.take k) ++ (opsCalls b.ops ++ b.fin.calls) := by
  unfold blocksCalls
  rw [take_snoc h, List.flatMap_append]
  simp [Block.calls]
theorem opsCalls_len (os : List Op) : (opsCalls os).length ≤ os.length := by
  unfold opsCalls
  induction os with
  | nil => simp
  | cons o r ih =>
    rw [List.flatMap_cons, List.length_append, List.length_cons]
    have : (Op.calls o).length ≤ 1 := by unfold Op.calls; split <;> simp
    omega
theorem blocksCalls_len (bs : List Block) (h : ∀ b ∈ bs, b.ops.length ≤ 300) : (blocksCalls bs).length ≤ 301 * bs.length := by
  unfold blocksCalls
  induction bs with
  | nil => simp
  | cons b r ih =>
    rw [List.flatMap_cons, List.length_append, List.length_cons]
    have h1 := opsCalls_len b.ops
    have h2 := h b (by simp)
    have h3 : (Block.calls b).length ≤ 301 := by
      unfold Block.calls Term.calls
      rw [List.length_append]
      split <;> simp <;> omega
    have h4 := ih (fun b' hb' => h b' (by simp [hb']))
    omega
theorem blocksFew_parts {bs : List Block} (h : blocksFew bs = true) : bs.length ≤ 200 ∧ ∀ b ∈ bs, b.ops.length ≤ 300 := by
  unfold blocksFew at h
  rw [Bool.and_eq_true, decide_eq_true_eq, List.all_eq_true] at h
  refine ⟨h.2, fun b hb => ?_⟩
  have := h.1 b (by rw [List.take_of_length_le (by omega)]; exact hb)
  simpa using this
theorem blocksCalls_few {bs : List Block} (h : blocksFew bs = true) (k : Nat) : (blocksCalls (bs.take k)).length ≤ 60200 := by
  obtain ⟨h1, h2⟩ := blocksFew_parts h
  have h3 := blocksCalls_len (bs.take k) (fun b hb => h2 b (List.mem_of_mem_take hb))
  have h4 : (bs.take k).length ≤ 200 := Nat.le_trans (by simp [List.length_take]; omega) h1
  omega

theorem Op.right_to {o : Op} {funcs datas : Int} (h : o.right funcs datas = true) : ∀ x ∈ o.calls, 0 ≤ x ∧ x < funcs := by
  intro x hx
  unfold Op.calls at hx
  split at hx
  · rename_i hc
    simp at hx
    subst hx
    unfold Op.right at h
    simp only [hc.1, hc.2] at h
    repeat' split at h
    all_goals simp_all
    all_goals omega
  · simp at hx
theorem Term.right_to {t : Term} {blocks funcs : Int} (h : t.right blocks funcs = true) : ∀ x ∈ t.calls, 0 ≤ x ∧ x < funcs := by
  intro x hx
  unfold Term.calls at hx
  split at hx
  · rename_i hc
    simp at hx
    subst hx
    unfold Term.right at h
    rw [if_neg (by omega), if_pos hc] at h
    simp at h
    omega
  · simp at hx
theorem blocksRight_calls {bs : List Block} {funcs datas : Int} (h : blocksRight bs funcs datas = true) : ∀ x ∈ blocksCalls bs, 0 ≤ x ∧ x < funcs := by
  intro x hx
  unfold blocksCalls at hx
  rw [List.mem_flatMap] at hx
  obtain ⟨b, hb, hx⟩ := hx
  unfold blocksRight at h
  rw [Bool.and_eq_true, List.all_eq_true] at h
  have hr := h.1 b hb
  unfold Block.right at hr
  rw [Bool.and_eq_true, List.all_eq_true] at hr
  unfold Block.calls at hx
  rw [List.mem_append] at hx
  rcases hx with hx | hx
  · unfold opsCalls at hx
    rw [List.mem_flatMap] at hx
    obtain ⟨o, ho, hx⟩ := hx
    exact Op.right_to (hr.1 o ho) x hx
  · exact Term.right_to hr.2 x hx

/-- What calls.Of answers. -/
def ofList (bs : List Block) : List Int := compact (sorted (blocksCalls bs))
def callsB (bs : List Block) (x : Int) : Bool := decide (x ∈ blocksCalls bs)
/-- What the document's Of answers. -/
def refOf (bs : List Block) (n : Nat) : List Int := ((List.range n).map fun (i : Nat) => (i : Int)).filter (callsB bs)
theorem ofList_eq {bs : List Block} {n : Nat} {datas : Int} (h : blocksRight bs n datas = true) : ofList bs = refOf bs n :=
  compact_sorted_eq (blocksCalls bs) n (callsB bs) (fun i => by simp [callsB]) (fun x hx => blocksRight_calls h x hx)
theorem mem_ofList {bs : List Block} {x : Int} : x ∈ ofList bs ↔ x ∈ blocksCalls bs := by
  unfold ofList
  rw [(rising_of_sorted (sorted (blocksCalls bs)) (sorted_pairwise _)).2.1 x]
  exact (List.mergeSort_perm _ intLe).mem_iff
end Go.Proofs.Ytobhjjbhlnbcpaa
namespace Go.Proofs.Ytobhjjbhlnbcpaa
set_option linter.unusedVariables false
set_option linter.unusedSimpArgs false
open Go.RowKit

/-- Of blocks apart from the slice's own: none has turned, and the new slice is apart from them, too. -/
def StaysApart (w w' : World) (v v' : Value) : Prop := ∀ b, b < w.heap.size → v.ownBlock ≠ some b → (∀ i, w'.cell? ⟨b, i, none⟩ = w.cell? ⟨b, i, none⟩) ∧ v'.ownBlock ≠ some b

theorem wpList_append_one2 {ops : Array Oper} {rest : List Oper} {o : Oper} {a : Act} {Q : Exit → Act → World → Prop} (hgd : o.guard = none) (s x : Operand)
    (ho : o.op = .call { callee := .builtin .append, args := #[s, x], argTypes := #[29, 29] }) {w : World} (base : Nat) {v : Value} {xs : List Int} {y : Int} (hown : OwnI w base v xs) (hs : a.eval s = v) (hx : a.eval x = .slice (some ⟨w.heap.size, 0, none⟩) 1 1)
    (hl : xs.length ≤ 1099511627776) (hb : base ≤ w.heap.size)
    (h : ∀ v' w', OwnI w' base v' (xs ++ [y]) → Below base w w' → StaysApart w w' v v' → wpList Try.prog ops Q rest (a.put o.dst v') w') : wpList Try.prog ops Q (o :: rest) a (w.alloc (.cells #[.int .i64 y] 3)) := by
  obtain ⟨i0, hi, hz0, hz1, hz2⟩ := info_parts infoInt
  refine wpList_append_own_at _ hgd s x 29 ho base 3 i0 (.int .i64 0) 1 8 Try.underlying29 hi hz0 hz1 hz2 rfl (by decide) v xs.length (xs.map (Value.int .i64)) hs (World.ownsRow.alloc hown _) ⟨w.heap.size, 0, none⟩ 1 1 [.int .i64 y] hx rfl ?_ ?_ (by unfold maxLen; omega) (by omega) (by simp; omega) ?_
  · intro j u hj
    cases j with
    | zero => simp at hj; subst hj; simp [Addr.add]
    | succ j => simp at hj
  · intro u hu; simp at hu; subst hu; rfl
  · intro v' w' ho hg _ hv
    refine h v' w' ?_ ?_ ?_
    · unfold OwnI
      simpa using ho
    · have hb2 := (Below.refl base (w.alloc (.cells #[.int .i64 y] 3))).grown hg (by simp; omega) (fun k hk => (hown.block k hk).1)
      exact (((Below.refl base w).alloc hb _)).trans hb2
    · intro b hbl hne
      refine ⟨fun i => ?_, ?_⟩
      · have h1 : w'.heap[b]? = (w.alloc (.cells #[.int .i64 y] 3)).heap[b]? := hg.block b (by simp; omega) (fun e => hne e.symm)
        have h2 : (w.alloc (.cells #[.int .i64 y] 3)).heap[b]? = w.heap[b]? := ((Below.refl w.heap.size w).alloc (Nat.le_refl _) _).block b hbl
        exact World.cell?_of_block (a := ⟨b, i, none⟩) (h1.trans h2)
      · rcases hv with hv | hv
        · rw [hv]; exact hne
        · rw [hv]
          intro e
          injection e with e
          simp at e
          omega
end Go.Proofs.Ytobhjjbhlnbcpaa
namespace Go.Proofs.Ytobhjjbhlnbcpaa
set_option linter.unusedVariables false
set_option linter.unusedSimpArgs false
open Go.RowKit

/-- Block number g is a row of these bools. -/
def RowB (w : World) (g : Nat) (bs : List Bool) : Prop := w.heap[g]? = some (.cells (bs.map Value.bool).toArray 4 (0, 0))
theorem RowB.lt {w : World} {g : Nat} {bs : List Bool} (h : RowB w g bs) : g < w.heap.size := (Array.getElem?_eq_some_iff.1 h).1
theorem RowB.cell {w : World} {g : Nat} {bs : List Bool} (h : RowB w g bs) {i : Nat} {b : Bool} (hi : bs[i]? = some b) : w.cell? ⟨g, i, none⟩ = some (.bool b) := by
  rw [cell_of_row w g i _ _ _ h]
  simp [hi]
theorem RowB.frozen {w : World} {g : Nat} {bs : List Bool} (h : RowB w g bs) (i : Nat) : w.frozen? ⟨g, i, none⟩ = false := frozen_of_row w g i _ _ h
theorem RowB.below {w w' : World} {g : Nat} {bs : List Bool} (h : RowB w g bs) (hb : Below w.heap.size w w') : RowB w' g bs := by
  unfold RowB
  rw [hb.block g h.lt]
  exact h
theorem RowB.apart {w w' : World} {g : Nat} {bs : List Bool} {r : Option Nat} (h : RowB w g bs) (hg : w.grownBy w' r) (hne : r ≠ some g) : RowB w' g bs := by
  unfold RowB
  rw [hg.block g h.lt (fun e => hne e.symm)]
  exact h
theorem RowB.set {w : World} {g : Nat} {bs : List Bool} (h : RowB w g bs) (i : Nat) (b : Bool) : RowB (w.setCell ⟨g, i, none⟩ (.bool b)) g (bs.set i b) ∧ w.grownBy (w.setCell ⟨g, i, none⟩ (.bool b)) (some g) := by
  refine ⟨?_, ⟨rfl, rfl, rfl, by simp, fun k _ hk => heap_setCell_other w ⟨g, i, none⟩ k _ (fun e => hk (by simp [e]))⟩⟩
  unfold RowB
  rw [heap_setCell_same w g i _ _ _ h]
  congr 1
  congr 1
  apply Array.toList_inj.1
  simp
theorem RowB.alloc {w : World} {g : Nat} {bs : List Bool} (h : RowB w g bs) (o : Obj) : RowB (w.alloc o) g bs := h.below ((Below.refl _ _).alloc (Nat.le_refl _) _)

theorem infoBool : (Try.prog.info? 4).map (fun i => (i.zero, i.size, i.bytes)) = some (some (.bool false), 1, 1) := by kernel_rfl
theorem make_bools (n : Nat) (hn : n ≤ 1000000) (w : World) : ∃ w', (Instr.makeSlice 48 (.int .i64 (n : Int)) (.int .i64 (n : Int))).run Try.prog w = .ok (.slice (some ⟨w.heap.size, 0, none⟩) n n) w' ∧ RowB w' w.heap.size (List.replicate n false) ∧ Below w.heap.size w w' ∧ w'.heap.size = w.heap.size + 1 := by
  obtain ⟨i0, hi, hz0, hz1, hz2⟩ := info_parts infoBool
  have h := run_make (P := Try.prog) w 48 4 i0 (.bool false) Try.underlying48 hi hz0 .i64 .i64 n n (by omega) (Int.le_refl _) (by rw [hz2]; omega) (by omega)
  refine ⟨_, h, ?_, (Below.refl _ _).alloc (Nat.le_refl _) _, by simp⟩
  unfold RowB
  rw [heap_alloc_new]
  congr 1
  congr 1
  apply Array.toList_inj.1
  rw [hz1]
  simp only [Int.toNat_natCast, Nat.mul_one]
  apply List.ext_getElem?
  intro j
  by_cases hj : j < n
  · simp [madeCells, hj, List.getElem?_replicate, Value.cells, Nat.mod_one]
  · simp [madeCells, hj, List.getElem?_replicate]

theorem grown_trans {w w1 w2 : World} {r : Option Nat} (h : w.grownBy w1 r) (k : w1.grownBy w2 r) : w.grownBy w2 r :=
  ⟨k.os.trans h.os, k.tape.trans h.tape, k.output.trans h.output, Nat.le_trans h.size k.size, fun i hi hn => (k.block i (Nat.lt_of_lt_of_le hi h.size) hn).trans (h.block i hi hn)⟩
theorem grown_refl (w : World) (r : Option Nat) : w.grownBy w r := ⟨rfl, rfl, rfl, Nat.le_refl _, fun _ _ _ => rfl⟩
theorem grown_below {w w1 : World} {r : Option Nat} (h : Below w.heap.size w w1) : w.grownBy w1 r := ⟨h.os, h.tape, h.output, h.size, fun k hk _ => h.block k hk⟩
end Go.Proofs.Ytobhjjbhlnbcpaa
