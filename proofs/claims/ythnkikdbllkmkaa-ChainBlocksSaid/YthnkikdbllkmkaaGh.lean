/- The library's Sort, Compact and DeleteFunc over ints of the call's own: what each leaves. Appending a number to a slice of the call's own. Layer 3 (flow) and its reference: what each function answers. flow.Reads: the registers that an instruction reads, sorted, each once, in memory of the call's own. The reference's list of what an instruction reads; comparing lists of ints. What the program lists as read is what the document lists; and what follows of it. The two ways to say what an instruction is agree. Plain: a sorted list with its doubles left out is the rising list of its members. What a graph calls, as plain lists. Appending a number to a slice of the call's own, with what else stays. A row of bools of the call's own; what turns in it alone. -/
import Derived.Test.YthnkikdbllkmkaaGa
import Derived.Test.YthnkikdbllkmkaaChecked
import Derived.Test.YthnkikdbllkmkaaSh
import Derived.Sort.OwnSortedInts
import Derived.Lib.RowBridge
import Derived.Deep.CutBlock
import Derived.Deep.DeepCutAuto
import Derived.Maps.AppendAt
import Derived.Laws.OwnMore
namespace Go.Proofs.Ythnkikdbllkmkaa
set_option linter.unusedVariables false
set_option linter.unusedSimpArgs false
open Go.RowKit Go.Sort Go.Shelf

/-- A slice of ints of the call's own, from block number base on. -/
def OwnI (w : World) (base : Nat) (v : Value) (xs : List Int) : Prop := w.ownsRow base 3 1 v xs.length (xs.map (Value.int .i64))

theorem OwnI.nil (w : World) (base : Nat) : OwnI w base (.slice none 0 0) [] := World.ownsRow_nil w base 3 1
theorem OwnI.cases {w : World} {base : Nat} {v : Value} {xs : List Int} (h : OwnI w base v xs) : (v = .slice none 0 0 ∧ xs = []) ∨ ∃ g cap cur, v = .slice (some ⟨g, 0, none⟩) xs.length cap ∧ base ≤ g ∧ w.heap[g]? = some (.cells cur 3 (0, 0)) ∧ xs.length ≤ cap ∧ cap ≤ maxLen ∧ cur.size = cap ∧ cur.toList.take xs.length = xs.map (Value.int .i64) := by
  obtain ⟨_, h | ⟨g, cap, cur, h1, h2, h3, h4, h5, h6, h7⟩⟩ := h
  · exact .inl ⟨h.1, List.eq_nil_of_length_eq_zero h.2⟩
  · exact .inr ⟨g, cap, cur, h1, h2, h3, h4, h5, by simpa using h6, by simpa using h7⟩

theorem OwnI.mk {w : World} {base g cap : Nat} {cur : Array Value} {xs : List Int} (h2 : base ≤ g) (h3 : w.heap[g]? = some (.cells cur 3 (0, 0))) (h4 : xs.length ≤ cap) (h5 : cap ≤ maxLen) (h6 : cur.size = cap) (h7 : cur.toList.take xs.length = xs.map (Value.int .i64)) : OwnI w base (.slice (some ⟨g, 0, none⟩) xs.length cap) xs :=
  ⟨by simp, .inr ⟨g, cap, cur, rfl, h2, h3, h4, h5, by simpa using h6, by simpa using h7⟩⟩

def intLe (x y : Int) : Bool := decide (x ≤ y)
def sorted (xs : List Int) : List Int := xs.mergeSort intLe
theorem sorted_length (xs : List Int) : (sorted xs).length = xs.length := List.length_mergeSort xs

/-- What a call that writes a row of one's own leaves: the slice that it hands back, the row's new content. -/
def Wrote (w : World) (base : Nat) (v : Value) (xs : List Int) (e : Ending) (w' : World) : Prop := ∃ v', e = .returned v' ∧ OwnI w' base v' xs ∧ w.grownBy w' v.ownBlock ∧ v'.ownBlock = v.ownBlock

theorem zeroInt (w : World) : (zeroValue 3).run Try.prog w = .ok (.int .i64 0) w := by kernel_rfl

theorem putRow_own {w : World} {base g cap n : Nat} {cur : Array Value} {xs ys : List Int} (h2 : base ≤ g) (h3 : w.heap[g]? = some (.cells cur 3 (0, 0))) (h4 : xs.length ≤ cap) (h5 : cap ≤ maxLen) (h6 : cur.size = cap) (hl : ys.length ≤ xs.length) :
    OwnI (putRow (Value.int .i64) (Sort.ahead w n) g 0 (ys ++ List.replicate (xs.length - ys.length) (0 : Int)).toArray) base (.slice (some ⟨g, 0, none⟩) ys.length cap) ys ∧ w.grownBy (putRow (Value.int .i64) (Sort.ahead w n) g 0 (ys ++ List.replicate (xs.length - ys.length) (0 : Int)).toArray) (some g) := by
  have hh := heap_sortedI (n := n) (os := #[]) (ys ++ List.replicate (xs.length - ys.length) (0 : Int)).toArray h3
  have hg := grownBy_sortedI (w := w) (g := g) (n := n) (os := #[]) (ys ++ List.replicate (xs.length - ys.length) (0 : Int)).toArray
  rw [grow_empty] at hh hg
  refine ⟨OwnI.mk h2 hh (by omega) h5 (by simp [putCells, h6]) ?_, hg⟩
  have ht := take_putCellsI cur (ys ++ List.replicate (xs.length - ys.length) (0 : Int)) (by simp; omega)
  have := congrArg (List.take ys.length) ht
  rw [List.take_take] at this
  simpa [Nat.min_eq_left, hl] using this

def compact (xs : List Int) : List Int := Go.Lib.compact xs
def noZero (xs : List Int) : List Int := xs.filter fun x => !(x == 0)
end Go.Proofs.Ythnkikdbllkmkaa
namespace Go.Proofs.Ythnkikdbllkmkaa
set_option linter.unusedVariables false
set_option linter.unusedSimpArgs false
open Go.RowKit

theorem infoInt : (Try.prog.info? 3).map (fun i => (i.zero, i.size, i.bytes)) = some (some (.int .i64 0), 1, 8) := by kernel_rfl

theorem OwnI.mono {w : World} {base base' : Nat} {v : Value} {xs : List Int} (h : OwnI w base v xs) (hb : base' ≤ base) : OwnI w base' v xs := by
  obtain ⟨h0, h | ⟨g, cap, cur, h1, h2, h3⟩⟩ := h
  · exact ⟨h0, .inl h⟩
  · exact ⟨h0, .inr ⟨g, cap, cur, h1, Nat.le_trans hb h2, h3⟩⟩
theorem OwnI.alloc {w : World} {base : Nat} {v : Value} {xs : List Int} (h : OwnI w base v xs) (o : Obj) : OwnI (w.alloc o) base v xs := World.ownsRow.alloc h o
theorem OwnI.drew {w : World} {base : Nat} {v : Value} {xs : List Int} (h : OwnI w base v xs) : OwnI w.drew base v xs := h
/-- What lies in one's own row stays while no block of one's own is written. -/
theorem OwnI.block {w : World} {base : Nat} {v : Value} {xs : List Int} (h : OwnI w base v xs) : ∀ k, v.ownBlock = some k → base ≤ k ∧ k < w.heap.size := World.ownsRow.lt h
theorem OwnI.below {w w' : World} {base : Nat} {v : Value} {xs : List Int} (h : OwnI w base v xs) (hb : Below w.heap.size w w') : OwnI w' base v xs := by
  rcases h.cases with ⟨rfl, rfl⟩ | ⟨g, cap, cur, rfl, h2, h3, h4, h5, h6, h7⟩
  · exact OwnI.nil _ _
  · exact OwnI.mk h2 (by rw [hb.block g (Array.getElem?_eq_some_iff.1 h3).1]; exact h3) h4 h5 h6 h7
/-- What a write into one's own row leaves of all below it. -/
theorem OwnI.grown {w w' : World} {base : Nat} {v : Value} {xs : List Int} (h : OwnI w base v xs) (hb : base ≤ w.heap.size) (hg : w.grownBy w' v.ownBlock) : Below base w w' :=
  (Below.refl base w).grown hg hb (fun k hk => (h.block k hk).1)

theorem OwnI.cells {w : World} {base : Nat} {v : Value} {xs : List Int} (h : OwnI w base v xs) : ∃ A c, v = .slice A xs.length c ∧ xs.length ≤ c ∧ c ≤ maxLen ∧ ∀ i x, xs[i]? = some x → ∃ g, A = some ⟨g, 0, none⟩ ∧ w.cell? ⟨g, i, none⟩ = some (.int .i64 x) ∧ w.frozen? ⟨g, i, none⟩ = false ∧ base ≤ g := by
  rcases h.cases with ⟨rfl, rfl⟩ | ⟨g, cap, cur, rfl, h2, h3, h4, h5, h6, h7⟩
  · exact ⟨none, 0, rfl, Nat.le_refl _, Nat.zero_le _, fun i x hx => by simp at hx⟩
  · refine ⟨_, _, rfl, h4, h5, fun i x hx => ⟨g, rfl, ?_, by simp [World.frozen?, h3], h2⟩⟩
    have hi : i < xs.length := (List.getElem?_eq_some_iff.1 hx).1
    have h8 : (cur.toList.take xs.length)[i]? = (xs.map (Value.int .i64))[i]? := by rw [h7]
    rw [List.getElem?_take_of_lt hi, List.getElem?_map, hx] at h8
    simp only [World.cell?, h3, Option.isSome_none, Bool.false_eq_true, if_false]
    rw [← Array.getElem?_toList, h8]
    rfl

theorem wpList_append_one {ops : Array Oper} {rest : List Oper} {o : Oper} {a : Act} {Q : Exit → Act → World → Prop} (hgd : o.guard = none) (s x : Operand)
    (ho : o.op = .call { callee := .builtin .append, args := #[s, x], argTypes := #[29, 29] }) {w : World} (base : Nat) {v : Value} {xs : List Int} {y : Int} (hown : OwnI w base v xs) (hs : a.eval s = v) (hx : a.eval x = .slice (some ⟨w.heap.size, 0, none⟩) 1 1)
    (hl : xs.length ≤ 1099511627776) (hb : base ≤ w.heap.size)
    (h : ∀ v' w', OwnI w' base v' (xs ++ [y]) → Below base w w' → wpList Try.prog ops Q rest (a.put o.dst v') w') : wpList Try.prog ops Q (o :: rest) a (w.alloc (.cells #[.int .i64 y] 3)) := by
  obtain ⟨i0, hi, hz0, hz1, hz2⟩ := info_parts infoInt
  refine wpList_append_own _ hgd s x 29 ho base 3 i0 (.int .i64 0) 1 8 Try.underlying29 hi hz0 hz1 hz2 rfl (by decide) v xs.length (xs.map (Value.int .i64)) hs (World.ownsRow.alloc hown _) ⟨w.heap.size, 0, none⟩ 1 1 [.int .i64 y] hx rfl ?_ ?_ (by unfold maxLen; omega) (by omega) (by simp; omega) ?_
  · intro j u hj
    cases j with
    | zero => simp at hj; subst hj; simp [Addr.add]
    | succ j => simp at hj
  · intro u hu; simp at hu; subst hu; rfl
  · intro v' w' ho hg _
    refine h v' w' ?_ ?_
    · unfold OwnI
      simpa using ho
    · have hb2 := (Below.refl base (w.alloc (.cells #[.int .i64 y] 3))).grown hg (by simp; omega) (fun k hk => (hown.block k hk).1)
      exact (((Below.refl base w).alloc hb _)).trans hb2
end Go.Proofs.Ythnkikdbllkmkaa
namespace Go.Proofs.Ythnkikdbllkmkaa
set_option linter.unusedVariables false
set_option linter.unusedSimpArgs false
open Go.RowKit

end Go.Proofs.Ythnkikdbllkmkaa
namespace Go.Proofs.Ythnkikdbllkmkaa
set_option linter.unusedVariables false
set_option linter.unusedSimpArgs false
open Go.RowKit

def readsList (op a b c : Int) : List Int := noZero (compact (sorted (rawReads op a b c)))
theorem rawReads_len (op a b c : Int) : (rawReads op a b c).length ≤ 2 := by
  unfold rawReads
  (repeat' split) <;> simp
theorem compact_len (xs : List Int) : (compact xs).length ≤ xs.length := Go.Lib.compact_length_le xs
theorem readsList_len (op a b c : Int) : (readsList op a b c).length ≤ 2 :=
  Nat.le_trans (List.length_filter_le _ _) (Nat.le_trans (compact_len _) (by rw [sorted_length]; exact rawReads_len op a b c))

/-- A slice of ints that a call has made. -/
def MadeI (w : World) (xs : List Int) (e : Ending) (w' : World) : Prop := ∃ v, e = .returned v ∧ OwnI w' w.heap.size v xs ∧ Below w.heap.size w w'

end Go.Proofs.Ythnkikdbllkmkaa
namespace Go.Proofs.Ythnkikdbllkmkaa
set_option linter.unusedVariables false
set_option linter.unusedSimpArgs false
open Go.RowKit

def refUpTo (op a b c : Int) (n : Nat) : List Int := ((List.range n).map fun (i : Nat) => ((i : Int) + 1)).filter fun r => refReads op a b c r
theorem refUpTo_succ (op a b c : Int) (n : Nat) : refUpTo op a b c (n + 1) = refUpTo op a b c n ++ (if refReads op a b c ((n : Int) + 1) = true then [(n : Int) + 1] else []) := by
  unfold refUpTo
  rw [List.range_succ, List.map_append, List.filter_append]
  congr 1
  by_cases h : refReads op a b c ((n : Int) + 1) = true <;> simp [h]
theorem refUpTo_len (op a b c : Int) (n : Nat) : (refUpTo op a b c n).length ≤ n := by
  unfold refUpTo
  exact Nat.le_trans (List.length_filter_le _ _) (by simp)

/-- The cells of a slice of ints. -/
def CellsI (w : World) (A : Option Addr) (xs : List Int) : Prop := ∀ i x, xs[i]? = some x → ∃ ad, A = some ad ∧ w.cell? (ad.add i) = some (.int .i64 x)
theorem CellsI.below {w w' : World} {A : Option Addr} {xs : List Int} (h : CellsI w A xs) (hb : Below w.heap.size w w') : CellsI w' A xs := by
  intro i x hx
  obtain ⟨ad, e, hc⟩ := h i x hx
  exact ⟨ad, e, (hb.cell (World.lt_of_cell hc)).trans hc⟩
theorem CellsI.of_C {w : World} {A : Option Addr} {xs : List Int} (h : (Kd.int .i64).C w A xs) : CellsI w A xs := by
  intro i x hx
  obtain ⟨ad, e, hc⟩ := ints_at h hx
  exact ⟨ad, e, hc⟩
theorem OwnI.read {w : World} {base : Nat} {v : Value} {xs : List Int} (h : OwnI w base v xs) : ∃ A c, v = .slice A xs.length c ∧ xs.length ≤ c ∧ c ≤ maxLen ∧ CellsI w A xs := by
  obtain ⟨A, c, e, h1, h2, h3⟩ := h.cells
  refine ⟨A, c, e, h1, h2, fun i x hx => ?_⟩
  obtain ⟨g, e1, h4, _⟩ := h3 i x hx
  refine ⟨_, e1, ?_⟩
  unfold Addr.add
  by_cases h0 : i = 0
  · rw [if_pos h0]; subst h0; exact h4
  · rw [if_neg h0]; simpa using h4

theorem take_eq_snoc {xs ys : List Int} {k : Nat} {x y : Int} (hx : xs[k]? = some x) (hy : ys[k]? = some y) (h : xs.take k = ys.take k) (e : x = y) : xs.take (k + 1) = ys.take (k + 1) := by
  rw [take_snoc hx, take_snoc hy, h, e]

set_option maxHeartbeats 4000000 in
set_option maxRecDepth 100000 in
theorem ints_calls (A A' : Option Addr) (c c' : Nat) (xs ys : List Int) (w : World) (hx : CellsI w A xs) (hy : CellsI w A' ys) (hl : xs.length ≤ maxLen) : Calls Try.prog 9 #[.slice A xs.length c, .slice A' ys.length c'] w fun e w' => e = .returned (.bool (xs == ys)) ∧ ∃ n, w' = w.drewN n := by
  unfold maxLen at hl
  by_cases hlen : xs.length = ys.length
  · rw [← hlen]
    have HL := Lib.hid hlen
    clear hlen
    go_enter Try.func9, Try.ntmps9
    go_wp2_with fail
    go_loopw [5] (fun i wr => ∃ k : Nat, k ≤ xs.length ∧ xs.take k = ys.take k ∧ i = .int .i64 k ∧ ∃ n, wr = w.drewN n) (fun i _ => xs.length - (intOf i).toNat)
    case atStart => exact ⟨0, Nat.zero_le _, rfl, rfl, 0, rfl⟩
    case round =>
      obtain ⟨k, hk, hp, rfl, n, rfl⟩ := hrel
      have HP := Lib.hid hp
      clear hp
      by_cases hlt : k < xs.length
      · obtain ⟨x, hxx⟩ := get_some xs k hlt
        obtain ⟨y, hyy⟩ := get_some ys k (by rw [← HL.out]; exact hlt)
        obtain ⟨ad, rfl, f1⟩ := hx k x hxx
        obtain ⟨ad', rfl, f2⟩ := hy k y hyy
        have HX := Lib.hid hxx
        have HY := Lib.hid hyy
        clear hxx hyy
        go_wp2_with fail
        go_quiet (fail)
        go_wp2_with fail
        · go_ret
          have hne : (xs == ys) = false := by
            rw [beq_eq_false_iff_ne]
            intro e
            rw [e, HY.out] at HX
            have hxy : y = x := Option.some.inj HX.out
            have hd : (x != y) = true := by assumption
            rw [hxy] at hd
            simp at hd
          exact ⟨ret_bool hne.symm, _, World.drewN_drewN w n nq⟩
        · have hxy : x = y := by
            have hd : (x != y) = false := by assumption
            simpa using hd
          exact ⟨⟨k + 1, by omega, take_eq_snoc HX.out HY.out HP.out hxy, by go_num, _, rfl⟩, by simp [intOf]; omega⟩
      · have hke : k = xs.length := by omega
        have he : xs = ys := by
          have := HP.out
          rw [hke, List.take_length, HL.out, List.take_length] at this
          exact this
        have HE := Lib.hid he
        clear hke he
        go_wp2_with fail
        go_ret
        exact ⟨ret_bool (by rw [beq_iff_eq.2 HE.out]), n, rfl⟩
  · have he : (xs == ys) = false := by
      rw [beq_eq_false_iff_ne]
      intro e
      exact hlen (by rw [e])
    rw [he]
    go_enter Try.func9, Try.ntmps9
    have h1 : ((xs.length : Int) != (ys.length : Int)) = true := by rw [bne_iff_ne]; omega
    have h2 : (xs.length != ys.length) = true := by rw [bne_iff_ne]; omega
    clear hlen
    go_wp2_with fail
    go_ret
    exact ⟨rfl, 0, rfl⟩
end Go.Proofs.Ythnkikdbllkmkaa
namespace Go.Proofs.Ythnkikdbllkmkaa
set_option linter.unusedVariables false
set_option linter.unusedSimpArgs false

theorem sorted_nil : sorted [] = [] := by simp [sorted]
theorem sorted_one (x : Int) : sorted [x] = [x] := by simp [sorted]
theorem sorted_two (x y : Int) : sorted [x, y] = if x ≤ y then [x, y] else [y, x] := by
  have h1 : (sorted [x, y]).Perm [x, y] := List.mergeSort_perm _ _
  have h2 : List.Pairwise (fun a b => intLe a b = true) (sorted [x, y]) := List.pairwise_mergeSort (fun a b c => by simp [intLe]; omega) (fun a b => by simp [intLe]; omega) _
  obtain ⟨a, b, hab⟩ : ∃ a b, sorted [x, y] = [a, b] := by
    have hl := sorted_length [x, y]
    match hs : sorted [x, y] with
    | [] => rw [hs] at hl; simp at hl
    | [a] => rw [hs] at hl; simp at hl
    | [a, b] => exact ⟨a, b, rfl⟩
    | a :: b :: c :: r => rw [hs] at hl; simp at hl
  rw [hab] at h1 h2 ⊢
  have hle : a ≤ b := by simpa [intLe] using h2
  have hc : (a = x ∧ b = y) ∨ (a = y ∧ b = x) := by
    have hx : a ∈ [x, y] := h1.subset (by simp)
    simp at hx
    rcases hx with rfl | rfl
    · left
      have := (List.perm_cons a).1 h1
      simp at this
      exact ⟨rfl, this⟩
    · right
      have := (List.perm_cons a).1 (h1.trans (List.Perm.swap a x []))
      simp at this
      exact ⟨rfl, this⟩
  rcases hc with ⟨rfl, rfl⟩ | ⟨rfl, rfl⟩
  · rw [if_pos hle]
  · by_cases h : b ≤ a
    · have : a = b := by omega
      subst this
      simp
    · rw [if_neg h]
theorem compact_nil : compact [] = [] := by simp [compact, Go.Lib.compact, Go.Lib.compactUpTo]
theorem compact_one (x : Int) : compact [x] = [x] := by simp [compact, Go.Lib.compact, Go.Lib.compactUpTo, Go.Lib.keeps, List.range_succ]
theorem compact_two (x y : Int) : compact [x, y] = if x = y then [x] else [x, y] := by
  by_cases h : x = y
  · simp [compact, Go.Lib.compact, Go.Lib.compactUpTo, Go.Lib.keeps, List.range_succ, h]
  · have h' : ¬ y = x := fun e => h e.symm
    simp [compact, Go.Lib.compact, Go.Lib.compactUpTo, Go.Lib.keeps, List.range_succ, h]
    refine ⟨1, ?_, rfl⟩
    simp [List.filter_cons, Go.Lib.keeps, h']

def regs15 : List Int := (List.range 15).map fun (i : Nat) => ((i : Int) + 1)
def two (x y : Int) : List Int := noZero (if x = y then [x] else if x ≤ y then [x, y] else [y, x])
theorem two_regs : ∀ x y : Fin 16, two (x.val : Int) (y.val : Int) = regs15.filter fun r => (decide ((x.val : Int) = r) || decide ((y.val : Int) = r)) := by decide +kernel
theorem two_of {x y : Int} (hx0 : 0 ≤ x) (hx : x ≤ 15) (hy0 : 0 ≤ y) (hy : y ≤ 15) : noZero (compact (sorted [x, y])) = regs15.filter fun r => (decide (x = r) || decide (y = r)) := by
  have h := two_regs ⟨x.toNat, by omega⟩ ⟨y.toNat, by omega⟩
  simp only [Int.toNat_of_nonneg hx0, Int.toNat_of_nonneg hy0] at h
  rw [← h, sorted_two]
  unfold two
  congr 1
  by_cases h1 : x ≤ y
  · rw [if_pos h1, compact_two]
  · rw [if_neg h1, compact_two, if_neg (by omega), if_neg (by omega)]
theorem one_of {x : Int} (hx0 : 0 ≤ x) (hx : x ≤ 15) : noZero (compact (sorted [x])) = regs15.filter fun r => decide (x = r) := by
  have h := two_of hx0 hx hx0 hx
  rw [sorted_one, compact_one]
  rw [sorted_two, if_pos (Int.le_refl _), compact_two, if_pos rfl] at h
  simpa using h

theorem mem_regs15 {r : Int} (h : r ∈ regs15) : 1 ≤ r ∧ r ≤ 15 := by
  unfold regs15 at h
  simp at h
  obtain ⟨i, hi, rfl⟩ := h
  omega

theorem readsList_eq {op a b c imm : Int} (h : Ins.right ⟨op, a, b, c, imm⟩ = true) : readsList op a b c = refList op a b c := by
  have hf : ∀ p : Int → Bool, (∀ r, 1 ≤ r → r ≤ 15 → p r = refReads op a b c r) → regs15.filter p = refList op a b c := by
    intro p hp
    unfold refList
    exact List.filter_congr fun r hr => hp r (mem_regs15 hr).1 (mem_regs15 hr).2
  unfold readsList rawReads
  unfold Ins.right at h
  by_cases h1 : 1 ≤ op ∧ op ≤ 7
  · rw [if_pos h1]
    have h2 : three op = true := by simp [three, h1]
    simp only [h2, if_true] at h
    simp [reg] at h
    rw [two_of (by omega) (by omega) (by omega) (by omega)]
    apply hf
    intro r hr hr'
    rw [Bool.eq_iff_iff, refReads_iff]
    simp
    omega
  · rw [if_neg h1]
    have h2 : three op = false := by simp [three]; omega
    simp only [h2, Bool.false_eq_true, if_false] at h
    by_cases hc : c = 0
    · subst hc
      simp only [ne_eq, not_true_eq_false, if_false] at h
      by_cases h3 : op = 8 ∨ op = 10 ∨ op = 11 ∨ op = 13
      · rw [if_pos h3]
        have hb : 0 ≤ b ∧ b ≤ 15 := by
          by_cases h4 : op = 10
          · rw [if_neg (by simp [near, h4]), if_pos h4] at h
            simp [reg] at h
            omega
          · rw [if_pos (by simp [near]; omega)] at h
            simp [reg] at h
            omega
        rw [one_of hb.1 hb.2]
        apply hf
        intro r hr hr'
        rw [Bool.eq_iff_iff, refReads_iff]
        simp
        omega
      · rw [if_neg h3]
        by_cases h4 : op = 12 ∨ 14 ≤ op ∧ op ≤ 18
        · rw [if_pos h4]
          have hb : (0 ≤ a ∧ a ≤ 15) ∧ (0 ≤ b ∧ b ≤ 15) := by
            by_cases h5 : near op = true
            · rw [if_pos h5] at h
              simp [reg] at h
              omega
            · rw [if_neg h5, if_neg (by omega), if_pos (by simp [near, branch] at *; omega)] at h
              simp [reg] at h
              omega
          rw [two_of hb.2.1 hb.2.2 hb.1.1 hb.1.2]
          apply hf
          intro r hr hr'
          rw [Bool.eq_iff_iff, refReads_iff]
          simp
          omega
        · rw [if_neg h4]
          by_cases h5 : op = 0 ∨ op = 23
          · rw [if_pos h5]
            have ha : 0 ≤ a ∧ a ≤ 15 := by
              rw [if_neg (by simp [near]; omega), if_neg (by omega), if_neg (by simp [branch]; omega)] at h
              by_cases hb : b ≠ 0
              · rw [if_pos hb] at h; simp at h
              · rw [if_neg hb, if_neg (by omega), if_pos (by simp [one]; omega)] at h
                simp [reg] at h
                omega
            rw [one_of ha.1 ha.2]
            apply hf
            intro r hr hr'
            rw [Bool.eq_iff_iff, refReads_iff]
            simp
            omega
          · rw [if_neg h5, sorted_nil, compact_nil]
            rw [← hf (fun _ => false)]
            · simp [noZero]
            · intro r hr hr'
              rw [Bool.eq_iff_iff, refReads_iff]
              simp
              omega
    · rw [if_pos hc] at h
      simp at h
end Go.Proofs.Ythnkikdbllkmkaa
namespace Go.Proofs.Ythnkikdbllkmkaa
set_option linter.unusedVariables false
set_option linter.unusedSimpArgs false

theorem Ins.right_a {op a b c imm : Int} (h : Ins.right ⟨op, a, b, c, imm⟩ = true) : 0 ≤ a ∧ a ≤ 15 := by
  unfold Ins.right three near branch far one reg at h
  repeat' split at h
  all_goals simp_all
  all_goals omega
theorem writes_eq {op a b c imm : Int} (h : Ins.right ⟨op, a, b, c, imm⟩ = true) : writes op a = refWrites op a := by
  have ha := Ins.right_a h
  unfold writes refWrites
  by_cases h1 : (1 ≤ op ∧ op ≤ 11 ∨ op = 13 ∨ op = 22) ∧ a ≠ 0
  · rw [if_pos h1, if_pos (by omega)]
  · rw [if_neg h1, if_neg (by omega)]
end Go.Proofs.Ythnkikdbllkmkaa
namespace Go.Proofs.Ythnkikdbllkmkaa
set_option linter.unusedVariables false
set_option linter.unusedSimpArgs false

theorem compact_snoc (xs : List Int) (x : Int) : compact (xs ++ [x]) = compact xs ++ (if xs.getLast? = some x then [] else [x]) := by
  unfold compact Go.Lib.compact
  have hl : (xs ++ [x]).length = xs.length + 1 := by simp
  rw [hl, Go.Lib.compactUpTo_succ]
  have h1 : Go.Lib.compactUpTo (xs ++ [x]).toArray xs.length = Go.Lib.compactUpTo xs.toArray xs.length := by
    unfold Go.Lib.compactUpTo
    have hk : ∀ j ∈ List.range xs.length, Go.Lib.keeps (xs ++ [x]).toArray j = Go.Lib.keeps xs.toArray j := by
      intro j hj
      have hj' : j < xs.length := by simpa using hj
      unfold Go.Lib.keeps
      have e1 : (xs ++ [x]).toArray[j]! = xs.toArray[j]! := by
        simp [getElem!_def, List.getElem?_append_left hj']
      have e2 : (xs ++ [x]).toArray[j - 1]! = xs.toArray[j - 1]! := by
        simp [getElem!_def, List.getElem?_append_left (show j - 1 < xs.length by omega)]
      rw [e1, e2]
    rw [List.filter_congr hk]
    apply List.map_congr_left
    intro j hj
    have hj' : j < xs.length := by simpa using (List.mem_filter.1 hj).1
    simp [getElem!_def, List.getElem?_append_left hj']
  rw [h1]
  congr 1
  have h2 : (xs ++ [x]).toArray[xs.length]! = x := by simp [getElem!_def]
  rw [h2]
  by_cases h0 : xs.length = 0
  · have : xs = [] := List.eq_nil_of_length_eq_zero h0
    subst this
    simp [Go.Lib.keeps]
  · have h3 : (xs ++ [x]).toArray[xs.length - 1]! = xs.getLast?.getD 0 := by
      simp [getElem!_def, List.getElem?_append_left (show xs.length - 1 < xs.length by omega), List.getLast?_eq_getElem?]
      cases h : xs[xs.length - 1]? <;> rfl
    obtain ⟨y, hy⟩ : ∃ y, xs.getLast? = some y := by
      rw [List.getLast?_eq_getElem?]
      exact ⟨xs[xs.length - 1], by simp⟩
    rw [hy] at h3 ⊢
    unfold Go.Lib.keeps
    rw [h3, h2]
    by_cases hxy : y = x
    · subst hxy; simp [h0]
    · have : ¬ x = y := fun e => hxy e.symm
      simp [hxy, this]

theorem rising_of_sorted (xs : List Int) : List.Pairwise (fun a b => a ≤ b) xs → List.Pairwise (fun a b => a < b) (compact xs) ∧ (∀ y, y ∈ compact xs ↔ y ∈ xs) ∧ (compact xs).getLast? = xs.getLast? := by
  induction h : xs.length generalizing xs with
  | zero =>
    intro _
    have : xs = [] := List.eq_nil_of_length_eq_zero h
    subst this
    simp [compact, Go.Lib.compact, Go.Lib.compactUpTo]
  | succ n ih =>
    intro hp
    have hne : xs ≠ [] := by intro e; subst e; simp at h
    obtain ⟨ys, x, rfl⟩ : ∃ ys x, xs = ys ++ [x] := ⟨xs.dropLast, xs.getLast hne, (List.dropLast_concat_getLast hne).symm⟩
    have hys : List.Pairwise (fun a b => a ≤ b) ys := (List.pairwise_append.1 hp).1
    have hle : ∀ y ∈ ys, y ≤ x := fun y hy => (List.pairwise_append.1 hp).2.2 y hy x (by simp)
    obtain ⟨h1, h2, h3⟩ := ih ys (by simpa using h) hys
    rw [compact_snoc]
    by_cases hl : ys.getLast? = some x
    · rw [if_pos hl, List.append_nil]
      refine ⟨h1, fun y => ?_, by rw [h3, hl]; simp⟩
      rw [h2 y, List.mem_append]
      constructor
      · exact .inl
      · rintro (hy | hy)
        · exact hy
        · simp at hy
          subst hy
          exact List.mem_of_getLast? hl
    · rw [if_neg hl]
      refine ⟨?_, fun y => ?_, by simp⟩
      · rw [List.pairwise_append]
        refine ⟨h1, by simp, fun y hy z hz => ?_⟩
        simp at hz
        subst hz
        have hyx := hle y ((h2 y).1 hy)
        by_cases he : y = z
        · subst he
          exfalso
          apply hl
          -- the last one of ys is at least y = x, and at most x
          obtain ⟨l, hl'⟩ : ∃ l, ys.getLast? = some l := by
            cases hh : ys.getLast? with
            | none =>
              rw [List.getLast?_eq_none_iff] at hh
              subst hh
              have := (h2 y).1 hy
              simp at this
            | some l => exact ⟨l, rfl⟩
          have hmem := List.mem_of_getLast? hl'
          have hlx := hle l hmem
          have hyl : y ≤ l := by
            have hyy := (h2 y).1 hy
            obtain ⟨zs, rfl⟩ : ∃ zs, ys = zs ++ [l] := by
              have hne2 : ys ≠ [] := by intro e; subst e; simp at hl'
              refine ⟨ys.dropLast, ?_⟩
              have := List.dropLast_concat_getLast hne2
              rw [List.getLast?_eq_some_getLast hne2] at hl'
              injection hl' with e
              rw [← e, this]
            rcases List.mem_append.1 hyy with hm | hm
            · exact (List.pairwise_append.1 hys).2.2 y hm l (by simp)
            · simp at hm; omega
          rw [hl', show l = y by omega]
        · omega
      · rw [List.mem_append, List.mem_append, h2 y]

/-- Two rising lists with the same members are one. -/
theorem rising_ext {xs ys : List Int} (hx : List.Pairwise (fun a b => a < b) xs) (hy : List.Pairwise (fun a b => a < b) ys) (h : ∀ z, z ∈ xs ↔ z ∈ ys) : xs = ys := by
  induction xs generalizing ys with
  | nil =>
    cases ys with
    | nil => rfl
    | cons y r => exact absurd ((h y).2 (by simp)) (by simp)
  | cons x r ih =>
    cases ys with
    | nil => exact absurd ((h x).1 (by simp)) (by simp)
    | cons y s =>
      rw [List.pairwise_cons] at hx hy
      have hxy : x = y := by
        have h1 := (h x).1 (by simp)
        have h2 := (h y).2 (by simp)
        simp at h1 h2
        rcases h1 with h1 | h1
        · exact h1
        · rcases h2 with h2 | h2
          · exact h2.symm
          · have := hy.1 x h1
            have := hx.1 y h2
            omega
      subst hxy
      congr 1
      refine ih hx.2 hy.2 fun z => ?_
      have hz := h z
      simp at hz
      constructor
      · intro hm
        rcases hz.1 (.inr hm) with e | e
        · subst e; exact absurd (hx.1 z hm) (by omega)
        · exact e
      · intro hm
        rcases hz.2 (.inr hm) with e | e
        · subst e; exact absurd (hy.1 z hm) (by omega)
        · exact e

theorem sorted_pairwise (xs : List Int) : List.Pairwise (fun a b => a ≤ b) (sorted xs) := by
  have h2 : List.Pairwise (fun a b => intLe a b = true) (sorted xs) := List.pairwise_mergeSort (fun a b c => by simp [intLe]; omega) (fun a b => by simp [intLe]; omega) _
  exact h2.imp (fun h => by simpa [intLe] using h)

/-- What is listed, sorted, each once, is what is asked number by number. -/
theorem compact_sorted_eq (xs : List Int) (m : Nat) (p : Int → Bool) (hp : ∀ i : Int, p i = true ↔ i ∈ xs) (hr : ∀ x ∈ xs, 0 ≤ x ∧ x < m) : compact (sorted xs) = ((List.range m).map fun (i : Nat) => (i : Int)).filter p := by
  obtain ⟨h1, h2, _⟩ := rising_of_sorted (sorted xs) (sorted_pairwise xs)
  refine rising_ext h1 ?_ fun z => ?_
  · apply List.Pairwise.filter
    rw [List.pairwise_map]
    exact List.pairwise_lt_range.imp (fun h => by omega)
  · rw [h2, List.mem_filter, hp]
    have hm : z ∈ sorted xs ↔ z ∈ xs := (List.mergeSort_perm xs intLe).mem_iff
    rw [hm]
    constructor
    · intro hz
      refine ⟨?_, hz⟩
      obtain ⟨a, b⟩ := hr z hz
      rw [List.mem_map]
      exact ⟨z.toNat, by simp; omega, by omega⟩
    · exact fun h => h.2
end Go.Proofs.Ythnkikdbllkmkaa
namespace Go.Proofs.Ythnkikdbllkmkaa
set_option linter.unusedVariables false
set_option linter.unusedSimpArgs false

def Op.calls (o : Op) : List Int := if o.rel = true ∧ o.kind = 1 then [o.to] else []
def Term.calls (t : Term) : List Int := if t.kind = 4 then [t.to] else []
def opsCalls (os : List Op) : List Int := os.flatMap Op.calls
def Block.calls (b : Block) : List Int := opsCalls b.ops ++ b.fin.calls
def blocksCalls (bs : List Block) : List Int := bs.flatMap Block.calls
theorem opsCalls_succ {os : List Op} {k : Nat} {o : Op} (h : os[k]? = some o) : opsCalls (os.take (k + 1)) = opsCalls (os.take k) ++ o.calls := by
  unfold opsCalls
  rw [take_snoc h, List.flatMap_append]
  simp
theorem blocksCalls_succ {bs : List Block} {k : Nat} {b : Block} (h : bs[k]? = some b) : blocksCalls (bs.take (k + 1)) = blocksCalls (bs.take k) ++ (opsCalls b.ops ++ b.fin.calls) := by
  unfold blocksCalls
  rw [take_snoc h, List.flatMap_append]
  simp [Block.calls]
theorem opsCalls_len (os : List Op) : (opsCalls os).length ≤ os.length := by
  unfold opsCalls
  induction os with
  | nil => simp
  | cons o r ih =>
    rw [List.flatMap_cons, List.length_append, List.length_cons]
    have : (Op.calls o).length ≤ 1 := by unfold Op.calls; split <;> simp
    omega
theorem blocksCalls_len (bs : List Block) (h : ∀ b ∈ bs, b.ops.length ≤ 300) : (blocksCalls bs).length ≤ 301 * bs.length := by
  unfold blocksCalls
  induction bs with
  | nil => simp
  | cons b r ih =>
    rw [List.flatMap_cons, List.length_append, List.length_cons]
    have h1 := opsCalls_len b.ops
    have h2 := h b (by simp)
    have h3 : (Block.calls b).length ≤ 301 := by
      unfold Block.calls Term.calls
      rw [List.length_append]
      split <;> simp <;> omega
    have h4 := ih (fun b' hb' => h b' (by simp [hb']))
    omega
theorem blocksFew_parts {bs : List Block} (h : blocksFew bs = true) : bs.length ≤ 200 ∧ ∀ b ∈ bs, b.ops.length ≤ 300 := by
  unfold blocksFew at h
  rw [Bool.and_eq_true, decide_eq_true_eq, List.all_eq_true] at h
  refine ⟨h.2, fun b hb => ?_⟩
  have := h.1 b (by rw [List.take_of_length_le (by omega)]; exact hb)
  simpa using this
theorem blocksCalls_few {bs : List Block} (h : blocksFew bs = true) (k : Nat) : (blocksCalls (bs.take k)).length ≤ 60200 := by
  obtain ⟨h1, h2⟩ := blocksFew_parts h
  have h3 := blocksCalls_len (bs.take k) (fun b hb => h2 b (List.mem_of_mem_take hb))
  have h4 : (bs.take k).length ≤ 200 := Nat.le_trans (by simp [List.length_take]; omega) h1
  omega

theorem Op.right_to {o : Op} {funcs datas : Int} (h : o.right funcs datas = true) : ∀ x ∈ o.calls, 0 ≤ x ∧ x < funcs := by
  intro x hx
  unfold Op.calls at hx
  split at hx
  · rename_i hc
    simp at hx
    subst hx
    unfold Op.right at h
    simp only [hc.1, hc.2] at h
    repeat' split at h
    all_goals simp_all
    all_goals omega
  · simp at hx
theorem Term.right_to {t : Term} {blocks funcs : Int} (h : t.right blocks funcs = true) : ∀ x ∈ t.calls, 0 ≤ x ∧ x < funcs := by
  intro x hx
  unfold Term.calls at hx
  split at hx
  · rename_i hc
    simp at hx
    subst hx
    unfold Term.right at h
    rw [if_neg (by omega), if_pos hc] at h
    simp at h
    omega
  · simp at hx
theorem blocksRight_calls {bs : List Block} {funcs datas : Int} (h : blocksRight bs funcs datas = true) : ∀ x ∈ blocksCalls bs, 0 ≤ x ∧ x < funcs := by
  intro x hx
  unfold blocksCalls at hx
  rw [List.mem_flatMap] at hx
  obtain ⟨b, hb, hx⟩ := hx
  unfold blocksRight at h
  rw [Bool.and_eq_true, List.all_eq_true] at h
  have hr := h.1 b hb
  unfold Block.right at hr
  rw [Bool.and_eq_true, List.all_eq_true] at hr
  unfold Block.calls at hx
  rw [List.mem_append] at hx
  rcases hx with hx | hx
  · unfold opsCalls at hx
    rw [List.mem_flatMap] at hx
    obtain ⟨o, ho, hx⟩ := hx
    exact Op.right_to (hr.1 o ho) x hx
  · exact Term.right_to hr.2 x hx

/-- What calls.Of answers. -/
def ofList (bs : List Block) : List Int := compact (sorted (blocksCalls bs))
def callsB (bs : List Block) (x : Int) : Bool := decide (x ∈ blocksCalls bs)
/-- What the document's Of answers. -/
def refOf (bs : List Block) (n : Nat) : List Int := ((List.range n).map fun (i : Nat) => (i : Int)).filter (callsB bs)
theorem ofList_eq {bs : List Block} {n : Nat} {datas : Int} (h : blocksRight bs n datas = true) : ofList bs = refOf bs n :=
  compact_sorted_eq (blocksCalls bs) n (callsB bs) (fun i => by simp [callsB]) (fun x hx => blocksRight_calls h x hx)
theorem mem_ofList {bs : List Block} {x : Int} : x ∈ ofList bs ↔ x ∈ blocksCalls bs := by
  unfold ofList
  rw [(rising_of_sorted (sorted (blocksCalls bs)) (sorted_pairwise _)).2.1 x]
  exact (List.mergeSort_perm _ intLe).mem_iff
end Go.Proofs.Ythnkikdbllkmkaa
namespace Go.Proofs.Ythnkikdbllkmkaa
set_option linter.unusedVariables false
set_option linter.unusedSimpArgs false
open Go.RowKit

/-- Of blocks apart from the slice's own: none has turned, and the new slice is apart from them, too. -/
def StaysApart (w w' : World) (v v' : Value) : Prop := ∀ b, b < w.heap.size → v.ownBlock ≠ some b → (∀ i, w'.cell? ⟨b, i, none⟩ = w.cell? ⟨b, i, none⟩) ∧ v'.ownBlock ≠ some b

theorem wpList_append_one2 {ops : Array Oper} {rest : List Oper} {o : Oper} {a : Act} {Q : Exit → Act → World → Prop} (hgd : o.guard = none) (s x : Operand)
    (ho : o.op = .call { callee := .builtin .append, args := #[s, x], argTypes := #[29, 29] }) {w : World} (base : Nat) {v : Value} {xs : List Int} {y : Int} (hown : OwnI w base v xs) (hs : a.eval s = v) (hx : a.eval x = .slice (some ⟨w.heap.size, 0, none⟩) 1 1)
    (hl : xs.length ≤ 1099511627776) (hb : base ≤ w.heap.size)
    (h : ∀ v' w', OwnI w' base v' (xs ++ [y]) → Below base w w' → StaysApart w w' v v' → wpList Try.prog ops Q rest (a.put o.dst v') w') : wpList Try.prog ops Q (o :: rest) a (w.alloc (.cells #[.int .i64 y] 3)) := by
  obtain ⟨i0, hi, hz0, hz1, hz2⟩ := info_parts infoInt
  refine wpList_append_own_at _ hgd s x 29 ho base 3 i0 (.int .i64 0) 1 8 Try.underlying29 hi hz0 hz1 hz2 rfl (by decide) v xs.length (xs.map (Value.int .i64)) hs (World.ownsRow.alloc hown _) ⟨w.heap.size, 0, none⟩ 1 1 [.int .i64 y] hx rfl ?_ ?_ (by unfold maxLen; omega) (by omega) (by simp; omega) ?_
  · intro j u hj
    cases j with
    | zero => simp at hj; subst hj; simp [Addr.add]
    | succ j => simp at hj
  · intro u hu; simp at hu; subst hu; rfl
  · intro v' w' ho hg _ hv
    refine h v' w' ?_ ?_ ?_
    · unfold OwnI
      simpa using ho
    · have hb2 := (Below.refl base (w.alloc (.cells #[.int .i64 y] 3))).grown hg (by simp; omega) (fun k hk => (hown.block k hk).1)
      exact (((Below.refl base w).alloc hb _)).trans hb2
    · intro b hbl hne
      refine ⟨fun i => ?_, ?_⟩
      · have h1 : w'.heap[b]? = (w.alloc (.cells #[.int .i64 y] 3)).heap[b]? := hg.block b (by simp; omega) (fun e => hne e.symm)
        have h2 : (w.alloc (.cells #[.int .i64 y] 3)).heap[b]? = w.heap[b]? := ((Below.refl w.heap.size w).alloc (Nat.le_refl _) _).block b hbl
        exact World.cell?_of_block (a := ⟨b, i, none⟩) (h1.trans h2)
      · rcases hv with hv | hv
        · rw [hv]; exact hne
        · rw [hv]
          intro e
          injection e with e
          simp at e
          omega
end Go.Proofs.Ythnkikdbllkmkaa
namespace Go.Proofs.Ythnkikdbllkmkaa
set_option linter.unusedVariables false
set_option linter.unusedSimpArgs false
open Go.RowKit

/-- Block number g is a row of these bools. -/
def RowB (w : World) (g : Nat) (bs : List Bool) : Prop := w.heap[g]? = some (.cells (bs.map Value.bool).toArray 4 (0, 0))
theorem RowB.lt {w : World} {g : Nat} {bs : List Bool} (h : RowB w g bs) : g < w.heap.size := (Array.getElem?_eq_some_iff.1 h).1
theorem RowB.cell {w : World} {g : Nat} {bs : List Bool} (h : RowB w g bs) {i : Nat} {b : Bool} (hi : bs[i]? = some b) : w.cell? ⟨g, i, none⟩ = some (.bool b) := by
  rw [cell_of_row w g i _ _ _ h]
  simp [hi]
theorem RowB.frozen {w : World} {g : Nat} {bs : List Bool} (h : RowB w g bs) (i : Nat) : w.frozen? ⟨g, i, none⟩ = false := frozen_of_row w g i _ _ h
theorem RowB.below {w w' : World} {g : Nat} {bs : List Bool} (h : RowB w g bs) (hb : Below w.heap.size w w') : RowB w' g bs := by
  unfold RowB
  rw [hb.block g h.lt]
  exact h
theorem RowB.apart {w w' : World} {g : Nat} {bs : List Bool} {r : Option Nat} (h : RowB w g bs) (hg : w.grownBy w' r) (hne : r ≠ some g) : RowB w' g bs := by
  unfold RowB
  rw [hg.block g h.lt (fun e => hne e.symm)]
  exact h
theorem RowB.set {w : World} {g : Nat} {bs : List Bool} (h : RowB w g bs) (i : Nat) (b : Bool) : RowB (w.setCell ⟨g, i, none⟩ (.bool b)) g (bs.set i b) ∧ w.grownBy (w.setCell ⟨g, i, none⟩ (.bool b)) (some g) := by
  refine ⟨?_, ⟨rfl, rfl, rfl, by simp, fun k _ hk => heap_setCell_other w ⟨g, i, none⟩ k _ (fun e => hk (by simp [e]))⟩⟩
  unfold RowB
  rw [heap_setCell_same w g i _ _ _ h]
  congr 1
  congr 1
  apply Array.toList_inj.1
  simp
theorem RowB.alloc {w : World} {g : Nat} {bs : List Bool} (h : RowB w g bs) (o : Obj) : RowB (w.alloc o) g bs := h.below ((Below.refl _ _).alloc (Nat.le_refl _) _)

theorem infoBool : (Try.prog.info? 4).map (fun i => (i.zero, i.size, i.bytes)) = some (some (.bool false), 1, 1) := by kernel_rfl
set_option maxRecDepth 100000 in
theorem make_bools (n : Nat) (hn : n ≤ 1000000) (w : World) : ∃ w', (Instr.makeSlice 33 (.int .i64 (n : Int)) (.int .i64 (n : Int))).run Try.prog w = .ok (.slice (some ⟨w.heap.size, 0, none⟩) n n) w' ∧ RowB w' w.heap.size (List.replicate n false) ∧ Below w.heap.size w w' ∧ w'.heap.size = w.heap.size + 1 := by
  obtain ⟨i0, hi, hz0, hz1, hz2⟩ := info_parts infoBool
  have h := run_make (P := Try.prog) w 33 4 i0 (.bool false) Try.underlying33 hi hz0 .i64 .i64 n n (by omega) (Int.le_refl _) (by rw [hz2]; omega) (by omega)
  refine ⟨_, h, ?_, (Below.refl _ _).alloc (Nat.le_refl _) _, by simp⟩
  unfold RowB
  rw [heap_alloc_new]
  congr 1
  congr 1
  apply Array.toList_inj.1
  rw [hz1]
  simp only [Int.toNat_natCast, Nat.mul_one]
  apply List.ext_getElem?
  intro j
  by_cases hj : j < n
  · simp [madeCells, hj, List.getElem?_replicate, Value.cells, Nat.mod_one]
  · simp [madeCells, hj, List.getElem?_replicate]

theorem grown_trans {w w1 w2 : World} {r : Option Nat} (h : w.grownBy w1 r) (k : w1.grownBy w2 r) : w.grownBy w2 r :=
  ⟨k.os.trans h.os, k.tape.trans h.tape, k.output.trans h.output, Nat.le_trans h.size k.size, fun i hi hn => (k.block i (Nat.lt_of_lt_of_le hi h.size) hn).trans (h.block i hi hn)⟩
theorem grown_refl (w : World) (r : Option Nat) : w.grownBy w r := ⟨rfl, rfl, rfl, Nat.le_refl _, fun _ _ _ => rfl⟩
theorem grown_below {w w1 : World} {r : Option Nat} (h : Below w.heap.size w w1) : w.grownBy w1 r := ⟨h.os, h.tape, h.output, h.size, fun k hk _ => h.block k hk⟩
end Go.Proofs.Ythnkikdbllkmkaa
