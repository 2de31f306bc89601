/- The library's Sort, Compact and DeleteFunc over ints of the call's own: what each leaves. -/
import Derived.Test.YtobhjjbhlnbcpaaWa
import Derived.Test.YtobhjjbhlnbcpaaChecked
import Derived.Test.YtobhjjbhlnbcpaaSh
import Derived.Sort.OwnSortedInts
import Derived.Lib.RowBridge
namespace Go.Proofs.Ytobhjjbhlnbcpaa
set_option linter.unusedVariables false
set_option linter.unusedSimpArgs false
open Go.RowKit Go.Sort Go.Shelf

/-- A slice of ints of the call's own, from block number base on. -/
def OwnI (w : World) (base : Nat) (v : Value) (xs : List Int) : Prop := w.ownsRow base 3 1 v xs.length (xs.map (Value.int .i64))

theorem OwnI.nil (w : World) (base : Nat) : OwnI w base (.slice none 0 0) [] := World.ownsRow_nil w base 3 1
theorem OwnI.cases {w : World} {base : Nat} {v : Value} {xs : List Int} (h : OwnI w base v xs) : (v = .slice none 0 0 ∧ xs = []) ∨ ∃ g cap cur, v = .slice (some ⟨g, 0, none⟩) xs.length cap ∧ base ≤ g ∧ w.heap[g]? = some (.cells cur 3 (0, 0)) ∧ xs.length ≤ cap ∧ cap ≤ maxLen ∧ cur.size = cap ∧ cur.toList.take xs.length = xs.map (Value.int .i64) := by
  obtain ⟨_, h | ⟨g, cap, cur, h1, h2, h3, h4, h5, h6, h7⟩⟩ := h
  · exact .inl ⟨h.1, List.eq_nil_of_length_eq_zero h.2⟩
  · exact .inr ⟨g, cap, cur, h1, h2, h3, h4, h5, by simpa using h6, by simpa using h7⟩

theorem OwnI.mk {w : World} {base g cap : Nat} {cur : Array Value} {xs : List Int} (h2 : base ≤ g) (h3 : w.heap[g]? = some (.cells cur 3 (0, 0))) (h4 : xs.length ≤ cap) (h5 : cap ≤ maxLen) (h6 : cur.size = cap) (h7 : cur.toList.take xs.length = xs.map (Value.int .i64)) : OwnI w base (.slice (some ⟨g, 0, none⟩) xs.length cap) xs :=
  ⟨by simp, .inr ⟨g, cap, cur, rfl, h2, h3, h4, h5, by simpa using h6, by simpa using h7⟩⟩

def intLe (x y : Int) : Bool := decide (x ≤ y)
def sorted (xs : List Int) : List Int := xs.mergeSort intLe
theorem sorted_length (xs : List Int) : (sorted xs).length = xs.length := List.length_mergeSort xs

/-- What a call that writes a row of one's own leaves: the slice that it hands back, the row's new content. -/
def Wrote (w : World) (base : Nat) (v : Value) (xs : List Int) (e : Ending) (w' : World) : Prop := ∃ v', e = .returned v' ∧ OwnI w' base v' xs ∧ w.grownBy w' v.ownBlock ∧ v'.ownBlock = v.ownBlock

theorem sort_calls {w : World} {base : Nat} {v : Value} {xs : List Int} (h : OwnI w base v xs) (hl : xs.length < 4611686018427387904) : Calls Try.prog 57 #[v] w fun e w' => e = .returned (.tuple #[]) ∧ OwnI w' base v (sorted xs) ∧ w.grownBy w' v.ownBlock := by
  rcases h.cases with ⟨rfl, rfl⟩ | ⟨g, cap, cur, rfl, h2, h3, h4, h5, h6, h7⟩
  · have hc := AnyM.slices_Sort_int_none Try.sortI none 0 w
    change Calls Try.prog 57 _ _ _ at hc
    refine hc.mono ?_
    rintro e w' ⟨rfl, rfl⟩
    exact ⟨rfl, by simpa [sorted] using OwnI.nil w' base, ⟨rfl, rfl, rfl, Nat.le_refl _, fun _ _ _ => rfl⟩⟩
  · have hc := AnyM.slices_Sort_int Try.sortI g 0 cap xs w (holds_of_blockI h3 (by simpa using h7)) (Array.getElem?_eq_some_iff.1 h3).1 hl
    change Calls Try.prog 57 _ _ _ at hc
    refine hc.mono ?_
    rintro e w' ⟨rfl, n, os, rfl⟩
    refine ⟨rfl, ?_, grownBy_sortedI _⟩
    have := ownsRow_sortedI (n := n) (os := os) (ts := sorted xs) (sorted_length xs) h2 h3 h4 h5 (by simpa using h6)
    unfold OwnI
    rw [sorted_length]
    exact this

theorem zeroInt (w : World) : (zeroValue 3).run Try.prog w = .ok (.int .i64 0) w := by kernel_rfl

theorem putRow_own {w : World} {base g cap n : Nat} {cur : Array Value} {xs ys : List Int} (h2 : base ≤ g) (h3 : w.heap[g]? = some (.cells cur 3 (0, 0))) (h4 : xs.length ≤ cap) (h5 : cap ≤ maxLen) (h6 : cur.size = cap) (hl : ys.length ≤ xs.length) :
    OwnI (putRow (Value.int .i64) (Sort.ahead w n) g 0 (ys ++ List.replicate (xs.length - ys.length) (0 : Int)).toArray) base (.slice (some ⟨g, 0, none⟩) ys.length cap) ys ∧ w.grownBy (putRow (Value.int .i64) (Sort.ahead w n) g 0 (ys ++ List.replicate (xs.length - ys.length) (0 : Int)).toArray) (some g) := by
  have hh := heap_sortedI (n := n) (os := #[]) (ys ++ List.replicate (xs.length - ys.length) (0 : Int)).toArray h3
  have hg := grownBy_sortedI (w := w) (g := g) (n := n) (os := #[]) (ys ++ List.replicate (xs.length - ys.length) (0 : Int)).toArray
  rw [grow_empty] at hh hg
  refine ⟨OwnI.mk h2 hh (by omega) h5 (by simp [putCells, h6]) ?_, hg⟩
  have ht := take_putCellsI cur (ys ++ List.replicate (xs.length - ys.length) (0 : Int)) (by simp; omega)
  have := congrArg (List.take ys.length) ht
  rw [List.take_take] at this
  simpa [Nat.min_eq_left, hl] using this

def compact (xs : List Int) : List Int := Go.Lib.compact xs
set_option maxHeartbeats 400000 in
theorem compact_calls {w : World} {base : Nat} {v : Value} {xs : List Int} (h : OwnI w base v xs) (hl : xs.length < 4611686018427387904) : Calls Try.prog 58 #[v] w (Wrote w base v (compact xs)) := by
  rcases h.cases with ⟨rfl, rfl⟩ | ⟨g, cap, cur, rfl, h2, h3, h4, h5, h6, h7⟩
  · have hn : Wrote w base (.slice none 0 0) (compact []) (.returned (.slice none 0 0)) w := ⟨_, rfl, by simpa [compact, Go.Lib.compact, Go.Lib.compactUpTo] using OwnI.nil w base, ⟨rfl, rfl, rfl, Nat.le_refl _, fun _ _ _ => rfl⟩, rfl⟩
    have HN := Lib.hid hn
    clear hn
    go_enter Try.func58, Try.ntmps58
    go_wp2
    go_ret
    exact HN.out
  · have hc := AnyE.slices_Compact Try.compactI (Value.int .i64) (fun _ => rfl) (EqlAt.intD _ _ _) (NeqAt.intD _ _ _) (0 : Int) zeroInt g 0 cap xs.toArray w (holds_of_blockI h3 (by simpa using h7)) (by simp; omega) (by simpa using h4)
    change Calls Try.prog 58 _ _ _ at hc
    refine Calls.mono (by simpa using hc) ?_
    rintro e w' ⟨rfl, q, rfl⟩
    have hlen : (Go.Lib.compactUpTo xs.toArray xs.length).length ≤ xs.length := Go.Lib.compact_length_le xs
    obtain ⟨h8, h9⟩ := putRow_own (n := q) (ys := Go.Lib.compactUpTo xs.toArray xs.length) h2 h3 h4 h5 h6 hlen
    exact ⟨_, rfl, h8, h9, rfl⟩

/-- The literal that tells which registers are 0. -/
theorem isZero_gives (W : World) (x : Int) : FnGives Try.prog 60 #[] #[.int .i64 x] (.bool (x == 0)) W := by
  unfold FnGives
  go_enter Try.func60, Try.ntmps60
  go_wp2
  go_ret
  exact ⟨rfl, 0, rfl⟩

def noZero (xs : List Int) : List Int := xs.filter fun x => !(x == 0)
set_option maxHeartbeats 400000 in
theorem delete_calls {w : World} {base : Nat} {v : Value} {xs : List Int} (h : OwnI w base v xs) (hl : xs.length < 4611686018427387904) : Calls Try.prog 59 #[v, .func (.func 60) #[] #[]] w (Wrote w base v (noZero xs)) := by
  rcases h.cases with ⟨rfl, rfl⟩ | ⟨g, cap, cur, rfl, h2, h3, h4, h5, h6, h7⟩
  · have hn : Wrote w base (.slice none 0 0) (noZero []) (.returned (.slice none 0 0)) w := ⟨_, rfl, by simpa [noZero] using OwnI.nil w base, ⟨rfl, rfl, rfl, Nat.le_refl _, fun _ _ _ => rfl⟩, rfl⟩
    have HN := Lib.hid hn
    clear hn
    have hc : ∀ fv W, Calls Try.prog 69 #[.slice none 0 0, fv] W fun e w' => e = .returned (.int .i64 (-1)) ∧ w' = W := fun fv W => AnyE.slices_IndexFunc_empty (P := Try.prog) (ρ := Try.deleteI_ren) { Try.deleteI with } none 0 fv W
    go_enter Try.func59, Try.ntmps59
    go_wp2_with (go_at_call 69; refine (hc _ _).mono ?_; rintro e w' ⟨rfl, rfl⟩)
    go_ret
    exact HN.out
  · have hc := AnyE.slices_DeleteFunc Try.deleteI (Value.int .i64) (fun _ => rfl) (fun x => x == 0) 60 #[] (enters_of Try.func60 (by kernel_rfl) rfl) (0 : Int) zeroInt g 0 cap xs.toArray w (fun W x _ => isZero_gives W x) (fun n os dk x _ => isZero_gives _ x) (holds_of_blockI h3 (by simpa using h7)) (by simp; omega) (by simpa using h4)
    change Calls Try.prog 59 _ _ _ at hc
    have hlen : (noZero xs).length ≤ xs.length := List.length_filter_le _ _
    obtain ⟨hq⟩ : Nonempty (∀ q, OwnI (putRow (Value.int .i64) (Sort.ahead w q) g 0 (noZero xs ++ List.replicate (xs.length - (noZero xs).length) (0 : Int)).toArray) base (.slice (some ⟨g, 0, none⟩) (noZero xs).length cap) (noZero xs) ∧ w.grownBy (putRow (Value.int .i64) (Sort.ahead w q) g 0 (noZero xs ++ List.replicate (xs.length - (noZero xs).length) (0 : Int)).toArray) (some g)) := ⟨fun q => putRow_own (n := q) (ys := noZero xs) h2 h3 h4 h5 h6 hlen⟩
    refine Calls.mono hc ?_
    rintro e w' ⟨rfl, q, rfl⟩
    obtain ⟨h8, h9⟩ := hq q
    exact ⟨_, rfl, h8, h9, rfl⟩
end Go.Proofs.Ytobhjjbhlnbcpaa
