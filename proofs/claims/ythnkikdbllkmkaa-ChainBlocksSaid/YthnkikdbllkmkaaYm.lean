/- slices.SortStableFunc over fewer than 20 numbers; a row of numbers behind a sort. -/
import Derived.Test.YthnkikdbllkmkaaYl
import Derived.Test.YthnkikdbllkmkaaSj
namespace Go.Proofs.Ythnkikdbllkmkaa
set_option linter.unusedVariables false
set_option linter.unusedSimpArgs false
open Go.RowKit Go.Lib
open Go.Sort (grow putRow Holds putCells mapBlock onCells heap_grow_old insertionSort)

def encF {m : Nat} (x : Fin m) : Value := .int .i64 (x.1 : Int)
theorem encF_one {m : Nat} : OneCell (encF (m := m)) := fun _ => rfl
/-- What a slice of numbers owns: its row alone. -/
theorem OwnF.nums {T : TypeId} {w : World} {v : Value} {xs : List Nat} {F : Nat → Prop} (h : OwnF oN T w v xs F) : w.ownsRow 0 T 1 v xs.length (xs.map (fun x : Nat => Value.int .i64 (x : Int))) ∧ ∀ b, F b ↔ v.ownBlock = some b := by
  obtain ⟨css, Fs, h1, h2, h3, h4, h5, h6⟩ := h.ex
  have hc : css.flatten = xs.map (fun x : Nat => Value.int .i64 (x : Int)) := by
    have : css = xs.map (fun x : Nat => [Value.int .i64 (x : Int)]) := by
      apply List.ext_getElem?
      intro i
      by_cases hi : i < xs.length
      · obtain ⟨x, hx⟩ := get_some xs i hi
        obtain ⟨cs, hcs⟩ := get_some css i (by omega)
        obtain ⟨-, hk⟩ := h2 i x cs hx hcs
        have hk' : cs = [.int .i64 (x : Int)] := hk
        rw [hcs, hk']
        simp [hx]
      · rw [List.getElem?_eq_none (by omega), List.getElem?_eq_none (by simp; omega)]
    rw [this]
    clear h1 h2 h3 h4 h5 h6 this h
    induction xs with
    | nil => rfl
    | cons a r ih => rw [List.map_cons, List.flatten_cons, ih]; rfl
  rw [hc] at h3
  refine ⟨h3, fun b => ⟨fun hb => ?_, fun hb => (h6 b).2 (.inl hb)⟩⟩
  rcases (h6 b).1 hb with e | ⟨i, hi, hf⟩
  · exact e
  · obtain ⟨x, hx⟩ := get_some xs i hi
    obtain ⟨cs, hcs⟩ := get_some css i (by omega)
    exact absurd hf ((h2 i x cs hx hcs).1 b)
theorem OwnF.ofNums {T : TypeId} {w : World} {v : Value} {xs : List Nat} {F : Nat → Prop} (h : w.ownsRow 0 T 1 v xs.length (xs.map (fun x : Nat => Value.int .i64 (x : Int)))) (hF : ∀ b, F b ↔ v.ownBlock = some b) : OwnF oN T w v xs F := by
  have hc : (xs.map (fun x : Nat => [Value.int .i64 (x : Int)])).flatten = xs.map (fun x : Nat => Value.int .i64 (x : Int)) := by
    clear h
    induction xs with
    | nil => rfl
    | cons a r ih => rw [List.map_cons, List.flatten_cons, ih]; rfl
  refine ⟨xs.map (fun x : Nat => [Value.int .i64 (x : Int)]), fun _ _ => False, by simp, fun i x cs hx hcs => ⟨fun b hb => hb, ?_⟩, by rw [hc]; exact h, fun i j b _ _ _ hf => hf.elim, fun i b _ hf => hf.elim, fun b => ?_⟩
  · rw [List.getElem?_map, hx] at hcs
    injection hcs with hcs
    exact hcs.symm
  · rw [hF b]
    exact ⟨.inl, fun h => h.elim id (fun ⟨_, _, hf⟩ => hf.elim)⟩
/-- Behind a sort of all but the first the same slice owns what it holds. -/
theorem sortedN {m : Nat} [Inhabited (Fin m)] {w : World} {g cap q : Nat} {T : TypeId} {os : Array Obj} {e : Nat} {xs ts : List (Fin m)} (hl : ts.length = xs.length) (h : w.ownsRow 0 T 1 (.slice (some ⟨g, 0, none⟩) (xs.length + 1) cap) (xs.length + 1) ((e :: xs.map Fin.val).map (fun x : Nat => Value.int .i64 (x : Int)))) :
    (sortWorld encF w g 1 q ts.toArray os).ownsRow 0 T 1 (.slice (some ⟨g, 0, none⟩) (xs.length + 1) cap) (xs.length + 1) ((e :: ts.map Fin.val).map (fun x : Nat => Value.int .i64 (x : Int))) ∧ w.grownBy (sortWorld encF w g 1 q ts.toArray os) (some g) := by
  obtain ⟨h0, ⟨hn, -⟩ | ⟨g', cap', cur, hv, -, hb, h1, h2, h3, h4⟩⟩ := h
  · cases hn
  · injection hv with hv1 hv2 hv3
    injection hv1 with hv1
    injection hv1 with hv1
    subst hv1 hv3
    have hg : g < w.heap.size := (Array.getElem?_eq_some_iff.1 hb).1
    have hheap : (sortWorld encF w g 1 q ts.toArray os).heap[g]? = some (.cells (putCells encF 1 ts.toArray cur) T (0, 0)) := by
      unfold sortWorld
      rw [heap_grow_old _ _ (by simpa [putRow, mapBlock, Go.Sort.ahead] using hg)]
      simp [putRow, mapBlock, Go.Sort.ahead, Array.getElem?_modify, hb, onCells]
    refine ⟨⟨by simp [hl], .inr ⟨g, cap, _, rfl, Nat.zero_le _, hheap, h1, h2, by simp [putCells, h3], ?_⟩⟩, rfl, rfl, rfl, by simp [sortWorld, grow, putRow, mapBlock, Go.Sort.ahead], fun k hk hne => ?_⟩
    · apply List.ext_getElem?
      intro j
      have h4j : ∀ j : Nat, (cur.toList.take ((xs.length + 1) * 1))[j]? = (((e :: xs.map Fin.val).map (fun x : Nat => Value.int .i64 (x : Int))))[j]? := fun j => by rw [h4]
      by_cases hj : j < xs.length + 1
      · have hjc : j < cur.size := by omega
        rw [List.getElem?_take_of_lt (by omega), Array.getElem?_toList]
        simp only [putCells, Array.getElem?_mapIdx, Array.getElem?_eq_getElem hjc, Option.map_some]
        cases j with
        | zero =>
          rw [if_neg (by omega)]
          have := h4j 0
          rw [List.getElem?_take_of_lt (by omega), Array.getElem?_toList, Array.getElem?_eq_getElem hjc] at this
          simpa using this
        | succ i =>
          have hi : i < ts.length := by omega
          rw [if_pos (by simp; omega)]
          simp [hi, encF]
      · rw [List.getElem?_take_eq_none (by omega), List.getElem?_eq_none (by simp; omega)]
    · unfold sortWorld
      rw [heap_grow_old _ _ (by simpa [putRow, mapBlock, Go.Sort.ahead] using hk)]
      have : g ≠ k := fun e => hne (by rw [e])
      simp [putRow, mapBlock, Go.Sort.ahead, Array.getElem?_modify, this]
theorem holdsN {m : Nat} [Inhabited (Fin m)] {w : World} {g cap : Nat} {T : TypeId} {e : Nat} {xs : List (Fin m)} (h : w.ownsRow 0 T 1 (.slice (some ⟨g, 0, none⟩) (xs.length + 1) cap) (xs.length + 1) ((e :: xs.map Fin.val).map (fun x : Nat => Value.int .i64 (x : Int)))) : Holds encF w g 1 xs.toArray := by
  intro j hj
  have hj' : j < xs.length := by simpa using hj
  refine ⟨?_, h.frozenAt (1 + j)⟩
  have hu : ((e :: xs.map Fin.val).map (fun x : Nat => Value.int .i64 (x : Int)))[j + 1]? = some (encF xs.toArray[j]!) := by
    simp [hj', encF]
  have := h.cells rfl (j + 1) _ hu
  rw [show (⟨g, 0, none⟩ : Addr).add (j + 1) = ⟨g, 1 + j, none⟩ from by
    unfold Addr.add
    rw [if_neg (by omega)]
    simp
    omega] at this
  exact this

set_option maxHeartbeats 2000000 in
set_option maxRecDepth 100000 in
theorem stable_in {m : Nat} [Inhabited (Fin m)] (cf : Fin m → Fin m → Int) (g : Nat) (cb : Array Value) (blk off cap : Nat) (d : Array (Fin m)) (w : World)
    (eg : ∀ args w, (callFunc g args).run Try.prog w = .ok (.enter g args) w) (hcmp : CmpLays1 Try.prog g cb encF cf blk off d.size w) (R : Row1 encF w blk off d) (hn : d.size < 20) :
    Calls Try.prog 41 #[.slice (some ⟨blk, off, none⟩) d.size cap, .int .i64 (d.size : Int), .func (.func g) #[] cb] w fun e w' => e = .returned (.tuple #[]) ∧ SW encF w blk off (insertionSort (ltOf cf) d 0 d.size) w' := by
  have S0 : SW encF w blk off d w := ⟨0, #[], by
    unfold sortWorld
    rw [Go.Sort.grow_empty, Go.Sort.ahead_zero]
    exact (Go.Sort.putRow_self encF w blk off d R.hH).symm⟩
  have hi := Any.insertionSortCmpFunc_s Try.insI encF cf g cb blk off cap 0 d.size d d w w eg hcmp R rfl S0 (Nat.zero_le _) (Nat.le_refl _) (by omega)
  change Calls Try.prog 49 #[.slice (some ⟨blk, off, none⟩) d.size cap, .int .i64 0, .int .i64 (d.size : Int), .func (.func g) #[] cb] w _ at hi
  generalize insertionSort (ltOf cf) d 0 d.size = dd at *
  have HI := Lib.hid hi
  have HS := Lib.hid R
  have hz1 : ¬ (20 ≤ d.size) := by omega
  have hz2 : ¬ (20 < d.size) := by omega
  clear hi R S0 hcmp
  go_enter Try.func41, Try.ntmps41
  go_wp2_with fail
  refine wp_loop_rounds 1 ?_
  rw [rounds_succ]
  go_wp2_with fail
  refine HI.out.mono ?_
  rintro e w' ⟨rfl, hsw⟩
  have HSW := Lib.hid hsw
  clear hsw
  go_wp2_with fail
  refine wp_loop_rounds 1 ?_
  rw [rounds_succ]
  go_wp2_with fail
  go_end0
  exact ⟨rfl, HSW.out⟩
theorem stable_small {m : Nat} [Inhabited (Fin m)] (cf : Fin m → Fin m → Int) (g : Nat) (cb : Array Value) (blk off cap : Nat) (d : Array (Fin m)) (w : World)
    (eg : ∀ args w, (callFunc g args).run Try.prog w = .ok (.enter g args) w) (hcmp : CmpLays1 Try.prog g cb encF cf blk off d.size w) (R : Row1 encF w blk off d) (hn : d.size < 20) :
    Calls Try.prog 23 #[.slice (some ⟨blk, off, none⟩) d.size cap, .func (.func g) #[] cb] w fun e w' => e = .returned (.tuple #[]) ∧ SW encF w blk off (insertionSort (ltOf cf) d 0 d.size) w' := by
  have HI := Lib.hid (stable_in cf g cb blk off cap d w eg hcmp R hn)
  clear eg hcmp R
  generalize insertionSort (ltOf cf) d 0 d.size = dd at *
  go_enter Try.func23, Try.ntmps23
  go_wp2_with fail
  refine HI.out.mono ?_
  rintro e w' ⟨rfl, hsw⟩
  have HSW := Lib.hid hsw
  clear hsw
  go_wp2_with fail
  go_end0
  exact ⟨rfl, HSW.out⟩
end Go.Proofs.Ythnkikdbllkmkaa
