/- What is known of registers: as a plain value, as a row of cells, in rows; when two are alike. -/
import Derived.Test.YtokkngfgppikkabGc
import Derived.Deep.MidRow
import Derived.DeepKeys
namespace Go.Proofs.Ytokkngfgppikkab
set_option linter.unusedVariables false
set_option linter.unusedSimpArgs false
open Go.RowKit

structure Known where
  reached : Bool
  is : List Bool
  w : List Nat
  deriving DecidableEq
def Known.wf (k : Known) : Prop := k.is.length = 16 ∧ k.w.length = 16 ∧ ∀ x ∈ k.w, x < 4294967296
def Known.zero : Known := ⟨false, List.replicate 16 false, List.replicate 16 0⟩
theorem Known.zero_wf : Known.zero.wf := ⟨rfl, rfl, fun x hx => by have := (List.mem_replicate.1 hx).2; omega⟩
def knownCells (k : Known) : List Value := .bool k.reached :: (k.is.map Value.bool ++ k.w.map fun (x : Nat) => Value.int .u32 (x : Int))
theorem knownCells_len {k : Known} (h : k.wf) : (knownCells k).length = 33 := by
  unfold knownCells
  simp [h.1, h.2.1]
theorem knownCells_one (k : Known) : ∀ v ∈ knownCells k, v.oneCell' = true := by
  intro v hv
  unfold knownCells at hv
  rw [List.mem_cons, List.mem_append, List.mem_map, List.mem_map] at hv
  rcases hv with rfl | ⟨x, _, rfl⟩ | ⟨x, _, rfl⟩ <;> rfl
theorem knownCells_is {k : Known} {i : Nat} {b : Bool} (hi : k.is[i]? = some b) : (knownCells k)[1 + i]? = some (.bool b) := by
  have hl := (List.getElem?_eq_some_iff.1 hi).1
  unfold knownCells
  rw [Nat.add_comm, List.getElem?_cons_succ, List.getElem?_append_left (by simpa using hl), List.getElem?_map, hi]
  rfl
theorem knownCells_w {k : Known} (h : k.wf) {i x : Nat} (hi : k.w[i]? = some x) : (knownCells k)[17 + i]? = some (.int .u32 (x : Int)) := by
  unfold knownCells
  rw [show 17 + i = (16 + i) + 1 from by omega, List.getElem?_cons_succ, List.getElem?_append_right (by simp [h.1]), List.getElem?_map]
  simp [h.1, hi]
theorem knownCells_setIs {k : Known} (h : k.wf) {i : Nat} (hi : i < 16) (b : Bool) : (knownCells k).set (1 + i) (.bool b) = knownCells ⟨k.reached, k.is.set i b, k.w⟩ := by
  unfold knownCells
  rw [Nat.add_comm, List.set_cons_succ, List.set_append_left _ _ (by simp [h.1]; omega), List.map_set]
theorem knownCells_setW {k : Known} (h : k.wf) {i : Nat} (x : Nat) : (knownCells k).set (17 + i) (.int .u32 (x : Int)) = knownCells ⟨k.reached, k.is, k.w.set i x⟩ := by
  unfold knownCells
  rw [show 17 + i = (16 + i) + 1 from by omega, List.set_cons_succ, List.set_append_right _ _ (by simp [h.1])]
  simp [h.1, List.map_set]
theorem Known.wf_setIs {k : Known} (h : k.wf) (i : Nat) (b : Bool) : Known.wf ⟨k.reached, k.is.set i b, k.w⟩ := ⟨by simp [h.1], h.2.1, h.2.2⟩
theorem Known.wf_setW {k : Known} (h : k.wf) (i : Nat) {x : Nat} (hx : x < 4294967296) : Known.wf ⟨k.reached, k.is, k.w.set i x⟩ :=
  ⟨h.1, by simp [h.2.1], fun y hy => (List.mem_or_eq_of_mem_set hy).elim (h.2.2 y) (fun e => by rw [e]; exact hx)⟩

theorem u32_wf {x : Nat} (h : x < 4294967296) : (Lit.int .u32 (x : Int)).wf = true := by
  simp [Lit.wf]
  have h1 : IntKind.u32.min = 0 := by decide
  have h2 : IntKind.u32.max = 4294967295 := by decide
  omega
theorem list16 {α : Type} {l : List α} (h : l.length = 16) : ∃ a0 a1 a2 a3 a4 a5 a6 a7 a8 a9 a10 a11 a12 a13 a14 a15, l = [a0, a1, a2, a3, a4, a5, a6, a7, a8, a9, a10, a11, a12, a13, a14, a15] := by
  match l, h with
  | [a0, a1, a2, a3, a4, a5, a6, a7, a8, a9, a10, a11, a12, a13, a14, a15], _ => exact ⟨a0, a1, a2, a3, a4, a5, a6, a7, a8, a9, a10, a11, a12, a13, a14, a15, rfl⟩
def knownLits (k : Known) : List Lit := .bool k.reached :: (k.is.map Lit.bool ++ k.w.map fun (x : Nat) => Lit.int .u32 (x : Int))
theorem knownLits_inj {a b : Known} (ha : a.wf) (hb : b.wf) (h : knownLits a = knownLits b) : a = b := by
  unfold knownLits at h
  rw [List.cons.injEq] at h
  obtain ⟨h1, h2⟩ := h
  have h3 := List.append_inj h2 (by simp [ha.1, hb.1])
  have h4 : a.is = b.is := by
    have := congrArg (List.map (fun l : Lit => match l with | .bool b => b | _ => false)) h3.1
    simpa [List.map_map, Function.comp_def] using this
  have h5 : a.w = b.w := by
    have := congrArg (List.map (fun l : Lit => match l with | .int _ n => n.toNat | _ => 0)) h3.2
    simpa [List.map_map, Function.comp_def] using this
  injection h1 with h1
  cases a; cases b
  simp_all
theorem mapM_rangeK {β : Type} : ∀ (ys : List β) (f : Nat → Option β), (∀ (i : Nat) (y : β), ys[i]? = some y → f i = some y) → (List.range ys.length).mapM f = some ys
  | [], f, _ => rfl
  | y :: r, f, h => by
    have ih := mapM_rangeK r (f ∘ Nat.succ) (fun i z hz => h (i + 1) z (by simpa using hz))
    rw [List.length_cons, List.range_succ_eq_map, List.mapM_cons, h 0 y rfl, List.mapM_map, ih]
    rfl
section
variable {P : Program} {d : Nat} {t e : TypeId} {cs : List Value}
theorem keyLits_array {n : Nat} (hu : P.underlying t = some (.array n e)) (hl : cs.length = P.cellsOf t) : P.keyLits (d + 1) t cs = ((List.range n).mapM fun i => P.keyLits d e ((cs.drop (i * P.cellsOf e)).take (P.cellsOf e))).map List.flatten := by
  simp only [Program.keyLits, hu]
  exact if_pos hl
theorem keyLits_struct {fs : Array Field} (hu : P.underlying t = some (.struct fs)) (hl : cs.length = P.cellsOf t) (hn : fs.all (·.name != "_") = true) : P.keyLits (d + 1) t cs = (fs.toList.mapM fun f => P.keyLits d f.type ((cs.drop f.offset).take (P.cellsOf f.type))).map List.flatten := by
  simp only [Program.keyLits, hu]
  exact if_pos ⟨hl, hn⟩
theorem keyLits_bool (hu : P.underlying t = some .bool) (b : Bool) : P.keyLits (d + 1) t [.bool b] = some [.bool b] := by
  simp only [Program.keyLits, hu]
theorem keyLits_int {q : IntKind} (hu : P.underlying t = some (.int q)) {n : Int} (hw : (Lit.int q n).wf = true) : P.keyLits (d + 1) t [.int q n] = some [.int q n] := by
  simp only [Program.keyLits, hu]
  exact if_pos ⟨trivial, hw⟩
theorem keyLits_row {α : Type} {n : Nat} (f : α → Value) (g : α → Lit) (xs : List α) (hu : P.underlying t = some (.array n e)) (hc : P.cellsOf t = n) (he : P.cellsOf e = 1) (hn : xs.length = n) (h : ∀ x ∈ xs, P.keyLits d e [f x] = some [g x]) : P.keyLits (d + 1) t (xs.map f) = some (xs.map g) := by
  rw [keyLits_array hu (by rw [hc]; simpa using hn), he]
  have hm := mapM_rangeK (xs.map fun x => [g x]) (fun i => P.keyLits d e (((xs.map f).drop (i * 1)).take 1)) (fun i y hy => by
    rw [List.getElem?_map] at hy
    cases hb : xs[i]? with
    | none => rw [hb] at hy; cases hy
    | some b =>
      rw [hb] at hy
      injection hy with hy
      rw [← hy]
      have hi := (List.getElem?_eq_some_iff.1 hb).1
      have e1 : ((xs.map f).drop (i * 1)).take 1 = [f b] := by
        rw [Nat.mul_one, List.drop_eq_getElem_cons (by simpa using hi)]
        simp [List.getElem?_eq_some_iff.1 hb |>.2]
      show P.keyLits d e (((xs.map f).drop (i * 1)).take 1) = _
      rw [e1]
      exact h b (List.mem_of_getElem? hb))
  rw [List.length_map, hn] at hm
  rw [hm]
  show some ((xs.map fun x => [g x]).flatten) = _
  congr 1
  clear hm hn h
  induction xs with
  | nil => rfl
  | cons x r ih => rw [List.map_cons, List.flatten_cons, ih]; rfl
end
theorem knownCells_lits {k : Known} (h : k.wf) : Try.prog.keyLits 3 77 (knownCells k) = some (knownLits k) := by
  have c0 : Try.prog.cellsOf 77 = 33 := by kernel_rfl
  have c1 : Try.prog.cellsOf 73 = 16 := by kernel_rfl
  have c2 : Try.prog.cellsOf 75 = 16 := by kernel_rfl
  have c3 : Try.prog.cellsOf 4 = 1 := by kernel_rfl
  have c4 : Try.prog.cellsOf 74 = 1 := by kernel_rfl
  have l1 := keyLits_row (P := Try.prog) (d := 1) Value.bool Lit.bool k.is Try.underlying73 c1 c3 h.1 (fun x _ => keyLits_bool Try.underlying4 x)
  have l2 := keyLits_row (P := Try.prog) (d := 1) (fun (x : Nat) => Value.int .u32 (x : Int)) (fun (x : Nat) => Lit.int .u32 (x : Int)) k.w Try.underlying75 c2 c4 h.2.1 (fun x hx => keyLits_int Try.underlying74 (u32_wf (h.2.2 x hx)))
  have l0 := keyLits_bool (d := 1) Try.underlying4 k.reached
  have hl := knownCells_len h
  have e0 : ((knownCells k).drop 0).take 1 = [.bool k.reached] := rfl
  have e1 : ((knownCells k).drop 1).take 16 = k.is.map Value.bool := by unfold knownCells; simp [h.1]
  have e2 : ((knownCells k).drop 17).take 16 = k.w.map fun (x : Nat) => Value.int .u32 (x : Int) := by unfold knownCells; simp [h.1]; rw [← h.2.1]; simp [← List.map_take]
  rw [keyLits_struct Try.underlying77 (by rw [c0]; exact hl) (by kernel_rfl)]
  simp only [List.mapM_cons, List.mapM_nil, c1, c2, c3, e0, e1, e2, l0, l1, l2]
  simp [knownLits]
theorem knownKey : Try.prog.keyTypeAt 3 77 = true := by kernel_rfl
theorem eqKnown (w : World) {a b : Known} (ha : a.wf) (hb : b.wf) : (Op.equalIn 10000 77 (.agg (knownCells a).toArray) (.agg (knownCells b).toArray)).run Try.prog w = .ok (decide (a = b)) w := by
  have c0 : Try.prog.cellsOf 77 = 33 := by kernel_rfl
  have hf : ∀ {k : Known}, k.wf → (Value.agg (knownCells k).toArray).formed Try.prog 77 = true := fun {k} hk => by
    simp [Value.formed, Try.underlying77, c0, knownCells_len hk]
  obtain ⟨r, h1, h2⟩ := run_equalIn_deep (P := Try.prog) 9997 3 77 knownKey w 3 3 (.agg (knownCells a).toArray) (.agg (knownCells b).toArray) (knownLits a) (knownLits b) (hf ha) (hf hb) (by simpa [Value.cells] using knownCells_lits ha) (by simpa [Value.cells] using knownCells_lits hb)
  have e : r = decide (a = b) := by
    rw [Bool.eq_iff_iff, h2, decide_eq_true_eq]
    exact ⟨knownLits_inj ha hb, fun e => by rw [e]⟩
  rw [← e]
  exact h1

def kKnown : Kd Known where
  size := 33
  K := fun _ x cs => cs = knownCells x ∧ x.wf
  len := by rintro w x cs ⟨rfl, h⟩; exact knownCells_len h
  one := by rintro w x cs ⟨rfl, _⟩; exact knownCells_one x
  sub := fun _ h => h
theorem kKnown_any {w w' : World} {x : Known} {cs : List Value} (h : kKnown.K w x cs) : kKnown.K w' x cs := h
def oKnown : Od Known := Od.flat kKnown kKnown_any
def zKnown : Value := .agg (knownCells Known.zero).toArray
theorem elKnown : ElK kKnown 77 70 zKnown 84 := ⟨Try.underlying70, by kernel_rfl, rfl, by decide, by decide⟩
theorem replicate_flatten (cs : List Value) (n : Nat) (hz : 0 < cs.length) : (madeCells cs.toArray (n * cs.length)).toList = (List.replicate n cs).flatten := by
  apply List.ext_getElem?
  intro j
  have hl : (List.replicate n cs).flatten.length = n * cs.length := by simp
  by_cases hj : j < n * cs.length
  · have hd : j / cs.length < n := (Nat.div_lt_iff_lt_mul hz).2 hj
    have hm : j % cs.length < cs.length := Nat.mod_lt _ hz
    have := flatten_get (css := List.replicate n cs) (s := cs.length) (i := j / cs.length) (j := j % cs.length) (cs := cs) (v := cs[j % cs.length]) (fun c hc => by rw [(List.mem_replicate.1 hc).2]) (by rw [List.getElem?_replicate, if_pos hd]) (List.getElem?_eq_getElem hm)
    rw [Nat.mul_comm, Nat.div_add_mod] at this
    rw [this]
    simp [madeCells, hj, hm]
  · have hm : (madeCells cs.toArray (n * cs.length)).toList.length = n * cs.length := by simp [madeCells]
    rw [List.getElem?_eq_none (by omega), List.getElem?_eq_none (by omega)]
set_option maxRecDepth 100000 in
theorem make_knowns (n : Nat) (hn : n ≤ 1000000) (w : World) : ∃ w', (Instr.makeSlice 70 (.int .i64 (n : Int)) (.int .i64 (n : Int))).run Try.prog w = .ok (.slice (some ⟨w.heap.size, 0, none⟩) n n) w' ∧ OwnF oKnown 77 w' (.slice (some ⟨w.heap.size, 0, none⟩) n n) (List.replicate n Known.zero) (fun b => b = w.heap.size) ∧ Below w.heap.size w w' ∧ w'.heap.size = w.heap.size + 1 := by
  obtain ⟨i0, hi, hz0, hz1, hz2⟩ := info_parts elKnown.info
  have h := run_make (P := Try.prog) w 70 77 i0 zKnown elKnown.under hi hz0 .i64 .i64 n n (by omega) (Int.le_refl _) (by rw [hz2]; omega) (by omega)
  have e1 : i0.size = 33 := hz1
  rw [e1] at h
  refine ⟨_, h, ?_, below_alloc' _ _, by simp⟩
  have hlen : (List.replicate n Known.zero).length = n := by simp
  have hm := OwnF.lit (kd := kKnown) (hk := kKnown_any) 77 w (List.replicate n Known.zero) (List.replicate n (knownCells Known.zero)) (madeCells zKnown.cells ((n : Int).toNat * 33)) ?_ (by simp) (by simp [maxLen]; omega) ?_
  · rw [hlen] at hm
    exact hm
  · rw [Int.toNat_natCast]
    have := replicate_flatten (knownCells Known.zero) n (by decide)
    rw [knownCells_len Known.zero_wf] at this
    exact this
  · intro i x cs hx hcs
    rw [List.getElem?_replicate] at hx hcs
    split at hx
    · injection hx with hx
      rename_i hlt
      rw [if_pos hlt] at hcs
      injection hcs with hcs
      subst hx hcs
      exact ⟨rfl, Known.zero_wf⟩
    · cases hx
/-- One of a row, taken out and put back. -/
theorem OwnF.openKnown {w : World} {g n cap : Nat} {xs : List Known} {F : Nat → Prop} (h : OwnF oKnown 77 w (.slice (some ⟨g, 0, none⟩) n cap) xs F) {q : Nat} {x : Known} (hq : xs[q]? = some x) : n = xs.length ∧ HoleF oKnown 77 w g cap xs q (knownCells x) F ∧ x.wf := by
  obtain ⟨g', cap', cs, Fi, F0, e0, l0, m0, h0, hO, d0, i0⟩ := h.open_ hq
  obtain ⟨hn, rfl, hw⟩ := hO
  injection e0 with e1 e2 e3
  injection e1 with e1
  injection e1 with e1
  subst e1 e3
  refine ⟨e2, ⟨h0.hi, ?_⟩, hw⟩
  obtain ⟨css, Fs, h1, h2, h3, h4, h5, h6, h7, h8⟩ := h0.ex
  exact ⟨css, Fs, h1, h2, h3, h4, h5, h6, h7, fun b => by rw [← h8 b, i0 b]; exact ⟨fun h => h.elim id (fun h => absurd h (hn b)), fun h => .inl h⟩⟩
theorem HoleF.closeKnown {w : World} {g cap q : Nat} {xs : List Known} {x : Known} {F : Nat → Prop} (h : HoleF oKnown 77 w g cap xs q (knownCells x) F) (hw : x.wf) : OwnF oKnown 77 w (.slice (some ⟨g, 0, none⟩) xs.length cap) (xs.set q x) F :=
  (h.close (y := x) (Gi := noF) ⟨fun _ h => h, rfl, hw⟩ (fun _ h => h.elim)).iff (fun b => ⟨fun h => .inl h, fun h => h.elim id (fun h => h.elim)⟩)
theorem HoleF.rangeKnown {w : World} {g cap q : Nat} {xs : List Known} {x : Known} {F : Nat → Prop} (h : HoleF oKnown 77 w g cap xs q (knownCells x) F) : w.rangeAt g (q * 33) (knownCells x) := fun j v hv => h.cell (j := j) hv
end Go.Proofs.Ytokkngfgppikkab
