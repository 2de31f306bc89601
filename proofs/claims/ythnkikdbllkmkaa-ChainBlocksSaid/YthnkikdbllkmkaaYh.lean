/- Lists of numbers, and lists of such, in memory of the call's own. -/
import Derived.Test.YthnkikdbllkmkaaGc
namespace Go.Proofs.Ythnkikdbllkmkaa
set_option linter.unusedVariables false
set_option linter.unusedSimpArgs false
open Go.RowKit

def kN : Kd Nat where
  size := 1
  K := fun _ x cs => cs = [.int .i64 (x : Int)]
  len := by rintro w x cs rfl; rfl
  one := by rintro w x cs rfl u hu; rw [List.mem_singleton] at hu; subst hu; rfl
  sub := fun _ h => h
theorem kN_any {w w' : World} {x : Nat} {cs : List Value} (h : kN.K w x cs) : kN.K w' x cs := h
def oN : Od Nat := Od.flat kN kN_any
theorem elN : ElK kN 3 29 (.int .i64 0) 8 := ⟨Try.underlying29, by kernel_rfl, rfl, by decide, by decide⟩
/-- Numbers that lie at an address. -/
def CellsN (w : World) (A : Option Addr) (xs : List Nat) : Prop := ∀ (i x : Nat), xs[i]? = some x → ∃ g, A = some ⟨g, 0, none⟩ ∧ g < w.heap.size ∧ w.cell? ⟨g, i, none⟩ = some (.int .i64 (x : Int))
theorem OwnF.readN {w : World} {v : Value} {xs : List Nat} {F : Nat → Prop} (h : OwnF oN 3 w v xs F) : ∃ A c, v = .slice A xs.length c ∧ xs.length ≤ c ∧ c ≤ maxLen ∧ CellsN w A xs ∧ (∀ g, A = some ⟨g, 0, none⟩ → F g) := by
  by_cases hp : 0 < xs.length
  · obtain ⟨x, hx⟩ := get_some xs 0 hp
    obtain ⟨g, cap, cs, Fi, F0, e, l, m, h0, hO, d, iff⟩ := h.open_ hx
    subst e
    refine ⟨_, _, rfl, l, m, fun i y hy => ?_, fun g' e => ?_⟩
    · obtain ⟨g2, cap2, cs2, Fi2, F02, e2, -, -, h02, hO2, -, -⟩ := h.open_ hy
      injection e2 with e3 e4 e5
      injection e3 with e3
      injection e3 with e3
      subst e3
      obtain ⟨-, hk⟩ := hO2
      have hk' : cs2 = [.int .i64 (y : Int)] := hk
      subst hk'
      have hc := h02.cell (j := 0) rfl
      rw [show i * oN.kd.size + 0 = i from by show i * 1 + 0 = i; omega] at hc
      exact ⟨g, rfl, World.lt_of_cell hc, hc⟩
    · injection e with e
      injection e with e
      subst e
      exact (iff _).2 (.inl h0.row)
  · obtain rfl := List.length_eq_zero_iff.1 (by omega : xs.length = 0)
    obtain ⟨A, c, rfl, l, m, -⟩ := h.read
    exact ⟨A, c, rfl, l, m, fun i x hx => by simp at hx, fun g e => h.row (by rw [e]; rfl)⟩
theorem CellsN.keep {w w' : World} {A : Option Addr} {xs : List Nat} (h : CellsN w A xs) (hs : w.heap.size ≤ w'.heap.size) (hb : ∀ g, A = some ⟨g, 0, none⟩ → w'.heap[g]? = w.heap[g]?) : CellsN w' A xs := fun i x hx => by
  obtain ⟨g, e, hg, hc⟩ := h i x hx
  exact ⟨g, e, Nat.lt_of_lt_of_le hg hs, (World.cell?_of_block (a := ⟨g, i, none⟩) (hb g e)).trans hc⟩
theorem toList_madeN (n : Nat) : (madeCells #[.int .i64 0] n).toList = List.replicate n (.int .i64 0) := toList_madeCells_one (.int .i64 0) n
set_option maxRecDepth 100000 in
theorem make_N (n : Nat) (hn : n ≤ 1000000) (w : World) : ∃ w', (Instr.makeSlice 29 (.int .i64 (n : Int)) (.int .i64 (n : Int))).run Try.prog w = .ok (.slice (some ⟨w.heap.size, 0, none⟩) n n) w' ∧ OwnF oN 3 w' (.slice (some ⟨w.heap.size, 0, none⟩) n n) (List.replicate n 0) (fun b => b = w.heap.size) ∧ Below w.heap.size w w' ∧ w'.heap.size = w.heap.size + 1 := by
  obtain ⟨i0, hi, hz0, hz1, hz2⟩ := info_parts elN.info
  have h := run_make (P := Try.prog) w 29 3 i0 (.int .i64 0) elN.under hi hz0 .i64 .i64 n n (by omega) (Int.le_refl _) (by rw [hz2]; omega) (by omega)
  have e1 : i0.size = 1 := hz1
  rw [e1] at h
  refine ⟨_, h, ?_, below_alloc' _ _, by simp⟩
  have hlen : (List.replicate n (0 : Nat)).length = n := by simp
  have hm := OwnF.lit (kd := kN) (hk := kN_any) 3 w (List.replicate n 0) (List.replicate n [.int .i64 0]) (madeCells (Value.int .i64 0).cells ((n : Int).toNat * 1)) ?_ (by simp) (by simp [maxLen]; omega) ?_
  · rw [hlen] at hm
    exact hm
  · simp only [Int.toNat_natCast, Nat.mul_one]
    show (madeCells #[.int .i64 0] n).toList = _
    rw [toList_madeN]
    exact replicate_flat _ _
  · intro i x cs hx hcs
    rw [List.getElem?_replicate] at hx hcs
    split at hx
    · injection hx with hx
      rename_i hlt
      rw [if_pos hlt] at hcs
      injection hcs with hcs
      subst hx hcs
      rfl
    · cases hx
/-- A number stored into a row of the call's own. -/
theorem OwnF.setN {w : World} {g cap n : Nat} {xs : List Nat} {F : Nat → Prop} (h : OwnF oN 3 w (.slice (some ⟨g, 0, none⟩) n cap) xs F) (hn : xs.length = n) {i : Nat} (hi : i < n) (y : Nat) :
    OwnF oN 3 (w.setCell ⟨g, i, none⟩ (.int .i64 (y : Int))) (.slice (some ⟨g, 0, none⟩) n cap) (xs.set i y) F ∧ w.grownBy (w.setCell ⟨g, i, none⟩ (.int .i64 (y : Int))) (some g) ∧ w.frozen? ⟨g, i, none⟩ = false ∧ F g ∧ ∃ x, xs[i]? = some x ∧ w.cell? ⟨g, i, none⟩ = some (.int .i64 (x : Int)) := by
  obtain ⟨x, hx⟩ := get_some xs i (by rw [hn]; exact hi)
  obtain ⟨g', cap', cs, Fi, F0, e, -, -, h0, hO, d, iff⟩ := h.open_ hx
  injection e with e1 e2 e3
  injection e1 with e1
  injection e1 with e1
  subst e1 e3
  obtain ⟨hno, hk⟩ := hO
  have hk' : cs = [.int .i64 (x : Int)] := hk
  subst hk'
  have h1 := h0.set (j := 0) (by decide) (.int .i64 (y : Int))
  have h2 := h1.close (y := y) (Gi := noF) ⟨fun _ h => h, rfl⟩ (fun _ h => h.elim)
  have hc := h0.cell (j := 0) rfl
  have e4 : i * oN.kd.size + 0 = i := by show i * 1 + 0 = i; omega
  rw [e4, hn] at h2
  rw [e4] at hc
  refine ⟨h2.iff (fun b => ?_), grown_set w g i _, h0.frozen i, (iff g).2 (.inl h0.row), x, hx, hc⟩
  rw [iff b]
  exact ⟨fun h => h.elim .inl (fun h => absurd h (hno b)), fun h => h.elim .inl (fun h => h.elim)⟩

/-- Lists of lists. -/
def oNN : Od (List Nat) where
  kd := Kd.slice kN
  O := fun w xs cs F => ∃ v, cs = [v] ∧ OwnF oN 3 w v xs F
  rd := by
    rintro w x cs F ⟨v, rfl, ho⟩ S hS
    obtain ⟨A, c, rfl, l, m, hC⟩ := ho.readS hS
    exact ⟨A, c, rfl, l, m, hC⟩
  lt := fun ⟨v, _, ho⟩ => ho.lt
  keep := fun ⟨v, e, ho⟩ hb => ⟨v, e, ho.keep hb⟩
theorem elNN : ElK (Kd.slice kN) 29 51 (.slice none 0 0) 24 := ⟨Try.underlying51, by kernel_rfl, rfl, by decide, by decide⟩
theorem toList_madeNN (n : Nat) : (madeCells #[.slice none 0 0] n).toList = List.replicate n (.slice none 0 0) := toList_madeCells_one (.slice none 0 0) n
set_option maxRecDepth 100000 in
theorem make_NN (n : Nat) (hn : n ≤ 1000000) (w : World) : ∃ w', (Instr.makeSlice 51 (.int .i64 (n : Int)) (.int .i64 (n : Int))).run Try.prog w = .ok (.slice (some ⟨w.heap.size, 0, none⟩) n n) w' ∧ OwnF oNN 29 w' (.slice (some ⟨w.heap.size, 0, none⟩) n n) (List.replicate n []) (fun b => b = w.heap.size) ∧ Below w.heap.size w w' ∧ w'.heap.size = w.heap.size + 1 := by
  obtain ⟨i0, hi, hz0, hz1, hz2⟩ := info_parts elNN.info
  have h := run_make (P := Try.prog) w 51 29 i0 (.slice none 0 0) elNN.under hi hz0 .i64 .i64 n n (by omega) (Int.le_refl _) (by rw [hz2]; omega) (by omega)
  have e1 : i0.size = 1 := hz1
  rw [e1] at h
  refine ⟨_, h, ?_, below_alloc' _ _, by simp⟩
  have hx0 : (madeCells (Value.slice none 0 0).cells ((n : Int).toNat * 1)).toList = List.replicate n (.slice none 0 0) := by
    simp only [Int.toNat_natCast, Nat.mul_one]
    exact toList_madeNN n
  generalize madeCells (Value.slice none 0 0).cells ((n : Int).toNat * 1) = cells at hx0 h
  refine ⟨List.replicate n [.slice none 0 0], fun _ _ => False, by simp, fun i x cs hx hcs => ?_, ?_, fun i j b _ _ _ hf => hf.elim, fun i b _ hf => hf.elim, fun b => ?_⟩
  · rw [List.getElem?_replicate] at hx hcs
    split at hx
    · injection hx with hx
      rename_i hlt
      rw [if_pos hlt] at hcs
      injection hcs with hcs
      subst hx hcs
      exact ⟨_, rfl, OwnF.nil oN 3 _⟩
    · cases hx
  · have hl : (List.replicate n ([] : List Nat)).length = n := by simp
    rw [hl]
    refine ⟨by rw [← replicate_flat]; simp; exact (Nat.mul_one n).symm, .inr ⟨w.heap.size, n, cells, rfl, Nat.zero_le _, by rw [heap_alloc_new], Nat.le_refl _, by simp [maxLen]; omega, ?_, ?_⟩⟩
    · have : cells.toList.length = n := by rw [hx0]; simp
      show cells.size = n * 1
      rw [Nat.mul_one]
      simpa using this
    · rw [hx0, ← replicate_flat]
      show (List.replicate n _).take (n * 1) = _
      rw [Nat.mul_one, List.take_of_length_le (by simp)]
  · exact ⟨fun e => .inl (by rw [e]; rfl), fun h => h.elim (fun e => by injection e with e; exact e.symm) (fun ⟨_, _, hf⟩ => hf.elim)⟩
/-- One list taken out of a list of lists. -/
theorem OwnF.openNN {w : World} {g cap n : Nat} {xss : List (List Nat)} {F : Nat → Prop} (h : OwnF oNN 29 w (.slice (some ⟨g, 0, none⟩) n cap) xss F) (hn : xss.length = n) {i : Nat} {xs : List Nat} (hx : xss[i]? = some xs) :
    ∃ v Fi F0, HoleF oNN 29 w g cap xss i [v] F0 ∧ OwnF oN 3 w v xs Fi ∧ (∀ b, Fi b → ¬ F0 b) ∧ (∀ b, F b ↔ F0 b ∨ Fi b) ∧ w.cell? ⟨g, i, none⟩ = some v ∧ w.frozen? ⟨g, i, none⟩ = false ∧ F0 g := by
  obtain ⟨g', cap', cs, Fi, F0, e, -, -, h0, hO, d, iff⟩ := h.open_ hx
  injection e with e1 e2 e3
  injection e1 with e1
  injection e1 with e1
  subst e1 e3
  obtain ⟨v, rfl, ho⟩ := hO
  have hc := h0.cell (j := 0) rfl
  have e4 : i * oNN.kd.size + 0 = i := by show i * 1 + 0 = i; omega
  rw [e4] at hc
  exact ⟨v, Fi, F0, h0, ho, d, iff, hc, h0.frozen i, h0.row⟩
/-- Another one put there. -/
theorem HoleF.setNN {w : World} {g cap i : Nat} {xss : List (List Nat)} {v v' : Value} {ys : List Nat} {F0 Gi : Nat → Prop} (h : HoleF oNN 29 w g cap xss i [v] F0) (ho : OwnF oN 3 w v' ys Gi) (hd : ∀ b, Gi b → ¬ F0 b) :
    OwnF oNN 29 (w.setCell ⟨g, i, none⟩ v') (.slice (some ⟨g, 0, none⟩) xss.length cap) (xss.set i ys) (fun b => F0 b ∨ Gi b) ∧ w.grownBy (w.setCell ⟨g, i, none⟩ v') (some g) := by
  have h1 := h.set (j := 0) (by decide) v'
  have e4 : i * oNN.kd.size + 0 = i := by show i * 1 + 0 = i; omega
  rw [e4] at h1
  exact ⟨h1.close (y := ys) ⟨v', rfl, ho.grown (grown_set w g i v') (fun b hb e => by injection e with e; subst e; exact hd _ hb h.row)⟩ hd, grown_set w g i v'⟩
end Go.Proofs.Ythnkikdbllkmkaa
