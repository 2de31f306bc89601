/- Rows of words of 16 bits. -/
import Derived.Test.YtobhjjbhlnbcpaaFg
namespace Go.Proofs.Ytobhjjbhlnbcpaa
set_option linter.unusedVariables false
set_option linter.unusedSimpArgs false
open Go.RowKit

def kU : Kd Nat where
  size := 1
  K := fun _ x cs => cs = [.int .u16 (x : Int)] ∧ x < 65536
  len := by rintro w x cs ⟨rfl, _⟩; rfl
  one := by rintro w x cs ⟨rfl, _⟩ u hu; rw [List.mem_singleton] at hu; subst hu; rfl
  sub := fun _ h => h
theorem kU_any {w w' : World} {x : Nat} {cs : List Value} (h : kU.K w x cs) : kU.K w' x cs := h
def oU : Od Nat := Od.flat kU kU_any
/-- What a row of them reads as. -/
def CellsU (w : World) (A : Option Addr) (xs : List Nat) : Prop := ∀ (i : Nat) (x : Nat), xs[i]? = some x → ∃ ad, A = some ad ∧ w.cell? (ad.add i) = some (.int .u16 (x : Int)) ∧ x < 65536
theorem CellsU.sub {w w' : World} {A : Option Addr} {xs : List Nat} (h : CellsU w A xs) (hs : Sub w w') : CellsU w' A xs := fun i x hx => by
  obtain ⟨ad, e, hc, hl⟩ := h i x hx
  exact ⟨ad, e, hs _ _ hc, hl⟩
theorem CellsU.of_C {w : World} {A : Option Addr} {xs : List Nat} (h : kU.C w A xs) : CellsU w A xs := fun i x hx => by
  obtain ⟨ad, cs, e, ⟨rfl, hl⟩, hc⟩ := h i x hx
  have := hc 0 _ rfl
  rw [show i * kU.size + 0 = i from by show i * 1 + 0 = i; omega] at this
  exact ⟨ad, e, this, hl⟩
theorem OwnF.readU {w : World} {v : Value} {xs : List Nat} {F : Nat → Prop} (h : OwnF oU 51 w v xs F) : ∃ A c, v = .slice A xs.length c ∧ xs.length ≤ c ∧ c ≤ maxLen ∧ CellsU w A xs := by
  obtain ⟨A, c, e, h1, h2, h3⟩ := h.read
  exact ⟨A, c, e, h1, h2, CellsU.of_C h3⟩
theorem elU : ElK kU 51 46 (.int .u16 0) 2 := ⟨Try.underlying46, by kernel_rfl, rfl, by decide, by decide⟩
theorem replicate_flat (v : Value) (n : Nat) : List.replicate n v = (List.replicate n [v]).flatten := by
  induction n with
  | zero => rfl
  | succ m ih => rw [List.replicate_succ, List.replicate_succ, List.flatten_cons, ← ih]; rfl
theorem make_words (n : Nat) (hn : n ≤ 1000000) (w : World) : ∃ w', (Instr.makeSlice 46 (.int .i64 (n : Int)) (.int .i64 (n : Int))).run Try.prog w = .ok (.slice (some ⟨w.heap.size, 0, none⟩) n n) w' ∧ OwnF oU 51 w' (.slice (some ⟨w.heap.size, 0, none⟩) n n) (List.replicate n 0) (fun b => b = w.heap.size) ∧ Below w.heap.size w w' ∧ w'.heap.size = w.heap.size + 1 := by
  obtain ⟨i0, hi, hz0, hz1, hz2⟩ := info_parts elU.info
  have h := run_make (P := Try.prog) w 46 51 i0 (.int .u16 0) elU.under hi hz0 .i64 .i64 n n (by omega) (Int.le_refl _) (by rw [hz2]; omega) (by omega)
  have e1 : i0.size = 1 := hz1
  rw [e1] at h
  refine ⟨_, h, ?_, below_alloc' _ _, by simp⟩
  have hlen : (List.replicate n (0 : Nat)).length = n := by simp
  have hm := OwnF.lit (kd := kU) (hk := kU_any) 51 w (List.replicate n 0) (List.replicate n [.int .u16 0]) (madeCells (Value.int .u16 0).cells ((n : Int).toNat * 1)) ?_ (by simp) (by simp [maxLen]; omega) ?_
  · rw [hlen] at hm
    exact hm
  · have := toList_madeCells_one (.int .u16 0) n
    simp only [Int.toNat_natCast, Nat.mul_one]
    show (madeCells #[.int .u16 0] n).toList = _
    rw [this]
    exact replicate_flat _ _
  · intro i x cs hx hcs
    rw [List.getElem?_replicate] at hx hcs
    split at hx
    · injection hx with hx
      rename_i hlt
      rw [if_pos hlt] at hcs
      injection hcs with hcs
      subst hx hcs
      exact ⟨rfl, by decide⟩
    · cases hx
/-- A word stored into a row of the call's own. -/
theorem OwnF.setU {w : World} {g cap n : Nat} {xs : List Nat} {F : Nat → Prop} (h : OwnF oU 51 w (.slice (some ⟨g, 0, none⟩) n cap) xs F) (hn : xs.length = n) {i : Nat} (hi : i < n) {y : Nat} (hy : y < 65536) :
    OwnF oU 51 (w.setCell ⟨g, i, none⟩ (.int .u16 (y : Int))) (.slice (some ⟨g, 0, none⟩) n cap) (xs.set i y) F ∧ w.grownBy (w.setCell ⟨g, i, none⟩ (.int .u16 (y : Int))) (some g) ∧ w.frozen? ⟨g, i, none⟩ = false ∧ F g := by
  obtain ⟨x, hx⟩ := get_some xs i (by rw [hn]; exact hi)
  obtain ⟨g', cap', cs, Fi, F0, e, -, -, h0, hO, d, iff⟩ := h.open_ hx
  injection e with e1 e2 e3
  injection e1 with e1
  injection e1 with e1
  subst e1 e3
  obtain ⟨hno, rfl, hlt⟩ := hO
  have h1 := h0.set (j := 0) (by decide) (.int .u16 (y : Int))
  have h2 := h1.close (y := y) (Gi := noF) ⟨fun _ h => h, rfl, hy⟩ (fun _ h => h.elim)
  have e4 : i * oU.kd.size + 0 = i := by show i * 1 + 0 = i; omega
  rw [e4, hn] at h2
  refine ⟨h2.iff (fun b => ?_), grown_set w g i _, h0.frozen i, (iff g).2 (.inl h0.row)⟩
  rw [iff b]
  exact ⟨fun h => h.elim .inl (fun h => absurd h (hno b)), fun h => h.elim .inl (fun h => h.elim)⟩
end Go.Proofs.Ytobhjjbhlnbcpaa
