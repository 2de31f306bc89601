/- Layer 3's awake: it answers true. -/
import Derived.Test.YtklhhdhokobbmaaCh
import Derived.Test.YtklhhdhokobbmaaPc
namespace Go.Proofs.Ytklhhdhokobbmaa
set_option linter.unusedVariables false
set_option linter.unusedSimpArgs false
open Go.RowKit

theorem reads_awake : readsList 1 1 2 2 = [2] := by
  rw [readsList_eq (imm := 0) (by decide)]
  decide
set_option maxHeartbeats 4000000 in
set_option maxRecDepth 100000 in
theorem flowAwake_calls (w : World) : Calls Try.prog 25 #[] w fun e w' => e = .returned (.bool true) ∧ Below w.heap.size w w' := by
  have hr : ∀ W : World, Calls Try.prog 31 #[.agg #[.int .i64 1, .int .i64 1, .int .i64 2, .int .i64 2, .int .i64 0]] W fun e w' => ∃ g c, e = .returned (.slice (some ⟨g, 0, none⟩) 1 c) ∧ w'.cell? ⟨g, 0, none⟩ = some (.int .i64 2) ∧ Below W.heap.size W w' := by
    intro W
    refine (flowReads_calls 1 1 2 2 0 W).mono ?_
    rintro e w' ⟨v, rfl, ho, hb⟩
    rw [reads_awake] at ho
    obtain ⟨A, c, rfl, _, _, h3⟩ := ho.cells
    obtain ⟨g, rfl, h4, _⟩ := h3 0 2 rfl
    exact ⟨g, c, rfl, h4, hb⟩
  have HR := Lib.hid hr
  clear hr
  go_enter Try.func25, Try.ntmps25
  go_wp2_with fail
  have hb0 : Below w.heap.size w (w.alloc (.cells #[.int .i64 1, .int .i64 1, .int .i64 2, .int .i64 2, .int .i64 0] 41)) := (Below.refl _ _).alloc (Nat.le_refl _) _
  have hx0 : (w.alloc (.cells #[.int .i64 1, .int .i64 1, .int .i64 2, .int .i64 2, .int .i64 0] 41)).cell? ⟨w.heap.size, 0, none⟩ = some (.int .i64 1) := by simp
  have hx1 : (w.alloc (.cells #[.int .i64 1, .int .i64 1, .int .i64 2, .int .i64 2, .int .i64 0] 41)).cell? ⟨w.heap.size, 1, none⟩ = some (.int .i64 1) := by simp
  have hx2 : (w.alloc (.cells #[.int .i64 1, .int .i64 1, .int .i64 2, .int .i64 2, .int .i64 0] 41)).cell? ⟨w.heap.size, 2, none⟩ = some (.int .i64 2) := by simp
  have hx3 : (w.alloc (.cells #[.int .i64 1, .int .i64 1, .int .i64 2, .int .i64 2, .int .i64 0] 41)).cell? ⟨w.heap.size, 3, none⟩ = some (.int .i64 2) := by simp
  have hx4 : (w.alloc (.cells #[.int .i64 1, .int .i64 1, .int .i64 2, .int .i64 2, .int .i64 0] 41)).cell? ⟨w.heap.size, 4, none⟩ = some (.int .i64 0) := by simp
  generalize hW : w.alloc (.cells #[.int .i64 1, .int .i64 1, .int .i64 2, .int .i64 2, .int .i64 0] 41) = W at *
  clear hW
  refine (HR.out _).mono ?_
  rintro e w1 ⟨g, c, rfl, hg, hb1⟩
  replace hx0 := (hb1.cell (World.lt_of_cell hx0)).trans hx0
  replace hx1 := (hb1.cell (World.lt_of_cell hx1)).trans hx1
  replace hx2 := (hb1.cell (World.lt_of_cell hx2)).trans hx2
  replace hx3 := (hb1.cell (World.lt_of_cell hx3)).trans hx3
  replace hx4 := (hb1.cell (World.lt_of_cell hx4)).trans hx4
  have hz1 : w.heap.size < w1.heap.size := World.lt_of_cell hx0
  have hzg : g < w1.heap.size := World.lt_of_cell hg
  have ht1 : Below w1.heap.size w1 w1 := Below.refl _ _
  go_wp2_with fail
  refine (flowKind_calls 1 1 2 2 0 _).mono ?_
  rw [show fkind 1 = 0 from rfl]
  rintro e w2 ⟨rfl, hb2⟩
  have ht2 := ht1.trans (hb2.mono ht1.size)
  obtain ⟨hc2, hf2⟩ := bcell ht2
  go_wp2_with fail
  refine (flowWrites_calls 1 1 2 2 0 _).mono ?_
  rw [show writes 1 1 = 1 from rfl]
  rintro e w3 ⟨rfl, hb3⟩
  have ht3 := ht2.trans (hb3.mono ht2.size)
  obtain ⟨hc3, hf3⟩ := bcell ht3
  go_wp2_with fail
  refine (flip_calls 15 _).mono ?_
  rw [show flip 15 = 16 from rfl]
  rintro e w' ⟨rfl, rfl⟩
  go_wp2_with fail
  refine (falls_calls 1 1 2 2 0 _).mono ?_
  rw [show falls 1 = true from rfl]
  rintro e w5 ⟨rfl, hb5⟩
  have ht5 := ht3.trans (hb5.mono ht3.size)
  obtain ⟨hc5, hf5⟩ := bcell ht5
  go_wp2_with fail
  refine (falls_calls 21 0 0 0 0 _).mono ?_
  rw [show falls 21 = false from rfl]
  rintro e w6 ⟨rfl, hb6⟩
  have ht6 := ht5.trans (hb6.mono ht5.size)
  obtain ⟨hc6, hf6⟩ := bcell ht6
  go_wp2_with fail
  refine (flowKind_calls 25 0 0 0 0 _).mono ?_
  rw [show fkind 25 = 5 from rfl]
  rintro e w7 ⟨rfl, hb7⟩
  have ht7 := ht6.trans (hb7.mono ht6.size)
  obtain ⟨hc7, hf7⟩ := bcell ht7
  go_wp2_with fail
  go_ret
  exact ⟨rfl, hb0.trans ((hb1.mono hb0.size).trans (ht7.mono (Nat.le_trans hb0.size hb1.size)))⟩
end Go.Proofs.Ytklhhdhokobbmaa
