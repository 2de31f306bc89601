/- calls.Reach. -/
import Derived.Test.YtklhhdhokobbmaaCo
import Derived.Laws.EntriesVeiled
namespace Go.Proofs.Ytklhhdhokobbmaa
set_option linter.unusedVariables false
set_option linter.unusedSimpArgs false
open Go.RowKit

/-- A row of bools that a call has made: those that are reached. -/
def MadeReach (w : World) (gs : List Graph) (s : Nat) (e : Ending) (w' : World) : Prop := ∃ g ys, e = .returned (.slice (some ⟨g, 0, none⟩) gs.length gs.length) ∧ RowB w' g ys ∧ IsReach gs s ys ∧ w.heap.size ≤ g ∧ Below w.heap.size w w'

theorem cell_past {w : World} {o : Obj} {a : Addr} {v : Value} (h : w.cell? a = some v) : (w.alloc o).cell? a = some v := (((Below.refl _ _).alloc (Nat.le_refl _) o).cell (World.lt_of_cell h)).trans h

set_option maxHeartbeats 4000000 in
set_option maxRecDepth 100000 in
theorem reach_calls (A : Option Addr) (c : Nat) (gs : List Graph) (i : Nat) (w : World) (hC : kGraph.C w A gs) (hok : GsOk gs) (hi : i < gs.length) : Calls Try.prog 21 #[.slice A gs.length c, .int .i64 i] w (MadeReach w gs i) := by
  have hlen := hok.1
  have HOK := Lib.hid hok
  have hmf : ∀ (fn : Fn) (first cap : Array Value) (w : World), (Instr.makeFunc fn first cap).run Try.prog w = .ok (.func fn first cap) w := fun _ _ _ _ => rfl
  clear hok
  go_enter Try.func21, Try.ntmps21
  go_upto_region 1 with fail
  have hb0 : Below w.heap.size w (w.alloc (.cells #[.slice A gs.length c] 22)) := (Below.refl _ _).alloc (Nat.le_refl _) _
  have cb : (w.alloc (.cells #[.slice A gs.length c] 22)).cell? ⟨w.heap.size, 0, none⟩ = some (.slice A gs.length c) := by simp
  have hz : (w.alloc (.cells #[.slice A gs.length c] 22)).heap.size = w.heap.size + 1 := by simp
  generalize w.alloc (.cells #[.slice A gs.length c] 22) = W1 at *
  obtain ⟨W2, hmk, hrow, hb1, hz1⟩ := make_bools gs.length (by omega) W1
  have hz' : W1.heap.size = w.heap.size + 1 := hz
  have HZ := Lib.hid hz
  have HZ1 := Lib.hid hz1
  clear hz hz1 hz'
  go_upto_region 3 with fail
  have hb2 : Below W1.heap.size W1 ((W2.alloc (.cells #[.slice (some ⟨W1.heap.size, 0, none⟩) gs.length gs.length] 35)).alloc (.cells #[.nilFunc] 58)) := (hb1.alloc hb1.size _).alloc (by have := hb1.size; simp; omega) _
  have hr2 : RowB ((W2.alloc (.cells #[.slice (some ⟨W1.heap.size, 0, none⟩) gs.length gs.length] 35)).alloc (.cells #[.nilFunc] 58)) W1.heap.size (List.replicate gs.length false) := (hrow.alloc _).alloc _
  have cs : ((W2.alloc (.cells #[.slice (some ⟨W1.heap.size, 0, none⟩) gs.length gs.length] 35)).alloc (.cells #[.nilFunc] 58)).cell? ⟨W2.heap.size, 0, none⟩ = some (.slice (some ⟨W1.heap.size, 0, none⟩) gs.length gs.length) := cell_past (by simp)
  have cf : ((W2.alloc (.cells #[.slice (some ⟨W1.heap.size, 0, none⟩) gs.length gs.length] 35)).alloc (.cells #[.nilFunc] 58)).cell? ⟨W2.heap.size + 1, 0, none⟩ = some .nilFunc := by
    rw [show W2.heap.size + 1 = (W2.alloc (.cells #[.slice (some ⟨W1.heap.size, 0, none⟩) gs.length gs.length] 35)).heap.size from by simp]; simp
  have ff : ((W2.alloc (.cells #[.slice (some ⟨W1.heap.size, 0, none⟩) gs.length gs.length] 35)).alloc (.cells #[.nilFunc] 58)).frozen? ⟨W2.heap.size + 1, 0, none⟩ = false := by
    rw [show W2.heap.size + 1 = (W2.alloc (.cells #[.slice (some ⟨W1.heap.size, 0, none⟩) gs.length gs.length] 35)).heap.size from by simp]; simp
  generalize (W2.alloc (.cells #[.slice (some ⟨W1.heap.size, 0, none⟩) gs.length gs.length] 35)).alloc (.cells #[.nilFunc] 58) = W3 at *
  have hcb := (hb2.cell (World.lt_of_cell cb)).trans cb
  go_upto_region 4 with fail
  have hfz : W1.heap.size < W2.heap.size + 1 := by have := HZ1.out; omega
  have hgrow : W3.grownBy (W3.setCell ⟨W2.heap.size + 1, 0, none⟩ (.func (.func 40) #[] #[.pointer (some ⟨W2.heap.size, 0, none⟩), .pointer (some ⟨w.heap.size, 0, none⟩), .pointer (some ⟨W2.heap.size + 1, 0, none⟩)])) (some (W2.heap.size + 1)) := ⟨rfl, rfl, rfl, by simp, fun k _ hk => heap_setCell_other W3 ⟨W2.heap.size + 1, 0, none⟩ k _ (fun e => hk (by simp [e]))⟩
  have cf4 : (W3.setCell ⟨W2.heap.size + 1, 0, none⟩ (.func (.func 40) #[] #[.pointer (some ⟨W2.heap.size, 0, none⟩), .pointer (some ⟨w.heap.size, 0, none⟩), .pointer (some ⟨W2.heap.size + 1, 0, none⟩)])).cell? ⟨W2.heap.size + 1, 0, none⟩ = some (.func (.func 40) #[] #[.pointer (some ⟨W2.heap.size, 0, none⟩), .pointer (some ⟨w.heap.size, 0, none⟩), .pointer (some ⟨W2.heap.size + 1, 0, none⟩)]) := by
    exact World.cell?_setCell_same (u := .nilFunc) _ _ _ cf
  have hb4 : Below W1.heap.size W1 (W3.setCell ⟨W2.heap.size + 1, 0, none⟩ (.func (.func 40) #[] #[.pointer (some ⟨W2.heap.size, 0, none⟩), .pointer (some ⟨w.heap.size, 0, none⟩), .pointer (some ⟨W2.heap.size + 1, 0, none⟩)])) := hb2.grown hgrow hb2.size (fun k hk => by injection hk with e; omega)
  have hr4 := hr2.apart hgrow (by simp; omega)
  have cs4 := hgrow.cell cs (by simp)
  have cb4 := hgrow.cell hcb (by have := HZ1.out; have := HZ.out; simp; omega)
  generalize W3.setCell ⟨W2.heap.size + 1, 0, none⟩ (.func (.func 40) #[] #[.pointer (some ⟨W2.heap.size, 0, none⟩), .pointer (some ⟨w.heap.size, 0, none⟩), .pointer (some ⟨W2.heap.size + 1, 0, none⟩)]) = W4 at *
  have henv : Env W1 W4 A c gs.length W2.heap.size w.heap.size (W2.heap.size + 1) W1.heap.size (List.replicate gs.length false) := ⟨hb4, Nat.le_refl _, cs4, cb4, cf4, hr4, by have := HZ1.out; omega, by have := HZ.out; omega, by omega, by simp⟩
  have hrec := reach1_calls A c gs W1 (Kd.C_mono hb0 hC) HOK.out W2.heap.size w.heap.size (W2.heap.size + 1) W1.heap.size _ _ i W4 (Nat.le_refl _) hi henv
  have HRec := Lib.hid hrec
  have HE := Lib.hid henv
  clear hrec henv hb2 hr2 cs cf ff hcb cs4 cb4 hr4 hgrow cb hmk
  go_wp2_with fail
  refine HRec.out.mono ?_
  rintro e W5 ⟨rfl, ys, hd, hrow5, hg5⟩
  have c5 := (HE.out.grown hg5 hrow5 (by rw [hd.len]; simp)).cs
  have hb5 := (HE.out.grown hg5 hrow5 (by rw [hd.len]; simp)).below
  go_wp2_with fail
  go_ret
  exact ⟨_, ys, rfl, hrow5, hd.isReach, hb0.size, hb0.trans (hb5.mono hb0.size)⟩
end Go.Proofs.Ytklhhdhokobbmaa
