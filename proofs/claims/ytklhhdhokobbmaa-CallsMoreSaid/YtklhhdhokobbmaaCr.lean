/- Layer 18's awake: it answers true. -/
import Derived.Test.YtklhhdhokobbmaaCq
namespace Go.Proofs.Ytklhhdhokobbmaa
set_option linter.unusedVariables false
set_option linter.unusedSimpArgs false
open Go.RowKit

theorem aSmall1 : smallB [aB1] = true := by
  unfold smallB leafB
  simp only [aOf1]
  decide
theorem aLeaf0 : leafB [aB0] = false := by
  unfold leafB
  rw [aOf0]
  decide

set_option maxHeartbeats 4000000 in
set_option maxRecDepth 100000 in
theorem callsAwake_calls (w : World) : Calls Try.prog 13 #[] w fun e w' => e = .returned (.bool true) ∧ Below w.heap.size w w' := by
  obtain ⟨W, hW, c7, c3, c5, g4, g6, hbW, hsz⟩ := awake_mem w
  unfold oFin oOp oB oG oGs sl1 at hW
  unfold sl1 at g4 g6
  have HW := Lib.hid hW
  clear hW
  have H4 := Lib.hid g4
  have H6 := Lib.hid g6
  have HZ := Lib.hid hsz
  clear g4 g6 hsz
  go_enter Try.func13, Try.ntmps13
  go_wp2_with fail
  rw [← HW.out]
  refine (reach_calls (some ⟨w.heap.size + 1 + 1 + 1 + 1 + 1 + 1, 0, none⟩) 3 [aG0, aG1, aG1] 0 W c7 aOk (by decide)).mono ?_
  rintro e w1 ⟨g, ys, rfl, hrow, hreach, hgl, hb1⟩
  have hys := aList hreach
  subst hys
  have r0 := hrow.cell (i := 0) (b := true) rfl
  have r1 := hrow.cell (i := 1) (b := false) rfl
  have r2 := hrow.cell (i := 2) (b := true) rfl
  have G4a := H4.out.below hb1 (by have := HZ.out; omega)
  have G6a := H6.out.below hb1 (by have := HZ.out; omega)
  have c3a := Kd.C_mono hb1 c3
  have c5a := Kd.C_mono hb1 c5
  have t1 := hbW.trans (hb1.mono hbW.size)
  obtain ⟨p0, p1, p2, p3⟩ := G4a
  go_wp2_with fail
  refine (of_calls _ _ _ _ 1 [aB0] _ c3a (by decide) (by decide)).mono ?_
  rw [aOf0]
  rintro e w2 ⟨v2, rfl, ho2, hb2⟩
  obtain ⟨A2, cc2, rfl, l2, m2, hC2⟩ := ho2.cells
  obtain ⟨g2, rfl, q0, q1, q2⟩ := hC2 0 2 rfl
  have t2 := t1.trans (hb2.mono t1.size)
  have r0b := (hrow.below hb2).cell (i := 0) (b := true) rfl
  have r1b := (hrow.below hb2).cell (i := 1) (b := false) rfl
  have r2b := (hrow.below hb2).cell (i := 2) (b := true) rfl
  have G4b := (show G4 w1 _ _ _ _ _ from ⟨p0, p1, p2, p3⟩).below hb2 (World.lt_of_cell p0)
  have G6b := G6a.below hb2 (World.lt_of_cell G6a.1)
  have c3b := Kd.C_mono hb2 c3a
  have c5b := Kd.C_mono hb2 c5a
  obtain ⟨s0, s1, s2, s3⟩ := G6b
  have HG4b := Lib.hid G4b
  clear p0 p1 p2 p3 r0 r1 r2 G6a G4b
  go_wp2_with fail
  refine (small_calls _ _ _ _ 1 [aB1] _ c5b (by decide) (by decide)).mono ?_
  rw [aSmall1]
  rintro e w3 ⟨rfl, hb3⟩
  have t3 := t2.trans (hb3.mono t2.size)
  obtain ⟨p0, p1, p2, p3⟩ := HG4b.out.below hb3 (World.lt_of_cell HG4b.out.1)
  clear s0 s1 s2 s3
  go_wp2_with fail
  refine (leaf_calls _ _ _ _ 1 [aB0] _ (Kd.C_mono hb3 c3b) (by decide) (by decide)).mono ?_
  rw [aLeaf0]
  rintro e w4 ⟨rfl, hb4⟩
  have t4 := t3.trans (hb4.mono t3.size)
  go_wp2_with fail
  go_ret
  exact ⟨rfl, t4⟩
end Go.Proofs.Ytklhhdhokobbmaa
