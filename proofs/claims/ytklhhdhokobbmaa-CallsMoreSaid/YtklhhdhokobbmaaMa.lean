/- The laws of layer 18: CallsOf returns true. -/
import Derived.Test.YtklhhdhokobbmaaCr
import Derived.Test.YtklhhdhokobbmaaCn
import Derived.Deep.RegionHeld3
import Derived.Test.YtklhhdhokobbmaaLg
namespace Go.Proofs.Ytklhhdhokobbmaa
set_option linter.unusedVariables false
set_option linter.unusedSimpArgs false
open Go.RowKit

/-- A graph lies in four cells at an address. -/
def A4 (w : World) (ad : Addr) (nm : ByteArray) (kp lf : Bool) (s : Value) : Prop := w.cell? ad = some (.string nm) ∧ w.cell? ⟨ad.block, ad.off + 1, none⟩ = some (.bool kp) ∧ w.cell? ⟨ad.block, ad.off + 2, none⟩ = some (.bool lf) ∧ w.cell? ⟨ad.block, ad.off + 3, none⟩ = some s
theorem A4.below {w w1 : World} {ad : Addr} {nm : ByteArray} {kp lf : Bool} {s : Value} (hb : Below w.heap.size w w1) (h : A4 w ad nm kp lf s) : A4 w1 ad nm kp lf s :=
  ⟨(hb.cell (World.lt_of_cell h.1)).trans h.1, (hb.cell (World.lt_of_cell h.2.1)).trans h.2.1, (hb.cell (World.lt_of_cell h.2.2.1)).trans h.2.2.1, (hb.cell (World.lt_of_cell h.2.2.2)).trans h.2.2.2⟩
theorem gsFew_ok {gs : List Graph} {d : Int} (h : gsFew gs d = true) : GsOk gs := by
  obtain ⟨h1, h2⟩ := gsFew_parts h
  refine ⟨by omega, fun g hg => ⟨(h2 g hg).1, fun x hx => blocksRight_calls (h2 g hg).2 x (mem_ofList.1 hx)⟩⟩

set_option maxHeartbeats 4000000 in
set_option maxRecDepth 100000 in
theorem callsOf_law (w : World) (A : Option Addr) (c : Nat) (gs : List Graph) (hlc : gs.length ≤ c) (hcm : c ≤ maxLen) (hC : kGraph.C w A gs) : Calls Try.prog 3 #[.slice A gs.length c] w fun e w' => e = .returned (.bool true) ∧ Below w.heap.size w w' := by
  cases hr : gsFew gs 1000 with
  | false =>
    have HR := Lib.hid hr
    clear hr
    have hlm := Nat.le_trans hlc hcm
    go_enter Try.func3, Try.ntmps3
    go_wp2_with fail
    refine (callsAwake_calls _).mono ?_
    rintro e w1 ⟨rfl, hb1⟩
    go_wp2_with fail
    refine (gsFew_calls _ _ _ _ _ (Kd.C_mono hb1 hC) hlm).mono ?_
    rw [HR.out]
    rintro e w2 ⟨rfl, hb2⟩
    go_wp2_with fail
    refine (callsAwake_calls _).mono ?_
    rintro e w3 ⟨rfl, hb3⟩
    go_wp2_with fail
    go_ret
    exact ⟨rfl, hb1.trans ((hb2.mono hb1.size).trans (hb3.mono (Nat.le_trans hb1.size hb2.size)))⟩
  | true =>
    obtain ⟨h60, hall⟩ := gsFew_parts hr
    have HR := Lib.hid hr
    have HALL := Lib.hid hall
    clear hr hall
    have hlm := Nat.le_trans hlc hcm
    go_enter Try.func3, Try.ntmps3
    go_wp2_with fail
    refine (callsAwake_calls _).mono ?_
    rintro e w1 ⟨rfl, hb1⟩
    go_wp2_with fail
    refine (gsFew_calls _ _ _ _ _ (Kd.C_mono hb1 hC) hlm).mono ?_
    rw [HR.out]
    rintro e w2 ⟨rfl, hb2⟩
    have t2 := hb1.trans (hb2.mono hb1.size)
    clear hb1 hb2
    go_wp2_with fail
    go_loopw [3] (fun i wr => ∃ k : Nat, k ≤ gs.length ∧ i = .int .i64 k ∧ Below w.heap.size w wr) (fun i _ => gs.length - (intOf i).toNat)
    case atStart => exact ⟨0, Nat.zero_le _, rfl, t2⟩
    case round =>
      obtain ⟨k, hk, rfl, hbr⟩ := hrel
      by_cases hlt : k < gs.length
      · obtain ⟨g, hg⟩ := get_some gs k hlt
        obtain ⟨hfew, hright⟩ := HALL.out g (List.mem_of_getElem? hg)
        have hof := ofList_eq hright
        obtain ⟨ad, A0, c0, rfl, f0, f1, f2, f3, -, l0, m0, g0⟩ := Graph_at (Kd.C_mono hbr hC) hg
        have hl0 := len_le l0 m0
        have hlb := Nat.le_trans l0 m0
        have HOF := Lib.hid hof
        have HF := Lib.hid hfew
        clear hg hof hfew hright
        go_upto_region 7 with (go_at_call 15; refine (refOf_calls _ _ _ _ _ _ _ (by omega) _ g0 hlb).mono ?_; rw [← HOF.out]; rintro e w4 ⟨v4, rfl, ho4, hb4⟩)
        obtain ⟨A4', c4, rfl, l4, m4, hC4⟩ := ho4.read
        have F4 : A4 w4 (ad.add (k * 4)) g.name g.keep g.leaf (.slice A0 g.blocks.length c0) := A4.below hb4 ⟨f0, f1, f2, f3⟩
        have t4 := hbr.trans (hb4.mono hbr.size)
        have G4' := Kd.C_mono ((Below.refl w4.heap.size w4).drew) (Kd.C_mono hb4 g0)
        have hC4d : CellsI w4.drew A4' (ofList g.blocks) := hC4.below (Below.refl _ _).drew
        have hl4 : (ofList g.blocks).length ≤ 9223372036854775807 := len_le l4 m4
        have hlf : leafB g.blocks = decide ((ofList g.blocks).length = 0) := rfl
        generalize hN : ofList g.blocks = N at *
        have HN := Lib.hid hN
        clear hC4 ho4 f0 f1 f2 f3 g0 hN hb4
        by_cases hz : N.length = 0
        · have hlf2 : leafB g.blocks = true := by rw [hlf]; simpa using hz
          have HLF := Lib.hid hlf2
          clear hlf hlf2
          have hz1 : ((N.length : Int) == 0) = true := by simpa using hz
          have hz2 : decide (N.length = 0) = true := by simpa using hz
          have hz3 : (N.length == 0) = true := by simpa using hz
          clear hz
          go_region_held3 (fun w' => w'.cell? (ad.add (k * 4)) = some (.string g.name) ∧ w'.cell? ⟨(ad.add (k * 4)).block, (ad.add (k * 4)).off + 1, none⟩ = some (.bool g.keep) ∧ w'.cell? ⟨(ad.add (k * 4)).block, (ad.add (k * 4)).off + 2, none⟩ = some (.bool g.leaf) ∧ w'.cell? ⟨(ad.add (k * 4)).block, (ad.add (k * 4)).off + 3, none⟩ = some (.slice A0 g.blocks.length c0)) (first | exact F9 | exact F8 | exact F7 | exact F5 | exact F4)
            (first
              | (go_at_call 17; refine (of_calls _ _ _ _ _ _ _ G4' hlb HF.out).mono ?_; rw [HN.out]; rintro e w5 ⟨v5, rfl, ho5, hb5⟩; obtain ⟨A5, c5, rfl, l5, m5, hC5⟩ := ho5.read; have hC4b := hC4d.below hb5; have F5 := A4.below hb5 F4; have G5 := Kd.C_mono hb5 G4')
              | (go_at_call 16; refine (ints_calls _ _ _ _ _ _ _ hC5 hC4b (by unfold maxLen; omega)).mono ?_; rw [show (N == N) = true from by simp]; rintro e w' ⟨rfl, n, rfl⟩; have G6 := Kd.C_mono (Below.drewN (Below.refl w5.heap.size w5) n) G5; have F6 := A4.below (Below.drewN (Below.refl w5.heap.size w5) n) F5)
              | (go_at_call 18; refine (leaf_calls _ _ _ _ _ _ _ G6 hlb HF.out).mono ?_; rw [HLF.out]; rintro e w7 ⟨rfl, hb7⟩; have F7 := A4.below hb7 F6; have G7 := Kd.C_mono hb7 G6)
              | (go_at_call 19; refine (small_calls _ _ _ _ _ _ _ G7 hlb HF.out).mono ?_; rintro e w8 ⟨rfl, hb8⟩; have F8 := A4.below hb8 F7; have G8 := Kd.C_mono hb8 G7)
              | (go_at_call 20; refine (refSmall_calls _ _ _ _ _ _ _ (by omega) _ G8 hlb (HN.out.trans HOF.out)).mono ?_; rintro e w9 ⟨rfl, hb9⟩; have F9 := A4.below hb9 F8))
          go_wp2_with fail
          have t5 := t4.drew.trans (hb5.mono t4.size)
          have t6 := Below.drewN t5 n
          have t7 := t6.trans (hb7.mono t6.size)
          have t8 := t7.trans (hb8.mono t7.size)
          have t9 := t8.trans (hb9.mono t8.size)
          exact ⟨⟨k + 1, by omega, by go_num, t9⟩, by simp [intOf]; omega⟩
        · have hlf2 : leafB g.blocks = false := by rw [hlf]; simpa using hz
          have HLF := Lib.hid hlf2
          clear hlf hlf2
          have hz1 : ((N.length : Int) == 0) = false := by simpa using hz
          have hz2 : decide (N.length = 0) = false := by simpa using hz
          have hz3 : (N.length == 0) = false := by simpa using hz
          clear hz
          go_region_held3 (fun w' => w'.cell? (ad.add (k * 4)) = some (.string g.name) ∧ w'.cell? ⟨(ad.add (k * 4)).block, (ad.add (k * 4)).off + 1, none⟩ = some (.bool g.keep) ∧ w'.cell? ⟨(ad.add (k * 4)).block, (ad.add (k * 4)).off + 2, none⟩ = some (.bool g.leaf) ∧ w'.cell? ⟨(ad.add (k * 4)).block, (ad.add (k * 4)).off + 3, none⟩ = some (.slice A0 g.blocks.length c0)) (first | exact F9 | exact F8 | exact F7 | exact F5 | exact F4)
            (first
              | (go_at_call 17; refine (of_calls _ _ _ _ _ _ _ G4' hlb HF.out).mono ?_; rw [HN.out]; rintro e w5 ⟨v5, rfl, ho5, hb5⟩; obtain ⟨A5, c5, rfl, l5, m5, hC5⟩ := ho5.read; have hC4b := hC4d.below hb5; have F5 := A4.below hb5 F4; have G5 := Kd.C_mono hb5 G4')
              | (go_at_call 16; refine (ints_calls _ _ _ _ _ _ _ hC5 hC4b (by unfold maxLen; omega)).mono ?_; rw [show (N == N) = true from by simp]; rintro e w' ⟨rfl, n, rfl⟩; have G6 := Kd.C_mono (Below.drewN (Below.refl w5.heap.size w5) n) G5; have F6 := A4.below (Below.drewN (Below.refl w5.heap.size w5) n) F5)
              | (go_at_call 18; refine (leaf_calls _ _ _ _ _ _ _ G6 hlb HF.out).mono ?_; rw [HLF.out]; rintro e w7 ⟨rfl, hb7⟩; have F7 := A4.below hb7 F6; have G7 := Kd.C_mono hb7 G6)
              | (go_at_call 19; refine (small_calls _ _ _ _ _ _ _ G7 hlb HF.out).mono ?_; rintro e w8 ⟨rfl, hb8⟩; have F8 := A4.below hb8 F7; have G8 := Kd.C_mono hb8 G7)
              | (go_at_call 20; refine (refSmall_calls _ _ _ _ _ _ _ (by omega) _ G8 hlb (HN.out.trans HOF.out)).mono ?_; rintro e w9 ⟨rfl, hb9⟩; have F9 := A4.below hb9 F8))
          go_wp2_with fail
          have t5 := t4.drew.trans (hb5.mono t4.size)
          have t6 := Below.drewN t5 n
          have t7 := t6.trans (hb7.mono t6.size)
          have t8 := t7.trans (hb8.mono t7.size)
          have t9 := t8.trans (hb9.mono t8.size)
          exact ⟨⟨k + 1, by omega, by go_num, t9⟩, by simp [intOf]; omega⟩
      · obtain rfl : k = gs.length := by omega
        go_wp2_with fail
        go_ret
        exact ⟨rfl, hbr⟩
end Go.Proofs.Ytklhhdhokobbmaa
