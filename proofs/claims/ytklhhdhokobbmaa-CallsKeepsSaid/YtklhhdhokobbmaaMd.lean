/- The laws of layer 18: CallsKeeps returns true. -/
import Derived.Test.YtklhhdhokobbmaaMb
import Derived.Test.YtklhhdhokobbmaaCx
import Derived.Test.YtklhhdhokobbmaaLh
namespace Go.Proofs.Ytklhhdhokobbmaa
set_option linter.unusedVariables false
set_option linter.unusedSimpArgs false
open Go.RowKit

theorem add_zero4 (ad : Addr) : ad.add (0 * 4) = ad := by simp [Addr.add]

set_option maxHeartbeats 4000000 in
set_option maxRecDepth 100000 in
theorem callsKeeps_law (w : World) (A : Option Addr) (c : Nat) (gs : List Graph) (hlc : gs.length ≤ c) (hcm : c ≤ maxLen) (hC : kGraph.C w A gs) : Calls Try.prog 6 #[.slice A gs.length c] w fun e w' => e = .returned (.bool true) ∧ Below w.heap.size w w' := by
  have hlm := Nat.le_trans hlc hcm
  have hlm' : gs.length ≤ 9223372036854775807 := hlm
  cases hr : gsFew gs 1000 with
  | false =>
    have HR := Lib.hid hr
    clear hr
    go_enter Try.func6, Try.ntmps6
    go_wp2_with fail
    refine (callsAwake_calls _).mono ?_
    rintro e w1 ⟨rfl, hb1⟩
    go_wp2_with fail
    refine (gsFew_calls _ _ _ _ _ (Kd.C_mono hb1 hC) hlm).mono ?_
    rw [HR.out]
    rintro e w2 ⟨rfl, hb2⟩
    go_wp2_with fail
    refine (callsAwake_calls _).mono ?_
    rintro e w3 ⟨rfl, hb3⟩
    go_wp2_with fail
    go_ret
    exact ⟨rfl, hb1.trans ((hb2.mono hb1.size).trans (hb3.mono (Nat.le_trans hb1.size hb2.size)))⟩
  | true =>
    have hok := gsFew_ok hr
    have h60 := hok.1
    have HR := Lib.hid hr
    have HOK := Lib.hid hok
    clear hr hok
    by_cases hn0 : gs.length = 0
    · have z1 : ((gs.length : Int) == 0) = true := by simpa using hn0
      have z2 : (gs.length == 0) = true := by simpa using hn0
      have z3 : decide (gs.length = 0) = true := by simpa using hn0
      clear hn0
      go_enter Try.func6, Try.ntmps6
      go_wp2_with fail
      refine (callsAwake_calls _).mono ?_
      rintro e w1 ⟨rfl, hb1⟩
      go_wp2_with fail
      refine (gsFew_calls _ _ _ _ _ (Kd.C_mono hb1 hC) hlm).mono ?_
      rw [HR.out]
      rintro e w2 ⟨rfl, hb2⟩
      go_wp2_with fail
      refine (callsAwake_calls _).mono ?_
      rintro e w3 ⟨rfl, hb3⟩
      go_wp2_with fail
      go_ret
      exact ⟨rfl, hb1.trans ((hb2.mono hb1.size).trans (hb3.mono (Nat.le_trans hb1.size hb2.size)))⟩
    · have z1 : ((gs.length : Int) == 0) = false := by simpa using hn0
      have z2 : (gs.length == 0) = false := by simpa using hn0
      have hpos : 0 < gs.length := by omega
      obtain ⟨g, hg⟩ := get_some gs 0 hpos
      obtain ⟨hfew, hright⟩ := (gsFew_parts HR.out).2 g (List.mem_of_getElem? hg)
      have hof := ofList_eq hright
      have hfews : ∀ g ∈ gs, blocksFew g.blocks = true := fun g hg => ((gsFew_parts HR.out).2 g hg).1
      have hcl := blocksCalls_few hfew g.blocks.length
      rw [List.take_length] at hcl
      have hcl2 := compact_len (sorted (blocksCalls g.blocks))
      rw [sorted_length] at hcl2
      have hol : (ofList g.blocks).length ≤ 60200 := Nat.le_trans hcl2 hcl
      have HG := Lib.hid hg
      have HF := Lib.hid hfew
      have HOF := Lib.hid hof
      have HFS := Lib.hid hfews
      clear hn0 hg hfew hright hof hfews hcl hcl2
      go_enter Try.func6, Try.ntmps6
      go_wp2_with fail
      refine (callsAwake_calls _).mono ?_
      rintro e w1 ⟨rfl, hb1⟩
      go_wp2_with fail
      refine (gsFew_calls _ _ _ _ _ (Kd.C_mono hb1 hC) hlm).mono ?_
      rw [HR.out]
      rintro e w2 ⟨rfl, hb2⟩
      have t2 := hb1.trans (hb2.mono hb1.size)
      go_wp2_with fail
      refine (copies_calls _ _ _ _ (Kd.C_mono t2 hC) (by omega) HFS.out).mono ?_
      rintro e w3 ⟨A3, c3, rfl, l3, m3, hC3, hb3⟩
      have t3 := t2.trans (hb3.mono t2.size)
      clear hb1 hb2 hb3 t2
      go_wp2_with fail
      refine (reach_calls _ _ _ 0 _ (Kd.C_mono t3 hC) HOK.out hpos).mono ?_
      rintro e w4 ⟨g4, ys, rfl, hrow4, his4, hg4, hb4⟩
      have hyl := his4.1
      clear his4
      have s4 : Below w3.heap.size w3 w4 := hb4
      clear hb4
      go_wp2_with fail
      go_loopw [5] (fun i wr => ∃ (k : Nat) (xs : List Bool), i = .int .i64 k ∧ k ≤ gs.length ∧ xs.length = gs.length ∧ RowB wr g4 xs ∧ Below w3.heap.size w3 wr) (fun i _ => gs.length - (intOf i).toNat)
      case atStart => exact ⟨0, ys, rfl, Nat.zero_le _, hyl, hrow4, s4⟩
      case round =>
        obtain ⟨k, xs, rfl, hk, hxl, hrow, hbr⟩ := hrel
        rename World => wo
        by_cases hlt : k < gs.length
        · obtain ⟨b, hb⟩ := get_some xs k (by rw [hxl]; exact hlt)
          have f0 := hrow.cell hb
          have f1 := hrow.frozen k
          have hset := hrow.set k false
          have HS := Lib.hid hset
          have HX := Lib.hid hxl
          clear hb hset hxl
          go_wp2_with fail
          exact ⟨⟨k + 1, _, by go_num, by omega, by simpa using HX.out, HS.out.1, hbr.grown HS.out.2 hbr.size (fun k hk => by injection hk with e; omega)⟩, by simp [intOf]; omega⟩
        · have u3 := t3.trans (hbr.mono t3.size)
          obtain ⟨ad, A0, c0, rfl, f0, f1, f2, f3, -, l0, m0, g0⟩ := Graph_at (Kd.C_mono u3 hC) HG.out
          rw [add_zero4] at f0 f1 f2 f3
          have hl0 := len_le l0 m0
          have hlb := Nat.le_trans l0 m0
          have FA : A4 wo ad g.name g.keep g.leaf (.slice A0 g.blocks.length c0) := ⟨f0, f1, f2, f3⟩
          clear hxl
          go_wp2_with fail
          refine (of_calls _ _ _ _ _ _ _ g0 hlb HF.out).mono ?_
          rintro e w5 ⟨v5, rfl, ho5, hb5⟩
          have FB := A4.below hb5 FA
          have g5 := Kd.C_mono hb5 g0
          have s5 := hbr.trans (hb5.mono hbr.size)
          have hwo : w3.heap.size ≤ wo.heap.size := hbr.size
          clear f0 f1 f2 f3 hrow hbr
          go_wp2_with fail
          go_loopw [7] (fun i wr => ∃ (k : Nat) (zs : List Int), i = .int .i64 k ∧ k ≤ zs.length ∧ zs.length = (ofList g.blocks).length ∧ OwnI wr wo.heap.size v5 zs ∧ Below wo.heap.size w5 wr) (fun i _ => (ofList g.blocks).length - (intOf i).toNat)
          case atStart => exact ⟨0, _, rfl, Nat.zero_le _, rfl, ho5, Below.refl _ _⟩
          case round =>
            obtain ⟨k2, zs, rfl, hk2, hzl, ho, hbr⟩ := hrel
            by_cases hlt2 : k2 < zs.length
            · obtain ⟨Az, cz, rfl, hc1, hc2, hCz⟩ := ho.cells
              obtain ⟨y, hy⟩ := get_some zs k2 hlt2
              obtain ⟨gz, rfl, h4, h5, h6⟩ := hCz k2 y hy
              have hset := OwnI.set ho hlt2 (-7)
              have HS := Lib.hid hset
              have HL := Lib.hid hzl
              clear hset hy hCz
              go_wp2_with fail
              obtain ⟨s1, s2, s3⟩ := HS.out
              exact ⟨⟨k2 + 1, _, by go_num, by simp; omega, by simpa using hzl, s1, hbr.trans s2⟩, by simp [intOf]; omega⟩
            · obtain ⟨Az, cz, rfl, hc1, hc2, hCz⟩ := ho.cells
              have hke : k2 = zs.length := by omega
              have s6 := s5.trans (hbr.mono hwo)
              have t6 := t3.trans (s6.mono t3.size)
              clear hCz FB g5 FA
              go_wp2_with fail
              refine (reach_calls _ _ _ 0 _ (Kd.C_mono t6 hC) HOK.out hpos).mono ?_
              rintro e w7 ⟨g8, xs, rfl, hrow8, his8, hg8, hb7⟩
              have hon : xs[0]? = some true := (his8.2 0).2 .refl
              have q8 := hrow8.cell hon
              have t7 := t6.trans (hb7.mono t6.size)
              have s7 := s6.trans (hb7.mono s6.size)
              obtain ⟨ad2, A02, c02, e2, f0, f1, f2, f3, -, l02, m02, g02⟩ := Graph_at (Kd.C_mono t7 hC) HG.out
              injection e2 with e2
              subst e2
              rw [add_zero4] at f0 f1 f2 f3
              have hl02 := len_le l02 m02
              have hlb2 := Nat.le_trans l02 m02
              have F7 : A4 w7 ad g.name g.keep g.leaf (.slice A02 g.blocks.length c02) := ⟨f0, f1, f2, f3⟩
              have C7 := Kd.C_mono t7.drew hC
              have K7 := Kd.C_mono s7.drew hC3
              clear hon hrow8 his8 f0 f1 f2 f3
              go_wp2_with fail
              go_region_held3 (fun w' => w'.cell? ⟨g8, 0, none⟩ = some (.bool true) ∧ (w'.cell? ad = some (.string g.name) ∧ w'.cell? ⟨ad.block, ad.off + 1, none⟩ = some (.bool g.keep) ∧ w'.cell? ⟨ad.block, ad.off + 2, none⟩ = some (.bool g.leaf) ∧ w'.cell? ⟨ad.block, ad.off + 3, none⟩ = some (.slice A02 g.blocks.length c02))) (first | exact ⟨q11, F11⟩ | exact ⟨q10, F10⟩ | exact ⟨q9, F9⟩ | exact ⟨q8, F7⟩)
                (first
                  | (go_at_call 24; refine (sames_calls _ _ _ _ _ _ C7 K7 (by omega)).mono ?_; rintro e w9 ⟨rfl, hb9⟩; have F9 := A4.below hb9 F7; have q9 := (Sub.of_below hb9) _ _ q8; have G9 := Kd.C_mono hb9 (Kd.C_mono (Below.refl w7.heap.size w7).drew g02))
                  | (go_at_call 17; refine (of_calls _ _ _ _ _ _ _ G9 hlb2 HF.out).mono ?_; rintro e w10 ⟨v10, rfl, ho10, hb10⟩; obtain ⟨A10, c10, rfl, l10, m10, hC10⟩ := ho10.read; have F10 := A4.below hb10 F9; have q10 := (Sub.of_below hb10) _ _ q9; have G10 := Kd.C_mono hb10 G9)
                  | (go_at_call 15; refine (refOf_calls _ _ _ _ _ _ _ (by omega) _ G10 hlb2).mono ?_; rw [← HOF.out]; rintro e w11 ⟨v11, rfl, ho11, hb11⟩; obtain ⟨A11, c11, rfl, l11, m11, hC11⟩ := ho11.read; have F11 := A4.below hb11 F10; have q11 := (Sub.of_below hb11) _ _ q10; have hC10b := hC10.below hb11)
                  | (go_at_call 16; refine (ints_calls _ _ _ _ _ _ _ hC10b hC11 (by unfold maxLen; omega)).mono ?_; rw [show (ofList g.blocks == ofList g.blocks) = true from by simp]; rintro e w' ⟨rfl, n, rfl⟩))
              go_wp2_with fail
              go_ret
              have t9 := t7.drew.trans (hb9.mono t7.size)
              have t10 := t9.trans (hb10.mono t9.size)
              have t11 := t10.trans (hb11.mono t10.size)
              exact ⟨rfl, Below.drewN t11 n⟩
end Go.Proofs.Ytklhhdhokobbmaa
