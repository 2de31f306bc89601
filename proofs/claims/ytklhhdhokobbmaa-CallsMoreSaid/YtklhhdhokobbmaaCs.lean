/- The document's Reach. -/
import Derived.Test.YtklhhdhokobbmaaPh
import Derived.Test.YtklhhdhokobbmaaCp
import Derived.Test.YtklhhdhokobbmaaCj
namespace Go.Proofs.Ytklhhdhokobbmaa
set_option linter.unusedVariables false
set_option linter.unusedSimpArgs false
open Go.RowKit

set_option maxHeartbeats 4000000 in
set_option maxRecDepth 100000 in
theorem refReach_calls (A : Option Addr) (c : Nat) (gs : List Graph) (i : Nat) (w : World) (hC : kGraph.C w A gs) (hok : GsOk gs) (hi : i < gs.length) : Calls Try.prog 22 #[.slice A gs.length c, .int .i64 i] w (MadeReach w gs i) := by
  have hlen := hok.1
  have HOK := Lib.hid hok
  obtain ⟨W1, hmk, hrow, hb1, hz1⟩ := make_bools gs.length (by omega) w
  have hcell := hrow.cell (i := i) (b := false) (by rw [List.getElem?_replicate, if_pos hi])
  have hfz := hrow.frozen i
  obtain ⟨hr2, hg2⟩ := hrow.set i true
  have hb2 := hb1.grown hg2 hb1.size (fun k hk => by injection hk with e; omega)
  have hfirst := RS.first hi
  have HF := Lib.hid hfirst
  clear hok hz1 hrow hb1 hfirst
  go_enter Try.func22, Try.ntmps22
  go_upto_region 3 with fail
  generalize W1.setCell ⟨w.heap.size, i, none⟩ (.bool true) = W2 at *
  clear hcell hfz hmk hg2
  go_wp2_with fail
  go_loopw [6] (fun v wr => ∃ (r : Nat) (xs : List Bool), r ≤ gs.length ∧ v = .int .i64 r ∧ RS gs i xs ∧ (RClosed gs xs ∨ offs xs + r + 1 ≤ gs.length) ∧ RowB wr w.heap.size xs ∧ Below w.heap.size w wr) (fun v _ => gs.length - (intOf v).toNat)
  case atStart => exact ⟨0, _, Nat.zero_le _, rfl, HF.out.1, .inr HF.out.2, hr2, hb2⟩
  case round =>
    obtain ⟨r, xs0, hr, rfl, hrs, hcl, hrow0, hbr0⟩ := hrel
    by_cases hlt : r < gs.length
    · have hm0 := RMid.start hrs
      have HRS := Lib.hid hrs
      have HCL := Lib.hid hcl
      have HM := Lib.hid hm0
      clear hrs hcl hm0
      go_wp2_with fail
      go_loopw [7] (fun v wr => ∃ (j : Nat) (xs : List Bool), j ≤ gs.length ∧ v = .int .i64 j ∧ RMid gs i xs0 j xs ∧ RowB wr w.heap.size xs ∧ Below w.heap.size w wr) (fun v _ => gs.length - (intOf v).toNat)
      case atStart => exact ⟨0, xs0, Nat.zero_le _, rfl, HM.out, hrow0, hbr0⟩
      case round =>
        obtain ⟨j, xs1, hj, rfl, hmid, hrow1, hbr1⟩ := hrel
        by_cases hltj : j < gs.length
        · have hin0 := RInn.start hmid
          have HIN := Lib.hid hin0
          obtain ⟨g, hg⟩ := get_some gs j hltj
          have HG := Lib.hid hg
          clear hmid hin0 hg
          go_wp2_with fail
          go_loopw [8] (fun v wr => ∃ (k : Nat) (xs : List Bool), k ≤ gs.length ∧ v = .int .i64 k ∧ RInn gs i xs0 j k xs ∧ RowB wr w.heap.size xs ∧ Below w.heap.size w wr) (fun v _ => gs.length - (intOf v).toNat)
          case atStart => exact ⟨0, xs1, Nat.zero_le _, rfl, HIN.out, hrow1, hbr1⟩
          case round =>
            obtain ⟨k, xs, hk, rfl, hinn, hrow, hbr⟩ := hrel
            by_cases hltk : k < gs.length
            · obtain ⟨bj, hbj⟩ := get_some xs j (by rw [hinn.mid.rs.len]; exact hltj)
              have f0 := hrow.cell hbj
              cases bj with
              | false =>
                have hs := hinn.skip (fun h => by have := h.1; unfold On at this; rw [hbj] at this; simp at this)
                have HS := Lib.hid hs
                clear hs hbj hinn
                go_wp2_with fail
                exact ⟨⟨k + 1, xs, by omega, by go_num, HS.out, hrow, hbr⟩, by simp [intOf]; omega⟩
              | true =>
                obtain ⟨ad, A0, c0, rfl, e0, e1, e2, e3, -, l0, m0, g0⟩ := Graph_at (Kd.C_mono hbr hC) HG.out
                have hl0 := len_le l0 m0
                cases hcb : callsB g.blocks (k : Int) with
                | false =>
                  have hs := hinn.skip (fun h => by have := (cedge_iff HG.out).1 h.2; rw [hcb] at this; simp at this)
                  have HS := Lib.hid hs
                  have HC := Lib.hid hcb
                  clear hs hbj hinn hcb
                  go_wp2_with fail
                  refine (refCalls_calls _ _ _ _ _ _ _ _ g0 (Nat.le_trans l0 m0)).mono ?_
                  rw [HC.out]
                  rintro e W5 ⟨rfl, hb5⟩
                  go_wp2_with fail
                  exact ⟨⟨k + 1, xs, by omega, by go_num, HS.out, hrow.below hb5, hbr.trans (hb5.mono hbr.size)⟩, by simp [intOf]; omega⟩
                | true =>
                  have hs := hinn.set hbj ((cedge_iff HG.out).2 hcb) hltk
                  obtain ⟨bk, hbk⟩ := get_some xs k (by rw [hinn.mid.rs.len]; exact hltk)
                  have HS := Lib.hid hs
                  have HC := Lib.hid hcb
                  clear hs hbj hinn hcb
                  go_wp2_with fail
                  refine (refCalls_calls _ _ _ _ _ _ _ _ g0 (Nat.le_trans l0 m0)).mono ?_
                  rw [HC.out]
                  rintro e W5 ⟨rfl, hb5⟩
                  have hrow5 := hrow.below hb5
                  have d0 := hrow5.cell hbk
                  have d1 := hrow5.frozen k
                  have hset := hrow5.set k true
                  have hb5' := hbr.trans (hb5.mono hbr.size)
                  have HSET := Lib.hid hset
                  clear hset hbk f0 e0 e1 e2 e3
                  go_wp2_with fail
                  exact ⟨⟨k + 1, _, by omega, by go_num, HS.out, HSET.out.1, hb5'.grown HSET.out.2 hb5'.size (fun k hk => by injection hk with e; omega)⟩, by simp [intOf]; omega⟩
            · obtain rfl : k = gs.length := by omega
              have hd := RInn.done HOK.out hinn
              have HD := Lib.hid hd
              clear hd hinn
              go_wp2_with fail
              exact ⟨⟨j + 1, xs, by omega, by go_num, HD.out, hrow, hbr⟩, by simp [intOf]; omega⟩
        · obtain rfl : j = gs.length := by omega
          have hd := RMid.round HRS.out HCL.out hmid
          have hrs := hmid.rs
          have HD := Lib.hid hd
          have HR2 := Lib.hid hrs
          clear hd hmid hrs
          go_wp2_with fail
          exact ⟨⟨r + 1, xs1, by omega, by go_num, HR2.out, HD.out, hrow1, hbr1⟩, by simp [intOf]; omega⟩
    · obtain rfl : r = gs.length := by omega
      have hfin : RClosed gs xs0 := hcl.resolve_right (by omega)
      have hres := hrs.isReach hfin
      have HR := Lib.hid hres
      clear hres hfin hcl hrs
      go_wp2_with fail
      go_ret
      exact ⟨_, xs0, rfl, hrow0, HR.out, Nat.le_refl _, hbr0⟩
end Go.Proofs.Ytklhhdhokobbmaa
