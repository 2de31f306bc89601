/- The laws of layer 18: CallsMore returns true. -/
import Derived.Test.YtklhhdhokobbmaaMb
import Derived.Test.YtklhhdhokobbmaaPi
import Derived.Test.YtklhhdhokobbmaaCv
namespace Go.Proofs.Ytklhhdhokobbmaa
set_option linter.unusedVariables false
set_option linter.unusedSimpArgs false
open Go.RowKit

def gMore : Graph := ⟨⟨#[109, 111, 114, 101]⟩, false, false, [aB1]⟩
def oMoreB : Obj := .cells #[.slice none 0 0, .int .i64 3, .int .i64 0, .int .i64 0, .int .i64 0, .int .i64 0, .int .i64 0, .int .i64 21, .int .i64 0, .int .i64 0, .int .i64 0, .int .i64 0] 46
theorem more_mem (w5 : World) (v : Value) (hv : ∀ g, v.ownBlock = some g → g < w5.heap.size) : kGraph.C2 (hideW ((w5.alloc oMoreB).alloc (.cells #[.string ⟨#[109, 111, 114, 101]⟩, .bool false, .bool false, .slice (some ⟨w5.heap.size, 0, none⟩) 1 1] 29)) (withRow noS v)) ((w5.alloc oMoreB).alloc (.cells #[.string ⟨#[109, 111, 114, 101]⟩, .bool false, .bool false, .slice (some ⟨w5.heap.size, 0, none⟩) 1 1] 29)) (some ⟨w5.heap.size + 1, 0, none⟩) [gMore] := by
  have hsub : kBlock.C (hideW ((w5.alloc oMoreB).alloc (.cells #[.string ⟨#[109, 111, 114, 101]⟩, .bool false, .bool false, .slice (some ⟨w5.heap.size, 0, none⟩) 1 1] 29)) (withRow noS v)) (some ⟨w5.heap.size, 0, none⟩) [aB1] := by
    have c5 : kBlock.C2 (hideW ((w5.alloc oMoreB).alloc (.cells #[.string ⟨#[109, 111, 114, 101]⟩, .bool false, .bool false, .slice (some ⟨w5.heap.size, 0, none⟩) 1 1] 29)) (withRow noS v)) (w5.alloc oMoreB) (some ⟨w5.heap.size, 0, none⟩) [aB1] := C2_one kBlock w5 _ rfl _ _ _ _ (kBlock_mk _ aB1 (c0 := 0) (by unfold Block.wf; decide) (by decide) (by decide) (C_nil kOp _ none))
    intro i x hx
    obtain ⟨ad, cs, e, hk, hc⟩ := c5 i x hx
    refine ⟨ad, cs, e, hk, fun j u hu => ?_⟩
    injection e with e
    subst e
    have hb : ((⟨w5.heap.size, 0, none⟩ : Addr).add (i * kBlock.size + j)).block = w5.heap.size := by unfold Addr.add; split <;> rfl
    exact hide_cell.2 ⟨withRow_false.2 ⟨rfl, fun e => by rw [hb] at e; have := hv _ e; omega⟩, (Sub.of_below (below_alloc' _ _)) _ _ (hc j u hu)⟩
  exact C2_one kGraph (w5.alloc oMoreB) _ (by simp) _ gMore _ _ (kGraph_mk _ gMore (by unfold Graph.wf maxLen; decide) (by decide) (by decide) hsub)

set_option maxHeartbeats 4000000 in
set_option maxRecDepth 100000 in
theorem callsMore_law (w : World) (A : Option Addr) (c : Nat) (gs : List Graph) (hlc : gs.length ≤ c) (hcm : c ≤ maxLen) (hC : kGraph.C w A gs) (x : Int) (hx : (Lit.int .u8 x).wf = true) : Calls Try.prog 7 #[.slice A gs.length c, .int .u8 x] w fun e w' => e = .returned (.bool true) ∧ Below w.heap.size w w' := by
  obtain ⟨hx0, hx1⟩ := u8_bounds hx
  clear hx
  have hlm := Nat.le_trans hlc hcm
  have hlm' : gs.length ≤ 9223372036854775807 := hlm
  cases hr : gsFew gs 1000 with
  | false =>
    have HR := Lib.hid hr
    clear hr
    go_enter Try.func7, Try.ntmps7
    go_wp2_with fail
    refine (callsAwake_calls _).mono ?_
    rintro e w1 ⟨rfl, hb1⟩
    go_wp2_with fail
    refine (gsFew_calls _ _ _ _ _ (Kd.C_mono hb1 hC) hlm).mono ?_
    rw [HR.out]
    rintro e w2 ⟨rfl, hb2⟩
    go_wp2_with fail
    refine (callsAwake_calls _).mono ?_
    rintro e w3 ⟨rfl, hb3⟩
    go_wp2_with fail
    go_ret
    exact ⟨rfl, hb1.trans ((hb2.mono hb1.size).trans (hb3.mono (Nat.le_trans hb1.size hb2.size)))⟩
  | true =>
    have hok := gsFew_ok hr
    have h60 := hok.1
    have hg60 := (gsFew_parts hr).1
    have HR := Lib.hid hr
    have HOK := Lib.hid hok
    clear hr hok
    by_cases hn0 : gs.length = 0
    · have z1 : ((gs.length : Int) == 0) = true := by simpa using hn0
      have z2 : (gs.length == 0) = true := by simpa using hn0
      have z3 : decide (gs.length = 0) = true := by simpa using hn0
      clear hn0
      go_enter Try.func7, Try.ntmps7
      go_wp2_with fail
      refine (callsAwake_calls _).mono ?_
      rintro e w1 ⟨rfl, hb1⟩
      go_wp2_with fail
      refine (gsFew_calls _ _ _ _ _ (Kd.C_mono hb1 hC) hlm).mono ?_
      rw [HR.out]
      rintro e w2 ⟨rfl, hb2⟩
      go_wp2_with fail
      refine (callsAwake_calls _).mono ?_
      rintro e w3 ⟨rfl, hb3⟩
      go_wp2_with fail
      go_ret
      exact ⟨rfl, hb1.trans ((hb2.mono hb1.size).trans (hb3.mono (Nat.le_trans hb1.size hb2.size)))⟩
    · have z1 : ((gs.length : Int) == 0) = false := by simpa using hn0
      have z2 : (gs.length == 0) = false := by simpa using hn0
      have hpos : 0 < gs.length := by omega
      obtain ⟨i, hi, he⟩ := tmod_index hx0 hpos
      clear hn0
      go_enter Try.func7, Try.ntmps7
      go_wp2_with fail
      refine (callsAwake_calls _).mono ?_
      rintro e w1 ⟨rfl, hb1⟩
      go_wp2_with fail
      refine (gsFew_calls _ _ _ _ _ (Kd.C_mono hb1 hC) hlm).mono ?_
      rw [HR.out]
      rintro e w2 ⟨rfl, hb2⟩
      have t2 := hb1.trans (hb2.mono hb1.size)
      have hCd : kGraph.C2 (hideW (w2.alloc (.cells #[] 29)) (withRow noS (.slice (some ⟨w2.heap.size, 0, none⟩) 0 0))) (w2.alloc (.cells #[] 29)) A gs := Kd.C2_hide (Kd.C_sub (sub_hide (below_alloc' w2 _) (fun g hg => by unfold withRow noS at hg; simp [Value.ownBlock] at hg; omega)) (Kd.C_mono t2 hC))
      go_wp2_with (first
        | (at_builtin; refine wpList_append_k elGraph (S := noS) (ys := [gMore]) rfl _ _ rfl (w := w5) w2.heap.size own5 hB7 hM rfl rfl hlen7 hw5 ?_; intro v6 w6 hg6)
        | (at_builtin; refine wpList_append_k elGraph (S := noS) rfl _ _ rfl (w := w2.alloc (.cells #[] 29)) w2.heap.size (OwnK.empty kGraph 29 noS w2 w2.heap.size (Nat.le_refl _)) (Below.refl _ _) hCd rfl rfl (by simp; omega) (by simp) ?_; intro v5 w5 hg5; have own5 := hg5.own; rw [List.nil_append] at own5; have hw5 : w2.heap.size ≤ w5.heap.size := (((Below.refl w2.heap.size w2).alloc (Nat.le_refl _) _).trans hg5.below).size; have hb25 : Below w2.heap.size w2 w5 := ((Below.refl w2.heap.size w2).alloc (Nat.le_refl _) _).trans hg5.below; have hM := more_mem w5 v5 (fun g hg => (own5.block g hg).2); have hB7 := (below_alloc' w5 oMoreB).trans ((below_alloc' (w5.alloc oMoreB) (.cells #[.string ⟨#[109, 111, 114, 101]⟩, .bool false, .bool false, .slice (some ⟨w5.heap.size, 0, none⟩) 1 1] 29)).mono (by simp)); have hlen7 : gs.length + ([gMore] : List Graph).length ≤ 100000000 := by (have : ([gMore] : List Graph).length = 1 := rfl; omega)))
      obtain ⟨A6, c6, rfl, l6, m6, hC6⟩ := hg6.own.read
      have hn1 : (gs ++ [gMore]).length = gs.length + 1 := by simp
      rw [hn1] at l6 ⊢
      have t6 := t2.trans ((hb25.trans hg6.below).mono t2.size)
      have hokm : GsOk (gs ++ [gMore]) := gsOk_more HOK.out hg60 aOf1 (by decide)
      have HOM := Lib.hid hokm
      have HN1 := Lib.hid hn1
      clear hokm hn1 hM own5 hb25 hg5 hg6 hCd hB7 hlen7
      refine (reach_calls _ _ _ i _ (Kd.C_mono t6 hC) HOK.out hi).mono ?_
      rintro e w7 ⟨g7, ys, rfl, hrow7, his7, hg7, hb7⟩
      have t7 := t6.trans (hb7.mono t6.size)
      have hC7 := Kd.C_mono hb7 hC6
      have hr2 := reach_calls A6 c6 (gs ++ [gMore]) i w7 hC7 HOM.out (by rw [HN1.out]; omega)
      unfold MadeReach at hr2
      rw [HN1.out] at hr2
      have HR2 := Lib.hid hr2
      clear hr2
      go_wp2_with fail
      refine HR2.out.mono ?_
      rintro e w8 ⟨g8, zs, rfl, hrow8, his8, hg8, hb8⟩
      have hzs := more_list (m := gMore) HOK.out aOf1 hi his7 his8
      subst hzs
      have hyl := his7.1
      have t8 := t7.trans (hb8.mono t7.size)
      have hC8 := Kd.C_mono hb8 hC7
      have hrow7b := hrow7.below hb8
      have q8 : w8.cell? ⟨g8, gs.length, none⟩ = some (.bool false) := hrow8.cell (by rw [List.getElem?_append_right (by omega), hyl]; simp)
      have HY := Lib.hid hyl
      clear his7 his8 hrow7 hyl
      go_wp2_with fail
      go_loopw [9] (fun v wr => ∃ k : Nat, k ≤ gs.length ∧ v = .int .i64 k ∧ ∃ n, wr = w8.drewN n) (fun v _ => gs.length - (intOf v).toNat)
      case atStart => exact ⟨0, Nat.zero_le _, rfl, 0, rfl⟩
      case round =>
        obtain ⟨k, hk, rfl, n, rfl⟩ := hrel
        by_cases hlt : k < gs.length
        · obtain ⟨b, hb⟩ := get_some ys k (by rw [HY.out]; exact hlt)
          have f7 := hrow7b.cell hb
          have f8 := hrow8.cell (i := k) (b := b) (by rw [List.getElem?_append_left (by rw [HY.out]; exact hlt)]; exact hb)
          clear hb
          go_wp2_with fail
          go_quiet (fail)
          go_wp2_with fail
          exact ⟨⟨k + 1, by omega, by go_num, _, rfl⟩, by simp [intOf]; omega⟩
        · have t8n := Below.drewN t8 n
          have hr3 := reach_calls A6 c6 (gs ++ [gMore]) gs.length (w8.drewN n) (Kd.C_mono (Below.drewN (Below.refl w8.heap.size w8) n) hC8) HOM.out (by rw [HN1.out]; omega)
          unfold MadeReach at hr3
          rw [HN1.out] at hr3
          have HR3 := Lib.hid hr3
          clear hr3
          go_wp2_with fail
          refine HR3.out.mono ?_
          rintro e w9 ⟨g9, us, rfl, hrow9, his9, hg9, hb9⟩
          have hus := more_end (m := gMore) HOK.out aOf1 his9
          subst hus
          have t9 := t8n.trans (hb9.mono t8n.size)
          have q9 : w9.cell? ⟨g9, gs.length, none⟩ = some (.bool true) := hrow9.cell (by rw [List.getElem?_append_right (by simp)]; simp)
          clear his9
          go_wp2_with fail
          go_loopw [11] (fun v wr => ∃ k : Nat, k ≤ gs.length ∧ v = .int .i64 k ∧ wr = w9) (fun v _ => gs.length - (intOf v).toNat)
          case atStart => exact ⟨0, Nat.zero_le _, rfl, rfl⟩
          case round =>
            obtain ⟨k2, hk2, rfl, rfl⟩ := hrel
            by_cases hlt2 : k2 < gs.length
            · have f9 := hrow9.cell (i := k2) (b := false) (by rw [List.getElem?_append_left (by simpa using hlt2), List.getElem?_replicate, if_pos hlt2])
              go_wp2_with fail
              exact ⟨⟨k2 + 1, by omega, by go_num, by trivial⟩, by simp [intOf]; omega⟩
            · go_wp2_with fail
              go_ret
              exact ⟨rfl, t9⟩
end Go.Proofs.Ytklhhdhokobbmaa
