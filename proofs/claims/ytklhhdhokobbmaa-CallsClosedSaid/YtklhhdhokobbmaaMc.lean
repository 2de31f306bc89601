/- The laws of layer 18: CallsClosed returns true. -/
import Derived.Test.YtklhhdhokobbmaaMb
namespace Go.Proofs.Ytklhhdhokobbmaa
set_option linter.unusedVariables false
set_option linter.unusedSimpArgs false
open Go.RowKit

/-- What the first k reached ones call. -/
structure NE (gs : List Graph) (xs : List Bool) (k : Nat) (ns : List Bool) : Prop where
  len : ns.length = gs.length
  iff_ : ∀ y, On ns y ↔ ∃ x, x < k ∧ On xs x ∧ CEdge gs x y
structure NI (gs : List Graph) (xs : List Bool) (k : Nat) (os : List Int) (m : Nat) (ns : List Bool) : Prop where
  len : ns.length = gs.length
  iff_ : ∀ y : Nat, On ns y ↔ (∃ x, x < k ∧ On xs x ∧ CEdge gs x y) ∨ ∃ j, j < m ∧ os[j]? = some (y : Int)
theorem NE.start (gs : List Graph) (xs : List Bool) : NE gs xs 0 (List.replicate gs.length false) :=
  ⟨by simp, fun y => ⟨fun h => by
    unfold On at h
    rw [List.getElem?_replicate] at h
    split at h <;> simp at h, fun ⟨x, h, _⟩ => absurd h (by omega)⟩⟩
theorem NE.skip {gs : List Graph} {xs ns : List Bool} {k : Nat} (h : NE gs xs k ns) (hk : ¬ On xs k) : NE gs xs (k + 1) ns :=
  ⟨h.len, fun y => by
    rw [h.iff_ y]
    constructor
    · rintro ⟨x, h1, h2, h3⟩; exact ⟨x, by omega, h2, h3⟩
    · rintro ⟨x, h1, h2, h3⟩
      refine ⟨x, ?_, h2, h3⟩
      by_cases hx : x = k
      · subst hx; exact absurd h2 hk
      · omega⟩
theorem NI.start {gs : List Graph} {xs ns : List Bool} {k : Nat} {os : List Int} (h : NE gs xs k ns) : NI gs xs k os 0 ns :=
  ⟨h.len, fun y => by
    rw [h.iff_ y]
    constructor
    · exact .inl
    · rintro (h | ⟨j, hj, _⟩)
      · exact h
      · omega⟩
theorem NI.step {gs : List Graph} {xs ns : List Bool} {k m : Nat} {os : List Int} {y : Int} (h : NI gs xs k os m ns) (hy : os[m]? = some y) (h0 : 0 ≤ y) (h1 : y < gs.length) : NI gs xs k os (m + 1) (ns.set y.toNat true) :=
  ⟨by simp [h.len], fun z => by
    rw [on_set (by rw [h.len]; omega), h.iff_ z]
    constructor
    · rintro (rfl | h | ⟨j, hj, hz⟩)
      · exact .inr ⟨m, by omega, by rw [hy, Int.toNat_of_nonneg h0]⟩
      · exact .inl h
      · exact .inr ⟨j, by omega, hz⟩
    · rintro (h | ⟨j, hj, hz⟩)
      · exact .inr (.inl h)
      · by_cases hjm : j = m
        · subst hjm
          rw [hy] at hz
          injection hz with e
          left; omega
        · exact .inr (.inr ⟨j, by omega, hz⟩)⟩
theorem NI.done {gs : List Graph} {xs ns : List Bool} {k : Nat} {g : Graph} (hg : gs[k]? = some g) (h : NI gs xs k (ofList g.blocks) (ofList g.blocks).length ns) (hk : On xs k) : NE gs xs (k + 1) ns :=
  ⟨h.len, fun y => by
    rw [h.iff_ y]
    constructor
    · rintro (⟨x, h1, h2, h3⟩ | ⟨j, hj, hz⟩)
      · exact ⟨x, by omega, h2, h3⟩
      · exact ⟨k, by omega, hk, g, hg, List.mem_of_getElem? hz⟩
    · rintro ⟨x, h1, h2, h3⟩
      by_cases hx : x = k
      · subst hx
        obtain ⟨g', hg', hy⟩ := h3
        rw [hg] at hg'
        injection hg' with e
        subst e
        obtain ⟨j, hj, hj2⟩ := List.getElem_of_mem hy
        exact .inr ⟨j, hj, by rw [List.getElem?_eq_getElem hj, hj2]⟩
      · exact .inl ⟨x, by omega, h2, h3⟩⟩
theorem NE.spec {gs : List Graph} {s : Nat} {xs ns : List Bool} (hr : IsReach gs s xs) (h : NE gs xs gs.length ns) (x : Nat) : On xs x ↔ On ns x ∨ x = s := by
  rw [h.iff_ x]
  constructor
  · intro hx
    have hx := (hr.2 x).1 hx
    cases hx with
    | refl => exact .inr rfl
    | step h1 h2 => exact .inl ⟨_, by rw [← hr.1]; exact ((hr.2 _).2 h1).lt, (hr.2 _).2 h1, h2⟩
  · rintro (⟨y, _, h1, h2⟩ | rfl)
    · exact (hr.2 x).2 (((hr.2 y).1 h1).step h2)
    · exact (hr.2 _).2 .refl

set_option maxHeartbeats 4000000 in
set_option maxRecDepth 100000 in
theorem callsClosed_law (w : World) (A : Option Addr) (c : Nat) (gs : List Graph) (hlc : gs.length ≤ c) (hcm : c ≤ maxLen) (hC : kGraph.C w A gs) (x : Int) (hx : (Lit.int .u8 x).wf = true) : Calls Try.prog 5 #[.slice A gs.length c, .int .u8 x] w fun e w' => e = .returned (.bool true) ∧ Below w.heap.size w w' := by
  obtain ⟨hx0, hx1⟩ := u8_bounds hx
  clear hx
  have hlm := Nat.le_trans hlc hcm
  have hlm' : gs.length ≤ 9223372036854775807 := hlm
  cases hr : gsFew gs 1000 with
  | false =>
    have HR := Lib.hid hr
    clear hr
    go_enter Try.func5, Try.ntmps5
    go_wp2_with fail
    refine (callsAwake_calls _).mono ?_
    rintro e w1 ⟨rfl, hb1⟩
    go_wp2_with fail
    refine (gsFew_calls _ _ _ _ _ (Kd.C_mono hb1 hC) hlm).mono ?_
    rw [HR.out]
    rintro e w2 ⟨rfl, hb2⟩
    go_wp2_with fail
    refine (callsAwake_calls _).mono ?_
    rintro e w3 ⟨rfl, hb3⟩
    go_wp2_with fail
    go_ret
    exact ⟨rfl, hb1.trans ((hb2.mono hb1.size).trans (hb3.mono (Nat.le_trans hb1.size hb2.size)))⟩
  | true =>
    have hok := gsFew_ok hr
    have h60 := hok.1
    have HR := Lib.hid hr
    have HOK := Lib.hid hok
    clear hr hok
    by_cases hn0 : gs.length = 0
    · have z1 : ((gs.length : Int) == 0) = true := by simpa using hn0
      have z2 : (gs.length == 0) = true := by simpa using hn0
      have z3 : decide (gs.length = 0) = true := by simpa using hn0
      clear hn0
      go_enter Try.func5, Try.ntmps5
      go_wp2_with fail
      refine (callsAwake_calls _).mono ?_
      rintro e w1 ⟨rfl, hb1⟩
      go_wp2_with fail
      refine (gsFew_calls _ _ _ _ _ (Kd.C_mono hb1 hC) hlm).mono ?_
      rw [HR.out]
      rintro e w2 ⟨rfl, hb2⟩
      go_wp2_with fail
      refine (callsAwake_calls _).mono ?_
      rintro e w3 ⟨rfl, hb3⟩
      go_wp2_with fail
      go_ret
      exact ⟨rfl, hb1.trans ((hb2.mono hb1.size).trans (hb3.mono (Nat.le_trans hb1.size hb2.size)))⟩
    · have z1 : ((gs.length : Int) == 0) = false := by simpa using hn0
      have z2 : (gs.length == 0) = false := by simpa using hn0
      have hpos : 0 < gs.length := by omega
      obtain ⟨i, hi, he⟩ := tmod_index hx0 hpos
      clear hn0
      go_enter Try.func5, Try.ntmps5
      go_wp2_with fail
      refine (callsAwake_calls _).mono ?_
      rintro e w1 ⟨rfl, hb1⟩
      go_wp2_with fail
      refine (gsFew_calls _ _ _ _ _ (Kd.C_mono hb1 hC) hlm).mono ?_
      rw [HR.out]
      rintro e w2 ⟨rfl, hb2⟩
      have t2 := hb1.trans (hb2.mono hb1.size)
      go_wp2_with fail
      refine (reach_calls _ _ _ i _ (Kd.C_mono t2 hC) HOK.out hi).mono ?_
      rintro e w3 ⟨g3, xs, rfl, hrow3, his3, hg3, hb3⟩
      have t3 := t2.trans (hb3.mono t2.size)
      have hg3w : w.heap.size ≤ g3 := Nat.le_trans t2.size hg3
      obtain ⟨w4, hmk, hrow4, hb4, hz4⟩ := make_bools gs.length (by omega) w3
      have t4 := t3.trans (hb4.mono t3.size)
      have hrow3' := hrow3.below hb4
      have hne : g3 < w3.heap.size := hrow3.lt
      have hg4w : w.heap.size ≤ w3.heap.size := t3.size
      have hns := NE.start gs xs
      have HNS := Lib.hid hns
      have HIS := Lib.hid his3
      clear hb1 hb2 hb3 t2 hb4 hrow3 t3 hns his3 he hg3
      go_wp2_with fail
      clear hmk hz4
      go_loopw [8] (fun v wr => ∃ (k : Nat) (ns : List Bool), k ≤ gs.length ∧ v = .int .i64 k ∧ NE gs xs k ns ∧ RowB wr g3 xs ∧ RowB wr w3.heap.size ns ∧ Below w.heap.size w wr) (fun v _ => gs.length - (intOf v).toNat)
      case atStart => exact ⟨0, _, Nat.zero_le _, rfl, HNS.out, hrow3', hrow4, t4⟩
      case round =>
        obtain ⟨k, ns, hk, rfl, hne2, hrx, hrn, hbr⟩ := hrel
        rename World => wo
        by_cases hlt : k < gs.length
        · obtain ⟨g, hg⟩ := get_some gs k hlt
          obtain ⟨hfew, hin⟩ := HOK.out.2 g (List.mem_of_getElem? hg)
          obtain ⟨ad, A0, c0, rfl, f0, f1, f2, f3, -, l0, m0, g0⟩ := Graph_at (Kd.C_mono hbr hC) hg
          have hl0 := len_le l0 m0
          obtain ⟨b, hb⟩ := get_some xs k (by rw [HIS.out.1]; exact hlt)
          have HG := Lib.hid hg
          have HIN := Lib.hid hin
          have HNE := Lib.hid hne2
          have HB := Lib.hid hb
          clear hg hin hne2 hb
          go_wp2_with fail
          refine (of_calls _ _ _ _ _ _ _ g0 (Nat.le_trans l0 m0) hfew).mono ?_
          rintro e w5 ⟨v5, rfl, ho5, hb5⟩
          obtain ⟨A5, c5, rfl, l5, m5, hC5⟩ := ho5.cells
          have hl5 := len_le l5 m5
          have hrx5 := hrx.below hb5
          have hrn5 := hrn.below hb5
          have hlo := hrn.lt
          have t5 := hbr.trans (hb5.mono hbr.size)
          clear f0 f1 f2 f3 g0 hb5 hrx hrn ho5
          cases b with
          | false =>
            have fx := hrx5.cell HB.out
            have hsk := HNE.out.skip (fun h => by have := HB.out; unfold On at h; rw [h] at this; simp at this)
            have HSK := Lib.hid hsk
            clear hsk
            go_wp2_with fail
            go_loopw [10] (fun v wr => v = .int .i64 0 ∧ wr = w5) (fun v _ => 0)
            case atStart => exact ⟨rfl, rfl⟩
            case round =>
              obtain ⟨rfl, rfl⟩ := hrel
              by_cases hz : 0 < (ofList g.blocks).length
              · go_wp2_with fail
                exact ⟨⟨k + 1, ns, by omega, by go_num, HSK.out, hrx5, hrn5, t5⟩, by simp [intOf]; omega⟩
              · go_wp2_with fail
                exact ⟨⟨k + 1, ns, by omega, by go_num, HSK.out, hrx5, hrn5, t5⟩, by simp [intOf]; omega⟩
          | true =>
            have hni := NI.start (os := ofList g.blocks) HNE.out
            have HNI := Lib.hid hni
            clear hni
            go_wp2_with fail
            go_loopw [10] (fun v wr => ∃ (m : Nat) (ms : List Bool), m ≤ (ofList g.blocks).length ∧ v = .int .i64 m ∧ NI gs xs k (ofList g.blocks) m ms ∧ RowB wr w3.heap.size ms ∧ w5.grownBy wr (some w3.heap.size)) (fun v _ => (ofList g.blocks).length - (intOf v).toNat)
            case atStart => exact ⟨0, ns, Nat.zero_le _, rfl, HNI.out, hrn5, grown_refl _ _⟩
            case round =>
              obtain ⟨m, ms, hm, rfl, hni2, hrm, hgr⟩ := hrel
              have hrx6 := hrx5.apart hgr (by simp; omega)
              have fx := hrx6.cell HB.out
              by_cases hltm : m < (ofList g.blocks).length
              · obtain ⟨y, hy⟩ := get_some (ofList g.blocks) m hltm
                obtain ⟨hy0, hyn⟩ := HIN.out y (List.mem_of_getElem? hy)
                obtain ⟨g', rfl, e1, e2, e3⟩ := hC5 m y hy
                have e1' := hgr.cell e1 (by simp; omega)
                have hst := hni2.step hy hy0 hyn
                have hxy : xs[y.toNat]? = some true := by
                  refine (HIS.out.2 y.toNat).2 (((HIS.out.2 k).1 HB.out).step ⟨g, HG.out, ?_⟩)
                  rw [Int.toNat_of_nonneg hy0]
                  exact List.mem_of_getElem? hy
                have fy := hrx6.cell hxy
                obtain ⟨bm, hbm⟩ := get_some ms y.toNat (by rw [hni2.len]; omega)
                have fm := hrm.cell hbm
                have fz := hrm.frozen y.toNat
                have hset := hrm.set y.toNat true
                have HST := Lib.hid hst
                have HSET := Lib.hid hset
                clear hst hset hni2 hy hxy hbm e1 e2
                go_wp2_with fail
                exact ⟨⟨m + 1, _, by omega, by go_num, HST.out, HSET.out.1, grown_trans hgr HSET.out.2⟩, by simp [intOf]; omega⟩
              · obtain rfl : m = (ofList g.blocks).length := by omega
                have hd := hni2.done HG.out HB.out
                have HD := Lib.hid hd
                have t6 := t5.grown hgr t5.size (fun k hk => by injection hk with e; omega)
                clear hd hni2
                go_wp2_with fail
                exact ⟨⟨k + 1, ms, by omega, by go_num, HD.out, hrx6, hrm, t6⟩, by simp [intOf]; omega⟩
        · obtain rfl : k = gs.length := by omega
          have hsp := fun y => NE.spec HIS.out hne2 y
          have hnl := hne2.len
          have HSP := Lib.hid hsp
          have HNL := Lib.hid hnl
          clear hsp hnl hne2
          go_wp2_with fail
          go_loopw [11] (fun v wr => ∃ k : Nat, k ≤ gs.length ∧ v = .int .i64 k ∧ ∃ n, wr = wo.drewN n) (fun v _ => gs.length - (intOf v).toNat)
          case atStart => exact ⟨0, Nat.zero_le _, rfl, 0, rfl⟩
          case round =>
            obtain ⟨k, hk, rfl, n, rfl⟩ := hrel
            by_cases hltk : k < gs.length
            · obtain ⟨b, hb⟩ := get_some xs k (by rw [HIS.out.1]; exact hltk)
              obtain ⟨b2, hb2⟩ := get_some ns k (by rw [HNL.out]; exact hltk)
              have hs := HSP.out k
              unfold On at hs
              rw [hb, hb2] at hs
              have fx := hrx.cell hb
              have fn := hrn.cell hb2
              clear hb hb2
              cases b2 with
              | true =>
                obtain rfl : b = true := by simpa using hs
                clear hs
                go_wp2_with fail
                go_quiet (fail)
                go_wp2_with fail
                exact ⟨⟨k + 1, by omega, by go_num, _, rfl⟩, by simp [intOf]; omega⟩
              | false =>
                have hb3 : b = decide (k = i) := by
                  cases b <;> simp at hs ⊢ <;> exact hs
                clear hs
                by_cases hki : k = i
                · have q1 : ((k : Int) == (i : Int)) = true := by rw [beq_iff_eq]; omega
                  have q2 : (k == i) = true := by simpa using hki
                  obtain rfl : b = true := by rw [hb3]; simpa using hki
                  clear hb3 hki
                  go_wp2_with fail
                  go_quiet (fail)
                  go_wp2_with fail
                  exact ⟨⟨k + 1, by omega, by go_num, _, rfl⟩, by simp [intOf]; omega⟩
                · have q1 : ((k : Int) == (i : Int)) = false := by rw [beq_eq_false_iff_ne]; omega
                  have q2 : (k == i) = false := by simpa using hki
                  obtain rfl : b = false := by rw [hb3]; simpa using hki
                  clear hb3 hki
                  go_wp2_with fail
                  go_quiet (fail)
                  go_wp2_with fail
                  exact ⟨⟨k + 1, by omega, by go_num, _, rfl⟩, by simp [intOf]; omega⟩
            · go_wp2_with fail
              go_ret
              exact ⟨rfl, Below.drewN hbr n⟩
end Go.Proofs.Ytklhhdhokobbmaa
