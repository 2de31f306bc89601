/- Layer 19 (live): the sets of a graph, In. -/
import Derived.Test.YtobhjjbhlnbcpaaEc
import Derived.Test.YtobhjjbhlnbcpaaLk
namespace Go.Proofs.Ytobhjjbhlnbcpaa
set_option linter.unusedVariables false
set_option linter.unusedSimpArgs false
open Go.RowKit

theorem OwnF.cellU {w : World} {g n cap : Nat} {xs : List Nat} {F : Nat → Prop} (h : OwnF oU 51 w (.slice (some ⟨g, 0, none⟩) n cap) xs F) {i x : Nat} (hx : xs[i]? = some x) : w.cell? ⟨g, i, none⟩ = some (.int .u16 (x : Int)) := by
  obtain ⟨A, c, e, -, -, hC⟩ := h.readU
  injection e with e1 e2 e3
  obtain ⟨ad, e4, hc, -⟩ := hC i x hx
  rw [← e1] at e4
  injection e4 with e4
  rw [← e4, Addr.add_mid, Nat.zero_add] at hc
  exact hc
theorem OwnF.cellsU {w : World} {A : Option Addr} {n cap : Nat} {xs : List Nat} {F : Nat → Prop} (h : OwnF oU 51 w (.slice A n cap) xs F) : CellsU w A xs := by
  obtain ⟨A', c, e, -, -, hC⟩ := h.readU
  injection e with e1 e2 e3
  rw [e1]
  exact hC
/-- A graph's live sets, in a row of the call's own. -/
def MadeU (w : World) (bs : List Block) (e : Ending) (w' : World) : Prop :=
  ∃ g ins, e = .returned (.slice (some ⟨g, 0, none⟩) bs.length bs.length) ∧ IsLive bs ins ∧ OwnF oU 51 w' (.slice (some ⟨g, 0, none⟩) bs.length bs.length) ins (fun b => b = g) ∧ w.heap.size ≤ g ∧ Below w.heap.size w w'

set_option maxHeartbeats 8000000 in
set_option maxRecDepth 100000 in
theorem liveIn_calls (nm : ByteArray) (kp lf : Bool) (A : Option Addr) (c : Nat) (bs : List Block) (w : World) (hC : kBlock.C w A bs) (hl : bs.length ≤ 1000) (hok : BsOk bs) (h300 : ∀ b ∈ bs, b.ops.length ≤ 300) : Calls Try.prog 28 #[.agg #[.string nm, .bool kp, .bool lf, .slice A bs.length c]] w (MadeU w bs) := by
  have b0 := below_alloc' w (.cells #[.string nm, .bool kp, .bool lf, .slice A bs.length c] 28)
  have r0 : Row (w.alloc (.cells #[.string nm, .bool kp, .bool lf, .slice A bs.length c] 28)) w.heap.size 28 [.string nm, .bool kp, .bool lf, .slice A bs.length c] := Row.new w _ _
  have hlo : bs.length ≤ 9223372036854775807 := by omega
  have HOK := Lib.hid hok
  have H3 := Lib.hid h300
  clear hok h300
  go_enter Try.func28, Try.ntmps28
  go_upto_region 1 with fail
  generalize w.alloc (.cells #[.string nm, .bool kp, .bool lf, .slice A bs.length c] 28) = W at *
  have x3 := r0.cell (j := 3) rfl
  obtain ⟨W1, hmk, own1, hb1, hz1⟩ := make_words bs.length (by omega) W
  have HZ1 := Lib.hid hz1
  have HO1 := Lib.hid own1
  clear hz1 own1
  go_upto_region 2 with fail
  have t1 := b0.trans (hb1.mono b0.size)
  have r1 := r0.below hb1
  have HR1 := Lib.hid r1
  have hGl := r0.lt
  clear x3 hmk r0 r1
  generalize hG : W.heap.size = G at *
  clear hG
  have hst := LiveI.start bs
  have HST := Lib.hid hst
  clear hst
  go_wp2_with fail
  go_loopg [4] (2 * room (List.replicate bs.length 0) + 1) (fun g v4 wr => ∃ (ins : List Nat) (more : Bool), v4 = .bool more ∧ g = 2 * room ins + (if more = true then 1 else 0) ∧ LiveI bs ins ∧ OwnF oU 51 wr (.slice (some ⟨G, 0, none⟩) bs.length bs.length) ins (fun b => b = G) ∧ (more = false → ∀ (k : Nat) (b : Block), bs[k]? = some b → ins[k]? = some (aheadN b ins)) ∧ Below w.heap.size w wr ∧ W1.grownBy wr (some G))
  case atStart => exact ⟨_, true, rfl, rfl, HST.out, HO1.out, fun h => (by cases h), t1, grown_none _ _⟩
  case round =>
    obtain ⟨ins0, more, rfl, hgk, hinv, ho, hfix, hbr, hgr⟩ := hrel
    cases more with
    | false =>
      have hlive : IsLive bs ins0 := ⟨hinv, hfix rfl⟩
      have HL := Lib.hid hlive
      have HO := Lib.hid ho
      clear hlive hinv hfix ho hgk
      go_wp2_with fail
      go_ret
      exact ⟨G, ins0, rfl, HL.out, HO.out, by omega, hbr⟩
    | true =>
      have hlen0 := hinv.len
      have HIV := Lib.hid hinv
      have HO := Lib.hid ho
      have HGK := Lib.hid hgk
      clear hinv ho hfix hgk hlen0
      obtain ⟨wo, hwo⟩ : ∃ wo : World, wo = wr := ⟨_, rfl⟩
      subst hwo
      go_wp2_with fail
      go_loopw [4, 5] (fun v4 v5 wr => ∃ (m : Nat) (ins : List Nat) (more : Bool), m ≤ bs.length ∧ v5 = .int .i64 ((m : Int) - 1) ∧ v4 = .bool more ∧ LiveI bs ins ∧ OwnF oU 51 wr (.slice (some ⟨G, 0, none⟩) bs.length bs.length) ins (fun b => b = G) ∧ (more = true → room ins < room ins0) ∧ (more = false → ins = ins0 ∧ ∀ (k : Nat) (b : Block), m ≤ k → bs[k]? = some b → ins[k]? = some (aheadN b ins)) ∧ Below w.heap.size w wr ∧ W1.grownBy wr (some G)) (fun _ i _ => (intOf i + 1).toNat)
      case atStart => exact ⟨bs.length, ins0, false, Nat.le_refl _, rfl, rfl, HIV.out, HO.out, fun h => (by cases h), fun _ => ⟨rfl, fun k b h1 h2 => by have := (List.getElem?_eq_some_iff.1 h2).1; omega⟩, hbr, hgr⟩
      case round =>
        obtain ⟨m, ins, more, hm, rfl, rfl, hinv, ho, hmt, hmf, hbr, hgr⟩ := hrel
        have x3 := (HR1.out.grown hgr (fun e => by injection e with e; omega)).cell (j := 3) rfl
        by_cases hp : 0 < m
        · obtain ⟨k, rfl⟩ : ∃ k, m = k + 1 := ⟨m - 1, by omega⟩
          obtain ⟨b, hb⟩ := get_some bs k (by omega)
          have hbm := List.mem_of_getElem? hb
          obtain ⟨f, hf⟩ := HOK.out.fin hbm
          have hlen := hinv.len
          obtain ⟨x, hx⟩ := get_some ins k (by omega)
          obtain ⟨ab, Ab, cb, rfl, i0, i1, i2, i3, i4, i5, i6, i7, i8, i9, i10, i11, -, lb, mb, gb⟩ := Block_at (Kd.C_mono hbr hC) hb
          have hcall := ahead_calls b f Ab cb (some ⟨G, 0, none⟩) bs.length ins wr gb (H3.out b hbm) (HOK.out.ops hbm) (by rw [hlen]; exact hf) ho.cellsU hinv.lt (by omega)
          rw [hlen] at hcall
          have hset := hinv.set HOK.out hb
          have hgrows := fun h => hinv.grows HOK.out hb hx h
          have halt := aheadN_lt HOK.out hbm hlen hinv.lt
          have e : (((k + 1 : Nat) : Int) - 1) = (k : Int) := by omega
          rw [e]
          have hkl : k < bs.length := by omega
          have HCALL := Lib.hid hcall
          have HSET := Lib.hid hset
          have HGR := Lib.hid hgrows
          have HALT := Lib.hid halt
          have HINV := Lib.hid hinv
          have HO := Lib.hid ho
          have HMT := Lib.hid hmt
          have HMF := Lib.hid hmf
          have HX := Lib.hid hx
          have HB := Lib.hid hb
          have HLEN := Lib.hid hlen
          clear hcall hset hgrows halt hinv ho hmt hmf hx hb hlen hbm hf e hp gb lb mb
          go_wp2_with fail
          refine HCALL.out.mono ?_
          rintro e w2 ⟨rfl, hb2⟩
          have o2 := HO.out.below hb2
          have hc2 := o2.cellU HX.out
          have HO2 := Lib.hid o2
          have hbr2 := hbr.trans (hb2.mono hbr.size)
          have hgr2 := grown_trans hgr (grown_below hb2 (r := some G))
          clear o2 i0 i1 i2 i3 i4 i5 i6 i7 i8 i9 i10 i11 x3
          generalize hy : aheadN b ins = y at *
          have HY := Lib.hid hy
          clear hy
          by_cases hne : y = x
          · have z1 : ((y : Int) != (x : Int)) = false := by simp [hne]
            have z2 : (y != x) = false := by simp [hne]
            have HNE := Lib.hid hne
            clear hne
            go_wp2_with fail
            exact ⟨⟨k, ins, more, by omega, rfl, rfl, HINV.out, HO2.out, HMT.out, fun h => ⟨(HMF.out h).1, fun q c hq hc => by
              by_cases hqk : q = k
              · subst hqk
                rw [HB.out] at hc
                injection hc with hc
                subst hc
                rw [HX.out, HY.out, HNE.out]
              · exact (HMF.out h).2 q c (by omega) hc⟩, hbr2, hgr2⟩, by simp [intOf]⟩
          · have z1 : ((y : Int) != (x : Int)) = true := by simp; omega
            have z2 : (y != x) = true := by simp [hne]
            obtain ⟨s1, s2, s3, -⟩ := HO2.out.setU HLEN.out hkl HALT.out
            have HS1 := Lib.hid s1
            have HNE := Lib.hid hne
            clear s1 hne
            go_wp2_with fail
            have hroom : room (ins.set k y) < room ins0 := by
              have h1 := HGR.out HNE.out
              cases hm : more with
              | true => have := HMT.out hm; omega
              | false => rw [(HMF.out hm).1] at h1 ⊢; exact h1
            exact ⟨⟨k, _, true, by omega, rfl, rfl, HSET.out, HS1.out, fun _ => hroom, fun h => (by cases h), hbr2.grown s2 hbr2.size (fun q hq => by injection hq with hq; omega), grown_trans hgr2 s2⟩, by simp [intOf]⟩
        · obtain rfl : m = 0 := by omega
          have HINV := Lib.hid hinv
          have HO := Lib.hid ho
          have HMT := Lib.hid hmt
          have HMF := Lib.hid hmf
          clear hinv ho hmt hmf x3
          go_wp2_with fail
          cases more with
          | true =>
            go_roundg (2 * room ins + 1)
            case rel => exact ⟨ins, true, rfl, rfl, HINV.out, HO.out, fun h => (by cases h), hbr, hgr⟩
            case measure => have := HMT.out rfl; have := HGK.out; simp at this; omega
          | false =>
            go_roundg (2 * room ins)
            case rel => exact ⟨ins, false, rfl, rfl, HINV.out, HO.out, fun _ q c hc => (HMF.out rfl).2 q c (Nat.zero_le _) hc, hbr, hgr⟩
            case measure => have h1 := (HMF.out rfl).1; have := HGK.out; rw [h1]; simp at this; omega
end Go.Proofs.Ytobhjjbhlnbcpaa
