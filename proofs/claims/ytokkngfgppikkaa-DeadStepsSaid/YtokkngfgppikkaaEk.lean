/- The document's live, one register: the sets of a graph. -/
import Derived.Test.YtokkngfgppikkaaGe
import Derived.Test.YtokkngfgppikkaaGh
namespace Go.Proofs.Ytokkngfgppikkaa
set_option linter.unusedVariables false
set_option linter.unusedSimpArgs false
open Go.RowKit

def aheadOpsB (os : List Op) (r : Nat) (v : Bool) : Bool := os.foldr (fun o now => beforeB o r now) v
theorem aheadOpsB_cons {os : List Op} {k : Nat} {o : Op} (h : os[k]? = some o) (r : Nat) (v : Bool) : aheadOpsB (os.drop k) r v = beforeB o r (aheadOpsB (os.drop (k + 1)) r v) := by rw [drop_at h]; rfl
theorem aheadOpsB_nil (os : List Op) (r : Nat) (v : Bool) : aheadOpsB (os.drop os.length) r v = v := by rw [List.drop_length]; rfl
/-- One register's sets, in a row of the call's own. -/
def MadeBits (w : World) (n : Nat) (xs : List Bool) (e : Ending) (w' : World) : Prop :=
  ∃ g, e = .returned (.slice (some ⟨g, 0, none⟩) n n) ∧ RowB w' g xs ∧ w.heap.size ≤ g ∧ Below w.heap.size w w'

set_option maxHeartbeats 8000000 in
set_option maxRecDepth 100000 in
theorem refIn_calls (nm : ByteArray) (kp lf : Bool) (A : Option Addr) (c : Nat) (bs : List Block) (ins : List Nat) (r : Nat) (w : World) (hC : kBlock.C w A bs) (hl : bs.length ≤ 1000) (hok : BsOk bs) (h300 : ∀ b ∈ bs, b.ops.length ≤ 300) (hL : IsLive bs ins) (h1 : 1 ≤ r) (h2 : r ≤ 15) : Calls Try.prog 122 #[.agg #[.string nm, .bool kp, .bool lf, .slice A bs.length c], .int .i64 (r : Int)] w (MadeBits w bs.length (bitL ins r)) := by
  have b0 := below_alloc' w (.cells #[.string nm, .bool kp, .bool lf, .slice A bs.length c] 33)
  have r0 : Row (w.alloc (.cells #[.string nm, .bool kp, .bool lf, .slice A bs.length c] 33)) w.heap.size 33 [.string nm, .bool kp, .bool lf, .slice A bs.length c] := Row.new w _ _
  have hlo : bs.length ≤ 9223372036854775807 := by omega
  have HOK := Lib.hid hok
  have H3 := Lib.hid h300
  have HL := Lib.hid hL
  have H12 := Lib.hid (And.intro h1 h2)
  clear hok h300 hL h1 h2
  go_enter Try.func122, Try.ntmps122
  go_upto_region 1 with fail
  generalize w.alloc (.cells #[.string nm, .bool kp, .bool lf, .slice A bs.length c] 33) = W at *
  have x3 := r0.cell (j := 3) rfl
  obtain ⟨W1, hmk, own1, hb1, hz1⟩ := make_bools bs.length (by omega) W
  have HO1 := Lib.hid own1
  clear own1
  go_upto_region 2 with fail
  have t1 := b0.trans (hb1.mono b0.size)
  have r1 := r0.below hb1
  have HR1 := Lib.hid r1
  have hGl := r0.lt
  have hbW := b0.size
  clear x3 hmk r0 r1 hz1
  generalize hG : W.heap.size = G at *
  clear hG
  have hst := RndB.start bs ins r
  have HST := Lib.hid hst
  clear hst
  go_wp2_with fail
  go_loopw [6] (fun v wr => ∃ (n : Nat) (xs : List Bool), n ≤ bs.length + 1 ∧ v = .int .i64 n ∧ RndB bs ins r n xs ∧ RowB wr G xs ∧ Below w.heap.size w wr ∧ W1.grownBy wr (some G)) (fun v _ => bs.length + 1 - (intOf v).toNat)
  case atStart => exact ⟨0, _, Nat.zero_le _, rfl, HST.out, HO1.out, t1, grown_none _ _⟩
  case round =>
    obtain ⟨n, xs, hn, rfl, hinv, ho, hbr, hgr⟩ := hrel
    have HIV := Lib.hid hinv
    have HO := Lib.hid ho
    clear hinv ho
    by_cases hlt : n ≤ bs.length
    · go_wp2_with fail
      go_loopw [7] (fun v wr => ∃ (i : Nat) (xs : List Bool), i ≤ bs.length ∧ v = .int .i64 i ∧ RnsB bs ins r n i xs ∧ RowB wr G xs ∧ Below w.heap.size w wr ∧ W1.grownBy wr (some G)) (fun v _ => bs.length - (intOf v).toNat)
      case atStart => exact ⟨0, _, Nat.zero_le _, rfl, HIV.out.begin, HO.out, hbr, hgr⟩
      case round =>
        clear HIV HO hbr hgr xs
        obtain ⟨i, xs, hi, rfl, hinv, ho, hbr, hgr⟩ := hrel
        by_cases hil : i < bs.length
        · obtain ⟨b, hb⟩ := get_some bs i hil
          have hbm := List.mem_of_getElem? hb
          obtain ⟨f, hf⟩ := HOK.out.fin hbm
          have hxl := hinv.len
          obtain ⟨x, hx⟩ := get_some xs i (by omega)
          obtain ⟨ab, Ab, cb, rfl, i0, i1, i2, i3, i4, i5, i6, i7, i8, i9, i10, i11, -, lb, mb, gb⟩ := Block_at (Kd.C_mono hbr hC) hb
          have y3 := (HR1.out.grown hgr (fun e => by injection e with e; omega)).cell (j := 3) rfl
          have hol := H3.out b hbm
          have hol' : b.ops.length ≤ 9223372036854775807 := by omega
          have hstep := RnsB.step HOK.out HL.out H12.out.1 H12.out.2 hinv hb hx
          have hah : aheadB b r xs = aheadOpsB (b.ops.drop 0) r (endB b.fin r xs) := rfl
          have HSTEP := Lib.hid hstep
          have HAH := Lib.hid hah
          have HO := Lib.hid ho
          have HX := Lib.hid hx
          have HXL := Lib.hid hxl
          have HF := Lib.hid hf
          have HR := Lib.hid (HR1.out.grown hgr (fun e => by injection e with e; omega))
          clear hstep hah hinv ho hx hxl hf hb hbm hol
          go_wp2_with fail
          refine (refEnd_calls b.fin f r G bs.length bs.length xs wr HXL.out HF.out HO.out (by omega)).mono ?_
          rintro e w2 ⟨rfl, hb2⟩
          have hbr2 := hbr.trans (hb2.mono hbr.size)
          have hgr2 := grown_trans hgr (grown_below hb2 (r := some G))
          clear y3
          have y3 := (HR.out.below hb2).cell (j := 3) rfl
          have su := Sub.of_below hb2
          have k0 := su _ _ i0
          clear i0 i1 i2 i3 i4 i5 i6 i7 i8 i9 i10 i11 su
          have HO2 := Lib.hid (HO.out.below hb2)
          have HR2 := Lib.hid (HR.out.below hb2)
          have gb2 := Kd.C_mono hb2 gb
          clear hb2 gb
          go_wp2_with fail
          have K0 := Lib.hid k0
          clear y3 k0
          go_loopw [8, 9] (fun v j wr => ∃ m : Nat, m ≤ b.ops.length ∧ j = .int .i64 ((m : Int) - 1) ∧ v = .bool (aheadOpsB (b.ops.drop m) r (endB b.fin r xs)) ∧ Below w2.heap.size w2 wr) (fun _ j _ => (intOf j + 1).toNat)
          case atStart => exact ⟨b.ops.length, Nat.le_refl _, rfl, by rw [aheadOpsB_nil], Below.refl _ _⟩
          case round =>
            obtain ⟨m, hm, rfl, rfl, hbq⟩ := hrel
            have y3 := (HR2.out.below hbq).cell (j := 3) rfl
            have j0 := Sub.of_below hbq _ _ K0.out
            by_cases hp : 0 < m
            · obtain ⟨q, rfl⟩ : ∃ q, m = q + 1 := ⟨m - 1, by omega⟩
              obtain ⟨o, hoo⟩ := get_some b.ops q (by omega)
              have hst := aheadOpsB_cons hoo r (endB b.fin r xs)
              have hql : q < b.ops.length := by omega
              obtain ⟨ao, rfl, e0, e1, e2, e3, e4, e5, e6, e7, e8, -⟩ := Op_at (Kd.C_mono hbq gb2) hoo
              have HSTQ := Lib.hid hst
              have e : (((q + 1 : Nat) : Int) - 1) = (q : Int) := by omega
              rw [e]
              clear hst hoo e hp
              generalize aheadOpsB (b.ops.drop (q + 1)) r (endB b.fin r xs) = s at *
              go_wp2_with fail
              refine (refBefore_calls _ _ _ _).mono ?_
              rintro e w3 ⟨rfl, hb3⟩
              rw [← HSTQ.out]
              go_wp2_with fail
              exact ⟨⟨q, by omega, rfl, rfl, hbq.trans (hb3.mono hbq.size)⟩, by simp [intOf]⟩
            · obtain rfl : m = 0 := by omega
              rw [← HAH.out]
              have o4 := HO2.out.below hbq
              obtain ⟨s1, s2⟩ := o4.set i (x || aheadB b r xs)
              have c4 := o4.cell HX.out
              have s3 := o4.frozen i
              have hbr4 := hbr2.trans (hbq.mono hbr2.size)
              have hgr4 := grown_trans hgr2 (grown_below hbq (r := some G))
              have hbr5 := hbr4.grown s2 hbr4.size (fun q hq => by injection hq with hq; omega)
              have hgr5 := grown_trans hgr4 s2
              have HS1 := Lib.hid s1
              clear o4 s1 s2 y3 j0
              generalize aheadB b r xs = y at *
              cases x with
              | true =>
                go_wp2_with fail
                exact ⟨⟨i + 1, _, by omega, by go_num, HSTEP.out, HS1.out, hbr5, hgr5⟩, by simp [intOf]; omega⟩
              | false =>
                go_wp2_with fail
                exact ⟨⟨i + 1, _, by omega, by go_num, HSTEP.out, by simpa using HS1.out, hbr5, hgr5⟩, by simp [intOf]; omega⟩
        · obtain rfl : i = bs.length := by omega
          have HINV := Lib.hid hinv
          have HO := Lib.hid ho
          clear hinv ho
          go_wp2_with fail
          exact ⟨⟨n + 1, xs, by omega, by go_num, HINV.out.end, HO.out, hbr, hgr⟩, by simp [intOf]; omega⟩
    · obtain rfl : n = bs.length + 1 := by omega
      have hd := HIV.out.done HOK.out HL.out H12.out.1 H12.out.2
      subst hd
      go_wp2_with fail
      go_ret
      exact ⟨G, rfl, HO.out, by omega, hbr⟩
end Go.Proofs.Ytokkngfgppikkaa
