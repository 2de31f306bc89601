/- At, of layer 20 (value): what is known at blocks' beginnings. Printed by genKl.py of this repository. -/
import Derived.Test.YtokkngfgppikkabKj
import Derived.Test.YtokkngfgppikkabKk
import Derived.Test.YtokkngfgppikkabGc
import Derived.Deep.RegionHeld3
import Derived.Deep.LoopGhost
namespace Go.Proofs.Ytokkngfgppikkab
set_option linter.unusedVariables false
set_option linter.unusedSimpArgs false
open Go.RowKit
attribute [local go_sem high] eqKnown eqKnown_zero

theorem Row.rangeFin {w : World} {g : Nat} {T : TypeId} {b : Block} {v : Value} (h : Row w g T (blockCells v b)) : w.rangeAt g 1 (finCells b.fin) := fun j u hu => h.cell (j := 1 + j) (by rw [Nat.add_comm]; exact hu)
theorem OwnF.krange {w : World} {g n cap : Nat} {xs : List Known} {F : Nat → Prop} (h : OwnF oKnown 77 w (.slice (some ⟨g, 0, none⟩) n cap) xs F) {q : Nat} {x : Known} (hq : xs[q]? = some x) : w.rangeAt g (q * 33) (knownCells x) ∧ x.wf := by
  obtain ⟨-, h1, h2⟩ := h.openKnown hq
  exact ⟨h1.rangeKnown, h2⟩
theorem rangeAt_re {w : World} {g o : Nat} {k : Known} (h : w.rangeAt g o (knownCells k)) : w.cell? ⟨g, o, none⟩ = some (.bool k.reached) := h 0 _ rfl
theorem rangeAt_grown {w w' : World} {g o : Nat} {cs : List Value} {r : Option Nat} (h : w.rangeAt g o cs) (hg : w.grownBy w' r) (hr : r ≠ some g) : w'.rangeAt g o cs := fun j v hv => hg.cell (h j v hv) (fun e => hr e.symm)
theorem rangeAt_below {w w' : World} {g o : Nat} {cs : List Value} (h : w.rangeAt g o cs) (hb : Below w.heap.size w w') : w'.rangeAt g o cs := fun j v hv => Sub.of_below hb _ _ (h j v hv)
/-- The blocks ahead of i ask for nothing more. -/
def PostTo (bs : List Block) (ins : List Known) (m : Nat) : Prop := ∀ i b, i < m → bs[i]? = some b → (getK ins i).reached = true → ∀ d ∈ waysK (behindOps b.ops (getK ins i)) b.fin, LeK (behindOps b.ops (getK ins i)) (getK ins d.toNat)
theorem PostTo.done {bs : List Block} {ins : List Known} (h : AtI bs ins) (hp : PostTo bs ins bs.length) : IsAt bs ins :=
  ⟨h, ⟨h.good, h.zero, fun i b hb => hp i b (List.getElem?_eq_some_iff.1 hb).1 hb⟩⟩
theorem PostTo.succ {bs : List Block} {ins : List Known} {i : Nat} {b : Block} (h : PostTo bs ins i) (hb : bs[i]? = some b) (hn : (getK ins i).reached = true → ∀ d ∈ waysK (behindOps b.ops (getK ins i)) b.fin, LeK (behindOps b.ops (getK ins i)) (getK ins d.toNat)) : PostTo bs ins (i + 1) := fun q c hq hc hr => by
  by_cases e : q = i
  · subst e
    rw [hb] at hc
    injection hc with hc
    subst hc
    exact hn hr
  · exact h q c (by omega) hc hr
/-- A graph's answer, in a row of the call's own. -/
def MadeK (w : World) (bs : List Block) (e : Ending) (w' : World) : Prop :=
  ∃ g ins, e = .returned (.slice (some ⟨g, 0, none⟩) bs.length bs.length) ∧ IsAt bs ins ∧ OwnF oKnown 77 w' (.slice (some ⟨g, 0, none⟩) bs.length bs.length) ins (fun b => b = g) ∧ w.heap.size ≤ g ∧ Below w.heap.size w w'
theorem behindOps_take {os : List Op} {m : Nat} {o : Op} (h : os[m]? = some o) (k : Known) : behindOps (os.take (m + 1)) k = behindK (behindOps (os.take m) k) o := by
  unfold behindOps
  rw [take_snoc h, List.foldl_append]
  rfl
theorem opCells_len (o : Op) : (opCells o).length = 9 := rfl

set_option maxHeartbeats 16000000 in
set_option maxRecDepth 100000 in
theorem at_calls (nm : ByteArray) (kp lf : Bool) (A : Option Addr) (c : Nat) (bs : List Block) (w : World) (hC : kBlock.C w A bs) (hl : bs.length ≤ 1000) (hok : BsOk bs) (h300 : ∀ b ∈ bs, b.ops.length ≤ 300) (hpos : 0 < bs.length) : Calls Try.prog 37 #[.agg #[.string nm, .bool kp, .bool lf, .slice A bs.length c]] w (MadeK w bs) := by
  have b0 := below_alloc' w (.cells #[.string nm, .bool kp, .bool lf, .slice A bs.length c] 24)
  have r0 : Row (w.alloc (.cells #[.string nm, .bool kp, .bool lf, .slice A bs.length c] 24)) w.heap.size 24 [.string nm, .bool kp, .bool lf, .slice A bs.length c] := Row.new w _ _
  have hlo : bs.length ≤ 9223372036854775807 := by omega
  have HOK := Lib.hid hok
  have H3 := Lib.hid h300
  clear hok h300
  go_enter Try.func37, Try.ntmps37
  go_upto_region 1 with fail
  generalize w.alloc (.cells #[.string nm, .bool kp, .bool lf, .slice A bs.length c] 24) = W at *
  have x3 := r0.cell (j := 3) rfl
  obtain ⟨W1, hmk, own1, hb1, hz1⟩ := make_knowns bs.length (by omega) W
  have HO1 := Lib.hid own1
  clear own1 hz1
  go_upto_region 2 with fail
  have t1 := b0.trans (hb1.mono b0.size)
  have r1 := r0.below hb1
  have hGl := r0.lt
  have hGw := b0.size
  clear x3 hmk r0 b0 hb1
  generalize hH : W.heap.size = H at *
  clear hH
  go_wp2_with fail
  refine (none_calls _).mono ?_
  rintro e w2 ⟨rfl, hb2⟩
  obtain ⟨-, hole2, -⟩ := (HO1.out.below hb2).openKnown (q := 0) (x := Known.zero) (by rw [List.getElem?_replicate, if_pos hpos])
  have r2 := r1.below hb2
  have t2 := t1.trans (hb2.mono t1.size)
  clear r1 t1 HO1
  go_upto_region 3 with (refine wpList_put_hole rfl 77 _ _ rfl H (knownCells Known.none) rfl rfl hole2 (infoKnown Known.none_wf) (knownCells_len Known.none_wf) (knownCells_one _) ?_; intro w3 h3 g3 s3)
  have own3 := h3.closeKnown Known.none_wf
  rw [List.length_replicate] at own3
  have r3 := r2.grown g3 (fun e => by injection e with e; omega)
  have t3 := t2.grown g3 t2.size (fun j hj => by injection hj with hj; subst hj; omega)
  have HR3 := Lib.hid r3
  have HO3 := Lib.hid own3
  have HST := Lib.hid (AtI.start hpos)
  clear own3 r3 r2 hole2 h3 g3 s3 hb2 t2
  go_wp2_with fail
  go_loopg [4] (2 * roomK ((List.replicate bs.length Known.zero).set 0 Known.none) + 1) (fun g v4 wr => ∃ (ins : List Known) (more : Bool), v4 = .bool more ∧ g = 2 * roomK ins + (if more = true then 1 else 0) ∧ AtI bs ins ∧ OwnF oKnown 77 wr (.slice (some ⟨H, 0, none⟩) bs.length bs.length) ins (fun b => b = H) ∧ (more = false → PostTo bs ins bs.length) ∧ Below w.heap.size w wr ∧ w3.grownBy wr (some H)) 
  case atStart => exact ⟨_, true, rfl, rfl, HST.out, HO3.out, fun h => (by cases h), t3, grown_none _ _⟩
  case round =>
    obtain ⟨ins0, more, rfl, hgk, hinv, ho, hfix, hbr, hgr⟩ := hrel
    cases more with
    | false =>
      have hat : IsAt bs ins0 := PostTo.done hinv (hfix rfl)
      have HL := Lib.hid hat
      have HO := Lib.hid ho
      clear hat hinv hfix ho hgk
      go_wp2_with fail
      go_ret
      exact ⟨H, ins0, rfl, HL.out, HO.out, by omega, hbr⟩
    | true =>
      have HIV := Lib.hid hinv
      have HO := Lib.hid ho
      have HGK := Lib.hid hgk
      have x3 := (HR3.out.grown hgr (fun e => by injection e with e; omega)).cell (j := 3) rfl
      clear hinv ho hfix hgk
      go_wp2_with fail
      clear x3
      go_loopw [4, 24] (fun v4 v24 wr => ∃ (i : Nat) (ins : List Known) (more : Bool), i ≤ bs.length ∧ v24 = .int .i64 i ∧ v4 = .bool more ∧ AtI bs ins ∧ OwnF oKnown 77 wr (.slice (some ⟨H, 0, none⟩) bs.length bs.length) ins (fun b => b = H) ∧ (more = true → roomK ins < roomK ins0) ∧ (more = false → ins = ins0 ∧ PostTo bs ins i) ∧ Below w.heap.size w wr ∧ w3.grownBy wr (some H)) (fun _ v _ => bs.length - (intOf v).toNat)
      case atStart => exact ⟨0, ins0, false, Nat.zero_le _, rfl, rfl, HIV.out, HO.out, fun h => (by cases h), fun _ => ⟨rfl, fun i b hi => absurd hi (Nat.not_lt_zero _)⟩, hbr, hgr⟩
      case round =>
        clear HIV HO hbr hgr
        obtain ⟨i, ins, more, hi, rfl, rfl, hinv, ho, hmt, hmf, hbr, hgr⟩ := hrel
        by_cases hil : i < bs.length
        · obtain ⟨b, hb⟩ := get_some bs i hil
          have hbm := List.mem_of_getElem? hb
          obtain ⟨f, hf⟩ := HOK.out.fin hbm
          have hops := HOK.out.ops hbm
          have hol := H3.out b hbm
          have hol' : b.ops.length ≤ 9223372036854775807 := by omega
          obtain ⟨x, hx⟩ := get_some ins i (by rw [hinv.len]; exact hil)
          have hgx := hinv.good i
          rw [getK_get hx] at hgx
          have hwx := hgx.1
          obtain ⟨ab, Ab, cb, rfl, i0, i1, i2, i3, i4, i5, i6, i7, i8, i9, i10, i11, hbwf, lb, mb, gb⟩ := Block_at (Kd.C_mono hbr hC) hb
          have HB := Lib.hid hb
          have HBM := Lib.hid hbm
          have HF := Lib.hid hf
          have HOPS := Lib.hid hops
          have HINV := Lib.hid hinv
          have HO := Lib.hid ho
          have HMT := Lib.hid hmt
          have HMF := Lib.hid hmf
          have HX := Lib.hid hx
          have HGX := Lib.hid hgx
          have hHl : H < wr.heap.size := ho.lt H rfl
          have bq := below_alloc' wr (.cells #[.slice none 0 0, .int .i64 0, .int .i64 0, .int .i64 0, .int .i64 0, .int .i64 0, .int .i64 0, .int .i64 0, .int .i64 0, .int .i64 0, .int .i64 0, .int .i64 0] 39)
          clear hb hbm hf hops hinv ho hmt hmf hx hgx
          go_upto_region 9 with (refine wpList_put_row rfl 39 _ _ rfl wr.heap.size (blockCells (.slice Ab b.ops.length cb) b) rfl rfl (Row.new wr 39 _) (by kernel_rfl) rfl (blockCells_one _) ?_; intro w8 r8 g8 s8; clear s8; replace bq := bq.grown g8 bq.size (fun j hj => by injection hj with hj; subst hj; exact Nat.le_refl _); clear g8)
          clear i0 i1 i2 i3 i4 i5 i6 i7 i8 i9 i10 i11
          have t8 := hbr.trans (bq.mono hbr.size)
          have gr8 := grown_trans hgr (grown_below bq (r := some H))
          have O8 := Lib.hid (HO.out.below bq)
          have gb8 := Kd.C_mono bq gb
          have hGb : H ≠ wr.heap.size := by omega
          generalize hGbe : wr.heap.size = Gb at *
          clear hGbe
          have hc8 := rangeAt_re (O8.out.krange HX.out).1
          cases hre : x.reached with
          | false =>
            rw [hre] at hc8
            have HRE := Lib.hid hre
            clear hre
            go_wp2_with fail
            exact ⟨⟨i + 1, ins, more, by omega, by go_num, rfl, HINV.out, O8.out, HMT.out, fun h => ⟨(HMF.out h).1, (HMF.out h).2.succ HB.out (fun hr => by rw [getK_get HX.out, HRE.out] at hr; cases hr)⟩, t8, gr8⟩, by first | (simp [intOf]; done) | (simp [intOf]; omega)⟩
          | true =>
            rw [hre] at hc8
            have HRE := Lib.hid hre
            have hxr := (O8.out.krange HX.out).1
            have bq9 := below_alloc' w8 (.cells #[.bool false, .bool false, .bool false, .bool false, .bool false, .bool false, .bool false, .bool false, .bool false, .bool false, .bool false, .bool false, .bool false, .bool false, .bool false, .bool false, .bool false, .int .u32 0, .int .u32 0, .int .u32 0, .int .u32 0, .int .u32 0, .int .u32 0, .int .u32 0, .int .u32 0, .int .u32 0, .int .u32 0, .int .u32 0, .int .u32 0, .int .u32 0, .int .u32 0, .int .u32 0, .int .u32 0] 77)
            clear hre
            go_upto_region 11 with (first | (refine wpList_load_knownAt _ x H _ hwx hxr rfl rfl rfl ?_) | (refine wpList_put_known _ _ x w8.heap.size hwx Known.zero_wf (Row.new w8 77 _) rfl rfl rfl rfl ?_; intro w10 r10 g10 s10; clear s10; replace bq9 := bq9.grown g10 bq9.size (fun j hj => by injection hj with hj; subst hj; exact Nat.le_refl _); clear g10))
            have R8 := Lib.hid r8
            have t10 := t8.trans (bq9.mono t8.size)
            have hGk : H ≠ w8.heap.size := by have := O8.out.lt H rfl; omega
            have hGbk : Gb ≠ w8.heap.size := by have := r8.lt; omega
            have y0 := (r8.below bq9).cell (j := 0) rfl
            clear hc8 hxr r8
            generalize hGke : w8.heap.size = Gk at *
            have HGK8 := Lib.hid hGke
            clear hGke
            have R10 := Lib.hid r10
            clear r10
            go_wp2_with fail
            clear y0
            go_loopw [42] (fun v wr => ∃ m : Nat, m ≤ b.ops.length ∧ v = .int .i64 m ∧ Row wr Gk 77 (knownCells (behindOps (b.ops.take m) x)) ∧ Below Gk w8 wr) (fun v _ => b.ops.length - (intOf v).toNat)
            case atStart => exact ⟨0, Nat.zero_le _, rfl, R10.out, bq9⟩
            case round =>
              clear R10 t10 bq9
              obtain ⟨m, hm, rfl, hrk, hbq⟩ := hrel
              have hbq' : Below w8.heap.size w8 wr := by rw [HGK8.out]; exact hbq
              have hgm := behindOps_good (os := b.ops.take m) (fun o ho => HOPS.out o (List.mem_of_mem_take ho)) HGX.out
              have hwm := hgm.1
              have HGM := Lib.hid hgm
              clear hgm
              by_cases hml : m < b.ops.length
              · obtain ⟨o, hoo⟩ := get_some b.ops m hml
                have hro := HOPS.out o (List.mem_of_getElem? hoo)
                have hst := behindOps_take hoo x
                obtain ⟨ao, rfl, e0, e1, e2, e3, e4, e5, e6, e7, e8, -⟩ := Op_at (Kd.C_mono hbq' gb8) hoo
                have HST2 := Lib.hid hst
                clear hst hoo
                generalize behindOps (b.ops.take m) x = km at *
                have bo := below_alloc' wr (.cells #[.int .i64 0, .int .i64 0, .int .i64 0, .int .i64 0, .int .i64 0, .bool false, .int .i64 0, .int .i64 0, .int .i64 0] 56)
                go_upto_region 14 with (refine wpList_put_row rfl 56 _ _ rfl wr.heap.size (opCells o) rfl rfl (Row.new wr 56 _) (by kernel_rfl) rfl (opCells_one _) ?_; intro w13 r13 g13 s13; clear s13; replace bo := bo.grown g13 bo.size (fun j hj => by injection hj with hj; subst hj; exact Nat.le_refl _); clear g13)
                have q13 := hrk.below bo
                clear e0 e1 e2 e3 e4 e5 e6 e7 e8
                go_wp2_with (first | (refine wpList_load_known _ km _ hwm q13 rfl rfl rfl ?_) | (refine wpList_load_row rfl _ _ rfl wr.heap.size rfl 56 _ (0, 0) _ r13 Try.underlying56 rfl (by kernel_rfl) ?_))
                refine (behind_calls km o _ hwm hro).mono ?_
                rintro e w14 ⟨rfl, hb14⟩
                have q14 := q13.below hb14
                have hwn := behindK_wf hwm o
                rw [← HST2.out] at hwn ⊢
                have hsz : Gk ≤ wr.heap.size := by rw [← HGK8.out]; exact hbq'.size
                have hb15 : Below Gk w8 w14 := hbq.trans ((bo.trans (hb14.mono bo.size)).mono hsz)
                clear q13 r13
                go_wp2_with (refine wpList_put_known _ _ _ _ hwn hwm q14 rfl rfl rfl rfl ?_; intro w15 r15 g15 s15)
                have hb16 := hb15.grown g15 (by have := hb14.size; have := bo.size; omega) (fun j hj => by injection hj with hj; subst hj; exact Nat.le_refl _)
                have R15 := Lib.hid r15
                clear r15
                exact ⟨⟨m + 1, by omega, by go_num, R15.out, hb16⟩, by first | (simp [intOf]; done) | (simp [intOf]; omega)⟩
              · obtain rfl : m = b.ops.length := by omega
                rw [List.take_length] at hrk hwm HGM
                have hh := HINV.out.hand HOK.out HB.out (by rw [getK_get HX.out]; exact HRE.out)
                rw [getK_get HX.out] at hh
                generalize hkk : behindOps b.ops x = kk at *
                have HKK := Lib.hid hkk
                have HH := Lib.hid hh
                have r16 := R8.out.below hbq'
                clear hkk hh
                go_wp2_with (first | (refine wpList_load_known _ kk _ hwm hrk rfl rfl rfl ?_) | (refine wpList_load_mid rfl _ _ rfl Gb 1 rfl (finCells b.fin) _ r16.rangeFin Try.underlying37 rfl (by kernel_rfl) ?_))
                refine (ways_calls kk b.fin bs.length f _ hwm HF.out).mono ?_
                rintro e w17 ⟨Aw, cw, rfl, hCw, hAw0, hb17⟩
                have hAw : ∀ ad, Aw = some ad → H < ad.block := fun ad e => by have h1 := hAw0 ad e; have h2 := hrk.lt; have h3 : H < w8.heap.size := O8.out.lt H rfl; have h4 := hbq'.size; omega
                have hwin : ∀ d ∈ waysK kk b.fin, 0 ≤ d ∧ d < (bs.length : Int) := fun d hd => waysK_in HOK.out HBM.out kk hd
                have hwl : (waysK kk b.fin).length ≤ 2 := by
                  unfold waysK
                  repeat' split
                  all_goals simp
                generalize hws : waysK kk b.fin = ws at *
                have HWS := Lib.hid hws
                have HWIN := Lib.hid hwin
                have HCW := Lib.hid hCw
                have hb18 : Below Gk w8 w17 := hbq.trans (hb17.mono (by rw [← HGK8.out]; exact hbq'.size))
                have hb18' : Below w8.heap.size w8 w17 := by rw [HGK8.out]; exact hb18
                have O17 := Lib.hid (O8.out.below hb18')
                have RK17 := Lib.hid (hrk.below hb17)
                have t17 := t8.trans (hb18'.mono t8.size)
                have gr17 := grown_trans gr8 (grown_below hb18' (r := some H))
                have hwsl : ws.length ≤ 9223372036854775807 := by omega
                clear hws hwin hCw hrk r16 hb17 hb18 hb18' hbq hbq'
                go_wp2_with fail
                go_loopw [4, 55] (fun v4 v55 wr => ∃ (j : Nat) (ins' : List Known) (more' : Bool), j ≤ ws.length ∧ v55 = .int .i64 j ∧ v4 = .bool more' ∧ AtI bs ins' ∧ OwnF oKnown 77 wr (.slice (some ⟨H, 0, none⟩) bs.length bs.length) ins' (fun b => b = H) ∧ (more' = true → roomK ins' < roomK ins0) ∧ (more' = false → more = false ∧ ins' = ins ∧ ∀ d ∈ ws.take j, LeK kk (getK ins' d.toNat)) ∧ Below w.heap.size w wr ∧ w3.grownBy wr (some H) ∧ w17.grownBy wr (some H)) (fun _ v _ => ws.length - (intOf v).toNat)
                case atStart => exact ⟨0, ins, more, Nat.zero_le _, rfl, rfl, HINV.out, O17.out, HMT.out, fun h => ⟨h, rfl, fun d hd => (by simp at hd)⟩, t17, gr17, grown_none _ _⟩
                case round =>
                  clear t17 gr17
                  obtain ⟨j, ins', more', hj, rfl, rfl, hinv, ho, hmt, hmf, hbr, hgr, hg17⟩ := hrel
                  have HINV' := Lib.hid hinv
                  have HO' := Lib.hid ho
                  have HMT' := Lib.hid hmt
                  have HMF' := Lib.hid hmf
                  by_cases hjl : j < ws.length
                  · obtain ⟨d, hd⟩ := get_some ws j hjl
                    have hdm := List.mem_of_getElem? hd
                    obtain ⟨hd0, hd1⟩ := HWIN.out d hdm
                    obtain ⟨dn, rfl⟩ := Int.eq_ofNat_of_zero_le hd0
                    have hdn : dn < bs.length := by omega
                    obtain ⟨y, hy'⟩ := get_some ins' dn (by rw [hinv.len]; exact hdn)
                    obtain ⟨hyr, hy⟩ := ho.krange hy'
                    obtain ⟨adw, rfl, cw0⟩ := HCW.out j _ hd
                    have hts := take_snoc hd
                    have gkk := HGM.out
                    have gy := hinv.good dn
                    rw [getK_get hy'] at gy
                    have hkk := gkk.1
                    have hset := hinv.set HOK.out HH.out (by rw [HWS.out]; exact hdm) hdn
                    rw [getK_get hy'] at hset
                    have hlow : joinK y kk ≠ y → roomK (ins'.set dn (joinK y kk)) < roomK ins' := fun h => roomK_set hy' (rankK_lt gy gkk HH.out.re h)
                    have hjw := joinK_wf hy hkk
                    have HY := Lib.hid hy'
                    have HTS := Lib.hid hts
                    have HSET := Lib.hid hset
                    have HLOW := Lib.hid hlow
                    have hneA : H ≠ adw.block := fun e => by have := hAw adw rfl; omega
                    have hneA' : (adw.add j).block ≠ H := fun e => hneA (by rw [← e]; unfold Addr.add; split <;> rfl)
                    have cw1 := hg17.cell cw0 (fun e => hneA' (by injection e))
                    have RK := RK17.out.grown hg17 (fun e => hGk (by injection e with e))
                    have hHw := HO'.out.lt H rfl
                    have hGkw := RK.lt
                    have bd := (Below.refl wr.heap.size wr).drew
                    clear hinv ho hmt hmf hd hdm hts hset hlow hy' cw0 hneA hneA' gkk gy hd0 hd1
                    go_upto_region 19 with fail
                    clear cw1
                    refine wp_region_held_drew (S := (fun w' => w'.rangeAt H (dn * 33) (knownCells y) ∧ Row w' Gk 77 (knownCells kk))) (by kernel_rfl) (⟨rangeAt_below hyr bd, RK.below bd⟩) (fun hHeld => ?_)
                    refine wpAnyH_take (i := 0) (oi := _) (v := ?v19m1_1) rfl (by kernel_rfl) (by kernel_rfl) (by kernel_rfl) (fun _ _ _ h => h) (Or.inl ⟨by rfl, ?hy19m1_1⟩) hHeld ?_
                    case hy19m1_1 => (intro wS hSw; (try dsimp only at hSw); skip; go_simp; try with_reducible rfl)
                    try simp only [List.getElem_toArray, List.getElem_cons_succ, List.getElem_cons_zero, Act.put, List.setIfInBounds_toArray, List.set_cons_zero, List.set_cons_succ]
                    refine wpAnyH_take (i := 1) (oi := _) (v := ?v19m1_2) rfl (by kernel_rfl) (by kernel_rfl) (by kernel_rfl) (fun _ _ _ h => h) (Or.inl ⟨by rfl, ?hy19m1_2⟩) hHeld ?_
                    case hy19m1_2 => (intro wS hSw; (try dsimp only at hSw); skip; go_simp; try with_reducible rfl)
                    try simp only [List.getElem_toArray, List.getElem_cons_succ, List.getElem_cons_zero, Act.put, List.setIfInBounds_toArray, List.set_cons_zero, List.set_cons_succ]
                    refine wpAnyH_take (i := 2) (oi := _) (v := ?v19m1_3) rfl (by kernel_rfl) (by kernel_rfl) (by kernel_rfl) (fun _ _ _ h => h) (Or.inl ⟨by rfl, ?hy19m1_3⟩) hHeld ?_
                    case hy19m1_3 => (intro wS hSw; (try dsimp only at hSw); skip; go_simp; try with_reducible rfl)
                    try simp only [List.getElem_toArray, List.getElem_cons_succ, List.getElem_cons_zero, Act.put, List.setIfInBounds_toArray, List.set_cons_zero, List.set_cons_succ]
                    refine wpAnyH_take (i := 3) (oi := _) (v := .agg (knownCells y).toArray) rfl (by kernel_rfl) (by kernel_rfl) (by kernel_rfl) (fun _ _ _ h => h) (yieldsIf_load_known _ y H (dn * 33) hy (fun wS hS => hS.1) rfl rfl rfl) hHeld ?_
                    try simp only [List.getElem_toArray, List.getElem_cons_succ, List.getElem_cons_zero, Act.put, List.setIfInBounds_toArray, List.set_cons_zero, List.set_cons_succ]
                    refine wpAnyH_take (i := 4) (oi := _) (v := .agg (knownCells kk).toArray) rfl (by kernel_rfl) (by kernel_rfl) (by kernel_rfl) (fun _ _ _ h => h) (yieldsIf_load_known _ kk Gk 0 hkk (fun wS hS => Row.range hS.2) rfl rfl rfl) hHeld ?_
                    try simp only [List.getElem_toArray, List.getElem_cons_succ, List.getElem_cons_zero, Act.put, List.setIfInBounds_toArray, List.set_cons_zero, List.set_cons_succ]
                    refine wpAnyH_ready (rs := [5, 6]) (by kernel_rfl) (by simp) ?_
                    refine (AllReadyH.cons (o := _) rfl (fun K hK => ?_) (AllReadyH.cons (o := _) rfl (fun K hK => ?_) AllReadyH.nil))
                    · go_simp
                      refine (join_calls y kk _ hy hkk).mono ?_
                      rintro e w5 ⟨rfl, hb5⟩
                      go_wp2_with fail
                      refine hK.out _ _ (⟨rangeAt_below hHeld.1 hb5, hHeld.2.below hb5⟩) (fun hHeld6 => ?_)
                      clear hK K hHeld
                      try simp only [List.getElem_toArray, List.getElem_cons_succ, List.getElem_cons_zero, Act.put, List.setIfInBounds_toArray, List.set_cons_zero, List.set_cons_succ]
                      refine wpAnyH_ready (rs := [6]) (by kernel_rfl) (by simp) ?_
                      refine (AllReadyH.cons (o := _) rfl (fun K hK => ?_) AllReadyH.nil)
                      go_simp
                      have b6 := below_alloc' w5 (.cells #[.bool false, .bool false, .bool false, .bool false, .bool false, .bool false, .bool false, .bool false, .bool false, .bool false, .bool false, .bool false, .bool false, .bool false, .bool false, .bool false, .bool false, .int .u32 0, .int .u32 0, .int .u32 0, .int .u32 0, .int .u32 0, .int .u32 0, .int .u32 0, .int .u32 0, .int .u32 0, .int .u32 0, .int .u32 0, .int .u32 0, .int .u32 0, .int .u32 0, .int .u32 0, .int .u32 0] 77)
                      have rn6 : Row (w5.alloc (.cells #[.bool false, .bool false, .bool false, .bool false, .bool false, .bool false, .bool false, .bool false, .bool false, .bool false, .bool false, .bool false, .bool false, .bool false, .bool false, .bool false, .bool false, .int .u32 0, .int .u32 0, .int .u32 0, .int .u32 0, .int .u32 0, .int .u32 0, .int .u32 0, .int .u32 0, .int .u32 0, .int .u32 0, .int .u32 0, .int .u32 0, .int .u32 0, .int .u32 0, .int .u32 0, .int .u32 0] 77)) w5.heap.size 77 (knownCells Known.zero) := Row.new w5 _ _
                      refine hK.out _ _ (⟨rangeAt_below hHeld6.1 b6, hHeld6.2.below b6⟩) (fun hHeld7 => ?_)
                      clear hK K hHeld6
                      try simp only [List.getElem_toArray, List.getElem_cons_succ, List.getElem_cons_zero, Act.put, List.setIfInBounds_toArray, List.set_cons_zero, List.set_cons_succ]
                      refine wpAnyH_ready (rs := [7]) (by kernel_rfl) (by simp) ?_
                      refine (AllReadyH.cons (o := _) rfl (fun K hK => ?_) AllReadyH.nil)
                      refine step_put_row rfl _ _ _ rfl (w5.heap.size) (knownCells (joinK y kk)) rfl rfl rn6 (infoKnown hjw) (by rw [knownCells_len hjw]; rfl) (knownCells_one _) ?_
                      intro w7 r7 g7 s7
                      clear s7
                      have u7 : Below wr.heap.size wr w7 := ((bd.trans hb5).trans (b6.mono (Nat.le_trans bd.size hb5.size))).grown g7 (Nat.le_trans (Nat.le_trans bd.size hb5.size) b6.size) (fun j hj => by injection hj with hj; subst hj; exact Nat.le_trans bd.size hb5.size)
                      have hj1 : H < w5.heap.size := Nat.lt_of_lt_of_le hHw (Nat.le_trans bd.size hb5.size)
                      have hj2 : Gk < w5.heap.size := Nat.lt_of_lt_of_le hGkw (Nat.le_trans bd.size hb5.size)
                      refine hK.out _ _ (⟨rangeAt_grown hHeld7.1 g7 (fun e => by injection e with e; omega), hHeld7.2.grown g7 (fun e => by injection e with e; omega)⟩) (fun hHeld8 => ?_)
                      clear hK K hHeld7
                      try simp only [List.getElem_toArray, List.getElem_cons_succ, List.getElem_cons_zero, Act.put, List.setIfInBounds_toArray, List.set_cons_zero, List.set_cons_succ]
                      refine wpAnyH_done (by kernel_rfl) ?_ _
                      have o7 := HO'.out.below u7
                      have y7 := (o7.krange HY.out).1
                      have t7 := hbr.trans (u7.mono hbr.size)
                      have gr7 := grown_trans hgr (grown_below u7 (r := some H))
                      have gs7 := grown_trans hg17 (grown_below u7 (r := some H))
                      have O7 := Lib.hid o7
                      have bd7 := (Below.refl w7.heap.size w7).drew
                      generalize w5.heap.size = Gj at *
                      generalize hz : joinK y kk = z at *
                      have HZ := Lib.hid hz
                      clear hz o7 hyr u7 g7 hj1 hj2
                      by_cases hzy : z = y
                      · have z1 : decide (z = y) = true := by simp [hzy]
                        have hle : LeK kk y := joinK_eq_le (HZ.out.trans hzy)
                        have HLE := Lib.hid hle
                        clear hzy hle
                        go_upto_region 20 with fail
                        refine wp_region_held_drew (S := (fun w' => w'.rangeAt H (dn * 33) (knownCells y) ∧ Row w' Gj 77 (knownCells z))) (by kernel_rfl) (⟨rangeAt_below y7 bd7, r7.below bd7⟩) (fun hHeld => ?_)
                        refine wpAnyH_take (i := 0) (oi := _) (v := .agg (knownCells z).toArray) rfl (by kernel_rfl) (by kernel_rfl) (by kernel_rfl) (fun _ _ _ h => h) (yieldsIf_load_known _ z Gj 0 hjw (fun wS hS => Row.range hS.2) rfl rfl rfl) hHeld ?_
                        try simp only [List.getElem_toArray, List.getElem_cons_succ, List.getElem_cons_zero, Act.put, List.setIfInBounds_toArray, List.set_cons_zero, List.set_cons_succ]
                        refine wpAnyH_take (i := 1) (oi := _) (v := ?v20m2_2) rfl (by kernel_rfl) (by kernel_rfl) (by kernel_rfl) (fun _ _ _ h => h) (Or.inl ⟨by rfl, ?hy20m2_2⟩) hHeld ?_
                        case hy20m2_2 => (intro wS hSw; (try dsimp only at hSw); obtain ⟨hS1, hS2⟩ := hSw; clear hS1 hS2; go_simp; try with_reducible rfl)
                        try simp only [List.getElem_toArray, List.getElem_cons_succ, List.getElem_cons_zero, Act.put, List.setIfInBounds_toArray, List.set_cons_zero, List.set_cons_succ]
                        refine wpAnyH_take (i := 2) (oi := _) (v := ?v20m2_3) rfl (by kernel_rfl) (by kernel_rfl) (by kernel_rfl) (fun _ _ _ h => h) (Or.inl ⟨by rfl, ?hy20m2_3⟩) hHeld ?_
                        case hy20m2_3 => (intro wS hSw; (try dsimp only at hSw); obtain ⟨hS1, hS2⟩ := hSw; clear hS1 hS2; go_simp; try with_reducible rfl)
                        try simp only [List.getElem_toArray, List.getElem_cons_succ, List.getElem_cons_zero, Act.put, List.setIfInBounds_toArray, List.set_cons_zero, List.set_cons_succ]
                        refine wpAnyH_take (i := 3) (oi := _) (v := ?v20m2_4) rfl (by kernel_rfl) (by kernel_rfl) (by kernel_rfl) (fun _ _ _ h => h) (Or.inl ⟨by rfl, ?hy20m2_4⟩) hHeld ?_
                        case hy20m2_4 => (intro wS hSw; (try dsimp only at hSw); obtain ⟨hS1, hS2⟩ := hSw; clear hS1 hS2; go_simp; try with_reducible rfl)
                        try simp only [List.getElem_toArray, List.getElem_cons_succ, List.getElem_cons_zero, Act.put, List.setIfInBounds_toArray, List.set_cons_zero, List.set_cons_succ]
                        refine wpAnyH_take (i := 4) (oi := _) (v := .agg (knownCells y).toArray) rfl (by kernel_rfl) (by kernel_rfl) (by kernel_rfl) (fun _ _ _ h => h) (yieldsIf_load_known _ y H (dn * 33) hy (fun wS hS => hS.1) rfl rfl rfl) hHeld ?_
                        try simp only [List.getElem_toArray, List.getElem_cons_succ, List.getElem_cons_zero, Act.put, List.setIfInBounds_toArray, List.set_cons_zero, List.set_cons_succ]
                        refine wpAnyH_take (i := 5) (oi := _) (v := ?v20m2_6) rfl (by kernel_rfl) (by kernel_rfl) (by kernel_rfl) (fun _ _ _ h => h) (Or.inl ⟨by rfl, ?hy20m2_6⟩) hHeld ?_
                        case hy20m2_6 => (intro wS hSw; (try dsimp only at hSw); obtain ⟨hS1, hS2⟩ := hSw; clear hS1 hS2; go_simp; try with_reducible rfl)
                        try simp only [List.getElem_toArray, List.getElem_cons_succ, List.getElem_cons_zero, Act.put, List.setIfInBounds_toArray, List.set_cons_zero, List.set_cons_succ]
                        refine wpAnyH_done (by kernel_rfl) ?_ _
                        have o8 := O7.out.below bd7
                        have r8 := r7.below bd7
                        have t8' := t7.trans (bd7.mono t7.size)
                        have gr8' := grown_trans gr7 (grown_below bd7 (r := some H))
                        have gs8' := grown_trans gs7 (grown_below bd7 (r := some H))
                        have O8' := Lib.hid o8
                        clear o8 r8 r7 y7
                        go_wp2_with fail
                        exact ⟨⟨j + 1, ins', more', by omega, by go_num, rfl, HINV'.out, O8'.out, HMT'.out, fun h => ⟨(HMF'.out h).1, (HMF'.out h).2.1, forall_snoc (HMF'.out h).2.2 HTS.out (by rw [Int.toNat_natCast, getK_get HY.out]; exact HLE.out)⟩, t8', gr8', gs8'⟩, by first | (simp [intOf]; done) | (simp [intOf]; omega)⟩
                      · have z1 : decide (z = y) = false := by simp [hzy]
                        have HNE := Lib.hid hzy
                        clear hzy
                        go_upto_region 20 with fail
                        refine wp_region_held_drew (S := (fun w' => w'.rangeAt H (dn * 33) (knownCells y) ∧ Row w' Gj 77 (knownCells z))) (by kernel_rfl) (⟨rangeAt_below y7 bd7, r7.below bd7⟩) (fun hHeld => ?_)
                        refine wpAnyH_take (i := 0) (oi := _) (v := .agg (knownCells z).toArray) rfl (by kernel_rfl) (by kernel_rfl) (by kernel_rfl) (fun _ _ _ h => h) (yieldsIf_load_known _ z Gj 0 hjw (fun wS hS => Row.range hS.2) rfl rfl rfl) hHeld ?_
                        try simp only [List.getElem_toArray, List.getElem_cons_succ, List.getElem_cons_zero, Act.put, List.setIfInBounds_toArray, List.set_cons_zero, List.set_cons_succ]
                        refine wpAnyH_take (i := 1) (oi := _) (v := ?v20m3_2) rfl (by kernel_rfl) (by kernel_rfl) (by kernel_rfl) (fun _ _ _ h => h) (Or.inl ⟨by rfl, ?hy20m3_2⟩) hHeld ?_
                        case hy20m3_2 => (intro wS hSw; (try dsimp only at hSw); obtain ⟨hS1, hS2⟩ := hSw; clear hS1 hS2; go_simp; try with_reducible rfl)
                        try simp only [List.getElem_toArray, List.getElem_cons_succ, List.getElem_cons_zero, Act.put, List.setIfInBounds_toArray, List.set_cons_zero, List.set_cons_succ]
                        refine wpAnyH_take (i := 2) (oi := _) (v := ?v20m3_3) rfl (by kernel_rfl) (by kernel_rfl) (by kernel_rfl) (fun _ _ _ h => h) (Or.inl ⟨by rfl, ?hy20m3_3⟩) hHeld ?_
                        case hy20m3_3 => (intro wS hSw; (try dsimp only at hSw); obtain ⟨hS1, hS2⟩ := hSw; clear hS1 hS2; go_simp; try with_reducible rfl)
                        try simp only [List.getElem_toArray, List.getElem_cons_succ, List.getElem_cons_zero, Act.put, List.setIfInBounds_toArray, List.set_cons_zero, List.set_cons_succ]
                        refine wpAnyH_take (i := 3) (oi := _) (v := ?v20m3_4) rfl (by kernel_rfl) (by kernel_rfl) (by kernel_rfl) (fun _ _ _ h => h) (Or.inl ⟨by rfl, ?hy20m3_4⟩) hHeld ?_
                        case hy20m3_4 => (intro wS hSw; (try dsimp only at hSw); obtain ⟨hS1, hS2⟩ := hSw; clear hS1 hS2; go_simp; try with_reducible rfl)
                        try simp only [List.getElem_toArray, List.getElem_cons_succ, List.getElem_cons_zero, Act.put, List.setIfInBounds_toArray, List.set_cons_zero, List.set_cons_succ]
                        refine wpAnyH_take (i := 4) (oi := _) (v := .agg (knownCells y).toArray) rfl (by kernel_rfl) (by kernel_rfl) (by kernel_rfl) (fun _ _ _ h => h) (yieldsIf_load_known _ y H (dn * 33) hy (fun wS hS => hS.1) rfl rfl rfl) hHeld ?_
                        try simp only [List.getElem_toArray, List.getElem_cons_succ, List.getElem_cons_zero, Act.put, List.setIfInBounds_toArray, List.set_cons_zero, List.set_cons_succ]
                        refine wpAnyH_take (i := 5) (oi := _) (v := ?v20m3_6) rfl (by kernel_rfl) (by kernel_rfl) (by kernel_rfl) (fun _ _ _ h => h) (Or.inl ⟨by rfl, ?hy20m3_6⟩) hHeld ?_
                        case hy20m3_6 => (intro wS hSw; (try dsimp only at hSw); obtain ⟨hS1, hS2⟩ := hSw; clear hS1 hS2; go_simp; try with_reducible rfl)
                        try simp only [List.getElem_toArray, List.getElem_cons_succ, List.getElem_cons_zero, Act.put, List.setIfInBounds_toArray, List.set_cons_zero, List.set_cons_succ]
                        refine wpAnyH_done (by kernel_rfl) ?_ _
                        have o8 := O7.out.below bd7
                        have r8 := r7.below bd7
                        have t8' := t7.trans (bd7.mono t7.size)
                        have gr8' := grown_trans gr7 (grown_below bd7 (r := some H))
                        have gs8' := grown_trans gs7 (grown_below bd7 (r := some H))
                        obtain ⟨-, hole, -⟩ := o8.openKnown HY.out
                        clear o8 r7 y7
                        go_wp2_with (first | (refine wpList_load_known _ z Gj hjw r8 rfl rfl rfl ?_) | (refine wpList_put_hole rfl 77 _ _ rfl H (knownCells z) rfl rfl hole (infoKnown hjw) (knownCells_len hjw) (knownCells_one _) ?_; intro w9 h9 g9 s9; clear s9))
                        have o9 := h9.closeKnown hjw
                        rw [HINV'.out.len] at o9
                        have O9 := Lib.hid o9
                        have t9 := t8'.grown g9 t8'.size (fun j hj => by injection hj with hj; omega)
                        have gr9 := grown_trans gr8' g9
                        have gs9 := grown_trans gs8' g9
                        clear o9 h9 g9
                        have hroom : roomK (ins'.set dn z) < roomK ins0 := by
                          have h1 := HLOW.out HNE.out
                          cases hm : more' with
                          | true => have := HMT'.out hm; omega
                          | false =>
                            have h2 := HMF'.out hm
                            rw [h2.2.1, (HMF.out h2.1).1] at h1 ⊢
                            exact h1
                        exact ⟨⟨j + 1, _, true, by omega, by go_num, rfl, HSET.out, O9.out, fun _ => hroom, fun h => (by cases h), t9, gr9, gs9⟩, by first | (simp [intOf]; done) | (simp [intOf]; omega)⟩
                    · go_simp
                      have b6 := below_alloc' wr.drew (.cells #[.bool false, .bool false, .bool false, .bool false, .bool false, .bool false, .bool false, .bool false, .bool false, .bool false, .bool false, .bool false, .bool false, .bool false, .bool false, .bool false, .bool false, .int .u32 0, .int .u32 0, .int .u32 0, .int .u32 0, .int .u32 0, .int .u32 0, .int .u32 0, .int .u32 0, .int .u32 0, .int .u32 0, .int .u32 0, .int .u32 0, .int .u32 0, .int .u32 0, .int .u32 0, .int .u32 0] 77)
                      have rn6 : Row (wr.drew.alloc (.cells #[.bool false, .bool false, .bool false, .bool false, .bool false, .bool false, .bool false, .bool false, .bool false, .bool false, .bool false, .bool false, .bool false, .bool false, .bool false, .bool false, .bool false, .int .u32 0, .int .u32 0, .int .u32 0, .int .u32 0, .int .u32 0, .int .u32 0, .int .u32 0, .int .u32 0, .int .u32 0, .int .u32 0, .int .u32 0, .int .u32 0, .int .u32 0, .int .u32 0, .int .u32 0, .int .u32 0] 77)) wr.drew.heap.size 77 (knownCells Known.zero) := Row.new wr.drew _ _
                      refine hK.out _ _ (⟨rangeAt_below hHeld.1 b6, hHeld.2.below b6⟩) (fun hHeld9 => ?_)
                      clear hK K hHeld
                      try simp only [List.getElem_toArray, List.getElem_cons_succ, List.getElem_cons_zero, Act.put, List.setIfInBounds_toArray, List.set_cons_zero, List.set_cons_succ]
                      refine wpAnyH_ready (rs := [5]) (by kernel_rfl) (by simp) ?_
                      refine (AllReadyH.cons (o := _) rfl (fun K hK => ?_) AllReadyH.nil)
                      go_simp
                      refine (join_calls y kk _ hy hkk).mono ?_
                      rintro e w5 ⟨rfl, hb5⟩
                      have rn5 := rn6.below hb5
                      go_wp2_with fail
                      refine hK.out _ _ (⟨rangeAt_below hHeld9.1 hb5, hHeld9.2.below hb5⟩) (fun hHeld10 => ?_)
                      clear hK K hHeld9
                      try simp only [List.getElem_toArray, List.getElem_cons_succ, List.getElem_cons_zero, Act.put, List.setIfInBounds_toArray, List.set_cons_zero, List.set_cons_succ]
                      refine wpAnyH_ready (rs := [7]) (by kernel_rfl) (by simp) ?_
                      refine (AllReadyH.cons (o := _) rfl (fun K hK => ?_) AllReadyH.nil)
                      refine step_put_row rfl _ _ _ rfl (wr.heap.size) (knownCells (joinK y kk)) rfl rfl rn5 (infoKnown hjw) (by rw [knownCells_len hjw]; rfl) (knownCells_one _) ?_
                      intro w7 r7 g7 s7
                      clear s7
                      have u7 : Below wr.heap.size wr w7 := ((bd.trans b6).trans (hb5.mono (Nat.le_trans bd.size b6.size))).grown g7 (Nat.le_trans (Nat.le_trans bd.size b6.size) hb5.size) (fun j hj => by injection hj with hj; subst hj; exact Nat.le_refl _)
                      have hj1 : H < wr.heap.size := hHw
                      have hj2 : Gk < wr.heap.size := hGkw
                      refine hK.out _ _ (⟨rangeAt_grown hHeld10.1 g7 (fun e => by injection e with e; omega), hHeld10.2.grown g7 (fun e => by injection e with e; omega)⟩) (fun hHeld11 => ?_)
                      clear hK K hHeld10
                      try simp only [List.getElem_toArray, List.getElem_cons_succ, List.getElem_cons_zero, Act.put, List.setIfInBounds_toArray, List.set_cons_zero, List.set_cons_succ]
                      refine wpAnyH_done (by kernel_rfl) ?_ _
                      have o7 := HO'.out.below u7
                      have y7 := (o7.krange HY.out).1
                      have t7 := hbr.trans (u7.mono hbr.size)
                      have gr7 := grown_trans hgr (grown_below u7 (r := some H))
                      have gs7 := grown_trans hg17 (grown_below u7 (r := some H))
                      have O7 := Lib.hid o7
                      have bd7 := (Below.refl w7.heap.size w7).drew
                      generalize wr.heap.size = Gj at *
                      generalize hz : joinK y kk = z at *
                      have HZ := Lib.hid hz
                      clear hz o7 hyr u7 g7 hj1 hj2
                      by_cases hzy : z = y
                      · have z1 : decide (z = y) = true := by simp [hzy]
                        have hle : LeK kk y := joinK_eq_le (HZ.out.trans hzy)
                        have HLE := Lib.hid hle
                        clear hzy hle
                        go_upto_region 20 with fail
                        refine wp_region_held_drew (S := (fun w' => w'.rangeAt H (dn * 33) (knownCells y) ∧ Row w' Gj 77 (knownCells z))) (by kernel_rfl) (⟨rangeAt_below y7 bd7, r7.below bd7⟩) (fun hHeld => ?_)
                        refine wpAnyH_take (i := 0) (oi := _) (v := .agg (knownCells z).toArray) rfl (by kernel_rfl) (by kernel_rfl) (by kernel_rfl) (fun _ _ _ h => h) (yieldsIf_load_known _ z Gj 0 hjw (fun wS hS => Row.range hS.2) rfl rfl rfl) hHeld ?_
                        try simp only [List.getElem_toArray, List.getElem_cons_succ, List.getElem_cons_zero, Act.put, List.setIfInBounds_toArray, List.set_cons_zero, List.set_cons_succ]
                        refine wpAnyH_take (i := 1) (oi := _) (v := ?v20m4_2) rfl (by kernel_rfl) (by kernel_rfl) (by kernel_rfl) (fun _ _ _ h => h) (Or.inl ⟨by rfl, ?hy20m4_2⟩) hHeld ?_
                        case hy20m4_2 => (intro wS hSw; (try dsimp only at hSw); obtain ⟨hS1, hS2⟩ := hSw; clear hS1 hS2; go_simp; try with_reducible rfl)
                        try simp only [List.getElem_toArray, List.getElem_cons_succ, List.getElem_cons_zero, Act.put, List.setIfInBounds_toArray, List.set_cons_zero, List.set_cons_succ]
                        refine wpAnyH_take (i := 2) (oi := _) (v := ?v20m4_3) rfl (by kernel_rfl) (by kernel_rfl) (by kernel_rfl) (fun _ _ _ h => h) (Or.inl ⟨by rfl, ?hy20m4_3⟩) hHeld ?_
                        case hy20m4_3 => (intro wS hSw; (try dsimp only at hSw); obtain ⟨hS1, hS2⟩ := hSw; clear hS1 hS2; go_simp; try with_reducible rfl)
                        try simp only [List.getElem_toArray, List.getElem_cons_succ, List.getElem_cons_zero, Act.put, List.setIfInBounds_toArray, List.set_cons_zero, List.set_cons_succ]
                        refine wpAnyH_take (i := 3) (oi := _) (v := ?v20m4_4) rfl (by kernel_rfl) (by kernel_rfl) (by kernel_rfl) (fun _ _ _ h => h) (Or.inl ⟨by rfl, ?hy20m4_4⟩) hHeld ?_
                        case hy20m4_4 => (intro wS hSw; (try dsimp only at hSw); obtain ⟨hS1, hS2⟩ := hSw; clear hS1 hS2; go_simp; try with_reducible rfl)
                        try simp only [List.getElem_toArray, List.getElem_cons_succ, List.getElem_cons_zero, Act.put, List.setIfInBounds_toArray, List.set_cons_zero, List.set_cons_succ]
                        refine wpAnyH_take (i := 4) (oi := _) (v := .agg (knownCells y).toArray) rfl (by kernel_rfl) (by kernel_rfl) (by kernel_rfl) (fun _ _ _ h => h) (yieldsIf_load_known _ y H (dn * 33) hy (fun wS hS => hS.1) rfl rfl rfl) hHeld ?_
                        try simp only [List.getElem_toArray, List.getElem_cons_succ, List.getElem_cons_zero, Act.put, List.setIfInBounds_toArray, List.set_cons_zero, List.set_cons_succ]
                        refine wpAnyH_take (i := 5) (oi := _) (v := ?v20m4_6) rfl (by kernel_rfl) (by kernel_rfl) (by kernel_rfl) (fun _ _ _ h => h) (Or.inl ⟨by rfl, ?hy20m4_6⟩) hHeld ?_
                        case hy20m4_6 => (intro wS hSw; (try dsimp only at hSw); obtain ⟨hS1, hS2⟩ := hSw; clear hS1 hS2; go_simp; try with_reducible rfl)
                        try simp only [List.getElem_toArray, List.getElem_cons_succ, List.getElem_cons_zero, Act.put, List.setIfInBounds_toArray, List.set_cons_zero, List.set_cons_succ]
                        refine wpAnyH_done (by kernel_rfl) ?_ _
                        have o8 := O7.out.below bd7
                        have r8 := r7.below bd7
                        have t8' := t7.trans (bd7.mono t7.size)
                        have gr8' := grown_trans gr7 (grown_below bd7 (r := some H))
                        have gs8' := grown_trans gs7 (grown_below bd7 (r := some H))
                        have O8' := Lib.hid o8
                        clear o8 r8 r7 y7
                        go_wp2_with fail
                        exact ⟨⟨j + 1, ins', more', by omega, by go_num, rfl, HINV'.out, O8'.out, HMT'.out, fun h => ⟨(HMF'.out h).1, (HMF'.out h).2.1, forall_snoc (HMF'.out h).2.2 HTS.out (by rw [Int.toNat_natCast, getK_get HY.out]; exact HLE.out)⟩, t8', gr8', gs8'⟩, by first | (simp [intOf]; done) | (simp [intOf]; omega)⟩
                      · have z1 : decide (z = y) = false := by simp [hzy]
                        have HNE := Lib.hid hzy
                        clear hzy
                        go_upto_region 20 with fail
                        refine wp_region_held_drew (S := (fun w' => w'.rangeAt H (dn * 33) (knownCells y) ∧ Row w' Gj 77 (knownCells z))) (by kernel_rfl) (⟨rangeAt_below y7 bd7, r7.below bd7⟩) (fun hHeld => ?_)
                        refine wpAnyH_take (i := 0) (oi := _) (v := .agg (knownCells z).toArray) rfl (by kernel_rfl) (by kernel_rfl) (by kernel_rfl) (fun _ _ _ h => h) (yieldsIf_load_known _ z Gj 0 hjw (fun wS hS => Row.range hS.2) rfl rfl rfl) hHeld ?_
                        try simp only [List.getElem_toArray, List.getElem_cons_succ, List.getElem_cons_zero, Act.put, List.setIfInBounds_toArray, List.set_cons_zero, List.set_cons_succ]
                        refine wpAnyH_take (i := 1) (oi := _) (v := ?v20m5_2) rfl (by kernel_rfl) (by kernel_rfl) (by kernel_rfl) (fun _ _ _ h => h) (Or.inl ⟨by rfl, ?hy20m5_2⟩) hHeld ?_
                        case hy20m5_2 => (intro wS hSw; (try dsimp only at hSw); obtain ⟨hS1, hS2⟩ := hSw; clear hS1 hS2; go_simp; try with_reducible rfl)
                        try simp only [List.getElem_toArray, List.getElem_cons_succ, List.getElem_cons_zero, Act.put, List.setIfInBounds_toArray, List.set_cons_zero, List.set_cons_succ]
                        refine wpAnyH_take (i := 2) (oi := _) (v := ?v20m5_3) rfl (by kernel_rfl) (by kernel_rfl) (by kernel_rfl) (fun _ _ _ h => h) (Or.inl ⟨by rfl, ?hy20m5_3⟩) hHeld ?_
                        case hy20m5_3 => (intro wS hSw; (try dsimp only at hSw); obtain ⟨hS1, hS2⟩ := hSw; clear hS1 hS2; go_simp; try with_reducible rfl)
                        try simp only [List.getElem_toArray, List.getElem_cons_succ, List.getElem_cons_zero, Act.put, List.setIfInBounds_toArray, List.set_cons_zero, List.set_cons_succ]
                        refine wpAnyH_take (i := 3) (oi := _) (v := ?v20m5_4) rfl (by kernel_rfl) (by kernel_rfl) (by kernel_rfl) (fun _ _ _ h => h) (Or.inl ⟨by rfl, ?hy20m5_4⟩) hHeld ?_
                        case hy20m5_4 => (intro wS hSw; (try dsimp only at hSw); obtain ⟨hS1, hS2⟩ := hSw; clear hS1 hS2; go_simp; try with_reducible rfl)
                        try simp only [List.getElem_toArray, List.getElem_cons_succ, List.getElem_cons_zero, Act.put, List.setIfInBounds_toArray, List.set_cons_zero, List.set_cons_succ]
                        refine wpAnyH_take (i := 4) (oi := _) (v := .agg (knownCells y).toArray) rfl (by kernel_rfl) (by kernel_rfl) (by kernel_rfl) (fun _ _ _ h => h) (yieldsIf_load_known _ y H (dn * 33) hy (fun wS hS => hS.1) rfl rfl rfl) hHeld ?_
                        try simp only [List.getElem_toArray, List.getElem_cons_succ, List.getElem_cons_zero, Act.put, List.setIfInBounds_toArray, List.set_cons_zero, List.set_cons_succ]
                        refine wpAnyH_take (i := 5) (oi := _) (v := ?v20m5_6) rfl (by kernel_rfl) (by kernel_rfl) (by kernel_rfl) (fun _ _ _ h => h) (Or.inl ⟨by rfl, ?hy20m5_6⟩) hHeld ?_
                        case hy20m5_6 => (intro wS hSw; (try dsimp only at hSw); obtain ⟨hS1, hS2⟩ := hSw; clear hS1 hS2; go_simp; try with_reducible rfl)
                        try simp only [List.getElem_toArray, List.getElem_cons_succ, List.getElem_cons_zero, Act.put, List.setIfInBounds_toArray, List.set_cons_zero, List.set_cons_succ]
                        refine wpAnyH_done (by kernel_rfl) ?_ _
                        have o8 := O7.out.below bd7
                        have r8 := r7.below bd7
                        have t8' := t7.trans (bd7.mono t7.size)
                        have gr8' := grown_trans gr7 (grown_below bd7 (r := some H))
                        have gs8' := grown_trans gs7 (grown_below bd7 (r := some H))
                        obtain ⟨-, hole, -⟩ := o8.openKnown HY.out
                        clear o8 r7 y7
                        go_wp2_with (first | (refine wpList_load_known _ z Gj hjw r8 rfl rfl rfl ?_) | (refine wpList_put_hole rfl 77 _ _ rfl H (knownCells z) rfl rfl hole (infoKnown hjw) (knownCells_len hjw) (knownCells_one _) ?_; intro w9 h9 g9 s9; clear s9))
                        have o9 := h9.closeKnown hjw
                        rw [HINV'.out.len] at o9
                        have O9 := Lib.hid o9
                        have t9 := t8'.grown g9 t8'.size (fun j hj => by injection hj with hj; omega)
                        have gr9 := grown_trans gr8' g9
                        have gs9 := grown_trans gs8' g9
                        clear o9 h9 g9
                        have hroom : roomK (ins'.set dn z) < roomK ins0 := by
                          have h1 := HLOW.out HNE.out
                          cases hm : more' with
                          | true => have := HMT'.out hm; omega
                          | false =>
                            have h2 := HMF'.out hm
                            rw [h2.2.1, (HMF.out h2.1).1] at h1 ⊢
                            exact h1
                        exact ⟨⟨j + 1, _, true, by omega, by go_num, rfl, HSET.out, O9.out, fun _ => hroom, fun h => (by cases h), t9, gr9, gs9⟩, by first | (simp [intOf]; done) | (simp [intOf]; omega)⟩
                  · obtain rfl : j = ws.length := by omega
                    clear hinv ho hmt hmf
                    go_wp2_with fail
                    exact ⟨⟨i + 1, ins', more', by omega, by go_num, rfl, HINV'.out, HO'.out, HMT'.out, fun h => by
                      obtain ⟨h1, h2, h3⟩ := HMF'.out h
                      obtain ⟨h4, h5⟩ := HMF.out h1
                      subst h2
                      refine ⟨h4, h5.succ HB.out (fun hr d hd => ?_)⟩
                      rw [getK_get HX.out, HKK.out] at hd ⊢
                      rw [HWS.out] at hd
                      exact h3 d (by rw [List.take_length]; exact hd), hbr, hgr⟩, by first | (simp [intOf]; done) | (simp [intOf]; omega)⟩
        · obtain rfl : i = bs.length := by omega
          have HINV := Lib.hid hinv
          have HO := Lib.hid ho
          have HMT := Lib.hid hmt
          have HMF := Lib.hid hmf
          clear hinv ho hmt hmf
          go_wp2_with fail
          cases more with
          | true =>
            go_roundg (2 * roomK ins + 1)
            case rel => exact ⟨ins, true, rfl, rfl, HINV.out, HO.out, fun h => (by cases h), hbr, hgr⟩
            case measure => have := HMT.out rfl; have := HGK.out; simp at this; omega
          | false =>
            go_roundg (2 * roomK ins)
            case rel => exact ⟨ins, false, rfl, rfl, HINV.out, HO.out, fun _ => (HMF.out rfl).2, hbr, hgr⟩
            case measure => have h1 := (HMF.out rfl).1; have := HGK.out; rw [h1]; simp at this; omega
end Go.Proofs.Ytokkngfgppikkab
