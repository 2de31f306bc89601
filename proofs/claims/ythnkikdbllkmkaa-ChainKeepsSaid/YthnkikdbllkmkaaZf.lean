/- slices.symMergeCmpFunc at numbers: both sides have more than one element. -/
import Derived.Test.YthnkikdbllkmkaaZe
import Derived.Deep.Cut
namespace Go.Proofs.Ythnkikdbllkmkaa
set_option linter.unusedVariables false
set_option linter.unusedSimpArgs false
open Go.Shelf Go.RowKit Go.Lib Go.Sort
variable {α : Type} [Inhabited α]

set_option maxHeartbeats 8000000 in
set_option maxRecDepth 1000000 in
theorem sym_gen {r q : α → α → Prop} (enc : α → Value) (cf : α → α → Int) (O : Stb (ltOf cf) r q) (g : Nat) (cb : Array Value) (blk off cap : Nat) (d0 : Array α) (w0 : World)
    (eg : ∀ args w, (callFunc g args).run Try.prog w = .ok (.enter g args) w) (hcmp : CmpLays1 Try.prog g cb enc cf blk off d0.size w0) (R : Row1 enc w0 blk off d0) (hsz : d0.size < 1000000)
    (a m b : Nat) (d : Array α) (w : World)
    (IH : ∀ (a' m' b' : Nat) (d' : Array α) (w' : World), b' - a' < b - a → d0.size = d'.size → SW enc w0 blk off d' w' → a' < m' → m' < b' → b' ≤ d'.size → Srt r a' m' d' → Srt r m' b' d' → Bef q a' m' b' d' →
      Calls Try.prog 50 #[.slice (some ⟨blk, off, none⟩) d0.size cap, .int .i64 (a' : Int), .int .i64 (m' : Int), .int .i64 (b' : Int), .func (.func g) #[] cb] w' fun e w'' => e = .returned (.tuple #[]) ∧ ∃ d'', (PermIn a' b' d' d'' ∧ Srt r a' b' d'') ∧ SW enc w0 blk off d'' w'')
    (hs : d0.size = d.size) (S : SW enc w0 blk off d w) (ham : a + 1 < m) (hmb : m + 1 < b) (hb : b ≤ d.size) (hS1 : Srt r a m d) (hS2 : Srt r m b d) (hB : Bef q a m b d) :
    Calls Try.prog 50 #[.slice (some ⟨blk, off, none⟩) d0.size cap, .int .i64 (a : Int), .int .i64 (m : Int), .int .i64 (b : Int), .func (.func g) #[] cb] w fun e w' => e = .returned (.tuple #[]) ∧ ∃ d', (PermIn a b d d' ∧ Srt r a b d') ∧ SW enc w0 blk off d' w' := by
  have mixed : Try.prog.follows .mixedOrders = true := by kernel_rfl
  have hcl0 := R.hO.cells
  simp only [Value.cells] at hcl0
  have hst := R.hO.store Try.prog
  have S0 : Aside (SW enc w0 blk off d w) := S
  have HC : Aside _ := hcmp
  have HO := Lib.hid O
  have HS1 := Lib.hid hS1
  have HS2 := Lib.hid hS2
  have HBB := Lib.hid hB
  have HIH := Lib.hid IH
  have HR := Lib.hid R
  have ROT : ∀ (x y z : Nat) (dk : Array α) (u : World), dk.size = d0.size → SW enc w0 blk off dk u → x < y → y < z → z ≤ d0.size → Calls Try.prog 68 #[.slice (some ⟨blk, off, none⟩) d0.size cap, .int .i64 (x : Int), .int .i64 (y : Int), .int .i64 (z : Int), .func (.func g) #[] cb] u fun e w' => e = .returned (.tuple #[]) ∧ ∃ d', RotAt x y z dk d' ∧ SW enc w0 blk off d' w' := fun x y z dk u h1 h2 h3 h4 h5 => by
    have := rotate_calls enc g cb blk off cap x y z d0 dk w0 u R h1.symm h2 h3 h4 (by omega) (by omega)
    rw [h1] at this
    exact this
  have HROT := Lib.hid ROT
  have z2 : ¬ ((m : Int) - (a : Int) = 1) := by omega
  have z3 : ((m : Int) - (a : Int) == 1) = false := by rw [beq_eq_false_iff_ne]; exact z2
  have z4 : ¬ ((b : Int) - (m : Int) = 1) := by omega
  have z5 : ((b : Int) - (m : Int) == 1) = false := by rw [beq_eq_false_iff_ne]; exact z4
  clear S hcmp O hS1 hS2 hB IH R ROT
  have hb0 : b ≤ d0.size := by omega
  have HSZ := Lib.hid hs
  clear hs hb
  obtain ⟨mid, hmid⟩ : ∃ x, x = (a + b) / 2 := ⟨_, rfl⟩
  have qm : ((a : Int) + (b : Int)) / 2 = (mid : Int) := by omega
  have hm1 : a < mid := by omega
  have hm2 : mid < b := by omega
  have hm3 : mid + mid ≤ a + b := by omega
  have hm4 : a + b ≤ mid + mid + 1 := by omega
  clear hmid
  obtain ⟨n, hn⟩ : ∃ x, x = mid + m := ⟨_, rfl⟩
  have qn : (mid : Int) + (m : Int) = (n : Int) := by omega
  obtain ⟨st0, r0, hc⟩ : ∃ st0 r0, (mid < m ∧ st0 + b = n ∧ r0 = mid) ∨ (¬ mid < m ∧ st0 = a ∧ r0 = m) := by
    by_cases h : mid < m
    · exact ⟨n - b, mid, .inl ⟨h, by omega, rfl⟩⟩
    · exact ⟨a, m, .inr ⟨h, rfl, rfl⟩⟩
  have hst0 : a ≤ st0 := by omega
  have hr0 : r0 ≤ m := by omega
  have hr1 : r0 ≤ mid := by omega
  have hsr : st0 ≤ r0 := by omega
  have hnb : n ≤ st0 + b := by omega
  have HN := Lib.hid hn
  clear hn
  go_enter Try.func50, Try.ntmps50
  go_upto_if 140 with fail
  clear z2 z3 z4 z5 qm
  go_cut [20, 21] (fun s20 s21 wx => s20 = .int .i64 (st0 : Int) ∧ s21 = .int .i64 (r0 : Int) ∧ wx = w)
  case first =>
    rcases hc with ⟨c1, c2, c3⟩ | ⟨c1, c2, c3⟩
    · have q0 : (n : Int) - (b : Int) = (st0 : Int) := by omega
      go_wp2_with fail
      go_meet
      exact ⟨by first | rfl | rw [q0], by rw [c3], rfl⟩
    · go_wp2_with fail
      go_meet
      exact ⟨by rw [c2], by rw [c3], rfl⟩
  case rest =>
    obtain ⟨rfl, rfl, rfl⟩ := hcut
    obtain ⟨pN, hpN⟩ : ∃ x, x + 1 = n := ⟨n - 1, by have := HN.out; omega⟩
    have qp : (n : Int) - 1 = (pN : Int) := by omega
    go_wp2_with fail
    go_loopg [20, 21] (r0 - st0) (fun kx s10 s11 wr => ∃ (i j : Nat), s10 = .int .i64 (i : Int) ∧ s11 = .int .i64 (j : Int) ∧ st0 ≤ i ∧ i ≤ j ∧ j ≤ r0 ∧ j - i ≤ kx ∧ Aside (SW enc w0 blk off d wr) ∧ Hid ((st0 < i → ltOf cf d[n - i]! d[i - 1]! = false) ∧ (j < r0 → ltOf cf d[n - j - 1]! d[j]! = true)))
    case atStart => exact ⟨st0, r0, rfl, rfl, Nat.le_refl _, hsr, Nat.le_refl _, Nat.le_refl _, S0, ⟨fun h => by omega, fun h => by omega⟩⟩
    case round =>
      clear S0
      obtain ⟨i, j, rfl, rfl, hmi, hij, hjb, hkx, S1, HI⟩ := hrel
      have hnm := HN.out
      by_cases hlt : i < j
      · obtain ⟨h, hh⟩ : ∃ h, h = (i + j) / 2 := ⟨_, rfl⟩
        have qh : ((i : Int) + (j : Int)) / 2 = (h : Int) := by omega
        have hih : i ≤ h := by omega
        have hhj : h < j := by omega
        clear hh
        obtain ⟨xI, hxI⟩ : ∃ x, x = n - h - 1 := ⟨_, rfl⟩
        have qx : (pN : Int) - (h : Int) = (xI : Int) := by omega
        have hxb : xI < d0.size := by omega
        have hpb : pN < 2000000 := by omega
        have hhb : h < 1000000 := by omega
        have rx : IntKind.i64.wrap ((pN : Int) - (h : Int)) = (xI : Int) := by rw [IntKind.wrap_i64]; omega
        have rx2 : IntKind.i64.wrap (xI : Int) = (xI : Int) := by rw [IntKind.wrap_i64]; omega
        have HXI := Lib.hid hxI
        clear hxI
        obtain ⟨iN, hiN⟩ : ∃ q, q = xI := ⟨_, rfl⟩
        obtain ⟨jN, hjN⟩ : ∃ q, q = h := ⟨_, rfl⟩
        have ea : ((xI : Int)).toNat = iN := by omega
        have pa : (0 : Int) ≤ (xI : Int) := by omega
        have ba : (xI : Int) < (d0.size : Int) := by omega
        have ec : ((h : Int)).toNat = jN := by omega
        have pc : (0 : Int) ≤ (h : Int) := by omega
        have bc : (h : Int) < (d0.size : Int) := by omega
        obtain ⟨x, hx⟩ : ∃ x, x = d[xI]! := ⟨_, rfl⟩
        obtain ⟨y, hy⟩ : ∃ x, x = d[h]! := ⟨_, rfl⟩
        have la := S1.out.cl HR.out HSZ.out.symm (xI) (by have := HSZ.out; omega)
        have lb := S1.out.cl HR.out HSZ.out.symm (h) (by have := HSZ.out; omega)
        rw [← hx, ← hiN] at la
        rw [← hy, ← hjN] at lb
        have hc' := S1.out.cmp HC.out HSZ.out.symm x y
        have HNM := Lib.hid hnm
        have HPN := Lib.hid hpN
        clear hnm hpN
        cases hL : ltOf cf d[xI]! d[h]! with
        | true =>
          have hv : cf x y < 0 := by rw [hx, hy]; exact of_decide_eq_true hL
          have hd : decide (cf x y < 0) = true := decide_eq_true hv
          have HL := Lib.hid hL
          clear hx hy hiN hjN hL
          go_wp2_with fail
          go_quiet_grown (first | (go_at_fn g; refine Calls.grown_of (hc' _ _)))
          have S2 : Aside (SW enc w0 blk off d (grow (wr.drewN nq) osq)) := S1.out.grown nq osq
          clear la lb hc' S1 rx rx2
          generalize grow (wr.drewN nq) osq = w2 at S2 ⊢
          clear nq osq ea ec
          go_wp2_with fail
          go_roundg (h - i)
          case measure => omega
          case rel => exact ⟨i, h, rfl, rfl, hmi, by omega, by omega, Nat.le_refl _, S2, ⟨HI.out.1, fun _ => by rw [← HXI.out]; exact HL.out⟩⟩
        | false =>
          have hv : ¬ cf x y < 0 := by rw [hx, hy]; exact of_decide_eq_false hL
          have hd : decide (cf x y < 0) = false := decide_eq_false hv
          have HL := Lib.hid hL
          clear hx hy hiN hjN hL
          go_wp2_with fail
          go_quiet_grown (first | (go_at_fn g; refine Calls.grown_of (hc' _ _)))
          have S2 : Aside (SW enc w0 blk off d (grow (wr.drewN nq) osq)) := S1.out.grown nq osq
          clear la lb hc' S1 rx rx2
          generalize grow (wr.drewN nq) osq = w2 at S2 ⊢
          clear nq osq ea ec
          go_wp2_with fail
          go_roundg (j - (h + 1))
          case measure => omega
          case rel => exact ⟨h + 1, j, by go_num, rfl, by omega, by omega, hjb, Nat.le_refl _, S2, ⟨fun _ => by rw [show n - (h + 1) = xI by have := HXI.out; omega]; exact HL.out, HI.out.2⟩⟩
      · obtain rfl : j = i := by omega
        obtain ⟨en, hen⟩ : ∃ x, x + j = n := ⟨n - j, by omega⟩
        have qe : (n : Int) - (j : Int) = (en : Int) := by omega
        have hme : m ≤ en := by omega
        have heb : en ≤ b := by omega
        have haj : a ≤ j := by omega
        have hjm : j ≤ m := by omega
        have hjd : j ≤ mid := by omega
        have T0 : ∀ d1, RotAt j m en d d1 → Turned r q a j mid en b d1 := fun d1 hr => sym_turn HO.out haj hm1 hm2 hjm hjd (by omega) heb HS1.out HS2.out HBB.out
          (fun h1 h2 => by have := HI.out.1 (by omega); rw [show n - j = en by omega] at this; exact this)
          (fun h1 h2 => by have := HI.out.2 (by omega); rw [show n - j - 1 = en - 1 by omega] at this; exact this) hr
        have HT := Lib.hid T0
        have HNM := Lib.hid hnm
        have HPN := Lib.hid hpN
        have HEN := Lib.hid hen
        have HCC := Lib.hid hc
        clear T0 hnm hpN hen hij hkx hlt hc
        go_upto_region 39 with fail
        go_cut [24, 185] (fun s24 s185 wx => s24 = .int .i64 (en : Int) ∧ ∃ bb : Bool, s185 = .bool bb ∧ (bb = true → j < m ∧ m < en) ∧ (bb = false → ¬ (j < m ∧ m < en)) ∧ wx = wr)
        case first =>
          by_cases c1 : j < m
          · by_cases c2 : m < en
            · go_wp2_with fail
              go_meet
              exact ⟨rfl, true, rfl, (fun _ => ⟨c1, c2⟩), (fun h => by cases h), rfl⟩
            · go_wp2_with fail
              go_meet
              exact ⟨rfl, false, rfl, (fun h => by cases h), (fun _ h => c2 h.2), rfl⟩
          · go_wp2_with fail
            go_meet
            exact ⟨rfl, false, rfl, (fun h => by cases h), (fun _ h => c1 h.1), rfl⟩
        case rest =>
         as_aux_lemma =>
          obtain ⟨rfl, bb, rfl, hbt, hbf, rfl⟩ := hcut
          have HBT := Lib.hid (And.intro hbt hbf)
          clear hbt hbf
          go_upto_if 185 with fail
          go_cut [24] (fun s24 wx => s24 = .int .i64 (en : Int) ∧ ∃ d1, RotAt j m en d d1 ∧ SW enc w0 blk off d1 wx)
          case first =>
            cases bb with
            | true =>
              obtain ⟨c1, c2⟩ := HBT.out.1 rfl
              have hcall := HROT.out j m en d wc HSZ.out.symm S1.out c1 c2 (by omega)
              have HCA := Lib.hid hcall
              clear hcall
              go_wp2_with fail
              refine HCA.out.mono ?_
              rintro e w' ⟨rfl, d1, hr⟩
              have HRS := Lib.hid hr
              clear hr
              go_wp2_with fail
              go_meet
              exact ⟨rfl, d1, HRS.out⟩
            | false =>
              have c0 := HBT.out.2 rfl
              go_wp2_with fail
              go_meet
              exact ⟨rfl, d, RotAt.same d (by omega), S1.out⟩
          case rest =>
            clear S1
            obtain ⟨rfl, d1, hrot, hsw1⟩ := hcut
            have HROT1 := Lib.hid hrot
            have HSW1 := Lib.hid hsw1
            have HZ1 := Lib.hid (hrot.perm.1.trans HSZ.out.symm)
            clear hrot hsw1
            go_upto_region 41 with fail
            go_cut [24, 199] (fun s24 s185 wx => s24 = .int .i64 (en : Int) ∧ ∃ bb : Bool, s185 = .bool bb ∧ (bb = true → a < j ∧ j < mid) ∧ (bb = false → ¬ (a < j ∧ j < mid)) ∧ SW enc w0 blk off d1 wx)
            case first =>
              by_cases c1 : a < j
              · by_cases c2 : j < mid
                · go_wp2_with fail
                  go_meet
                  exact ⟨rfl, true, rfl, (fun _ => ⟨c1, c2⟩), (fun h => by cases h), HSW1.out⟩
                · go_wp2_with fail
                  go_meet
                  exact ⟨rfl, false, rfl, (fun h => by cases h), (fun _ h => c2 h.2), HSW1.out⟩
              · go_wp2_with fail
                go_meet
                exact ⟨rfl, false, rfl, (fun h => by cases h), (fun _ h => c1 h.1), HSW1.out⟩
            case rest =>
            clear HSW1
            obtain ⟨rfl, b2, rfl, hbt, hbf, hsw1⟩ := hcut
            have HSW1 := Lib.hid hsw1
            have HBT2 := Lib.hid (And.intro hbt hbf)
            clear hbt hbf hsw1
            go_upto_if 199 with fail
            go_cut [24] (fun s24 wx => s24 = .int .i64 (en : Int) ∧ ∃ d2, PermIn a mid d1 d2 ∧ Srt r a mid d2 ∧ SW enc w0 blk off d2 wx)
            case first =>
              cases b2 with
              | true =>
                obtain ⟨c1, c2⟩ := HBT2.out.1 rfl
                have T := HT.out d1 HROT1.out
                have hcall := HIH.out a j mid d1 wc (by omega) HZ1.out.symm HSW1.out c1 c2 (by rw [HZ1.out]; omega) T.s1 T.s2 T.b1
                have HCA := Lib.hid hcall
                clear hcall T
                go_wp2_with fail
                refine HCA.out.mono ?_
                rintro e w' ⟨rfl, d2, hr⟩
                have HRS := Lib.hid hr
                clear hr
                go_wp2_with fail
                go_meet
                exact ⟨rfl, d2, HRS.out.1.1, HRS.out.1.2, HRS.out.2⟩
              | false =>
                have c0 := HBT2.out.2 rfl
                have T := HT.out d1 HROT1.out
                have HSA : Aside (Srt r a mid d1) := by
                  by_cases e : j = mid
                  · rw [← e]; exact T.s1
                  · have e2 : j = a := by omega
                    have := T.s2
                    rw [e2] at this
                    exact this
                clear T
                go_wp2_with fail
                go_meet
                exact ⟨rfl, d1, permIn_refl _ _ _, HSA.out, HSW1.out⟩
            case rest =>
              obtain ⟨rfl, d2, hp2, hs2, hsw2⟩ := hcut
              have HP2 := Lib.hid hp2
              have HSR2 := Lib.hid hs2
              have HSW2 := Lib.hid hsw2
              have HZ2 := Lib.hid (hp2.1.trans HZ1.out)
              clear hp2 hs2 hsw2
              have fin : ∀ d3, PermIn mid b d2 d3 → Srt r mid b d3 → PermIn a b d d3 ∧ Srt r a b d3 := fun d3 hp3 hs3 => by
                have T := HT.out d1 HROT1.out
                have e0 := HSZ.out
                have e1 := HZ1.out
                have e2 := HZ2.out
                exact ⟨permIn_trans _ _ _ _ _ (permIn_mono _ _ _ _ _ _ haj heb (by omega) HROT1.out.perm) (permIn_trans _ _ _ _ _ (permIn_mono _ _ _ _ _ _ (Nat.le_refl _) (by omega) (by omega) HP2.out) (permIn_mono _ _ _ _ _ _ (by omega) (Nat.le_refl _) (by omega) hp3)),
                  sym_join (by omega) (by omega) (by omega) T.x HP2.out HSR2.out hp3 hs3⟩
              have HFIN := Lib.hid fin
              have S3 : Srt r mid en d2 := fun x y h1 h2 h3 => by rw [HP2.out.2.1 x (.inr h1), HP2.out.2.1 y (.inr (by omega))]; exact (HT.out d1 HROT1.out).s3 x y h1 h2 h3
              have S4 : Srt r en b d2 := fun x y h1 h2 h3 => by rw [HP2.out.2.1 x (.inr (by have := HEN.out; have := HNM.out; omega)), HP2.out.2.1 y (.inr (by have := HEN.out; have := HNM.out; omega))]; exact (HT.out d1 HROT1.out).s4 x y h1 h2 h3
              have B4 : Bef q mid en b d2 := fun x y h1 h2 h3 h4 => by rw [HP2.out.2.1 x (.inr h1), HP2.out.2.1 y (.inr (by omega))]; exact (HT.out d1 HROT1.out).b2 x y h1 h2 h3 h4
              have HS3 := Lib.hid S3
              have HS4 := Lib.hid S4
              have HB4 := Lib.hid B4
              clear fin S3 S4 B4
              by_cases c1 : mid < en
              · by_cases c2 : en < b
                · have hcall := HIH.out mid en b d2 wc (by omega) HZ2.out.symm HSW2.out c1 c2 (by rw [HZ2.out]; omega) HS3.out HS4.out HB4.out
                  have HCA := Lib.hid hcall
                  clear hcall
                  go_wp2_with fail
                  refine HCA.out.mono ?_
                  rintro e w' ⟨rfl, d3, hr⟩
                  have HRS := Lib.hid hr
                  clear hr
                  go_wp2_with fail
                  go_end0
                  exact ⟨rfl, d3, HFIN.out d3 HRS.out.1.1 HRS.out.1.2, HRS.out.2⟩
                · go_wp2_with fail
                  go_end0
                  have e : en = b := by omega
                  exact ⟨rfl, d2, HFIN.out d2 (permIn_refl _ _ _) (by rw [← e]; exact HS3.out), HSW2.out⟩
              · go_wp2_with fail
                go_end0
                have e : en = mid := by have := HEN.out; have := HNM.out; omega
                exact ⟨rfl, d2, HFIN.out d2 (permIn_refl _ _ _) (by have := HS4.out; rw [e] at this; exact this), HSW2.out⟩
end Go.Proofs.Ythnkikdbllkmkaa
