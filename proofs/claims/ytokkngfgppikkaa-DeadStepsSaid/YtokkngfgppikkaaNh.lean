/- The document's Trim. Printed by genNh.py of this repository. -/
import Derived.Test.YtokkngfgppikkaaNg
import Derived.Deep.RegionHeld3
namespace Go.Proofs.Ytokkngfgppikkaa
set_option linter.unusedVariables false
set_option linter.unusedSimpArgs false
open Go.RowKit

/-- What the making of a block reads. -/
def SRT (w : World) (p : Nat) (v3 : Value) (ad : Addr) (v0 : Value) (g : Nat) (t : Term) : Prop := w.cell? ⟨p, 3, none⟩ = some v3 ∧ w.cell? ad = some v0 ∧ w.cell? ⟨g, 0, none⟩ = some (.int .i64 t.kind) ∧ w.cell? ⟨g, 1, none⟩ = some (.int .i64 t.op) ∧ w.cell? ⟨g, 2, none⟩ = some (.int .i64 t.a) ∧ w.cell? ⟨g, 3, none⟩ = some (.int .i64 t.b) ∧ w.cell? ⟨g, 4, none⟩ = some (.int .i64 t.to) ∧ w.cell? ⟨g, 5, none⟩ = some (.int .i64 t.els) ∧ w.cell? ⟨g, 6, none⟩ = some (.int .i64 t.ins.op) ∧ w.cell? ⟨g, 7, none⟩ = some (.int .i64 t.ins.a) ∧ w.cell? ⟨g, 8, none⟩ = some (.int .i64 t.ins.b) ∧ w.cell? ⟨g, 9, none⟩ = some (.int .i64 t.ins.c) ∧ w.cell? ⟨g, 10, none⟩ = some (.int .i64 t.ins.imm)
theorem SRT.sub {w w' : World} {p : Nat} {v3 : Value} {ad : Addr} {v0 : Value} {g : Nat} {t : Term} (h : SRT w p v3 ad v0 g t) (hs : Sub w w') : SRT w' p v3 ad v0 g t := by
  obtain ⟨s0, s1, s2, s3, s4, s5, s6, s7, s8, s9, s10, s11, s12⟩ := h
  exact ⟨hs _ _ s0, hs _ _ s1, hs _ _ s2, hs _ _ s3, hs _ _ s4, hs _ _ s5, hs _ _ s6, hs _ _ s7, hs _ _ s8, hs _ _ s9, hs _ _ s10, hs _ _ s11, hs _ _ s12⟩
theorem cell_kept {w w' : World} {a : Addr} {v : Value} (h : w.cell? a = some v) (hb : w'.heap[a.block]? = w.heap[a.block]?) : w'.cell? a = some v := (World.cell?_of_block hb).trans h
theorem SRT.keep {w w' : World} {p : Nat} {v3 : Value} {ad : Addr} {v0 : Value} {g : Nat} {t : Term} (h : SRT w p v3 ad v0 g t) (h1 : w'.heap[p]? = w.heap[p]?) (h2 : w'.heap[ad.block]? = w.heap[ad.block]?) (h3 : w'.heap[g]? = w.heap[g]?) : SRT w' p v3 ad v0 g t := by
  obtain ⟨s0, s1, s2, s3, s4, s5, s6, s7, s8, s9, s10, s11, s12⟩ := h
  exact ⟨cell_kept s0 h1, cell_kept s1 h2, cell_kept s2 h3, cell_kept s3 h3, cell_kept s4 h3, cell_kept s5 h3, cell_kept s6 h3, cell_kept s7 h3, cell_kept s8 h3, cell_kept s9 h3, cell_kept s10 h3, cell_kept s11 h3, cell_kept s12 h3⟩
theorem SRT.grown {w w' : World} {p : Nat} {v3 : Value} {ad : Addr} {v0 : Value} {g : Nat} {t : Term} {q : Nat} (h : SRT w p v3 ad v0 g t) (hg : w.grownBy w' (some q)) (n1 : p ≠ q) (n2 : ad.block ≠ q) (n3 : g ≠ q) : SRT w' p v3 ad v0 g t :=
  h.keep (hg.block _ (World.lt_of_cell h.1) (fun e => by injection e with e; exact n1 e)) (hg.block _ (World.lt_of_cell h.2.1) (fun e => by injection e with e; exact n2 e)) (hg.block _ (World.lt_of_cell h.2.2.1) (fun e => by injection e with e; exact n3 e))
theorem b912_row {w w1 w2 : World} {r : Option Nat} {g : Nat} (h : Below w.heap.size w w1) (k : w1.grownBy w2 r) (hg : g < w.heap.size) (hne : ¬ r = some g) : w2.heap[g]? = w.heap[g]? :=
  (k.block g (Nat.lt_of_lt_of_le hg h.size) (fun e => hne e.symm)).trans (h.block g hg)
theorem atL_here {seen : List Bool} {k : Nat} (hk : k < seen.length) : (atL seen k)[k]? = some 0 := by
  unfold atL
  rw [List.getElem?_map, List.getElem?_range hk]
  simp
theorem atN_zero (seen : List Bool) : atN seen 0 = 0 := rfl
theorem RowI.cellSet {w : World} {g : Nat} {xs : List Int} {i : Nat} {y : Int} (h : RowI w g (xs.set i y)) (hi : i < xs.length) : w.cell? ⟨g, i, none⟩ = some (.int .i64 y) := h.cell (by rw [List.getElem?_set, if_pos rfl, if_pos hi])

set_option maxHeartbeats 16000000 in
set_option maxRecDepth 100000 in
theorem refTrim_calls (nm : ByteArray) (kp lf : Bool) (A : Option Addr) (c : Nat) (bs : List Block) (w : World) (hC : kBlock.C w A bs) (hl : bs.length ≤ 1000) (hfew : blocksFew bs = true) (hld : Leads bs) (hpos : 0 < bs.length) : Calls Try.prog 34 #[.agg #[.string nm, .bool kp, .bool lf, .slice A bs.length c]] w
    (TrimmedG nm kp lf bs w) := by
  have hlo : bs.length ≤ 9223372036854775807 := by omega
  obtain ⟨-, h300⟩ := blocksFew_parts hfew
  have H3 := Lib.hid h300
  have HLD := Lib.hid hld
  have HFW := Lib.hid hfew
  clear hld hfew h300
  obtain ⟨W, hW, b0, hz0, r0, z0⟩ := two_rows w #[.string nm, .bool kp, .bool lf, .slice A bs.length c] #[.string ⟨#[]⟩, .bool false, .bool false, .slice none 0 0] 33 33
  go_enter Try.func34, Try.ntmps34
  go_upto_region 1 with fail
  rw [← hW]
  have HZ0 := Lib.hid hz0
  have HW := Lib.hid hW
  have ra : Row W w.heap.size 33 (graphCells (.slice A bs.length c) ⟨nm, kp, lf, bs⟩) := r0
  have hs0 : w.heap.size + 1 < W.heap.size := by omega
  have hs1 : w.heap.size ≠ W.heap.size := by omega
  obtain ⟨x0, x1, x2, x3⟩ := ra.graph
  clear hz0 hW r0
  obtain ⟨W2, hmk, hrow, hb1, hz1⟩ := make_bools bs.length (by omega) W
  have f0 := hrow.cell (i := 0) (b := false) (by rw [List.getElem?_replicate, if_pos hpos])
  have f1 := hrow.frozen 0
  obtain ⟨hr2, hg2⟩ := hrow.set 0 true
  have hb2 := hb1.grown hg2 hb1.size (fun k hk => by injection hk with e; omega)
  have hfirst := RSE.first (E := TEdge bs) hpos
  have HFI := Lib.hid hfirst
  clear hz1 hrow hb1 hfirst
  go_upto_region 3 with fail
  generalize W2.setCell ⟨W.heap.size, 0, none⟩ (.bool true) = W3 at *
  clear f0 f1 hmk hg2
  generalize hGB : W.heap.size = GB at hr2 ⊢
  have RA := Lib.hid ra
  have Z0 := Lib.hid z0
  clear ra z0 x0 x1 x2
  go_wp2_with fail
  go_loopw [4] (fun v wr => ∃ (r : Nat) (xs : List Bool), r ≤ bs.length ∧ v = .int .i64 r ∧ RSE (TEdge bs) bs.length 0 xs ∧ (ClosedE (TEdge bs) xs ∨ offs xs + r + 1 ≤ bs.length) ∧ RowB wr GB xs ∧ Below W.heap.size W wr) (fun v _ => bs.length - (intOf v).toNat)
  case atStart => exact ⟨0, _, Nat.zero_le _, rfl, HFI.out.1, .inr HFI.out.2, hr2, hb2⟩
  case round =>
    obtain ⟨r, xs0, hr, rfl, hrs, hcl, hrow0, hbr0⟩ := hrel
    by_cases hlt : r < bs.length
    · have hm0 := RMidE.start hrs
      have HRS := Lib.hid hrs
      have HCL := Lib.hid hcl
      have HM := Lib.hid hm0
      clear hrs hcl hm0
      go_wp2_with fail
      go_loopw [5] (fun v wr => ∃ (j : Nat) (xs : List Bool), j ≤ bs.length ∧ v = .int .i64 j ∧ RMidE (TEdge bs) bs.length 0 xs0 j xs ∧ RowB wr GB xs ∧ Below W.heap.size W wr) (fun v _ => bs.length - (intOf v).toNat)
      case atStart => exact ⟨0, xs0, Nat.zero_le _, rfl, HM.out, hrow0, hbr0⟩
      case round =>
        obtain ⟨j, xs, hj, rfl, hmid, hrow, hbr⟩ := hrel
        by_cases hltj : j < bs.length
        · obtain ⟨b, hb⟩ := get_some bs j hltj
          have hbm := List.mem_of_getElem? hb
          have hlead := HLD.out b hbm
          have hedge : ∀ y : Nat, TEdge bs j y → (b.fin.kind = 1 ∨ b.fin.kind = 2) ∧ b.fin.to = (y : Int) ∨ b.fin.kind = 2 ∧ b.fin.els = (y : Int) := fun y ⟨b', hb', h⟩ => by
            rw [hb] at hb'
            injection hb' with e
            rw [e]
            exact h
          have hmkE : ∀ y : Nat, ((b.fin.kind = 1 ∨ b.fin.kind = 2) ∧ b.fin.to = (y : Int) ∨ b.fin.kind = 2 ∧ b.fin.els = (y : Int)) → TEdge bs j y := fun y h => ⟨b, hb, h⟩
          have tw := b0.trans (hbr.mono (by omega))
          obtain ⟨ad, Ab, cb, rfl, i0, i1, i2, i3, i4, i5, i6, i7, i8, i9, i10, i11, -, lb, mb, gb⟩ := Block_at (Kd.C_mono tw hC) hb
          obtain ⟨bj, hbj⟩ := get_some xs j (by rw [hmid.rs.len]; exact hltj)
          have hxl := hmid.rs.len
          have x3' := (RA.out.belowAt hbr (by omega)).cell (j := 3) rfl
          have HMID := Lib.hid hmid
          have HEDGE := Lib.hid hedge
          have HMKE := Lib.hid hmkE
          have HLEAD := Lib.hid hlead
          have HXL := Lib.hid hxl
          have HBJ := Lib.hid hbj
          clear hb hbm hlead hmid hedge hmkE hbj hxl gb
          have b2 := below_alloc' wr (.cells #[.int .i64 b.fin.kind, .int .i64 b.fin.op, .int .i64 b.fin.a, .int .i64 b.fin.b, .int .i64 b.fin.to, .int .i64 b.fin.els, .int .i64 b.fin.ins.op, .int .i64 b.fin.ins.a, .int .i64 b.fin.ins.b, .int .i64 b.fin.ins.c, .int .i64 b.fin.ins.imm] 40)
          have r2 : Row (wr.alloc (.cells #[.int .i64 b.fin.kind, .int .i64 b.fin.op, .int .i64 b.fin.a, .int .i64 b.fin.b, .int .i64 b.fin.to, .int .i64 b.fin.els, .int .i64 b.fin.ins.op, .int .i64 b.fin.ins.a, .int .i64 b.fin.ins.b, .int .i64 b.fin.ins.c, .int .i64 b.fin.ins.imm] 40)) wr.heap.size 40 (finCells b.fin) := Row.new wr _ _
          go_upto_region 10 with fail
          generalize wr.alloc (.cells #[.int .i64 b.fin.kind, .int .i64 b.fin.op, .int .i64 b.fin.a, .int .i64 b.fin.b, .int .i64 b.fin.to, .int .i64 b.fin.els, .int .i64 b.fin.ins.op, .int .i64 b.fin.ins.a, .int .i64 b.fin.ins.b, .int .i64 b.fin.ins.c, .int .i64 b.fin.ins.imm] 40) = W5 at *
          clear i0 i1 i2 i3 i4 i5 i6 i7 i8 i9 i10 i11 x3'
          obtain ⟨y0, y1, y2, y3, y4, y5, y6, y7, y8, y9, y10⟩ := termRow r2
          have row5 := hrow.below b2
          have hb5 : Below W.heap.size W W5 := hbr.trans (b2.mono hbr.size)
          have hgb : GB < wr.heap.size := hrow.lt
          have c0 := row5.cell HBJ.out
          cases bj with
          | false =>
            have hs := HMID.out.skip (fun h => by have := HBJ.out; unfold On at h; rw [this] at h; cases h)
            have HS := Lib.hid hs
            clear hs
            go_wp2_with fail
            exact ⟨⟨j + 1, xs, by omega, by go_num, HS.out, row5, hb5⟩, by simp [intOf]; omega⟩
          | true =>
            have hon : On xs j := HBJ.out
            have HON := Lib.hid hon
            clear hon
            by_cases hk2 : b.fin.kind = 2
            · have z1 : (b.fin.kind == 2) = true := by simp [hk2]
              have z2 : (b.fin.kind == 1) = false := ibeq (by omega)
              obtain ⟨⟨ht0, ht1⟩, he0, he1⟩ := And.intro (HLEAD.out.1 (.inr hk2)) (HLEAD.out.2 hk2)
              obtain ⟨nt, hnt⟩ := Int.eq_ofNat_of_zero_le ht0
              obtain ⟨ne, hne⟩ := Int.eq_ofNat_of_zero_le he0
              have hntl : nt < bs.length := by omega
              have hnel : ne < bs.length := by omega
              obtain ⟨m1, mono1, on1⟩ := HMID.out.set HON.out (HMKE.out nt (.inl ⟨.inr hk2, hnt⟩)) hntl
              obtain ⟨m2, mono2, on2⟩ := m1.set (mono1 _ HON.out) (HMKE.out ne (.inr ⟨hk2, hne⟩)) hnel
              have hfin := m2.next (fun y hy => by
                rcases HEDGE.out y hy with ⟨-, e⟩ | ⟨-, e⟩
                · obtain rfl : y = nt := by omega
                  exact mono2 _ on1
                · obtain rfl : y = ne := by omega
                  exact on2)
              have HFIN := Lib.hid hfin
              obtain ⟨q1, hq1⟩ := get_some xs nt (by rw [HXL.out]; exact hntl)
              have d1 := row5.cell hq1
              have d2 := row5.frozen nt
              obtain ⟨s1, s2⟩ := row5.set nt true
              have onj : (xs.set nt true)[j]? = some true := mono1 _ HON.out
              have c1 := s1.cell onj
              obtain ⟨q2, hq2⟩ := get_some (xs.set nt true) ne (by rw [List.length_set, HXL.out]; exact hnel)
              have d3 := s1.cell hq2
              have d4 := s1.frozen ne
              obtain ⟨s3, s4⟩ := s1.set ne true
              have hb6 : Below W.heap.size W (W5.setCell ⟨GB, nt, none⟩ (.bool true)) := hb5.grown s2 hb5.size (fun j hj => by injection hj with hj; omega)
              have hb7 := hb6.grown s4 hb6.size (fun j hj => by injection hj with hj; omega)
              have r6 := r2.grown s2 (fun e => by injection e with e; omega)
              have HB7 := Lib.hid hb7
              have S3 := Lib.hid s3
              have HNE := Lib.hid hne
              rw [hnt] at y4
              clear ht0 ht1 he0 he1 m1 mono1 on1 m2 mono2 on2 hfin hq1 hq2 onj s1 s3 s4 hb7 hb6 hk2 hne s2
              go_upto_region 12 with fail
              generalize W5.setCell ⟨GB, nt, none⟩ (.bool true) = W6 at *
              clear y0 y1 y2 y3 y4 y5 y6 y7 y8 y9 y10 d1 d2 c0
              obtain ⟨y0, y1, y2, y3, y4, y5, y6, y7, y8, y9, y10⟩ := termRow r6
              rw [HNE.out] at y5
              go_wp2_with fail
              exact ⟨⟨j + 1, _, by omega, by go_num, HFIN.out, S3.out, HB7.out⟩, by simp [intOf]; omega⟩
            · have z1 : (b.fin.kind == 2) = false := ibeq hk2
              by_cases hk1 : b.fin.kind = 1
              · have z2 : (b.fin.kind == 1) = true := by simp [hk1]
                obtain ⟨ht0, ht1⟩ := HLEAD.out.1 (.inl hk1)
                obtain ⟨nt, hnt⟩ := Int.eq_ofNat_of_zero_le ht0
                have hntl : nt < bs.length := by omega
                obtain ⟨m1, mono1, on1⟩ := HMID.out.set HON.out (HMKE.out nt (.inl ⟨.inl hk1, hnt⟩)) hntl
                have hfin := m1.next (fun y hy => by
                  rcases HEDGE.out y hy with ⟨-, e⟩ | ⟨h, e⟩
                  · obtain rfl : y = nt := by omega
                    exact on1
                  · exact absurd h hk2)
                have HFIN := Lib.hid hfin
                obtain ⟨q1, hq1⟩ := get_some xs nt (by rw [HXL.out]; exact hntl)
                have d1 := row5.cell hq1
                have d2 := row5.frozen nt
                obtain ⟨s1, s2⟩ := row5.set nt true
                have onj : (xs.set nt true)[j]? = some true := mono1 _ HON.out
                have c1 := s1.cell onj
                have hb6 : Below W.heap.size W (W5.setCell ⟨GB, nt, none⟩ (.bool true)) := hb5.grown s2 hb5.size (fun j hj => by injection hj with hj; omega)
                have r6 := r2.grown s2 (fun e => by injection e with e; omega)
                have S1 := Lib.hid s1
                have HB6 := Lib.hid hb6
                rw [hnt] at y4
                clear ht0 ht1 m1 mono1 on1 hfin hq1 onj s1 hb6 hk2 hk1 s2
                go_upto_region 12 with fail
                generalize W5.setCell ⟨GB, nt, none⟩ (.bool true) = W6 at *
                clear y0 y1 y2 y3 y4 y5 y6 y7 y8 y9 y10 d1 d2 c0
                obtain ⟨y0, y1, y2, y3, y4, y5, y6, y7, y8, y9, y10⟩ := termRow r6
                go_wp2_with fail
                exact ⟨⟨j + 1, _, by omega, by go_num, HFIN.out, S1.out, HB6.out⟩, by simp [intOf]; omega⟩
              · have z2 : (b.fin.kind == 1) = false := ibeq hk1
                have hfin := HMID.out.next (fun y hy => by
                  rcases HEDGE.out y hy with ⟨h, e⟩ | ⟨h, e⟩
                  · exact absurd h (fun h => h.elim hk1 hk2)
                  · exact absurd h hk2)
                have HFIN := Lib.hid hfin
                clear hfin hk1 hk2
                go_wp2_with fail
                exact ⟨⟨j + 1, _, by omega, by go_num, HFIN.out, row5, hb5⟩, by simp [intOf]; omega⟩
        · obtain rfl : j = bs.length := by omega
          have hd := RMidE.round HRS.out HCL.out hmid
          have hrs := hmid.rs
          have HD := Lib.hid hd
          have HR2 := Lib.hid hrs
          clear hd hmid hrs
          go_wp2_with fail
          exact ⟨⟨r + 1, xs, by omega, by go_num, HR2.out, HD.out, hrow, hbr⟩, by simp [intOf]; omega⟩
    · obtain rfl : r = bs.length := by omega
      have hfin : ClosedE (TEdge bs) xs0 := hcl.resolve_right (by omega)
      have hreach := hrs.isReach hfin
      have HREACH := Lib.hid hreach
      obtain ⟨seen, hseen⟩ : ∃ seen, seen = xs0 := ⟨_, rfl⟩
      subst hseen
      have hsl := hreach.1
      have HSL := Lib.hid hsl
      have RB := Lib.hid hrow0
      have hgb : GB < wr.heap.size := hrow0.lt
      obtain ⟨W6, hmk, hri, hb6, hz6⟩ := make_ints bs.length (by omega) wr
      clear hreach hfin hrs hcl hz6 hsl
      have hbr6 := hbr0.trans (hb6.mono hbr0.size)
      have rb6 := hrow0.below hb6
      rw [show (List.replicate bs.length (0 : Int)) = atL seen 0 from by rw [← HSL.out]; exact atL_zero seen] at hri
      go_upto_region 15 with fail
      generalize hGI : wr.heap.size = GI at *
      have RI := Lib.hid hri
      have RB6 := Lib.hid rb6
      have HBR6 := Lib.hid hbr6
      clear hri rb6 hbr6 hmk hrow0 hb6 RB hbr0
      go_wp2_with fail
      go_loopw [8] (fun v wr => ∃ (i : Nat), i ≤ bs.length ∧ v = .int .i64 i ∧ RowI wr GI (atL seen i) ∧ W6.grownBy wr (some GI)) (fun v _ => bs.length - (intOf v).toNat)
      case atStart => exact ⟨0, Nat.zero_le _, rfl, RI.out, grown_refl _ _⟩
      case round =>
        obtain ⟨i, hi, rfl, hri, hgr⟩ := hrel
        by_cases hlti : i < bs.length
        · have hst : (atL seen i).set i (atN seen 0 : Int) = atL seen i := set_same (by rw [atN_zero]; exact atL_here (by rw [HSL.out]; exact hlti))
          have hri' : RowI wr GI ((atL seen i).set i (atN seen 0 : Int)) := by rw [hst]; exact hri
          have HRI := Lib.hid hri'
          have hil : i < (atL seen i).length := by rw [atL_len, HSL.out]; exact hlti
          clear hst hri hri'
          go_wp2_with fail
          go_loopw [9] (fun v wr => ∃ (m : Nat), m ≤ i ∧ v = .int .i64 m ∧ RowI wr GI ((atL seen i).set i (atN seen m : Int)) ∧ W6.grownBy wr (some GI)) (fun v _ => i - (intOf v).toNat)
          case atStart => exact ⟨0, Nat.zero_le _, rfl, HRI.out, hgr⟩
          case round =>
            obtain ⟨m, hm, rfl, hri, hgr⟩ := hrel
            by_cases hltm : m < i
            · obtain ⟨s, hs⟩ := get_some seen m (by rw [HSL.out]; omega)
              have rb := RB6.out.apart hgr (by simp; omega)
              have f0 := rb.cell hs
              have hsucc := atN_succ hs
              have hak := atN_le seen m
              cases s with
              | false =>
                have hs1 : atN seen (m + 1) = atN seen m := hsucc
                have HS1 := Lib.hid hs1
                clear hs1 hsucc hs rb
                go_wp2_with fail
                exact ⟨⟨m + 1, by omega, by go_num, by rw [HS1.out]; exact hri, hgr⟩, by simp [intOf]; omega⟩
              | true =>
                have hs1 : atN seen (m + 1) = atN seen m + 1 := hsucc
                have HS1 := Lib.hid hs1
                have f1 := hri.cellSet hil
                have f2 := hri.frozen i
                obtain ⟨s1, s2⟩ := hri.set i ((atN seen m : Int) + 1)
                rw [List.set_set] at s1
                have es : (atL seen i).set i ((atN seen m : Int) + 1) = (atL seen i).set i (atN seen (m + 1) : Int) := by rw [show ((atN seen m : Int) + 1) = (atN seen (m + 1) : Int) from by omega]
                rw [es] at s1
                have S1 := Lib.hid s1
                have S2 := Lib.hid s2
                clear hs1 hsucc hs rb s1 s2 hri es
                go_wp2_with fail
                exact ⟨⟨m + 1, by omega, by go_num, by exact S1.out, grown_trans hgr S2.out⟩, by simp [intOf]; omega⟩
            · obtain rfl : m = i := by omega
              rw [atL_succ (by rw [HSL.out]; exact hlti)] at hri
              go_wp2_with fail
              exact ⟨⟨m + 1, by omega, by go_num, hri, hgr⟩, by simp [intOf]; omega⟩
        · obtain rfl : i = bs.length := by omega
          have rb7 := RB6.out.apart hgr (by simp; omega)
          have hsz7 := hgr.size
          have hbr7 := HBR6.out.grown hgr HBR6.out.size (fun j hj => by injection hj with hj; omega)
          have ra7 := RA.out.belowAt hbr7 (by omega)
          have rz7 := Z0.out.belowAt hbr7 (by omega)
          have t7 := b0.trans (hbr7.mono (by omega))
          have hgi : GI < wr.heap.size := hri.lt
          obtain ⟨x0, x1, x2, x3⟩ := ra7.graph
          clear RI RB6 HBR6 hgr
          go_wp2_with fail
          refine (copy_calls _ _ _ _ _ bs _ (Kd.C_mono t7 hC) (Nat.le_trans hl (by decide)) HFW.out).mono ?_
          rintro e w9 ⟨A9, c9, F9, rfl, own9, hF9, hb9⟩
          have b8 := below_alloc' w9 (.cells #[.string nm, .bool kp, .bool lf, .slice none 0 0] 33)
          have r8 : Row (w9.alloc (.cells #[.string nm, .bool kp, .bool lf, .slice none 0 0] 33)) w9.heap.size 33 (graphCells (.slice none 0 0) ⟨nm, kp, lf, bs⟩) := Row.new w9 _ _
          clear own9 x0 x1 x2 x3
          go_upto_region 25 with fail
          have hb98 := hb9.trans (b8.mono hb9.size)
          have hw9 := hb9.size
          generalize w9.alloc (.cells #[.string nm, .bool kp, .bool lf, .slice none 0 0] 33) = W8 at *
          have hG8' : w9.heap.size < W8.heap.size := r8.lt
          generalize w9.heap.size = G8 at *
          have RA8 := Lib.hid (ra7.below hb98)
          have RZ8 := Lib.hid (rz7.below hb98)
          have RB8 := Lib.hid (rb7.below hb98)
          have RI8 := Lib.hid (hri.below hb98)
          have T8 := Lib.hid (t7.trans (hb98.mono t7.size))
          have R8 := Lib.hid r8
          clear ra7 rz7 rb7 hri t7 hb9 b8 hb98 r8 hbr7
          go_wp2_with fail
          go_loopw [11] (fun i wr => ∃ (k : Nat) (v : Value) (F : Nat → Prop), k ≤ bs.length ∧ i = .int .i64 k ∧ OwnF oBlock 42 wr v (trimK seen bs k) F ∧ (∀ b, F b → W8.heap.size ≤ b) ∧ Row wr G8 33 (graphCells v ⟨nm, kp, lf, bs⟩) ∧ W8.grownBy wr (some G8)) (fun i _ => bs.length - (intOf i).toNat)
          case atStart => exact ⟨0, _, _, Nat.zero_le _, rfl, OwnF.nil _ _ _, fun _ h => h.elim, R8.out, grown_refl _ _⟩
          case round =>
            obtain ⟨k, v, F, hk, rfl, ho, hF, hrg, hgr⟩ := hrel
            have hsr := hgr.size
            have t10 := T8.out.grown hgr T8.out.size (fun j hj => by injection hj with hj; omega)
            have rz := RZ8.out.grown hgr (fun e => by injection e with e; omega)
            have rb := RB8.out.apart hgr (by simp; omega)
            by_cases hltk : k < bs.length
            · obtain ⟨b, hb⟩ := get_some bs k hltk
              have hbm := List.mem_of_getElem? hb
              have hlead := HLD.out b hbm
              have h300 := H3.out b hbm
              obtain ⟨s, hs⟩ := get_some seen k (by rw [HSL.out]; exact hltk)
              have hon := trimK_on (seen := seen) hb
              have hoff := trimK_off (seen := seen) (bs := bs) (k := k)
              have c0 := rb.cell hs
              cases s with
              | false =>
                rw [← hoff hs] at ho
                have HO := Lib.hid ho
                clear ho hs hon hoff hb hbm hlead rb rz
                go_wp2_with fail
                exact ⟨⟨k + 1, v, F, by omega, by go_num, HO.out, hF, hrg, hgr⟩, by simp [intOf]; omega⟩
              | true =>
                have htk := hon hs
                have HTK := Lib.hid htk
                have hlenk : (trimK seen bs k).length ≤ k := by rw [trimK_len HSL.out k hk]; exact atN_le _ _
                have hlenk1 : (trimK seen bs (k + 1)).length ≤ bs.length := Nat.le_trans (by rw [trimK_len HSL.out (k + 1) hltk]; exact atN_le _ _) hltk
                have ra := RA8.out.grown hgr (fun e => by injection e with e; omega)
                have ri := RI8.out.apart hgr (by simp; omega)
                have x3 := ra.cell (j := 3) rfl
                obtain ⟨ad, Ab, cb, rfl, i0, i1, i2, i3, i4, i5, i6, i7, i8, i9, i10, i11, hwf, lb, mb, gb⟩ := Block_at (Kd.C_mono t10 hC) hb
                have hlb := len_le lb mb
                have hadW : (ad.add (k * 12)).block < W8.heap.size := by
                  obtain ⟨_, _, _, e, u0, -⟩ := Block_at hC hb
                  injection e with e
                  rw [e]
                  have h1 := World.lt_of_cell u0
                  have h2 := T8.out.size
                  omega
                have hadG : (ad.add (k * 12)).block ≠ G8 := by
                  obtain ⟨_, _, _, e, u0, -⟩ := Block_at hC hb
                  injection e with e
                  rw [e]
                  have h1 := World.lt_of_cell u0
                  omega
                have hpW : w.heap.size < W8.heap.size := by omega
                have hG8 : G8 < W8.heap.size := hG8'
                have hlt := ho.lt
                have hne0 : ∀ j, F j → wr.heap.size ≠ j := fun j hj => by have := hlt j hj; omega
                have HNE0 := Lib.hid hne0
                have HO := Lib.hid ho
                have HF := Lib.hid hF
                have HWF := Lib.hid hwf
                have HLEAD := Lib.hid hlead
                clear ho hF hwf hlead hb hbm hon hoff hs htk hlt hne0
                have b2 := below_alloc' wr (.cells #[.int .i64 b.fin.kind, .int .i64 b.fin.op, .int .i64 b.fin.a, .int .i64 b.fin.b, .int .i64 b.fin.to, .int .i64 b.fin.els, .int .i64 b.fin.ins.op, .int .i64 b.fin.ins.a, .int .i64 b.fin.ins.b, .int .i64 b.fin.ins.c, .int .i64 b.fin.ins.imm] 40)
                have r2 : Row (wr.alloc (.cells #[.int .i64 b.fin.kind, .int .i64 b.fin.op, .int .i64 b.fin.a, .int .i64 b.fin.b, .int .i64 b.fin.to, .int .i64 b.fin.els, .int .i64 b.fin.ins.op, .int .i64 b.fin.ins.a, .int .i64 b.fin.ins.b, .int .i64 b.fin.ins.c, .int .i64 b.fin.ins.imm] 40)) wr.heap.size 40 (finCells b.fin) := Row.new wr _ _
                go_upto_region 30 with fail
                generalize wr.alloc (.cells #[.int .i64 b.fin.kind, .int .i64 b.fin.op, .int .i64 b.fin.a, .int .i64 b.fin.b, .int .i64 b.fin.to, .int .i64 b.fin.els, .int .i64 b.fin.ins.op, .int .i64 b.fin.ins.a, .int .i64 b.fin.ins.b, .int .i64 b.fin.ins.c, .int .i64 b.fin.ins.imm] 40) = W10 at *
                clear i1 i2 i3 i4 i5 i6 i7 i8 i9 i10 i11 c0
                have x3' := Sub.of_below b2 _ _ x3
                have i0' := Sub.of_below b2 _ _ i0
                obtain ⟨y0, y1, y2, y3, y4, y5, y6, y7, y8, y9, y10⟩ := termRow r2
                have ri2 := ri.below b2
                have hgi2 : GI < W8.heap.size := by omega
                by_cases hk2 : b.fin.kind = 2
                · have z1 : (b.fin.kind == 2) = true := by simp [hk2]
                  have z2 : (b.fin.kind == 1) = false := ibeq (by omega)
                  obtain ⟨⟨ht0, ht1⟩, he0, he1⟩ := And.intro (HLEAD.out.1 (.inr hk2)) (HLEAD.out.2 hk2)
                  obtain ⟨nt, hnt⟩ := Int.eq_ofNat_of_zero_le ht0
                  obtain ⟨ne, hne⟩ := Int.eq_ofNat_of_zero_le he0
                  have hntl : nt < bs.length := by omega
                  have hnel : ne < bs.length := by omega
                  have hB : trimB seen b = ⟨b.ops, b.fin.lead (atN seen nt : Int) (atN seen ne : Int)⟩ := by
                    unfold trimB trimT
                    rw [if_pos (.inr hk2), if_pos hk2, hnt, hne, Int.toNat_natCast, Int.toNat_natCast]
                  have HB := Lib.hid hB
                  have h1 := atN_small (seen := seen) (by rw [HSL.out]; exact hl) nt
                  have h2 := atN_small (seen := seen) (by rw [HSL.out]; exact hl) ne
                  have hw := lead_wf HWF.out (x := atN seen nt) (y := atN seen ne) (by omega) (by omega)
                  have HW := Lib.hid hw
                  have k1 := ri2.cell (atL_all' HSL.out hntl)
                  have HNE2 := Lib.hid hne
                  rw [hnt] at y4
                  have z4 := r2.frozen 4
                  have s4 : Row (W10.setCell ⟨wr.heap.size, 4, none⟩ (.int .i64 (atN seen nt : Int))) wr.heap.size 40 (finCells (b.fin.lead (atN seen nt : Int) b.fin.els)) := r2.set 4 _
                  have g4 := grown_set W10 wr.heap.size 4 (.int .i64 (atN seen nt : Int))
                  clear ht0 ht1 he0 he1 hB hw hk2 hnt hne h1 h2
                  go_upto_region 32 with fail
                  have b4 : Below wr.heap.size wr (W10.setCell ⟨wr.heap.size, 4, none⟩ (.int .i64 (atN seen nt : Int))) := b2.grown g4 b2.size (fun j hj => by injection hj with hj; omega)
                  have ri4 := ri2.apart g4 (by simp; omega)
                  generalize W10.setCell ⟨wr.heap.size, 4, none⟩ (.int .i64 (atN seen nt : Int)) = W11 at *
                  have k2 := ri4.cell (atL_all' HSL.out hnel)
                  clear y0 y1 y2 y3 y4 y5 y6 y7 y8 y9 y10 z4 k1 r2 g4 ri2 x3' i0'
                  obtain ⟨y0, y1, y2, y3, y4, y5, y6, y7, y8, y9, y10⟩ := termRow s4
                  replace y0 : W11.cell? ⟨wr.heap.size, 0, none⟩ = some (.int .i64 b.fin.kind) := y0
                  replace y5 : W11.cell? ⟨wr.heap.size, 5, none⟩ = some (.int .i64 (ne : Int)) := by rw [← HNE2.out]; exact y5
                  have z5 := s4.frozen 5
                  have rtq : Row (W11.setCell ⟨wr.heap.size, 5, none⟩ (.int .i64 (atN seen ne : Int))) wr.heap.size 40 (finCells (b.fin.lead (atN seen nt : Int) (atN seen ne : Int))) := s4.set 5 _
                  have g5 := grown_set W11 wr.heap.size 5 (.int .i64 (atN seen ne : Int))
                  go_upto_region 34 with fail
                  have bq : Below wr.heap.size wr (W11.setCell ⟨wr.heap.size, 5, none⟩ (.int .i64 (atN seen ne : Int))) := b4.grown g5 b4.size (fun j hj => by injection hj with hj; omega)
                  generalize W11.setCell ⟨wr.heap.size, 5, none⟩ (.int .i64 (atN seen ne : Int)) = Wq at *
                  clear y0 y1 y2 y3 y4 y5 y6 y7 y8 y9 y10 z5 k2 s4 g5 ri4
                  have SQ : SRT Wq w.heap.size (.slice (some ad) bs.length c) (ad.add (k * 12)) (.slice Ab b.ops.length cb) wr.heap.size (b.fin.lead (atN seen nt : Int) (atN seen ne : Int)) := ⟨Sub.of_below bq _ _ x3, Sub.of_below bq _ _ i0, termRow rtq⟩
                  have GQ : kOp.C Wq Ab b.ops := Kd.C_mono bq gb
                  have hq10 := hrg.below bq
                  have q33 := hq10.cell (j := 3) rfl
                  have HOq := Lib.hid (HO.out.below bq)
                  have hW8q : W8.heap.size ≤ Wq.heap.size := Nat.le_trans hsr bq.size
                  refine wp_region_held_drew (S := (fun w' => SRT w' w.heap.size (.slice (some ad) bs.length c) (ad.add (k * 12)) (.slice Ab b.ops.length cb) wr.heap.size (b.fin.lead (atN seen nt : Int) (atN seen ne : Int)))) (by kernel_rfl) (SQ) (fun hHeld => ?_)
                  refine wpAnyH_take (i := 0) (oi := _) (v := ?v34m1_1) rfl (by kernel_rfl) (by kernel_rfl) (by kernel_rfl) (fun _ _ _ h => h) (Or.inl ⟨by rfl, ?hy34m1_1⟩) hHeld ?_
                  case hy34m1_1 => (intro wS hSw; (try dsimp only at hSw); obtain ⟨s0, s1, s2, s3, s4, s5, s6, s7, s8, s9, s10, s11, s12⟩ := hSw; go_simp; try with_reducible rfl)
                  try simp only [List.getElem_toArray, List.getElem_cons_succ, List.getElem_cons_zero, Act.put, List.setIfInBounds_toArray, List.set_cons_zero, List.set_cons_succ]
                  refine wpAnyH_take (i := 3) (oi := _) (v := ?v34m1_2) rfl (by kernel_rfl) (by kernel_rfl) (by kernel_rfl) (fun _ _ _ h => h) (Or.inl ⟨by rfl, ?hy34m1_2⟩) hHeld ?_
                  case hy34m1_2 => (intro wS hSw; (try dsimp only at hSw); obtain ⟨s0, s1, s2, s3, s4, s5, s6, s7, s8, s9, s10, s11, s12⟩ := hSw; go_simp; try with_reducible rfl)
                  try simp only [List.getElem_toArray, List.getElem_cons_succ, List.getElem_cons_zero, Act.put, List.setIfInBounds_toArray, List.set_cons_zero, List.set_cons_succ]
                  refine wpAnyH_take (i := 4) (oi := _) (v := ?v34m1_3) rfl (by kernel_rfl) (by kernel_rfl) (by kernel_rfl) (fun _ _ _ h => h) (Or.inl ⟨by rfl, ?hy34m1_3⟩) hHeld ?_
                  case hy34m1_3 => (intro wS hSw; (try dsimp only at hSw); obtain ⟨s0, s1, s2, s3, s4, s5, s6, s7, s8, s9, s10, s11, s12⟩ := hSw; go_simp; try with_reducible rfl)
                  try simp only [List.getElem_toArray, List.getElem_cons_succ, List.getElem_cons_zero, Act.put, List.setIfInBounds_toArray, List.set_cons_zero, List.set_cons_succ]
                  refine wpAnyH_take (i := 5) (oi := _) (v := ?v34m1_4) rfl (by kernel_rfl) (by kernel_rfl) (by kernel_rfl) (fun _ _ _ h => h) (Or.inl ⟨by rfl, ?hy34m1_4⟩) hHeld ?_
                  case hy34m1_4 => (intro wS hSw; (try dsimp only at hSw); obtain ⟨s0, s1, s2, s3, s4, s5, s6, s7, s8, s9, s10, s11, s12⟩ := hSw; go_simp; try with_reducible rfl)
                  try simp only [List.getElem_toArray, List.getElem_cons_succ, List.getElem_cons_zero, Act.put, List.setIfInBounds_toArray, List.set_cons_zero, List.set_cons_succ]
                  refine wpAnyH_take (i := 6) (oi := _) (v := ?v34m1_5) rfl (by kernel_rfl) (by kernel_rfl) (by kernel_rfl) (fun _ _ _ h => h) (Or.inl ⟨by rfl, ?hy34m1_5⟩) hHeld ?_
                  case hy34m1_5 => (intro wS hSw; (try dsimp only at hSw); obtain ⟨s0, s1, s2, s3, s4, s5, s6, s7, s8, s9, s10, s11, s12⟩ := hSw; go_simp; try with_reducible rfl)
                  try simp only [List.getElem_toArray, List.getElem_cons_succ, List.getElem_cons_zero, Act.put, List.setIfInBounds_toArray, List.set_cons_zero, List.set_cons_succ]
                  refine wpAnyH_take (i := 7) (oi := _) (v := ?v34m1_6) rfl (by kernel_rfl) (by kernel_rfl) (by kernel_rfl) (fun _ _ _ h => h) (Or.inl ⟨by rfl, ?hy34m1_6⟩) hHeld ?_
                  case hy34m1_6 => (intro wS hSw; (try dsimp only at hSw); obtain ⟨s0, s1, s2, s3, s4, s5, s6, s7, s8, s9, s10, s11, s12⟩ := hSw; go_simp; try with_reducible rfl)
                  try simp only [List.getElem_toArray, List.getElem_cons_succ, List.getElem_cons_zero, Act.put, List.setIfInBounds_toArray, List.set_cons_zero, List.set_cons_succ]
                  refine wpAnyH_take (i := 8) (oi := _) (v := ?v34m1_7) rfl (by kernel_rfl) (by kernel_rfl) (by kernel_rfl) (fun _ _ _ h => h) (Or.inl ⟨by rfl, ?hy34m1_7⟩) hHeld ?_
                  case hy34m1_7 => (intro wS hSw; (try dsimp only at hSw); obtain ⟨s0, s1, s2, s3, s4, s5, s6, s7, s8, s9, s10, s11, s12⟩ := hSw; go_simp; try with_reducible rfl)
                  try simp only [List.getElem_toArray, List.getElem_cons_succ, List.getElem_cons_zero, Act.put, List.setIfInBounds_toArray, List.set_cons_zero, List.set_cons_succ]
                  refine wpAnyH_take (i := 10) (oi := _) (v := ?v34m1_8) rfl (by kernel_rfl) (by kernel_rfl) (by kernel_rfl) (fun _ _ _ h => h) (Or.inl ⟨by rfl, ?hy34m1_8⟩) hHeld ?_
                  case hy34m1_8 => (intro wS hSw; (try dsimp only at hSw); obtain ⟨s0, s1, s2, s3, s4, s5, s6, s7, s8, s9, s10, s11, s12⟩ := hSw; go_simp; try with_reducible rfl)
                  try simp only [List.getElem_toArray, List.getElem_cons_succ, List.getElem_cons_zero, Act.put, List.setIfInBounds_toArray, List.set_cons_zero, List.set_cons_succ]
                  refine wpAnyH_ready (rs := [1, 2]) (by kernel_rfl) (by simp) ?_
                  refine (AllReadyH.cons (o := _) rfl (fun K hK => ?_) (AllReadyH.cons (o := _) rfl (fun K hK => ?_) AllReadyH.nil))
                  · go_simp
                    refine hK.out _ _ (hHeld) (fun hHeld9 => ?_)
                    clear hK K hHeld
                    try simp only [List.getElem_toArray, List.getElem_cons_succ, List.getElem_cons_zero, Act.put, List.setIfInBounds_toArray, List.set_cons_zero, List.set_cons_succ]
                    refine wpAnyH_ready (rs := [2]) (by kernel_rfl) (by simp) ?_
                    refine (AllReadyH.cons (o := _) rfl (fun K hK => ?_) AllReadyH.nil)
                    go_simp
                    have b2 : Below Wq.heap.size Wq (Wq.drew.alloc (.cells #[] 44)) := (Below.refl _ _).drew.trans (below_alloc' Wq.drew _)
                    have q2 := Sub.of_below b2 _ _ q33
                    have q2b : (Wq.alloc (.cells #[] 44)).cell? ⟨G8, 3, none⟩ = some v := Sub.of_below (below_alloc' Wq _) _ _ q33
                    have G2 := Kd.C_mono b2 GQ
                    have S2 := SQ.sub (Sub.of_below b2)
                    refine hK.out _ _ (S2) (fun hHeld10 => ?_)
                    clear hK K hHeld9
                    try simp only [List.getElem_toArray, List.getElem_cons_succ, List.getElem_cons_zero, Act.put, List.setIfInBounds_toArray, List.set_cons_zero, List.set_cons_succ]
                    refine wpAnyH_ready (rs := [9]) (by kernel_rfl) (by simp) ?_
                    refine (AllReadyH.cons (o := _) rfl (fun K hK => ?_) AllReadyH.nil)
                    refine step_append_f (k := oOp) elOp rfl _ _ rfl (OwnF.empty oOp 44 Wq.drew) (YF.flat G2) (fun _ _ h => h) rfl rfl (by simp; omega) ?_
                    intro v9 w9 hg9
                    obtain ⟨⟨F9, own9, hF9⟩, hgr9⟩ := hg9
                    rw [List.nil_append] at own9
                    have t9 : Below Wq.heap.size Wq w9 := b2.grown hgr9 b2.size (fun j hj => by (injection hj with hj; subst hj; exact Nat.le_refl _))
                    have hF9p : ∀ b, F9 b → Wq.heap.size ≤ b := fun b hb => by (rcases hF9 b hb with h | h | h; exact Nat.le_of_eq h.symm; exact h.elim; exact Nat.le_trans b2.size h)
                    obtain ⟨A9, c9, rfl, l9, m9, hC9⟩ := own9.read
                    have q9 := Sub.of_below t9 _ _ q33
                    have S9 := SQ.sub (Sub.of_below t9)
                    have hl9 := len_le l9 m9
                    refine hK.out _ _ (S9) (fun hHeld11 => ?_)
                    clear hK K hHeld10
                    try simp only [List.getElem_toArray, List.getElem_cons_succ, List.getElem_cons_zero, Act.put, List.setIfInBounds_toArray, List.set_cons_zero, List.set_cons_succ]
                    refine wpAnyH_take (i := 11) (oi := _) (v := ?v34m1_12) rfl (by kernel_rfl) (by kernel_rfl) (by kernel_rfl) (fun _ _ _ h => h) (Or.inl ⟨by rfl, ?hy34m1_12⟩) hHeld11 ?_
                    case hy34m1_12 => (intro wS hSw; (try dsimp only at hSw); obtain ⟨s0, s1, s2, s3, s4, s5, s6, s7, s8, s9, s10, s11, s12⟩ := hSw; go_simp; try with_reducible rfl)
                    try simp only [List.getElem_toArray, List.getElem_cons_succ, List.getElem_cons_zero, Act.put, List.setIfInBounds_toArray, List.set_cons_zero, List.set_cons_succ]
                    refine wpAnyH_ready (rs := [12]) (by kernel_rfl) (by simp) ?_
                    refine (AllReadyH.cons (o := _) rfl (fun K hK => ?_) AllReadyH.nil)
                    go_simp
                    have b12 := below_alloc' w9 (.cells #[.slice A9 b.ops.length c9, .int .i64 (b.fin.lead (atN seen nt : Int) (atN seen ne : Int)).kind, .int .i64 (b.fin.lead (atN seen nt : Int) (atN seen ne : Int)).op, .int .i64 (b.fin.lead (atN seen nt : Int) (atN seen ne : Int)).a, .int .i64 (b.fin.lead (atN seen nt : Int) (atN seen ne : Int)).b, .int .i64 (b.fin.lead (atN seen nt : Int) (atN seen ne : Int)).to, .int .i64 (b.fin.lead (atN seen nt : Int) (atN seen ne : Int)).els, .int .i64 (b.fin.lead (atN seen nt : Int) (atN seen ne : Int)).ins.op, .int .i64 (b.fin.lead (atN seen nt : Int) (atN seen ne : Int)).ins.a, .int .i64 (b.fin.lead (atN seen nt : Int) (atN seen ne : Int)).ins.b, .int .i64 (b.fin.lead (atN seen nt : Int) (atN seen ne : Int)).ins.c, .int .i64 (b.fin.lead (atN seen nt : Int) (atN seen ne : Int)).ins.imm] 42)
                    have q12 := Sub.of_below b12 _ _ q9
                    have S12 := S9.sub (Sub.of_below b12)
                    have hY : YF oBlock (w9.alloc (.cells #[.slice A9 b.ops.length c9, .int .i64 (b.fin.lead (atN seen nt : Int) (atN seen ne : Int)).kind, .int .i64 (b.fin.lead (atN seen nt : Int) (atN seen ne : Int)).op, .int .i64 (b.fin.lead (atN seen nt : Int) (atN seen ne : Int)).a, .int .i64 (b.fin.lead (atN seen nt : Int) (atN seen ne : Int)).b, .int .i64 (b.fin.lead (atN seen nt : Int) (atN seen ne : Int)).to, .int .i64 (b.fin.lead (atN seen nt : Int) (atN seen ne : Int)).els, .int .i64 (b.fin.lead (atN seen nt : Int) (atN seen ne : Int)).ins.op, .int .i64 (b.fin.lead (atN seen nt : Int) (atN seen ne : Int)).ins.a, .int .i64 (b.fin.lead (atN seen nt : Int) (atN seen ne : Int)).ins.b, .int .i64 (b.fin.lead (atN seen nt : Int) (atN seen ne : Int)).ins.c, .int .i64 (b.fin.lead (atN seen nt : Int) (atN seen ne : Int)).ins.imm] 42)) (some ⟨w9.heap.size, 0, none⟩) [(⟨b.ops, b.fin.lead (atN seen nt : Int) (atN seen ne : Int)⟩ : Block)] F9 := YF.one rfl ⟨_, rfl, HW.out, own9⟩
                    refine hK.out _ _ (S12) (fun hHeld13 => ?_)
                    clear hK K hHeld11
                    try simp only [List.getElem_toArray, List.getElem_cons_succ, List.getElem_cons_zero, Act.put, List.setIfInBounds_toArray, List.set_cons_zero, List.set_cons_succ]
                    refine wpAnyH_ready (rs := [13]) (by kernel_rfl) (by simp) ?_
                    refine (AllReadyH.cons (o := _) rfl (fun K hK => ?_) AllReadyH.nil)
                    refine step_append_f (k := oBlock) elBlock rfl _ _ rfl (ys := [(⟨b.ops, b.fin.lead (atN seen nt : Int) (atN seen ne : Int)⟩ : Block)]) ((HOq.out.below t9).below b12) hY (fun b hb h9 => by (have := HOq.out.lt b hb; have := hF9p b h9; omega)) rfl rfl (by show _ + 1 ≤ _; omega) ?_
                    intro v13 w13 hg13
                    obtain ⟨⟨F13, own13, hF13⟩, hgr13⟩ := hg13
                    rw [← HB.out, ← HTK.out] at own13
                    have b912 := t9.trans (b12.mono t9.size)
                    have t13 : Below W8.heap.size Wq w13 := (b912.mono hW8q).grown hgr13 (Nat.le_trans hW8q b912.size) (fun j hj => HF.out j (HOq.out.row hj))
                    have hF13p : ∀ b, F13 b → W8.heap.size ≤ b := fun b hb => by (rcases hF13 b hb with h | h | h; exact HF.out b h; (have := hF9p b h; omega); (have := b912.size; omega))
                    obtain ⟨A13, d13, rfl, l13, m13, -⟩ := own13.read
                    have h13 := hq10.belowAt t13 hG8
                    have c13 := h13.cell (j := 3) rfl
                    have z13 := h13.frozen 3
                    have S13 := SRT.keep SQ (t13.block _ hpW) (t13.block _ hadW) (b912_row b912 hgr13 rtq.lt (fun e => HNE0.out _ (HOq.out.row e) rfl))
                    refine hK.out _ _ (S13) (fun hHeld14 => ?_)
                    clear hK K hHeld13
                    try simp only [List.getElem_toArray, List.getElem_cons_succ, List.getElem_cons_zero, Act.put, List.setIfInBounds_toArray, List.set_cons_zero, List.set_cons_succ]
                    refine wpAnyH_take (i := 14) (oi := _) (v := ?v34m1_15) rfl (by kernel_rfl) (by kernel_rfl) (by kernel_rfl) (fun _ _ _ h => h) (Or.inl ⟨by rfl, ?hy34m1_15⟩) hHeld14 ?_
                    case hy34m1_15 => (intro wS hSw; (try dsimp only at hSw); obtain ⟨s0, s1, s2, s3, s4, s5, s6, s7, s8, s9, s10, s11, s12⟩ := hSw; go_simp; try with_reducible rfl)
                    try simp only [List.getElem_toArray, List.getElem_cons_succ, List.getElem_cons_zero, Act.put, List.setIfInBounds_toArray, List.set_cons_zero, List.set_cons_succ]
                    refine wpAnyH_ready (rs := [15]) (by kernel_rfl) (by simp) ?_
                    refine (AllReadyH.cons (o := _) rfl (fun K hK => ?_) AllReadyH.nil)
                    go_simp
                    have g15 := grown_set w13 G8 3 (.slice A13 (trimK seen bs (k + 1)).length d13)
                    have h15 : Row (w13.setCell ⟨G8, 3, none⟩ (.slice A13 (trimK seen bs (k + 1)).length d13)) G8 33 (graphCells (.slice A13 (trimK seen bs (k + 1)).length d13) ⟨nm, kp, lf, bs⟩) := h13.set 3 _
                    have S15 := S13.grown g15 (by omega) (by omega) (by omega)
                    refine hK.out _ _ (S15) (fun hHeld16 => ?_)
                    clear hK K hHeld14
                    try simp only [List.getElem_toArray, List.getElem_cons_succ, List.getElem_cons_zero, Act.put, List.setIfInBounds_toArray, List.set_cons_zero, List.set_cons_succ]
                    refine wpAnyH_done (by kernel_rfl) ?_ _
                    go_wp2_with fail
                    exact ⟨⟨k + 1, _, F13, by omega, by go_num, own13.grown g15 (fun b hb e => by injection e with e; have := hF13p b hb; omega), hF13p, h15, grown_trans (grown_over hgr ((bq.mono hsr).trans t13)) g15⟩, by simp [intOf]; omega⟩
                  · go_simp
                    have b2 : Below Wq.heap.size Wq (Wq.drew.alloc (.cells #[] 44)) := (Below.refl _ _).drew.trans (below_alloc' Wq.drew _)
                    have q2 := Sub.of_below b2 _ _ q33
                    have q2b : (Wq.alloc (.cells #[] 44)).cell? ⟨G8, 3, none⟩ = some v := Sub.of_below (below_alloc' Wq _) _ _ q33
                    have G2 := Kd.C_mono b2 GQ
                    have S2 := SQ.sub (Sub.of_below b2)
                    refine hK.out _ _ (S2) (fun hHeld17 => ?_)
                    clear hK K hHeld
                    try simp only [List.getElem_toArray, List.getElem_cons_succ, List.getElem_cons_zero, Act.put, List.setIfInBounds_toArray, List.set_cons_zero, List.set_cons_succ]
                    refine wpAnyH_ready (rs := [1, 9]) (by kernel_rfl) (by simp) ?_
                    refine (AllReadyH.cons (o := _) rfl (fun K hK => ?_) (AllReadyH.cons (o := _) rfl (fun K hK => ?_) AllReadyH.nil))
                    · go_simp
                      refine hK.out _ _ (hHeld17) (fun hHeld18 => ?_)
                      clear hK K hHeld17
                      try simp only [List.getElem_toArray, List.getElem_cons_succ, List.getElem_cons_zero, Act.put, List.setIfInBounds_toArray, List.set_cons_zero, List.set_cons_succ]
                      refine wpAnyH_ready (rs := [9]) (by kernel_rfl) (by simp) ?_
                      refine (AllReadyH.cons (o := _) rfl (fun K hK => ?_) AllReadyH.nil)
                      refine step_append_f (k := oOp) elOp rfl _ _ rfl (OwnF.empty oOp 44 Wq.drew) (YF.flat G2) (fun _ _ h => h) rfl rfl (by simp; omega) ?_
                      intro v9 w9 hg9
                      obtain ⟨⟨F9, own9, hF9⟩, hgr9⟩ := hg9
                      rw [List.nil_append] at own9
                      have t9 : Below Wq.heap.size Wq w9 := b2.grown hgr9 b2.size (fun j hj => by (injection hj with hj; subst hj; exact Nat.le_refl _))
                      have hF9p : ∀ b, F9 b → Wq.heap.size ≤ b := fun b hb => by (rcases hF9 b hb with h | h | h; exact Nat.le_of_eq h.symm; exact h.elim; exact Nat.le_trans b2.size h)
                      obtain ⟨A9, c9, rfl, l9, m9, hC9⟩ := own9.read
                      have q9 := Sub.of_below t9 _ _ q33
                      have S9 := SQ.sub (Sub.of_below t9)
                      have hl9 := len_le l9 m9
                      refine hK.out _ _ (S9) (fun hHeld19 => ?_)
                      clear hK K hHeld18
                      try simp only [List.getElem_toArray, List.getElem_cons_succ, List.getElem_cons_zero, Act.put, List.setIfInBounds_toArray, List.set_cons_zero, List.set_cons_succ]
                      refine wpAnyH_take (i := 11) (oi := _) (v := ?v34m1_20) rfl (by kernel_rfl) (by kernel_rfl) (by kernel_rfl) (fun _ _ _ h => h) (Or.inl ⟨by rfl, ?hy34m1_20⟩) hHeld19 ?_
                      case hy34m1_20 => (intro wS hSw; (try dsimp only at hSw); obtain ⟨s0, s1, s2, s3, s4, s5, s6, s7, s8, s9, s10, s11, s12⟩ := hSw; go_simp; try with_reducible rfl)
                      try simp only [List.getElem_toArray, List.getElem_cons_succ, List.getElem_cons_zero, Act.put, List.setIfInBounds_toArray, List.set_cons_zero, List.set_cons_succ]
                      refine wpAnyH_ready (rs := [12]) (by kernel_rfl) (by simp) ?_
                      refine (AllReadyH.cons (o := _) rfl (fun K hK => ?_) AllReadyH.nil)
                      go_simp
                      have b12 := below_alloc' w9 (.cells #[.slice A9 b.ops.length c9, .int .i64 (b.fin.lead (atN seen nt : Int) (atN seen ne : Int)).kind, .int .i64 (b.fin.lead (atN seen nt : Int) (atN seen ne : Int)).op, .int .i64 (b.fin.lead (atN seen nt : Int) (atN seen ne : Int)).a, .int .i64 (b.fin.lead (atN seen nt : Int) (atN seen ne : Int)).b, .int .i64 (b.fin.lead (atN seen nt : Int) (atN seen ne : Int)).to, .int .i64 (b.fin.lead (atN seen nt : Int) (atN seen ne : Int)).els, .int .i64 (b.fin.lead (atN seen nt : Int) (atN seen ne : Int)).ins.op, .int .i64 (b.fin.lead (atN seen nt : Int) (atN seen ne : Int)).ins.a, .int .i64 (b.fin.lead (atN seen nt : Int) (atN seen ne : Int)).ins.b, .int .i64 (b.fin.lead (atN seen nt : Int) (atN seen ne : Int)).ins.c, .int .i64 (b.fin.lead (atN seen nt : Int) (atN seen ne : Int)).ins.imm] 42)
                      have q12 := Sub.of_below b12 _ _ q9
                      have S12 := S9.sub (Sub.of_below b12)
                      have hY : YF oBlock (w9.alloc (.cells #[.slice A9 b.ops.length c9, .int .i64 (b.fin.lead (atN seen nt : Int) (atN seen ne : Int)).kind, .int .i64 (b.fin.lead (atN seen nt : Int) (atN seen ne : Int)).op, .int .i64 (b.fin.lead (atN seen nt : Int) (atN seen ne : Int)).a, .int .i64 (b.fin.lead (atN seen nt : Int) (atN seen ne : Int)).b, .int .i64 (b.fin.lead (atN seen nt : Int) (atN seen ne : Int)).to, .int .i64 (b.fin.lead (atN seen nt : Int) (atN seen ne : Int)).els, .int .i64 (b.fin.lead (atN seen nt : Int) (atN seen ne : Int)).ins.op, .int .i64 (b.fin.lead (atN seen nt : Int) (atN seen ne : Int)).ins.a, .int .i64 (b.fin.lead (atN seen nt : Int) (atN seen ne : Int)).ins.b, .int .i64 (b.fin.lead (atN seen nt : Int) (atN seen ne : Int)).ins.c, .int .i64 (b.fin.lead (atN seen nt : Int) (atN seen ne : Int)).ins.imm] 42)) (some ⟨w9.heap.size, 0, none⟩) [(⟨b.ops, b.fin.lead (atN seen nt : Int) (atN seen ne : Int)⟩ : Block)] F9 := YF.one rfl ⟨_, rfl, HW.out, own9⟩
                      refine hK.out _ _ (S12) (fun hHeld21 => ?_)
                      clear hK K hHeld19
                      try simp only [List.getElem_toArray, List.getElem_cons_succ, List.getElem_cons_zero, Act.put, List.setIfInBounds_toArray, List.set_cons_zero, List.set_cons_succ]
                      refine wpAnyH_ready (rs := [13]) (by kernel_rfl) (by simp) ?_
                      refine (AllReadyH.cons (o := _) rfl (fun K hK => ?_) AllReadyH.nil)
                      refine step_append_f (k := oBlock) elBlock rfl _ _ rfl (ys := [(⟨b.ops, b.fin.lead (atN seen nt : Int) (atN seen ne : Int)⟩ : Block)]) ((HOq.out.below t9).below b12) hY (fun b hb h9 => by (have := HOq.out.lt b hb; have := hF9p b h9; omega)) rfl rfl (by show _ + 1 ≤ _; omega) ?_
                      intro v13 w13 hg13
                      obtain ⟨⟨F13, own13, hF13⟩, hgr13⟩ := hg13
                      rw [← HB.out, ← HTK.out] at own13
                      have b912 := t9.trans (b12.mono t9.size)
                      have t13 : Below W8.heap.size Wq w13 := (b912.mono hW8q).grown hgr13 (Nat.le_trans hW8q b912.size) (fun j hj => HF.out j (HOq.out.row hj))
                      have hF13p : ∀ b, F13 b → W8.heap.size ≤ b := fun b hb => by (rcases hF13 b hb with h | h | h; exact HF.out b h; (have := hF9p b h; omega); (have := b912.size; omega))
                      obtain ⟨A13, d13, rfl, l13, m13, -⟩ := own13.read
                      have h13 := hq10.belowAt t13 hG8
                      have c13 := h13.cell (j := 3) rfl
                      have z13 := h13.frozen 3
                      have S13 := SRT.keep SQ (t13.block _ hpW) (t13.block _ hadW) (b912_row b912 hgr13 rtq.lt (fun e => HNE0.out _ (HOq.out.row e) rfl))
                      refine hK.out _ _ (S13) (fun hHeld22 => ?_)
                      clear hK K hHeld21
                      try simp only [List.getElem_toArray, List.getElem_cons_succ, List.getElem_cons_zero, Act.put, List.setIfInBounds_toArray, List.set_cons_zero, List.set_cons_succ]
                      refine wpAnyH_take (i := 14) (oi := _) (v := ?v34m1_23) rfl (by kernel_rfl) (by kernel_rfl) (by kernel_rfl) (fun _ _ _ h => h) (Or.inl ⟨by rfl, ?hy34m1_23⟩) hHeld22 ?_
                      case hy34m1_23 => (intro wS hSw; (try dsimp only at hSw); obtain ⟨s0, s1, s2, s3, s4, s5, s6, s7, s8, s9, s10, s11, s12⟩ := hSw; go_simp; try with_reducible rfl)
                      try simp only [List.getElem_toArray, List.getElem_cons_succ, List.getElem_cons_zero, Act.put, List.setIfInBounds_toArray, List.set_cons_zero, List.set_cons_succ]
                      refine wpAnyH_ready (rs := [15]) (by kernel_rfl) (by simp) ?_
                      refine (AllReadyH.cons (o := _) rfl (fun K hK => ?_) AllReadyH.nil)
                      go_simp
                      have g15 := grown_set w13 G8 3 (.slice A13 (trimK seen bs (k + 1)).length d13)
                      have h15 : Row (w13.setCell ⟨G8, 3, none⟩ (.slice A13 (trimK seen bs (k + 1)).length d13)) G8 33 (graphCells (.slice A13 (trimK seen bs (k + 1)).length d13) ⟨nm, kp, lf, bs⟩) := h13.set 3 _
                      have S15 := S13.grown g15 (by omega) (by omega) (by omega)
                      refine hK.out _ _ (S15) (fun hHeld24 => ?_)
                      clear hK K hHeld22
                      try simp only [List.getElem_toArray, List.getElem_cons_succ, List.getElem_cons_zero, Act.put, List.setIfInBounds_toArray, List.set_cons_zero, List.set_cons_succ]
                      refine wpAnyH_done (by kernel_rfl) ?_ _
                      go_wp2_with fail
                      exact ⟨⟨k + 1, _, F13, by omega, by go_num, own13.grown g15 (fun b hb e => by injection e with e; have := hF13p b hb; omega), hF13p, h15, grown_trans (grown_over hgr ((bq.mono hsr).trans t13)) g15⟩, by simp [intOf]; omega⟩
                    · refine step_append_f (k := oOp) elOp rfl _ _ rfl (OwnF.empty oOp 44 Wq.drew) (YF.flat G2) (fun _ _ h => h) rfl rfl (by simp; omega) ?_
                      intro v9 w9 hg9
                      obtain ⟨⟨F9, own9, hF9⟩, hgr9⟩ := hg9
                      rw [List.nil_append] at own9
                      have t9 : Below Wq.heap.size Wq w9 := b2.grown hgr9 b2.size (fun j hj => by (injection hj with hj; subst hj; exact Nat.le_refl _))
                      have hF9p : ∀ b, F9 b → Wq.heap.size ≤ b := fun b hb => by (rcases hF9 b hb with h | h | h; exact Nat.le_of_eq h.symm; exact h.elim; exact Nat.le_trans b2.size h)
                      obtain ⟨A9, c9, rfl, l9, m9, hC9⟩ := own9.read
                      have q9 := Sub.of_below t9 _ _ q33
                      have S9 := SQ.sub (Sub.of_below t9)
                      have hl9 := len_le l9 m9
                      refine hK.out _ _ (S9) (fun hHeld25 => ?_)
                      clear hK K hHeld17
                      try simp only [List.getElem_toArray, List.getElem_cons_succ, List.getElem_cons_zero, Act.put, List.setIfInBounds_toArray, List.set_cons_zero, List.set_cons_succ]
                      refine wpAnyH_take (i := 11) (oi := _) (v := ?v34m1_26) rfl (by kernel_rfl) (by kernel_rfl) (by kernel_rfl) (fun _ _ _ h => h) (Or.inl ⟨by rfl, ?hy34m1_26⟩) hHeld25 ?_
                      case hy34m1_26 => (intro wS hSw; (try dsimp only at hSw); obtain ⟨s0, s1, s2, s3, s4, s5, s6, s7, s8, s9, s10, s11, s12⟩ := hSw; go_simp; try with_reducible rfl)
                      try simp only [List.getElem_toArray, List.getElem_cons_succ, List.getElem_cons_zero, Act.put, List.setIfInBounds_toArray, List.set_cons_zero, List.set_cons_succ]
                      refine wpAnyH_ready (rs := [1, 12]) (by kernel_rfl) (by simp) ?_
                      refine (AllReadyH.cons (o := _) rfl (fun K hK => ?_) (AllReadyH.cons (o := _) rfl (fun K hK => ?_) AllReadyH.nil))
                      · go_simp
                        refine hK.out _ _ (hHeld25) (fun hHeld27 => ?_)
                        clear hK K hHeld25
                        try simp only [List.getElem_toArray, List.getElem_cons_succ, List.getElem_cons_zero, Act.put, List.setIfInBounds_toArray, List.set_cons_zero, List.set_cons_succ]
                        refine wpAnyH_ready (rs := [12]) (by kernel_rfl) (by simp) ?_
                        refine (AllReadyH.cons (o := _) rfl (fun K hK => ?_) AllReadyH.nil)
                        go_simp
                        have b12 := below_alloc' w9 (.cells #[.slice A9 b.ops.length c9, .int .i64 (b.fin.lead (atN seen nt : Int) (atN seen ne : Int)).kind, .int .i64 (b.fin.lead (atN seen nt : Int) (atN seen ne : Int)).op, .int .i64 (b.fin.lead (atN seen nt : Int) (atN seen ne : Int)).a, .int .i64 (b.fin.lead (atN seen nt : Int) (atN seen ne : Int)).b, .int .i64 (b.fin.lead (atN seen nt : Int) (atN seen ne : Int)).to, .int .i64 (b.fin.lead (atN seen nt : Int) (atN seen ne : Int)).els, .int .i64 (b.fin.lead (atN seen nt : Int) (atN seen ne : Int)).ins.op, .int .i64 (b.fin.lead (atN seen nt : Int) (atN seen ne : Int)).ins.a, .int .i64 (b.fin.lead (atN seen nt : Int) (atN seen ne : Int)).ins.b, .int .i64 (b.fin.lead (atN seen nt : Int) (atN seen ne : Int)).ins.c, .int .i64 (b.fin.lead (atN seen nt : Int) (atN seen ne : Int)).ins.imm] 42)
                        have q12 := Sub.of_below b12 _ _ q9
                        have S12 := S9.sub (Sub.of_below b12)
                        have hY : YF oBlock (w9.alloc (.cells #[.slice A9 b.ops.length c9, .int .i64 (b.fin.lead (atN seen nt : Int) (atN seen ne : Int)).kind, .int .i64 (b.fin.lead (atN seen nt : Int) (atN seen ne : Int)).op, .int .i64 (b.fin.lead (atN seen nt : Int) (atN seen ne : Int)).a, .int .i64 (b.fin.lead (atN seen nt : Int) (atN seen ne : Int)).b, .int .i64 (b.fin.lead (atN seen nt : Int) (atN seen ne : Int)).to, .int .i64 (b.fin.lead (atN seen nt : Int) (atN seen ne : Int)).els, .int .i64 (b.fin.lead (atN seen nt : Int) (atN seen ne : Int)).ins.op, .int .i64 (b.fin.lead (atN seen nt : Int) (atN seen ne : Int)).ins.a, .int .i64 (b.fin.lead (atN seen nt : Int) (atN seen ne : Int)).ins.b, .int .i64 (b.fin.lead (atN seen nt : Int) (atN seen ne : Int)).ins.c, .int .i64 (b.fin.lead (atN seen nt : Int) (atN seen ne : Int)).ins.imm] 42)) (some ⟨w9.heap.size, 0, none⟩) [(⟨b.ops, b.fin.lead (atN seen nt : Int) (atN seen ne : Int)⟩ : Block)] F9 := YF.one rfl ⟨_, rfl, HW.out, own9⟩
                        refine hK.out _ _ (S12) (fun hHeld28 => ?_)
                        clear hK K hHeld27
                        try simp only [List.getElem_toArray, List.getElem_cons_succ, List.getElem_cons_zero, Act.put, List.setIfInBounds_toArray, List.set_cons_zero, List.set_cons_succ]
                        refine wpAnyH_ready (rs := [13]) (by kernel_rfl) (by simp) ?_
                        refine (AllReadyH.cons (o := _) rfl (fun K hK => ?_) AllReadyH.nil)
                        refine step_append_f (k := oBlock) elBlock rfl _ _ rfl (ys := [(⟨b.ops, b.fin.lead (atN seen nt : Int) (atN seen ne : Int)⟩ : Block)]) ((HOq.out.below t9).below b12) hY (fun b hb h9 => by (have := HOq.out.lt b hb; have := hF9p b h9; omega)) rfl rfl (by show _ + 1 ≤ _; omega) ?_
                        intro v13 w13 hg13
                        obtain ⟨⟨F13, own13, hF13⟩, hgr13⟩ := hg13
                        rw [← HB.out, ← HTK.out] at own13
                        have b912 := t9.trans (b12.mono t9.size)
                        have t13 : Below W8.heap.size Wq w13 := (b912.mono hW8q).grown hgr13 (Nat.le_trans hW8q b912.size) (fun j hj => HF.out j (HOq.out.row hj))
                        have hF13p : ∀ b, F13 b → W8.heap.size ≤ b := fun b hb => by (rcases hF13 b hb with h | h | h; exact HF.out b h; (have := hF9p b h; omega); (have := b912.size; omega))
                        obtain ⟨A13, d13, rfl, l13, m13, -⟩ := own13.read
                        have h13 := hq10.belowAt t13 hG8
                        have c13 := h13.cell (j := 3) rfl
                        have z13 := h13.frozen 3
                        have S13 := SRT.keep SQ (t13.block _ hpW) (t13.block _ hadW) (b912_row b912 hgr13 rtq.lt (fun e => HNE0.out _ (HOq.out.row e) rfl))
                        refine hK.out _ _ (S13) (fun hHeld29 => ?_)
                        clear hK K hHeld28
                        try simp only [List.getElem_toArray, List.getElem_cons_succ, List.getElem_cons_zero, Act.put, List.setIfInBounds_toArray, List.set_cons_zero, List.set_cons_succ]
                        refine wpAnyH_take (i := 14) (oi := _) (v := ?v34m1_30) rfl (by kernel_rfl) (by kernel_rfl) (by kernel_rfl) (fun _ _ _ h => h) (Or.inl ⟨by rfl, ?hy34m1_30⟩) hHeld29 ?_
                        case hy34m1_30 => (intro wS hSw; (try dsimp only at hSw); obtain ⟨s0, s1, s2, s3, s4, s5, s6, s7, s8, s9, s10, s11, s12⟩ := hSw; go_simp; try with_reducible rfl)
                        try simp only [List.getElem_toArray, List.getElem_cons_succ, List.getElem_cons_zero, Act.put, List.setIfInBounds_toArray, List.set_cons_zero, List.set_cons_succ]
                        refine wpAnyH_ready (rs := [15]) (by kernel_rfl) (by simp) ?_
                        refine (AllReadyH.cons (o := _) rfl (fun K hK => ?_) AllReadyH.nil)
                        go_simp
                        have g15 := grown_set w13 G8 3 (.slice A13 (trimK seen bs (k + 1)).length d13)
                        have h15 : Row (w13.setCell ⟨G8, 3, none⟩ (.slice A13 (trimK seen bs (k + 1)).length d13)) G8 33 (graphCells (.slice A13 (trimK seen bs (k + 1)).length d13) ⟨nm, kp, lf, bs⟩) := h13.set 3 _
                        have S15 := S13.grown g15 (by omega) (by omega) (by omega)
                        refine hK.out _ _ (S15) (fun hHeld31 => ?_)
                        clear hK K hHeld29
                        try simp only [List.getElem_toArray, List.getElem_cons_succ, List.getElem_cons_zero, Act.put, List.setIfInBounds_toArray, List.set_cons_zero, List.set_cons_succ]
                        refine wpAnyH_done (by kernel_rfl) ?_ _
                        go_wp2_with fail
                        exact ⟨⟨k + 1, _, F13, by omega, by go_num, own13.grown g15 (fun b hb e => by injection e with e; have := hF13p b hb; omega), hF13p, h15, grown_trans (grown_over hgr ((bq.mono hsr).trans t13)) g15⟩, by simp [intOf]; omega⟩
                      · go_simp
                        have b12 := below_alloc' w9 (.cells #[.slice A9 b.ops.length c9, .int .i64 (b.fin.lead (atN seen nt : Int) (atN seen ne : Int)).kind, .int .i64 (b.fin.lead (atN seen nt : Int) (atN seen ne : Int)).op, .int .i64 (b.fin.lead (atN seen nt : Int) (atN seen ne : Int)).a, .int .i64 (b.fin.lead (atN seen nt : Int) (atN seen ne : Int)).b, .int .i64 (b.fin.lead (atN seen nt : Int) (atN seen ne : Int)).to, .int .i64 (b.fin.lead (atN seen nt : Int) (atN seen ne : Int)).els, .int .i64 (b.fin.lead (atN seen nt : Int) (atN seen ne : Int)).ins.op, .int .i64 (b.fin.lead (atN seen nt : Int) (atN seen ne : Int)).ins.a, .int .i64 (b.fin.lead (atN seen nt : Int) (atN seen ne : Int)).ins.b, .int .i64 (b.fin.lead (atN seen nt : Int) (atN seen ne : Int)).ins.c, .int .i64 (b.fin.lead (atN seen nt : Int) (atN seen ne : Int)).ins.imm] 42)
                        have q12 := Sub.of_below b12 _ _ q9
                        have S12 := S9.sub (Sub.of_below b12)
                        have hY : YF oBlock (w9.alloc (.cells #[.slice A9 b.ops.length c9, .int .i64 (b.fin.lead (atN seen nt : Int) (atN seen ne : Int)).kind, .int .i64 (b.fin.lead (atN seen nt : Int) (atN seen ne : Int)).op, .int .i64 (b.fin.lead (atN seen nt : Int) (atN seen ne : Int)).a, .int .i64 (b.fin.lead (atN seen nt : Int) (atN seen ne : Int)).b, .int .i64 (b.fin.lead (atN seen nt : Int) (atN seen ne : Int)).to, .int .i64 (b.fin.lead (atN seen nt : Int) (atN seen ne : Int)).els, .int .i64 (b.fin.lead (atN seen nt : Int) (atN seen ne : Int)).ins.op, .int .i64 (b.fin.lead (atN seen nt : Int) (atN seen ne : Int)).ins.a, .int .i64 (b.fin.lead (atN seen nt : Int) (atN seen ne : Int)).ins.b, .int .i64 (b.fin.lead (atN seen nt : Int) (atN seen ne : Int)).ins.c, .int .i64 (b.fin.lead (atN seen nt : Int) (atN seen ne : Int)).ins.imm] 42)) (some ⟨w9.heap.size, 0, none⟩) [(⟨b.ops, b.fin.lead (atN seen nt : Int) (atN seen ne : Int)⟩ : Block)] F9 := YF.one rfl ⟨_, rfl, HW.out, own9⟩
                        refine hK.out _ _ (S12) (fun hHeld32 => ?_)
                        clear hK K hHeld25
                        try simp only [List.getElem_toArray, List.getElem_cons_succ, List.getElem_cons_zero, Act.put, List.setIfInBounds_toArray, List.set_cons_zero, List.set_cons_succ]
                        refine wpAnyH_ready (rs := [1]) (by kernel_rfl) (by simp) ?_
                        refine (AllReadyH.cons (o := _) rfl (fun K hK => ?_) AllReadyH.nil)
                        go_simp
                        refine hK.out _ _ (hHeld32) (fun hHeld33 => ?_)
                        clear hK K hHeld32
                        try simp only [List.getElem_toArray, List.getElem_cons_succ, List.getElem_cons_zero, Act.put, List.setIfInBounds_toArray, List.set_cons_zero, List.set_cons_succ]
                        refine wpAnyH_ready (rs := [13]) (by kernel_rfl) (by simp) ?_
                        refine (AllReadyH.cons (o := _) rfl (fun K hK => ?_) AllReadyH.nil)
                        refine step_append_f (k := oBlock) elBlock rfl _ _ rfl (ys := [(⟨b.ops, b.fin.lead (atN seen nt : Int) (atN seen ne : Int)⟩ : Block)]) ((HOq.out.below t9).below b12) hY (fun b hb h9 => by (have := HOq.out.lt b hb; have := hF9p b h9; omega)) rfl rfl (by show _ + 1 ≤ _; omega) ?_
                        intro v13 w13 hg13
                        obtain ⟨⟨F13, own13, hF13⟩, hgr13⟩ := hg13
                        rw [← HB.out, ← HTK.out] at own13
                        have b912 := t9.trans (b12.mono t9.size)
                        have t13 : Below W8.heap.size Wq w13 := (b912.mono hW8q).grown hgr13 (Nat.le_trans hW8q b912.size) (fun j hj => HF.out j (HOq.out.row hj))
                        have hF13p : ∀ b, F13 b → W8.heap.size ≤ b := fun b hb => by (rcases hF13 b hb with h | h | h; exact HF.out b h; (have := hF9p b h; omega); (have := b912.size; omega))
                        obtain ⟨A13, d13, rfl, l13, m13, -⟩ := own13.read
                        have h13 := hq10.belowAt t13 hG8
                        have c13 := h13.cell (j := 3) rfl
                        have z13 := h13.frozen 3
                        have S13 := SRT.keep SQ (t13.block _ hpW) (t13.block _ hadW) (b912_row b912 hgr13 rtq.lt (fun e => HNE0.out _ (HOq.out.row e) rfl))
                        refine hK.out _ _ (S13) (fun hHeld34 => ?_)
                        clear hK K hHeld33
                        try simp only [List.getElem_toArray, List.getElem_cons_succ, List.getElem_cons_zero, Act.put, List.setIfInBounds_toArray, List.set_cons_zero, List.set_cons_succ]
                        refine wpAnyH_take (i := 14) (oi := _) (v := ?v34m1_35) rfl (by kernel_rfl) (by kernel_rfl) (by kernel_rfl) (fun _ _ _ h => h) (Or.inl ⟨by rfl, ?hy34m1_35⟩) hHeld34 ?_
                        case hy34m1_35 => (intro wS hSw; (try dsimp only at hSw); obtain ⟨s0, s1, s2, s3, s4, s5, s6, s7, s8, s9, s10, s11, s12⟩ := hSw; go_simp; try with_reducible rfl)
                        try simp only [List.getElem_toArray, List.getElem_cons_succ, List.getElem_cons_zero, Act.put, List.setIfInBounds_toArray, List.set_cons_zero, List.set_cons_succ]
                        refine wpAnyH_ready (rs := [15]) (by kernel_rfl) (by simp) ?_
                        refine (AllReadyH.cons (o := _) rfl (fun K hK => ?_) AllReadyH.nil)
                        go_simp
                        have g15 := grown_set w13 G8 3 (.slice A13 (trimK seen bs (k + 1)).length d13)
                        have h15 : Row (w13.setCell ⟨G8, 3, none⟩ (.slice A13 (trimK seen bs (k + 1)).length d13)) G8 33 (graphCells (.slice A13 (trimK seen bs (k + 1)).length d13) ⟨nm, kp, lf, bs⟩) := h13.set 3 _
                        have S15 := S13.grown g15 (by omega) (by omega) (by omega)
                        refine hK.out _ _ (S15) (fun hHeld36 => ?_)
                        clear hK K hHeld34
                        try simp only [List.getElem_toArray, List.getElem_cons_succ, List.getElem_cons_zero, Act.put, List.setIfInBounds_toArray, List.set_cons_zero, List.set_cons_succ]
                        refine wpAnyH_done (by kernel_rfl) ?_ _
                        go_wp2_with fail
                        exact ⟨⟨k + 1, _, F13, by omega, by go_num, own13.grown g15 (fun b hb e => by injection e with e; have := hF13p b hb; omega), hF13p, h15, grown_trans (grown_over hgr ((bq.mono hsr).trans t13)) g15⟩, by simp [intOf]; omega⟩
                · have z1 : (b.fin.kind == 2) = false := ibeq hk2
                  by_cases hk1 : b.fin.kind = 1
                  · have z2 : (b.fin.kind == 1) = true := by simp [hk1]
                    obtain ⟨ht0, ht1⟩ := HLEAD.out.1 (.inl hk1)
                    obtain ⟨nt, hnt⟩ := Int.eq_ofNat_of_zero_le ht0
                    have hntl : nt < bs.length := by omega
                    have hB : trimB seen b = ⟨b.ops, b.fin.lead (atN seen nt : Int) b.fin.els⟩ := by
                      unfold trimB trimT
                      rw [if_pos (.inl hk1), if_neg hk2, hnt, Int.toNat_natCast]
                    have HB := Lib.hid hB
                    have h1 := atN_small (seen := seen) (by rw [HSL.out]; exact hl) nt
                    have hw := lead_wf1 HWF.out (x := atN seen nt) (by omega)
                    have HW := Lib.hid hw
                    have k1 := ri2.cell (atL_all' HSL.out hntl)
                    rw [hnt] at y4
                    have z4 := r2.frozen 4
                    have rtq : Row (W10.setCell ⟨wr.heap.size, 4, none⟩ (.int .i64 (atN seen nt : Int))) wr.heap.size 40 (finCells (b.fin.lead (atN seen nt : Int) b.fin.els)) := r2.set 4 _
                    have g4 := grown_set W10 wr.heap.size 4 (.int .i64 (atN seen nt : Int))
                    clear ht0 ht1 hB hw hk2 hk1 hnt h1
                    go_upto_region 32 with fail
                    have bq : Below wr.heap.size wr (W10.setCell ⟨wr.heap.size, 4, none⟩ (.int .i64 (atN seen nt : Int))) := b2.grown g4 b2.size (fun j hj => by injection hj with hj; omega)
                    generalize W10.setCell ⟨wr.heap.size, 4, none⟩ (.int .i64 (atN seen nt : Int)) = Wq at *
                    clear y0 y1 y2 y3 y4 y5 y6 y7 y8 y9 y10 z4 k1 r2 g4 ri2 x3' i0'
                    obtain ⟨y0, y1, y2, y3, y4, y5, y6, y7, y8, y9, y10⟩ := termRow rtq
                    replace y0 : Wq.cell? ⟨wr.heap.size, 0, none⟩ = some (.int .i64 b.fin.kind) := y0
                    go_upto_region 34 with fail
                    clear y0 y1 y2 y3 y4 y5 y6 y7 y8 y9 y10
                    have SQ : SRT Wq w.heap.size (.slice (some ad) bs.length c) (ad.add (k * 12)) (.slice Ab b.ops.length cb) wr.heap.size (b.fin.lead (atN seen nt : Int) b.fin.els) := ⟨Sub.of_below bq _ _ x3, Sub.of_below bq _ _ i0, termRow rtq⟩
                    have GQ : kOp.C Wq Ab b.ops := Kd.C_mono bq gb
                    have hq10 := hrg.below bq
                    have q33 := hq10.cell (j := 3) rfl
                    have HOq := Lib.hid (HO.out.below bq)
                    have hW8q : W8.heap.size ≤ Wq.heap.size := Nat.le_trans hsr bq.size
                    refine wp_region_held_drew (S := (fun w' => SRT w' w.heap.size (.slice (some ad) bs.length c) (ad.add (k * 12)) (.slice Ab b.ops.length cb) wr.heap.size (b.fin.lead (atN seen nt : Int) b.fin.els))) (by kernel_rfl) (SQ) (fun hHeld => ?_)
                    refine wpAnyH_take (i := 0) (oi := _) (v := ?v34m2_1) rfl (by kernel_rfl) (by kernel_rfl) (by kernel_rfl) (fun _ _ _ h => h) (Or.inl ⟨by rfl, ?hy34m2_1⟩) hHeld ?_
                    case hy34m2_1 => (intro wS hSw; (try dsimp only at hSw); obtain ⟨s0, s1, s2, s3, s4, s5, s6, s7, s8, s9, s10, s11, s12⟩ := hSw; go_simp; try with_reducible rfl)
                    try simp only [List.getElem_toArray, List.getElem_cons_succ, List.getElem_cons_zero, Act.put, List.setIfInBounds_toArray, List.set_cons_zero, List.set_cons_succ]
                    refine wpAnyH_take (i := 3) (oi := _) (v := ?v34m2_2) rfl (by kernel_rfl) (by kernel_rfl) (by kernel_rfl) (fun _ _ _ h => h) (Or.inl ⟨by rfl, ?hy34m2_2⟩) hHeld ?_
                    case hy34m2_2 => (intro wS hSw; (try dsimp only at hSw); obtain ⟨s0, s1, s2, s3, s4, s5, s6, s7, s8, s9, s10, s11, s12⟩ := hSw; go_simp; try with_reducible rfl)
                    try simp only [List.getElem_toArray, List.getElem_cons_succ, List.getElem_cons_zero, Act.put, List.setIfInBounds_toArray, List.set_cons_zero, List.set_cons_succ]
                    refine wpAnyH_take (i := 4) (oi := _) (v := ?v34m2_3) rfl (by kernel_rfl) (by kernel_rfl) (by kernel_rfl) (fun _ _ _ h => h) (Or.inl ⟨by rfl, ?hy34m2_3⟩) hHeld ?_
                    case hy34m2_3 => (intro wS hSw; (try dsimp only at hSw); obtain ⟨s0, s1, s2, s3, s4, s5, s6, s7, s8, s9, s10, s11, s12⟩ := hSw; go_simp; try with_reducible rfl)
                    try simp only [List.getElem_toArray, List.getElem_cons_succ, List.getElem_cons_zero, Act.put, List.setIfInBounds_toArray, List.set_cons_zero, List.set_cons_succ]
                    refine wpAnyH_take (i := 5) (oi := _) (v := ?v34m2_4) rfl (by kernel_rfl) (by kernel_rfl) (by kernel_rfl) (fun _ _ _ h => h) (Or.inl ⟨by rfl, ?hy34m2_4⟩) hHeld ?_
                    case hy34m2_4 => (intro wS hSw; (try dsimp only at hSw); obtain ⟨s0, s1, s2, s3, s4, s5, s6, s7, s8, s9, s10, s11, s12⟩ := hSw; go_simp; try with_reducible rfl)
                    try simp only [List.getElem_toArray, List.getElem_cons_succ, List.getElem_cons_zero, Act.put, List.setIfInBounds_toArray, List.set_cons_zero, List.set_cons_succ]
                    refine wpAnyH_take (i := 6) (oi := _) (v := ?v34m2_5) rfl (by kernel_rfl) (by kernel_rfl) (by kernel_rfl) (fun _ _ _ h => h) (Or.inl ⟨by rfl, ?hy34m2_5⟩) hHeld ?_
                    case hy34m2_5 => (intro wS hSw; (try dsimp only at hSw); obtain ⟨s0, s1, s2, s3, s4, s5, s6, s7, s8, s9, s10, s11, s12⟩ := hSw; go_simp; try with_reducible rfl)
                    try simp only [List.getElem_toArray, List.getElem_cons_succ, List.getElem_cons_zero, Act.put, List.setIfInBounds_toArray, List.set_cons_zero, List.set_cons_succ]
                    refine wpAnyH_take (i := 7) (oi := _) (v := ?v34m2_6) rfl (by kernel_rfl) (by kernel_rfl) (by kernel_rfl) (fun _ _ _ h => h) (Or.inl ⟨by rfl, ?hy34m2_6⟩) hHeld ?_
                    case hy34m2_6 => (intro wS hSw; (try dsimp only at hSw); obtain ⟨s0, s1, s2, s3, s4, s5, s6, s7, s8, s9, s10, s11, s12⟩ := hSw; go_simp; try with_reducible rfl)
                    try simp only [List.getElem_toArray, List.getElem_cons_succ, List.getElem_cons_zero, Act.put, List.setIfInBounds_toArray, List.set_cons_zero, List.set_cons_succ]
                    refine wpAnyH_take (i := 8) (oi := _) (v := ?v34m2_7) rfl (by kernel_rfl) (by kernel_rfl) (by kernel_rfl) (fun _ _ _ h => h) (Or.inl ⟨by rfl, ?hy34m2_7⟩) hHeld ?_
                    case hy34m2_7 => (intro wS hSw; (try dsimp only at hSw); obtain ⟨s0, s1, s2, s3, s4, s5, s6, s7, s8, s9, s10, s11, s12⟩ := hSw; go_simp; try with_reducible rfl)
                    try simp only [List.getElem_toArray, List.getElem_cons_succ, List.getElem_cons_zero, Act.put, List.setIfInBounds_toArray, List.set_cons_zero, List.set_cons_succ]
                    refine wpAnyH_take (i := 10) (oi := _) (v := ?v34m2_8) rfl (by kernel_rfl) (by kernel_rfl) (by kernel_rfl) (fun _ _ _ h => h) (Or.inl ⟨by rfl, ?hy34m2_8⟩) hHeld ?_
                    case hy34m2_8 => (intro wS hSw; (try dsimp only at hSw); obtain ⟨s0, s1, s2, s3, s4, s5, s6, s7, s8, s9, s10, s11, s12⟩ := hSw; go_simp; try with_reducible rfl)
                    try simp only [List.getElem_toArray, List.getElem_cons_succ, List.getElem_cons_zero, Act.put, List.setIfInBounds_toArray, List.set_cons_zero, List.set_cons_succ]
                    refine wpAnyH_ready (rs := [1, 2]) (by kernel_rfl) (by simp) ?_
                    refine (AllReadyH.cons (o := _) rfl (fun K hK => ?_) (AllReadyH.cons (o := _) rfl (fun K hK => ?_) AllReadyH.nil))
                    · go_simp
                      refine hK.out _ _ (hHeld) (fun hHeld9 => ?_)
                      clear hK K hHeld
                      try simp only [List.getElem_toArray, List.getElem_cons_succ, List.getElem_cons_zero, Act.put, List.setIfInBounds_toArray, List.set_cons_zero, List.set_cons_succ]
                      refine wpAnyH_ready (rs := [2]) (by kernel_rfl) (by simp) ?_
                      refine (AllReadyH.cons (o := _) rfl (fun K hK => ?_) AllReadyH.nil)
                      go_simp
                      have b2 : Below Wq.heap.size Wq (Wq.drew.alloc (.cells #[] 44)) := (Below.refl _ _).drew.trans (below_alloc' Wq.drew _)
                      have q2 := Sub.of_below b2 _ _ q33
                      have q2b : (Wq.alloc (.cells #[] 44)).cell? ⟨G8, 3, none⟩ = some v := Sub.of_below (below_alloc' Wq _) _ _ q33
                      have G2 := Kd.C_mono b2 GQ
                      have S2 := SQ.sub (Sub.of_below b2)
                      refine hK.out _ _ (S2) (fun hHeld10 => ?_)
                      clear hK K hHeld9
                      try simp only [List.getElem_toArray, List.getElem_cons_succ, List.getElem_cons_zero, Act.put, List.setIfInBounds_toArray, List.set_cons_zero, List.set_cons_succ]
                      refine wpAnyH_ready (rs := [9]) (by kernel_rfl) (by simp) ?_
                      refine (AllReadyH.cons (o := _) rfl (fun K hK => ?_) AllReadyH.nil)
                      refine step_append_f (k := oOp) elOp rfl _ _ rfl (OwnF.empty oOp 44 Wq.drew) (YF.flat G2) (fun _ _ h => h) rfl rfl (by simp; omega) ?_
                      intro v9 w9 hg9
                      obtain ⟨⟨F9, own9, hF9⟩, hgr9⟩ := hg9
                      rw [List.nil_append] at own9
                      have t9 : Below Wq.heap.size Wq w9 := b2.grown hgr9 b2.size (fun j hj => by (injection hj with hj; subst hj; exact Nat.le_refl _))
                      have hF9p : ∀ b, F9 b → Wq.heap.size ≤ b := fun b hb => by (rcases hF9 b hb with h | h | h; exact Nat.le_of_eq h.symm; exact h.elim; exact Nat.le_trans b2.size h)
                      obtain ⟨A9, c9, rfl, l9, m9, hC9⟩ := own9.read
                      have q9 := Sub.of_below t9 _ _ q33
                      have S9 := SQ.sub (Sub.of_below t9)
                      have hl9 := len_le l9 m9
                      refine hK.out _ _ (S9) (fun hHeld11 => ?_)
                      clear hK K hHeld10
                      try simp only [List.getElem_toArray, List.getElem_cons_succ, List.getElem_cons_zero, Act.put, List.setIfInBounds_toArray, List.set_cons_zero, List.set_cons_succ]
                      refine wpAnyH_take (i := 11) (oi := _) (v := ?v34m2_12) rfl (by kernel_rfl) (by kernel_rfl) (by kernel_rfl) (fun _ _ _ h => h) (Or.inl ⟨by rfl, ?hy34m2_12⟩) hHeld11 ?_
                      case hy34m2_12 => (intro wS hSw; (try dsimp only at hSw); obtain ⟨s0, s1, s2, s3, s4, s5, s6, s7, s8, s9, s10, s11, s12⟩ := hSw; go_simp; try with_reducible rfl)
                      try simp only [List.getElem_toArray, List.getElem_cons_succ, List.getElem_cons_zero, Act.put, List.setIfInBounds_toArray, List.set_cons_zero, List.set_cons_succ]
                      refine wpAnyH_ready (rs := [12]) (by kernel_rfl) (by simp) ?_
                      refine (AllReadyH.cons (o := _) rfl (fun K hK => ?_) AllReadyH.nil)
                      go_simp
                      have b12 := below_alloc' w9 (.cells #[.slice A9 b.ops.length c9, .int .i64 (b.fin.lead (atN seen nt : Int) b.fin.els).kind, .int .i64 (b.fin.lead (atN seen nt : Int) b.fin.els).op, .int .i64 (b.fin.lead (atN seen nt : Int) b.fin.els).a, .int .i64 (b.fin.lead (atN seen nt : Int) b.fin.els).b, .int .i64 (b.fin.lead (atN seen nt : Int) b.fin.els).to, .int .i64 (b.fin.lead (atN seen nt : Int) b.fin.els).els, .int .i64 (b.fin.lead (atN seen nt : Int) b.fin.els).ins.op, .int .i64 (b.fin.lead (atN seen nt : Int) b.fin.els).ins.a, .int .i64 (b.fin.lead (atN seen nt : Int) b.fin.els).ins.b, .int .i64 (b.fin.lead (atN seen nt : Int) b.fin.els).ins.c, .int .i64 (b.fin.lead (atN seen nt : Int) b.fin.els).ins.imm] 42)
                      have q12 := Sub.of_below b12 _ _ q9
                      have S12 := S9.sub (Sub.of_below b12)
                      have hY : YF oBlock (w9.alloc (.cells #[.slice A9 b.ops.length c9, .int .i64 (b.fin.lead (atN seen nt : Int) b.fin.els).kind, .int .i64 (b.fin.lead (atN seen nt : Int) b.fin.els).op, .int .i64 (b.fin.lead (atN seen nt : Int) b.fin.els).a, .int .i64 (b.fin.lead (atN seen nt : Int) b.fin.els).b, .int .i64 (b.fin.lead (atN seen nt : Int) b.fin.els).to, .int .i64 (b.fin.lead (atN seen nt : Int) b.fin.els).els, .int .i64 (b.fin.lead (atN seen nt : Int) b.fin.els).ins.op, .int .i64 (b.fin.lead (atN seen nt : Int) b.fin.els).ins.a, .int .i64 (b.fin.lead (atN seen nt : Int) b.fin.els).ins.b, .int .i64 (b.fin.lead (atN seen nt : Int) b.fin.els).ins.c, .int .i64 (b.fin.lead (atN seen nt : Int) b.fin.els).ins.imm] 42)) (some ⟨w9.heap.size, 0, none⟩) [(⟨b.ops, b.fin.lead (atN seen nt : Int) b.fin.els⟩ : Block)] F9 := YF.one rfl ⟨_, rfl, HW.out, own9⟩
                      refine hK.out _ _ (S12) (fun hHeld13 => ?_)
                      clear hK K hHeld11
                      try simp only [List.getElem_toArray, List.getElem_cons_succ, List.getElem_cons_zero, Act.put, List.setIfInBounds_toArray, List.set_cons_zero, List.set_cons_succ]
                      refine wpAnyH_ready (rs := [13]) (by kernel_rfl) (by simp) ?_
                      refine (AllReadyH.cons (o := _) rfl (fun K hK => ?_) AllReadyH.nil)
                      refine step_append_f (k := oBlock) elBlock rfl _ _ rfl (ys := [(⟨b.ops, b.fin.lead (atN seen nt : Int) b.fin.els⟩ : Block)]) ((HOq.out.below t9).below b12) hY (fun b hb h9 => by (have := HOq.out.lt b hb; have := hF9p b h9; omega)) rfl rfl (by show _ + 1 ≤ _; omega) ?_
                      intro v13 w13 hg13
                      obtain ⟨⟨F13, own13, hF13⟩, hgr13⟩ := hg13
                      rw [← HB.out, ← HTK.out] at own13
                      have b912 := t9.trans (b12.mono t9.size)
                      have t13 : Below W8.heap.size Wq w13 := (b912.mono hW8q).grown hgr13 (Nat.le_trans hW8q b912.size) (fun j hj => HF.out j (HOq.out.row hj))
                      have hF13p : ∀ b, F13 b → W8.heap.size ≤ b := fun b hb => by (rcases hF13 b hb with h | h | h; exact HF.out b h; (have := hF9p b h; omega); (have := b912.size; omega))
                      obtain ⟨A13, d13, rfl, l13, m13, -⟩ := own13.read
                      have h13 := hq10.belowAt t13 hG8
                      have c13 := h13.cell (j := 3) rfl
                      have z13 := h13.frozen 3
                      have S13 := SRT.keep SQ (t13.block _ hpW) (t13.block _ hadW) (b912_row b912 hgr13 rtq.lt (fun e => HNE0.out _ (HOq.out.row e) rfl))
                      refine hK.out _ _ (S13) (fun hHeld14 => ?_)
                      clear hK K hHeld13
                      try simp only [List.getElem_toArray, List.getElem_cons_succ, List.getElem_cons_zero, Act.put, List.setIfInBounds_toArray, List.set_cons_zero, List.set_cons_succ]
                      refine wpAnyH_take (i := 14) (oi := _) (v := ?v34m2_15) rfl (by kernel_rfl) (by kernel_rfl) (by kernel_rfl) (fun _ _ _ h => h) (Or.inl ⟨by rfl, ?hy34m2_15⟩) hHeld14 ?_
                      case hy34m2_15 => (intro wS hSw; (try dsimp only at hSw); obtain ⟨s0, s1, s2, s3, s4, s5, s6, s7, s8, s9, s10, s11, s12⟩ := hSw; go_simp; try with_reducible rfl)
                      try simp only [List.getElem_toArray, List.getElem_cons_succ, List.getElem_cons_zero, Act.put, List.setIfInBounds_toArray, List.set_cons_zero, List.set_cons_succ]
                      refine wpAnyH_ready (rs := [15]) (by kernel_rfl) (by simp) ?_
                      refine (AllReadyH.cons (o := _) rfl (fun K hK => ?_) AllReadyH.nil)
                      go_simp
                      have g15 := grown_set w13 G8 3 (.slice A13 (trimK seen bs (k + 1)).length d13)
                      have h15 : Row (w13.setCell ⟨G8, 3, none⟩ (.slice A13 (trimK seen bs (k + 1)).length d13)) G8 33 (graphCells (.slice A13 (trimK seen bs (k + 1)).length d13) ⟨nm, kp, lf, bs⟩) := h13.set 3 _
                      have S15 := S13.grown g15 (by omega) (by omega) (by omega)
                      refine hK.out _ _ (S15) (fun hHeld16 => ?_)
                      clear hK K hHeld14
                      try simp only [List.getElem_toArray, List.getElem_cons_succ, List.getElem_cons_zero, Act.put, List.setIfInBounds_toArray, List.set_cons_zero, List.set_cons_succ]
                      refine wpAnyH_done (by kernel_rfl) ?_ _
                      go_wp2_with fail
                      exact ⟨⟨k + 1, _, F13, by omega, by go_num, own13.grown g15 (fun b hb e => by injection e with e; have := hF13p b hb; omega), hF13p, h15, grown_trans (grown_over hgr ((bq.mono hsr).trans t13)) g15⟩, by simp [intOf]; omega⟩
                    · go_simp
                      have b2 : Below Wq.heap.size Wq (Wq.drew.alloc (.cells #[] 44)) := (Below.refl _ _).drew.trans (below_alloc' Wq.drew _)
                      have q2 := Sub.of_below b2 _ _ q33
                      have q2b : (Wq.alloc (.cells #[] 44)).cell? ⟨G8, 3, none⟩ = some v := Sub.of_below (below_alloc' Wq _) _ _ q33
                      have G2 := Kd.C_mono b2 GQ
                      have S2 := SQ.sub (Sub.of_below b2)
                      refine hK.out _ _ (S2) (fun hHeld17 => ?_)
                      clear hK K hHeld
                      try simp only [List.getElem_toArray, List.getElem_cons_succ, List.getElem_cons_zero, Act.put, List.setIfInBounds_toArray, List.set_cons_zero, List.set_cons_succ]
                      refine wpAnyH_ready (rs := [1, 9]) (by kernel_rfl) (by simp) ?_
                      refine (AllReadyH.cons (o := _) rfl (fun K hK => ?_) (AllReadyH.cons (o := _) rfl (fun K hK => ?_) AllReadyH.nil))
                      · go_simp
                        refine hK.out _ _ (hHeld17) (fun hHeld18 => ?_)
                        clear hK K hHeld17
                        try simp only [List.getElem_toArray, List.getElem_cons_succ, List.getElem_cons_zero, Act.put, List.setIfInBounds_toArray, List.set_cons_zero, List.set_cons_succ]
                        refine wpAnyH_ready (rs := [9]) (by kernel_rfl) (by simp) ?_
                        refine (AllReadyH.cons (o := _) rfl (fun K hK => ?_) AllReadyH.nil)
                        refine step_append_f (k := oOp) elOp rfl _ _ rfl (OwnF.empty oOp 44 Wq.drew) (YF.flat G2) (fun _ _ h => h) rfl rfl (by simp; omega) ?_
                        intro v9 w9 hg9
                        obtain ⟨⟨F9, own9, hF9⟩, hgr9⟩ := hg9
                        rw [List.nil_append] at own9
                        have t9 : Below Wq.heap.size Wq w9 := b2.grown hgr9 b2.size (fun j hj => by (injection hj with hj; subst hj; exact Nat.le_refl _))
                        have hF9p : ∀ b, F9 b → Wq.heap.size ≤ b := fun b hb => by (rcases hF9 b hb with h | h | h; exact Nat.le_of_eq h.symm; exact h.elim; exact Nat.le_trans b2.size h)
                        obtain ⟨A9, c9, rfl, l9, m9, hC9⟩ := own9.read
                        have q9 := Sub.of_below t9 _ _ q33
                        have S9 := SQ.sub (Sub.of_below t9)
                        have hl9 := len_le l9 m9
                        refine hK.out _ _ (S9) (fun hHeld19 => ?_)
                        clear hK K hHeld18
                        try simp only [List.getElem_toArray, List.getElem_cons_succ, List.getElem_cons_zero, Act.put, List.setIfInBounds_toArray, List.set_cons_zero, List.set_cons_succ]
                        refine wpAnyH_take (i := 11) (oi := _) (v := ?v34m2_20) rfl (by kernel_rfl) (by kernel_rfl) (by kernel_rfl) (fun _ _ _ h => h) (Or.inl ⟨by rfl, ?hy34m2_20⟩) hHeld19 ?_
                        case hy34m2_20 => (intro wS hSw; (try dsimp only at hSw); obtain ⟨s0, s1, s2, s3, s4, s5, s6, s7, s8, s9, s10, s11, s12⟩ := hSw; go_simp; try with_reducible rfl)
                        try simp only [List.getElem_toArray, List.getElem_cons_succ, List.getElem_cons_zero, Act.put, List.setIfInBounds_toArray, List.set_cons_zero, List.set_cons_succ]
                        refine wpAnyH_ready (rs := [12]) (by kernel_rfl) (by simp) ?_
                        refine (AllReadyH.cons (o := _) rfl (fun K hK => ?_) AllReadyH.nil)
                        go_simp
                        have b12 := below_alloc' w9 (.cells #[.slice A9 b.ops.length c9, .int .i64 (b.fin.lead (atN seen nt : Int) b.fin.els).kind, .int .i64 (b.fin.lead (atN seen nt : Int) b.fin.els).op, .int .i64 (b.fin.lead (atN seen nt : Int) b.fin.els).a, .int .i64 (b.fin.lead (atN seen nt : Int) b.fin.els).b, .int .i64 (b.fin.lead (atN seen nt : Int) b.fin.els).to, .int .i64 (b.fin.lead (atN seen nt : Int) b.fin.els).els, .int .i64 (b.fin.lead (atN seen nt : Int) b.fin.els).ins.op, .int .i64 (b.fin.lead (atN seen nt : Int) b.fin.els).ins.a, .int .i64 (b.fin.lead (atN seen nt : Int) b.fin.els).ins.b, .int .i64 (b.fin.lead (atN seen nt : Int) b.fin.els).ins.c, .int .i64 (b.fin.lead (atN seen nt : Int) b.fin.els).ins.imm] 42)
                        have q12 := Sub.of_below b12 _ _ q9
                        have S12 := S9.sub (Sub.of_below b12)
                        have hY : YF oBlock (w9.alloc (.cells #[.slice A9 b.ops.length c9, .int .i64 (b.fin.lead (atN seen nt : Int) b.fin.els).kind, .int .i64 (b.fin.lead (atN seen nt : Int) b.fin.els).op, .int .i64 (b.fin.lead (atN seen nt : Int) b.fin.els).a, .int .i64 (b.fin.lead (atN seen nt : Int) b.fin.els).b, .int .i64 (b.fin.lead (atN seen nt : Int) b.fin.els).to, .int .i64 (b.fin.lead (atN seen nt : Int) b.fin.els).els, .int .i64 (b.fin.lead (atN seen nt : Int) b.fin.els).ins.op, .int .i64 (b.fin.lead (atN seen nt : Int) b.fin.els).ins.a, .int .i64 (b.fin.lead (atN seen nt : Int) b.fin.els).ins.b, .int .i64 (b.fin.lead (atN seen nt : Int) b.fin.els).ins.c, .int .i64 (b.fin.lead (atN seen nt : Int) b.fin.els).ins.imm] 42)) (some ⟨w9.heap.size, 0, none⟩) [(⟨b.ops, b.fin.lead (atN seen nt : Int) b.fin.els⟩ : Block)] F9 := YF.one rfl ⟨_, rfl, HW.out, own9⟩
                        refine hK.out _ _ (S12) (fun hHeld21 => ?_)
                        clear hK K hHeld19
                        try simp only [List.getElem_toArray, List.getElem_cons_succ, List.getElem_cons_zero, Act.put, List.setIfInBounds_toArray, List.set_cons_zero, List.set_cons_succ]
                        refine wpAnyH_ready (rs := [13]) (by kernel_rfl) (by simp) ?_
                        refine (AllReadyH.cons (o := _) rfl (fun K hK => ?_) AllReadyH.nil)
                        refine step_append_f (k := oBlock) elBlock rfl _ _ rfl (ys := [(⟨b.ops, b.fin.lead (atN seen nt : Int) b.fin.els⟩ : Block)]) ((HOq.out.below t9).below b12) hY (fun b hb h9 => by (have := HOq.out.lt b hb; have := hF9p b h9; omega)) rfl rfl (by show _ + 1 ≤ _; omega) ?_
                        intro v13 w13 hg13
                        obtain ⟨⟨F13, own13, hF13⟩, hgr13⟩ := hg13
                        rw [← HB.out, ← HTK.out] at own13
                        have b912 := t9.trans (b12.mono t9.size)
                        have t13 : Below W8.heap.size Wq w13 := (b912.mono hW8q).grown hgr13 (Nat.le_trans hW8q b912.size) (fun j hj => HF.out j (HOq.out.row hj))
                        have hF13p : ∀ b, F13 b → W8.heap.size ≤ b := fun b hb => by (rcases hF13 b hb with h | h | h; exact HF.out b h; (have := hF9p b h; omega); (have := b912.size; omega))
                        obtain ⟨A13, d13, rfl, l13, m13, -⟩ := own13.read
                        have h13 := hq10.belowAt t13 hG8
                        have c13 := h13.cell (j := 3) rfl
                        have z13 := h13.frozen 3
                        have S13 := SRT.keep SQ (t13.block _ hpW) (t13.block _ hadW) (b912_row b912 hgr13 rtq.lt (fun e => HNE0.out _ (HOq.out.row e) rfl))
                        refine hK.out _ _ (S13) (fun hHeld22 => ?_)
                        clear hK K hHeld21
                        try simp only [List.getElem_toArray, List.getElem_cons_succ, List.getElem_cons_zero, Act.put, List.setIfInBounds_toArray, List.set_cons_zero, List.set_cons_succ]
                        refine wpAnyH_take (i := 14) (oi := _) (v := ?v34m2_23) rfl (by kernel_rfl) (by kernel_rfl) (by kernel_rfl) (fun _ _ _ h => h) (Or.inl ⟨by rfl, ?hy34m2_23⟩) hHeld22 ?_
                        case hy34m2_23 => (intro wS hSw; (try dsimp only at hSw); obtain ⟨s0, s1, s2, s3, s4, s5, s6, s7, s8, s9, s10, s11, s12⟩ := hSw; go_simp; try with_reducible rfl)
                        try simp only [List.getElem_toArray, List.getElem_cons_succ, List.getElem_cons_zero, Act.put, List.setIfInBounds_toArray, List.set_cons_zero, List.set_cons_succ]
                        refine wpAnyH_ready (rs := [15]) (by kernel_rfl) (by simp) ?_
                        refine (AllReadyH.cons (o := _) rfl (fun K hK => ?_) AllReadyH.nil)
                        go_simp
                        have g15 := grown_set w13 G8 3 (.slice A13 (trimK seen bs (k + 1)).length d13)
                        have h15 : Row (w13.setCell ⟨G8, 3, none⟩ (.slice A13 (trimK seen bs (k + 1)).length d13)) G8 33 (graphCells (.slice A13 (trimK seen bs (k + 1)).length d13) ⟨nm, kp, lf, bs⟩) := h13.set 3 _
                        have S15 := S13.grown g15 (by omega) (by omega) (by omega)
                        refine hK.out _ _ (S15) (fun hHeld24 => ?_)
                        clear hK K hHeld22
                        try simp only [List.getElem_toArray, List.getElem_cons_succ, List.getElem_cons_zero, Act.put, List.setIfInBounds_toArray, List.set_cons_zero, List.set_cons_succ]
                        refine wpAnyH_done (by kernel_rfl) ?_ _
                        go_wp2_with fail
                        exact ⟨⟨k + 1, _, F13, by omega, by go_num, own13.grown g15 (fun b hb e => by injection e with e; have := hF13p b hb; omega), hF13p, h15, grown_trans (grown_over hgr ((bq.mono hsr).trans t13)) g15⟩, by simp [intOf]; omega⟩
                      · refine step_append_f (k := oOp) elOp rfl _ _ rfl (OwnF.empty oOp 44 Wq.drew) (YF.flat G2) (fun _ _ h => h) rfl rfl (by simp; omega) ?_
                        intro v9 w9 hg9
                        obtain ⟨⟨F9, own9, hF9⟩, hgr9⟩ := hg9
                        rw [List.nil_append] at own9
                        have t9 : Below Wq.heap.size Wq w9 := b2.grown hgr9 b2.size (fun j hj => by (injection hj with hj; subst hj; exact Nat.le_refl _))
                        have hF9p : ∀ b, F9 b → Wq.heap.size ≤ b := fun b hb => by (rcases hF9 b hb with h | h | h; exact Nat.le_of_eq h.symm; exact h.elim; exact Nat.le_trans b2.size h)
                        obtain ⟨A9, c9, rfl, l9, m9, hC9⟩ := own9.read
                        have q9 := Sub.of_below t9 _ _ q33
                        have S9 := SQ.sub (Sub.of_below t9)
                        have hl9 := len_le l9 m9
                        refine hK.out _ _ (S9) (fun hHeld25 => ?_)
                        clear hK K hHeld17
                        try simp only [List.getElem_toArray, List.getElem_cons_succ, List.getElem_cons_zero, Act.put, List.setIfInBounds_toArray, List.set_cons_zero, List.set_cons_succ]
                        refine wpAnyH_take (i := 11) (oi := _) (v := ?v34m2_26) rfl (by kernel_rfl) (by kernel_rfl) (by kernel_rfl) (fun _ _ _ h => h) (Or.inl ⟨by rfl, ?hy34m2_26⟩) hHeld25 ?_
                        case hy34m2_26 => (intro wS hSw; (try dsimp only at hSw); obtain ⟨s0, s1, s2, s3, s4, s5, s6, s7, s8, s9, s10, s11, s12⟩ := hSw; go_simp; try with_reducible rfl)
                        try simp only [List.getElem_toArray, List.getElem_cons_succ, List.getElem_cons_zero, Act.put, List.setIfInBounds_toArray, List.set_cons_zero, List.set_cons_succ]
                        refine wpAnyH_ready (rs := [1, 12]) (by kernel_rfl) (by simp) ?_
                        refine (AllReadyH.cons (o := _) rfl (fun K hK => ?_) (AllReadyH.cons (o := _) rfl (fun K hK => ?_) AllReadyH.nil))
                        · go_simp
                          refine hK.out _ _ (hHeld25) (fun hHeld27 => ?_)
                          clear hK K hHeld25
                          try simp only [List.getElem_toArray, List.getElem_cons_succ, List.getElem_cons_zero, Act.put, List.setIfInBounds_toArray, List.set_cons_zero, List.set_cons_succ]
                          refine wpAnyH_ready (rs := [12]) (by kernel_rfl) (by simp) ?_
                          refine (AllReadyH.cons (o := _) rfl (fun K hK => ?_) AllReadyH.nil)
                          go_simp
                          have b12 := below_alloc' w9 (.cells #[.slice A9 b.ops.length c9, .int .i64 (b.fin.lead (atN seen nt : Int) b.fin.els).kind, .int .i64 (b.fin.lead (atN seen nt : Int) b.fin.els).op, .int .i64 (b.fin.lead (atN seen nt : Int) b.fin.els).a, .int .i64 (b.fin.lead (atN seen nt : Int) b.fin.els).b, .int .i64 (b.fin.lead (atN seen nt : Int) b.fin.els).to, .int .i64 (b.fin.lead (atN seen nt : Int) b.fin.els).els, .int .i64 (b.fin.lead (atN seen nt : Int) b.fin.els).ins.op, .int .i64 (b.fin.lead (atN seen nt : Int) b.fin.els).ins.a, .int .i64 (b.fin.lead (atN seen nt : Int) b.fin.els).ins.b, .int .i64 (b.fin.lead (atN seen nt : Int) b.fin.els).ins.c, .int .i64 (b.fin.lead (atN seen nt : Int) b.fin.els).ins.imm] 42)
                          have q12 := Sub.of_below b12 _ _ q9
                          have S12 := S9.sub (Sub.of_below b12)
                          have hY : YF oBlock (w9.alloc (.cells #[.slice A9 b.ops.length c9, .int .i64 (b.fin.lead (atN seen nt : Int) b.fin.els).kind, .int .i64 (b.fin.lead (atN seen nt : Int) b.fin.els).op, .int .i64 (b.fin.lead (atN seen nt : Int) b.fin.els).a, .int .i64 (b.fin.lead (atN seen nt : Int) b.fin.els).b, .int .i64 (b.fin.lead (atN seen nt : Int) b.fin.els).to, .int .i64 (b.fin.lead (atN seen nt : Int) b.fin.els).els, .int .i64 (b.fin.lead (atN seen nt : Int) b.fin.els).ins.op, .int .i64 (b.fin.lead (atN seen nt : Int) b.fin.els).ins.a, .int .i64 (b.fin.lead (atN seen nt : Int) b.fin.els).ins.b, .int .i64 (b.fin.lead (atN seen nt : Int) b.fin.els).ins.c, .int .i64 (b.fin.lead (atN seen nt : Int) b.fin.els).ins.imm] 42)) (some ⟨w9.heap.size, 0, none⟩) [(⟨b.ops, b.fin.lead (atN seen nt : Int) b.fin.els⟩ : Block)] F9 := YF.one rfl ⟨_, rfl, HW.out, own9⟩
                          refine hK.out _ _ (S12) (fun hHeld28 => ?_)
                          clear hK K hHeld27
                          try simp only [List.getElem_toArray, List.getElem_cons_succ, List.getElem_cons_zero, Act.put, List.setIfInBounds_toArray, List.set_cons_zero, List.set_cons_succ]
                          refine wpAnyH_ready (rs := [13]) (by kernel_rfl) (by simp) ?_
                          refine (AllReadyH.cons (o := _) rfl (fun K hK => ?_) AllReadyH.nil)
                          refine step_append_f (k := oBlock) elBlock rfl _ _ rfl (ys := [(⟨b.ops, b.fin.lead (atN seen nt : Int) b.fin.els⟩ : Block)]) ((HOq.out.below t9).below b12) hY (fun b hb h9 => by (have := HOq.out.lt b hb; have := hF9p b h9; omega)) rfl rfl (by show _ + 1 ≤ _; omega) ?_
                          intro v13 w13 hg13
                          obtain ⟨⟨F13, own13, hF13⟩, hgr13⟩ := hg13
                          rw [← HB.out, ← HTK.out] at own13
                          have b912 := t9.trans (b12.mono t9.size)
                          have t13 : Below W8.heap.size Wq w13 := (b912.mono hW8q).grown hgr13 (Nat.le_trans hW8q b912.size) (fun j hj => HF.out j (HOq.out.row hj))
                          have hF13p : ∀ b, F13 b → W8.heap.size ≤ b := fun b hb => by (rcases hF13 b hb with h | h | h; exact HF.out b h; (have := hF9p b h; omega); (have := b912.size; omega))
                          obtain ⟨A13, d13, rfl, l13, m13, -⟩ := own13.read
                          have h13 := hq10.belowAt t13 hG8
                          have c13 := h13.cell (j := 3) rfl
                          have z13 := h13.frozen 3
                          have S13 := SRT.keep SQ (t13.block _ hpW) (t13.block _ hadW) (b912_row b912 hgr13 rtq.lt (fun e => HNE0.out _ (HOq.out.row e) rfl))
                          refine hK.out _ _ (S13) (fun hHeld29 => ?_)
                          clear hK K hHeld28
                          try simp only [List.getElem_toArray, List.getElem_cons_succ, List.getElem_cons_zero, Act.put, List.setIfInBounds_toArray, List.set_cons_zero, List.set_cons_succ]
                          refine wpAnyH_take (i := 14) (oi := _) (v := ?v34m2_30) rfl (by kernel_rfl) (by kernel_rfl) (by kernel_rfl) (fun _ _ _ h => h) (Or.inl ⟨by rfl, ?hy34m2_30⟩) hHeld29 ?_
                          case hy34m2_30 => (intro wS hSw; (try dsimp only at hSw); obtain ⟨s0, s1, s2, s3, s4, s5, s6, s7, s8, s9, s10, s11, s12⟩ := hSw; go_simp; try with_reducible rfl)
                          try simp only [List.getElem_toArray, List.getElem_cons_succ, List.getElem_cons_zero, Act.put, List.setIfInBounds_toArray, List.set_cons_zero, List.set_cons_succ]
                          refine wpAnyH_ready (rs := [15]) (by kernel_rfl) (by simp) ?_
                          refine (AllReadyH.cons (o := _) rfl (fun K hK => ?_) AllReadyH.nil)
                          go_simp
                          have g15 := grown_set w13 G8 3 (.slice A13 (trimK seen bs (k + 1)).length d13)
                          have h15 : Row (w13.setCell ⟨G8, 3, none⟩ (.slice A13 (trimK seen bs (k + 1)).length d13)) G8 33 (graphCells (.slice A13 (trimK seen bs (k + 1)).length d13) ⟨nm, kp, lf, bs⟩) := h13.set 3 _
                          have S15 := S13.grown g15 (by omega) (by omega) (by omega)
                          refine hK.out _ _ (S15) (fun hHeld31 => ?_)
                          clear hK K hHeld29
                          try simp only [List.getElem_toArray, List.getElem_cons_succ, List.getElem_cons_zero, Act.put, List.setIfInBounds_toArray, List.set_cons_zero, List.set_cons_succ]
                          refine wpAnyH_done (by kernel_rfl) ?_ _
                          go_wp2_with fail
                          exact ⟨⟨k + 1, _, F13, by omega, by go_num, own13.grown g15 (fun b hb e => by injection e with e; have := hF13p b hb; omega), hF13p, h15, grown_trans (grown_over hgr ((bq.mono hsr).trans t13)) g15⟩, by simp [intOf]; omega⟩
                        · go_simp
                          have b12 := below_alloc' w9 (.cells #[.slice A9 b.ops.length c9, .int .i64 (b.fin.lead (atN seen nt : Int) b.fin.els).kind, .int .i64 (b.fin.lead (atN seen nt : Int) b.fin.els).op, .int .i64 (b.fin.lead (atN seen nt : Int) b.fin.els).a, .int .i64 (b.fin.lead (atN seen nt : Int) b.fin.els).b, .int .i64 (b.fin.lead (atN seen nt : Int) b.fin.els).to, .int .i64 (b.fin.lead (atN seen nt : Int) b.fin.els).els, .int .i64 (b.fin.lead (atN seen nt : Int) b.fin.els).ins.op, .int .i64 (b.fin.lead (atN seen nt : Int) b.fin.els).ins.a, .int .i64 (b.fin.lead (atN seen nt : Int) b.fin.els).ins.b, .int .i64 (b.fin.lead (atN seen nt : Int) b.fin.els).ins.c, .int .i64 (b.fin.lead (atN seen nt : Int) b.fin.els).ins.imm] 42)
                          have q12 := Sub.of_below b12 _ _ q9
                          have S12 := S9.sub (Sub.of_below b12)
                          have hY : YF oBlock (w9.alloc (.cells #[.slice A9 b.ops.length c9, .int .i64 (b.fin.lead (atN seen nt : Int) b.fin.els).kind, .int .i64 (b.fin.lead (atN seen nt : Int) b.fin.els).op, .int .i64 (b.fin.lead (atN seen nt : Int) b.fin.els).a, .int .i64 (b.fin.lead (atN seen nt : Int) b.fin.els).b, .int .i64 (b.fin.lead (atN seen nt : Int) b.fin.els).to, .int .i64 (b.fin.lead (atN seen nt : Int) b.fin.els).els, .int .i64 (b.fin.lead (atN seen nt : Int) b.fin.els).ins.op, .int .i64 (b.fin.lead (atN seen nt : Int) b.fin.els).ins.a, .int .i64 (b.fin.lead (atN seen nt : Int) b.fin.els).ins.b, .int .i64 (b.fin.lead (atN seen nt : Int) b.fin.els).ins.c, .int .i64 (b.fin.lead (atN seen nt : Int) b.fin.els).ins.imm] 42)) (some ⟨w9.heap.size, 0, none⟩) [(⟨b.ops, b.fin.lead (atN seen nt : Int) b.fin.els⟩ : Block)] F9 := YF.one rfl ⟨_, rfl, HW.out, own9⟩
                          refine hK.out _ _ (S12) (fun hHeld32 => ?_)
                          clear hK K hHeld25
                          try simp only [List.getElem_toArray, List.getElem_cons_succ, List.getElem_cons_zero, Act.put, List.setIfInBounds_toArray, List.set_cons_zero, List.set_cons_succ]
                          refine wpAnyH_ready (rs := [1]) (by kernel_rfl) (by simp) ?_
                          refine (AllReadyH.cons (o := _) rfl (fun K hK => ?_) AllReadyH.nil)
                          go_simp
                          refine hK.out _ _ (hHeld32) (fun hHeld33 => ?_)
                          clear hK K hHeld32
                          try simp only [List.getElem_toArray, List.getElem_cons_succ, List.getElem_cons_zero, Act.put, List.setIfInBounds_toArray, List.set_cons_zero, List.set_cons_succ]
                          refine wpAnyH_ready (rs := [13]) (by kernel_rfl) (by simp) ?_
                          refine (AllReadyH.cons (o := _) rfl (fun K hK => ?_) AllReadyH.nil)
                          refine step_append_f (k := oBlock) elBlock rfl _ _ rfl (ys := [(⟨b.ops, b.fin.lead (atN seen nt : Int) b.fin.els⟩ : Block)]) ((HOq.out.below t9).below b12) hY (fun b hb h9 => by (have := HOq.out.lt b hb; have := hF9p b h9; omega)) rfl rfl (by show _ + 1 ≤ _; omega) ?_
                          intro v13 w13 hg13
                          obtain ⟨⟨F13, own13, hF13⟩, hgr13⟩ := hg13
                          rw [← HB.out, ← HTK.out] at own13
                          have b912 := t9.trans (b12.mono t9.size)
                          have t13 : Below W8.heap.size Wq w13 := (b912.mono hW8q).grown hgr13 (Nat.le_trans hW8q b912.size) (fun j hj => HF.out j (HOq.out.row hj))
                          have hF13p : ∀ b, F13 b → W8.heap.size ≤ b := fun b hb => by (rcases hF13 b hb with h | h | h; exact HF.out b h; (have := hF9p b h; omega); (have := b912.size; omega))
                          obtain ⟨A13, d13, rfl, l13, m13, -⟩ := own13.read
                          have h13 := hq10.belowAt t13 hG8
                          have c13 := h13.cell (j := 3) rfl
                          have z13 := h13.frozen 3
                          have S13 := SRT.keep SQ (t13.block _ hpW) (t13.block _ hadW) (b912_row b912 hgr13 rtq.lt (fun e => HNE0.out _ (HOq.out.row e) rfl))
                          refine hK.out _ _ (S13) (fun hHeld34 => ?_)
                          clear hK K hHeld33
                          try simp only [List.getElem_toArray, List.getElem_cons_succ, List.getElem_cons_zero, Act.put, List.setIfInBounds_toArray, List.set_cons_zero, List.set_cons_succ]
                          refine wpAnyH_take (i := 14) (oi := _) (v := ?v34m2_35) rfl (by kernel_rfl) (by kernel_rfl) (by kernel_rfl) (fun _ _ _ h => h) (Or.inl ⟨by rfl, ?hy34m2_35⟩) hHeld34 ?_
                          case hy34m2_35 => (intro wS hSw; (try dsimp only at hSw); obtain ⟨s0, s1, s2, s3, s4, s5, s6, s7, s8, s9, s10, s11, s12⟩ := hSw; go_simp; try with_reducible rfl)
                          try simp only [List.getElem_toArray, List.getElem_cons_succ, List.getElem_cons_zero, Act.put, List.setIfInBounds_toArray, List.set_cons_zero, List.set_cons_succ]
                          refine wpAnyH_ready (rs := [15]) (by kernel_rfl) (by simp) ?_
                          refine (AllReadyH.cons (o := _) rfl (fun K hK => ?_) AllReadyH.nil)
                          go_simp
                          have g15 := grown_set w13 G8 3 (.slice A13 (trimK seen bs (k + 1)).length d13)
                          have h15 : Row (w13.setCell ⟨G8, 3, none⟩ (.slice A13 (trimK seen bs (k + 1)).length d13)) G8 33 (graphCells (.slice A13 (trimK seen bs (k + 1)).length d13) ⟨nm, kp, lf, bs⟩) := h13.set 3 _
                          have S15 := S13.grown g15 (by omega) (by omega) (by omega)
                          refine hK.out _ _ (S15) (fun hHeld36 => ?_)
                          clear hK K hHeld34
                          try simp only [List.getElem_toArray, List.getElem_cons_succ, List.getElem_cons_zero, Act.put, List.setIfInBounds_toArray, List.set_cons_zero, List.set_cons_succ]
                          refine wpAnyH_done (by kernel_rfl) ?_ _
                          go_wp2_with fail
                          exact ⟨⟨k + 1, _, F13, by omega, by go_num, own13.grown g15 (fun b hb e => by injection e with e; have := hF13p b hb; omega), hF13p, h15, grown_trans (grown_over hgr ((bq.mono hsr).trans t13)) g15⟩, by simp [intOf]; omega⟩
                  · have z2 : (b.fin.kind == 1) = false := ibeq hk1
                    have hB : trimB seen b = ⟨b.ops, b.fin⟩ := by
                      unfold trimB trimT
                      rw [if_neg (fun h => h.elim hk1 hk2), if_neg hk2]
                      rfl
                    have HB := Lib.hid hB
                    have HW := Lib.hid HWF.out
                    clear hB hk2 hk1
                    go_upto_region 34 with fail
                    have bq := b2
                    have rtq := r2
                    obtain ⟨Wq, hWq⟩ : ∃ Wq : World, Wq = W10 := ⟨_, rfl⟩
                    subst hWq
                    clear y0 y1 y2 y3 y4 y5 y6 y7 y8 y9 y10 r2 ri2 x3' i0'
                    have SQ : SRT Wq w.heap.size (.slice (some ad) bs.length c) (ad.add (k * 12)) (.slice Ab b.ops.length cb) wr.heap.size (b.fin) := ⟨Sub.of_below bq _ _ x3, Sub.of_below bq _ _ i0, termRow rtq⟩
                    have GQ : kOp.C Wq Ab b.ops := Kd.C_mono bq gb
                    have hq10 := hrg.below bq
                    have q33 := hq10.cell (j := 3) rfl
                    have HOq := Lib.hid (HO.out.below bq)
                    have hW8q : W8.heap.size ≤ Wq.heap.size := Nat.le_trans hsr bq.size
                    refine wp_region_held_drew (S := (fun w' => SRT w' w.heap.size (.slice (some ad) bs.length c) (ad.add (k * 12)) (.slice Ab b.ops.length cb) wr.heap.size (b.fin))) (by kernel_rfl) (SQ) (fun hHeld => ?_)
                    refine wpAnyH_take (i := 0) (oi := _) (v := ?v34m3_1) rfl (by kernel_rfl) (by kernel_rfl) (by kernel_rfl) (fun _ _ _ h => h) (Or.inl ⟨by rfl, ?hy34m3_1⟩) hHeld ?_
                    case hy34m3_1 => (intro wS hSw; (try dsimp only at hSw); obtain ⟨s0, s1, s2, s3, s4, s5, s6, s7, s8, s9, s10, s11, s12⟩ := hSw; go_simp; try with_reducible rfl)
                    try simp only [List.getElem_toArray, List.getElem_cons_succ, List.getElem_cons_zero, Act.put, List.setIfInBounds_toArray, List.set_cons_zero, List.set_cons_succ]
                    refine wpAnyH_take (i := 3) (oi := _) (v := ?v34m3_2) rfl (by kernel_rfl) (by kernel_rfl) (by kernel_rfl) (fun _ _ _ h => h) (Or.inl ⟨by rfl, ?hy34m3_2⟩) hHeld ?_
                    case hy34m3_2 => (intro wS hSw; (try dsimp only at hSw); obtain ⟨s0, s1, s2, s3, s4, s5, s6, s7, s8, s9, s10, s11, s12⟩ := hSw; go_simp; try with_reducible rfl)
                    try simp only [List.getElem_toArray, List.getElem_cons_succ, List.getElem_cons_zero, Act.put, List.setIfInBounds_toArray, List.set_cons_zero, List.set_cons_succ]
                    refine wpAnyH_take (i := 4) (oi := _) (v := ?v34m3_3) rfl (by kernel_rfl) (by kernel_rfl) (by kernel_rfl) (fun _ _ _ h => h) (Or.inl ⟨by rfl, ?hy34m3_3⟩) hHeld ?_
                    case hy34m3_3 => (intro wS hSw; (try dsimp only at hSw); obtain ⟨s0, s1, s2, s3, s4, s5, s6, s7, s8, s9, s10, s11, s12⟩ := hSw; go_simp; try with_reducible rfl)
                    try simp only [List.getElem_toArray, List.getElem_cons_succ, List.getElem_cons_zero, Act.put, List.setIfInBounds_toArray, List.set_cons_zero, List.set_cons_succ]
                    refine wpAnyH_take (i := 5) (oi := _) (v := ?v34m3_4) rfl (by kernel_rfl) (by kernel_rfl) (by kernel_rfl) (fun _ _ _ h => h) (Or.inl ⟨by rfl, ?hy34m3_4⟩) hHeld ?_
                    case hy34m3_4 => (intro wS hSw; (try dsimp only at hSw); obtain ⟨s0, s1, s2, s3, s4, s5, s6, s7, s8, s9, s10, s11, s12⟩ := hSw; go_simp; try with_reducible rfl)
                    try simp only [List.getElem_toArray, List.getElem_cons_succ, List.getElem_cons_zero, Act.put, List.setIfInBounds_toArray, List.set_cons_zero, List.set_cons_succ]
                    refine wpAnyH_take (i := 6) (oi := _) (v := ?v34m3_5) rfl (by kernel_rfl) (by kernel_rfl) (by kernel_rfl) (fun _ _ _ h => h) (Or.inl ⟨by rfl, ?hy34m3_5⟩) hHeld ?_
                    case hy34m3_5 => (intro wS hSw; (try dsimp only at hSw); obtain ⟨s0, s1, s2, s3, s4, s5, s6, s7, s8, s9, s10, s11, s12⟩ := hSw; go_simp; try with_reducible rfl)
                    try simp only [List.getElem_toArray, List.getElem_cons_succ, List.getElem_cons_zero, Act.put, List.setIfInBounds_toArray, List.set_cons_zero, List.set_cons_succ]
                    refine wpAnyH_take (i := 7) (oi := _) (v := ?v34m3_6) rfl (by kernel_rfl) (by kernel_rfl) (by kernel_rfl) (fun _ _ _ h => h) (Or.inl ⟨by rfl, ?hy34m3_6⟩) hHeld ?_
                    case hy34m3_6 => (intro wS hSw; (try dsimp only at hSw); obtain ⟨s0, s1, s2, s3, s4, s5, s6, s7, s8, s9, s10, s11, s12⟩ := hSw; go_simp; try with_reducible rfl)
                    try simp only [List.getElem_toArray, List.getElem_cons_succ, List.getElem_cons_zero, Act.put, List.setIfInBounds_toArray, List.set_cons_zero, List.set_cons_succ]
                    refine wpAnyH_take (i := 8) (oi := _) (v := ?v34m3_7) rfl (by kernel_rfl) (by kernel_rfl) (by kernel_rfl) (fun _ _ _ h => h) (Or.inl ⟨by rfl, ?hy34m3_7⟩) hHeld ?_
                    case hy34m3_7 => (intro wS hSw; (try dsimp only at hSw); obtain ⟨s0, s1, s2, s3, s4, s5, s6, s7, s8, s9, s10, s11, s12⟩ := hSw; go_simp; try with_reducible rfl)
                    try simp only [List.getElem_toArray, List.getElem_cons_succ, List.getElem_cons_zero, Act.put, List.setIfInBounds_toArray, List.set_cons_zero, List.set_cons_succ]
                    refine wpAnyH_take (i := 10) (oi := _) (v := ?v34m3_8) rfl (by kernel_rfl) (by kernel_rfl) (by kernel_rfl) (fun _ _ _ h => h) (Or.inl ⟨by rfl, ?hy34m3_8⟩) hHeld ?_
                    case hy34m3_8 => (intro wS hSw; (try dsimp only at hSw); obtain ⟨s0, s1, s2, s3, s4, s5, s6, s7, s8, s9, s10, s11, s12⟩ := hSw; go_simp; try with_reducible rfl)
                    try simp only [List.getElem_toArray, List.getElem_cons_succ, List.getElem_cons_zero, Act.put, List.setIfInBounds_toArray, List.set_cons_zero, List.set_cons_succ]
                    refine wpAnyH_ready (rs := [1, 2]) (by kernel_rfl) (by simp) ?_
                    refine (AllReadyH.cons (o := _) rfl (fun K hK => ?_) (AllReadyH.cons (o := _) rfl (fun K hK => ?_) AllReadyH.nil))
                    · go_simp
                      refine hK.out _ _ (hHeld) (fun hHeld9 => ?_)
                      clear hK K hHeld
                      try simp only [List.getElem_toArray, List.getElem_cons_succ, List.getElem_cons_zero, Act.put, List.setIfInBounds_toArray, List.set_cons_zero, List.set_cons_succ]
                      refine wpAnyH_ready (rs := [2]) (by kernel_rfl) (by simp) ?_
                      refine (AllReadyH.cons (o := _) rfl (fun K hK => ?_) AllReadyH.nil)
                      go_simp
                      have b2 : Below Wq.heap.size Wq (Wq.drew.alloc (.cells #[] 44)) := (Below.refl _ _).drew.trans (below_alloc' Wq.drew _)
                      have q2 := Sub.of_below b2 _ _ q33
                      have q2b : (Wq.alloc (.cells #[] 44)).cell? ⟨G8, 3, none⟩ = some v := Sub.of_below (below_alloc' Wq _) _ _ q33
                      have G2 := Kd.C_mono b2 GQ
                      have S2 := SQ.sub (Sub.of_below b2)
                      refine hK.out _ _ (S2) (fun hHeld10 => ?_)
                      clear hK K hHeld9
                      try simp only [List.getElem_toArray, List.getElem_cons_succ, List.getElem_cons_zero, Act.put, List.setIfInBounds_toArray, List.set_cons_zero, List.set_cons_succ]
                      refine wpAnyH_ready (rs := [9]) (by kernel_rfl) (by simp) ?_
                      refine (AllReadyH.cons (o := _) rfl (fun K hK => ?_) AllReadyH.nil)
                      refine step_append_f (k := oOp) elOp rfl _ _ rfl (OwnF.empty oOp 44 Wq.drew) (YF.flat G2) (fun _ _ h => h) rfl rfl (by simp; omega) ?_
                      intro v9 w9 hg9
                      obtain ⟨⟨F9, own9, hF9⟩, hgr9⟩ := hg9
                      rw [List.nil_append] at own9
                      have t9 : Below Wq.heap.size Wq w9 := b2.grown hgr9 b2.size (fun j hj => by (injection hj with hj; subst hj; exact Nat.le_refl _))
                      have hF9p : ∀ b, F9 b → Wq.heap.size ≤ b := fun b hb => by (rcases hF9 b hb with h | h | h; exact Nat.le_of_eq h.symm; exact h.elim; exact Nat.le_trans b2.size h)
                      obtain ⟨A9, c9, rfl, l9, m9, hC9⟩ := own9.read
                      have q9 := Sub.of_below t9 _ _ q33
                      have S9 := SQ.sub (Sub.of_below t9)
                      have hl9 := len_le l9 m9
                      refine hK.out _ _ (S9) (fun hHeld11 => ?_)
                      clear hK K hHeld10
                      try simp only [List.getElem_toArray, List.getElem_cons_succ, List.getElem_cons_zero, Act.put, List.setIfInBounds_toArray, List.set_cons_zero, List.set_cons_succ]
                      refine wpAnyH_take (i := 11) (oi := _) (v := ?v34m3_12) rfl (by kernel_rfl) (by kernel_rfl) (by kernel_rfl) (fun _ _ _ h => h) (Or.inl ⟨by rfl, ?hy34m3_12⟩) hHeld11 ?_
                      case hy34m3_12 => (intro wS hSw; (try dsimp only at hSw); obtain ⟨s0, s1, s2, s3, s4, s5, s6, s7, s8, s9, s10, s11, s12⟩ := hSw; go_simp; try with_reducible rfl)
                      try simp only [List.getElem_toArray, List.getElem_cons_succ, List.getElem_cons_zero, Act.put, List.setIfInBounds_toArray, List.set_cons_zero, List.set_cons_succ]
                      refine wpAnyH_ready (rs := [12]) (by kernel_rfl) (by simp) ?_
                      refine (AllReadyH.cons (o := _) rfl (fun K hK => ?_) AllReadyH.nil)
                      go_simp
                      have b12 := below_alloc' w9 (.cells #[.slice A9 b.ops.length c9, .int .i64 (b.fin).kind, .int .i64 (b.fin).op, .int .i64 (b.fin).a, .int .i64 (b.fin).b, .int .i64 (b.fin).to, .int .i64 (b.fin).els, .int .i64 (b.fin).ins.op, .int .i64 (b.fin).ins.a, .int .i64 (b.fin).ins.b, .int .i64 (b.fin).ins.c, .int .i64 (b.fin).ins.imm] 42)
                      have q12 := Sub.of_below b12 _ _ q9
                      have S12 := S9.sub (Sub.of_below b12)
                      have hY : YF oBlock (w9.alloc (.cells #[.slice A9 b.ops.length c9, .int .i64 (b.fin).kind, .int .i64 (b.fin).op, .int .i64 (b.fin).a, .int .i64 (b.fin).b, .int .i64 (b.fin).to, .int .i64 (b.fin).els, .int .i64 (b.fin).ins.op, .int .i64 (b.fin).ins.a, .int .i64 (b.fin).ins.b, .int .i64 (b.fin).ins.c, .int .i64 (b.fin).ins.imm] 42)) (some ⟨w9.heap.size, 0, none⟩) [(⟨b.ops, b.fin⟩ : Block)] F9 := YF.one rfl ⟨_, rfl, HW.out, own9⟩
                      refine hK.out _ _ (S12) (fun hHeld13 => ?_)
                      clear hK K hHeld11
                      try simp only [List.getElem_toArray, List.getElem_cons_succ, List.getElem_cons_zero, Act.put, List.setIfInBounds_toArray, List.set_cons_zero, List.set_cons_succ]
                      refine wpAnyH_ready (rs := [13]) (by kernel_rfl) (by simp) ?_
                      refine (AllReadyH.cons (o := _) rfl (fun K hK => ?_) AllReadyH.nil)
                      refine step_append_f (k := oBlock) elBlock rfl _ _ rfl (ys := [(⟨b.ops, b.fin⟩ : Block)]) ((HOq.out.below t9).below b12) hY (fun b hb h9 => by (have := HOq.out.lt b hb; have := hF9p b h9; omega)) rfl rfl (by show _ + 1 ≤ _; omega) ?_
                      intro v13 w13 hg13
                      obtain ⟨⟨F13, own13, hF13⟩, hgr13⟩ := hg13
                      rw [← HB.out, ← HTK.out] at own13
                      have b912 := t9.trans (b12.mono t9.size)
                      have t13 : Below W8.heap.size Wq w13 := (b912.mono hW8q).grown hgr13 (Nat.le_trans hW8q b912.size) (fun j hj => HF.out j (HOq.out.row hj))
                      have hF13p : ∀ b, F13 b → W8.heap.size ≤ b := fun b hb => by (rcases hF13 b hb with h | h | h; exact HF.out b h; (have := hF9p b h; omega); (have := b912.size; omega))
                      obtain ⟨A13, d13, rfl, l13, m13, -⟩ := own13.read
                      have h13 := hq10.belowAt t13 hG8
                      have c13 := h13.cell (j := 3) rfl
                      have z13 := h13.frozen 3
                      have S13 := SRT.keep SQ (t13.block _ hpW) (t13.block _ hadW) (b912_row b912 hgr13 rtq.lt (fun e => HNE0.out _ (HOq.out.row e) rfl))
                      refine hK.out _ _ (S13) (fun hHeld14 => ?_)
                      clear hK K hHeld13
                      try simp only [List.getElem_toArray, List.getElem_cons_succ, List.getElem_cons_zero, Act.put, List.setIfInBounds_toArray, List.set_cons_zero, List.set_cons_succ]
                      refine wpAnyH_take (i := 14) (oi := _) (v := ?v34m3_15) rfl (by kernel_rfl) (by kernel_rfl) (by kernel_rfl) (fun _ _ _ h => h) (Or.inl ⟨by rfl, ?hy34m3_15⟩) hHeld14 ?_
                      case hy34m3_15 => (intro wS hSw; (try dsimp only at hSw); obtain ⟨s0, s1, s2, s3, s4, s5, s6, s7, s8, s9, s10, s11, s12⟩ := hSw; go_simp; try with_reducible rfl)
                      try simp only [List.getElem_toArray, List.getElem_cons_succ, List.getElem_cons_zero, Act.put, List.setIfInBounds_toArray, List.set_cons_zero, List.set_cons_succ]
                      refine wpAnyH_ready (rs := [15]) (by kernel_rfl) (by simp) ?_
                      refine (AllReadyH.cons (o := _) rfl (fun K hK => ?_) AllReadyH.nil)
                      go_simp
                      have g15 := grown_set w13 G8 3 (.slice A13 (trimK seen bs (k + 1)).length d13)
                      have h15 : Row (w13.setCell ⟨G8, 3, none⟩ (.slice A13 (trimK seen bs (k + 1)).length d13)) G8 33 (graphCells (.slice A13 (trimK seen bs (k + 1)).length d13) ⟨nm, kp, lf, bs⟩) := h13.set 3 _
                      have S15 := S13.grown g15 (by omega) (by omega) (by omega)
                      refine hK.out _ _ (S15) (fun hHeld16 => ?_)
                      clear hK K hHeld14
                      try simp only [List.getElem_toArray, List.getElem_cons_succ, List.getElem_cons_zero, Act.put, List.setIfInBounds_toArray, List.set_cons_zero, List.set_cons_succ]
                      refine wpAnyH_done (by kernel_rfl) ?_ _
                      go_wp2_with fail
                      exact ⟨⟨k + 1, _, F13, by omega, by go_num, own13.grown g15 (fun b hb e => by injection e with e; have := hF13p b hb; omega), hF13p, h15, grown_trans (grown_over hgr ((bq.mono hsr).trans t13)) g15⟩, by simp [intOf]; omega⟩
                    · go_simp
                      have b2 : Below Wq.heap.size Wq (Wq.drew.alloc (.cells #[] 44)) := (Below.refl _ _).drew.trans (below_alloc' Wq.drew _)
                      have q2 := Sub.of_below b2 _ _ q33
                      have q2b : (Wq.alloc (.cells #[] 44)).cell? ⟨G8, 3, none⟩ = some v := Sub.of_below (below_alloc' Wq _) _ _ q33
                      have G2 := Kd.C_mono b2 GQ
                      have S2 := SQ.sub (Sub.of_below b2)
                      refine hK.out _ _ (S2) (fun hHeld17 => ?_)
                      clear hK K hHeld
                      try simp only [List.getElem_toArray, List.getElem_cons_succ, List.getElem_cons_zero, Act.put, List.setIfInBounds_toArray, List.set_cons_zero, List.set_cons_succ]
                      refine wpAnyH_ready (rs := [1, 9]) (by kernel_rfl) (by simp) ?_
                      refine (AllReadyH.cons (o := _) rfl (fun K hK => ?_) (AllReadyH.cons (o := _) rfl (fun K hK => ?_) AllReadyH.nil))
                      · go_simp
                        refine hK.out _ _ (hHeld17) (fun hHeld18 => ?_)
                        clear hK K hHeld17
                        try simp only [List.getElem_toArray, List.getElem_cons_succ, List.getElem_cons_zero, Act.put, List.setIfInBounds_toArray, List.set_cons_zero, List.set_cons_succ]
                        refine wpAnyH_ready (rs := [9]) (by kernel_rfl) (by simp) ?_
                        refine (AllReadyH.cons (o := _) rfl (fun K hK => ?_) AllReadyH.nil)
                        refine step_append_f (k := oOp) elOp rfl _ _ rfl (OwnF.empty oOp 44 Wq.drew) (YF.flat G2) (fun _ _ h => h) rfl rfl (by simp; omega) ?_
                        intro v9 w9 hg9
                        obtain ⟨⟨F9, own9, hF9⟩, hgr9⟩ := hg9
                        rw [List.nil_append] at own9
                        have t9 : Below Wq.heap.size Wq w9 := b2.grown hgr9 b2.size (fun j hj => by (injection hj with hj; subst hj; exact Nat.le_refl _))
                        have hF9p : ∀ b, F9 b → Wq.heap.size ≤ b := fun b hb => by (rcases hF9 b hb with h | h | h; exact Nat.le_of_eq h.symm; exact h.elim; exact Nat.le_trans b2.size h)
                        obtain ⟨A9, c9, rfl, l9, m9, hC9⟩ := own9.read
                        have q9 := Sub.of_below t9 _ _ q33
                        have S9 := SQ.sub (Sub.of_below t9)
                        have hl9 := len_le l9 m9
                        refine hK.out _ _ (S9) (fun hHeld19 => ?_)
                        clear hK K hHeld18
                        try simp only [List.getElem_toArray, List.getElem_cons_succ, List.getElem_cons_zero, Act.put, List.setIfInBounds_toArray, List.set_cons_zero, List.set_cons_succ]
                        refine wpAnyH_take (i := 11) (oi := _) (v := ?v34m3_20) rfl (by kernel_rfl) (by kernel_rfl) (by kernel_rfl) (fun _ _ _ h => h) (Or.inl ⟨by rfl, ?hy34m3_20⟩) hHeld19 ?_
                        case hy34m3_20 => (intro wS hSw; (try dsimp only at hSw); obtain ⟨s0, s1, s2, s3, s4, s5, s6, s7, s8, s9, s10, s11, s12⟩ := hSw; go_simp; try with_reducible rfl)
                        try simp only [List.getElem_toArray, List.getElem_cons_succ, List.getElem_cons_zero, Act.put, List.setIfInBounds_toArray, List.set_cons_zero, List.set_cons_succ]
                        refine wpAnyH_ready (rs := [12]) (by kernel_rfl) (by simp) ?_
                        refine (AllReadyH.cons (o := _) rfl (fun K hK => ?_) AllReadyH.nil)
                        go_simp
                        have b12 := below_alloc' w9 (.cells #[.slice A9 b.ops.length c9, .int .i64 (b.fin).kind, .int .i64 (b.fin).op, .int .i64 (b.fin).a, .int .i64 (b.fin).b, .int .i64 (b.fin).to, .int .i64 (b.fin).els, .int .i64 (b.fin).ins.op, .int .i64 (b.fin).ins.a, .int .i64 (b.fin).ins.b, .int .i64 (b.fin).ins.c, .int .i64 (b.fin).ins.imm] 42)
                        have q12 := Sub.of_below b12 _ _ q9
                        have S12 := S9.sub (Sub.of_below b12)
                        have hY : YF oBlock (w9.alloc (.cells #[.slice A9 b.ops.length c9, .int .i64 (b.fin).kind, .int .i64 (b.fin).op, .int .i64 (b.fin).a, .int .i64 (b.fin).b, .int .i64 (b.fin).to, .int .i64 (b.fin).els, .int .i64 (b.fin).ins.op, .int .i64 (b.fin).ins.a, .int .i64 (b.fin).ins.b, .int .i64 (b.fin).ins.c, .int .i64 (b.fin).ins.imm] 42)) (some ⟨w9.heap.size, 0, none⟩) [(⟨b.ops, b.fin⟩ : Block)] F9 := YF.one rfl ⟨_, rfl, HW.out, own9⟩
                        refine hK.out _ _ (S12) (fun hHeld21 => ?_)
                        clear hK K hHeld19
                        try simp only [List.getElem_toArray, List.getElem_cons_succ, List.getElem_cons_zero, Act.put, List.setIfInBounds_toArray, List.set_cons_zero, List.set_cons_succ]
                        refine wpAnyH_ready (rs := [13]) (by kernel_rfl) (by simp) ?_
                        refine (AllReadyH.cons (o := _) rfl (fun K hK => ?_) AllReadyH.nil)
                        refine step_append_f (k := oBlock) elBlock rfl _ _ rfl (ys := [(⟨b.ops, b.fin⟩ : Block)]) ((HOq.out.below t9).below b12) hY (fun b hb h9 => by (have := HOq.out.lt b hb; have := hF9p b h9; omega)) rfl rfl (by show _ + 1 ≤ _; omega) ?_
                        intro v13 w13 hg13
                        obtain ⟨⟨F13, own13, hF13⟩, hgr13⟩ := hg13
                        rw [← HB.out, ← HTK.out] at own13
                        have b912 := t9.trans (b12.mono t9.size)
                        have t13 : Below W8.heap.size Wq w13 := (b912.mono hW8q).grown hgr13 (Nat.le_trans hW8q b912.size) (fun j hj => HF.out j (HOq.out.row hj))
                        have hF13p : ∀ b, F13 b → W8.heap.size ≤ b := fun b hb => by (rcases hF13 b hb with h | h | h; exact HF.out b h; (have := hF9p b h; omega); (have := b912.size; omega))
                        obtain ⟨A13, d13, rfl, l13, m13, -⟩ := own13.read
                        have h13 := hq10.belowAt t13 hG8
                        have c13 := h13.cell (j := 3) rfl
                        have z13 := h13.frozen 3
                        have S13 := SRT.keep SQ (t13.block _ hpW) (t13.block _ hadW) (b912_row b912 hgr13 rtq.lt (fun e => HNE0.out _ (HOq.out.row e) rfl))
                        refine hK.out _ _ (S13) (fun hHeld22 => ?_)
                        clear hK K hHeld21
                        try simp only [List.getElem_toArray, List.getElem_cons_succ, List.getElem_cons_zero, Act.put, List.setIfInBounds_toArray, List.set_cons_zero, List.set_cons_succ]
                        refine wpAnyH_take (i := 14) (oi := _) (v := ?v34m3_23) rfl (by kernel_rfl) (by kernel_rfl) (by kernel_rfl) (fun _ _ _ h => h) (Or.inl ⟨by rfl, ?hy34m3_23⟩) hHeld22 ?_
                        case hy34m3_23 => (intro wS hSw; (try dsimp only at hSw); obtain ⟨s0, s1, s2, s3, s4, s5, s6, s7, s8, s9, s10, s11, s12⟩ := hSw; go_simp; try with_reducible rfl)
                        try simp only [List.getElem_toArray, List.getElem_cons_succ, List.getElem_cons_zero, Act.put, List.setIfInBounds_toArray, List.set_cons_zero, List.set_cons_succ]
                        refine wpAnyH_ready (rs := [15]) (by kernel_rfl) (by simp) ?_
                        refine (AllReadyH.cons (o := _) rfl (fun K hK => ?_) AllReadyH.nil)
                        go_simp
                        have g15 := grown_set w13 G8 3 (.slice A13 (trimK seen bs (k + 1)).length d13)
                        have h15 : Row (w13.setCell ⟨G8, 3, none⟩ (.slice A13 (trimK seen bs (k + 1)).length d13)) G8 33 (graphCells (.slice A13 (trimK seen bs (k + 1)).length d13) ⟨nm, kp, lf, bs⟩) := h13.set 3 _
                        have S15 := S13.grown g15 (by omega) (by omega) (by omega)
                        refine hK.out _ _ (S15) (fun hHeld24 => ?_)
                        clear hK K hHeld22
                        try simp only [List.getElem_toArray, List.getElem_cons_succ, List.getElem_cons_zero, Act.put, List.setIfInBounds_toArray, List.set_cons_zero, List.set_cons_succ]
                        refine wpAnyH_done (by kernel_rfl) ?_ _
                        go_wp2_with fail
                        exact ⟨⟨k + 1, _, F13, by omega, by go_num, own13.grown g15 (fun b hb e => by injection e with e; have := hF13p b hb; omega), hF13p, h15, grown_trans (grown_over hgr ((bq.mono hsr).trans t13)) g15⟩, by simp [intOf]; omega⟩
                      · refine step_append_f (k := oOp) elOp rfl _ _ rfl (OwnF.empty oOp 44 Wq.drew) (YF.flat G2) (fun _ _ h => h) rfl rfl (by simp; omega) ?_
                        intro v9 w9 hg9
                        obtain ⟨⟨F9, own9, hF9⟩, hgr9⟩ := hg9
                        rw [List.nil_append] at own9
                        have t9 : Below Wq.heap.size Wq w9 := b2.grown hgr9 b2.size (fun j hj => by (injection hj with hj; subst hj; exact Nat.le_refl _))
                        have hF9p : ∀ b, F9 b → Wq.heap.size ≤ b := fun b hb => by (rcases hF9 b hb with h | h | h; exact Nat.le_of_eq h.symm; exact h.elim; exact Nat.le_trans b2.size h)
                        obtain ⟨A9, c9, rfl, l9, m9, hC9⟩ := own9.read
                        have q9 := Sub.of_below t9 _ _ q33
                        have S9 := SQ.sub (Sub.of_below t9)
                        have hl9 := len_le l9 m9
                        refine hK.out _ _ (S9) (fun hHeld25 => ?_)
                        clear hK K hHeld17
                        try simp only [List.getElem_toArray, List.getElem_cons_succ, List.getElem_cons_zero, Act.put, List.setIfInBounds_toArray, List.set_cons_zero, List.set_cons_succ]
                        refine wpAnyH_take (i := 11) (oi := _) (v := ?v34m3_26) rfl (by kernel_rfl) (by kernel_rfl) (by kernel_rfl) (fun _ _ _ h => h) (Or.inl ⟨by rfl, ?hy34m3_26⟩) hHeld25 ?_
                        case hy34m3_26 => (intro wS hSw; (try dsimp only at hSw); obtain ⟨s0, s1, s2, s3, s4, s5, s6, s7, s8, s9, s10, s11, s12⟩ := hSw; go_simp; try with_reducible rfl)
                        try simp only [List.getElem_toArray, List.getElem_cons_succ, List.getElem_cons_zero, Act.put, List.setIfInBounds_toArray, List.set_cons_zero, List.set_cons_succ]
                        refine wpAnyH_ready (rs := [1, 12]) (by kernel_rfl) (by simp) ?_
                        refine (AllReadyH.cons (o := _) rfl (fun K hK => ?_) (AllReadyH.cons (o := _) rfl (fun K hK => ?_) AllReadyH.nil))
                        · go_simp
                          refine hK.out _ _ (hHeld25) (fun hHeld27 => ?_)
                          clear hK K hHeld25
                          try simp only [List.getElem_toArray, List.getElem_cons_succ, List.getElem_cons_zero, Act.put, List.setIfInBounds_toArray, List.set_cons_zero, List.set_cons_succ]
                          refine wpAnyH_ready (rs := [12]) (by kernel_rfl) (by simp) ?_
                          refine (AllReadyH.cons (o := _) rfl (fun K hK => ?_) AllReadyH.nil)
                          go_simp
                          have b12 := below_alloc' w9 (.cells #[.slice A9 b.ops.length c9, .int .i64 (b.fin).kind, .int .i64 (b.fin).op, .int .i64 (b.fin).a, .int .i64 (b.fin).b, .int .i64 (b.fin).to, .int .i64 (b.fin).els, .int .i64 (b.fin).ins.op, .int .i64 (b.fin).ins.a, .int .i64 (b.fin).ins.b, .int .i64 (b.fin).ins.c, .int .i64 (b.fin).ins.imm] 42)
                          have q12 := Sub.of_below b12 _ _ q9
                          have S12 := S9.sub (Sub.of_below b12)
                          have hY : YF oBlock (w9.alloc (.cells #[.slice A9 b.ops.length c9, .int .i64 (b.fin).kind, .int .i64 (b.fin).op, .int .i64 (b.fin).a, .int .i64 (b.fin).b, .int .i64 (b.fin).to, .int .i64 (b.fin).els, .int .i64 (b.fin).ins.op, .int .i64 (b.fin).ins.a, .int .i64 (b.fin).ins.b, .int .i64 (b.fin).ins.c, .int .i64 (b.fin).ins.imm] 42)) (some ⟨w9.heap.size, 0, none⟩) [(⟨b.ops, b.fin⟩ : Block)] F9 := YF.one rfl ⟨_, rfl, HW.out, own9⟩
                          refine hK.out _ _ (S12) (fun hHeld28 => ?_)
                          clear hK K hHeld27
                          try simp only [List.getElem_toArray, List.getElem_cons_succ, List.getElem_cons_zero, Act.put, List.setIfInBounds_toArray, List.set_cons_zero, List.set_cons_succ]
                          refine wpAnyH_ready (rs := [13]) (by kernel_rfl) (by simp) ?_
                          refine (AllReadyH.cons (o := _) rfl (fun K hK => ?_) AllReadyH.nil)
                          refine step_append_f (k := oBlock) elBlock rfl _ _ rfl (ys := [(⟨b.ops, b.fin⟩ : Block)]) ((HOq.out.below t9).below b12) hY (fun b hb h9 => by (have := HOq.out.lt b hb; have := hF9p b h9; omega)) rfl rfl (by show _ + 1 ≤ _; omega) ?_
                          intro v13 w13 hg13
                          obtain ⟨⟨F13, own13, hF13⟩, hgr13⟩ := hg13
                          rw [← HB.out, ← HTK.out] at own13
                          have b912 := t9.trans (b12.mono t9.size)
                          have t13 : Below W8.heap.size Wq w13 := (b912.mono hW8q).grown hgr13 (Nat.le_trans hW8q b912.size) (fun j hj => HF.out j (HOq.out.row hj))
                          have hF13p : ∀ b, F13 b → W8.heap.size ≤ b := fun b hb => by (rcases hF13 b hb with h | h | h; exact HF.out b h; (have := hF9p b h; omega); (have := b912.size; omega))
                          obtain ⟨A13, d13, rfl, l13, m13, -⟩ := own13.read
                          have h13 := hq10.belowAt t13 hG8
                          have c13 := h13.cell (j := 3) rfl
                          have z13 := h13.frozen 3
                          have S13 := SRT.keep SQ (t13.block _ hpW) (t13.block _ hadW) (b912_row b912 hgr13 rtq.lt (fun e => HNE0.out _ (HOq.out.row e) rfl))
                          refine hK.out _ _ (S13) (fun hHeld29 => ?_)
                          clear hK K hHeld28
                          try simp only [List.getElem_toArray, List.getElem_cons_succ, List.getElem_cons_zero, Act.put, List.setIfInBounds_toArray, List.set_cons_zero, List.set_cons_succ]
                          refine wpAnyH_take (i := 14) (oi := _) (v := ?v34m3_30) rfl (by kernel_rfl) (by kernel_rfl) (by kernel_rfl) (fun _ _ _ h => h) (Or.inl ⟨by rfl, ?hy34m3_30⟩) hHeld29 ?_
                          case hy34m3_30 => (intro wS hSw; (try dsimp only at hSw); obtain ⟨s0, s1, s2, s3, s4, s5, s6, s7, s8, s9, s10, s11, s12⟩ := hSw; go_simp; try with_reducible rfl)
                          try simp only [List.getElem_toArray, List.getElem_cons_succ, List.getElem_cons_zero, Act.put, List.setIfInBounds_toArray, List.set_cons_zero, List.set_cons_succ]
                          refine wpAnyH_ready (rs := [15]) (by kernel_rfl) (by simp) ?_
                          refine (AllReadyH.cons (o := _) rfl (fun K hK => ?_) AllReadyH.nil)
                          go_simp
                          have g15 := grown_set w13 G8 3 (.slice A13 (trimK seen bs (k + 1)).length d13)
                          have h15 : Row (w13.setCell ⟨G8, 3, none⟩ (.slice A13 (trimK seen bs (k + 1)).length d13)) G8 33 (graphCells (.slice A13 (trimK seen bs (k + 1)).length d13) ⟨nm, kp, lf, bs⟩) := h13.set 3 _
                          have S15 := S13.grown g15 (by omega) (by omega) (by omega)
                          refine hK.out _ _ (S15) (fun hHeld31 => ?_)
                          clear hK K hHeld29
                          try simp only [List.getElem_toArray, List.getElem_cons_succ, List.getElem_cons_zero, Act.put, List.setIfInBounds_toArray, List.set_cons_zero, List.set_cons_succ]
                          refine wpAnyH_done (by kernel_rfl) ?_ _
                          go_wp2_with fail
                          exact ⟨⟨k + 1, _, F13, by omega, by go_num, own13.grown g15 (fun b hb e => by injection e with e; have := hF13p b hb; omega), hF13p, h15, grown_trans (grown_over hgr ((bq.mono hsr).trans t13)) g15⟩, by simp [intOf]; omega⟩
                        · go_simp
                          have b12 := below_alloc' w9 (.cells #[.slice A9 b.ops.length c9, .int .i64 (b.fin).kind, .int .i64 (b.fin).op, .int .i64 (b.fin).a, .int .i64 (b.fin).b, .int .i64 (b.fin).to, .int .i64 (b.fin).els, .int .i64 (b.fin).ins.op, .int .i64 (b.fin).ins.a, .int .i64 (b.fin).ins.b, .int .i64 (b.fin).ins.c, .int .i64 (b.fin).ins.imm] 42)
                          have q12 := Sub.of_below b12 _ _ q9
                          have S12 := S9.sub (Sub.of_below b12)
                          have hY : YF oBlock (w9.alloc (.cells #[.slice A9 b.ops.length c9, .int .i64 (b.fin).kind, .int .i64 (b.fin).op, .int .i64 (b.fin).a, .int .i64 (b.fin).b, .int .i64 (b.fin).to, .int .i64 (b.fin).els, .int .i64 (b.fin).ins.op, .int .i64 (b.fin).ins.a, .int .i64 (b.fin).ins.b, .int .i64 (b.fin).ins.c, .int .i64 (b.fin).ins.imm] 42)) (some ⟨w9.heap.size, 0, none⟩) [(⟨b.ops, b.fin⟩ : Block)] F9 := YF.one rfl ⟨_, rfl, HW.out, own9⟩
                          refine hK.out _ _ (S12) (fun hHeld32 => ?_)
                          clear hK K hHeld25
                          try simp only [List.getElem_toArray, List.getElem_cons_succ, List.getElem_cons_zero, Act.put, List.setIfInBounds_toArray, List.set_cons_zero, List.set_cons_succ]
                          refine wpAnyH_ready (rs := [1]) (by kernel_rfl) (by simp) ?_
                          refine (AllReadyH.cons (o := _) rfl (fun K hK => ?_) AllReadyH.nil)
                          go_simp
                          refine hK.out _ _ (hHeld32) (fun hHeld33 => ?_)
                          clear hK K hHeld32
                          try simp only [List.getElem_toArray, List.getElem_cons_succ, List.getElem_cons_zero, Act.put, List.setIfInBounds_toArray, List.set_cons_zero, List.set_cons_succ]
                          refine wpAnyH_ready (rs := [13]) (by kernel_rfl) (by simp) ?_
                          refine (AllReadyH.cons (o := _) rfl (fun K hK => ?_) AllReadyH.nil)
                          refine step_append_f (k := oBlock) elBlock rfl _ _ rfl (ys := [(⟨b.ops, b.fin⟩ : Block)]) ((HOq.out.below t9).below b12) hY (fun b hb h9 => by (have := HOq.out.lt b hb; have := hF9p b h9; omega)) rfl rfl (by show _ + 1 ≤ _; omega) ?_
                          intro v13 w13 hg13
                          obtain ⟨⟨F13, own13, hF13⟩, hgr13⟩ := hg13
                          rw [← HB.out, ← HTK.out] at own13
                          have b912 := t9.trans (b12.mono t9.size)
                          have t13 : Below W8.heap.size Wq w13 := (b912.mono hW8q).grown hgr13 (Nat.le_trans hW8q b912.size) (fun j hj => HF.out j (HOq.out.row hj))
                          have hF13p : ∀ b, F13 b → W8.heap.size ≤ b := fun b hb => by (rcases hF13 b hb with h | h | h; exact HF.out b h; (have := hF9p b h; omega); (have := b912.size; omega))
                          obtain ⟨A13, d13, rfl, l13, m13, -⟩ := own13.read
                          have h13 := hq10.belowAt t13 hG8
                          have c13 := h13.cell (j := 3) rfl
                          have z13 := h13.frozen 3
                          have S13 := SRT.keep SQ (t13.block _ hpW) (t13.block _ hadW) (b912_row b912 hgr13 rtq.lt (fun e => HNE0.out _ (HOq.out.row e) rfl))
                          refine hK.out _ _ (S13) (fun hHeld34 => ?_)
                          clear hK K hHeld33
                          try simp only [List.getElem_toArray, List.getElem_cons_succ, List.getElem_cons_zero, Act.put, List.setIfInBounds_toArray, List.set_cons_zero, List.set_cons_succ]
                          refine wpAnyH_take (i := 14) (oi := _) (v := ?v34m3_35) rfl (by kernel_rfl) (by kernel_rfl) (by kernel_rfl) (fun _ _ _ h => h) (Or.inl ⟨by rfl, ?hy34m3_35⟩) hHeld34 ?_
                          case hy34m3_35 => (intro wS hSw; (try dsimp only at hSw); obtain ⟨s0, s1, s2, s3, s4, s5, s6, s7, s8, s9, s10, s11, s12⟩ := hSw; go_simp; try with_reducible rfl)
                          try simp only [List.getElem_toArray, List.getElem_cons_succ, List.getElem_cons_zero, Act.put, List.setIfInBounds_toArray, List.set_cons_zero, List.set_cons_succ]
                          refine wpAnyH_ready (rs := [15]) (by kernel_rfl) (by simp) ?_
                          refine (AllReadyH.cons (o := _) rfl (fun K hK => ?_) AllReadyH.nil)
                          go_simp
                          have g15 := grown_set w13 G8 3 (.slice A13 (trimK seen bs (k + 1)).length d13)
                          have h15 : Row (w13.setCell ⟨G8, 3, none⟩ (.slice A13 (trimK seen bs (k + 1)).length d13)) G8 33 (graphCells (.slice A13 (trimK seen bs (k + 1)).length d13) ⟨nm, kp, lf, bs⟩) := h13.set 3 _
                          have S15 := S13.grown g15 (by omega) (by omega) (by omega)
                          refine hK.out _ _ (S15) (fun hHeld36 => ?_)
                          clear hK K hHeld34
                          try simp only [List.getElem_toArray, List.getElem_cons_succ, List.getElem_cons_zero, Act.put, List.setIfInBounds_toArray, List.set_cons_zero, List.set_cons_succ]
                          refine wpAnyH_done (by kernel_rfl) ?_ _
                          go_wp2_with fail
                          exact ⟨⟨k + 1, _, F13, by omega, by go_num, own13.grown g15 (fun b hb e => by injection e with e; have := hF13p b hb; omega), hF13p, h15, grown_trans (grown_over hgr ((bq.mono hsr).trans t13)) g15⟩, by simp [intOf]; omega⟩
            · obtain rfl : k = bs.length := by omega
              have hn : (trimK seen bs bs.length) = trimBs seen bs := rfl
              rw [hn] at ho
              obtain ⟨A1, c1, rfl, l1, m1, -⟩ := ho.read
              obtain ⟨y0, y1, y2, y3⟩ := hrg.graph
              have HO := Lib.hid ho
              have HF := Lib.hid hF
              have RZ := Lib.hid rz
              clear ho hF rz rb
              go_wp2_with (refine wpList_put_row rfl 33 _ _ rfl (w.heap.size + 1) (graphCells (.slice A1 (trimBs seen bs).length c1) ⟨nm, kp, lf, bs⟩) rfl rfl RZ.out (by kernel_rfl) rfl (graphCells_one _) ?_; intro w6 r6 g6 s6)
              refine bodyPost_ret (results_cell_row rfl _ _ (w.heap.size + 1) 33 (graphCells (.slice A1 (trimBs seen bs).length c1) ⟨nm, kp, lf, bs⟩).toArray (0, 0) _ rfl r6 Try.underlying33 rfl (by kernel_rfl)) rfl ?_
              exact ⟨seen, HREACH.out, A1, c1, F, rfl, HO.out.grown g6 (fun x hx e => by injection e with e; have := HF.out x hx; omega), fun x hx => by have := HF.out x hx; omega, t10.grown g6 t10.size (fun j hj => by injection hj with hj; omega)⟩
end Go.Proofs.Ytokkngfgppikkaa
