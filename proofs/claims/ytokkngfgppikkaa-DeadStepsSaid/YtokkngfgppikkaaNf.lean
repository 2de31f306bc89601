/- Layer 22 (dead): Trim's search. -/
import Derived.Test.YtokkngfgppikkaaNe
import Derived.Test.YtokkngfgppikkaaCo
import Derived.Laws.EntriesVeiled
namespace Go.Proofs.Ytokkngfgppikkaa
set_option linter.unusedVariables false
set_option linter.unusedSimpArgs false
open Go.RowKit

/-- Block number g is a row of these numbers. -/
def RowI (w : World) (g : Nat) (xs : List Int) : Prop := w.heap[g]? = some (.cells (xs.map (Value.int .i64)).toArray 3 (0, 0))
theorem RowI.lt {w : World} {g : Nat} {xs : List Int} (h : RowI w g xs) : g < w.heap.size := (Array.getElem?_eq_some_iff.1 h).1
theorem RowI.cell {w : World} {g : Nat} {xs : List Int} (h : RowI w g xs) {i : Nat} {x : Int} (hi : xs[i]? = some x) : w.cell? ⟨g, i, none⟩ = some (.int .i64 x) := by
  rw [cell_of_row w g i _ _ _ h]
  simp [hi]
theorem RowI.frozen {w : World} {g : Nat} {xs : List Int} (h : RowI w g xs) (i : Nat) : w.frozen? ⟨g, i, none⟩ = false := frozen_of_row w g i _ _ h
theorem RowI.below {w w' : World} {g : Nat} {xs : List Int} (h : RowI w g xs) (hb : Below w.heap.size w w') : RowI w' g xs := by
  unfold RowI
  rw [hb.block g h.lt]
  exact h
theorem RowI.belowAt {B : Nat} {w w' : World} {g : Nat} {xs : List Int} (h : RowI w g xs) (hb : Below B w w') (hg : g < B) : RowI w' g xs := by
  unfold RowI
  rw [hb.block g hg]
  exact h
theorem RowI.apart {w w' : World} {g : Nat} {xs : List Int} {r : Option Nat} (h : RowI w g xs) (hg : w.grownBy w' r) (hne : r ≠ some g) : RowI w' g xs := by
  unfold RowI
  rw [hg.block g h.lt (fun e => hne e.symm)]
  exact h
theorem RowI.set {w : World} {g : Nat} {xs : List Int} (h : RowI w g xs) (i : Nat) (b : Int) : RowI (w.setCell ⟨g, i, none⟩ (.int .i64 b)) g (xs.set i b) ∧ w.grownBy (w.setCell ⟨g, i, none⟩ (.int .i64 b)) (some g) := by
  refine ⟨?_, ⟨rfl, rfl, rfl, by simp, fun k _ hk => heap_setCell_other w ⟨g, i, none⟩ k _ (fun e => hk (by simp [e]))⟩⟩
  unfold RowI
  rw [heap_setCell_same w g i _ _ _ h]
  congr 1
  congr 1
  apply Array.toList_inj.1
  simp
theorem infoI : (Try.prog.info? 3).map (fun i => (i.zero, i.size, i.bytes)) = some (some (.int .i64 0), 1, 8) := by kernel_rfl
set_option maxRecDepth 100000 in
theorem make_ints (n : Nat) (hn : n ≤ 1000000) (w : World) : ∃ w', (Instr.makeSlice 54 (.int .i64 (n : Int)) (.int .i64 (n : Int))).run Try.prog w = .ok (.slice (some ⟨w.heap.size, 0, none⟩) n n) w' ∧ RowI w' w.heap.size (List.replicate n 0) ∧ Below w.heap.size w w' ∧ w'.heap.size = w.heap.size + 1 := by
  obtain ⟨i0, hi, hz0, hz1, hz2⟩ := info_parts infoI
  have h := run_make (P := Try.prog) w 54 3 i0 (.int .i64 0) Try.underlying54 hi hz0 .i64 .i64 n n (by omega) (Int.le_refl _) (by rw [hz2]; omega) (by omega)
  refine ⟨_, h, ?_, (Below.refl _ _).alloc (Nat.le_refl _) _, by simp⟩
  unfold RowI
  rw [heap_alloc_new]
  congr 1
  congr 1
  apply Array.toList_inj.1
  rw [hz1]
  simp only [Int.toNat_natCast, Nat.mul_one]
  apply List.ext_getElem?
  intro j
  by_cases hj : j < n
  · simp [madeCells, hj, List.getElem?_replicate, Value.cells, Nat.mod_one]
  · simp [madeCells, hj, List.getElem?_replicate]

/-- Where the search stands. -/
structure EnvT (w0 w : World) (A : Option Addr) (c n s b f g : Nat) (xs : List Bool) : Prop where
  below : Below w0.heap.size w0 w
  hg : w0.heap.size ≤ g
  cs : w.cell? ⟨s, 0, none⟩ = some (.slice (some ⟨g, 0, none⟩) n n)
  cb : w.cell? ⟨b, 3, none⟩ = some (.slice A n c)
  cf : w.cell? ⟨f, 0, none⟩ = some (.func (.func 67) #[] #[.pointer (some ⟨s, 0, none⟩), .pointer (some ⟨b, 0, none⟩), .pointer (some ⟨f, 0, none⟩)])
  row : RowB w g xs
  ns : s ≠ g
  nb : b ≠ g
  nf : f ≠ g
  len : xs.length = n
theorem EnvT.grown {w0 w w' : World} {A : Option Addr} {c n s b f g : Nat} {xs ys : List Bool} (h : EnvT w0 w A c n s b f g xs) (hg : w.grownBy w' (some g)) (hr : RowB w' g ys) (hl : ys.length = n) : EnvT w0 w' A c n s b f g ys :=
  ⟨h.below.grown hg h.below.size (fun k hk => by injection hk with e; subst e; exact h.hg), h.hg, hg.cell h.cs (by simpa using h.ns), hg.cell h.cb (by simpa using h.nb), hg.cell h.cf (by simpa using h.nf), hr, h.ns, h.nb, h.nf, hl⟩
/-- What a search from a block leaves. -/
def LeftT (bs : List Block) (xs : List Bool) (i g : Nat) (w : World) (e : Ending) (w' : World) : Prop := e = .returned (.tuple #[]) ∧ ∃ ys, DoneE (TEdge bs) xs i ys ∧ RowB w' g ys ∧ w.grownBy w' (some g)

theorem trim1_seen (A : Option Addr) (c : Nat) (bs : List Block) (w0 : World) (hl : bs.length ≤ 1000) (s b f g : Nat) (xs : List Bool) (i : Nat) (w : World) (hon : On xs i) (hi : i < bs.length) (he : EnvT w0 w A c bs.length s b f g xs) :
    Calls Try.prog 67 #[.int .i64 i, .pointer (some ⟨s, 0, none⟩), .pointer (some ⟨b, 0, none⟩), .pointer (some ⟨f, 0, none⟩)] w (LeftT bs xs i g w) := by
  have hd := DoneE.seen (E := TEdge bs) hon
  have c0 := he.cs
  have c1 := he.row.cell hon
  have hrow := he.row
  have HD := Lib.hid hd
  have HR := Lib.hid hrow
  clear he hd hon hrow
  go_enter Try.func67, Try.ntmps67
  go_wp2_with fail
  refine bodyPost_ret (results_none rfl _ _ _) rfl ?_
  exact ⟨rfl, xs, HD.out, HR.out, grown_refl _ _⟩

set_option maxHeartbeats 4000000 in
set_option maxRecDepth 100000 in
theorem trim1_calls (A : Option Addr) (c : Nat) (bs : List Block) (w0 : World) (hC : kBlock.C w0 A bs) (hl : bs.length ≤ 1000) (hld : Leads bs) (s b f g : Nat) : ∀ (m : Nat) (xs : List Bool) (i : Nat) (w : World), offs xs ≤ m → i < bs.length → EnvT w0 w A c bs.length s b f g xs →
    Calls Try.prog 67 #[.int .i64 i, .pointer (some ⟨s, 0, none⟩), .pointer (some ⟨b, 0, none⟩), .pointer (some ⟨f, 0, none⟩)] w (LeftT bs xs i g w) := by
  intro m
  induction m with
  | zero =>
    intro xs i w hm hi he
    have hon : On xs i := by
      obtain ⟨x, hx⟩ := get_some xs i (by rw [he.len]; exact hi)
      cases x with
      | true => exact hx
      | false => have := offs_set hx; omega
    exact trim1_seen A c bs w0 hl s b f g xs i w hon hi he
  | succ m ih =>
    intro xs i w hm hi he
    obtain ⟨x, hx⟩ := get_some xs i (by rw [he.len]; exact hi)
    cases x with
    | true => exact trim1_seen A c bs w0 hl s b f g xs i w hx hi he
    | false =>
      have hoff := offs_set hx
      obtain ⟨x, hxb⟩ := get_some bs i hi
      have hlead := hld x (List.mem_of_getElem? hxb)
      have c0 := he.cs
      have c1 := he.row.cell hx
      have c2 := he.row.frozen i
      obtain ⟨hr1, hg1⟩ := he.row.set i true
      have he1 := he.grown hg1 hr1 (by simp [he.len])
      have hxl := he.len
      have hp0 := PartE.start (E := TEdge bs) (xs := xs) (i := i) (by rw [he.len]; exact hi)
      have hedge : ∀ y : Nat, TEdge bs i y → (x.fin.kind = 1 ∨ x.fin.kind = 2) ∧ x.fin.to = (y : Int) ∨ x.fin.kind = 2 ∧ x.fin.els = (y : Int) := fun y ⟨b', hb', h⟩ => by
        rw [hxb] at hb'
        injection hb' with e
        rw [e]
        exact h
      have hmk : ∀ y : Nat, ((x.fin.kind = 1 ∨ x.fin.kind = 2) ∧ x.fin.to = (y : Int) ∨ x.fin.kind = 2 ∧ x.fin.els = (y : Int)) → TEdge bs i y := fun y h => ⟨x, hxb, h⟩
      have hmono : ∀ ys : List Bool, ys.length = xs.length → (∀ z, On xs z → On ys z) → On ys i → offs ys ≤ m := fun ys h1 h2 h3 => by
        have h4 := offs_mono (xs := xs.set i true) (ys := ys) (by simpa using h1) (fun z hz => by
          rcases (on_set (by rw [hxl]; exact hi)).1 hz with rfl | h
          · exact h3
          · exact h2 z h)
        omega
      have HP := Lib.hid hp0
      have HI := Lib.hid ih
      have HB := Lib.hid hxb
      have HLEAD := Lib.hid hlead
      have HX := Lib.hid hxl
      have HEDGE := Lib.hid hedge
      have HMK := Lib.hid hmk
      have HMONO := Lib.hid hmono
      clear hp0 ih hx he hxl hlead hedge hmk hmono
      go_enter Try.func67, Try.ntmps67
      go_upto_region 2 with fail
      generalize w.setCell ⟨g, i, none⟩ (.bool true) = W1 at *
      clear c0 c1 c2 hr1
      have d1 := he1.cb
      obtain ⟨ad, A0, cc0, rfl, f0, f1, f2, f3, f4, f5, f6, f7, f8, f9, f10, f11, -, l0, m0, g0⟩ := Block_at (Kd.C_mono he1.below hC) hxb
      clear hxb
      have b2 := below_alloc' W1 (.cells #[.int .i64 x.fin.kind, .int .i64 x.fin.op, .int .i64 x.fin.a, .int .i64 x.fin.b, .int .i64 x.fin.to, .int .i64 x.fin.els, .int .i64 x.fin.ins.op, .int .i64 x.fin.ins.a, .int .i64 x.fin.ins.b, .int .i64 x.fin.ins.c, .int .i64 x.fin.ins.imm] 40)
      have r2 : Row (W1.alloc (.cells #[.int .i64 x.fin.kind, .int .i64 x.fin.op, .int .i64 x.fin.a, .int .i64 x.fin.b, .int .i64 x.fin.to, .int .i64 x.fin.els, .int .i64 x.fin.ins.op, .int .i64 x.fin.ins.a, .int .i64 x.fin.ins.b, .int .i64 x.fin.ins.c, .int .i64 x.fin.ins.imm] 40)) W1.heap.size 40 (finCells x.fin) := Row.new W1 _ _
      go_upto_region 3 with fail
      generalize W1.alloc (.cells #[.int .i64 x.fin.kind, .int .i64 x.fin.op, .int .i64 x.fin.a, .int .i64 x.fin.b, .int .i64 x.fin.to, .int .i64 x.fin.els, .int .i64 x.fin.ins.op, .int .i64 x.fin.ins.a, .int .i64 x.fin.ins.b, .int .i64 x.fin.ins.c, .int .i64 x.fin.ins.imm] 40) = W2 at *
      clear f0 f1 f2 f3 f4 f5 f6 f7 f8 f9 f10 f11 d1
      have he2 := he1.grown (grown_below b2) (he1.row.below b2) he1.len
      have hg2 := grown_trans hg1 (grown_below b2 (r := some g))
      have hgW : g ≠ W1.heap.size := by have := he1.row.lt; omega
      have d0 := he2.cf
      obtain ⟨y0, y1, y2, y3, y4, y5, y6, y7, y8, y9, y10⟩ := termRow r2
      by_cases hk2 : x.fin.kind = 2
      · have z1 : (x.fin.kind == 2) = true := by simp [hk2]
        obtain ⟨⟨ht0, ht1⟩, he0, he1'⟩ := And.intro (HLEAD.out.1 (.inr hk2)) (HLEAD.out.2 hk2)
        obtain ⟨nt, hnt⟩ := Int.eq_ofNat_of_zero_le ht0
        obtain ⟨ne, hne⟩ := Int.eq_ofNat_of_zero_le he0
        have e1 := HMK.out ne (.inr ⟨hk2, hne⟩)
        have e2 := HMK.out nt (.inl ⟨.inr hk2, hnt⟩)
        have E1 := Lib.hid e1
        have E2 := Lib.hid e2
        have hnel : ne < bs.length := by omega
        have hntl : nt < bs.length := by omega
        have hrec := HI.out (xs.set i true) ne W2 (by omega) hnel he2
        have HRec := Lib.hid hrec
        have HNT := Lib.hid hnt
        have HNE := Lib.hid hne
        rw [hne] at y5
        clear ht0 ht1 he0 he1' e1 e2 hrec hk2 hnt hne
        go_wp2_with fail
        refine HRec.out.mono ?_
        rintro e W3 ⟨rfl, zs, hz1, hz2, hz3⟩
        have hp1 := PartE.step HP.out E1.out hz1
        have he3 := he2.grown hz3 hz2 (by rw [hz1.len, List.length_set]; exact HX.out)
        have r3 := r2.grown hz3 (fun e => by injection e with e; exact hgW e)
        have hrec := HI.out zs nt W3 (HMONO.out zs hp1.len hp1.mono hp1.at_) hntl he3
        have HRec3 := Lib.hid hrec
        have HP1 := Lib.hid hp1
        have d3 := he3.cf
        clear y0 y1 y2 y3 y4 y5 y6 y7 y8 y9 y10 hrec d0 hz1 hp1
        obtain ⟨y0, y1, y2, y3, y4, y5, y6, y7, y8, y9, y10⟩ := termRow r3
        rw [HNT.out] at y4
        go_wp2_with fail
        refine HRec3.out.mono ?_
        rintro e W4 ⟨rfl, vs, hv1, hv2, hv3⟩
        have hd := (PartE.step HP1.out E2.out hv1).done (fun y hy => by
          rcases HEDGE.out y hy with ⟨-, e⟩ | ⟨-, e⟩
          · exact .inr (by rw [HNT.out] at e; omega)
          · exact .inl (.inr (by rw [HNE.out] at e; omega)))
        have HD := Lib.hid hd
        clear y0 y1 y2 y3 y4 y5 y6 y7 y8 y9 y10 hd d3 hv1
        go_wp2_with fail
        go_end0
        exact ⟨rfl, vs, HD.out, hv2, grown_trans hg2 (grown_trans hz3 hv3)⟩
      · have z1 : (x.fin.kind == 2) = false := ibeq hk2
        by_cases hk1 : x.fin.kind = 1
        · have z2 : (x.fin.kind == 1) = true := by simp [hk1]
          obtain ⟨ht0, ht1⟩ := HLEAD.out.1 (.inl hk1)
          obtain ⟨nt, hnt⟩ := Int.eq_ofNat_of_zero_le ht0
          have e2 := HMK.out nt (.inl ⟨.inl hk1, hnt⟩)
          have E2 := Lib.hid e2
          have hntl : nt < bs.length := by omega
          have hrec := HI.out (xs.set i true) nt W2 (by omega) hntl he2
          have HRec := Lib.hid hrec
          have HNT := Lib.hid hnt
          have HK2 := Lib.hid hk2
          rw [hnt] at y4
          clear ht0 ht1 e2 hrec hk2 hk1 hnt
          go_wp2_with fail
          refine HRec.out.mono ?_
          rintro e W4 ⟨rfl, vs, hv1, hv2, hv3⟩
          have hd := (PartE.step HP.out E2.out hv1).done (fun y hy => by
            rcases HEDGE.out y hy with ⟨-, e⟩ | ⟨h, e⟩
            · exact .inr (by rw [HNT.out] at e; omega)
            · exact absurd h HK2.out)
          have HD := Lib.hid hd
          clear y0 y1 y2 y3 y4 y5 y6 y7 y8 y9 y10 hd d0 hv1
          go_wp2_with fail
          go_end0
          exact ⟨rfl, vs, HD.out, hv2, grown_trans hg2 hv3⟩
        · have z2 : (x.fin.kind == 1) = false := ibeq hk1
          have hd := HP.out.done (fun y hy => by
            rcases HEDGE.out y hy with ⟨h, e⟩ | ⟨h, e⟩
            · exact absurd h (fun h => h.elim hk1 hk2)
            · exact absurd h hk2)
          have HD := Lib.hid hd
          clear hd hk1 hk2
          go_wp2_with fail
          go_end0
          exact ⟨rfl, _, HD.out, he2.row, hg2⟩
end Go.Proofs.Ytokkngfgppikkaa
