/- calls.Reach. -/
import Derived.Test.YtklhhdhokobbmaaCl
import Derived.Test.YtklhhdhokobbmaaLk
import Derived.Test.YtklhhdhokobbmaaPg
import Derived.Test.YtklhhdhokobbmaaCk
namespace Go.Proofs.Ytklhhdhokobbmaa
set_option linter.unusedVariables false
set_option linter.unusedSimpArgs false
open Go.RowKit

/-- Where the search stands: its three variables, the row of those seen. -/
structure Env (w0 w : World) (A : Option Addr) (c n s b f g : Nat) (xs : List Bool) : Prop where
  below : Below w0.heap.size w0 w
  hg : w0.heap.size ≤ g
  cs : w.cell? ⟨s, 0, none⟩ = some (.slice (some ⟨g, 0, none⟩) n n)
  cb : w.cell? ⟨b, 0, none⟩ = some (.slice A n c)
  cf : w.cell? ⟨f, 0, none⟩ = some (.func (.func 40) #[] #[.pointer (some ⟨s, 0, none⟩), .pointer (some ⟨b, 0, none⟩), .pointer (some ⟨f, 0, none⟩)])
  row : RowB w g xs
  ns : s ≠ g
  nb : b ≠ g
  nf : f ≠ g
  len : xs.length = n
theorem Env.grown {w0 w w' : World} {A : Option Addr} {c n s b f g : Nat} {xs ys : List Bool} (h : Env w0 w A c n s b f g xs) (hg : w.grownBy w' (some g)) (hr : RowB w' g ys) (hl : ys.length = n) : Env w0 w' A c n s b f g ys :=
  ⟨h.below.grown hg h.below.size (fun k hk => by injection hk with e; subst e; exact h.hg), h.hg, hg.cell h.cs (by simpa using h.ns), hg.cell h.cb (by simpa using h.nb), hg.cell h.cf (by simpa using h.nf), hr, h.ns, h.nb, h.nf, hl⟩

theorem reach1_seen (A : Option Addr) (c : Nat) (gs : List Graph) (w0 : World) (hok : GsOk gs) (s b f g : Nat) (xs : List Bool) (i : Nat) (w : World) (hon : On xs i) (hi : i < gs.length) (he : Env w0 w A c gs.length s b f g xs) :
    Calls Try.prog 40 #[.int .i64 i, .pointer (some ⟨s, 0, none⟩), .pointer (some ⟨b, 0, none⟩), .pointer (some ⟨f, 0, none⟩)] w fun e w' => e = .returned (.tuple #[]) ∧ ∃ ys, DoneR gs xs i ys ∧ RowB w' g ys ∧ w.grownBy w' (some g) := by
  have hd := DoneR.seen (gs := gs) hon
  have c0 := he.cs
  have c1 := he.row.cell hon
  have hrow := he.row
  have HD := Lib.hid hd
  have HR := Lib.hid hrow
  have hlen := hok.1
  clear he hd hon hok hrow
  go_enter Try.func40, Try.ntmps40
  go_wp2_with fail
  refine bodyPost_ret (results_none rfl _ _ _) rfl ?_
  exact ⟨rfl, xs, HD.out, HR.out, grown_refl _ _⟩

set_option maxHeartbeats 4000000 in
set_option maxRecDepth 100000 in
theorem reach1_calls (A : Option Addr) (c : Nat) (gs : List Graph) (w0 : World) (hC : kGraph.C w0 A gs) (hok : GsOk gs) (s b f g : Nat) : ∀ (m : Nat) (xs : List Bool) (i : Nat) (w : World), offs xs ≤ m → i < gs.length → Env w0 w A c gs.length s b f g xs →
    Calls Try.prog 40 #[.int .i64 i, .pointer (some ⟨s, 0, none⟩), .pointer (some ⟨b, 0, none⟩), .pointer (some ⟨f, 0, none⟩)] w fun e w' => e = .returned (.tuple #[]) ∧ ∃ ys, DoneR gs xs i ys ∧ RowB w' g ys ∧ w.grownBy w' (some g) := by
  intro m
  induction m with
  | zero =>
    intro xs i w hm hi he
    have hon : On xs i := by
      obtain ⟨x, hx⟩ := get_some xs i (by rw [he.len]; exact hi)
      cases x with
      | true => exact hx
      | false => have := offs_set hx; omega
    exact reach1_seen A c gs w0 hok s b f g xs i w hon hi he
  | succ m ih =>
    intro xs i w hm hi he
    obtain ⟨x, hx⟩ := get_some xs i (by rw [he.len]; exact hi)
    cases x with
    | true => exact reach1_seen A c gs w0 hok s b f g xs i w hx hi he
    | false =>
      have hoff := offs_set hx
      obtain ⟨gr, hgr⟩ := get_some gs i hi
      obtain ⟨hfew, hin⟩ := hok.2 gr (List.mem_of_getElem? hgr)
      have hlen := hok.1
      have c0 := he.cs
      have c1 := he.row.cell hx
      have c2 := he.row.frozen i
      obtain ⟨hr1, hg1⟩ := he.row.set i true
      have he1 := he.grown hg1 hr1 (by simp [he.len])
      have hp0 := PartR.start (gs := gs) (cs := ofList gr.blocks) (i := i) (xs := xs) (by rw [he.len]; exact hi)
      have hgl : w0.heap.size ≤ g := he.hg
      have HP := Lib.hid hp0
      have HI := Lib.hid ih
      have HG := Lib.hid hgr
      have HIn := Lib.hid hin
      have hxl := he.len
      have HX := Lib.hid hxl
      clear hp0 ih hin hx he hxl
      go_enter Try.func40, Try.ntmps40
      go_upto_region 2 with fail
      generalize w.setCell ⟨g, i, none⟩ (.bool true) = W1 at *
      clear c0 c1 c2 hr1
      have d1 := he1.cb
      obtain ⟨ad, A0, cc0, rfl, f0, f1, f2, f3, -, l0, m0, g0⟩ := Graph_at (Kd.C_mono he1.below hC) hgr
      have hl0 := len_le l0 m0
      clear hgr
      go_wp2_with fail
      refine (of_calls _ _ _ _ _ _ _ g0 (Nat.le_trans l0 m0) hfew).mono ?_
      rintro e W2 ⟨v2, rfl, ho2, hb2⟩
      obtain ⟨A2, c2, rfl, l2, m2, hC2⟩ := ho2.cells
      have hl2 := len_le l2 m2
      have he2 := he1.grown (grown_below hb2) (he1.row.below hb2) he1.len
      have hg2 := grown_trans hg1 (grown_below hb2 (r := some g))
      have hgW := he1.row.lt
      clear f0 f1 f2 f3 g0 d1 hb2
      go_wp2_with fail
      go_loopw [20] (fun v wr => ∃ k : Nat, ∃ ys : List Bool, k ≤ (ofList gr.blocks).length ∧ v = .int .i64 k ∧ PartR gs xs i (ofList gr.blocks) k ys ∧ RowB wr g ys ∧ W2.grownBy wr (some g)) (fun v _ => (ofList gr.blocks).length - (intOf v).toNat)
      case atStart => exact ⟨0, _, Nat.zero_le _, rfl, HP.out, he2.row, grown_refl _ _⟩
      case round =>
        obtain ⟨k, ys, hk, rfl, hp, hrow, hgr2⟩ := hrel
        have he3 := he2.grown hgr2 hrow (hp.len.trans HX.out)
        by_cases hlt : k < (ofList gr.blocks).length
        · obtain ⟨y, hy⟩ := get_some (ofList gr.blocks) k hlt
          obtain ⟨g', rfl, e1, e2, e3⟩ := hC2 k y hy
          have e1' := hgr2.cell e1 (by simp; omega)
          obtain ⟨hy0, hyn⟩ := HIn.out y (List.mem_of_getElem? hy)
          have hedge : CEdge gs i y.toNat := ⟨gr, HG.out, by rw [Int.toNat_of_nonneg hy0]; exact List.mem_of_getElem? hy⟩
          have hmono : offs ys ≤ m := by
            have h1 := offs_mono (xs := xs.set i true) (ys := ys) (by rw [hp.len]; simp) (fun x hx => by
              rcases (on_set (by rw [HX.out]; exact hi)).1 hx with rfl | h
              · exact hp.at_
              · exact hp.mono x h)
            omega
          have hrec := HI.out ys y.toNat wr hmono (by omega) he3
          rw [Int.toNat_of_nonneg hy0] at hrec
          have hs := fun zs => @PartR.step gs xs ys zs i k (ofList gr.blocks) y hp hy hy0 hedge
          have d0 := he3.cf
          have HRec := Lib.hid hrec
          have HS := Lib.hid hs
          clear hrec hs hedge hp hy he3 e1 e2 hmono
          go_wp2_with fail
          refine HRec.out.mono ?_
          rintro e W3 ⟨rfl, zs, hz1, hz2, hz3⟩
          go_wp2_with fail
          exact ⟨⟨k + 1, zs, by omega, by go_num, HS.out zs hz1, hz2, grown_trans hgr2 hz3⟩, by simp [intOf]; omega⟩
        · obtain rfl : k = (ofList gr.blocks).length := by omega
          have hd := PartR.done HG.out hp
          have HD := Lib.hid hd
          clear hd hp he3
          go_wp2_with fail
          go_end0
          exact ⟨rfl, ys, HD.out, hrow, grown_trans hg2 hgr2⟩
end Go.Proofs.Ytklhhdhokobbmaa
