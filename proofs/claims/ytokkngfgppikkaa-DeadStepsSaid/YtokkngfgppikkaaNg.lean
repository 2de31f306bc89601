/- Layer 22 (dead): Trim. Printed by genNg.py of this repository. -/
import Derived.Test.YtokkngfgppikkaaNf
import Derived.Test.YtokkngfgppikkaaCp
namespace Go.Proofs.Ytokkngfgppikkaa
set_option linter.unusedVariables false
set_option linter.unusedSimpArgs false
open Go.RowKit

/-- Where each block goes. -/
def atL (seen : List Bool) (k : Nat) : List Int := (List.range seen.length).map (fun i => if i < k then (atN seen i : Int) else 0)
theorem atL_len (seen : List Bool) (k : Nat) : (atL seen k).length = seen.length := by simp [atL]
theorem atL_zero (seen : List Bool) : List.replicate seen.length (0 : Int) = atL seen 0 := by
  apply List.ext_getElem?
  intro i
  unfold atL
  rw [List.getElem?_replicate, List.getElem?_map]
  by_cases hi : i < seen.length
  · rw [List.getElem?_range hi, if_pos hi]; simp
  · rw [List.getElem?_eq_none (by simp; omega), if_neg hi]; rfl
theorem atL_succ {seen : List Bool} {k : Nat} (hk : k < seen.length) : (atL seen k).set k (atN seen k : Int) = atL seen (k + 1) := by
  apply List.ext_getElem?
  intro i
  rw [List.getElem?_set]
  unfold atL
  rw [List.getElem?_map, List.getElem?_map]
  by_cases hi : i < seen.length
  · rw [List.getElem?_range hi]
    by_cases e : k = i
    · subst e; rw [if_pos rfl, if_pos (by simpa using hk)]; simp
    · rw [if_neg e]
      simp only [Option.map_some]
      congr 1
      by_cases h2 : i < k
      · rw [if_pos h2, if_pos (by omega)]
      · rw [if_neg h2, if_neg (by omega)]
  · have h1 : (List.range seen.length)[i]? = none := List.getElem?_eq_none (by simp; omega)
    rw [h1]
    by_cases e : k = i
    · subst e; exact absurd hk hi
    · rw [if_neg e]; rfl
theorem atL_all {seen : List Bool} {i : Nat} (hi : i < seen.length) : (atL seen seen.length)[i]? = some (atN seen i : Int) := by
  unfold atL
  rw [List.getElem?_map, List.getElem?_range hi]
  simp [hi]
theorem atL_all' {seen : List Bool} {n i : Nat} (h : seen.length = n) (hi : i < n) : (atL seen n)[i]? = some (atN seen i : Int) := by
  subst h
  exact atL_all hi
theorem hri_lt {w : World} {g : Nat} {xs : List Int} (h : RowI w g xs) : g < w.heap.size := h.lt
/-- The parts of a slice of the call's own, as long as they stay. -/
theorem OwnF.parts {α : Type} {k : Od α} {T : TypeId} {w : World} {v : Value} {xs : List α} {F : Nat → Prop} (h : OwnF k T w v xs F) : ∃ Fs : Nat → Nat → Prop, (∀ (i : Nat) (x : α), xs[i]? = some x → ∀ b, Fs i b → F b) ∧ (∀ i j b, i < xs.length → j < xs.length → i ≠ j → Fs i b → ¬ Fs j b) ∧
    ∀ w' : World, (∀ b, F b → w'.heap[b]? = w.heap[b]?) → ∀ (i : Nat) (x : α), xs[i]? = some x → ∃ g cap cs, v = .slice (some ⟨g, 0, none⟩) xs.length cap ∧ (∀ (j : Nat) (u : Value), cs[j]? = some u → w'.cell? ⟨g, i * k.kd.size + j, none⟩ = some u) ∧ k.O w' x cs (Fs i) := by
  obtain ⟨css, Fs, h1, h2, h3, h4, h5, h6⟩ := h.ex
  refine ⟨Fs, fun i x hx b hb => (h6 b).2 (.inr ⟨i, (List.getElem?_eq_some_iff.1 hx).1, hb⟩), h4, fun w' hk i x hx => ?_⟩
  have hi := (List.getElem?_eq_some_iff.1 hx).1
  obtain ⟨cs, hcs⟩ := get_some css i (by rw [h1]; exact hi)
  have hr := ownsRow_same h3 (w' := w') (fun g hg => hk g ((h6 g).2 (.inl hg)))
  rcases h3.2 with ⟨rfl, h7⟩ | ⟨g, cap, cur, rfl, -⟩
  · omega
  · refine ⟨g, cap, cs, rfl, fun j u hu => ?_, k.keep (h2 i x cs hx hcs) (fun b hb => hk b ((h6 b).2 (.inr ⟨i, hi, hb⟩)))⟩
    have := hr.cells rfl _ u (flatten_get (all_len h1 h2) hcs hu)
    rwa [show (⟨g, 0, none⟩ : Addr).add (i * k.kd.size + j) = ⟨g, i * k.kd.size + j, none⟩ from by
      unfold Addr.add
      split
      · rename_i e; rw [e]
      · simp] at this
theorem OwnF.rowT {α : Type} {k : Od α} {T : TypeId} {w : World} {v : Value} {xs : List α} {F : Nat → Prop} (h : OwnF k T w v xs F) {q : Nat} (e : v.ownBlock = some q) : ∃ cur fz, w.heap[q]? = some (.cells cur T fz) := by
  obtain ⟨css, Fs, h1, h2, h3, h4, h5, h6⟩ := h.ex
  rcases h3.2 with ⟨rfl, h7⟩ | ⟨g, cap, cur, rfl, h7, h8, -⟩
  · cases e
  · injection e with e
    subst e
    exact ⟨_, _, h8⟩
theorem types_apart : 42 ≠ 44 := by decide
/-- A row of blocks is no row of instructions. -/
theorem notOpRow {w : World} {v v0 : Value} {bs : List Block} {os : List Op} {F G : Nat → Prop} (h : OwnF oBlock 42 w v bs F) {q : Nat} (e : v.ownBlock = some q) (oo : OwnF oOp 44 w v0 os G) : ¬ G q := by
  intro hG
  obtain ⟨css, Fs, h1, h2, h3, h4, h5, h6⟩ := oo.ex
  have hq : v0.ownBlock = some q := by
    rcases (h6 q).1 hG with e | ⟨i, hi, hf⟩
    · exact e
    · obtain ⟨x, hx⟩ := get_some os i hi
      obtain ⟨cs, hcs⟩ := get_some css i (by rw [h1]; exact hi)
      exact absurd hf ((h2 i x cs hx hcs).1 q)
  obtain ⟨cur, fz, e1⟩ := h.rowT e
  obtain ⟨cur', fz', e2⟩ := oo.rowT hq
  rw [e1] at e2
  injection e2 with e2
  injection e2 with _ e3
  exact types_apart e3
theorem atN_small {seen : List Bool} (h : seen.length ≤ 1000) (i : Nat) : atN seen i ≤ 1000 := by
  have h1 := atN_le_all seen i
  have h2 := List.count_le_length (a := true) (l := seen)
  omega
set_option maxRecDepth 100000 in
theorem graph_field3 (nm : ByteArray) (kp lf : Bool) (A : Option Addr) (n c : Nat) (w : World) : (Instr.field 33 (.agg #[.string nm, .bool kp, .bool lf, .slice A n c]) 3).run Try.prog w = .ok (.slice A n c) w := by kernel_rfl
/-- A trimmed graph of the call's own. -/
def TrimmedG (nm : ByteArray) (kp lf : Bool) (bs : List Block) (w : World) (e : Ending) (w' : World) : Prop :=
  ∃ seen, IsReachE (TEdge bs) bs.length 0 seen ∧ CopiedG nm kp lf (trimBs seen bs) w e w'

set_option maxHeartbeats 8000000 in
set_option maxRecDepth 100000 in
theorem trim_calls (nm : ByteArray) (kp lf : Bool) (A : Option Addr) (c : Nat) (bs : List Block) (w : World) (hC : kBlock.C w A bs) (hl : bs.length ≤ 1000) (h300 : ∀ b ∈ bs, b.ops.length ≤ 300) (hld : Leads bs) (hpos : 0 < bs.length) : Calls Try.prog 33 #[.agg #[.string nm, .bool kp, .bool lf, .slice A bs.length c]] w
    (TrimmedG nm kp lf bs w) := by
  have hlo : bs.length ≤ 9223372036854775807 := by omega
  have HLD := Lib.hid hld
  have H3 := Lib.hid h300
  have hmf : ∀ (fn : Fn) (first cap : Array Value) (w : World), (Instr.makeFunc fn first cap).run Try.prog w = .ok (.func fn first cap) w := fun _ _ _ _ => rfl
  clear hld h300
  obtain ⟨W, hW, b0, hz0, r0, z0⟩ := two_rows w #[.string nm, .bool kp, .bool lf, .slice A bs.length c] #[.string ⟨#[]⟩, .bool false, .bool false, .slice none 0 0] 33 33
  go_enter Try.func33, Try.ntmps33
  go_upto_region 1 with fail
  rw [← hW]
  have HZ0 := Lib.hid hz0
  have HW := Lib.hid hW
  have ra : Row W w.heap.size 33 (graphCells (.slice A bs.length c) ⟨nm, kp, lf, bs⟩) := r0
  obtain ⟨x0, x1, x2, x3⟩ := ra.graph
  clear hz0 hW r0
  obtain ⟨W2, hmk, hrow, hb1, hz1⟩ := make_bools bs.length (by omega) W
  have HZ1 := Lib.hid hz1
  have hbb : Below W.heap.size W (W2.alloc (.cells #[.slice (some ⟨W.heap.size, 0, none⟩) bs.length bs.length] 63)) := hb1.alloc hb1.size _
  clear hz1
  go_upto_region 3 with fail
  have hb2 : Below W.heap.size W ((W2.alloc (.cells #[.slice (some ⟨W.heap.size, 0, none⟩) bs.length bs.length] 63)).alloc (.cells #[.nilFunc] 79)) := hbb.alloc hbb.size _
  have hr2 : RowB ((W2.alloc (.cells #[.slice (some ⟨W.heap.size, 0, none⟩) bs.length bs.length] 63)).alloc (.cells #[.nilFunc] 79)) W.heap.size (List.replicate bs.length false) := (hrow.alloc _).alloc _
  have cs : ((W2.alloc (.cells #[.slice (some ⟨W.heap.size, 0, none⟩) bs.length bs.length] 63)).alloc (.cells #[.nilFunc] 79)).cell? ⟨W2.heap.size, 0, none⟩ = some (.slice (some ⟨W.heap.size, 0, none⟩) bs.length bs.length) := cell_past (by simp)
  have cf : ((W2.alloc (.cells #[.slice (some ⟨W.heap.size, 0, none⟩) bs.length bs.length] 63)).alloc (.cells #[.nilFunc] 79)).cell? ⟨W2.heap.size + 1, 0, none⟩ = some .nilFunc := by
    rw [show W2.heap.size + 1 = (W2.alloc (.cells #[.slice (some ⟨W.heap.size, 0, none⟩) bs.length bs.length] 63)).heap.size from by simp]; simp
  have ff : ((W2.alloc (.cells #[.slice (some ⟨W.heap.size, 0, none⟩) bs.length bs.length] 63)).alloc (.cells #[.nilFunc] 79)).frozen? ⟨W2.heap.size + 1, 0, none⟩ = false := by
    rw [show W2.heap.size + 1 = (W2.alloc (.cells #[.slice (some ⟨W.heap.size, 0, none⟩) bs.length bs.length] 63)).heap.size from by simp]; simp
  have hsz : ((W2.alloc (.cells #[.slice (some ⟨W.heap.size, 0, none⟩) bs.length bs.length] 63)).alloc (.cells #[.nilFunc] 79)).heap.size = W2.heap.size + 1 + 1 := by simp
  have HSZ := Lib.hid hsz
  clear hsz
  generalize (W2.alloc (.cells #[.slice (some ⟨W.heap.size, 0, none⟩) bs.length bs.length] 63)).alloc (.cells #[.nilFunc] 79) = W3 at *
  clear x0 x1 x2 x3 hmk
  go_upto_region 4 with fail
  have hs2 : W2.heap.size = W.heap.size + 1 := HZ1.out
  have hs0 : W.heap.size = w.heap.size + 1 + 1 := HZ0.out
  have hgrow : W3.grownBy (W3.setCell ⟨W2.heap.size + 1, 0, none⟩ (.func (.func 67) #[] #[.pointer (some ⟨W2.heap.size, 0, none⟩), .pointer (some ⟨w.heap.size, 0, none⟩), .pointer (some ⟨W2.heap.size + 1, 0, none⟩)])) (some (W2.heap.size + 1)) := grown_set W3 _ _ _
  have cf4 : (W3.setCell ⟨W2.heap.size + 1, 0, none⟩ (.func (.func 67) #[] #[.pointer (some ⟨W2.heap.size, 0, none⟩), .pointer (some ⟨w.heap.size, 0, none⟩), .pointer (some ⟨W2.heap.size + 1, 0, none⟩)])).cell? ⟨W2.heap.size + 1, 0, none⟩ = some (.func (.func 67) #[] #[.pointer (some ⟨W2.heap.size, 0, none⟩), .pointer (some ⟨w.heap.size, 0, none⟩), .pointer (some ⟨W2.heap.size + 1, 0, none⟩)]) := World.cell?_setCell_same (u := .nilFunc) _ _ _ cf
  have hb4 : Below W.heap.size W (W3.setCell ⟨W2.heap.size + 1, 0, none⟩ (.func (.func 67) #[] #[.pointer (some ⟨W2.heap.size, 0, none⟩), .pointer (some ⟨w.heap.size, 0, none⟩), .pointer (some ⟨W2.heap.size + 1, 0, none⟩)])) := hb2.grown hgrow hb2.size (fun k hk => by injection hk with e; omega)
  have hr4 := hr2.apart hgrow (by simp; omega)
  have cs4 := hgrow.cell cs (by simp)
  have ra4 := ra.below hb4
  have rz4 := z0.below hb4
  have cb4 := ra4.cell (j := 3) rfl
  have hsz4 : (W3.setCell ⟨W2.heap.size + 1, 0, none⟩ (.func (.func 67) #[] #[.pointer (some ⟨W2.heap.size, 0, none⟩), .pointer (some ⟨w.heap.size, 0, none⟩), .pointer (some ⟨W2.heap.size + 1, 0, none⟩)])).heap.size = W2.heap.size + 1 + 1 := by simp; exact HSZ.out
  have HS4 := Lib.hid hsz4
  generalize W3.setCell ⟨W2.heap.size + 1, 0, none⟩ (.func (.func 67) #[] #[.pointer (some ⟨W2.heap.size, 0, none⟩), .pointer (some ⟨w.heap.size, 0, none⟩), .pointer (some ⟨W2.heap.size + 1, 0, none⟩)]) = W4 at *
  have henv : EnvT W W4 A c bs.length W2.heap.size w.heap.size (W2.heap.size + 1) W.heap.size (List.replicate bs.length false) := ⟨hb4, Nat.le_refl _, cs4, cb4, cf4, hr4, by omega, by omega, by omega, by simp⟩
  have hrec := trim1_calls A c bs W (Kd.C_mono b0 hC) hl HLD.out W2.heap.size w.heap.size (W2.heap.size + 1) W.heap.size _ _ 0 W4 (Nat.le_refl _) hpos henv
  have HRec := Lib.hid hrec
  have HE := Lib.hid henv
  have hGS : w.heap.size + 1 + 1 ≤ W2.heap.size := by omega
  have hGW : w.heap.size + 1 + 1 ≤ W.heap.size := by omega
  have hGN : W2.heap.size ≠ W.heap.size := by omega
  have RA4 := Lib.hid ra4
  have RZ4 := Lib.hid rz4
  generalize hSC : W2.heap.size = SC at *
  clear hrec henv hb2 hr2 cs cf ff cs4 cb4 hr4 hgrow hs2 hs0 hsz4 hrow hb1 hbb ra z0 ra4 rz4
  go_wp2_with fail
  refine HRec.out.mono ?_
  rintro e W5 ⟨rfl, seen, hd, hrow5, hg5⟩
  have hsl : seen.length = bs.length := by rw [hd.len]; simp
  have he5 := HE.out.grown hg5 hrow5 hsl
  have c5 := he5.cs
  have ra5 := RA4.out.grown hg5 (fun e => by injection e with e; omega)
  have rz5 := RZ4.out.grown hg5 (fun e => by injection e with e; omega)
  have t5 := b0.trans (he5.below.mono b0.size)
  have hW5 : SC < W5.heap.size := World.lt_of_cell c5
  have hreach := hd.isReach
  have HREACH := Lib.hid hreach
  have HSL := Lib.hid hsl
  have R5 := Lib.hid hrow5
  obtain ⟨W6, hmk, hri, hb6, hz6⟩ := make_ints bs.length (by omega) W5
  clear hd hreach hg5 hz6 cf4 he5
  go_upto_region 6 with fail
  have c6 := Sub.of_below hb6 _ _ c5
  have ra6 := ra5.below hb6
  have rz6 := rz5.below hb6
  have row6 := R5.out.below hb6
  have t6 := t5.trans (hb6.mono t5.size)
  rw [show (List.replicate bs.length (0 : Int)) = atL seen 0 from by rw [← HSL.out]; exact atL_zero seen] at hri
  have hGI : SC < W5.heap.size ∧ w.heap.size + 1 + 1 ≤ W5.heap.size ∧ W5.heap.size ≠ W.heap.size := ⟨hW5, by omega, by have := R5.out.lt; omega⟩
  generalize W5.heap.size = GI at *
  have RI := Lib.hid hri
  have RA6 := Lib.hid ra6
  have RZ6 := Lib.hid rz6
  have RB6 := Lib.hid row6
  have C6 := Lib.hid c6
  have HT6 := Lib.hid t6
  clear hri ra6 rz6 row6 t6 hmk c5 ra5 rz5 hrow5 t5 hb6
  go_wp2_with fail
  go_loopw [24, 6] (fun i v wr => ∃ (k : Nat), k ≤ bs.length ∧ i = .int .i64 k ∧ v = .int .i64 (atN seen k : Int) ∧ RowI wr GI (atL seen k) ∧ W6.grownBy wr (some GI)) (fun i _ _ => bs.length - (intOf i).toNat)
  case atStart => exact ⟨0, Nat.zero_le _, rfl, rfl, RI.out, grown_refl _ _⟩
  case round =>
    obtain ⟨k, hk, rfl, rfl, hri, hgr⟩ := hrel
    by_cases hlt : k < bs.length
    · obtain ⟨s, hs⟩ := get_some seen k (by rw [HSL.out]; exact hlt)
      have hrowb := RB6.out.apart hgr (by simp; omega)
      have f0 := hrowb.cell hs
      have hsucc := atN_succ hs
      have hak := atN_le seen k
      obtain ⟨z, hz⟩ := get_some (atL seen k) k (by rw [atL_len, HSL.out]; exact hlt)
      have f1 := hri.cell hz
      have f2 := hri.frozen k
      obtain ⟨s1, s2⟩ := hri.set k (atN seen k : Int)
      rw [atL_succ (by rw [HSL.out]; exact hlt)] at s1
      have S1 := Lib.hid s1
      have S2 := Lib.hid s2
      have HS := Lib.hid hsucc
      clear s1 s2 hri hrowb hs hz hsucc
      cases s with
      | true =>
        have hs1 : atN seen (k + 1) = atN seen k + 1 := HS.out
        clear HS
        go_wp2_with fail
        exact ⟨⟨k + 1, by omega, by go_num, by rw [hs1]; go_num, S1.out, grown_trans hgr S2.out⟩, by simp [intOf]; omega⟩
      | false =>
        go_wp2_with fail
        exact ⟨⟨k + 1, by omega, by go_num, by rw [HS.out]; rfl, S1.out, grown_trans hgr S2.out⟩, by simp [intOf]; omega⟩
    · obtain rfl : k = bs.length := by omega
      have rb7 := RB6.out.apart hgr (by simp; omega)
      have c7 := hgr.cell C6.out (by simp; omega)
      have ra7 := RA6.out.grown hgr (fun e => by injection e with e; omega)
      have rz7 := RZ6.out.grown hgr (fun e => by injection e with e; omega)
      have t7 := HT6.out.grown hgr HT6.out.size (fun j hj => by injection hj with hj; omega)
      have hsz7 := hgr.size
      have HRI := Lib.hid hri
      have RB7 := Lib.hid rb7
      have hwr6 : GI < wr.heap.size := hri.lt
      clear RA6 RZ6 RB6 C6 HT6 hri rb7
      obtain ⟨x0, x1, x2, x3⟩ := ra7.graph
      have b8 := below_alloc' wr (.cells #[.string nm, .bool kp, .bool lf, .slice none 0 0] 33)
      have r8 : Row (wr.alloc (.cells #[.string nm, .bool kp, .bool lf, .slice none 0 0] 33)) wr.heap.size 33 (graphCells (.slice none 0 0) ⟨nm, kp, lf, bs⟩) := Row.new wr _ _
      go_upto_region 16 with fail
      generalize wr.alloc (.cells #[.string nm, .bool kp, .bool lf, .slice none 0 0] 33) = W8 at *
      clear x0 x1 x2 x3
      have ra8 := ra7.below b8
      have rz8 := rz7.below b8
      have c8 := Sub.of_below b8 _ _ c7
      have rb8 := RB7.out.below b8
      have ri8 := HRI.out.below b8
      have t8 := t7.trans (b8.mono t7.size)
      have hG8 : GI < wr.heap.size ∧ SC < wr.heap.size ∧ W.heap.size < wr.heap.size := ⟨hwr6, World.lt_of_cell c7, RB7.out.lt⟩
      generalize wr.heap.size = G8 at *
      obtain ⟨x0, x1, x2, x3⟩ := ra8.graph
      go_wp2_with fail
      refine (copied_calls _ _ _ _ _ bs _ (Kd.C_mono t8 hC) hl H3.out).mono ?_
      rintro e w9 ⟨A9, c9, F9, rfl, own9, hF9, hb9⟩
      have ra9 := ra8.below hb9
      have rz9 := rz8.below hb9
      have c9' := Sub.of_below hb9 _ _ c8
      have rb9 := rb8.below hb9
      have ri9 := ri8.below hb9
      have r9 := r8.below hb9
      have t9 := t8.trans (hb9.mono t8.size)
      have hF9' : ∀ x, F9 x → G8 < x := fun x hx => by have := hF9 x hx; have := r8.lt; omega
      obtain ⟨Fs, hFs, hdis, hpart⟩ := own9.parts
      have RA9 := Lib.hid ra9
      have RZ9 := Lib.hid rz9
      have RB9 := Lib.hid rb9
      have RI9 := Lib.hid ri9
      have C9 := Lib.hid c9'
      have R9 := Lib.hid r9
      have HT9 := Lib.hid t9
      have hlt9 := own9.lt
      have HLT9 := Lib.hid hlt9
      have HFS := Lib.hid hFs
      have HDIS := Lib.hid hdis
      have HPART := Lib.hid hpart
      have hsz9 : G8 < w9.heap.size := by have := r9.lt; exact this
      clear own9 ra9 rz9 rb9 ri9 r9 t9 c9' ra8 rz8 c8 rb8 ri8 t8 r8 x0 x1 x2 x3 hF9 hb9 ra7 rz7 c7 t7 RB7 HRI hgr b8 hFs hdis hpart hlt9
      have hfd := graph_field3 nm kp lf A9 bs.length c9
      go_wp2_with fail
      go_loopw [43] (fun i wr => ∃ (k : Nat) (v : Value) (F : Nat → Prop), k ≤ bs.length ∧ i = .int .i64 k ∧ OwnF oBlock 42 wr v (trimK seen bs k) F ∧ (∀ b, F b → w9.heap.size ≤ b ∨ ∃ i, i < k ∧ Fs i b) ∧ Row wr G8 33 (graphCells v ⟨nm, kp, lf, bs⟩) ∧ w9.grownBy wr (some G8)) (fun i _ => bs.length - (intOf i).toNat)
      case atStart => exact ⟨0, _, _, Nat.zero_le _, rfl, OwnF.nil _ _ _, fun _ h => h.elim, R9.out, grown_refl _ _⟩
      case round =>
        obtain ⟨k, v, F, hk, rfl, ho, hF, rg, hgr⟩ := hrel
        have hsr := hgr.size
        have t10 := HT9.out.grown hgr HT9.out.size (fun j hj => by injection hj with hj; omega)
        have rz := RZ9.out.grown hgr (fun e => by injection e with e; omega)
        by_cases hlt : k < bs.length
        · obtain ⟨b, hb⟩ := get_some bs k hlt
          have hbm := List.mem_of_getElem? hb
          have hlead := HLD.out b hbm
          have hfk := HFS.out k b hb
          have hkeep : ∀ b, F9 b → wr.heap[b]? = w9.heap[b]? := fun b hb => hgr.block b (HLT9.out b hb) (fun e => by injection e with e; have := hF9' b hb; omega)
          obtain ⟨g9, q9, cs9, e9, hcells, hO⟩ := HPART.out wr hkeep k b hb
          injection e9 with e91 e92 e93
          subst e91 e93
          obtain ⟨v0, rfl, hwf, oo⟩ := hO
          obtain ⟨A0, c0, rfl, l0, m0, hC0⟩ := oo.read
          have hl0 := len_le l0 m0
          have hrow : ∀ q, v.ownBlock = some q → w9.heap.size ≤ q := fun q hq => by
            rcases hF q (ho.row hq) with h | ⟨i, hi, h⟩
            · exact h
            · exfalso
              obtain ⟨bi, hbi⟩ := get_some bs i (by omega)
              obtain ⟨_, _, _, _, _, hOi⟩ := HPART.out wr hkeep i bi hbi
              obtain ⟨vi, _, _, ooi⟩ := hOi
              exact notOpRow ho hq ooi h
          have hdisj : ∀ x, F x → ¬ Fs k x := fun x hx hfx => by
            rcases hF x hx with h | ⟨i, hi, h⟩
            · have := HLT9.out x (hfk x hfx); omega
            · exact HDIS.out i k x (by omega) hlt (by omega) h hfx
          obtain ⟨s, hs⟩ := get_some seen k (by rw [HSL.out]; exact hlt)
          have hon := trimK_on (seen := seen) hb
          have hoff := trimK_off (seen := seen) (bs := bs) (k := k)
          have rb := RB9.out.apart hgr (by simp; omega)
          have ri := RI9.out.apart hgr (by simp; omega)
          have c3 := hgr.cell C9.out (by simp; omega)
          have f0 : wr.cell? ⟨g9, k * 12, none⟩ = some (.slice A0 b.ops.length c0) := hcells 0 _ rfl
          have f1 : wr.cell? ⟨g9, k * 12 + 1, none⟩ = some (.int .i64 b.fin.kind) := hcells 1 _ rfl
          have f2 : wr.cell? ⟨g9, k * 12 + 2, none⟩ = some (.int .i64 b.fin.op) := hcells 2 _ rfl
          have f3 : wr.cell? ⟨g9, k * 12 + 3, none⟩ = some (.int .i64 b.fin.a) := hcells 3 _ rfl
          have f4 : wr.cell? ⟨g9, k * 12 + 4, none⟩ = some (.int .i64 b.fin.b) := hcells 4 _ rfl
          have f5 : wr.cell? ⟨g9, k * 12 + 5, none⟩ = some (.int .i64 b.fin.to) := hcells 5 _ rfl
          have f6 : wr.cell? ⟨g9, k * 12 + 6, none⟩ = some (.int .i64 b.fin.els) := hcells 6 _ rfl
          have f7 : wr.cell? ⟨g9, k * 12 + 7, none⟩ = some (.int .i64 b.fin.ins.op) := hcells 7 _ rfl
          have f8 : wr.cell? ⟨g9, k * 12 + 8, none⟩ = some (.int .i64 b.fin.ins.a) := hcells 8 _ rfl
          have f9 : wr.cell? ⟨g9, k * 12 + 9, none⟩ = some (.int .i64 b.fin.ins.b) := hcells 9 _ rfl
          have f10 : wr.cell? ⟨g9, k * 12 + 10, none⟩ = some (.int .i64 b.fin.ins.c) := hcells 10 _ rfl
          have f11 : wr.cell? ⟨g9, k * 12 + 11, none⟩ = some (.int .i64 b.fin.ins.imm) := hcells 11 _ rfl
          have HO := Lib.hid ho
          have HF := Lib.hid hF
          have HROW := Lib.hid hrow
          have HDJ := Lib.hid hdisj
          have HWF := Lib.hid hwf
          have OO := Lib.hid oo
          have HLEAD := Lib.hid hlead
          have HFK := Lib.hid hfk
          have c0s := rb.cell hs
          clear ho hF hrow hdisj hwf oo hlead hfk hb hbm hkeep hcells hC0 e92
          have b5 := below_alloc' wr (.cells #[.slice A0 b.ops.length c0, .int .i64 b.fin.kind, .int .i64 b.fin.op, .int .i64 b.fin.a, .int .i64 b.fin.b, .int .i64 b.fin.to, .int .i64 b.fin.els, .int .i64 b.fin.ins.op, .int .i64 b.fin.ins.a, .int .i64 b.fin.ins.b, .int .i64 b.fin.ins.c, .int .i64 b.fin.ins.imm] 42)
          have r5 : Row (wr.alloc (.cells #[.slice A0 b.ops.length c0, .int .i64 b.fin.kind, .int .i64 b.fin.op, .int .i64 b.fin.a, .int .i64 b.fin.b, .int .i64 b.fin.to, .int .i64 b.fin.els, .int .i64 b.fin.ins.op, .int .i64 b.fin.ins.a, .int .i64 b.fin.ins.b, .int .i64 b.fin.ins.c, .int .i64 b.fin.ins.imm] 42)) wr.heap.size 42 (blockCells (.slice A0 b.ops.length c0) b) := Row.new wr _ _
          go_upto_region 19 with fail
          generalize wr.alloc (.cells #[.slice A0 b.ops.length c0, .int .i64 b.fin.kind, .int .i64 b.fin.op, .int .i64 b.fin.a, .int .i64 b.fin.b, .int .i64 b.fin.to, .int .i64 b.fin.els, .int .i64 b.fin.ins.op, .int .i64 b.fin.ins.a, .int .i64 b.fin.ins.b, .int .i64 b.fin.ins.c, .int .i64 b.fin.ins.imm] 42) = W5 at *
          clear f0 f1 f2 f3 f4 f5 f6 f7 f8 f9 f10 f11
          have c3' := Sub.of_below b5 _ _ c3
          have c0' := Sub.of_below b5 _ _ c0s
          clear c3 c0s
          cases s with
          | false =>
            have ho5 := HO.out.below b5
            rw [← hoff hs] at ho5
            have HO5 := Lib.hid ho5
            clear ho5 hs hon hoff
            go_wp2_with fail
            exact ⟨⟨k + 1, v, F, by omega, by go_num, HO5.out, fun x hx => (HF.out x hx).imp id (fun ⟨i, hi, h⟩ => ⟨i, by omega, h⟩), rg.below b5, grown_trans hgr (grown_below b5)⟩, by simp [intOf]; omega⟩
          | true =>
            have htk := hon hs
            have HTK := Lib.hid htk
            have hlenk : (trimK seen bs k).length ≤ k := by rw [trimK_len HSL.out k hk]; exact atN_le _ _
            have hlenk1 : (trimK seen bs (k + 1)).length ≤ bs.length := Nat.le_trans (by rw [trimK_len HSL.out (k + 1) hlt]; exact atN_le _ _) hlt
            clear hon hoff hs htk
            have rg5 := rg.below b5
            have ri5 := ri.below b5
            have G5 : wr.grownBy W5 none := grown_below b5
            clear rg ri rb
            by_cases hk2 : b.fin.kind = 2
            · have z1 : (b.fin.kind == 2) = true := by simp [hk2]
              obtain ⟨⟨ht0, ht1⟩, he0, he1⟩ := And.intro (HLEAD.out.1 (.inr hk2)) (HLEAD.out.2 hk2)
              obtain ⟨nt, hnt⟩ := Int.eq_ofNat_of_zero_le ht0
              obtain ⟨ne, hne⟩ := Int.eq_ofNat_of_zero_le he0
              have hntl : nt < bs.length := by omega
              have hnel : ne < bs.length := by omega
              have hB : trimB seen b = ⟨b.ops, b.fin.lead (atN seen nt : Int) (atN seen ne : Int)⟩ := by
                unfold trimB trimT
                rw [if_pos (.inr hk2), if_pos hk2, hnt, hne, Int.toNat_natCast, Int.toNat_natCast]
              have HB := Lib.hid hB
              have h1 := atN_small (seen := seen) (by rw [HSL.out]; exact hl) nt
              have h2 := atN_small (seen := seen) (by rw [HSL.out]; exact hl) ne
              have hw := lead_wf HWF.out (x := atN seen nt) (y := atN seen ne) (by omega) (by omega)
              have HW := Lib.hid hw
              have k1 := ri5.cell (atL_all' HSL.out hnel)
              have HNT := Lib.hid hnt
              obtain ⟨y0, y1, y2, y3, y4, y5, y6, y7, y8, y9, y10, y11⟩ := r5.block
              rw [hne] at y6
              have z6 := r5.frozen 6
              have s6 : Row (W5.setCell ⟨wr.heap.size, 6, none⟩ (.int .i64 (atN seen ne : Int))) wr.heap.size 42 (blockCells (.slice A0 b.ops.length c0) ⟨b.ops, b.fin.lead b.fin.to (atN seen ne : Int)⟩) := r5.set 6 _
              have g6 := grown_set W5 wr.heap.size 6 (.int .i64 (atN seen ne : Int))
              clear ht0 ht1 he0 he1 hB hw hk2 hnt hne h1 h2
              go_upto_region 24 with fail
              have b6 : Below wr.heap.size wr (W5.setCell ⟨wr.heap.size, 6, none⟩ (.int .i64 (atN seen ne : Int))) := b5.grown g6 b5.size (fun j hj => by injection hj with hj; omega)
              have ri6 := ri5.apart g6 (by simp; have := hri_lt (RI9.out.apart hgr (by simp; omega)); omega)
              have rg6 := rg5.grown g6 (fun e => by injection e with e; omega)
              generalize W5.setCell ⟨wr.heap.size, 6, none⟩ (.int .i64 (atN seen ne : Int)) = W6x at *
              have k2 := ri6.cell (atL_all' HSL.out hntl)
              clear y0 y1 y2 y3 y4 y5 y6 y7 y8 y9 y10 y11 z6 k1 r5 g6 ri5 rg5 c3' c0'
              obtain ⟨y0, y1, y2, y3, y4, y5, y6, y7, y8, y9, y10, y11⟩ := s6.block
              replace y5 : W6x.cell? ⟨wr.heap.size, 5, none⟩ = some (.int .i64 (nt : Int)) := by rw [← HNT.out]; exact y5
              have z5 := s6.frozen 5
              have s7 : Row (W6x.setCell ⟨wr.heap.size, 5, none⟩ (.int .i64 (atN seen nt : Int))) wr.heap.size 42 (blockCells (.slice A0 b.ops.length c0) ⟨b.ops, b.fin.lead (atN seen nt : Int) (atN seen ne : Int)⟩) := s6.set 5 _
              have g7 := grown_set W6x wr.heap.size 5 (.int .i64 (atN seen nt : Int))
              go_upto_region 25 with fail
              have b7 : Below wr.heap.size wr (W6x.setCell ⟨wr.heap.size, 5, none⟩ (.int .i64 (atN seen nt : Int))) := b6.grown g7 b6.size (fun j hj => by injection hj with hj; omega)
              have rg7 := rg6.grown g7 (fun e => by injection e with e; omega)
              generalize W6x.setCell ⟨wr.heap.size, 5, none⟩ (.int .i64 (atN seen nt : Int)) = W7 at *
              clear y0 y1 y2 y3 y4 y5 y6 y7 y8 y9 y10 y11 z5 k2 s6 g7 ri6 rg6
              have oo7 := OO.out.below b7
              have ho7 := HO.out.below b7
              have hlt7 := ho7.lt
              have q0 := rg7.cell (j := 3) rfl
              obtain ⟨y0, y1, y2, y3, y4, y5, y6, y7, y8, y9, y10, y11⟩ := s7.block
              have hlk1 : (trimK seen bs k).length + 1 ≤ 1001 := by omega
              have b8 := below_alloc' W7 (.cells #[.slice A0 b.ops.length c0, .int .i64 (b.fin.lead (atN seen nt : Int) (atN seen ne : Int)).kind, .int .i64 (b.fin.lead (atN seen nt : Int) (atN seen ne : Int)).op, .int .i64 (b.fin.lead (atN seen nt : Int) (atN seen ne : Int)).a, .int .i64 (b.fin.lead (atN seen nt : Int) (atN seen ne : Int)).b, .int .i64 (b.fin.lead (atN seen nt : Int) (atN seen ne : Int)).to, .int .i64 (b.fin.lead (atN seen nt : Int) (atN seen ne : Int)).els, .int .i64 (b.fin.lead (atN seen nt : Int) (atN seen ne : Int)).ins.op, .int .i64 (b.fin.lead (atN seen nt : Int) (atN seen ne : Int)).ins.a, .int .i64 (b.fin.lead (atN seen nt : Int) (atN seen ne : Int)).ins.b, .int .i64 (b.fin.lead (atN seen nt : Int) (atN seen ne : Int)).ins.c, .int .i64 (b.fin.lead (atN seen nt : Int) (atN seen ne : Int)).ins.imm] 42)
              have O7 := Lib.hid ho7
              have OO7 := Lib.hid oo7
              have R7 := Lib.hid rg7
              clear ho7 oo7 s7
              go_wp2_with (at_builtin; refine wpList_append_f (k := oBlock) elBlock rfl _ _ rfl (ys := [⟨b.ops, b.fin.lead (atN seen nt : Int) (atN seen ne : Int)⟩]) (O7.out.below (below_alloc' W7 _)) (YF.one rfl ⟨_, rfl, HW.out, OO7.out⟩) HDJ.out rfl rfl (by show _ + 1 ≤ _; omega) ?_; intro v5 w5 hg5; obtain ⟨⟨F5, own5, hF5⟩, hgr5⟩ := hg5; rw [← HB.out, ← HTK.out] at own5; obtain ⟨A5, c5, hv5, l5, m5, -⟩ := own5.read; subst hv5; have r8e := (R7.out.below b8).grown hgr5 (fun e => by have := HROW.out _ e; omega); have u0 := r8e.cell (j := 3) rfl; have u1 := r8e.frozen 3; have s8 : Row (w5.setCell ⟨G8, 3, none⟩ (.slice A5 (trimK seen bs (k + 1)).length c5)) G8 33 (graphCells (.slice A5 (trimK seen bs (k + 1)).length c5) ⟨nm, kp, lf, bs⟩) := r8e.set 3 _; have g8 := grown_set w5 G8 3 (.slice A5 (trimK seen bs (k + 1)).length c5); have S8 := Lib.hid s8; have OW5 := Lib.hid own5; clear s8 own5)
              have hF5' : ∀ x, F5 x → w9.heap.size ≤ x ∨ ∃ i, i < k + 1 ∧ Fs i x := fun x hx => by
                rcases hF5 x hx with h | h | h
                · exact (HF.out x h).imp id (fun ⟨i, hi, h⟩ => ⟨i, by omega, h⟩)
                · exact .inr ⟨k, by omega, h⟩
                · exact .inl (by have := b8.size; have := b7.size; omega)
              have hne8 : ∀ x, F5 x → x ≠ G8 := fun x hx e => by
                rcases hF5' x hx with h | ⟨i, hi, h⟩
                · omega
                · obtain ⟨bi, hbi⟩ := get_some bs i (by omega)
                  have := hF9' x (HFS.out i bi hbi x h)
                  omega
              exact ⟨⟨k + 1, _, F5, by omega, by go_num, OW5.out.grown g8 (fun x hx e => by injection e with e; exact hne8 x hx e.symm), hF5', S8.out, grown_trans (grown_past (grown_trans (grown_trans hgr (grown_below b7)) (grown_below b8)) hgr5 (fun q hq => HROW.out q hq)) g8⟩, by simp [intOf]; omega⟩
            · have z1 : (b.fin.kind == 2) = false := ibeq hk2
              by_cases hk1 : b.fin.kind = 1
              · have z2 : (b.fin.kind == 1) = true := by simp [hk1]
                obtain ⟨ht0, ht1⟩ := HLEAD.out.1 (.inl hk1)
                obtain ⟨nt, hnt⟩ := Int.eq_ofNat_of_zero_le ht0
                have hntl : nt < bs.length := by omega
                have hB : trimB seen b = ⟨b.ops, b.fin.lead (atN seen nt : Int) b.fin.els⟩ := by
                  unfold trimB trimT
                  rw [if_pos (.inl hk1), if_neg hk2, hnt, Int.toNat_natCast]
                have HB := Lib.hid hB
                have h1 := atN_small (seen := seen) (by rw [HSL.out]; exact hl) nt
                have hw := lead_wf1 HWF.out (x := atN seen nt) (by omega)
                have HW := Lib.hid hw
                have k1 := ri5.cell (atL_all' HSL.out hntl)
                obtain ⟨y0, y1, y2, y3, y4, y5, y6, y7, y8, y9, y10, y11⟩ := r5.block
                rw [hnt] at y5
                have z5 := r5.frozen 5
                have s7 : Row (W5.setCell ⟨wr.heap.size, 5, none⟩ (.int .i64 (atN seen nt : Int))) wr.heap.size 42 (blockCells (.slice A0 b.ops.length c0) ⟨b.ops, b.fin.lead (atN seen nt : Int) b.fin.els⟩) := r5.set 5 _
                have g7 := grown_set W5 wr.heap.size 5 (.int .i64 (atN seen nt : Int))
                clear ht0 ht1 hB hw hk2 hk1 hnt h1
                go_upto_region 25 with fail
                have b7 : Below wr.heap.size wr (W5.setCell ⟨wr.heap.size, 5, none⟩ (.int .i64 (atN seen nt : Int))) := b5.grown g7 b5.size (fun j hj => by injection hj with hj; omega)
                have rg7 := rg5.grown g7 (fun e => by injection e with e; omega)
                generalize W5.setCell ⟨wr.heap.size, 5, none⟩ (.int .i64 (atN seen nt : Int)) = W7 at *
                clear y0 y1 y2 y3 y4 y5 y6 y7 y8 y9 y10 y11 z5 k1 r5 g7 ri5 rg5 c3' c0'
                have oo7 := OO.out.below b7
                have ho7 := HO.out.below b7
                have hlt7 := ho7.lt
                have q0 := rg7.cell (j := 3) rfl
                obtain ⟨y0, y1, y2, y3, y4, y5, y6, y7, y8, y9, y10, y11⟩ := s7.block
                have hlk1 : (trimK seen bs k).length + 1 ≤ 1001 := by omega
                have b8 := below_alloc' W7 (.cells #[.slice A0 b.ops.length c0, .int .i64 (b.fin.lead (atN seen nt : Int) b.fin.els).kind, .int .i64 (b.fin.lead (atN seen nt : Int) b.fin.els).op, .int .i64 (b.fin.lead (atN seen nt : Int) b.fin.els).a, .int .i64 (b.fin.lead (atN seen nt : Int) b.fin.els).b, .int .i64 (b.fin.lead (atN seen nt : Int) b.fin.els).to, .int .i64 (b.fin.lead (atN seen nt : Int) b.fin.els).els, .int .i64 (b.fin.lead (atN seen nt : Int) b.fin.els).ins.op, .int .i64 (b.fin.lead (atN seen nt : Int) b.fin.els).ins.a, .int .i64 (b.fin.lead (atN seen nt : Int) b.fin.els).ins.b, .int .i64 (b.fin.lead (atN seen nt : Int) b.fin.els).ins.c, .int .i64 (b.fin.lead (atN seen nt : Int) b.fin.els).ins.imm] 42)
                have O7 := Lib.hid ho7
                have OO7 := Lib.hid oo7
                have R7 := Lib.hid rg7
                clear ho7 oo7 s7
                go_wp2_with (at_builtin; refine wpList_append_f (k := oBlock) elBlock rfl _ _ rfl (ys := [⟨b.ops, b.fin.lead (atN seen nt : Int) b.fin.els⟩]) (O7.out.below (below_alloc' W7 _)) (YF.one rfl ⟨_, rfl, HW.out, OO7.out⟩) HDJ.out rfl rfl (by show _ + 1 ≤ _; omega) ?_; intro v5 w5 hg5; obtain ⟨⟨F5, own5, hF5⟩, hgr5⟩ := hg5; rw [← HB.out, ← HTK.out] at own5; obtain ⟨A5, c5, hv5, l5, m5, -⟩ := own5.read; subst hv5; have r8e := (R7.out.below b8).grown hgr5 (fun e => by have := HROW.out _ e; omega); have u0 := r8e.cell (j := 3) rfl; have u1 := r8e.frozen 3; have s8 : Row (w5.setCell ⟨G8, 3, none⟩ (.slice A5 (trimK seen bs (k + 1)).length c5)) G8 33 (graphCells (.slice A5 (trimK seen bs (k + 1)).length c5) ⟨nm, kp, lf, bs⟩) := r8e.set 3 _; have g8 := grown_set w5 G8 3 (.slice A5 (trimK seen bs (k + 1)).length c5); have S8 := Lib.hid s8; have OW5 := Lib.hid own5; clear s8 own5)
                have hF5' : ∀ x, F5 x → w9.heap.size ≤ x ∨ ∃ i, i < k + 1 ∧ Fs i x := fun x hx => by
                  rcases hF5 x hx with h | h | h
                  · exact (HF.out x h).imp id (fun ⟨i, hi, h⟩ => ⟨i, by omega, h⟩)
                  · exact .inr ⟨k, by omega, h⟩
                  · exact .inl (by have := b8.size; have := b7.size; omega)
                have hne8 : ∀ x, F5 x → x ≠ G8 := fun x hx e => by
                  rcases hF5' x hx with h | ⟨i, hi, h⟩
                  · omega
                  · obtain ⟨bi, hbi⟩ := get_some bs i (by omega)
                    have := hF9' x (HFS.out i bi hbi x h)
                    omega
                exact ⟨⟨k + 1, _, F5, by omega, by go_num, OW5.out.grown g8 (fun x hx e => by injection e with e; exact hne8 x hx e.symm), hF5', S8.out, grown_trans (grown_past (grown_trans (grown_trans hgr (grown_below b7)) (grown_below b8)) hgr5 (fun q hq => HROW.out q hq)) g8⟩, by simp [intOf]; omega⟩
              · have z2 : (b.fin.kind == 1) = false := ibeq hk1
                have hB : trimB seen b = ⟨b.ops, b.fin⟩ := by
                  unfold trimB trimT
                  rw [if_neg (fun h => h.elim hk1 hk2), if_neg hk2]
                  rfl
                have HB := Lib.hid hB
                have HW := Lib.hid HWF.out
                obtain ⟨y0, y1, y2, y3, y4, y5, y6, y7, y8, y9, y10, y11⟩ := r5.block
                clear hB hk2 hk1
                go_upto_region 25 with fail
                have b7 := b5
                have rg7 := rg5
                have s7 := r5
                obtain ⟨W7, hW7⟩ : ∃ W7 : World, W7 = W5 := ⟨_, rfl⟩
                subst hW7
                clear y0 y1 y2 y3 y4 y5 y6 y7 y8 y9 y10 y11 r5 ri5 rg5 c3' c0'
                have oo7 := OO.out.below b7
                have ho7 := HO.out.below b7
                have hlt7 := ho7.lt
                have q0 := rg7.cell (j := 3) rfl
                obtain ⟨y0, y1, y2, y3, y4, y5, y6, y7, y8, y9, y10, y11⟩ := s7.block
                have hlk1 : (trimK seen bs k).length + 1 ≤ 1001 := by omega
                have b8 := below_alloc' W7 (.cells #[.slice A0 b.ops.length c0, .int .i64 (b.fin).kind, .int .i64 (b.fin).op, .int .i64 (b.fin).a, .int .i64 (b.fin).b, .int .i64 (b.fin).to, .int .i64 (b.fin).els, .int .i64 (b.fin).ins.op, .int .i64 (b.fin).ins.a, .int .i64 (b.fin).ins.b, .int .i64 (b.fin).ins.c, .int .i64 (b.fin).ins.imm] 42)
                have O7 := Lib.hid ho7
                have OO7 := Lib.hid oo7
                have R7 := Lib.hid rg7
                clear ho7 oo7 s7
                go_wp2_with (at_builtin; refine wpList_append_f (k := oBlock) elBlock rfl _ _ rfl (ys := [⟨b.ops, b.fin⟩]) (O7.out.below (below_alloc' W7 _)) (YF.one rfl ⟨_, rfl, HW.out, OO7.out⟩) HDJ.out rfl rfl (by show _ + 1 ≤ _; omega) ?_; intro v5 w5 hg5; obtain ⟨⟨F5, own5, hF5⟩, hgr5⟩ := hg5; rw [← HB.out, ← HTK.out] at own5; obtain ⟨A5, c5, hv5, l5, m5, -⟩ := own5.read; subst hv5; have r8e := (R7.out.below b8).grown hgr5 (fun e => by have := HROW.out _ e; omega); have u0 := r8e.cell (j := 3) rfl; have u1 := r8e.frozen 3; have s8 : Row (w5.setCell ⟨G8, 3, none⟩ (.slice A5 (trimK seen bs (k + 1)).length c5)) G8 33 (graphCells (.slice A5 (trimK seen bs (k + 1)).length c5) ⟨nm, kp, lf, bs⟩) := r8e.set 3 _; have g8 := grown_set w5 G8 3 (.slice A5 (trimK seen bs (k + 1)).length c5); have S8 := Lib.hid s8; have OW5 := Lib.hid own5; clear s8 own5)
                have hF5' : ∀ x, F5 x → w9.heap.size ≤ x ∨ ∃ i, i < k + 1 ∧ Fs i x := fun x hx => by
                  rcases hF5 x hx with h | h | h
                  · exact (HF.out x h).imp id (fun ⟨i, hi, h⟩ => ⟨i, by omega, h⟩)
                  · exact .inr ⟨k, by omega, h⟩
                  · exact .inl (by have := b8.size; have := b7.size; omega)
                have hne8 : ∀ x, F5 x → x ≠ G8 := fun x hx e => by
                  rcases hF5' x hx with h | ⟨i, hi, h⟩
                  · omega
                  · obtain ⟨bi, hbi⟩ := get_some bs i (by omega)
                    have := hF9' x (HFS.out i bi hbi x h)
                    omega
                exact ⟨⟨k + 1, _, F5, by omega, by go_num, OW5.out.grown g8 (fun x hx e => by injection e with e; exact hne8 x hx e.symm), hF5', S8.out, grown_trans (grown_past (grown_trans (grown_trans hgr (grown_below b7)) (grown_below b8)) hgr5 (fun q hq => HROW.out q hq)) g8⟩, by simp [intOf]; omega⟩
        · obtain rfl : k = bs.length := by omega
          have hn : (trimK seen bs bs.length) = trimBs seen bs := rfl
          rw [hn] at ho
          obtain ⟨A1, c1, rfl, l1, m1, -⟩ := ho.read
          obtain ⟨y0, y1, y2, y3⟩ := rg.graph
          have HO := Lib.hid ho
          have HF := Lib.hid hF
          have RZ := Lib.hid rz
          clear ho hF rz
          go_wp2_with (refine wpList_put_row rfl 33 _ _ rfl (w.heap.size + 1) (graphCells (.slice A1 (trimBs seen bs).length c1) ⟨nm, kp, lf, bs⟩) rfl rfl RZ.out (by kernel_rfl) rfl (graphCells_one _) ?_; intro w6 r6 g6 s6)
          refine bodyPost_ret (results_cell_row rfl _ _ (w.heap.size + 1) 33 (graphCells (.slice A1 (trimBs seen bs).length c1) ⟨nm, kp, lf, bs⟩).toArray (0, 0) _ rfl r6 Try.underlying33 rfl (by kernel_rfl)) rfl ?_
          have hFx : ∀ x, F x → w.heap.size + 1 < x := fun x hx => by
            rcases HF.out x hx with h | ⟨i, hi, h⟩
            · omega
            · obtain ⟨bi, hbi⟩ := get_some bs i hi
              have := hF9' x (HFS.out i bi hbi x h)
              omega
          exact ⟨seen, HREACH.out, A1, c1, F, rfl, HO.out.grown g6 (fun x hx e => by injection e with e; have := hFx x hx; omega), fun x hx => by have := hFx x hx; omega, t10.grown g6 t10.size (fun j hj => by injection hj with hj; omega)⟩
end Go.Proofs.Ytokkngfgppikkaa
