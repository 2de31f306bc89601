/- calls.Of: what a graph calls, sorted, each once, in memory of the call's own. The document's Calls: does a graph call a number? The document's Of; calls.Leaf, calls.Small, the document's Small. The document's Few over many graphs. Plain: which graphs a graph reaches. Plain: inlining of small leaves, and tails. Slices of the call's own, of whatever kind: how they grow, and what reads of them. Appending to a slice of the call's own, of whatever kind. Values that own their memory: which blocks they lie in, how they read, how they turn. Appending to slices that own their memory; making them. Instructions, blocks and graphs that own their memory. Rows of cells in blocks of the call's own. Graphs of the call's own: one block of one graph, taken out and put back. Plain: what right instructions call. What is owned as a row of new elements; stores over a part of an element. Rows of words of 16 bits. -/
import Derived.Test.YthnkikdbllkmkaaGh
import Derived.Test.YthnkikdbllkmkaaGb
import Derived.Test.YthnkikdbllkmkaaGa
import Derived.Laws.AppendOwnNone
import Derived.Laws.OwnMore
import Derived.Maps.AppendAt
import Derived.Lib.RowBridge
import Derived.Test.YthnkikdbllkmkaaChecked
import Derived.Deep.MidRow
namespace Go.Proofs.Ythnkikdbllkmkaa
set_option linter.unusedVariables false
set_option linter.unusedSimpArgs false
open Go.RowKit

/-- A block's own copy: its terminator's kind and to lie in block number b, apart from the slice v. -/
def FinAt (w : World) (v : Value) (b : Nat) (kd tt : Int) : Prop := w.cell? ⟨b, 1, none⟩ = some (.int .i64 kd) ∧ w.cell? ⟨b, 5, none⟩ = some (.int .i64 tt) ∧ v.ownBlock ≠ some b
theorem FinAt.alloc {w : World} {v : Value} {b : Nat} {kd tt : Int} (h : FinAt w v b kd tt) (o : Obj) : FinAt (w.alloc o) v b kd tt := by
  have hb : Below w.heap.size w (w.alloc o) := (Below.refl _ _).alloc (Nat.le_refl _) _
  exact ⟨(hb.cell (World.lt_of_cell h.1)).trans h.1, (hb.cell (World.lt_of_cell h.2.1)).trans h.2.1, h.2.2⟩
theorem FinAt.apart {w w' : World} {v v' : Value} {b : Nat} {kd tt : Int} (h : FinAt w v b kd tt) (ha : StaysApart w w' v v') : FinAt w' v' b kd tt := by
  obtain ⟨h1, h2⟩ := ha b (World.lt_of_cell h.1) h.2.2
  exact ⟨(h1 1).trans h.1, (h1 5).trans h.2.1, h2⟩

end Go.Proofs.Ythnkikdbllkmkaa
namespace Go.Proofs.Ythnkikdbllkmkaa
set_option linter.unusedVariables false
set_option linter.unusedSimpArgs false
open Go.RowKit

theorem callsB_op {bs : List Block} {k j : Nat} {b : Block} {o : Op} (hb : bs[k]? = some b) (ho : b.ops[j]? = some o) (h1 : o.rel = true) (h2 : o.kind = 1) : callsB bs o.to = true := by
  unfold callsB blocksCalls
  rw [decide_eq_true_eq, List.mem_flatMap]
  refine ⟨b, List.mem_of_getElem? hb, ?_⟩
  unfold Block.calls opsCalls
  rw [List.mem_append, List.mem_flatMap]
  exact .inl ⟨o, List.mem_of_getElem? ho, by unfold Op.calls; rw [if_pos ⟨h1, h2⟩]; simp⟩
theorem callsB_fin {bs : List Block} {k : Nat} {b : Block} (hb : bs[k]? = some b) (h : b.fin.kind = 4) : callsB bs b.fin.to = true := by
  unfold callsB blocksCalls
  rw [decide_eq_true_eq, List.mem_flatMap]
  refine ⟨b, List.mem_of_getElem? hb, ?_⟩
  unfold Block.calls Term.calls
  rw [List.mem_append, if_pos h]
  exact .inr (by simp)
theorem not_mem_snoc {xs ys : List Int} {y : Int} (h : y ∉ xs) (h2 : y ∉ ys) : y ∉ xs ++ ys := by
  rw [List.mem_append]; exact fun e => e.elim h h2

end Go.Proofs.Ythnkikdbllkmkaa
namespace Go.Proofs.Ythnkikdbllkmkaa
set_option linter.unusedVariables false
set_option linter.unusedSimpArgs false
open Go.RowKit

theorem refOf_succ (bs : List Block) (n : Nat) : refOf bs (n + 1) = refOf bs n ++ (if callsB bs n = true then [(n : Int)] else []) := by
  unfold refOf
  rw [List.range_succ, List.map_append, List.filter_append]
  congr 1
  by_cases h : callsB bs n = true <;> simp [h]
theorem refOf_len (bs : List Block) (n : Nat) : (refOf bs n).length ≤ n := by
  unfold refOf
  exact Nat.le_trans (List.length_filter_le _ _) (by simp)

/-- A graph lies in a block's first four cells. -/
def G4 (w : World) (g : Nat) (nm : ByteArray) (kp lf : Bool) (s : Value) : Prop := w.cell? ⟨g, 0, none⟩ = some (.string nm) ∧ w.cell? ⟨g, 1, none⟩ = some (.bool kp) ∧ w.cell? ⟨g, 2, none⟩ = some (.bool lf) ∧ w.cell? ⟨g, 3, none⟩ = some s
theorem G4.below {w w1 : World} {B g : Nat} {nm : ByteArray} {kp lf : Bool} {s : Value} (hb : Below B w w1) (hg : g < B) (h : G4 w g nm kp lf s) : G4 w1 g nm kp lf s :=
  ⟨(hb.cell hg).trans h.1, (hb.cell hg).trans h.2.1, (hb.cell hg).trans h.2.2.1, (hb.cell hg).trans h.2.2.2⟩

def A4 (w : World) (ad : Addr) (nm : ByteArray) (kp lf : Bool) (s : Value) : Prop := w.cell? ad = some (.string nm) ∧ w.cell? ⟨ad.block, ad.off + 1, none⟩ = some (.bool kp) ∧ w.cell? ⟨ad.block, ad.off + 2, none⟩ = some (.bool lf) ∧ w.cell? ⟨ad.block, ad.off + 3, none⟩ = some s
theorem A4.below {w w1 : World} {ad : Addr} {nm : ByteArray} {kp lf : Bool} {s : Value} (hb : Below w.heap.size w w1) (h : A4 w ad nm kp lf s) : A4 w1 ad nm kp lf s :=
  ⟨(hb.cell (World.lt_of_cell h.1)).trans h.1, (hb.cell (World.lt_of_cell h.2.1)).trans h.2.1, (hb.cell (World.lt_of_cell h.2.2.1)).trans h.2.2.1, (hb.cell (World.lt_of_cell h.2.2.2)).trans h.2.2.2⟩
def leafB (bs : List Block) : Bool := decide ((ofList bs).length = 0)
def smallB (bs : List Block) : Bool := match bs with
  | [b] => leafB [b] && decide (b.ops.length ≤ 8) && b.fin.kind == 3 && b.fin.ins.op == 21
  | _ => false
theorem smallB_not {bs : List Block} (h : bs.length ≠ 1) : smallB bs = false := by
  unfold smallB
  split
  · simp at h
  · rfl

end Go.Proofs.Ythnkikdbllkmkaa
namespace Go.Proofs.Ythnkikdbllkmkaa
set_option linter.unusedVariables false
set_option linter.unusedSimpArgs false
open Go.RowKit

def gsFew (gs : List Graph) (d : Int) : Bool := decide (gs.length ≤ 60) && gs.all (fun g => blocksFew g.blocks && blocksRight g.blocks gs.length d)
theorem gsFew_not {gs : List Graph} {d : Int} {k : Nat} {g : Graph} (h : gs[k]? = some g) (h2 : (blocksFew g.blocks && blocksRight g.blocks gs.length d) = false) : gsFew gs d = false := by
  unfold gsFew
  rw [Bool.and_eq_false_iff]
  right
  rw [List.all_eq_false]
  exact ⟨g, List.mem_of_getElem? h, by simp only [h2]; decide⟩
theorem gsFew_end {gs : List Graph} {d : Int} (h : gs.length ≤ 60) (h2 : ∀ g ∈ gs, blocksFew g.blocks = true ∧ blocksRight g.blocks gs.length d = true) : gsFew gs d = true := by
  unfold gsFew
  rw [Bool.and_eq_true, decide_eq_true_eq, List.all_eq_true]
  exact ⟨h, fun g hg => by rw [(h2 g hg).1, (h2 g hg).2]; rfl⟩
theorem gsFew_parts {gs : List Graph} {d : Int} (h : gsFew gs d = true) : gs.length ≤ 60 ∧ ∀ g ∈ gs, blocksFew g.blocks = true ∧ blocksRight g.blocks gs.length d = true := by
  unfold gsFew at h
  rw [Bool.and_eq_true, decide_eq_true_eq, List.all_eq_true] at h
  exact ⟨h.1, fun g hg => by have := h.2 g hg; rwa [Bool.and_eq_true] at this⟩

set_option maxHeartbeats 4000000 in
set_option maxRecDepth 100000 in
theorem gsFew_calls (A : Option Addr) (c : Nat) (gs : List Graph) (d : Int) (w : World) (hC : kGraph.C w A gs) (hl : gs.length ≤ maxLen) : Calls Try.prog 14 #[.slice A gs.length c, .int .i64 d] w fun e w' => e = .returned (.bool (gsFew gs d)) ∧ Below w.heap.size w w' := by
  unfold maxLen at hl
  by_cases h60 : gs.length ≤ 60
  · have h61 : decide (60 < gs.length) = false := by simp; omega
    go_enter Try.func14, Try.ntmps14
    go_wp2_with fail
    go_loopw [5] (fun i wr => ∃ k : Nat, k ≤ gs.length ∧ i = .int .i64 k ∧ (∀ g ∈ gs.take k, blocksFew g.blocks = true ∧ blocksRight g.blocks gs.length d = true) ∧ Below w.heap.size w wr) (fun i _ => gs.length - (intOf i).toNat)
    case atStart => exact ⟨0, Nat.zero_le _, rfl, by simp, Below.refl _ _⟩
    case round =>
      obtain ⟨k, hk, rfl, hall, hbr⟩ := hrel
      by_cases hlt : k < gs.length
      · obtain ⟨g, hg⟩ := get_some gs k hlt
        have hnot := @gsFew_not gs d k g hg
        have htk := take_snoc hg
        obtain ⟨ad, A0, c0, rfl, f0, f1, f2, f3, -, l0, m0, g0⟩ := Graph_at (Kd.C_mono hbr hC) hg
        have hl0 := len_le l0 m0
        cases hfew : blocksFew g.blocks with
        | false =>
          have HN : Hid (gsFew gs d = false) := Lib.hid (hnot (by rw [hfew]; rfl))
          have HF := Lib.hid hfew
          clear hnot htk hfew hg hall
          go_wp2_with fail
          refine (few_calls _ _ _ _ _ _ _ g0 (Nat.le_trans l0 m0)).mono ?_
          rw [HF.out]
          rintro e w1 ⟨rfl, hb1⟩
          go_wp2_with fail
          go_ret
          exact ⟨ret_bool HN.out.symm, hbr.trans (hb1.mono hbr.size)⟩
        | true =>
          cases hright : blocksRight g.blocks gs.length d with
          | false =>
            have HN : Hid (gsFew gs d = false) := Lib.hid (hnot (by rw [hright]; simp))
            have HF := Lib.hid hfew
            have HR := Lib.hid hright
            clear hnot htk hfew hg hall hright
            go_wp2_with fail
            refine (few_calls _ _ _ _ _ _ _ g0 (Nat.le_trans l0 m0)).mono ?_
            rw [HF.out]
            rintro e w1 ⟨rfl, hb1⟩
            replace f0 := (hb1.cell (World.lt_of_cell f0)).trans f0
            replace f1 := (hb1.cell (World.lt_of_cell f1)).trans f1
            replace f2 := (hb1.cell (World.lt_of_cell f2)).trans f2
            replace f3 := (hb1.cell (World.lt_of_cell f3)).trans f3
            go_wp2_with fail
            refine (right_calls _ _ _ _ _ _ _ _ _ (Kd.C_mono hb1 g0) (Nat.le_trans l0 m0)).mono ?_
            rw [HR.out]
            rintro e w2 ⟨rfl, hb2⟩
            go_wp2_with fail
            go_ret
            exact ⟨ret_bool HN.out.symm, hbr.trans ((hb1.mono hbr.size).trans (hb2.mono (Nat.le_trans hbr.size hb1.size)))⟩
          | true =>
            have hnew : ∀ g' ∈ gs.take (k + 1), blocksFew g'.blocks = true ∧ blocksRight g'.blocks gs.length d = true := by
              rw [htk]
              intro g' hg'
              rw [List.mem_append] at hg'
              rcases hg' with hg' | hg'
              · exact hall g' hg'
              · simp at hg'
                subst hg'
                exact ⟨hfew, hright⟩
            have HN := Lib.hid hnew
            have HF := Lib.hid hfew
            have HR := Lib.hid hright
            clear hnot htk hfew hg hall hright hnew
            go_wp2_with fail
            refine (few_calls _ _ _ _ _ _ _ g0 (Nat.le_trans l0 m0)).mono ?_
            rw [HF.out]
            rintro e w1 ⟨rfl, hb1⟩
            replace f0 := (hb1.cell (World.lt_of_cell f0)).trans f0
            replace f1 := (hb1.cell (World.lt_of_cell f1)).trans f1
            replace f2 := (hb1.cell (World.lt_of_cell f2)).trans f2
            replace f3 := (hb1.cell (World.lt_of_cell f3)).trans f3
            go_wp2_with fail
            refine (right_calls _ _ _ _ _ _ _ _ _ (Kd.C_mono hb1 g0) (Nat.le_trans l0 m0)).mono ?_
            rw [HR.out]
            rintro e w2 ⟨rfl, hb2⟩
            go_wp2_with fail
            exact ⟨⟨k + 1, by omega, by go_num, HN.out, hbr.trans ((hb1.mono hbr.size).trans (hb2.mono (Nat.le_trans hbr.size hb1.size)))⟩, by simp [intOf]; omega⟩
      · obtain rfl : k = gs.length := by omega
        rw [List.take_length] at hall
        have HN : Hid (gsFew gs d = true) := Lib.hid (gsFew_end h60 hall)
        clear hall
        go_wp2_with fail
        go_ret
        exact ⟨ret_bool HN.out.symm, hbr⟩
  · have h61 : decide (60 < gs.length) = true := by simp; omega
    have HN : Hid (gsFew gs d = false) := Lib.hid (by unfold gsFew; simp [h60])
    have h62 : 60 < (gs.length : Int) := by omega
    clear h60
    go_enter Try.func14, Try.ntmps14
    go_wp2_with fail
    all_goals first | omega | skip
    go_ret
    exact ⟨ret_bool HN.out.symm, Below.refl _ _⟩
end Go.Proofs.Ythnkikdbllkmkaa
namespace Go.Proofs.Ythnkikdbllkmkaa
set_option linter.unusedVariables false
set_option linter.unusedSimpArgs false

def CEdge (gs : List Graph) (x y : Nat) : Prop := ∃ g, gs[x]? = some g ∧ (y : Int) ∈ ofList g.blocks
inductive Reaches (gs : List Graph) (s : Nat) : Nat → Prop
  | refl : Reaches gs s s
  | step {x y : Nat} : Reaches gs s x → CEdge gs x y → Reaches gs s y
theorem Reaches.trans {gs : List Graph} {a b c : Nat} (h : Reaches gs a b) (k : Reaches gs b c) : Reaches gs a c := by
  induction k with
  | refl => exact h
  | step _ e ih => exact ih.step e
def On (xs : List Bool) (x : Nat) : Prop := xs[x]? = some true
theorem On.lt {xs : List Bool} {x : Nat} (h : On xs x) : x < xs.length := (List.getElem?_eq_some_iff.1 h).1
theorem on_set {xs : List Bool} {i x : Nat} (hi : i < xs.length) : On (xs.set i true) x ↔ x = i ∨ On xs x := by
  unfold On
  rw [List.getElem?_set]
  by_cases h : i = x
  · subst h; simp [hi]
  · rw [if_neg h]
    constructor
    · exact .inr
    · rintro (rfl | e)
      · exact absurd rfl h
      · exact e

/-- What a search from i leaves of the list of those seen. -/
structure DoneR (gs : List Graph) (xs : List Bool) (i : Nat) (ys : List Bool) : Prop where
  len : ys.length = xs.length
  mono : ∀ x, On xs x → On ys x
  at_ : On ys i
  sound : ∀ x, On ys x → On xs x ∨ Reaches gs i x
  closed : ∀ x y, On ys x → ¬ On xs x → CEdge gs x y → On ys y
/-- What its first k calls leave. -/
structure PartR (gs : List Graph) (xs : List Bool) (i : Nat) (cs : List Int) (k : Nat) (ys : List Bool) : Prop where
  len : ys.length = xs.length
  mono : ∀ x, On xs x → On ys x
  at_ : On ys i
  sound : ∀ x, On ys x → On xs x ∨ Reaches gs i x
  closed : ∀ x y, On ys x → ¬ On xs x → x ≠ i → CEdge gs x y → On ys y
  calls : ∀ j y, j < k → cs[j]? = some y → On ys y.toNat
theorem DoneR.seen {gs : List Graph} {xs : List Bool} {i : Nat} (h : On xs i) : DoneR gs xs i xs :=
  ⟨rfl, fun _ h => h, h, fun _ h => .inl h, fun x y h1 h2 => absurd h1 h2⟩
theorem PartR.start {gs : List Graph} {xs : List Bool} {i : Nat} {cs : List Int} (hi : i < xs.length) : PartR gs xs i cs 0 (xs.set i true) :=
  ⟨by simp, fun x h => (on_set hi).2 (.inr h), (on_set hi).2 (.inl rfl), fun x h => (by
    rcases (on_set hi).1 h with rfl | h
    · exact .inr .refl
    · exact .inl h), fun x y h1 h2 h3 => (by
    rcases (on_set hi).1 h1 with rfl | h
    · exact absurd rfl h3
    · exact absurd h h2), fun j y h => absurd h (by omega)⟩
theorem PartR.step {gs : List Graph} {xs ys zs : List Bool} {i k : Nat} {cs : List Int} {y : Int} (h : PartR gs xs i cs k ys) (hy : cs[k]? = some y) (hy0 : 0 ≤ y) (he : CEdge gs i y.toNat) (d : DoneR gs ys y.toNat zs) : PartR gs xs i cs (k + 1) zs := by
  refine ⟨d.len.trans h.len, fun x hx => d.mono x (h.mono x hx), d.mono i h.at_, fun x hx => ?_, fun x z h1 h2 h3 h4 => ?_, fun j z hj hz => ?_⟩
  · rcases d.sound x hx with h1 | h1
    · exact h.sound x h1
    · exact .inr (((Reaches.refl).step he).trans h1)
  · by_cases hx : On ys x
    · exact d.mono z (h.closed x z hx h2 h3 h4)
    · exact d.closed x z h1 hx h4
  · by_cases hjk : j < k
    · exact d.mono _ (h.calls j z hjk hz)
    · obtain rfl : j = k := by omega
      rw [hy] at hz
      injection hz with e
      rw [← e]
      exact d.at_
theorem PartR.done {gs : List Graph} {xs ys : List Bool} {i : Nat} {g : Graph} (hg : gs[i]? = some g) (h : PartR gs xs i (ofList g.blocks) (ofList g.blocks).length ys) : DoneR gs xs i ys := by
  refine ⟨h.len, h.mono, h.at_, h.sound, fun x y h1 h2 h3 => ?_⟩
  by_cases hx : x = i
  · subst hx
    obtain ⟨g', hg', hy⟩ := h3
    rw [hg] at hg'
    injection hg' with e
    subst e
    obtain ⟨j, hj, hj2⟩ := List.getElem_of_mem hy
    have := h.calls j y hj (by rw [List.getElem?_eq_getElem hj, hj2])
    simpa using this
  · exact h.closed x y h1 h2 hx h3

/-- How many are unseen. -/
def offs (xs : List Bool) : Nat := (xs.filter fun b => !b).length
theorem offs_set {xs : List Bool} {i : Nat} (h : xs[i]? = some false) : offs (xs.set i true) + 1 = offs xs := by
  unfold offs
  induction xs generalizing i with
  | nil => simp at h
  | cons b r ih =>
    cases i with
    | zero =>
      simp at h
      subst h
      simp
    | succ i =>
      simp at h
      have := ih h
      cases b <;> simp at this ⊢ <;> omega
theorem offs_mono {xs ys : List Bool} (hl : ys.length = xs.length) (h : ∀ x, On xs x → On ys x) : offs ys ≤ offs xs := by
  unfold offs
  induction xs generalizing ys with
  | nil =>
    have : ys = [] := List.eq_nil_of_length_eq_zero (by simpa using hl)
    subst this
    simp
  | cons b r ih =>
    cases ys with
    | nil => simp at hl
    | cons c s =>
      have h1 := ih (ys := s) (by simpa using hl) (fun x hx => h (x + 1) hx)
      have h0 := h 0
      unfold On at h0
      cases b <;> cases c <;> simp at h0 h1 ⊢ <;> omega

/-- The list of those that are reached. -/
def IsReach (gs : List Graph) (s : Nat) (xs : List Bool) : Prop := xs.length = gs.length ∧ ∀ x, On xs x ↔ Reaches gs s x
theorem IsReach.unique {gs : List Graph} {s : Nat} {xs ys : List Bool} (h : IsReach gs s xs) (k : IsReach gs s ys) : xs = ys := by
  apply List.ext_getElem?
  intro x
  have hx := (h.2 x).trans (k.2 x).symm
  unfold On at hx
  by_cases hl : x < gs.length
  · obtain ⟨b, hb⟩ := get_some xs x (by rw [h.1]; exact hl)
    obtain ⟨c, hc⟩ := get_some ys x (by rw [k.1]; exact hl)
    rw [hb, hc] at hx ⊢
    cases b <;> cases c <;> simp_all
  · rw [List.getElem?_eq_none (by rw [h.1]; omega), List.getElem?_eq_none (by rw [k.1]; omega)]
theorem DoneR.isReach {gs : List Graph} {s : Nat} {ys : List Bool} (h : DoneR gs (List.replicate gs.length false) s ys) : IsReach gs s ys := by
  have hno : ∀ x, ¬ On (List.replicate gs.length false) x := by
    intro x hx
    unfold On at hx
    rw [List.getElem?_replicate] at hx
    split at hx <;> simp at hx
  refine ⟨by rw [h.len]; simp, fun x => ⟨fun hx => (h.sound x hx).resolve_left (hno x), fun hx => ?_⟩⟩
  induction hx with
  | refl => exact h.at_
  | step _ e ih => exact h.closed _ _ ih (hno _) e
/-- Every call is of a graph that is there, and the graphs are few. -/
def GsOk (gs : List Graph) : Prop := gs.length ≤ 61 ∧ ∀ g ∈ gs, blocksFew g.blocks = true ∧ ∀ x ∈ ofList g.blocks, 0 ≤ x ∧ x < gs.length
end Go.Proofs.Ythnkikdbllkmkaa
namespace Go.Proofs.Ythnkikdbllkmkaa
set_option linter.unusedVariables false
set_option linter.unusedSimpArgs false

def calledI (o : Op) : Int := if o.rel = true ∧ o.kind = 1 then o.to else -1
/-- What stands in an instruction's place. -/
def inlOps (gs : List Graph) (o : Op) : List Op :=
  if 0 ≤ calledI o then match gs[(calledI o).toNat]? with
    | some h => if (smallB h.blocks && !h.keep) = true then (h.blocks.headD default).ops else [o]
    | none => [o]
  else [o]
def inlAll (gs : List Graph) (os : List Op) : List Op := os.flatMap (inlOps gs)
def leavesB (gs : List Graph) (b : Block) : Block := ⟨inlAll gs b.ops, b.fin⟩
def tailTerm (n : Int) : Term := ⟨4, 0, 0, 0, n, 0, Ins.zero⟩
def tailsB (b : Block) : Block :=
  match b.ops.getLast? with
  | none => b
  | some o => if b.fin.kind = 3 ∧ b.fin.ins.op = 21 ∧ 0 ≤ calledI o then ⟨b.ops.dropLast, tailTerm (calledI o)⟩ else b
def eachG (f : Block → Block) (g : Graph) : Graph := if g.keep = true then g else ⟨g.name, g.keep, g.leaf, g.blocks.map f⟩
def eachB (f : Block → Block) (g : Graph) (b : Block) : Block := if g.keep = true then b else f b
theorem eachG_eq (f : Block → Block) (g : Graph) : eachG f g = ⟨g.name, g.keep, g.leaf, g.blocks.map (eachB f g)⟩ := by
  unfold eachG eachB
  by_cases h : g.keep = true
  · simp [h]
    rw [← h]
  · simp [h]
def leavesG (gs : List Graph) : Graph → Graph := eachG (leavesB gs)
def tailsG : Graph → Graph := eachG tailsB

theorem inlOps_not {gs : List Graph} {o : Op} (h : calledI o < 0) : inlOps gs o = [o] := by unfold inlOps; rw [if_neg (by omega)]
theorem inlOps_at {gs : List Graph} {o : Op} {h : Graph} (h0 : 0 ≤ calledI o) (hh : gs[(calledI o).toNat]? = some h) : inlOps gs o = if (smallB h.blocks && !h.keep) = true then (h.blocks.headD default).ops else [o] := by
  unfold inlOps
  rw [if_pos h0, hh]
theorem small_one {bs : List Block} (h : smallB bs = true) : ∃ b, bs = [b] ∧ b.ops.length ≤ 8 := by
  unfold smallB at h
  match bs, h with
  | [b], h => exact ⟨b, rfl, by simp at h; omega⟩
theorem inlOps_len (gs : List Graph) (o : Op) : (inlOps gs o).length ≤ 8 := by
  unfold inlOps
  split
  · split
    · split
      · rename_i hc
        rw [Bool.and_eq_true] at hc
        obtain ⟨b, e, hb⟩ := small_one hc.1
        rw [e]
        exact hb
      · simp
    · simp
  · simp
theorem inl_len (gs : List Graph) (os : List Op) : (inlAll gs os).length ≤ 8 * os.length := by
  unfold inlAll
  induction os with
  | nil => simp
  | cons o r ih =>
    rw [List.flatMap_cons, List.length_append, List.length_cons]
    have := inlOps_len gs o
    omega
theorem inl_succ {gs : List Graph} {os : List Op} {k : Nat} {o : Op} (h : os[k]? = some o) : inlAll gs (os.take (k + 1)) = inlAll gs (os.take k) ++ inlOps gs o := by
  unfold inlAll
  rw [take_snoc h, List.flatMap_append]
  simp
/-- What an instruction calls lies among the graphs. -/
theorem calledI_in {b : Block} {bs : List Block} {o : Op} (hb : b ∈ bs) (ho : o ∈ b.ops) (h : 0 ≤ calledI o) : calledI o ∈ ofList bs := by
  unfold calledI at *
  split at h
  · rename_i hc
    rw [if_pos hc, mem_ofList]
    unfold blocksCalls
    rw [List.mem_flatMap]
    refine ⟨b, hb, ?_⟩
    unfold Block.calls opsCalls
    rw [List.mem_append, List.mem_flatMap]
    exact .inl ⟨o, ho, by unfold Op.calls; rw [if_pos hc]; simp⟩
  · omega
theorem calledI_lt {gs : List Graph} {g : Graph} {b : Block} {o : Op} (hok : GsOk gs) (hg : g ∈ gs) (hb : b ∈ g.blocks) (ho : o ∈ b.ops) : calledI o < gs.length := by
  by_cases h : 0 ≤ calledI o
  · exact ((hok.2 g hg).2 _ (calledI_in hb ho h)).2
  · omega
theorem tailsB_nil {b : Block} (h : b.ops.length = 0) : tailsB b = b := by
  unfold tailsB
  rw [List.eq_nil_of_length_eq_zero h]
  rfl
theorem tailsB_at {b : Block} {o : Op} (h : b.ops[b.ops.length - 1]? = some o) : tailsB b = if b.fin.kind = 3 ∧ b.fin.ins.op = 21 ∧ 0 ≤ calledI o then ⟨b.ops.dropLast, tailTerm (calledI o)⟩ else b := by
  unfold tailsB
  rw [List.getLast?_eq_getElem?, h]
end Go.Proofs.Ythnkikdbllkmkaa
namespace Go.Proofs.Ythnkikdbllkmkaa
set_option linter.unusedVariables false
set_option linter.unusedSimpArgs false
open Go.RowKit

/-- The world with some blocks emptied. -/
def hideW (w : World) (S : Nat → Bool) : World := { w with heap := w.heap.mapIdx (fun i o => if S i = true then .cells #[] 0 (0, 0) else o) }
theorem hide_cell {w : World} {S : Nat → Bool} {a : Addr} {v : Value} : (hideW w S).cell? a = some v ↔ S a.block = false ∧ w.cell? a = some v := by
  unfold hideW World.cell?
  simp only [Array.getElem?_mapIdx]
  cases hS : S a.block with
  | true => cases hh : w.heap[a.block]? <;> simp [hS]
  | false => cases hh : w.heap[a.block]? <;> simp [hS]
theorem hide_sub {w : World} {S : Nat → Bool} : Sub (hideW w S) w := fun a v h => (hide_cell.1 h).2
/-- What read in an elder world reads when blocks that it did not have are hid. -/
theorem sub_hide {w0 w : World} {S : Nat → Bool} (hb : Below w0.heap.size w0 w) (hr : ∀ g, S g = true → w0.heap.size ≤ g) : Sub w0 (hideW w S) := fun a v h =>
  hide_cell.2 ⟨by
    cases hS : S a.block with
    | false => rfl
    | true => have := hr _ hS; have := World.lt_of_cell h; omega, (hb.cell (World.lt_of_cell h)).trans h⟩
/-- The blocks of S, and v's own row. -/
def withRow (S : Nat → Bool) (v : Value) : Nat → Bool := fun g => S g || v.ownBlock == some g
theorem withRow_false {S : Nat → Bool} {v : Value} {g : Nat} : withRow S v g = false ↔ S g = false ∧ v.ownBlock ≠ some g := by
  unfold withRow
  rw [Bool.or_eq_false_iff, beq_eq_false_iff_ne]

theorem Sub.hide {w w' : World} {S : Nat → Bool} (hb : Below w.heap.size w w') : Sub (hideW w S) (hideW w' S) := fun a v h => by
  obtain ⟨h1, h2⟩ := hide_cell.1 h
  exact hide_cell.2 ⟨h1, (Sub.of_below hb) _ _ h2⟩
/-- A slice of the call's own, from block number base on; what its elements tell does not lie in its own row, nor in the blocks of S. -/
def OwnK {α : Type} (k : Kd α) (T : TypeId) (S : Nat → Bool) (w : World) (base : Nat) (v : Value) (xs : List α) : Prop :=
  ∃ css : List (List Value), css.length = xs.length ∧ (∀ (i : Nat) (x : α) (cs : List Value), xs[i]? = some x → css[i]? = some cs → k.K (hideW w (withRow S v)) x cs) ∧ w.ownsRow base T k.size v xs.length css.flatten
theorem OwnK.nil {α : Type} (k : Kd α) (T : TypeId) (S : Nat → Bool) (w : World) (base : Nat) : OwnK k T S w base (.slice none 0 0) [] :=
  ⟨[], rfl, fun i x cs h => by simp at h, World.ownsRow_nil w base T k.size⟩
theorem OwnK.empty {α : Type} (k : Kd α) (T : TypeId) (S : Nat → Bool) (w : World) (base : Nat) (hb : base ≤ w.heap.size) : OwnK k T S (w.alloc (.cells #[] T)) base (.slice (some ⟨w.heap.size, 0, none⟩) 0 0) [] :=
  ⟨[], rfl, fun i x cs h => by simp at h, World.ownsRow_lit w #[] 0 hb (Nat.zero_le _) (by simp)⟩
theorem OwnK.mono {α : Type} {k : Kd α} {T : TypeId} {S : Nat → Bool} {w : World} {base base' : Nat} {v : Value} {xs : List α} (h : OwnK k T S w base v xs) (hb : base' ≤ base) : OwnK k T S w base' v xs := by
  obtain ⟨css, h1, h2, h3, h4⟩ := h
  refine ⟨css, h1, h2, h3, ?_⟩
  rcases h4 with h4 | ⟨g, cap, cur, e, h5, h6⟩
  · exact .inl h4
  · exact .inr ⟨g, cap, cur, e, Nat.le_trans hb h5, h6⟩
theorem OwnK.block {α : Type} {k : Kd α} {T : TypeId} {S : Nat → Bool} {w : World} {base : Nat} {v : Value} {xs : List α} (h : OwnK k T S w base v xs) : ∀ g, v.ownBlock = some g → base ≤ g ∧ g < w.heap.size := by
  obtain ⟨css, h1, h2, h3⟩ := h
  exact h3.lt
theorem OwnK.below {α : Type} {k : Kd α} {T : TypeId} {S : Nat → Bool} {w w' : World} {base : Nat} {v : Value} {xs : List α} (h : OwnK k T S w base v xs) (hb : Below w.heap.size w w') : OwnK k T S w' base v xs := by
  obtain ⟨css, h1, h2, h3⟩ := h
  refine ⟨css, h1, fun i x cs hx hc => k.sub (fun a u hu => ?_) (h2 i x cs hx hc), h3.kept (row := none) ⟨hb.os, hb.tape, hb.output, hb.size, fun j hj _ => hb.block j hj⟩ (by cases v.ownBlock <;> simp)⟩
  obtain ⟨h4, h5⟩ := hide_cell.1 hu
  exact hide_cell.2 ⟨h4, (hb.cell (World.lt_of_cell h5)).trans h5⟩
theorem OwnK.read {α : Type} {k : Kd α} {T : TypeId} {S : Nat → Bool} {w : World} {base : Nat} {v : Value} {xs : List α} (h : OwnK k T S w base v xs) : ∃ A c, v = .slice A xs.length c ∧ xs.length ≤ c ∧ c ≤ maxLen ∧ k.C w A xs := by
  obtain ⟨css, h1, h2, h3⟩ := h
  have h4 := h3.2
  rcases h4 with ⟨rfl, h5⟩ | ⟨g, cap, cur, rfl, h5, h6, h7, h8, h9, h10⟩
  · have : xs = [] := List.eq_nil_of_length_eq_zero h5
    subst this
    exact ⟨none, 0, rfl, Nat.le_refl _, Nat.zero_le _, C_nil k w none⟩
  · refine ⟨_, _, rfl, h7, h8, fun i x hx => ?_⟩
    obtain ⟨cs, hcs⟩ := get_some css i (by rw [h1]; exact (List.getElem?_eq_some_iff.1 hx).1)
    have hall : ∀ cs ∈ css, cs.length = k.size := by
      intro cs hcs
      obtain ⟨i, hi⟩ := List.mem_iff_getElem?.1 hcs
      obtain ⟨x, hx⟩ := get_some xs i (by rw [← h1]; exact (List.getElem?_eq_some_iff.1 hi).1)
      exact k.len (h2 i x cs hx hi)
    exact ⟨_, cs, rfl, k.sub hide_sub (h2 i x cs hx hcs), fun j u hu => h3.cells rfl _ u (flatten_get hall hcs hu)⟩
/-- What reads of it when the blocks of S are hid. -/
theorem OwnK.readS {α : Type} {k : Kd α} {T : TypeId} {S : Nat → Bool} {w : World} {base : Nat} {v : Value} {xs : List α} (h : OwnK k T S w base v xs) (hv : ∀ g, v.ownBlock = some g → S g = false) : ∃ A c, v = .slice A xs.length c ∧ xs.length ≤ c ∧ c ≤ maxLen ∧ k.C (hideW w S) A xs := by
  obtain ⟨css, h1, h2, h3⟩ := h
  have h4 := h3.2
  rcases h4 with ⟨rfl, h5⟩ | ⟨g, cap, cur, rfl, h5, h6, h7, h8, h9, h10⟩
  · have : xs = [] := List.eq_nil_of_length_eq_zero h5
    subst this
    exact ⟨none, 0, rfl, Nat.le_refl _, Nat.zero_le _, C_nil k _ none⟩
  · refine ⟨_, _, rfl, h7, h8, fun i x hx => ?_⟩
    obtain ⟨cs, hcs⟩ := get_some css i (by rw [h1]; exact (List.getElem?_eq_some_iff.1 hx).1)
    have hall : ∀ cs ∈ css, cs.length = k.size := by
      intro cs hcs
      obtain ⟨i, hi⟩ := List.mem_iff_getElem?.1 hcs
      obtain ⟨x, hx⟩ := get_some xs i (by rw [← h1]; exact (List.getElem?_eq_some_iff.1 hi).1)
      exact k.len (h2 i x cs hx hi)
    refine ⟨_, cs, rfl, k.sub (fun a u hu => ?_) (h2 i x cs hx hcs), fun j u hu => ?_⟩
    · obtain ⟨h11, h12⟩ := hide_cell.1 hu
      exact hide_cell.2 ⟨(withRow_false.1 h11).1, h12⟩
    · refine hide_cell.2 ⟨?_, h3.cells rfl _ u (flatten_get hall hcs hu)⟩
      have : ((⟨g, 0, none⟩ : Addr).add (i * k.size + j)).block = g := by unfold Addr.add; split <;> rfl
      rw [this]
      exact hv g rfl
/-- What turns in the blocks of S alone leaves it. -/
theorem OwnK.turn {α : Type} {k : Kd α} {T : TypeId} {S : Nat → Bool} {w w' : World} {base : Nat} {v : Value} {xs : List α} (h : OwnK k T S w base v xs) (hh : ∀ b, b < w.heap.size → S b = false → w'.heap[b]? = w.heap[b]?) (hv : ∀ g, v.ownBlock = some g → S g = false) : OwnK k T S w' base v xs := by
  obtain ⟨css, h1, h2, h3, h4⟩ := h
  refine ⟨css, h1, fun i x cs hx hc => k.sub (fun a u hu => ?_) (h2 i x cs hx hc), h3, ?_⟩
  · obtain ⟨h5, h6⟩ := hide_cell.1 hu
    exact hide_cell.2 ⟨h5, (World.cell?_of_block (a := a) (hh a.block (World.lt_of_cell h6) (withRow_false.1 h5).1)).trans h6⟩
  · rcases h4 with h4 | ⟨g, cap, cur, rfl, h5, h6, h7⟩
    · exact .inl h4
    · exact .inr ⟨g, cap, cur, rfl, h5, (hh g (Array.getElem?_eq_some_iff.1 h6).1 (hv g rfl)).trans h6, h7⟩
def noS : Nat → Bool := fun _ => false
end Go.Proofs.Ythnkikdbllkmkaa
namespace Go.Proofs.Ythnkikdbllkmkaa
set_option linter.unusedVariables false
set_option linter.unusedSimpArgs false
open Go.RowKit

theorem flatten_inv {s : Nat} : ∀ {css : List (List Value)} {j : Nat} {v : Value}, (∀ cs ∈ css, cs.length = s) → css.flatten[j]? = some v → ∃ i j' cs, css[i]? = some cs ∧ cs[j']? = some v ∧ j = i * s + j'
  | [], j, v, _, h => by simp at h
  | c :: r, j, v, hl, h => by
    have hc := hl c (by simp)
    rw [List.flatten_cons] at h
    by_cases hj : j < c.length
    · rw [List.getElem?_append_left hj] at h
      exact ⟨0, j, c, rfl, h, by omega⟩
    · rw [List.getElem?_append_right (by omega)] at h
      obtain ⟨i, j', cs, h1, h2, h3⟩ := flatten_inv (fun cs hcs => hl cs (by simp [hcs])) h
      refine ⟨i + 1, j', cs, by simpa using h1, h2, ?_⟩
      rw [Nat.succ_mul]
      omega
/-- A row of values whose cells lie in one world, and tell their values in another. -/
def Kd.C2 {α : Type} (k : Kd α) (wk wc : World) (A : Option Addr) (xs : List α) : Prop :=
  ∀ i x, xs[i]? = some x → ∃ ad cs, A = some ad ∧ k.K wk x cs ∧ ∀ j v, cs[j]? = some v → wc.cell? (ad.add (i * k.size + j)) = some v
theorem Kd.C2_hide {α : Type} {k : Kd α} {w : World} {S : Nat → Bool} {A : Option Addr} {xs : List α} (h : k.C (hideW w S) A xs) : k.C2 (hideW w S) w A xs := fun i x hx => by
  obtain ⟨ad, cs, e, hk, hc⟩ := h i x hx
  exact ⟨ad, cs, e, hk, fun j v hv => hide_sub _ _ (hc j v hv)⟩
theorem Kd.C2_flat {α : Type} {k : Kd α} {w w' : World} {A : Option Addr} {xs : List α} (hf : ∀ x cs, k.K w x cs → k.K w' x cs) (h : k.C w A xs) : k.C2 w' w A xs := fun i x hx => by
  obtain ⟨ad, cs, e, hk, hc⟩ := h i x hx
  exact ⟨ad, cs, e, hf x cs hk, hc⟩
theorem C_cells {α : Type} {k : Kd α} {wk w : World} {ad : Addr} {ys : List α} (h : k.C2 wk w (some ad) ys) : ∃ css : List (List Value), css.length = ys.length ∧ (∀ (i : Nat) (x : α) (cs : List Value), ys[i]? = some x → css[i]? = some cs → k.K wk x cs) ∧ ∀ j u, css.flatten[j]? = some u → w.cell? (ad.add j) = some u := by
  have h' : ∀ i, ∃ cs : List Value, ∀ x, ys[i]? = some x → k.K wk x cs ∧ ∀ j v, cs[j]? = some v → w.cell? (ad.add (i * k.size + j)) = some v := by
    intro i
    cases hi : ys[i]? with
    | none => exact ⟨[], fun x hx => by simp at hx⟩
    | some x =>
      obtain ⟨ad', cs, e, h1, h2⟩ := h i x hi
      injection e with e
      subst e
      exact ⟨cs, fun x' hx => by injection hx with e; subst e; exact ⟨h1, h2⟩⟩
  obtain ⟨f, hf⟩ := Classical.axiomOfChoice h'
  have hget : ∀ (i : Nat) (cs : List Value), ((List.range ys.length).map f)[i]? = some cs → i < ys.length ∧ f i = cs := by
    intro i cs hcs
    have hi := (List.getElem?_eq_some_iff.1 hcs).1
    simp at hi
    simp [hi] at hcs
    exact ⟨hi, hcs⟩
  refine ⟨(List.range ys.length).map f, by simp, fun i x cs hx hcs => ?_, fun j u hu => ?_⟩
  · obtain ⟨_, rfl⟩ := hget i cs hcs
    exact (hf i x hx).1
  · have hall : ∀ cs ∈ (List.range ys.length).map f, cs.length = k.size := by
      intro cs hcs
      obtain ⟨i, hi⟩ := List.mem_iff_getElem?.1 hcs
      obtain ⟨hlt, rfl⟩ := hget i cs hi
      obtain ⟨x, hx⟩ := get_some ys i hlt
      exact k.len (hf i x hx).1
    obtain ⟨i, j', cs, h1, h2, rfl⟩ := flatten_inv hall hu
    obtain ⟨hlt, rfl⟩ := hget i cs h1
    obtain ⟨x, hx⟩ := get_some ys i hlt
    exact (hf i x hx).2 j' u h2

theorem sub_grown {S : Nat → Bool} {w w1 w' : World} {v v' : Value} (hb : Below w.heap.size w w1) (hg : w1.grownBy w' v.ownBlock) (hv : v'.ownBlock = v.ownBlock ∨ v'.ownBlock = some w1.heap.size) : Sub (hideW w (withRow S v)) (hideW w' (withRow S v')) := by
  intro a u hu
  obtain ⟨h1, h2⟩ := hide_cell.1 hu
  obtain ⟨h0, h1⟩ := withRow_false.1 h1
  have hlt := World.lt_of_cell h2
  have h3 : w'.cell? a = some u := by
    rw [World.cell?_of_block (a := a) (hg.block a.block (Nat.lt_of_lt_of_le hlt hb.size) (fun e => h1 e.symm)), hb.cell hlt]
    exact h2
  refine hide_cell.2 ⟨withRow_false.2 ⟨h0, ?_⟩, h3⟩
  rcases hv with e | e
  · rw [e]; exact h1
  · rw [e]
    intro e2
    injection e2 with e2
    have := hb.size
    omega

/-- What append leaves: the new slice, all below, all apart. -/
structure Grew {α : Type} (k : Kd α) (T : TypeId) (S : Nat → Bool) (base : Nat) (w w' : World) (v v' : Value) (zs : List α) : Prop where
  own : OwnK k T S w' base v' zs
  below : Below base w w'
  apart : ∀ b, b < w.heap.size → v.ownBlock ≠ some b → w'.heap[b]? = w.heap[b]?
  fresh : v'.ownBlock = v.ownBlock ∨ ∃ g, v'.ownBlock = some g ∧ w.heap.size ≤ g

theorem run_append_nil (t ty e : TypeId) (i : TypeInfo) (size base : Nat) (ht : Try.prog.underlying t = some (.slice e)) (hi : Try.prog.info? e = some i) {w : World} (v : Value) (n c : Nat) (xs : List Value) (hown : w.ownsRow base e size v n xs) :
    (Builtin.append_ #[t, t] ty #[v, .slice none 0 c]).run Try.prog w = .ok v w := by
  rcases hown.2 with ⟨rfl, rfl⟩ | ⟨g, cap, cur, rfl, _, _, hnc, _⟩
  · simp [Builtin.append_, run_underlying ht, sizeOf, typeInfo, hi, Builtin.lenOf, Builtin.firstCells]
  · simp [Builtin.append_, run_underlying ht, sizeOf, typeInfo, hi, Builtin.lenOf, Builtin.firstCells, hnc, storeCells]

/-- What an element type's facts are. -/
structure ElK {α : Type} (k : Kd α) (T U : TypeId) (z : Value) (bytes : Nat) : Prop where
  under : Try.prog.underlying U = some (.slice T)
  info : (Try.prog.info? T).map (fun i => (i.zero, i.size, i.bytes)) = some (some z, k.size, bytes)
  zs : z.cells.size = k.size
  pos : 0 < k.size
  small : bytes ≤ 1000

theorem run_append_k {α : Type} {k : Kd α} {T U ty : TypeId} {S : Nat → Bool} {z : Value} {bytes : Nat} (el : ElK k T U z bytes)
    {w w1 : World} (base : Nat) {v : Value} {xs ys : List α} {A : Option Addr} {c : Nat} (hown : OwnK k T S w base v xs) (hbw : Below w.heap.size w w1) (hY : k.C2 (hideW w1 (withRow S v)) w1 A ys)
    (hl : xs.length + ys.length ≤ 100000000) (hb : base ≤ w.heap.size) : ∃ v' w', (Builtin.append_ #[U, U] ty #[v, .slice A ys.length c]).run Try.prog w1 = .ok v' w' ∧ Grew k T S base w w' v v' (xs ++ ys) := by
  obtain ⟨i0, hi, hz0, hz1, hz2⟩ := info_parts el.info
  have hown1 := hown.below hbw
  obtain ⟨css, h1, h2, h3⟩ := hown1
  cases A with
  | none =>
    have hys : ys = [] := by
      cases ys with
      | nil => rfl
      | cons y r =>
        obtain ⟨ad, cs, e, _⟩ := hY 0 y rfl
        cases e
    subst hys
    refine ⟨v, w1, run_append_nil U ty T i0 k.size base el.under hi v xs.length c css.flatten h3, ⟨by rw [List.append_nil]; exact hown.below hbw, hbw.mono hb, fun b hbl _ => hbw.block b hbl, .inl rfl⟩⟩
  | some ad =>
    obtain ⟨dss, d1, d2, d3⟩ := C_cells hY
    have hall : ∀ cs ∈ dss, cs.length = k.size := by
      intro cs hcs
      obtain ⟨i, hi⟩ := List.mem_iff_getElem?.1 hcs
      obtain ⟨x, hx⟩ := get_some ys i (by rw [← d1]; exact (List.getElem?_eq_some_iff.1 hi).1)
      exact k.len (d2 i x cs hx hi)
    have hflat : ∀ (l : List (List Value)), (∀ cs ∈ l, cs.length = k.size) → l.flatten.length = l.length * k.size := by
      intro l hl
      induction l with
      | nil => simp
      | cons c r ih => rw [List.flatten_cons, List.length_append, hl c (by simp), ih (fun cs hcs => hl cs (by simp [hcs])), List.length_cons, Nat.succ_mul, Nat.add_comm]
    obtain ⟨v', w', hr, ho', hg, _, hv⟩ := run_append_own_at (P := Try.prog) w1 base U ty T i0 z k.size bytes el.under hi hz0 hz1 hz2 el.zs el.pos v xs.length css.flatten h3 ad ys.length c dss.flatten (by rw [hflat dss hall, d1]) d3 (by
      intro u hu
      rw [List.mem_flatten] at hu
      obtain ⟨cs, hcs, hu⟩ := hu
      obtain ⟨i, hi⟩ := List.mem_iff_getElem?.1 hcs
      obtain ⟨x, hx⟩ := get_some ys i (by rw [← d1]; exact (List.getElem?_eq_some_iff.1 hi).1)
      exact k.one (d2 i x cs hx hi) u hu) (by unfold maxLen; omega) (Nat.le_trans (Nat.mul_le_mul hl el.small) (by decide)) (Nat.le_trans hb hbw.size)
    refine ⟨v', w', hr, ?_⟩
    have hsub := sub_grown (S := S) (w := w1) (w1 := w1) (v := v) (v' := v') (Below.refl _ _) hg hv
    refine ⟨⟨css ++ dss, by simp [h1, d1], fun i x cs hx hcs => ?_, ?_⟩, ?_, ?_, ?_⟩
    · by_cases hlt : i < xs.length
      · rw [List.getElem?_append_left hlt] at hx
        rw [List.getElem?_append_left (by rw [h1]; exact hlt)] at hcs
        exact k.sub hsub (h2 i x cs hx hcs)
      · rw [List.getElem?_append_right (by omega)] at hx
        rw [List.getElem?_append_right (by omega), h1] at hcs
        exact k.sub hsub (d2 _ x cs hx hcs)
    · rw [List.length_append, List.flatten_append]
      exact ho'
    · exact (hbw.mono hb).trans ((Below.refl base w1).grown hg (Nat.le_trans hb hbw.size) (fun j hj => (hown.block j hj).1))
    · exact fun b hbl hne => (hg.block b (Nat.lt_of_lt_of_le hbl hbw.size) (fun e => hne e.symm)).trans (hbw.block b hbl)
    · rcases hv with e | e
      · exact .inl e
      · exact .inr ⟨_, e, hbw.size⟩

/-- At the operation. -/
theorem wp_append_k {α : Type} {k : Kd α} {T U : TypeId} {S : Nat → Bool} {z : Value} {bytes : Nat} (el : ElK k T U z bytes) {o : Oper} {a : Act} {K : Act → World → Prop} {Q : Exit → Act → World → Prop} (s x : Operand)
    (ho : o.op = .call { callee := .builtin .append, args := #[s, x], argTypes := #[U, U] }) {w w1 : World} (base : Nat) {v : Value} {xs ys : List α} {A : Option Addr} {c : Nat} (hown : OwnK k T S w base v xs) (hbw : Below w.heap.size w w1) (hY : k.C2 (hideW w1 (withRow S v)) w1 A ys) (hs : a.eval s = v) (hx : a.eval x = .slice A ys.length c)
    (hl : xs.length + ys.length ≤ 100000000) (hb : base ≤ w.heap.size) (h : ∀ v' w', Grew k T S base w w' v v' (xs ++ ys) → K (a.put o.dst v') w') : Oper.wp Try.prog o a w1 K Q := by
  obtain ⟨v', w', hr, hg⟩ := run_append_k (ty := o.type) (c := c) el base hown hbw hY hl hb
  unfold Oper.wp execOp
  simp only [ho, resolve, invoke, builtin, Sem.run_bind, Sem.run_pure, Result.andThen_ok, List.map_toArray, List.map_cons, List.map_nil, hs, hx, hr]
  exact h v' w' hg
theorem wpList_append_k {α : Type} {k : Kd α} {T U : TypeId} {S : Nat → Bool} {z : Value} {bytes : Nat} (el : ElK k T U z bytes) {ops : Array Oper} {rest : List Oper} {o : Oper} {a : Act} {Q : Exit → Act → World → Prop} (hgd : o.guard = none) (s x : Operand)
    (ho : o.op = .call { callee := .builtin .append, args := #[s, x], argTypes := #[U, U] }) {w w1 : World} (base : Nat) {v : Value} {xs ys : List α} {A : Option Addr} {c : Nat} (hown : OwnK k T S w base v xs) (hbw : Below w.heap.size w w1) (hY : k.C2 (hideW w1 (withRow S v)) w1 A ys) (hs : a.eval s = v) (hx : a.eval x = .slice A ys.length c)
    (hl : xs.length + ys.length ≤ 100000000) (hb : base ≤ w.heap.size) (h : ∀ v' w', Grew k T S base w w' v v' (xs ++ ys) → wpList Try.prog ops Q rest (a.put o.dst v') w') : wpList Try.prog ops Q (o :: rest) a w1 :=
  wpList_plain hgd fun _ hK => wp_append_k el s x ho base hown hbw hY hs hx hl hb fun v' w' hg => hK _ _ (h v' w' hg)
/-- At a step of a region that draws its order. -/
theorem step_append_k {α : Type} {k : Kd α} {T U : TypeId} {S : Nat → Bool} {z : Value} {bytes : Nat} (el : ElK k T U z bytes) {ops : Array Oper} {o : Oper} {a : Act} {K : Act → World → Prop} {Q : Exit → Act → World → Prop} {E : Prop} (hgd : o.guard = none) (s x : Operand)
    (ho : o.op = .call { callee := .builtin .append, args := #[s, x], argTypes := #[U, U] }) {w w1 : World} (base : Nat) {v : Value} {xs ys : List α} {A : Option Addr} {c : Nat} (hown : OwnK k T S w base v xs) (hbw : Below w.heap.size w w1) (hY : k.C2 (hideW w1 (withRow S v)) w1 A ys) (hs : a.eval s = v) (hx : a.eval x = .slice A ys.length c)
    (hl : xs.length + ys.length ≤ 100000000) (hb : base ≤ w.heap.size) (h : ∀ v' w', Grew k T S base w w' v v' (xs ++ ys) → K (a.put o.dst v') w') : if Region.wanted o (yielded ops a.tmps) = true then Oper.wp Try.prog o a w1 K Q else E := by
  have hw : Region.wanted o (yielded ops a.tmps) = true := by simp [Region.wanted, hgd]
  rw [if_pos hw]
  exact wp_append_k el s x ho base hown hbw hY hs hx hl hb h

theorem C2_one {α : Type} (k : Kd α) (W : World) (b : Nat) (hb : b = W.heap.size) (T : TypeId) (x : α) (cells : Array Value) (wk : World) (hK : k.K wk x cells.toList) : k.C2 wk (W.alloc (.cells cells T)) (some ⟨b, 0, none⟩) [x] := by
  subst hb
  intro i y hx
  cases i with
  | zero =>
    simp at hx
    subst hx
    refine ⟨_, cells.toList, rfl, hK, fun j v hv => ?_⟩
    have ha : (⟨W.heap.size, 0, none⟩ : Addr).add (0 * k.size + j) = ⟨W.heap.size, j, none⟩ := by
      unfold Addr.add
      by_cases h0 : j = 0
      · rw [if_pos (by simpa using h0), h0]
      · rw [if_neg (by simpa using h0)]; simp
    rw [ha]
    rw [Array.getElem?_toList] at hv
    simp [hv]
  | succ i => simp at hx
theorem kOp_any {w w' : World} {x : Op} {cs : List Value} (h : kOp.K w x cs) : kOp.K w' x cs := by
  obtain ⟨rfl, hw⟩ := kOp_open h
  exact kOp_mk w' x hw
/-- All blocks made before. -/
def oldS (B : Nat) : Nat → Bool := fun g => decide (g < B)
def zOp : Value := .agg #[.int .i64 0, .int .i64 0, .int .i64 0, .int .i64 0, .int .i64 0, .bool false, .int .i64 0, .int .i64 0, .int .i64 0]
def zBlock : Value := .agg #[.slice none 0 0, .int .i64 0, .int .i64 0, .int .i64 0, .int .i64 0, .int .i64 0, .int .i64 0, .int .i64 0, .int .i64 0, .int .i64 0, .int .i64 0, .int .i64 0]
def zGraph : Value := .agg #[.string ByteArray.empty, .bool false, .bool false, .slice none 0 0]
theorem elOp : ElK kOp 66 44 zOp 72 := ⟨Try.underlying44, by kernel_rfl, rfl, by decide, by decide⟩
theorem elBlock : ElK kBlock 46 22 zBlock 112 := ⟨Try.underlying22, by kernel_rfl, rfl, by decide, by decide⟩
theorem elGraph : ElK kGraph 24 32 zGraph 48 := ⟨Try.underlying32, by kernel_rfl, rfl, by decide, by decide⟩
end Go.Proofs.Ythnkikdbllkmkaa
namespace Go.Proofs.Ythnkikdbllkmkaa
set_option linter.unusedVariables false
set_option linter.unusedSimpArgs false
open Go.RowKit

/-- A kind of value that owns memory: when a row of cells tells it, and in which blocks lies what it owns. -/
structure Od (α : Type) where
  kd : Kd α
  O : World → α → List Value → (Nat → Prop) → Prop
  rd : ∀ {w : World} {x : α} {cs : List Value} {F : Nat → Prop}, O w x cs F → ∀ {S : Nat → Bool}, (∀ b, F b → S b = false) → kd.K (hideW w S) x cs
  lt : ∀ {w : World} {x : α} {cs : List Value} {F : Nat → Prop}, O w x cs F → ∀ b, F b → b < w.heap.size
  keep : ∀ {w w' : World} {x : α} {cs : List Value} {F : Nat → Prop}, O w x cs F → (∀ b, F b → w'.heap[b]? = w.heap[b]?) → O w' x cs F

theorem below_alloc' (w : World) (o : Obj) : Below w.heap.size w (w.alloc o) := (Below.refl _ _).alloc (Nat.le_refl _) _
theorem Below.drewN {B : Nat} {a w : World} (h : Below B a w) (n : Nat) : Below B a (w.drewN n) := ⟨h.os, h.tape, h.output, h.size, h.block⟩

theorem hide_no (w : World) : Sub (hideW w noS) w := hide_sub
theorem Od.kK {α : Type} (k : Od α) {w : World} {x : α} {cs : List Value} {F : Nat → Prop} (h : k.O w x cs F) : k.kd.K w x cs := k.kd.sub hide_sub (k.rd h (S := noS) (fun _ _ => rfl))
theorem Od.len {α : Type} (k : Od α) {w : World} {x : α} {cs : List Value} {F : Nat → Prop} (h : k.O w x cs F) : cs.length = k.kd.size := k.kd.len (k.kK h)

/-- A kind that owns nothing. -/
def Od.flat {α : Type} (k : Kd α) (hk : ∀ {w w' : World} {x : α} {cs : List Value}, k.K w x cs → k.K w' x cs) : Od α where
  kd := k
  O := fun w x cs F => (∀ b, ¬ F b) ∧ k.K w x cs
  rd := fun h _ _ => hk h.2
  lt := fun h b hb => absurd hb (h.1 b)
  keep := fun h _ => ⟨h.1, hk h.2⟩
def noF : Nat → Prop := fun _ => False

/-- A slice of the call's own, its elements' parts in blocks apart; F: all of these blocks. -/
structure OwnF {α : Type} (k : Od α) (T : TypeId) (w : World) (v : Value) (xs : List α) (F : Nat → Prop) : Prop where
  ex : ∃ (css : List (List Value)) (Fs : Nat → Nat → Prop), css.length = xs.length ∧ (∀ (i : Nat) (x : α) (cs : List Value), xs[i]? = some x → css[i]? = some cs → k.O w x cs (Fs i)) ∧ w.ownsRow 0 T k.kd.size v xs.length css.flatten ∧
    (∀ i j b, i < xs.length → j < xs.length → i ≠ j → Fs i b → ¬ Fs j b) ∧ (∀ i b, i < xs.length → Fs i b → v.ownBlock ≠ some b) ∧ (∀ b, F b ↔ v.ownBlock = some b ∨ ∃ i, i < xs.length ∧ Fs i b)

section
variable {α : Type} {k : Od α} {T : TypeId} {w w' : World} {v : Value} {xs : List α} {F : Nat → Prop}

theorem OwnF.nil (k : Od α) (T : TypeId) (w : World) : OwnF k T w (.slice none 0 0) [] noF :=
  ⟨[], fun _ _ => False, rfl, fun i x cs h => by simp at h, World.ownsRow_nil w 0 T k.kd.size, fun i j b hi => by simp at hi, fun i b hi => by simp at hi, fun b => ⟨fun h => h.elim, fun h => by rcases h with h | ⟨i, hi, _⟩; simp [Value.ownBlock] at h; simp at hi⟩⟩
theorem OwnF.empty (k : Od α) (T : TypeId) (w : World) : OwnF k T (w.alloc (.cells #[] T)) (.slice (some ⟨w.heap.size, 0, none⟩) 0 0) [] (fun b => b = w.heap.size) :=
  ⟨[], fun _ _ => False, rfl, fun i x cs h => by simp at h, World.ownsRow_lit w #[] 0 (Nat.zero_le _) (Nat.zero_le _) (by simp), fun i j b hi => by simp at hi, fun i b hi => by simp at hi, fun b => ⟨fun h => .inl (by rw [h]; rfl), fun h => by rcases h with h | ⟨i, hi, _⟩; injection h with h; exact h.symm; simp at hi⟩⟩
theorem OwnF.lt (h : OwnF k T w v xs F) : ∀ b, F b → b < w.heap.size := by
  obtain ⟨css, Fs, h1, h2, h3, h4, h5, h6⟩ := h.ex
  intro b hb
  rcases (h6 b).1 hb with e | ⟨i, hi, hf⟩
  · exact (h3.lt b e).2
  · obtain ⟨x, hx⟩ := get_some xs i hi
    obtain ⟨cs, hcs⟩ := get_some css i (by rw [h1]; exact hi)
    exact k.lt (h2 i x cs hx hcs) b hf
theorem OwnF.row (h : OwnF k T w v xs F) {g : Nat} (e : v.ownBlock = some g) : F g := by
  obtain ⟨css, Fs, h1, h2, h3, h4, h5, h6⟩ := h.ex
  exact (h6 g).2 (.inl e)
theorem ownsRow_same {w w' : World} {base : Nat} {T : TypeId} {s n : Nat} {v : Value} {cs : List Value} (h : w.ownsRow base T s v n cs) (hb : ∀ g, v.ownBlock = some g → w'.heap[g]? = w.heap[g]?) : w'.ownsRow base T s v n cs := by
  rcases h with ⟨h1, h2 | ⟨g, cap, cur, rfl, h3, h4, h5⟩⟩
  · exact ⟨h1, .inl h2⟩
  · exact ⟨h1, .inr ⟨g, cap, cur, rfl, h3, (hb g rfl).trans h4, h5⟩⟩
theorem OwnF.keep (h : OwnF k T w v xs F) (hb : ∀ b, F b → w'.heap[b]? = w.heap[b]?) : OwnF k T w' v xs F := by
  obtain ⟨css, Fs, h1, h2, h3, h4, h5, h6⟩ := h.ex
  refine ⟨css, Fs, h1, fun i x cs hx hcs => k.keep (h2 i x cs hx hcs) (fun b hf => hb b ((h6 b).2 (.inr ⟨i, (List.getElem?_eq_some_iff.1 hx).1, hf⟩))), ownsRow_same h3 (fun g hg => hb g ((h6 g).2 (.inl hg))), h4, h5, h6⟩
theorem OwnF.below (h : OwnF k T w v xs F) (hb : Below w.heap.size w w') : OwnF k T w' v xs F := h.keep fun b hf => hb.block b (h.lt b hf)
theorem OwnF.grown (h : OwnF k T w v xs F) {r : Option Nat} (hg : w.grownBy w' r) (hr : ∀ b, F b → r ≠ some b) : OwnF k T w' v xs F := h.keep fun b hf => hg.block b (h.lt b hf) (fun e => hr b hf e.symm)
theorem OwnF.iff {G : Nat → Prop} (h : OwnF k T w v xs F) (e : ∀ b, G b ↔ F b) : OwnF k T w v xs G := by
  obtain ⟨css, Fs, h1, h2, h3, h4, h5, h6⟩ := h.ex
  exact ⟨css, Fs, h1, h2, h3, h4, h5, fun b => (e b).trans (h6 b)⟩
theorem all_len {k : Od α} {css : List (List Value)} {Fs : Nat → Nat → Prop} (h1 : css.length = xs.length) (h2 : ∀ (i : Nat) (x : α) (cs : List Value), xs[i]? = some x → css[i]? = some cs → k.O w x cs (Fs i)) : ∀ cs ∈ css, cs.length = k.kd.size := by
  intro cs hcs
  obtain ⟨i, hi⟩ := List.mem_iff_getElem?.1 hcs
  obtain ⟨x, hx⟩ := get_some xs i (by rw [← h1]; exact (List.getElem?_eq_some_iff.1 hi).1)
  exact k.len (h2 i x cs hx hi)
/-- What reads of it when blocks that it doesn't own are hid. -/
theorem OwnF.readS (h : OwnF k T w v xs F) {S : Nat → Bool} (hS : ∀ b, F b → S b = false) : ∃ A c, v = .slice A xs.length c ∧ xs.length ≤ c ∧ c ≤ maxLen ∧ k.kd.C (hideW w S) A xs := by
  obtain ⟨css, Fs, h1, h2, h3, h4, h5, h6⟩ := h.ex
  have hr := h3.2
  rcases hr with ⟨rfl, h7⟩ | ⟨g, cap, cur, rfl, h7, h8, h9, h10, h11, h12⟩
  · have : xs = [] := List.eq_nil_of_length_eq_zero h7
    subst this
    exact ⟨none, 0, rfl, Nat.le_refl _, Nat.zero_le _, C_nil k.kd _ none⟩
  · refine ⟨_, _, rfl, h9, h10, fun i x hx => ?_⟩
    have hi := (List.getElem?_eq_some_iff.1 hx).1
    obtain ⟨cs, hcs⟩ := get_some css i (by rw [h1]; exact hi)
    refine ⟨_, cs, rfl, k.rd (h2 i x cs hx hcs) (fun b hb => hS b ((h6 b).2 (.inr ⟨i, hi, hb⟩))), fun j u hu => ?_⟩
    have hb : ((⟨g, 0, none⟩ : Addr).add (i * k.kd.size + j)).block = g := by unfold Addr.add; split <;> rfl
    exact hide_cell.2 ⟨by rw [hb]; exact hS g ((h6 g).2 (.inl rfl)), h3.cells rfl _ u (flatten_get (all_len h1 h2) hcs hu)⟩
theorem OwnF.read (h : OwnF k T w v xs F) : ∃ A c, v = .slice A xs.length c ∧ xs.length ≤ c ∧ c ≤ maxLen ∧ k.kd.C w A xs := by
  obtain ⟨A, c, e, h1, h2, h3⟩ := h.readS (S := noS) (fun _ _ => rfl)
  exact ⟨A, c, e, h1, h2, Kd.C_sub hide_sub h3⟩

/-- Its row, one element's cells being whatever they are; F: its row's block, and the blocks of the other elements. -/
structure HoleF (k : Od α) (T : TypeId) (w : World) (g cap : Nat) (xs : List α) (i : Nat) (cs : List Value) (F : Nat → Prop) : Prop where
  hi : i < xs.length
  ex : ∃ (css : List (List Value)) (Fs : Nat → Nat → Prop), css.length = xs.length ∧ css[i]? = some cs ∧ cs.length = k.kd.size ∧ (∀ (j : Nat) (x : α) (ds : List Value), j ≠ i → xs[j]? = some x → css[j]? = some ds → k.O w x ds (Fs j)) ∧ w.ownsRow 0 T k.kd.size (.slice (some ⟨g, 0, none⟩) xs.length cap) xs.length css.flatten ∧
    (∀ j l b, j < xs.length → l < xs.length → j ≠ i → l ≠ i → j ≠ l → Fs j b → ¬ Fs l b) ∧ (∀ j b, j < xs.length → j ≠ i → Fs j b → g ≠ b) ∧ (∀ b, F b ↔ b = g ∨ ∃ j, j < xs.length ∧ j ≠ i ∧ Fs j b)

theorem OwnF.open_ (h : OwnF k T w v xs F) {i : Nat} {x : α} (hx : xs[i]? = some x) : ∃ g cap cs Fi F0, v = .slice (some ⟨g, 0, none⟩) xs.length cap ∧ xs.length ≤ cap ∧ cap ≤ maxLen ∧ HoleF k T w g cap xs i cs F0 ∧ k.O w x cs Fi ∧ (∀ b, Fi b → ¬ F0 b) ∧ (∀ b, F b ↔ F0 b ∨ Fi b) := by
  obtain ⟨css, Fs, h1, h2, h3, h4, h5, h6⟩ := h.ex
  have hi := (List.getElem?_eq_some_iff.1 hx).1
  rcases h3.2 with ⟨rfl, h7⟩ | ⟨g, cap, cur, rfl, h7, h8, h9, h10, h11, h12⟩
  · omega
  · obtain ⟨cs, hcs⟩ := get_some css i (by rw [h1]; exact hi)
    refine ⟨g, cap, cs, Fs i, fun b => b = g ∨ ∃ j, j < xs.length ∧ j ≠ i ∧ Fs j b, rfl, h9, h10, ⟨hi, css, Fs, h1, hcs, k.len (h2 i x cs hx hcs), fun j y ds _ hy hds => h2 j y ds hy hds, h3, fun j l b hj hl _ _ hjl => h4 j l b hj hl hjl, fun j b hj _ hf => fun e => h5 j b hj hf (by rw [← e]; rfl), fun b => Iff.rfl⟩, h2 i x cs hx hcs, ?_, ?_⟩
    · rintro b hb (rfl | ⟨j, hj, hji, hf⟩)
      · exact h5 i b hi hb rfl
      · exact h4 j i b hj hi hji hf hb
    · intro b
      rw [h6 b]
      constructor
      · rintro (e | ⟨j, hj, hf⟩)
        · injection e with e; exact .inl (.inl e.symm)
        · by_cases hji : j = i
          · subst hji; exact .inr hf
          · exact .inl (.inr ⟨j, hj, hji, hf⟩)
      · rintro ((rfl | ⟨j, hj, hji, hf⟩) | hf)
        · exact .inl rfl
        · exact .inr ⟨j, hj, hf⟩
        · exact .inr ⟨i, hi, hf⟩

variable {g cap i : Nat} {cs : List Value}
theorem flatten_set {s : Nat} : ∀ {css : List (List Value)} {i j : Nat} {cs : List Value} (u : Value), (∀ c ∈ css, c.length = s) → css[i]? = some cs → j < s → css.flatten.set (i * s + j) u = (css.set i (cs.set j u)).flatten
  | [], i, j, cs, u, _, h, _ => by simp at h
  | c :: r, 0, j, cs, u, hl, h, hj => by
    simp at h
    subst h
    have hc := hl c (by simp)
    rw [List.flatten_cons, Nat.zero_mul, Nat.zero_add, List.set_append_left _ _ (by omega)]
    rfl
  | c :: r, i + 1, j, cs, u, hl, h, hj => by
    have hc := hl c (by simp)
    have e : (i + 1) * s + j - c.length = i * s + j := by rw [hc, Nat.succ_mul]; omega
    rw [List.flatten_cons, List.set_append_right _ _ (by rw [hc, Nat.succ_mul]; omega), e, flatten_set u (fun c h => hl c (by simp [h])) (by simpa using h) hj]
    rfl
theorem HoleF.hall (h : HoleF k T w g cap xs i cs F) : ∃ css : List (List Value), css[i]? = some cs ∧ (∀ c ∈ css, c.length = k.kd.size) ∧ w.ownsRow 0 T k.kd.size (.slice (some ⟨g, 0, none⟩) xs.length cap) xs.length css.flatten := by
  obtain ⟨css, Fs, h1, h2, h2', h3, h4, h5, h6, h7⟩ := h.ex
  refine ⟨css, h2, fun c hc => ?_, h4⟩
  obtain ⟨j, hj⟩ := List.mem_iff_getElem?.1 hc
  by_cases hji : j = i
  · subst hji; rw [hj] at h2; injection h2 with e; rw [e]; exact h2'
  · obtain ⟨x, hx⟩ := get_some xs j (by rw [← h1]; exact (List.getElem?_eq_some_iff.1 hj).1)
    exact k.len (h3 j x c hji hx hj)
theorem HoleF.cell (h : HoleF k T w g cap xs i cs F) {j : Nat} {u : Value} (hu : cs[j]? = some u) : w.cell? ⟨g, i * k.kd.size + j, none⟩ = some u := by
  obtain ⟨css, h1, h2, h3⟩ := h.hall
  have := h3.cells rfl _ u (flatten_get h2 h1 hu)
  rwa [show (⟨g, 0, none⟩ : Addr).add (i * k.kd.size + j) = ⟨g, i * k.kd.size + j, none⟩ from by
    unfold Addr.add
    split
    · rename_i e; rw [e]
    · simp] at this
theorem HoleF.frozen (h : HoleF k T w g cap xs i cs F) (j : Nat) : w.frozen? ⟨g, j, none⟩ = false := by
  obtain ⟨css, h1, h2, h3⟩ := h.hall
  exact h3.frozenAt j
theorem HoleF.lt (h : HoleF k T w g cap xs i cs F) : ∀ b, F b → b < w.heap.size := by
  obtain ⟨css, Fs, h1, h2, h2', h3, h4, h5, h6, h7⟩ := h.ex
  intro b hb
  rcases (h7 b).1 hb with rfl | ⟨j, hj, hji, hf⟩
  · exact (h4.lt b rfl).2
  · obtain ⟨x, hx⟩ := get_some xs j hj
    obtain ⟨ds, hds⟩ := get_some css j (by rw [h1]; exact hj)
    exact k.lt (h3 j x ds hji hx hds) b hf
theorem HoleF.row (h : HoleF k T w g cap xs i cs F) : F g := by
  obtain ⟨css, Fs, h1, h2, h2', h3, h4, h5, h6, h7⟩ := h.ex
  exact (h7 g).2 (.inl rfl)
theorem HoleF.keep (h : HoleF k T w g cap xs i cs F) (hb : ∀ b, F b → w'.heap[b]? = w.heap[b]?) : HoleF k T w' g cap xs i cs F := by
  obtain ⟨css, Fs, h1, h2, h2', h3, h4, h5, h6, h7⟩ := h.ex
  exact ⟨h.hi, css, Fs, h1, h2, h2', fun j x ds hji hx hds => k.keep (h3 j x ds hji hx hds) (fun b hf => hb b ((h7 b).2 (.inr ⟨j, (List.getElem?_eq_some_iff.1 hx).1, hji, hf⟩))), ownsRow_same h4 (fun g' hg => hb g' ((h7 g').2 (.inl (by injection hg with e; exact e.symm)))), h5, h6, h7⟩
theorem HoleF.below (h : HoleF k T w g cap xs i cs F) (hb : Below w.heap.size w w') : HoleF k T w' g cap xs i cs F := h.keep fun b hf => hb.block b (h.lt b hf)
theorem HoleF.grown (h : HoleF k T w g cap xs i cs F) {r : Option Nat} (hg : w.grownBy w' r) (hr : ∀ b, F b → r ≠ some b) : HoleF k T w' g cap xs i cs F := h.keep fun b hf => hg.block b (h.lt b hf) (fun e => hr b hf e.symm)
theorem grown_none (w : World) (r : Option Nat) : w.grownBy w r := ⟨rfl, rfl, rfl, Nat.le_refl _, fun _ _ _ => rfl⟩
theorem grown_set (w : World) (g j : Nat) (u : Value) : w.grownBy (w.setCell ⟨g, j, none⟩ u) (some g) := ⟨rfl, rfl, rfl, by simp, fun k _ hk => heap_setCell_other w ⟨g, j, none⟩ k _ (fun e => hk (by simp [e]))⟩
theorem HoleF.set (h : HoleF k T w g cap xs i cs F) {j : Nat} (hj : j < k.kd.size) (u : Value) : HoleF k T (w.setCell ⟨g, i * k.kd.size + j, none⟩ u) g cap xs i (cs.set j u) F := by
  obtain ⟨css, hc1, hc2, -⟩ := h.hall
  obtain ⟨css, Fs, h1, h2, h2', h3, h4, h5, h6, h7⟩ := h.ex
  have hlen : ∀ c ∈ css, c.length = k.kd.size := by
    intro c hc
    obtain ⟨j, hj⟩ := List.mem_iff_getElem?.1 hc
    by_cases hji : j = i
    · subst hji; rw [hj] at h2; injection h2 with e; rw [e]; exact h2'
    · obtain ⟨x, hx⟩ := get_some xs j (by rw [← h1]; exact (List.getElem?_eq_some_iff.1 hj).1)
      exact k.len (h3 j x c hji hx hj)
  refine ⟨h.hi, css.set i (cs.set j u), Fs, by simp [h1], by rw [List.getElem?_set, if_pos rfl, if_pos (by rw [h1]; exact h.hi)], by simp [h2'], fun l x ds hl hx hds => ?_, ?_, h5, h6, h7⟩
  · rw [List.getElem?_set, if_neg (fun e => hl e.symm)] at hds
    refine k.keep (h3 l x ds hl hx hds) (fun b hf => heap_setCell_other w ⟨g, i * k.kd.size + j, none⟩ b u (fun e => ?_))
    exact h6 l b (List.getElem?_eq_some_iff.1 hx).1 hl hf e.symm
  · rw [← flatten_set u hlen h2 hj]
    exact (h4.stored _ u).1
theorem HoleF.close (h : HoleF k T w g cap xs i cs F) {y : α} {Gi : Nat → Prop} (hy : k.O w y cs Gi) (hd : ∀ b, Gi b → ¬ F b) : OwnF k T w (.slice (some ⟨g, 0, none⟩) xs.length cap) (xs.set i y) (fun b => F b ∨ Gi b) := by
  obtain ⟨css, Fs, h1, h2, h2', h3, h4, h5, h6, h7⟩ := h.ex
  have hi := h.hi
  refine ⟨css, fun j b => if j = i then Gi b else Fs j b, by simp [h1], fun j x ds hx hds => ?_, by simpa using h4, fun j l b hj hl hjl => ?_, fun j b hj => ?_, fun b => ?_⟩
  · by_cases hji : j = i
    · subst hji
      rw [h2] at hds
      injection hds with e
      subst e
      rw [List.getElem?_set, if_pos rfl, if_pos hi] at hx
      injection hx with e
      subst e
      simpa using hy
    · rw [List.getElem?_set, if_neg (fun e => hji e.symm)] at hx
      simpa [hji] using h3 j x ds hji hx hds
  · rw [List.length_set] at hj hl
    by_cases hji : j = i
    · subst hji
      have hli : ¬ l = j := fun e => hjl e.symm
      simp only [if_pos, hli, if_false, ite_true, ite_false]
      exact fun hb hf => hd b hb ((h7 b).2 (.inr ⟨l, hl, hli, hf⟩))
    · by_cases hli : l = i
      · subst hli
        simp only [hji, ite_true, ite_false]
        exact fun hf hb => hd b hb ((h7 b).2 (.inr ⟨j, hj, hji, hf⟩))
      · simp only [hji, hli, ite_false]
        exact h5 j l b hj hl hji hli hjl
  · rw [List.length_set] at hj
    intro hf e
    injection e with e
    by_cases hji : j = i
    · subst hji
      simp at hf
      exact hd b hf ((h7 b).2 (.inl e.symm))
    · simp only [hji, ite_false] at hf
      exact h6 j b hj hji hf e
  · rw [List.length_set, h7 b]
    constructor
    · rintro ((rfl | ⟨j, hj, hji, hf⟩) | hb)
      · exact .inl rfl
      · exact .inr ⟨j, hj, by simpa [hji] using hf⟩
      · exact .inr ⟨i, hi, by simpa using hb⟩
    · rintro (e | ⟨j, hj, hf⟩)
      · injection e with e; exact .inl (.inl e.symm)
      · by_cases hji : j = i
        · subst hji; exact .inr (by simpa using hf)
        · exact .inl (.inr ⟨j, hj, hji, by simpa [hji] using hf⟩)
end
end Go.Proofs.Ythnkikdbllkmkaa
namespace Go.Proofs.Ythnkikdbllkmkaa
set_option linter.unusedVariables false
set_option linter.unusedSimpArgs false
open Go.RowKit

/-- A row of new elements at an address, their parts in blocks apart. -/
structure YF {α : Type} (k : Od α) (w : World) (A : Option Addr) (ys : List α) (G : Nat → Prop) : Prop where
  ex : ∃ (dss : List (List Value)) (Gs : Nat → Nat → Prop), dss.length = ys.length ∧ (∀ (i : Nat) (y : α) (ds : List Value), ys[i]? = some y → dss[i]? = some ds → k.O w y ds (Gs i)) ∧ (A = none → ys = []) ∧ (∀ ad, A = some ad → ∀ j u, dss.flatten[j]? = some u → w.cell? (ad.add j) = some u) ∧
    (∀ i j b, i < ys.length → j < ys.length → i ≠ j → Gs i b → ¬ Gs j b) ∧ (∀ b, G b ↔ ∃ i, i < ys.length ∧ Gs i b)

theorem YF.flat {α : Type} {kd : Kd α} {hk : ∀ {w w' : World} {x : α} {cs : List Value}, kd.K w x cs → kd.K w' x cs} {w : World} {A : Option Addr} {ys : List α} (h : kd.C w A ys) : YF (Od.flat kd hk) w A ys noF := by
  cases A with
  | none =>
    have hys : ys = [] := by
      cases ys with
      | nil => rfl
      | cons y r =>
        obtain ⟨ad, cs, e, _⟩ := h 0 y rfl
        cases e
    subst hys
    exact ⟨[], fun _ _ => False, rfl, fun i x cs h => by simp at h, fun _ => rfl, fun ad e => by (cases e), fun i j b hi => by simp at hi, fun b => ⟨fun h => h.elim, fun ⟨i, hi, _⟩ => by simp at hi⟩⟩
  | some ad =>
    obtain ⟨dss, d1, d2, d3⟩ := C_cells (Kd.C2_flat (w' := w) (fun _ _ h => h) h)
    exact ⟨dss, fun _ _ => False, d1, fun i y ds hy hds => ⟨fun b h => h, d2 i y ds hy hds⟩, fun e => by (cases e), fun ad' e => by (injection e with e; subst e; exact d3), fun i j b _ _ _ h => h.elim, fun b => ⟨fun h => h.elim, fun ⟨i, _, h⟩ => h.elim⟩⟩
/-- One new element, in a new block. -/
theorem YF.one {α : Type} {k : Od α} {W : World} {b : Nat} (hb : b = W.heap.size) {T : TypeId} {x : α} {cells : Array Value} {G : Nat → Prop} (h : k.O W x cells.toList G) : YF k (W.alloc (.cells cells T)) (some ⟨b, 0, none⟩) [x] G := by
  subst hb
  refine ⟨[cells.toList], fun _ => G, rfl, fun i y ds hy hds => ?_, fun e => by (cases e), fun ad e j u hu => ?_, fun i j b hi hj hij => by simp at hi hj; omega, fun b => ⟨fun h => ⟨0, by simp, h⟩, fun ⟨_, _, h⟩ => h⟩⟩
  · cases i with
    | zero =>
      simp at hy hds
      subst hy hds
      exact k.keep h (fun b' hb' => ((Below.refl _ _).alloc (Nat.le_refl _) _).block b' (k.lt h b' hb'))
    | succ i => simp at hy
  · injection e with e
    subst e
    have ha : (⟨W.heap.size, 0, none⟩ : Addr).add j = ⟨W.heap.size, j, none⟩ := by
      unfold Addr.add
      by_cases h0 : j = 0
      · rw [if_pos (by simpa using h0), h0]
      · rw [if_neg (by simpa using h0)]; simp
    rw [ha]
    simp at hu
    simp [hu]

/-- What append leaves: the new slice in old or new blocks; no other block has turned. -/
structure GrewF {α : Type} (k : Od α) (T : TypeId) (w w' : World) (v v' : Value) (zs : List α) (F G : Nat → Prop) : Prop where
  own : ∃ F', OwnF k T w' v' zs F' ∧ ∀ b, F' b → F b ∨ G b ∨ w.heap.size ≤ b
  grown : w.grownBy w' v.ownBlock

theorem run_append_f {α : Type} {k : Od α} {T U ty : TypeId} {z : Value} {bytes : Nat} (el : ElK k.kd T U z bytes)
    {w : World} {v : Value} {xs ys : List α} {F G : Nat → Prop} {A : Option Addr} {c : Nat} (hown : OwnF k T w v xs F) (hY : YF k w A ys G) (hd : ∀ b, F b → ¬ G b)
    (hl : xs.length + ys.length ≤ 100000000) : ∃ v' w', (Builtin.append_ #[U, U] ty #[v, .slice A ys.length c]).run Try.prog w = .ok v' w' ∧ GrewF k T w w' v v' (xs ++ ys) F G := by
  obtain ⟨i0, hi, hz0, hz1, hz2⟩ := info_parts el.info
  obtain ⟨css, Fs, h1, h2, h3, h4, h5, h6⟩ := hown.ex
  obtain ⟨dss, Gs, d1, d2, d3, d4, d5, d6⟩ := hY.ex
  cases A with
  | none =>
    have hys := d3 rfl
    subst hys
    refine ⟨v, w, run_append_nil U ty T i0 k.kd.size 0 el.under hi v xs.length c css.flatten h3, ⟨F, by rw [List.append_nil]; exact hown, fun b hb => .inl hb⟩, grown_none w _⟩
  | some ad =>
    have hall : ∀ cs ∈ dss, cs.length = k.kd.size := all_len d1 d2
    have hflat : ∀ (l : List (List Value)), (∀ cs ∈ l, cs.length = k.kd.size) → l.flatten.length = l.length * k.kd.size := by
      intro l hl
      induction l with
      | nil => simp
      | cons c r ih => rw [List.flatten_cons, List.length_append, hl c (by simp), ih (fun cs hcs => hl cs (by simp [hcs])), List.length_cons, Nat.succ_mul, Nat.add_comm]
    obtain ⟨v', w', hr, ho', hg, _, hv⟩ := run_append_own_at (P := Try.prog) w 0 U ty T i0 z k.kd.size bytes el.under hi hz0 hz1 hz2 el.zs el.pos v xs.length css.flatten h3 ad ys.length c dss.flatten (by rw [hflat dss hall, d1]) (d4 ad rfl) (by
      intro u hu
      rw [List.mem_flatten] at hu
      obtain ⟨cs, hcs, hu⟩ := hu
      obtain ⟨i, hi⟩ := List.mem_iff_getElem?.1 hcs
      obtain ⟨x, hx⟩ := get_some ys i (by rw [← d1]; exact (List.getElem?_eq_some_iff.1 hi).1)
      exact k.kd.one (k.kK (d2 i x cs hx hi)) u hu) (by unfold maxLen; omega) (Nat.le_trans (Nat.mul_le_mul hl el.small) (by decide)) (Nat.zero_le _)
    refine ⟨v', w', hr, ⟨_, ⟨css ++ dss, fun i b => if i < xs.length then Fs i b else Gs (i - xs.length) b, by simp [h1, d1], fun i x cs hx hcs => ?_, by rw [List.length_append, List.flatten_append]; exact ho', fun i j b hil hjl hij => ?_, fun i b hil => ?_, fun b => Iff.rfl⟩, ?_⟩, hg⟩
    · by_cases hlt : i < xs.length
      · rw [List.getElem?_append_left hlt] at hx
        rw [List.getElem?_append_left (by rw [h1]; exact hlt)] at hcs
        have ho := h2 i x cs hx hcs
        simp only [hlt, ite_true]
        exact k.keep ho (fun b hb => hg.block b (k.lt ho b hb) (fun e => h5 i b hlt hb e.symm))
      · rw [List.getElem?_append_right (by omega)] at hx
        rw [List.getElem?_append_right (by omega), h1] at hcs
        have ho := d2 _ x cs hx hcs
        simp only [hlt, ite_false]
        exact k.keep ho (fun b hb => hg.block b (k.lt ho b hb) (fun e => hd b ((h6 b).2 (.inl e.symm)) ((d6 b).2 ⟨_, (List.getElem?_eq_some_iff.1 hx).1, hb⟩)))
    · rw [List.length_append] at hil hjl
      by_cases hi' : i < xs.length <;> by_cases hj' : j < xs.length <;> simp only [hi', hj', ite_true, ite_false]
      · exact h4 i j b hi' hj' hij
      · exact fun hf hgb => hd b ((h6 b).2 (.inr ⟨i, hi', hf⟩)) ((d6 b).2 ⟨_, by omega, hgb⟩)
      · exact fun hgb hf => hd b ((h6 b).2 (.inr ⟨j, hj', hf⟩)) ((d6 b).2 ⟨_, by omega, hgb⟩)
      · exact d5 _ _ b (by omega) (by omega) (by omega)
    · rw [List.length_append] at hil
      intro hf e
      by_cases hi' : i < xs.length
      · simp only [hi', ite_true] at hf
        rcases hv with ev | ev
        · rw [ev] at e; exact h5 i b hi' hf e
        · rw [ev] at e; injection e with e
          have := hown.lt b ((h6 b).2 (.inr ⟨i, hi', hf⟩)); omega
      · simp only [hi', ite_false] at hf
        have hgb := (d6 b).2 ⟨_, by omega, hf⟩
        rcases hv with ev | ev
        · rw [ev] at e; exact hd b ((h6 b).2 (.inl e)) hgb
        · rw [ev] at e; injection e with e
          obtain ⟨y, hy⟩ := get_some ys (i - xs.length) (by omega)
          obtain ⟨ds, hds⟩ := get_some dss (i - xs.length) (by omega)
          have := k.lt (d2 _ y ds hy hds) b hf; omega
    · rintro b (e | ⟨i, hil, hf⟩)
      · rcases hv with ev | ev
        · rw [ev] at e; exact .inl ((h6 b).2 (.inl e))
        · rw [ev] at e; injection e with e; exact .inr (.inr (by omega))
      · rw [List.length_append] at hil
        by_cases hi' : i < xs.length
        · simp only [hi', ite_true] at hf; exact .inl ((h6 b).2 (.inr ⟨i, hi', hf⟩))
        · simp only [hi', ite_false] at hf; exact .inr (.inl ((d6 b).2 ⟨_, by omega, hf⟩))

theorem wp_append_f {α : Type} {k : Od α} {T U : TypeId} {z : Value} {bytes : Nat} (el : ElK k.kd T U z bytes) {o : Oper} {a : Act} {K : Act → World → Prop} {Q : Exit → Act → World → Prop} (s x : Operand)
    (ho : o.op = .call { callee := .builtin .append, args := #[s, x], argTypes := #[U, U] }) {w : World} {v : Value} {xs ys : List α} {F G : Nat → Prop} {A : Option Addr} {c : Nat} (hown : OwnF k T w v xs F) (hY : YF k w A ys G) (hd : ∀ b, F b → ¬ G b) (hs : a.eval s = v) (hx : a.eval x = .slice A ys.length c)
    (hl : xs.length + ys.length ≤ 100000000) (h : ∀ v' w', GrewF k T w w' v v' (xs ++ ys) F G → K (a.put o.dst v') w') : Oper.wp Try.prog o a w K Q := by
  obtain ⟨v', w', hr, hg⟩ := run_append_f (ty := o.type) (c := c) el hown hY hd hl
  unfold Oper.wp execOp
  simp only [ho, resolve, invoke, builtin, Sem.run_bind, Sem.run_pure, Result.andThen_ok, List.map_toArray, List.map_cons, List.map_nil, hs, hx, hr]
  exact h v' w' hg
theorem wpList_append_f {α : Type} {k : Od α} {T U : TypeId} {z : Value} {bytes : Nat} (el : ElK k.kd T U z bytes) {ops : Array Oper} {rest : List Oper} {o : Oper} {a : Act} {Q : Exit → Act → World → Prop} (hgd : o.guard = none) (s x : Operand)
    (ho : o.op = .call { callee := .builtin .append, args := #[s, x], argTypes := #[U, U] }) {w : World} {v : Value} {xs ys : List α} {F G : Nat → Prop} {A : Option Addr} {c : Nat} (hown : OwnF k T w v xs F) (hY : YF k w A ys G) (hd : ∀ b, F b → ¬ G b) (hs : a.eval s = v) (hx : a.eval x = .slice A ys.length c)
    (hl : xs.length + ys.length ≤ 100000000) (h : ∀ v' w', GrewF k T w w' v v' (xs ++ ys) F G → wpList Try.prog ops Q rest (a.put o.dst v') w') : wpList Try.prog ops Q (o :: rest) a w :=
  wpList_plain hgd fun _ hK => wp_append_f el s x ho hown hY hd hs hx hl fun v' w' hg => hK _ _ (h v' w' hg)
/-- At a step of a region that draws its order. -/
theorem step_append_f {α : Type} {k : Od α} {T U : TypeId} {z : Value} {bytes : Nat} (el : ElK k.kd T U z bytes) {ops : Array Oper} {o : Oper} {a : Act} {K : Act → World → Prop} {Q : Exit → Act → World → Prop} {E : Prop} (hgd : o.guard = none) (s x : Operand)
    (ho : o.op = .call { callee := .builtin .append, args := #[s, x], argTypes := #[U, U] }) {w : World} {v : Value} {xs ys : List α} {F G : Nat → Prop} {A : Option Addr} {c : Nat} (hown : OwnF k T w v xs F) (hY : YF k w A ys G) (hd : ∀ b, F b → ¬ G b) (hs : a.eval s = v) (hx : a.eval x = .slice A ys.length c)
    (hl : xs.length + ys.length ≤ 100000000) (h : ∀ v' w', GrewF k T w w' v v' (xs ++ ys) F G → K (a.put o.dst v') w') : if Region.wanted o (yielded ops a.tmps) = true then Oper.wp Try.prog o a w K Q else E := by
  have hw : Region.wanted o (yielded ops a.tmps) = true := by simp [Region.wanted, hgd]
  rw [if_pos hw]
  exact wp_append_f el s x ho hown hY hd hs hx hl h

/-- A row of flat values, made at once. -/
theorem OwnF.lit {α : Type} {kd : Kd α} {hk : ∀ {w w' : World} {x : α} {cs : List Value}, kd.K w x cs → kd.K w' x cs} (T : TypeId) (w : World) (xs : List α) (css : List (List Value)) (cells : Array Value) (hc : cells.toList = css.flatten) (hl : css.length = xs.length) (hx : xs.length ≤ maxLen) (hK : ∀ (i : Nat) (x : α) (cs : List Value), xs[i]? = some x → css[i]? = some cs → kd.K w x cs) :
    OwnF (Od.flat kd hk) T (w.alloc (.cells cells T)) (.slice (some ⟨w.heap.size, 0, none⟩) xs.length xs.length) xs (fun b => b = w.heap.size) := by
  have hall : ∀ cs ∈ css, cs.length = kd.size := by
    intro cs hcs
    obtain ⟨i, hi⟩ := List.mem_iff_getElem?.1 hcs
    obtain ⟨x, hx⟩ := get_some xs i (by rw [← hl]; exact (List.getElem?_eq_some_iff.1 hi).1)
    exact kd.len (hK i x cs hx hi)
  have hflat : ∀ (l : List (List Value)), (∀ cs ∈ l, cs.length = kd.size) → l.flatten.length = l.length * kd.size := by
    intro l hl
    induction l with
    | nil => simp
    | cons c r ih => rw [List.flatten_cons, List.length_append, hl c (by simp), ih (fun cs hcs => hl cs (by simp [hcs])), List.length_cons, Nat.succ_mul, Nat.add_comm]
  refine ⟨css, fun _ _ => False, hl, fun i x cs hx hcs => ⟨fun _ h => h, hk (hK i x cs hx hcs)⟩, ?_, fun i j b _ _ _ h => h.elim, fun i b _ h => h.elim, fun b => ⟨fun h => .inl (by rw [h]; rfl), fun h => by rcases h with h | ⟨i, _, h⟩; injection h with h; exact h.symm; exact h.elim⟩⟩
  rw [← hc]
  exact World.ownsRow_lit w cells xs.length (Nat.zero_le _) hx (by rw [← Array.length_toList, hc, hflat css hall, hl]; rfl)
/-- Its first elements. -/
theorem OwnF.take {α : Type} {k : Od α} {T : TypeId} {w : World} {g cap n : Nat} {xs : List α} {F : Nat → Prop} (h : OwnF k T w (.slice (some ⟨g, 0, none⟩) xs.length cap) xs F) (hn : n ≤ xs.length) : ∃ F', OwnF k T w (.slice (some ⟨g, 0, none⟩) n cap) (xs.take n) F' ∧ ∀ b, F' b → F b := by
  obtain ⟨css, Fs, h1, h2, h3, h4, h5, h6⟩ := h.ex
  have hall := all_len h1 h2
  have hflat : ∀ (n : Nat) (l : List (List Value)), (∀ cs ∈ l, cs.length = k.kd.size) → n ≤ l.length → (l.take n).flatten = l.flatten.take (n * k.kd.size) := by
    intro n
    induction n with
    | zero => intro l _ _; simp
    | succ n ih =>
      intro l hl hn
      cases l with
      | nil => simp
      | cons c r =>
        have hc := hl c (by simp)
        have e : (n + 1) * k.kd.size = c.length + n * k.kd.size := by rw [hc, Nat.succ_mul]; omega
        rw [List.take_succ_cons, List.flatten_cons, List.flatten_cons, ih r (fun cs h => hl cs (by simp [h])) (by simpa using hn), e, List.take_length_add_append]
  have hlen : (xs.take n).length = n := by simp; omega
  refine ⟨_, ⟨css.take n, Fs, by simp [h1], fun i x cs hx hcs => ?_, ?_, fun i j b hi hj => ?_, fun i b hi hf => ?_, fun b => Iff.rfl⟩, fun b hb => ?_⟩
  · have hi : i < n := by have := (List.getElem?_eq_some_iff.1 hx).1; simp at this; omega
    rw [List.getElem?_take_of_lt hi] at hx hcs
    exact h2 i x cs hx hcs
  · rcases h3 with ⟨q1, q2 | ⟨g', cap', cur, e, q3, q4, q5, q6, q7, q8⟩⟩
    · cases q2.1
    · injection e with e1 e2 e3
      rw [hlen, hflat n css hall (by omega)]
      have hle : n * k.kd.size ≤ xs.length * k.kd.size := Nat.mul_le_mul_right _ hn
      refine ⟨by rw [List.length_take, q1]; omega, .inr ⟨g', cap', cur, by rw [e1, e3], q3, q4, by omega, q6, q7, by rw [← q8, List.take_take, Nat.min_eq_left hle]⟩⟩
  · rw [hlen] at hi hj
    exact h4 i j b (by omega) (by omega)
  · rw [hlen] at hi
    exact h5 i b (by omega) hf
  · rcases hb with e | ⟨i, hi, hf⟩
    · exact (h6 b).2 (.inl e)
    · rw [hlen] at hi
      exact (h6 b).2 (.inr ⟨i, by omega, hf⟩)
theorem OwnF.takeA {α : Type} {k : Od α} {T : TypeId} {w : World} {A : Option Addr} {cap n : Nat} {xs : List α} {F : Nat → Prop} (h : OwnF k T w (.slice A xs.length cap) xs F) (hn : n ≤ xs.length) (hp : 0 < xs.length) : ∃ F', OwnF k T w (.slice A n cap) (xs.take n) F' ∧ ∀ b, F' b → F b := by
  obtain ⟨x, hx⟩ := get_some xs 0 hp
  obtain ⟨g, cap', cs, Fi, FF, e, -⟩ := h.open_ hx
  injection e with e1 e2 e3
  subst e1 e3
  exact h.take hn
end Go.Proofs.Ythnkikdbllkmkaa
namespace Go.Proofs.Ythnkikdbllkmkaa
set_option linter.unusedVariables false
set_option linter.unusedSimpArgs false
open Go.RowKit

def oOp : Od Op := Od.flat kOp kOp_any
def finCells (t : Term) : List Value := [.int .i64 t.kind, .int .i64 t.op, .int .i64 t.a, .int .i64 t.b, .int .i64 t.to, .int .i64 t.els, .int .i64 t.ins.op, .int .i64 t.ins.a, .int .i64 t.ins.b, .int .i64 t.ins.c, .int .i64 t.ins.imm]
def blockCells (v : Value) (b : Block) : List Value := v :: finCells b.fin
def oBlock : Od Block where
  kd := kBlock
  O := fun w b cs F => ∃ v, cs = blockCells v b ∧ b.wf ∧ OwnF oOp 66 w v b.ops F
  rd := by
    rintro w x cs F ⟨v, rfl, hwf, ho⟩ S hS
    obtain ⟨A, c, rfl, l, m, hC⟩ := ho.readS hS
    exact kBlock_mk _ x hwf l m hC
  lt := fun ⟨v, _, _, ho⟩ => ho.lt
  keep := fun ⟨v, e, hw, ho⟩ hb => ⟨v, e, hw, ho.keep hb⟩
def graphCells (v : Value) (g : Graph) : List Value := [.string g.name, .bool g.keep, .bool g.leaf, v]
def oGraph : Od Graph where
  kd := kGraph
  O := fun w g cs F => ∃ v, cs = graphCells v g ∧ g.wf ∧ OwnF oBlock 46 w v g.blocks F
  rd := by
    rintro w x cs F ⟨v, rfl, hwf, ho⟩ S hS
    obtain ⟨A, c, rfl, l, m, hC⟩ := ho.readS hS
    exact kGraph_mk _ x hwf l m hC
  lt := fun ⟨v, _, _, ho⟩ => ho.lt
  keep := fun ⟨v, e, hw, ho⟩ hb => ⟨v, e, hw, ho.keep hb⟩
end Go.Proofs.Ythnkikdbllkmkaa
namespace Go.Proofs.Ythnkikdbllkmkaa
set_option linter.unusedVariables false
set_option linter.unusedSimpArgs false
open Go.RowKit

def Row (w : World) (g : Nat) (T : TypeId) (cs : List Value) : Prop := w.heap[g]? = some (.cells cs.toArray T (0, 0))
theorem Row.new (w : World) (T : TypeId) (cells : Array Value) : Row (w.alloc (.cells cells T)) w.heap.size T cells.toList := by
  unfold Row
  rw [heap_alloc_new]
theorem Row.lt {w : World} {g : Nat} {T : TypeId} {cs : List Value} (h : Row w g T cs) : g < w.heap.size := (Array.getElem?_eq_some_iff.1 h).1
theorem Row.keep {w w' : World} {g : Nat} {T : TypeId} {cs : List Value} (h : Row w g T cs) (hb : w'.heap[g]? = w.heap[g]?) : Row w' g T cs := hb.trans h
theorem Row.below {w w' : World} {g : Nat} {T : TypeId} {cs : List Value} (h : Row w g T cs) (hb : Below w.heap.size w w') : Row w' g T cs := h.keep (hb.block g h.lt)
theorem Row.belowAt {B : Nat} {w w' : World} {g : Nat} {T : TypeId} {cs : List Value} (h : Row w g T cs) (hb : Below B w w') (hg : g < B) : Row w' g T cs := h.keep (hb.block g hg)
theorem Row.grown {w w' : World} {g : Nat} {T : TypeId} {cs : List Value} (h : Row w g T cs) {r : Option Nat} (hg : w.grownBy w' r) (hr : r ≠ some g) : Row w' g T cs := h.keep (hg.block g h.lt (fun e => hr e.symm))
theorem Row.cell {w : World} {g : Nat} {T : TypeId} {cs : List Value} (h : Row w g T cs) {j : Nat} {u : Value} (hu : cs[j]? = some u) : w.cell? ⟨g, j, none⟩ = some u := by
  rw [cell_of_row w g j _ _ _ h]
  simpa using hu
theorem Row.frozen {w : World} {g : Nat} {T : TypeId} {cs : List Value} (h : Row w g T cs) (j : Nat) : w.frozen? ⟨g, j, none⟩ = false := frozen_of_row w g j _ _ h
theorem Row.set {w : World} {g : Nat} {T : TypeId} {cs : List Value} (h : Row w g T cs) (j : Nat) (u : Value) : Row (w.setCell ⟨g, j, none⟩ u) g T (cs.set j u) := by
  unfold Row
  rw [heap_setCell_same w g j _ _ u h]
  simp

theorem grown_tr {w w1 w2 : World} {r : Option Nat} (h : w.grownBy w1 r) (k : w1.grownBy w2 r) : w.grownBy w2 r :=
  ⟨k.os.trans h.os, k.tape.trans h.tape, k.output.trans h.output, Nat.le_trans h.size k.size, fun i hi hn => (k.block i (Nat.lt_of_lt_of_le hi h.size) hn).trans (h.block i hi hn)⟩
theorem grown_past {X w1 w2 : World} {r r2 : Option Nat} (h : X.grownBy w1 r) (k : w1.grownBy w2 r2) (hr : ∀ g, r2 = some g → X.heap.size ≤ g) : X.grownBy w2 r :=
  ⟨k.os.trans h.os, k.tape.trans h.tape, k.output.trans h.output, Nat.le_trans h.size k.size, fun i hi hn => (k.block i (Nat.lt_of_lt_of_le hi h.size) (fun e => by have := hr i e.symm; omega)).trans (h.block i hi hn)⟩
theorem Row.free4 {w : World} {g : Nat} {T : TypeId} {cs : List Value} (h : Row w g T cs) : w.frozen? ⟨g, 0, none⟩ = false ∧ w.frozen? ⟨g, 1, none⟩ = false ∧ w.frozen? ⟨g, 2, none⟩ = false ∧ w.frozen? ⟨g, 3, none⟩ = false := ⟨h.frozen _, h.frozen _, h.frozen _, h.frozen _⟩
theorem Row.free9 {w : World} {g : Nat} {T : TypeId} {cs : List Value} (h : Row w g T cs) : w.frozen? ⟨g, 0, none⟩ = false ∧ w.frozen? ⟨g, 1, none⟩ = false ∧ w.frozen? ⟨g, 2, none⟩ = false ∧ w.frozen? ⟨g, 3, none⟩ = false ∧ w.frozen? ⟨g, 4, none⟩ = false ∧ w.frozen? ⟨g, 5, none⟩ = false ∧ w.frozen? ⟨g, 6, none⟩ = false ∧ w.frozen? ⟨g, 7, none⟩ = false ∧ w.frozen? ⟨g, 8, none⟩ = false := ⟨h.frozen _, h.frozen _, h.frozen _, h.frozen _, h.frozen _, h.frozen _, h.frozen _, h.frozen _, h.frozen _⟩
theorem Row.free12 {w : World} {g : Nat} {T : TypeId} {cs : List Value} (h : Row w g T cs) : w.frozen? ⟨g, 0, none⟩ = false ∧ w.frozen? ⟨g, 1, none⟩ = false ∧ w.frozen? ⟨g, 2, none⟩ = false ∧ w.frozen? ⟨g, 3, none⟩ = false ∧ w.frozen? ⟨g, 4, none⟩ = false ∧ w.frozen? ⟨g, 5, none⟩ = false ∧ w.frozen? ⟨g, 6, none⟩ = false ∧ w.frozen? ⟨g, 7, none⟩ = false ∧ w.frozen? ⟨g, 8, none⟩ = false ∧ w.frozen? ⟨g, 9, none⟩ = false ∧ w.frozen? ⟨g, 10, none⟩ = false ∧ w.frozen? ⟨g, 11, none⟩ = false := ⟨h.frozen _, h.frozen _, h.frozen _, h.frozen _, h.frozen _, h.frozen _, h.frozen _, h.frozen _, h.frozen _, h.frozen _, h.frozen _, h.frozen _⟩
/-- All its cells stored over. -/
theorem Row.put {w : World} {g : Nat} {T : TypeId} {cs : List Value} (h : Row w g T cs) (cells : Array Value) : Row (w.setRow g cells) g T cells.toList ∧ w.grownBy (w.setRow g cells) (some g) := by
  refine ⟨?_, ⟨rfl, rfl, rfl, by simp, fun k _ hk => setRow_other w g k cells (fun e => hk (by rw [e]))⟩⟩
  unfold Row
  rw [setRow_heap w g _ cells T (0, 0) h]
/-- A store over a whole row: the world behind it by what it holds. -/
theorem wpList_put_row {ops : Array Oper} {rest : List Oper} {o : Oper} {a : Act} {w : World} {Q : Exit → Act → World → Prop} (hgd : o.guard = none) (ty : TypeId) (x y : Operand) (ho : o.op = .store ty x y)
    (g : Nat) (cs : List Value) (hx : a.eval x = .pointer (some ⟨g, 0, none⟩)) (hy : a.eval y = .agg cs.toArray) {T : TypeId} {old : List Value} (hR : Row w g T old) (hi : (Try.prog.info? ty).map (·.size) = some cs.length)
    (hold : old.length = cs.length) (h1 : ∀ v ∈ cs, v.oneCell' = true)
    (h : ∀ w', Row w' g T cs → w.grownBy w' (some g) → w'.heap.size = w.heap.size → wpList Try.prog ops Q rest (a.put o.dst undef) w') : wpList Try.prog ops Q (o :: rest) a w := by
  obtain ⟨h2, h3⟩ := hR.put cs.toArray
  exact wpList_store_row hgd ty x y ho g cs.toArray hx hy T _ hR (by simpa using hi) (by simpa using hold) (Array.all_eq_true_iff_forall_mem.2 (fun v hv => h1 v (by simpa using hv))) (h _ h2 h3 (setRow_size w g _))
theorem wp_put_row {o : Oper} {a : Act} {w : World} {K : Act → World → Prop} {Q : Exit → Act → World → Prop} (ty : TypeId) (x y : Operand) (ho : o.op = .store ty x y)
    (g : Nat) (cs : List Value) (hx : a.eval x = .pointer (some ⟨g, 0, none⟩)) (hy : a.eval y = .agg cs.toArray) {T : TypeId} {old : List Value} (hR : Row w g T old) (hi : (Try.prog.info? ty).map (·.size) = some cs.length)
    (hold : old.length = cs.length) (h1 : ∀ v ∈ cs, v.oneCell' = true)
    (h : ∀ w', Row w' g T cs → w.grownBy w' (some g) → w'.heap.size = w.heap.size → K (a.put o.dst undef) w') : Oper.wp Try.prog o a w K Q := by
  obtain ⟨h2, h3⟩ := hR.put cs.toArray
  exact wp_store_row ty x y ho g cs.toArray hx hy T _ hR (by simpa using hi) (by simpa using hold) (Array.all_eq_true_iff_forall_mem.2 (fun v hv => h1 v (by simpa using hv))) (h _ h2 h3 (setRow_size w g _))
theorem step_put_row {ops : Array Oper} {o : Oper} {a : Act} {w : World} {K : Act → World → Prop} {Q : Exit → Act → World → Prop} {E : Prop} (hgd : o.guard = none) (ty : TypeId) (x y : Operand) (ho : o.op = .store ty x y)
    (g : Nat) (cs : List Value) (hx : a.eval x = .pointer (some ⟨g, 0, none⟩)) (hy : a.eval y = .agg cs.toArray) {T : TypeId} {old : List Value} (hR : Row w g T old) (hi : (Try.prog.info? ty).map (·.size) = some cs.length)
    (hold : old.length = cs.length) (h1 : ∀ v ∈ cs, v.oneCell' = true)
    (h : ∀ w', Row w' g T cs → w.grownBy w' (some g) → w'.heap.size = w.heap.size → K (a.put o.dst undef) w') : if Region.wanted o (yielded ops a.tmps) = true then Oper.wp Try.prog o a w K Q else E := by
  have hw : Region.wanted o (yielded ops a.tmps) = true := by simp [Region.wanted, hgd]
  rw [if_pos hw]
  exact wp_put_row ty x y ho g cs hx hy hR hi hold h1 h
theorem blockCells_one {A : Option Addr} {n c : Nat} (b : Block) : ∀ v ∈ blockCells (.slice A n c) b, v.oneCell' = true := by
  intro v hv
  unfold blockCells finCells at hv
  simp only [List.mem_cons, List.not_mem_nil, or_false] at hv
  rcases hv with rfl | rfl | rfl | rfl | rfl | rfl | rfl | rfl | rfl | rfl | rfl | rfl <;> rfl
theorem graphCells_one {A : Option Addr} {n c : Nat} (x : Graph) : ∀ v ∈ graphCells (.slice A n c) x, v.oneCell' = true := by
  intro v hv
  unfold graphCells at hv
  simp only [List.mem_cons, List.not_mem_nil, or_false] at hv
  rcases hv with rfl | rfl | rfl | rfl <;> rfl
/-- Two new rows. -/
theorem two_rows (w : World) (cs ds : Array Value) (T U : TypeId) : ∃ W : World, W = (w.alloc (.cells cs T)).alloc (.cells ds U) ∧ Below w.heap.size w W ∧ W.heap.size = w.heap.size + 1 + 1 ∧ Row W w.heap.size T cs.toList ∧ Row W (w.heap.size + 1) U ds.toList := by
  have r1 := Row.new w T cs
  have e1 : (w.alloc (.cells cs T)).heap.size = w.heap.size + 1 := by simp
  have b1 := below_alloc' w (.cells cs T)
  generalize w.alloc (.cells cs T) = W1 at *
  have b2 := below_alloc' W1 (.cells ds U)
  have r2 := Row.new W1 U ds
  rw [e1] at r2
  exact ⟨_, rfl, b1.trans (b2.mono b1.size), by simp [e1], r1.below b2, r2⟩
def opCells (o : Op) : List Value := [.int .i64 o.ins.op, .int .i64 o.ins.a, .int .i64 o.ins.b, .int .i64 o.ins.c, .int .i64 o.ins.imm, .bool o.rel, .int .i64 o.kind, .int .i64 o.to, .int .i64 o.add]
theorem Row.op {w : World} {g : Nat} {T : TypeId} {o : Op} (h : Row w g T (opCells o)) : w.cell? ⟨g, 0, none⟩ = some (.int .i64 o.ins.op) ∧ w.cell? ⟨g, 1, none⟩ = some (.int .i64 o.ins.a) ∧ w.cell? ⟨g, 2, none⟩ = some (.int .i64 o.ins.b) ∧ w.cell? ⟨g, 3, none⟩ = some (.int .i64 o.ins.c) ∧ w.cell? ⟨g, 4, none⟩ = some (.int .i64 o.ins.imm) ∧ w.cell? ⟨g, 5, none⟩ = some (.bool o.rel) ∧ w.cell? ⟨g, 6, none⟩ = some (.int .i64 o.kind) ∧ w.cell? ⟨g, 7, none⟩ = some (.int .i64 o.to) ∧ w.cell? ⟨g, 8, none⟩ = some (.int .i64 o.add) :=
  ⟨h.cell rfl, h.cell rfl, h.cell rfl, h.cell rfl, h.cell rfl, h.cell rfl, h.cell rfl, h.cell rfl, h.cell rfl⟩
theorem Row.block {w : World} {g : Nat} {T : TypeId} {b : Block} {v : Value} (h : Row w g T (blockCells v b)) : w.cell? ⟨g, 0, none⟩ = some v ∧ w.cell? ⟨g, 1, none⟩ = some (.int .i64 b.fin.kind) ∧ w.cell? ⟨g, 2, none⟩ = some (.int .i64 b.fin.op) ∧ w.cell? ⟨g, 3, none⟩ = some (.int .i64 b.fin.a) ∧ w.cell? ⟨g, 4, none⟩ = some (.int .i64 b.fin.b) ∧ w.cell? ⟨g, 5, none⟩ = some (.int .i64 b.fin.to) ∧ w.cell? ⟨g, 6, none⟩ = some (.int .i64 b.fin.els) ∧ w.cell? ⟨g, 7, none⟩ = some (.int .i64 b.fin.ins.op) ∧ w.cell? ⟨g, 8, none⟩ = some (.int .i64 b.fin.ins.a) ∧ w.cell? ⟨g, 9, none⟩ = some (.int .i64 b.fin.ins.b) ∧ w.cell? ⟨g, 10, none⟩ = some (.int .i64 b.fin.ins.c) ∧ w.cell? ⟨g, 11, none⟩ = some (.int .i64 b.fin.ins.imm) :=
  ⟨h.cell rfl, h.cell rfl, h.cell rfl, h.cell rfl, h.cell rfl, h.cell rfl, h.cell rfl, h.cell rfl, h.cell rfl, h.cell rfl, h.cell rfl, h.cell rfl⟩
theorem Row.graph {w : World} {g : Nat} {T : TypeId} {x : Graph} {v : Value} (h : Row w g T (graphCells v x)) : w.cell? ⟨g, 0, none⟩ = some (.string x.name) ∧ w.cell? ⟨g, 1, none⟩ = some (.bool x.keep) ∧ w.cell? ⟨g, 2, none⟩ = some (.bool x.leaf) ∧ w.cell? ⟨g, 3, none⟩ = some v :=
  ⟨h.cell rfl, h.cell rfl, h.cell rfl, h.cell rfl⟩
theorem YF.op {W : World} {b : Nat} (hb : b = W.heap.size) {T : TypeId} {o : Op} (hw : o.wf) : YF oOp (W.alloc (.cells #[.int .i64 o.ins.op, .int .i64 o.ins.a, .int .i64 o.ins.b, .int .i64 o.ins.c, .int .i64 o.ins.imm, .bool o.rel, .int .i64 o.kind, .int .i64 o.to, .int .i64 o.add] T)) (some ⟨b, 0, none⟩) [o] noF :=
  YF.one hb ⟨fun _ h => h, kOp_mk _ o hw⟩
end Go.Proofs.Ythnkikdbllkmkaa
namespace Go.Proofs.Ythnkikdbllkmkaa
set_option linter.unusedVariables false
set_option linter.unusedSimpArgs false
open Go.RowKit

theorem OwnF.open2 {w : World} {V : Value} {xs : List Graph} {F : Nat → Prop} (h : OwnF oGraph 24 w V xs F) {k : Nat} {m : Graph} (hk : xs[k]? = some m) {j : Nat} {b : Block} (hj : m.blocks[j]? = some b) :
    ∃ g0 cap0 g1 cap1 v0 F0 F1 F2, V = .slice (some ⟨g0, 0, none⟩) xs.length cap0 ∧ HoleF oGraph 24 w g0 cap0 xs k (graphCells (.slice (some ⟨g1, 0, none⟩) m.blocks.length cap1) m) F0 ∧ m.wf ∧ HoleF oBlock 46 w g1 cap1 m.blocks j (blockCells v0 b) F1 ∧ b.wf ∧ OwnF oOp 66 w v0 b.ops F2 ∧
      (∀ x, F1 x → ¬ F0 x) ∧ (∀ x, F2 x → ¬ F0 x ∧ ¬ F1 x) ∧ (∀ x, F x ↔ F0 x ∨ F1 x ∨ F2 x) ∧ xs.length ≤ cap0 ∧ cap0 ≤ maxLen ∧ m.blocks.length ≤ cap1 ∧ cap1 ≤ maxLen := by
  obtain ⟨g0, cap0, cs, Fi, F0, e0, l0, m0, h0, hO, d0, i0⟩ := h.open_ hk
  obtain ⟨v, rfl, hm, ho⟩ := hO
  obtain ⟨g1, cap1, ds, Fj, F1, rfl, l1, m1, h1, hO1, d1, i1⟩ := ho.open_ hj
  obtain ⟨v0, rfl, hb, ho1⟩ := hO1
  exact ⟨g0, cap0, g1, cap1, v0, F0, F1, Fj, e0, h0, hm, h1, hb, ho1, fun x hx => d0 x ((i1 x).2 (.inl hx)), fun x hx => ⟨d0 x ((i1 x).2 (.inr hx)), d1 x hx⟩, fun x => by rw [i0 x, i1 x], l0, m0, l1, m1⟩
theorem close2 {w : World} {g0 cap0 g1 cap1 k j : Nat} {xs : List Graph} {m : Graph} {b' : Block} {v' : Value} {F0 F1 F2 : Nat → Prop} (h0 : HoleF oGraph 24 w g0 cap0 xs k (graphCells (.slice (some ⟨g1, 0, none⟩) m.blocks.length cap1) m) F0) (hm : m.wf)
    (h1 : HoleF oBlock 46 w g1 cap1 m.blocks j (blockCells v' b') F1) (hb : b'.wf) (ho : OwnF oOp 66 w v' b'.ops F2) (d1 : ∀ x, F1 x → ¬ F0 x) (d2 : ∀ x, F2 x → ¬ F0 x ∧ ¬ F1 x) :
    OwnF oGraph 24 w (.slice (some ⟨g0, 0, none⟩) xs.length cap0) (xs.set k ⟨m.name, m.keep, m.leaf, m.blocks.set j b'⟩) (fun x => F0 x ∨ (F1 x ∨ F2 x)) := by
  have h2 := h1.close (y := b') (Gi := F2) ⟨v', rfl, hb, ho⟩ (fun x hx => (d2 x hx).2)
  exact h0.close (y := ⟨m.name, m.keep, m.leaf, m.blocks.set j b'⟩) ⟨_, rfl, hm, h2⟩ (fun x hx => hx.elim (d1 x) (fun hx => (d2 x hx).1))
/-- What reads of the header of one graph. -/
theorem OwnF.open1 {w : World} {V : Value} {xs : List Graph} {F : Nat → Prop} (h : OwnF oGraph 24 w V xs F) {k : Nat} {m : Graph} (hk : xs[k]? = some m) :
    ∃ g0 cap0 v F0 F1, V = .slice (some ⟨g0, 0, none⟩) xs.length cap0 ∧ HoleF oGraph 24 w g0 cap0 xs k (graphCells v m) F0 ∧ m.wf ∧ OwnF oBlock 46 w v m.blocks F1 ∧ (∀ x, F1 x → ¬ F0 x) ∧ (∀ x, F x ↔ F0 x ∨ F1 x) := by
  obtain ⟨g0, cap0, cs, Fi, F0, e0, l0, m0, h0, hO, d0, i0⟩ := h.open_ hk
  obtain ⟨v, rfl, hm, ho⟩ := hO
  exact ⟨g0, cap0, v, F0, Fi, e0, h0, hm, ho, d0, i0⟩
/-- The cells of a block's place. -/
theorem HoleF.block {w : World} {g cap j : Nat} {bs : List Block} {v : Value} {b : Block} {F : Nat → Prop} (h : HoleF oBlock 46 w g cap bs j (blockCells v b) F) : w.cell? ⟨g, j * 12, none⟩ = some v ∧ w.cell? ⟨g, j * 12 + 1, none⟩ = some (.int .i64 b.fin.kind) ∧ w.cell? ⟨g, j * 12 + 2, none⟩ = some (.int .i64 b.fin.op) ∧ w.cell? ⟨g, j * 12 + 3, none⟩ = some (.int .i64 b.fin.a) ∧ w.cell? ⟨g, j * 12 + 4, none⟩ = some (.int .i64 b.fin.b) ∧ w.cell? ⟨g, j * 12 + 5, none⟩ = some (.int .i64 b.fin.to) ∧ w.cell? ⟨g, j * 12 + 6, none⟩ = some (.int .i64 b.fin.els) ∧ w.cell? ⟨g, j * 12 + 7, none⟩ = some (.int .i64 b.fin.ins.op) ∧ w.cell? ⟨g, j * 12 + 8, none⟩ = some (.int .i64 b.fin.ins.a) ∧ w.cell? ⟨g, j * 12 + 9, none⟩ = some (.int .i64 b.fin.ins.b) ∧ w.cell? ⟨g, j * 12 + 10, none⟩ = some (.int .i64 b.fin.ins.c) ∧ w.cell? ⟨g, j * 12 + 11, none⟩ = some (.int .i64 b.fin.ins.imm) :=
  ⟨h.cell (j := 0) rfl, h.cell (j := 1) rfl, h.cell (j := 2) rfl, h.cell (j := 3) rfl, h.cell (j := 4) rfl, h.cell (j := 5) rfl, h.cell (j := 6) rfl, h.cell (j := 7) rfl, h.cell (j := 8) rfl, h.cell (j := 9) rfl, h.cell (j := 10) rfl, h.cell (j := 11) rfl⟩
theorem HoleF.graph {w : World} {g cap k : Nat} {xs : List Graph} {v : Value} {m : Graph} {F : Nat → Prop} (h : HoleF oGraph 24 w g cap xs k (graphCells v m) F) : w.cell? ⟨g, k * 4, none⟩ = some (.string m.name) ∧ w.cell? ⟨g, k * 4 + 1, none⟩ = some (.bool m.keep) ∧ w.cell? ⟨g, k * 4 + 2, none⟩ = some (.bool m.leaf) ∧ w.cell? ⟨g, k * 4 + 3, none⟩ = some v :=
  ⟨h.cell (j := 0) rfl, h.cell (j := 1) rfl, h.cell (j := 2) rfl, h.cell (j := 3) rfl⟩

theorem HoleF.setCells {α : Type} {k : Od α} {T : TypeId} {g cap i : Nat} {xs : List α} {F : Nat → Prop} : ∀ (vs : List Value) (j : Nat) (w : World) (cs : List Value), j + vs.length ≤ k.kd.size → HoleF k T w g cap xs i cs F → HoleF k T (w.setCells g (i * k.kd.size + j) vs) g cap xs i (cs.take j ++ vs ++ cs.drop (j + vs.length)) F
  | [], j, w, cs, _, h => by simpa [World.setCells] using h
  | v :: r, j, w, cs, hl, h => by
    simp only [List.length_cons] at hl
    have h1 := h.set (j := j) (by omega) v
    have h2 := HoleF.setCells r (j + 1) _ _ (by omega) h1
    have hcs : cs.length = k.kd.size := by
      obtain ⟨css, Fs, _, _, e, _⟩ := h.ex
      exact e
    have e : (cs.set j v).take (j + 1) ++ r ++ (cs.set j v).drop (j + 1 + r.length) = cs.take j ++ v :: r ++ cs.drop (j + (v :: r).length) := by
      rw [List.take_succ_eq_append_getElem (by simp; omega), List.take_set_of_le (Nat.le_refl _), List.drop_set_of_lt (by omega)]
      simp [Nat.add_assoc, Nat.add_comm 1]
    rw [e] at h2
    exact h2
theorem grown_setCells (g : Nat) : ∀ (vs : List Value) (o : Nat) (w : World), w.grownBy (w.setCells g o vs) (some g) ∧ (w.setCells g o vs).heap.size = w.heap.size
  | [], o, w => ⟨grown_none _ _, rfl⟩
  | v :: r, o, w => by
    obtain ⟨h1, h2⟩ := grown_setCells g r (o + 1) (w.setCell ⟨g, o, none⟩ v)
    exact ⟨grown_tr (grown_set w g o v) h1, h2.trans (by simp)⟩
/-- A store over all cells of one element. -/
theorem wp_put_hole {α : Type} {k : Od α} {T : TypeId} {cap i : Nat} {xs : List α} {F : Nat → Prop} {old : List Value} {o : Oper} {a : Act} {w : World} {K : Act → World → Prop} {Q : Exit → Act → World → Prop} (ty : TypeId) (x y : Operand) (ho : o.op = .store ty x y)
    (g : Nat) (cs : List Value) (hx : a.eval x = .pointer (some ⟨g, i * k.kd.size, none⟩)) (hy : a.eval y = .agg cs.toArray) (hR : HoleF k T w g cap xs i old F) (hi : (Try.prog.info? ty).map (·.size) = some cs.length)
    (hold : cs.length = k.kd.size) (h1 : ∀ v ∈ cs, v.oneCell' = true)
    (h : ∀ w', HoleF k T w' g cap xs i cs F → w.grownBy w' (some g) → w'.heap.size = w.heap.size → K (a.put o.dst undef) w') : Oper.wp Try.prog o a w K Q := by
  have hlen : old.length = k.kd.size := by
    obtain ⟨css, Fs, _, _, e, _⟩ := hR.ex
    exact e
  have h2 := HoleF.setCells cs 0 w old (by omega) hR
  rw [List.take_zero, List.nil_append, Nat.zero_add, List.drop_of_length_le (by omega), List.append_nil, Nat.add_zero] at h2
  obtain ⟨h3, h4⟩ := grown_setCells g cs (i * k.kd.size) w
  refine wp_store_mid ty x y ho g (i * k.kd.size) cs.toArray hx hy (fun j hj => ?_) (by simpa using hi) (Array.all_eq_true_iff_forall_mem.2 (fun v hv => h1 v (by simpa using hv))) (h _ (by simpa using h2) (by simpa using h3) (by simpa using h4))
  have hj' : j < old.length := by simpa [hlen, hold] using hj
  exact ⟨by rw [hR.cell (j := j) (List.getElem?_eq_getElem hj')]; rfl, hR.frozen _⟩
theorem step_put_hole {α : Type} {k : Od α} {T : TypeId} {cap i : Nat} {xs : List α} {F : Nat → Prop} {old : List Value} {ops : Array Oper} {o : Oper} {a : Act} {w : World} {K : Act → World → Prop} {Q : Exit → Act → World → Prop} {E : Prop} (hgd : o.guard = none) (ty : TypeId) (x y : Operand) (ho : o.op = .store ty x y)
    (g : Nat) (cs : List Value) (hx : a.eval x = .pointer (some ⟨g, i * k.kd.size, none⟩)) (hy : a.eval y = .agg cs.toArray) (hR : HoleF k T w g cap xs i old F) (hi : (Try.prog.info? ty).map (·.size) = some cs.length)
    (hold : cs.length = k.kd.size) (h1 : ∀ v ∈ cs, v.oneCell' = true)
    (h : ∀ w', HoleF k T w' g cap xs i cs F → w.grownBy w' (some g) → w'.heap.size = w.heap.size → K (a.put o.dst undef) w') : if Region.wanted o (yielded ops a.tmps) = true then Oper.wp Try.prog o a w K Q else E := by
  have hw : Region.wanted o (yielded ops a.tmps) = true := by simp [Region.wanted, hgd]
  rw [if_pos hw]
  exact wp_put_hole ty x y ho g cs hx hy hR hi hold h1 h
theorem wpList_put_hole {α : Type} {k : Od α} {T : TypeId} {cap i : Nat} {xs : List α} {F : Nat → Prop} {old : List Value} {ops : Array Oper} {rest : List Oper} {o : Oper} {a : Act} {w : World} {Q : Exit → Act → World → Prop} (hgd : o.guard = none) (ty : TypeId) (x y : Operand) (ho : o.op = .store ty x y)
    (g : Nat) (cs : List Value) (hx : a.eval x = .pointer (some ⟨g, i * k.kd.size, none⟩)) (hy : a.eval y = .agg cs.toArray) (hR : HoleF k T w g cap xs i old F) (hi : (Try.prog.info? ty).map (·.size) = some cs.length)
    (hold : cs.length = k.kd.size) (h1 : ∀ v ∈ cs, v.oneCell' = true)
    (h : ∀ w', HoleF k T w' g cap xs i cs F → w.grownBy w' (some g) → w'.heap.size = w.heap.size → wpList Try.prog ops Q rest (a.put o.dst undef) w') : wpList Try.prog ops Q (o :: rest) a w :=
  wpList_plain hgd fun _ hK => wp_put_hole ty x y ho g cs hx hy hR hi hold h1 fun w' a1 a2 a3 => hK _ _ (h w' a1 a2 a3)

/-- The first k graphs made anew. -/
def outG (f : Block → Block) (gs : List Graph) (k : Nat) : List Graph := (gs.take k).map (eachG f) ++ gs.drop k
def mixB (f : Block → Block) (g : Graph) (j : Nat) : Graph := ⟨g.name, g.keep, g.leaf, (g.blocks.take j).map f ++ g.blocks.drop j⟩
theorem outG_len (f : Block → Block) (gs : List Graph) (k : Nat) : (outG f gs k).length = gs.length := by
  unfold outG
  simp
  omega
theorem outG_zero (f : Block → Block) (gs : List Graph) : outG f gs 0 = gs := by simp [outG]
theorem outG_all (f : Block → Block) (gs : List Graph) : outG f gs gs.length = gs.map (eachG f) := by simp [outG]
theorem outG_at {f : Block → Block} {gs : List Graph} {k : Nat} {g : Graph} (h : gs[k]? = some g) : (outG f gs k)[k]? = some g := by
  have hk := (List.getElem?_eq_some_iff.1 h).1
  unfold outG
  rw [List.getElem?_append_right (by simp; omega), List.getElem?_drop]
  simp [Nat.min_eq_left (Nat.le_of_lt hk), h]
theorem set_mid {α : Type} (xs ys : List α) (a b : α) : (xs ++ a :: ys).set xs.length b = xs ++ b :: ys := by
  rw [List.set_append_right _ _ (Nat.le_refl _), Nat.sub_self]
  rfl
theorem drop_at {α : Type} {xs : List α} {k : Nat} {x : α} (h : xs[k]? = some x) : xs.drop k = x :: xs.drop (k + 1) := by
  have hk := (List.getElem?_eq_some_iff.1 h).1
  rw [List.drop_eq_getElem_cons hk]
  congr 1
  exact (List.getElem?_eq_some_iff.1 h).2
theorem map_take_len {α β : Type} (f : α → β) (xs : List α) {k : Nat} (h : k ≤ xs.length) : ((xs.take k).map f).length = k := by simp; omega
theorem set_at {α β : Type} (f : α → β) (xs : List α) (ys : List β) (a b : β) {k : Nat} (h : k ≤ xs.length) : ((xs.take k).map f ++ a :: ys).set k b = (xs.take k).map f ++ b :: ys := by
  have := set_mid ((xs.take k).map f) ys a b
  rwa [map_take_len f xs h] at this
theorem outG_succ {f : Block → Block} {gs : List Graph} {k : Nat} {g : Graph} (h : gs[k]? = some g) : (outG f gs k).set k (eachG f g) = outG f gs (k + 1) := by
  have hk := (List.getElem?_eq_some_iff.1 h).1
  unfold outG
  rw [drop_at h, set_at _ _ _ _ _ (Nat.le_of_lt hk), take_snoc h, List.map_append, List.append_assoc]
  rfl
theorem mixB_at {f : Block → Block} {g : Graph} {j : Nat} {b : Block} (h : g.blocks[j]? = some b) : (mixB f g j).blocks[j]? = some b := by
  have hk := (List.getElem?_eq_some_iff.1 h).1
  unfold mixB
  rw [List.getElem?_append_right (by simp; omega), List.getElem?_drop]
  simp [Nat.min_eq_left (Nat.le_of_lt hk), h]
theorem mixB_succ {f : Block → Block} {g : Graph} {j : Nat} {b : Block} (h : g.blocks[j]? = some b) : (⟨(mixB f g j).name, (mixB f g j).keep, (mixB f g j).leaf, (mixB f g j).blocks.set j (f b)⟩ : Graph) = mixB f g (j + 1) := by
  have hk := (List.getElem?_eq_some_iff.1 h).1
  unfold mixB
  simp only
  rw [drop_at h, set_at _ _ _ _ _ (Nat.le_of_lt hk), take_snoc h, List.map_append, List.append_assoc]
  rfl
theorem mixB_len (f : Block → Block) (g : Graph) (j : Nat) : (mixB f g j).blocks.length = g.blocks.length := by
  unfold mixB
  simp
  omega
theorem mixB_same {f : Block → Block} {g : Graph} {j : Nat} {b : Block} (h : g.blocks[j]? = some b) (hf : f b = b) : mixB f g (j + 1) = mixB f g j := by
  rw [← mixB_succ h, hf]
  have e : (mixB f g j).blocks.set j b = (mixB f g j).blocks := by
    apply List.ext_getElem?
    intro i
    by_cases hi : i = j
    · subst hi
      rw [mixB_at h, List.getElem?_set, if_pos rfl, if_pos (by rw [mixB_len]; exact (List.getElem?_eq_some_iff.1 h).1)]
    · rw [List.getElem?_set, if_neg (fun e => hi e.symm)]
  rw [e]
theorem mixB_each (f : Block → Block) (g : Graph) : mixB (eachB f g) g g.blocks.length = eachG f g := by rw [eachG_eq]; simp [mixB]
theorem mixB_zero (f : Block → Block) (g : Graph) : mixB f g 0 = g := by simp [mixB]
theorem mixB_all {f : Block → Block} {g : Graph} (h : g.keep = false) : mixB f g g.blocks.length = eachG f g := by simp [mixB, eachG, h]
theorem outG_start {f : Block → Block} {gs : List Graph} {k : Nat} {g : Graph} (h : gs[k]? = some g) : (outG f gs k).set k (mixB f g 0) = outG f gs k := by
  rw [mixB_zero]
  apply List.ext_getElem?
  intro i
  by_cases hi : i = k
  · subst hi
    rw [outG_at h, List.getElem?_set, if_pos rfl, if_pos (by rw [outG_len]; exact (List.getElem?_eq_some_iff.1 h).1)]
  · rw [List.getElem?_set, if_neg (fun e => hi e.symm)]
theorem set_get {α : Type} {xs : List α} {k : Nat} {x : α} (h : k < xs.length) : (xs.set k x)[k]? = some x := by
  rw [List.getElem?_set, if_pos rfl, if_pos h]
end Go.Proofs.Ythnkikdbllkmkaa
namespace Go.Proofs.Ythnkikdbllkmkaa
set_option linter.unusedVariables false
set_option linter.unusedSimpArgs false

theorem kindOf_four {op : Int} (h0 : 0 ≤ op) (h1 : op < 26) : kindOf op = 4 ↔ op = 20 := by
  have : op = 0 ∨ op = 1 ∨ op = 2 ∨ op = 3 ∨ op = 4 ∨ op = 5 ∨ op = 6 ∨ op = 7 ∨ op = 8 ∨ op = 9 ∨ op = 10 ∨ op = 11 ∨ op = 12 ∨ op = 13 ∨ op = 14 ∨ op = 15 ∨ op = 16 ∨ op = 17 ∨ op = 18 ∨ op = 19 ∨ op = 20 ∨ op = 21 ∨ op = 22 ∨ op = 23 ∨ op = 24 ∨ op = 25 := by omega
  rcases this with rfl | rfl | rfl | rfl | rfl | rfl | rfl | rfl | rfl | rfl | rfl | rfl | rfl | rfl | rfl | rfl | rfl | rfl | rfl | rfl | rfl | rfl | rfl | rfl | rfl | rfl <;> decide
theorem right_call {o : Op} {funcs datas : Int} (h : o.right funcs datas = true) : (o.ins.op = 20 → o.rel = true ∧ o.kind = 1 ∧ calledI o = o.to ∧ 0 ≤ o.to ∧ o.to < funcs) ∧ (o.ins.op ≠ 20 → calledI o = -1) := by
  unfold Op.right at h
  cases hr : o.ins.right with
  | false => simp [hr] at h
  | true =>
    obtain ⟨h0, h1⟩ := Ins.right_op hr
    have h4 := kindOf_four h0 h1
    rw [hr] at h
    cases hrel : o.rel with
    | false =>
      rw [hrel] at h
      simp at h
      refine ⟨fun e => ?_, fun _ => by unfold calledI; rw [if_neg (by simp [hrel])]⟩
      have := h4.2 e
      unfold Ins.kind at h
      omega
    | true =>
      rw [hrel] at h
      simp only [Bool.not_true, Bool.false_eq_true, if_false] at h
      split at h
      · simp at h
      · rename_i hi
        have hto : 0 ≤ o.to := by omega
        by_cases hk : o.ins.kind = 4
        · rw [if_pos hk] at h
          simp at h
          have e20 := h4.1 hk
          refine ⟨fun _ => ⟨rfl, h.1.1, by unfold calledI; rw [if_pos ⟨hrel, h.1.1⟩], hto, h.1.2⟩, fun hne => absurd e20 hne⟩
        · rw [if_neg hk] at h
          simp at h
          refine ⟨fun e => absurd (h4.2 e) hk, fun _ => by unfold calledI; rw [if_neg (fun hc => by have := hc.2; omega)]⟩
theorem blocksRight_ops {bs : List Block} {f d : Int} (h : blocksRight bs f d = true) {b : Block} (hb : b ∈ bs) {o : Op} (ho : o ∈ b.ops) : o.right f d = true := by
  unfold blocksRight at h
  rw [Bool.and_eq_true, List.all_eq_true] at h
  have := h.1 b hb
  unfold Block.right at this
  rw [Bool.and_eq_true, List.all_eq_true] at this
  exact this.1 o ho
theorem blocksRight_pos {bs : List Block} {f d : Int} (h : blocksRight bs f d = true) : 0 < bs.length := by
  unfold blocksRight at h
  rw [Bool.and_eq_true] at h
  simpa using h.2
theorem gsOk_few {gs : List Graph} {d : Int} (h : gsFew gs d = true) : GsOk gs := by
  obtain ⟨h1, h2⟩ := gsFew_parts h
  refine ⟨by omega, fun g hg => ⟨(h2 g hg).1, fun x hx => blocksRight_calls (h2 g hg).2 x (mem_ofList.1 hx)⟩⟩
end Go.Proofs.Ythnkikdbllkmkaa
namespace Go.Proofs.Ythnkikdbllkmkaa
set_option linter.unusedVariables false
set_option linter.unusedSimpArgs false
open Go.RowKit

theorem OwnF.toY {α : Type} {k : Od α} {T : TypeId} {w : World} {A : Option Addr} {n c : Nat} {ys : List α} {F : Nat → Prop} (h : OwnF k T w (.slice A n c) ys F) : ∃ G, YF k w A ys G ∧ ∀ b, G b → F b := by
  obtain ⟨css, Fs, h1, h2, h3, h4, h5, h6⟩ := h.ex
  refine ⟨fun b => ∃ i, i < ys.length ∧ Fs i b, ⟨css, Fs, h1, h2, fun e => ?_, fun ad e j u hu => ?_, h4, fun b => Iff.rfl⟩, fun b hb => (h6 b).2 (.inr hb)⟩
  · subst e
    rcases h3.2 with ⟨_, h7⟩ | ⟨g, cap, cur, e, _⟩
    · exact List.eq_nil_of_length_eq_zero h7
    · cases e
  · subst e
    rcases h3.2 with ⟨e, h7⟩ | ⟨g, cap, cur, e, _⟩
    · cases e
    · injection e with e1
      injection e1 with e1
      subst e1
      exact h3.cells rfl j u hu
/-- A store over some cells of one element. -/
theorem wp_put_part {α : Type} {k : Od α} {T : TypeId} {cap i : Nat} {xs : List α} {F : Nat → Prop} {old : List Value} {o : Oper} {a : Act} {w : World} {K : Act → World → Prop} {Q : Exit → Act → World → Prop} (ty : TypeId) (x y : Operand) (ho : o.op = .store ty x y)
    (g j : Nat) (cs : List Value) (hx : a.eval x = .pointer (some ⟨g, i * k.kd.size + j, none⟩)) (hy : a.eval y = .agg cs.toArray) (hR : HoleF k T w g cap xs i old F) (hi : (Try.prog.info? ty).map (·.size) = some cs.length)
    (hold : j + cs.length ≤ k.kd.size) (h1 : ∀ v ∈ cs, v.oneCell' = true)
    (h : ∀ w', HoleF k T w' g cap xs i (old.take j ++ cs ++ old.drop (j + cs.length)) F → w.grownBy w' (some g) → w'.heap.size = w.heap.size → K (a.put o.dst undef) w') : Oper.wp Try.prog o a w K Q := by
  have hlen : old.length = k.kd.size := by
    obtain ⟨css, Fs, _, _, e, _⟩ := hR.ex
    exact e
  have h2 := HoleF.setCells cs j w old hold hR
  obtain ⟨h3, h4⟩ := grown_setCells g cs (i * k.kd.size + j) w
  refine wp_store_mid ty x y ho g (i * k.kd.size + j) cs.toArray hx hy (fun l hl => ?_) (by simpa using hi) (Array.all_eq_true_iff_forall_mem.2 (fun v hv => h1 v (by simpa using hv))) (h _ (by simpa using h2) (by simpa using h3) (by simpa using h4))
  have hl' : j + l < old.length := by simp at hl; omega
  exact ⟨by rw [Nat.add_assoc, hR.cell (j := j + l) (List.getElem?_eq_getElem hl')]; rfl, hR.frozen _⟩
theorem wpList_put_part {α : Type} {k : Od α} {T : TypeId} {cap i : Nat} {xs : List α} {F : Nat → Prop} {old : List Value} {ops : Array Oper} {rest : List Oper} {o : Oper} {a : Act} {w : World} {Q : Exit → Act → World → Prop} (hgd : o.guard = none) (ty : TypeId) (x y : Operand) (ho : o.op = .store ty x y)
    (g j : Nat) (cs : List Value) (hx : a.eval x = .pointer (some ⟨g, i * k.kd.size + j, none⟩)) (hy : a.eval y = .agg cs.toArray) (hR : HoleF k T w g cap xs i old F) (hi : (Try.prog.info? ty).map (·.size) = some cs.length)
    (hold : j + cs.length ≤ k.kd.size) (h1 : ∀ v ∈ cs, v.oneCell' = true)
    (h : ∀ w', HoleF k T w' g cap xs i (old.take j ++ cs ++ old.drop (j + cs.length)) F → w.grownBy w' (some g) → w'.heap.size = w.heap.size → wpList Try.prog ops Q rest (a.put o.dst undef) w') : wpList Try.prog ops Q (o :: rest) a w :=
  wpList_plain hgd fun _ hK => wp_put_part ty x y ho g j cs hx hy hR hi hold h1 fun w' a1 a2 a3 => hK _ _ (h w' a1 a2 a3)
theorem finCells_one (t : Term) : ∀ v ∈ finCells t, v.oneCell' = true := by
  intro v hv
  unfold finCells at hv
  simp only [List.mem_cons, List.not_mem_nil, or_false] at hv
  rcases hv with rfl | rfl | rfl | rfl | rfl | rfl | rfl | rfl | rfl | rfl | rfl <;> rfl
theorem opCells_one (o : Op) : ∀ v ∈ opCells o, v.oneCell' = true := by
  intro v hv
  unfold opCells at hv
  simp only [List.mem_cons, List.not_mem_nil, or_false] at hv
  rcases hv with rfl | rfl | rfl | rfl | rfl | rfl | rfl | rfl | rfl <;> rfl
/-- An instruction, taken out of a row of them and put back. -/
theorem OwnF.openOp {w : World} {v : Value} {os : List Op} {F : Nat → Prop} (h : OwnF oOp 66 w v os F) {q : Nat} {o : Op} (hq : os[q]? = some o) : ∃ g cap, v = .slice (some ⟨g, 0, none⟩) os.length cap ∧ os.length ≤ cap ∧ cap ≤ maxLen ∧ HoleF oOp 66 w g cap os q (opCells o) F := by
  obtain ⟨g, cap, cs, Fi, F0, e0, l0, m0, h0, hO, d0, i0⟩ := h.open_ hq
  obtain ⟨hn, hK⟩ := hO
  obtain ⟨rfl, hw⟩ := kOp_open hK
  refine ⟨g, cap, e0, l0, m0, h0.hi, ?_⟩
  obtain ⟨css, Fs, h1, h2, h3, h4, h5, h6, h7, h8⟩ := h0.ex
  exact ⟨css, Fs, h1, h2, h3, h4, h5, h6, h7, fun b => by rw [← h8 b, i0 b]; exact ⟨fun h => h.elim id (fun h => absurd h (hn b)), fun h => .inl h⟩⟩
theorem HoleF.closeOp {w : World} {g cap q : Nat} {os : List Op} {o : Op} {F : Nat → Prop} (h : HoleF oOp 66 w g cap os q (opCells o) F) (hw : o.wf) : OwnF oOp 66 w (.slice (some ⟨g, 0, none⟩) os.length cap) (os.set q o) F :=
  (h.close (y := o) (Gi := noF) ⟨fun _ h => h, kOp_mk w o hw⟩ (fun _ h => h.elim)).iff (fun b => ⟨fun h => .inl h, fun h => h.elim id (fun h => h.elim)⟩)
end Go.Proofs.Ythnkikdbllkmkaa
namespace Go.Proofs.Ythnkikdbllkmkaa
set_option linter.unusedVariables false
set_option linter.unusedSimpArgs false
open Go.RowKit

def kU : Kd Nat where
  size := 1
  K := fun _ x cs => cs = [.int .u16 (x : Int)] ∧ x < 65536
  len := by rintro w x cs ⟨rfl, _⟩; rfl
  one := by rintro w x cs ⟨rfl, _⟩ u hu; rw [List.mem_singleton] at hu; subst hu; rfl
  sub := fun _ h => h
theorem kU_any {w w' : World} {x : Nat} {cs : List Value} (h : kU.K w x cs) : kU.K w' x cs := h
def oU : Od Nat := Od.flat kU kU_any
/-- What a row of them reads as. -/
def CellsU (w : World) (A : Option Addr) (xs : List Nat) : Prop := ∀ (i : Nat) (x : Nat), xs[i]? = some x → ∃ ad, A = some ad ∧ w.cell? (ad.add i) = some (.int .u16 (x : Int)) ∧ x < 65536
theorem CellsU.sub {w w' : World} {A : Option Addr} {xs : List Nat} (h : CellsU w A xs) (hs : Sub w w') : CellsU w' A xs := fun i x hx => by
  obtain ⟨ad, e, hc, hl⟩ := h i x hx
  exact ⟨ad, e, hs _ _ hc, hl⟩
theorem CellsU.of_C {w : World} {A : Option Addr} {xs : List Nat} (h : kU.C w A xs) : CellsU w A xs := fun i x hx => by
  obtain ⟨ad, cs, e, ⟨rfl, hl⟩, hc⟩ := h i x hx
  have := hc 0 _ rfl
  rw [show i * kU.size + 0 = i from by show i * 1 + 0 = i; omega] at this
  exact ⟨ad, e, this, hl⟩
theorem replicate_flat (v : Value) (n : Nat) : List.replicate n v = (List.replicate n [v]).flatten := by
  induction n with
  | zero => rfl
  | succ m ih => rw [List.replicate_succ, List.replicate_succ, List.flatten_cons, ← ih]; rfl
end Go.Proofs.Ythnkikdbllkmkaa
