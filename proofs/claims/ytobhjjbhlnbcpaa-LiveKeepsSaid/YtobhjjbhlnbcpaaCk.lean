/- The document's Of; calls.Leaf, calls.Small, the document's Small. -/
import Derived.Test.YtobhjjbhlnbcpaaCl
import Derived.Test.YtobhjjbhlnbcpaaCj
import Derived.Test.YtobhjjbhlnbcpaaCh
namespace Go.Proofs.Ytobhjjbhlnbcpaa
set_option linter.unusedVariables false
set_option linter.unusedSimpArgs false
open Go.RowKit

theorem refOf_succ (bs : List Block) (n : Nat) : refOf bs (n + 1) = refOf bs n ++ (if callsB bs n = true then [(n : Int)] else []) := by
  unfold refOf
  rw [List.range_succ, List.map_append, List.filter_append]
  congr 1
  by_cases h : callsB bs n = true <;> simp [h]
theorem refOf_len (bs : List Block) (n : Nat) : (refOf bs n).length ≤ n := by
  unfold refOf
  exact Nat.le_trans (List.length_filter_le _ _) (by simp)

/-- A graph lies in a block's first four cells. -/
def G4 (w : World) (g : Nat) (nm : ByteArray) (kp lf : Bool) (s : Value) : Prop := w.cell? ⟨g, 0, none⟩ = some (.string nm) ∧ w.cell? ⟨g, 1, none⟩ = some (.bool kp) ∧ w.cell? ⟨g, 2, none⟩ = some (.bool lf) ∧ w.cell? ⟨g, 3, none⟩ = some s
theorem G4.below {w w1 : World} {B g : Nat} {nm : ByteArray} {kp lf : Bool} {s : Value} (hb : Below B w w1) (hg : g < B) (h : G4 w g nm kp lf s) : G4 w1 g nm kp lf s :=
  ⟨(hb.cell hg).trans h.1, (hb.cell hg).trans h.2.1, (hb.cell hg).trans h.2.2.1, (hb.cell hg).trans h.2.2.2⟩

set_option maxHeartbeats 4000000 in
set_option maxRecDepth 100000 in
theorem refOf_calls (nm : ByteArray) (kp lf : Bool) (A : Option Addr) (c : Nat) (bs : List Block) (n : Nat) (hn : n ≤ 100000) (w : World) (hC : kBlock.C w A bs) (hl : bs.length ≤ maxLen) : Calls Try.prog 14 #[.agg #[.string nm, .bool kp, .bool lf, .slice A bs.length c], .int .i64 n] w (MadeI w (refOf bs n)) := by
  go_enter Try.func14, Try.ntmps14
  go_wp2_with fail
  have hb0 : Below w.heap.size w (w.alloc (.cells #[.string nm, .bool kp, .bool lf, .slice A bs.length c] 28)) := (Below.refl _ _).alloc (Nat.le_refl _) _
  replace hC := Kd.C_mono hb0 hC
  have hg4 : G4 (w.alloc (.cells #[.string nm, .bool kp, .bool lf, .slice A bs.length c] 28)) w.heap.size nm kp lf (.slice A bs.length c) := ⟨by simp, by simp, by simp, by simp⟩
  have hsz : w.heap.size < (w.alloc (.cells #[.string nm, .bool kp, .bool lf, .slice A bs.length c] 28)).heap.size := by simp
  generalize hW : w.alloc (.cells #[.string nm, .bool kp, .bool lf, .slice A bs.length c] 28) = W at *
  clear hW
  go_loopw [5, 6] (fun v i wr => ∃ k : Nat, k ≤ n ∧ i = .int .i64 k ∧ OwnI wr W.heap.size v (refOf bs k) ∧ Below W.heap.size W wr) (fun _ i _ => n - (intOf i).toNat)
  case atStart => exact ⟨0, Nat.zero_le _, rfl, OwnI.nil _ _, Below.refl _ _⟩
  case round =>
    obtain ⟨k, hk, rfl, ho, hbr⟩ := hrel
    obtain ⟨g0, g1, g2, g3⟩ := hg4.below hbr hsz
    by_cases hlt : k < n
    · have hs := refOf_succ bs k
      have hlen := refOf_len bs k
      cases hr : callsB bs (k : Int) with
      | false =>
        rw [if_neg (by simp [hr]), List.append_nil] at hs
        have HR := Lib.hid hr
        have HS := Lib.hid hs
        clear hr hs
        go_wp2_with (go_at_call 23; refine (refCalls_calls _ _ _ _ _ _ _ _ (Kd.C_mono hbr hC) hl).mono ?_; rintro e w1 ⟨rfl, hb1⟩; rw [HR.out])
        exact ⟨⟨k + 1, by omega, by go_num, by rw [HS.out]; exact ho.below hb1, hbr.trans (hb1.mono hbr.size)⟩, by simp [intOf]; omega⟩
      | true =>
        rw [if_pos hr] at hs
        have HR := Lib.hid hr
        have HS := Lib.hid hs
        clear hr hs
        go_wp2_with (first
          | (go_at_call 23; refine (refCalls_calls _ _ _ _ _ _ _ _ (Kd.C_mono hbr hC) hl).mono ?_; rintro e w1 ⟨rfl, hb1⟩; rw [HR.out]; have ho1 := ho.below hb1)
          | (at_builtin; refine wpList_append_one rfl _ _ rfl W.heap.size ho1 rfl rfl (by omega) (Nat.le_trans hbr.size hb1.size) ?_; intro v2 w2 ho2 hb2))
        exact ⟨⟨k + 1, by omega, by go_num, by rw [HS.out]; exact ho2, (hbr.trans (hb1.mono hbr.size)).trans hb2⟩, by simp [intOf]; omega⟩
    · obtain rfl : k = n := by omega
      go_wp2_with fail
      go_ret
      exact ⟨_, rfl, ho.mono hb0.size, hb0.trans (hbr.mono hb0.size)⟩

def A4 (w : World) (ad : Addr) (nm : ByteArray) (kp lf : Bool) (s : Value) : Prop := w.cell? ad = some (.string nm) ∧ w.cell? ⟨ad.block, ad.off + 1, none⟩ = some (.bool kp) ∧ w.cell? ⟨ad.block, ad.off + 2, none⟩ = some (.bool lf) ∧ w.cell? ⟨ad.block, ad.off + 3, none⟩ = some s
theorem A4.below {w w1 : World} {ad : Addr} {nm : ByteArray} {kp lf : Bool} {s : Value} (hb : Below w.heap.size w w1) (h : A4 w ad nm kp lf s) : A4 w1 ad nm kp lf s :=
  ⟨(hb.cell (World.lt_of_cell h.1)).trans h.1, (hb.cell (World.lt_of_cell h.2.1)).trans h.2.1, (hb.cell (World.lt_of_cell h.2.2.1)).trans h.2.2.1, (hb.cell (World.lt_of_cell h.2.2.2)).trans h.2.2.2⟩
def leafB (bs : List Block) : Bool := decide ((ofList bs).length = 0)
def smallB (bs : List Block) : Bool := match bs with
  | [b] => leafB [b] && decide (b.ops.length ≤ 8) && b.fin.kind == 3 && b.fin.ins.op == 21
  | _ => false
theorem smallB_not {bs : List Block} (h : bs.length ≠ 1) : smallB bs = false := by
  unfold smallB
  split
  · simp at h
  · rfl

set_option maxHeartbeats 4000000 in
theorem leaf_calls (nm : ByteArray) (kp lf : Bool) (A : Option Addr) (c : Nat) (bs : List Block) (w : World) (hC : kBlock.C w A bs) (hl : bs.length ≤ maxLen) (hf : blocksFew bs = true) : Calls Try.prog 37 #[.agg #[.string nm, .bool kp, .bool lf, .slice A bs.length c]] w fun e w' => e = .returned (.bool (leafB bs)) ∧ Below w.heap.size w w' := by
  go_enter Try.func37, Try.ntmps37
  go_wp2_with fail
  have hb0 : Below w.heap.size w (w.alloc (.cells #[.string nm, .bool kp, .bool lf, .slice A bs.length c] 28)) := (Below.refl _ _).alloc (Nat.le_refl _) _
  refine (of_calls _ _ _ _ _ _ _ (Kd.C_mono hb0 hC) hl hf).mono ?_
  rintro e w1 ⟨v, rfl, ho, hb1⟩
  obtain ⟨A1, c1, rfl, l1, m1, hC1⟩ := ho.read
  have hl1 := len_le l1 m1
  go_wp2_with fail
  go_ret
  refine ⟨ret_bool ?_, hb0.trans (hb1.mono (by simp))⟩
  unfold leafB
  rw [Bool.eq_iff_iff]
  simp
end Go.Proofs.Ytobhjjbhlnbcpaa
