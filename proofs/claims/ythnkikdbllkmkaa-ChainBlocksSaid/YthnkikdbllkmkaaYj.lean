/- slices.Grow of nothing, slices.Concat. -/
import Derived.Test.YthnkikdbllkmkaaYh
import Derived.Test.YthnkikdbllkmkaaSg
namespace Go.Proofs.Ythnkikdbllkmkaa
set_option linter.unusedVariables false
set_option linter.unusedSimpArgs false
open Go.RowKit

set_option maxRecDepth 100000 in
theorem grow_calls (n : Nat) (hn : n ≤ 1000000) (w : World) : Calls Try.prog 39 #[.slice none 0 0, .int .i64 (n : Int)] w fun e w' =>
    ∃ v F, e = .returned v ∧ OwnF oN 3 w' v [] F ∧ (∀ b, F b → w.heap.size ≤ b) ∧ Below w.heap.size w w' := by
  by_cases h0 : n = 0
  · subst h0
    refine Calls.mono (Any8.slices_Grow_room (P := Try.prog) Try.growI none 0 0 0 w (Nat.le_refl _) (by decide) (by decide) (Nat.le_refl _)) ?_
    rintro e w' ⟨rfl, rfl⟩
    exact ⟨_, _, rfl, OwnF.nil _ _ _, fun _ h => h.elim, Below.refl _ _⟩
  · obtain ⟨i0, hi, hz0, hz1, hz2⟩ := info_parts elN.info
    have h1 : i0.size = 1 := hz1
    have h8 : i0.bytes = 8 := hz2
    have hcon := Any8.slices_Grow_grow (P := Try.prog) Try.growI i0 (.int .i64 0) hi hz0 (by rw [h1]; decide) none 0 0 n [] w (Nat.le_refl _) (by omega) (by rw [h8]; omega) (by omega) (by simp) (fun _ => rfl) (fun a e => by cases e)
    change Calls Try.prog 39 _ w (fun e w' => e = .returned (.slice (some ⟨w.heap.size, 0, none⟩) 0 (grownCap w (0 + n) 0 3)) ∧ w' = w.drew.alloc (.cells (([] : List Value).toArray ++ Builtin.zeroCells (Value.int .i64 0).cells (0 + n - 0) ++ Builtin.zeroCells (Value.int .i64 0).cells (grownCap w (0 + n) 0 3 - (0 + n))) 3)) at hcon
    have hge : 0 + n ≤ grownCap w (0 + n) 0 3 := grownCap_ge w (0 + n) 0 3
    have hle : grownCap w (0 + n) 0 3 ≤ maxLen := grownCap_le_maxLen w (0 + n) 0 3 (by unfold maxLen; omega)
    generalize grownCap w (0 + n) 0 3 = G at *
    have hsz : (([] : List Value).toArray ++ Builtin.zeroCells (Value.int .i64 0).cells (0 + n - 0) ++ Builtin.zeroCells (Value.int .i64 0).cells (G - (0 + n))).size = G * 1 := by
      simp [Builtin.zeroCells, Value.cells]
      omega
    generalize (([] : List Value).toArray ++ Builtin.zeroCells (Value.int .i64 0).cells (0 + n - 0) ++ Builtin.zeroCells (Value.int .i64 0).cells (G - (0 + n))) = Z at *
    refine Calls.mono hcon ?_
    rintro e w' ⟨rfl, rfl⟩
    have hb : Below w.heap.size w (w.drew.alloc (.cells Z 3)) := (Below.refl _ _).drew.trans (below_alloc' w.drew _)
    refine ⟨_, fun b => b = w.heap.size, rfl, ⟨[], fun _ _ => False, rfl, fun i x cs hx => by simp at hx, ?_, fun i j b _ _ _ hf => hf.elim, fun i b _ hf => hf.elim, fun b => ⟨fun e => .inl (by rw [e]; rfl), fun h => h.elim (fun e => by injection e with e; exact e.symm) (fun ⟨_, _, hf⟩ => hf.elim)⟩⟩, fun b hb => Nat.le_of_eq hb.symm, hb⟩
    exact ⟨rfl, .inr ⟨w.heap.size, G, Z, rfl, Nat.zero_le _, heap_alloc_new w.drew _, Nat.zero_le _, hle, hsz, by simp⟩⟩

theorem flat_take {xss : List (List Nat)} {k : Nat} {xs : List Nat} (h : xss[k]? = some xs) : (xss.take (k + 1)).flatten = (xss.take k).flatten ++ xs := by
  rw [take_snoc h, List.flatten_append]
  simp
theorem flat_take_le (xss : List (List Nat)) (k : Nat) : (xss.take k).flatten.length ≤ xss.flatten.length := by
  have h : xss.flatten = (xss.take k).flatten ++ (xss.drop k).flatten := by rw [← List.flatten_append, List.take_append_drop]
  rw [h, List.length_append]
  exact Nat.le_add_right _ _
/-- A list's place in a row of lists. -/
theorem lists_at {w : World} {A : Option Addr} {xss : List (List Nat)} (h : (Kd.slice kN).C w A xss) {i : Nat} {xs : List Nat} (hx : xss[i]? = some xs) : ∃ ad A' c', A = some ad ∧ w.cell? (ad.add i) = some (.slice A' xs.length c') ∧ kN.C w A' xs := by
  obtain ⟨ad, cs, e, ⟨A', c', rfl, -, -, hC⟩, hc⟩ := h i xs hx
  have := hc 0 _ rfl
  rw [show i * (Kd.slice kN).size + 0 = i from by show i * 1 + 0 = i; omega] at this
  exact ⟨ad, A', c', e, this, hC⟩

set_option maxHeartbeats 2000000 in
set_option maxRecDepth 100000 in
theorem concat_calls (A : Option Addr) (c : Nat) (xss : List (List Nat)) (w : World) (hC : (Kd.slice kN).C w A xss) (hl : xss.length ≤ 1000) (htot : xss.flatten.length ≤ 1000000) : Calls Try.prog 20 #[.slice A xss.length c] w fun e w' =>
    ∃ v F, e = .returned v ∧ OwnF oN 3 w' v xss.flatten F ∧ (∀ b, F b → w.heap.size ≤ b) ∧ Below w.heap.size w w' := by
  have hlo : xss.length ≤ 9223372036854775807 := by omega
  have HT := Lib.hid htot
  clear htot
  go_enter Try.func20, Try.ntmps20
  go_wp2_with fail
  go_loopw [3, 11] (fun s i wr => ∃ k : Nat, k ≤ xss.length ∧ i = .int .i64 (k : Int) ∧ s = .int .i64 (((xss.take k).flatten.length : Nat) : Int) ∧ Below w.heap.size w wr) (fun _ i _ => xss.length - (intOf i).toNat)
  case atStart => exact ⟨0, Nat.zero_le _, rfl, rfl, Below.refl _ _⟩
  case round =>
    obtain ⟨k, hk, rfl, rfl, hbr⟩ := hrel
    by_cases hlt : k < xss.length
    · obtain ⟨xs, hx⟩ := get_some xss k hlt
      obtain ⟨ad, A', c', rfl, f0, hCx⟩ := lists_at (Kd.C_mono hbr hC) hx
      have h1 := flat_take_le xss (k + 1)
      have h2 := flat_take hx
      rw [h2, List.length_append] at h1
      have HTo := HT.out
      have HS := Lib.hid h2
      clear h2 hx
      generalize hm : (xss.take k).flatten.length = m at *
      have hsz : (m : Int) + (xs.length : Int) ≤ 1000000 := by omega
      have z1 : decide ((m : Int) + (xs.length : Int) < 0) = false := decide_eq_false (by omega)
      have HM := Lib.hid hm
      clear hm
      go_wp2_with fail
      exact ⟨⟨k + 1, by omega, by go_num, by rw [HS.out, List.length_append, HM.out]; go_num, hbr⟩, by simp [intOf]; omega⟩
    · obtain rfl : k = xss.length := by omega
      rw [List.take_length]
      have HTo := HT.out
      generalize hm : xss.flatten.length = m at *
      have HM := Lib.hid hm
      clear hm
      go_wp2_with fail
      refine (grow_calls m HTo _).mono ?_
      rintro e w1 ⟨v1, F1, rfl, own1, hF1, hb1⟩
      have t1 := hbr.trans (hb1.mono hbr.size)
      have hF1' : ∀ b, F1 b → w.heap.size ≤ b := fun b hb => Nat.le_trans hbr.size (hF1 b hb)
      have HO1 := Lib.hid own1
      clear own1 hF1 hb1 hbr hlt
      go_wp2_with fail
      go_loopw [6, 27] (fun s i wr => ∃ (k : Nat) (F : Nat → Prop), k ≤ xss.length ∧ i = .int .i64 (k : Int) ∧ OwnF oN 3 wr s (xss.take k).flatten F ∧ (∀ b, F b → w.heap.size ≤ b) ∧ Below w.heap.size w wr) (fun _ i _ => xss.length - (intOf i).toNat)
      case atStart => exact ⟨0, F1, Nat.zero_le _, rfl, HO1.out, hF1', t1⟩
      case round =>
        obtain ⟨k, F, hk, rfl, ho, hF, hbr⟩ := hrel
        by_cases hlt : k < xss.length
        · obtain ⟨xs, hx⟩ := get_some xss k hlt
          obtain ⟨ad, A', c', rfl, f0, hCx⟩ := lists_at (Kd.C_mono hbr hC) hx
          have h1 := flat_take_le xss (k + 1)
          have h2 := flat_take hx
          rw [h2, List.length_append] at h1
          have HTo := HT.out
          have HMo := HM.out
          have hap : (xss.take k).flatten.length + xs.length ≤ 100000000 := by omega
          have HAP := Lib.hid hap
          have HS := Lib.hid h2
          have HO := Lib.hid ho
          clear h2 hx hap h1 HMo ho
          obtain ⟨ys, hys⟩ : ∃ ys, ys = (xss.take k).flatten := ⟨_, rfl⟩
          rw [← hys] at HAP HS HO
          clear hys
          go_wp2_with (refine wpList_append_f (k := oN) elN rfl _ _ rfl HO.out (YF.flat hCx) (fun _ _ h => h) rfl rfl HAP.out ?_; intro v9 w9 hg9)
          obtain ⟨⟨F9, own9, hF9⟩, hgr9⟩ := hg9
          exact ⟨⟨k + 1, F9, by omega, by go_num, by rw [HS.out]; exact own9, fun b hb => by (rcases hF9 b hb with h | h | h; exact hF b h; exact h.elim; exact Nat.le_trans hbr.size h), hbr.grown hgr9 hbr.size (fun j hj => hF j (HO.out.row hj))⟩, by simp [intOf]; omega⟩
        · obtain rfl : k = xss.length := by omega
          rw [List.take_length] at ho
          go_wp2_with fail
          go_ret
          exact ⟨_, F, rfl, ho, hF, hbr⟩
end Go.Proofs.Ythnkikdbllkmkaa
