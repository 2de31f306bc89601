/- Sums of weights. Printed by genYc.py of this repository. -/
import Derived.Test.YthnkikdbllkmkaaYb
import Derived.Test.YthnkikdbllkmkaaGc
namespace Go.Proofs.Ythnkikdbllkmkaa
set_option linter.unusedVariables false
set_option linter.unusedSimpArgs false
open Go.RowKit
attribute [local go_sem] run_store_float

set_option maxHeartbeats 4000000 in
set_option maxRecDepth 100000 in
theorem wof_calls (A : Option Addr) (c : Nat) (l : List Edge) (nm : ByteArray) (f t : Int) (w : World) (hC : kEdge.C w A l) (hw : ∀ e ∈ l, e.wf) (hl : l.length ≤ maxLen) : Calls Try.prog 33 #[.slice A l.length c, .string nm, .int .i64 f, .int .i64 t] w fun e w' => e = .returned (.float .f64 (sumW (edgeIs nm f t) l)) ∧ Below w.heap.size w w' := by
  have hlo : l.length ≤ 9223372036854775807 := hl
  have HW := Lib.hid hw
  clear hw
  go_enter Try.func33, Try.ntmps33
  go_wp2_with fail
  go_loopw [9, 14] (fun s i wr => ∃ k : Nat, k ≤ l.length ∧ i = .int .i64 (k : Int) ∧ s = .float .f64 (sumW (edgeIs nm f t) (l.take k)) ∧ Below w.heap.size w wr) (fun _ i _ => l.length - (intOf i).toNat)
  case atStart => exact ⟨0, Nat.zero_le _, rfl, rfl, Below.refl _ _⟩
  case round =>
    obtain ⟨k, hk, rfl, rfl, hbr⟩ := hrel
    by_cases hlt : k < l.length
    · obtain ⟨e, he⟩ := get_some l k hlt
      obtain ⟨ad, rfl, f0, f1, f2, f3, hew⟩ := Edge_at (Kd.C_mono hbr hC) he
      have hsn := sumW_take (p := edgeIs nm f t) he
      have hsp : Fl.posW (sumW (edgeIs nm f t) (l.take k)) := sumW_pos (fun x hx => HW.out x (List.mem_of_mem_take hx))
      have hcp := cleanW_pos (wf_f64 hew.2.2.2)
      generalize sumW (edgeIs nm f t) (l.take k) = s at *
      have hop : ∀ t w, (binOp .add t (.float .f64 s) (.float .f64 (cleanW e.w))).run Try.prog w = .ok (.float .f64 (Fl.addW s (cleanW e.w))) w := fun t w => run_float_arith w .add t .f64 _ _ _ (Fl.add_eq hsp hcp)
      have HSN := Lib.hid hsn
      have b2 := hbr.trans ((below_alloc' wr (.cells #[.string e.func, .int .i64 e.src, .int .i64 e.to, .float .f64 e.w] 49)).mono hbr.size)
      clear hsn he hsp hcp hew
      rcases Bool.eq_false_or_eq_true (e.func.toList == nm.toList) with h0 | h0
      · rcases Bool.eq_false_or_eq_true (e.src == f) with h1 | h1
        · rcases Bool.eq_false_or_eq_true (e.to == t) with h2 | h2
          · go_wp2_with fail
            refine (clean_calls e.w _).mono ?_
            rintro q w1 ⟨rfl, rfl⟩
            go_wp2_with fail
            have hst : sumStep (edgeIs nm f t) s e = Fl.addW s (cleanW e.w) := by unfold sumStep; rw [if_pos (by simp [edgeIs, h0, h1, h2])]
            exact ⟨⟨k + 1, by omega, by go_num, by rw [HSN.out, hst], b2⟩, by simp [intOf]; omega⟩
          · go_wp2_with fail
            have hst : sumStep (edgeIs nm f t) s e = s := by unfold sumStep; rw [if_neg (by simp [edgeIs, h0, h1, h2])]
            exact ⟨⟨k + 1, by omega, by go_num, by rw [HSN.out, hst], b2⟩, by simp [intOf]; omega⟩
        · go_wp2_with fail
          have hst : sumStep (edgeIs nm f t) s e = s := by unfold sumStep; rw [if_neg (by simp [edgeIs, h0, h1])]
          exact ⟨⟨k + 1, by omega, by go_num, by rw [HSN.out, hst], b2⟩, by simp [intOf]; omega⟩
      · go_wp2_with fail
        have hst : sumStep (edgeIs nm f t) s e = s := by unfold sumStep; rw [if_neg (by simp [edgeIs, h0])]
        exact ⟨⟨k + 1, by omega, by go_num, by rw [HSN.out, hst], b2⟩, by simp [intOf]; omega⟩
    · obtain rfl : k = l.length := by omega
      rw [List.take_length]
      go_wp2_with fail
      go_ret
      exact ⟨rfl, hbr⟩

set_option maxHeartbeats 4000000 in
set_option maxRecDepth 100000 in
theorem wtotal_calls (A : Option Addr) (c : Nat) (l : List Edge) (nm : ByteArray) (w : World) (hC : kEdge.C w A l) (hw : ∀ e ∈ l, e.wf) (hl : l.length ≤ maxLen) : Calls Try.prog 26 #[.slice A l.length c, .string nm] w fun e w' => e = .returned (.float .f64 (sumW (fun e => e.func.toList == nm.toList) l)) ∧ Below w.heap.size w w' := by
  have hlo : l.length ≤ 9223372036854775807 := hl
  have HW := Lib.hid hw
  clear hw
  go_enter Try.func26, Try.ntmps26
  go_wp2_with fail
  go_loopw [5, 10] (fun s i wr => ∃ k : Nat, k ≤ l.length ∧ i = .int .i64 (k : Int) ∧ s = .float .f64 (sumW (fun e => e.func.toList == nm.toList) (l.take k)) ∧ Below w.heap.size w wr) (fun _ i _ => l.length - (intOf i).toNat)
  case atStart => exact ⟨0, Nat.zero_le _, rfl, rfl, Below.refl _ _⟩
  case round =>
    obtain ⟨k, hk, rfl, rfl, hbr⟩ := hrel
    by_cases hlt : k < l.length
    · obtain ⟨e, he⟩ := get_some l k hlt
      obtain ⟨ad, rfl, f0, f1, f2, f3, hew⟩ := Edge_at (Kd.C_mono hbr hC) he
      have hsn := sumW_take (p := fun e => e.func.toList == nm.toList) he
      have hsp : Fl.posW (sumW (fun e => e.func.toList == nm.toList) (l.take k)) := sumW_pos (fun x hx => HW.out x (List.mem_of_mem_take hx))
      have hcp := cleanW_pos (wf_f64 hew.2.2.2)
      generalize sumW (fun e => e.func.toList == nm.toList) (l.take k) = s at *
      have hop : ∀ t w, (binOp .add t (.float .f64 s) (.float .f64 (cleanW e.w))).run Try.prog w = .ok (.float .f64 (Fl.addW s (cleanW e.w))) w := fun t w => run_float_arith w .add t .f64 _ _ _ (Fl.add_eq hsp hcp)
      have HSN := Lib.hid hsn
      have b2 := hbr.trans ((below_alloc' wr (.cells #[.string e.func, .int .i64 e.src, .int .i64 e.to, .float .f64 e.w] 49)).mono hbr.size)
      clear hsn he hsp hcp hew
      rcases Bool.eq_false_or_eq_true (e.func.toList == nm.toList) with h0 | h0
      · go_wp2_with fail
        refine (clean_calls e.w _).mono ?_
        rintro q w1 ⟨rfl, rfl⟩
        go_wp2_with fail
        have hst : sumStep (fun e => e.func.toList == nm.toList) s e = Fl.addW s (cleanW e.w) := by unfold sumStep; rw [if_pos (by simp [edgeIs, h0])]
        exact ⟨⟨k + 1, by omega, by go_num, by rw [HSN.out, hst], b2⟩, by simp [intOf]; omega⟩
      · go_wp2_with fail
        have hst : sumStep (fun e => e.func.toList == nm.toList) s e = s := by unfold sumStep; rw [if_neg (by simp [edgeIs, h0])]
        exact ⟨⟨k + 1, by omega, by go_num, by rw [HSN.out, hst], b2⟩, by simp [intOf]; omega⟩
    · obtain rfl : k = l.length := by omega
      rw [List.take_length]
      go_wp2_with fail
      go_ret
      exact ⟨rfl, hbr⟩

theorem isnani_calls (x : Int) (w : World) : Calls Try.prog 48 #[.int .i64 x] w fun e w' => e = .returned (.bool false) ∧ w' = w := by
  go_enter Try.func48, Try.ntmps48
  go_wp2_with fail
  go_ret
  exact ⟨rfl, rfl⟩
/-- How two stand to each other. -/
def cmpI (x y : Int) : Int := if x < y then -1 else if y < x then 1 else 0
theorem cmpi_calls (x y : Int) (w : World) : Calls Try.prog 37 #[.int .i64 x, .int .i64 y] w fun e w' => e = .returned (.int .i64 (cmpI x y)) ∧ w' = w := by
  rcases Int.lt_trichotomy x y with h | h | h
  · have HE := Lib.hid (show cmpI x y = -1 from by unfold cmpI; rw [if_pos h])
    have z1 : decide (x < y) = true := decide_eq_true h
    go_enter Try.func37, Try.ntmps37
    go_wp2_with (refine (isnani_calls _ _).mono ?_; rintro q w1 ⟨rfl, rfl⟩)
    go_ret
    exact ⟨by rw [HE.out]; rfl, rfl⟩
  · have HE := Lib.hid (show cmpI x y = 0 from by unfold cmpI; rw [if_neg (by omega), if_neg (by omega)])
    have z1 : decide (x < y) = false := decide_eq_false (by omega)
    have z2 : decide (y < x) = false := decide_eq_false (by omega)
    clear h
    go_enter Try.func37, Try.ntmps37
    go_wp2_with (refine (isnani_calls _ _).mono ?_; rintro q w1 ⟨rfl, rfl⟩)
    go_ret
    exact ⟨by rw [HE.out]; rfl, rfl⟩
  · have HE := Lib.hid (show cmpI x y = 1 from by unfold cmpI; rw [if_neg (by omega), if_pos h])
    have z1 : decide (x < y) = false := decide_eq_false (by omega)
    have z2 : decide (y < x) = true := decide_eq_true h
    clear h
    go_enter Try.func37, Try.ntmps37
    go_wp2_with (refine (isnani_calls _ _).mono ?_; rintro q w1 ⟨rfl, rfl⟩)
    go_ret
    exact ⟨by rw [HE.out]; rfl, rfl⟩
def cmpW (x y : Nat) : Int := if x < y then -1 else if y < x then 1 else 0
theorem posW_nan {x : Nat} (h : Fl.posW x) : (Ieee.double.read x).isNaN = false := by
  cases hn : (Ieee.double.read x).isNaN with
  | false => rfl
  | true =>
    have := Fl.order_nan hn x
    rw [Fl.order_pos h h] at this
    cases this
theorem cmpf_calls (x y : Nat) (w : World) (hx : Fl.posW x) (hy : Fl.posW y) : Calls Try.prog 25 #[.float .f64 x, .float .f64 y] w fun e w' => e = .returned (.int .i64 (cmpW x y)) ∧ w' = w := by
  have nx := posW_nan hx
  have ny := posW_nan hy
  have ho : FloatKind.f64.format.order x y = some (compare x y) := Fl.order_pos hx hy
  have cx : ∀ W : World, Calls Try.prog 42 #[.float .f64 x] W fun e w' => e = .returned (.bool false) ∧ w' = W := fun W => (isnanf_calls x W).mono (fun e w' h => by rw [nx] at h; exact h)
  have cy : ∀ W : World, Calls Try.prog 42 #[.float .f64 y] W fun e w' => e = .returned (.bool false) ∧ w' = W := fun W => (isnanf_calls y W).mono (fun e w' h => by rw [ny] at h; exact h)
  clear nx ny
  rcases Nat.lt_trichotomy x y with h | h | h
  · have HE := Lib.hid (show cmpW x y = -1 from by unfold cmpW; rw [if_pos h])
    rw [Nat.compare_eq_lt.2 h] at ho
    have z1 : (FloatKind.f64.format.order x y == some .lt) = true := by rw [ho]; rfl
    clear ho h
    go_enter Try.func25, Try.ntmps25
    go_wp2_with fail
    refine (cx _).mono ?_
    rintro q w1 ⟨rfl, rfl⟩
    go_wp2_with fail
    refine (cy _).mono ?_
    rintro q w1 ⟨rfl, rfl⟩
    go_wp2_with fail
    go_ret
    exact ⟨by rw [HE.out]; rfl, rfl⟩
  · have HE := Lib.hid (show cmpW x y = 0 from by unfold cmpW; rw [if_neg (by omega), if_neg (by omega)])
    rw [Nat.compare_eq_eq.2 h] at ho
    have z1 : (FloatKind.f64.format.order x y == some .lt) = false := by rw [ho]; rfl
    have z2 : (FloatKind.f64.format.order x y == some .gt) = false := by rw [ho]; rfl
    clear ho h
    go_enter Try.func25, Try.ntmps25
    go_wp2_with fail
    refine (cx _).mono ?_
    rintro q w1 ⟨rfl, rfl⟩
    go_wp2_with fail
    refine (cy _).mono ?_
    rintro q w1 ⟨rfl, rfl⟩
    go_wp2_with fail
    go_ret
    exact ⟨by rw [HE.out]; rfl, rfl⟩
  · have HE := Lib.hid (show cmpW x y = 1 from by unfold cmpW; rw [if_neg (by omega), if_pos h])
    rw [Nat.compare_eq_gt.2 h] at ho
    have z1 : (FloatKind.f64.format.order x y == some .lt) = false := by rw [ho]; rfl
    have z2 : (FloatKind.f64.format.order x y == some .gt) = true := by rw [ho]; rfl
    clear ho h
    go_enter Try.func25, Try.ntmps25
    go_wp2_with fail
    refine (cx _).mono ?_
    rintro q w1 ⟨rfl, rfl⟩
    go_wp2_with fail
    refine (cy _).mono ?_
    rintro q w1 ⟨rfl, rfl⟩
    go_wp2_with fail
    go_ret
    exact ⟨by rw [HE.out]; rfl, rfl⟩
end Go.Proofs.Ythnkikdbllkmkaa
