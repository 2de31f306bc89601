/- Weights: clean ones, their sums, their comparison. -/
import Derived.Test.YthnkikdbllkmkaaYa
import Derived.Test.YthnkikdbllkmkaaGa
import Derived.Test.YthnkikdbllkmkaaProg
import Derived.Laws.Cover2
namespace Go.Proofs.Ythnkikdbllkmkaa
set_option linter.unusedVariables false
set_option linter.unusedSimpArgs false
open Go.RowKit

theorem run_store_float {P : Program} {w : World} {a : Addr} {m : Mode} (k : FloatKind) (n : Nat) : (store a (.float k n) m).run P w = stored P w a (.float k n) m := run_store P w a _ m rfl
def fmax : Nat := 4831355200913801216
theorem fmax_pos : Fl.posW fmax := by unfold Fl.posW; decide
theorem zero_pos : Fl.posW 0 := Nat.zero_le _
/-- A clean weight. -/
def cleanW (x : Nat) : Nat := if Ieee.double.order x 0 = some .gt then (if Ieee.double.order x fmax = some .gt then fmax else x) else 0
namespace Fl
open Ieee
theorem read_zero : double.read 0 = .number false 0 double.leastPlace := by decide
theorem order_nan {x : Nat} (h : (double.read x).isNaN = true) (y : Nat) : double.order x y = none := by
  unfold Format.order
  cases hr : double.read x with
  | number => rw [hr] at h; cases h
  | infinity => rw [hr] at h; cases h
  | nan n f => unfold Datum.order; rfl
theorem order_self {x : Nat} (h : (double.read x).isNaN = false) : double.order x x = some .eq := by
  unfold Format.order
  cases hr : double.read x with
  | number s m i =>
    unfold Datum.order
    dsimp only
    rw [Int.compare_eq_eq.2 rfl]
  | infinity s => unfold Datum.order; dsimp only; rw [Nat.compare_eq_eq.2 rfl]
  | nan n f => rw [hr] at h; cases h
theorem order_some {x : Nat} (h : (double.read x).isNaN = false) : ∃ o, double.order x 0 = some o := by
  unfold Format.order
  rw [read_zero]
  cases hr : double.read x with
  | number s m i => exact ⟨_, rfl⟩
  | infinity s => exact ⟨_, rfl⟩
  | nan n f => rw [hr] at h; cases h
theorem gt_pos {x : Nat} (hx : x < 18446744073709551616) (h : double.order x 0 = some .gt) : posW x := by
  unfold posW
  have hs : double.signWeight = 9223372036854775808 := by decide
  have hi : double.infRung = 9218868437227405312 := by decide
  by_cases hx2 : x < double.signWeight
  · by_cases hle : x ≤ double.infRung
    · exact hle
    · exfalso
      have hb : double.binade = 4503599627370496 := by decide
      have hr : double.read x = .nan false (x - double.infRung) := by
        unfold Format.read
        dsimp only
        rw [Nat.div_eq_of_lt hx2, Nat.mod_eq_of_lt hx2, if_neg (by omega), if_neg (by omega), if_neg (by omega)]
        rfl
      rw [order_nan (by rw [hr]; rfl)] at h
      cases h
  · exfalso
    have hq : x / double.signWeight = 1 := by rw [hs] at *; omega
    unfold Format.order at h
    rw [read_zero] at h
    unfold Format.read at h
    dsimp only at h
    rw [hq] at h
    generalize x % double.signWeight = r at h
    have e1 : ((1 : Nat) % 2 == 1) = true := rfl
    rw [e1] at h
    have num : ∀ (m : Nat) (i : Int), (Datum.number true m i).order (Datum.number false 0 double.leastPlace) ≠ some .gt := by
      intro m i he
      unfold Datum.order at he
      dsimp only at he
      injection he with he
      rw [Int.compare_eq_gt] at he
      unfold signed at he
      simp only [if_true, Bool.false_eq_true, if_false] at he
      have : (0 : Nat) <<< (double.leastPlace - min i double.leastPlace).toNat = 0 := by simp
      rw [this] at he
      generalize m <<< (i - min i double.leastPlace).toNat = p at he
      omega
    split at h
    · exact num _ _ h
    · split at h
      · exact num _ _ h
      · split at h
        · cases h
        · cases h
end Fl
theorem cleanW_pos {x : Nat} (hx : x < 18446744073709551616) : Fl.posW (cleanW x) := by
  unfold cleanW
  split
  · rename_i h
    split
    · exact fmax_pos
    · exact Fl.gt_pos hx h
  · exact zero_pos
theorem wf_f64 {x : Nat} (h : (Lit.float .f64 x).wf = true) : x < 18446744073709551616 := by
  simp [Lit.wf] at h
  omega
/-- An edge's share in a sum. -/
def sumStep (p : Edge → Bool) (s : Nat) (e : Edge) : Nat := if p e = true then Fl.addW s (cleanW e.w) else s
def sumW (p : Edge → Bool) (l : List Edge) : Nat := l.foldl (sumStep p) 0
def edgeIs (nm : ByteArray) (f t : Int) (e : Edge) : Bool := e.func.toList == nm.toList && (e.src == f && e.to == t)
def ofW (l : List Edge) (nm : ByteArray) (f t : Int) : Nat := sumW (edgeIs nm f t) l
def totalW (l : List Edge) (nm : ByteArray) : Nat := sumW (fun e => e.func.toList == nm.toList) l
theorem sumStep_pos {p : Edge → Bool} {s : Nat} {e : Edge} (hs : Fl.posW s) (hw : e.wf) : Fl.posW (sumStep p s e) := by
  unfold sumStep
  split
  · exact Fl.addW_pos hs (cleanW_pos (wf_f64 hw.2.2.2))
  · exact hs
theorem sumW_take {p : Edge → Bool} {l : List Edge} {i : Nat} {e : Edge} (h : l[i]? = some e) : sumW p (l.take (i + 1)) = sumStep p (sumW p (l.take i)) e := by
  unfold sumW
  rw [take_snoc h, List.foldl_append]
  rfl
theorem foldl_pos {p : Edge → Bool} : ∀ (l : List Edge) (s : Nat), Fl.posW s → (∀ e ∈ l, e.wf) → Fl.posW (l.foldl (sumStep p) s)
  | [], _, hs, _ => hs
  | e :: r, s, hs, h => foldl_pos r _ (sumStep_pos hs (h e (List.mem_cons_self ..))) (fun x hx => h x (List.mem_cons_of_mem _ hx))
theorem sumW_pos {p : Edge → Bool} {l : List Edge} (h : ∀ e ∈ l, e.wf) : Fl.posW (sumW p l) := foldl_pos l 0 zero_pos h

theorem isnanf_calls (x : Nat) (w : World) : Calls Try.prog 42 #[.float .f64 x] w fun e w' => e = .returned (.bool (Ieee.double.read x).isNaN) ∧ w' = w := by
  have h : (FloatKind.f64.format.order x x != some .eq) = (Ieee.double.read x).isNaN := by
    show (Ieee.double.order x x != some .eq) = _
    cases hn : (Ieee.double.read x).isNaN with
    | true => rw [Fl.order_nan hn]; rfl
    | false => rw [Fl.order_self hn]; rfl
  generalize (Ieee.double.read x).isNaN = b at *
  go_enter Try.func42, Try.ntmps42
  go_wp2_with fail
  go_ret
  exact ⟨rfl, rfl⟩
theorem mathnan_calls (x : Nat) (w : World) : Calls Try.prog 51 #[.float .f64 x] w fun e w' => e = .returned (.bool (Ieee.double.read x).isNaN) ∧ w' = w := by
  have h : (FloatKind.f64.format.order x x != some .eq) = (Ieee.double.read x).isNaN := by
    show (Ieee.double.order x x != some .eq) = _
    cases hn : (Ieee.double.read x).isNaN with
    | true => rw [Fl.order_nan hn]; rfl
    | false => rw [Fl.order_self hn]; rfl
  generalize (Ieee.double.read x).isNaN = b at *
  go_enter Try.func51, Try.ntmps51
  go_wp2_with fail
  go_ret
  exact ⟨rfl, rfl⟩
theorem cleanW_no {x : Nat} (h : ¬ Ieee.double.order x 0 = some .gt) : cleanW x = 0 := by unfold cleanW; rw [if_neg h]
theorem cleanW_top {x : Nat} (h : Ieee.double.order x 0 = some .gt) (h2 : Ieee.double.order x fmax = some .gt) : cleanW x = fmax := by unfold cleanW; rw [if_pos h, if_pos h2]
theorem cleanW_self {x : Nat} (h : Ieee.double.order x 0 = some .gt) (h2 : ¬ Ieee.double.order x fmax = some .gt) : cleanW x = x := by unfold cleanW; rw [if_pos h, if_neg h2]
theorem clean_calls (x : Nat) (w : World) : Calls Try.prog 43 #[.float .f64 x] w fun e w' => e = .returned (.float .f64 (cleanW x)) ∧ w' = w := by
  cases hn : (Ieee.double.read x).isNaN with
  | true =>
    have hc := cleanW_no (x := x) (by rw [Fl.order_nan hn]; decide)
    have HC := Lib.hid hc
    have HN := Lib.hid hn
    clear hc hn
    go_enter Try.func43, Try.ntmps43
    go_wp2_with fail
    refine (mathnan_calls x _).mono ?_
    rw [HN.out]
    rintro e w1 ⟨rfl, rfl⟩
    go_wp2_with fail
    go_ret
    exact ⟨by rw [HC.out]; rfl, rfl⟩
  | false =>
    obtain ⟨o, ho⟩ := Fl.order_some hn
    have h0 : FloatKind.f64.format.order x 0 = some o := ho
    have HN := Lib.hid hn
    clear hn
    cases o with
    | lt =>
      have hc := cleanW_no (x := x) (by rw [ho]; decide)
      have HC := Lib.hid hc
      have z1 : (FloatKind.f64.format.order x 0 == some .lt || FloatKind.f64.format.order x 0 == some .eq) = true := by rw [h0]; rfl
      clear hc ho h0
      go_enter Try.func43, Try.ntmps43
      go_wp2_with fail
      refine (mathnan_calls x _).mono ?_
      rw [HN.out]
      rintro e w1 ⟨rfl, rfl⟩
      go_wp2_with fail
      go_ret
      exact ⟨by rw [HC.out]; rfl, rfl⟩
    | eq =>
      have hc := cleanW_no (x := x) (by rw [ho]; decide)
      have HC := Lib.hid hc
      have z1 : (FloatKind.f64.format.order x 0 == some .lt || FloatKind.f64.format.order x 0 == some .eq) = true := by rw [h0]; rfl
      clear hc ho h0
      go_enter Try.func43, Try.ntmps43
      go_wp2_with fail
      refine (mathnan_calls x _).mono ?_
      rw [HN.out]
      rintro e w1 ⟨rfl, rfl⟩
      go_wp2_with fail
      go_ret
      exact ⟨by rw [HC.out]; rfl, rfl⟩
    | gt =>
      have z1 : (FloatKind.f64.format.order x 0 == some .lt || FloatKind.f64.format.order x 0 == some .eq) = false := by rw [h0]; rfl
      by_cases hm : Ieee.double.order x fmax = some .gt
      · have hc := cleanW_top ho hm
        have HC := Lib.hid hc
        have z2 : (FloatKind.f64.format.order x 4831355200913801216 == some .gt) = true := by
          have : FloatKind.f64.format.order x 4831355200913801216 = some .gt := hm
          rw [this]; rfl
        clear hc ho h0 hm
        go_enter Try.func43, Try.ntmps43
        go_wp2_with fail
        refine (mathnan_calls x _).mono ?_
        rw [HN.out]
        rintro e w1 ⟨rfl, rfl⟩
        go_wp2_with fail
        go_ret
        exact ⟨by rw [HC.out]; rfl, rfl⟩
      · have hc := cleanW_self ho hm
        have HC := Lib.hid hc
        have z2 : (FloatKind.f64.format.order x 4831355200913801216 == some .gt) = false := by
          cases h : (FloatKind.f64.format.order x 4831355200913801216 == some .gt) with
          | false => rfl
          | true => exact absurd (eq_of_beq h) hm
        clear hc ho h0 hm
        go_enter Try.func43, Try.ntmps43
        go_wp2_with fail
        refine (mathnan_calls x _).mono ?_
        rw [HN.out]
        rintro e w1 ⟨rfl, rfl⟩
        go_wp2_with fail
        go_ret
        exact ⟨by rw [HC.out]; rfl, rfl⟩
end Go.Proofs.Ythnkikdbllkmkaa
