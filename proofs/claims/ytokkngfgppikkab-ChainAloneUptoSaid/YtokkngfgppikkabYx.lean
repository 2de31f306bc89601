/- Plain: edges of another function and those without weight change nothing. Printed in part by genYx.py of this repository. -/
import Derived.Test.YtokkngfgppikkabYt
import Derived.Test.YtokkngfgppikkabYw
import Derived.Laws.Concat
import Derived.Deep.RegionHeld3
namespace Go.Proofs.Ytokkngfgppikkab
set_option linter.unusedVariables false
set_option linter.unusedSimpArgs false
open Go.RowKit Go.Lib
attribute [local go_sem] run_store_float

def wTop : Nat := 4636666922610458624
def wLess : Nat := 13837309855095848960
def xName (nm : ByteArray) : ByteArray := nm ++ ⟨#[120]⟩
def extra (nm : ByteArray) (e : Edge) : List Edge := [⟨xName nm, e.src, e.to, wTop⟩, ⟨nm, e.to, e.src, wLess⟩]
def moreTo (nm : ByteArray) (l : List Edge) (k : Nat) : List Edge := l ++ (l.take k).flatMap (extra nm)
theorem xName_ne (nm : ByteArray) : (xName nm).toList ≠ nm.toList := by
  intro h
  have h1 := congrArg List.length h
  rw [ByteArray.toList_eq, ByteArray.toList_eq] at h1
  have h2 : (xName nm).size = nm.size + 1 := by unfold xName; rw [ByteArray.size_append]; rfl
  have e1 : (xName nm).data.toList.length = (xName nm).size := Array.length_toList
  have e2 : nm.data.toList.length = nm.size := Array.length_toList
  omega
theorem clean_less : cleanW wLess = 0 := by decide +kernel
theorem extra_step {nm : ByteArray} {e : Edge} {f t : Int} {s : Nat} (hs : Fl.posW s) : ∀ x ∈ extra nm e, sumStep (edgeIs nm f t) s x = s := by
  intro x hx
  simp only [extra, List.mem_cons, List.not_mem_nil, or_false] at hx
  rcases hx with rfl | rfl
  · unfold sumStep
    rw [if_neg]
    intro h
    simp only [edgeIs, Bool.and_eq_true, beq_iff_eq] at h
    exact xName_ne nm h.1
  · unfold sumStep
    split
    · show Fl.addW s (cleanW wLess) = s
      rw [clean_less]
      exact Fl.addW_zero hs
    · rfl
theorem foldl_same {p : Edge → Bool} {s : Nat} : ∀ ex : List Edge, (∀ x ∈ ex, sumStep p s x = s) → ex.foldl (sumStep p) s = s
  | [], _ => rfl
  | x :: r, h => by
    rw [List.foldl_cons, h x (List.mem_cons_self ..)]
    exact foldl_same r (fun y hy => h y (List.mem_cons_of_mem _ hy))
theorem ofW_more {nm : ByteArray} {l : List Edge} (hw : ∀ e ∈ l, e.wf) (k : Nat) (f t : Int) : ofW (moreTo nm l k) nm f t = ofW l nm f t := by
  unfold ofW sumW moreTo
  rw [List.foldl_append]
  refine foldl_same _ (fun x hx => ?_)
  obtain ⟨e, -, he⟩ := List.mem_flatMap.1 hx
  exact extra_step (sumW_pos hw) x he
theorem mkE_same {l l' : List Edge} {nm : ByteArray} {i t : Int} (h : ofW l' nm i t = ofW l nm i t) : mkE l' nm i t = mkE l nm i t := by
  have key : ∀ n m : Nat, n = m → (⟨i, t, if h : Fl.posW n then ⟨n, h⟩ else ⟨0, zero_pos⟩⟩ : Edg) = ⟨i, t, if h : Fl.posW m then ⟨m, h⟩ else ⟨0, zero_pos⟩⟩ := by
    rintro n _ rfl
    rfl
  exact key _ _ h
theorem edgesD_same {l l' : List Edge} {nm : ByteArray} (h : ∀ i t, ofW l' nm i t = ofW l nm i t) (bs : List Block) : edgesD l' nm bs = edgesD l nm bs := by
  have hp : ∀ i t, putE l' nm i t = putE l nm i t := fun i t => by unfold putE; rw [mkE_same (h i t)]
  have ha : ∀ i b, atE l' nm i b = atE l nm i b := fun i b => by unfold atE; rw [hp, hp]
  have hr : ∀ k, rawTo l' nm bs k = rawTo l nm bs k := fun k => by
    induction k with
    | zero => rfl
    | succ k ih =>
      show rawTo l' nm bs k ++ _ = rawTo l nm bs k ++ _
      rw [ih]
      cases bs[k]? with
      | none => rfl
      | some b => show _ ++ atE l' nm k b = _ ++ atE l nm k b; rw [ha]
  unfold edgesD
  rw [hr]
theorem moreTo_zero (nm : ByteArray) (l : List Edge) : moreTo nm l 0 = l := by simp [moreTo]
theorem moreTo_succ {nm : ByteArray} {l : List Edge} {k : Nat} {e : Edge} (h : l[k]? = some e) : moreTo nm l (k + 1) = moreTo nm l k ++ extra nm e := by
  unfold moreTo
  rw [take_snoc h, List.flatMap_append, List.append_assoc]
  simp
theorem moreTo_len (nm : ByteArray) (l : List Edge) (k : Nat) : (moreTo nm l k).length ≤ l.length + 2 * k := by
  induction k with
  | zero => rw [moreTo_zero]; omega
  | succ k ih =>
    by_cases hk : k < l.length
    · obtain ⟨e, he⟩ := get_some l k hk
      rw [moreTo_succ he, List.length_append]
      show _ + 2 ≤ _
      omega
    · have : moreTo nm l (k + 1) = moreTo nm l k := by
        unfold moreTo
        rw [List.take_of_length_le (by omega), List.take_of_length_le (by omega)]
      rw [this]
      omega

def oEdge : Od Edge := Od.flat kEdge (fun h => h)
def zEdge : Value := .agg #[.string ByteArray.empty, .int .i64 0, .int .i64 0, .float .f64 0]
theorem elEdge : ElK kEdge 42 25 zEdge 40 := ⟨Try.underlying25, by kernel_rfl, rfl, by decide, by decide⟩
theorem extra_wf {nm : ByteArray} {e : Edge} (h1 : nm.size + 1 ≤ maxLen) (hw : e.wf) : ∀ x ∈ extra nm e, x.wf := by
  intro x hx
  simp only [extra, List.mem_cons, List.not_mem_nil, or_false] at hx
  rcases hx with rfl | rfl
  · exact ⟨by show (xName nm).size ≤ maxLen; unfold xName; rw [ByteArray.size_append]; exact h1, hw.2.1, hw.2.2.1, by show (Lit.float .f64 wTop).wf = true; decide⟩
  · exact ⟨by show nm.size ≤ maxLen; omega, hw.2.2.1, hw.2.1, by show (Lit.float .f64 wLess).wf = true; decide⟩
end Go.Proofs.Ytokkngfgppikkab
