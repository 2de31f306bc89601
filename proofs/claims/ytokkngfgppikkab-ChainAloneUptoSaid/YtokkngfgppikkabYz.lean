/- How long a name is, by what its reading holds. -/
import Derived.Test.YtokkngfgppikkabRows
import Derived.Test.YtokkngfgppikkabOb
import Derived.Test.YtokkngfgppikkabProg
namespace Go.Proofs.Ytokkngfgppikkab
set_option linter.unusedVariables false
set_option linter.unusedSimpArgs false
open Go.RowKit

theorem graph_bulk {H : Type} {enc : TypeId × Value → H} {W : World} {base : Nat} {spare : Nat → Bool} {held : Bool} {fuel : Nat} {nm : ByteArray} {kp lf : Bool} {v : Value} {d : DataW H} {ps : List MemPlace} (h : DataW.trod enc Try.prog W base spare held fuel 24 [.string nm, .bool kp, .bool lf, v] = some (d, ps)) : nm.size ≤ Rows.uptoBulk d := by
  have hc : Try.prog.cellsOf 9 = 1 := by kernel_rfl
  cases fuel with
  | zero => simp [DataW.trod] at h
  | succ n =>
    simp only [DataW.trod, Try.underlying24] at h
    split at h <;> simp_all
    obtain ⟨x, hx, h'⟩ := Option.bind_eq_some_iff.1 h
    obtain ⟨xs, hxs, he⟩ := Option.map_eq_some_iff.1 h'
    obtain ⟨u, _, hu⟩ := Option.bind_eq_some_iff.1 hxs
    obtain rfl := Option.some.inj hu
    obtain ⟨s', e1, e2, e3⟩ := DataW.trod_string Try.underlying9 hx
    simp at e1
    subst e1
    have e4 := congrArg Prod.fst he
    simp only [List.map_cons] at e4
    rw [← e4, e2]
    have hs : nm.data.toList.length = nm.size := by rw [Array.length_toList]; rfl
    simp only [Rows.uptoBulk, Rows.uptoBulkAll]
    omega
theorem upto_first {H : Type} {d : DataW H} {l : List (DataW H)} (h : Rows.uptoSmall H (d :: l) = true) : Rows.uptoBulk d ≤ 1048576 := by
  have h : Rows.uptoBulkAll (d :: l) ≤ 1048576 := of_decide_eq_true h
  simp only [Rows.uptoBulkAll] at h
  omega
end Go.Proofs.Ytokkngfgppikkab
