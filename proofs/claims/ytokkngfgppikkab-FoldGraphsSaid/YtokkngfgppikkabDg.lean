/- The document's Tails. Printed in part by genDg.py of this repository. -/
import Derived.Test.YtokkngfgppikkabDf
import Derived.Deep.RegionHeld3
import Derived.IntWalk
namespace Go.Proofs.Ytokkngfgppikkab
set_option linter.unusedVariables false
set_option linter.unusedSimpArgs false
open Go.RowKit

/-- What the making of a tail reads. -/
def ST (w : World) (p0 k : Nat) (v3 : Value) (g6 : Nat) (v0 : Value) (a7 : Addr) (t : Int) : Prop := w.cell? ⟨p0, k * 4 + 3, none⟩ = some v3 ∧ w.cell? ⟨g6, 0, none⟩ = some v0 ∧ w.cell? ⟨a7.block, a7.off + 7, none⟩ = some (.int .i64 t)
theorem ST.sub {w w' : World} {p0 k : Nat} {v3 : Value} {g6 : Nat} {v0 : Value} {a7 : Addr} {t : Int} (h : ST w p0 k v3 g6 v0 a7 t) (hs : Sub w w') : ST w' p0 k v3 g6 v0 a7 t := ⟨hs _ _ h.1, hs _ _ h.2.1, hs _ _ h.2.2⟩
theorem ST.grown {w w' : World} {p0 k : Nat} {v3 : Value} {g6 : Nat} {v0 : Value} {a7 : Addr} {t : Int} {p1 : Nat} (h : ST w p0 k v3 g6 v0 a7 t) (hg : w.grownBy w' (some p1)) (n1 : p0 ≠ p1) (n2 : g6 ≠ p1) (n3 : a7.block ≠ p1) : ST w' p0 k v3 g6 v0 a7 t :=
  ⟨hg.cell h.1 (by simpa using n1), hg.cell h.2.1 (by simpa using n2), hg.cell h.2.2 (by simpa using n3)⟩
theorem C_take {α : Type} {k : Kd α} {w : World} {A : Option Addr} {xs : List α} (h : k.C w A xs) (n : Nat) : k.C w A (xs.take n) := fun i x hx => h i x (by
  rw [List.getElem?_take] at hx
  split at hx
  · exact hx
  · cases hx)

end Go.Proofs.Ytokkngfgppikkab
