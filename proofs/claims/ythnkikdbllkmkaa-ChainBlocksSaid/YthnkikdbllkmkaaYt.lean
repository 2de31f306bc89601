/- ChainWhole returns true: for every graph that is right, and whatever weights: the order has each block once, the first one first, and can be emitted. -/
import Derived.Test.YthnkikdbllkmkaaYr
import Derived.Test.YthnkikdbllkmkaaYs
namespace Go.Proofs.Ythnkikdbllkmkaa
set_option linter.unusedVariables false
set_option linter.unusedSimpArgs false
open Go.RowKit Go.Lib

theorem edges_wf {w : World} {A : Option Addr} {l : List Edge} (h : kEdge.C w A l) : ∀ e ∈ l, e.wf := fun e he => by
  obtain ⟨i, hi⟩ := List.mem_iff_getElem?.1 he
  obtain ⟨ad, -, -, -, -, -, hw⟩ := Edge_at h hi
  exact hw
/-- What an order of blocks is. -/
theorem order_facts {l : List Edge} {nm : ByteArray} {bs : List Block} (hld : Leads bs) (hp : 0 < bs.length) : (blocksD bs.length (edgesD l nm bs)).length = bs.length ∧ (blocksD bs.length (edgesD l nm bs))[0]? = some 0 ∧ (∀ x ∈ blocksD bs.length (edgesD l nm bs), x < bs.length) ∧ (∀ j, j < bs.length → (blocksD bs.length (edgesD l nm bs)).count j = 1) := by
  have hin := edgesD_in (l := l) (nm := nm) hld
  have hinv := runE_inv (n := bs.length) hin
  have hz := runE_zero (n := bs.length) hp (fun e he => ⟨hin e he, (edgesD_ne e he).1⟩)
  exact ⟨hinv.flat_len, zero_flat hz, fun x hx => hinv.flat_mem.1 hx, fun j hj => count_nodup hinv.flat_nodup (hinv.flat_mem.2 hj)⟩

end Go.Proofs.Ythnkikdbllkmkaa
