/-
  No cell of these rows narrows 'for every input' (looked for: loops, veiled, ifaces, maps, wideKeys, modest, calm, conditions, laid).
  DERIVED. THE GIVEN ROWS OF THIS SEAT. 8 by the template 'for every input the law returns true; each argument reads behind the call as it read before'; 0 by the template 'total and deterministic' (their statements: YtobhjjbhlnbcpaaTotals.lean).
  GIVEN WITH THE SEED: the statements are not yours to turn. If you find one false, say at which input.
  Laid BY PROGRAM, IN A SANDBOX (cutbox-rows.mjs): the forced cells as the released guide's own fill.sh prints them over the translation 8c857c5371e73722… (all of the seat's roots in one cut). By AI agents, Wed Nov 11 2026. No macro, syntax, notation, axiom, sorry.
-/
import Derived.Test.YtobhjjbhlnbcpaaChecked
import GoSem.Claim
import GoSem.ClaimJoined
import GoSem.ClaimMapViews
import Derived.JoinedTies
import Derived.KernelRfl
namespace Go.Proofs.Ytobhjjbhlnbcpaa
/- THE CELL 'sum', in the pinned program and in every row, IS THE sha256 OF THE DUMP (.gsa) THAT YtobhjjbhlnbcpaaProg.lean LOADS. Nothing in Lean hashes anything: it is a label: what it is worth is what the hold of that sum in a sandbox is worth. -/
noncomputable def Try.pinned : Pinned := { name := "ytobhjjbhlnbcpaa", sum := "8c857c5371e73722aa8facfd998f83a7e53190a39409213285733d2cf0f31db5", checked := Try.checked }
namespace Rows
def none {H : Type} : Left H := { results := [], args := [] }

/-- 'splicelaw23.InlineGraphs': WHATEVER THE INPUT: true; the input reads as it did. -/
def inlineGraphsSpec : ChangeSpec := { name := "inlineGraphs", fn := fun _ => fun
  | [d] => { results := [.lit (.bool true)], args := [d] }
  | _ => none }
def inlineGraphsRow : OpenClaim := { program := "ytobhjjbhlnbcpaa", sum := "8c857c5371e73722aa8facfd998f83a7e53190a39409213285733d2cf0f31db5", func := "splice/splicelaw23.InlineGraphs", spec := "inlineGraphs", unfollowed := true, recurses := true, apart := false }
def InlineGraphsSaid : Prop := inlineGraphsRow.holds Try.pinned (OpenSpec.ofChange inlineGraphsSpec)

/-- ITS FALSE NEIGHBOUR: 'it returns false'. Refute it at one input. -/
def inlineGraphsWrong : ChangeSpec := { name := "inlineGraphs", fn := fun _ => fun
  | [d] => { results := [.lit (.bool false)], args := [d] }
  | _ => none }
def InlineGraphsWrongFalsely : Prop := inlineGraphsRow.holds Try.pinned (OpenSpec.ofChange inlineGraphsWrong)

/-- 'splicelaw23.InlineRight': WHATEVER THE INPUT: true; the input reads as it did. -/
def inlineRightSpec : ChangeSpec := { name := "inlineRight", fn := fun _ => fun
  | [d] => { results := [.lit (.bool true)], args := [d] }
  | _ => none }
def inlineRightRow : OpenClaim := { program := "ytobhjjbhlnbcpaa", sum := "8c857c5371e73722aa8facfd998f83a7e53190a39409213285733d2cf0f31db5", func := "splice/splicelaw23.InlineRight", spec := "inlineRight", unfollowed := true, recurses := true, apart := false }
def InlineRightSaid : Prop := inlineRightRow.holds Try.pinned (OpenSpec.ofChange inlineRightSpec)

/-- ITS FALSE NEIGHBOUR: 'it returns false'. Refute it at one input. -/
def inlineRightWrong : ChangeSpec := { name := "inlineRight", fn := fun _ => fun
  | [d] => { results := [.lit (.bool false)], args := [d] }
  | _ => none }
def InlineRightWrongFalsely : Prop := inlineRightRow.holds Try.pinned (OpenSpec.ofChange inlineRightWrong)

/-- 'splicelaw23.InlineKeeps': WHATEVER THE INPUT: true; the input reads as it did. -/
def inlineKeepsSpec : ChangeSpec := { name := "inlineKeeps", fn := fun _ => fun
  | [d] => { results := [.lit (.bool true)], args := [d] }
  | _ => none }
def inlineKeepsRow : OpenClaim := { program := "ytobhjjbhlnbcpaa", sum := "8c857c5371e73722aa8facfd998f83a7e53190a39409213285733d2cf0f31db5", func := "splice/splicelaw23.InlineKeeps", spec := "inlineKeeps", unfollowed := true, recurses := true, apart := false }
def InlineKeepsSaid : Prop := inlineKeepsRow.holds Try.pinned (OpenSpec.ofChange inlineKeepsSpec)

/-- ITS FALSE NEIGHBOUR: 'it returns false'. Refute it at one input. -/
def inlineKeepsWrong : ChangeSpec := { name := "inlineKeeps", fn := fun _ => fun
  | [d] => { results := [.lit (.bool false)], args := [d] }
  | _ => none }
def InlineKeepsWrongFalsely : Prop := inlineKeepsRow.holds Try.pinned (OpenSpec.ofChange inlineKeepsWrong)

/-- 'splicelaw23.InlineTwice': WHATEVER THE INPUT: true; the input reads as it did. -/
def inlineTwiceSpec : ChangeSpec := { name := "inlineTwice", fn := fun _ => fun
  | [d] => { results := [.lit (.bool true)], args := [d] }
  | _ => none }
def inlineTwiceRow : OpenClaim := { program := "ytobhjjbhlnbcpaa", sum := "8c857c5371e73722aa8facfd998f83a7e53190a39409213285733d2cf0f31db5", func := "splice/splicelaw23.InlineTwice", spec := "inlineTwice", unfollowed := true, recurses := true, apart := false }
def InlineTwiceSaid : Prop := inlineTwiceRow.holds Try.pinned (OpenSpec.ofChange inlineTwiceSpec)

/-- ITS FALSE NEIGHBOUR: 'it returns false'. Refute it at one input. -/
def inlineTwiceWrong : ChangeSpec := { name := "inlineTwice", fn := fun _ => fun
  | [d] => { results := [.lit (.bool false)], args := [d] }
  | _ => none }
def InlineTwiceWrongFalsely : Prop := inlineTwiceRow.holds Try.pinned (OpenSpec.ofChange inlineTwiceWrong)

/-- 'splicelaw19.LiveSets': WHATEVER THE INPUT: true; the input reads as it did. -/
def liveSetsSpec : ChangeSpec := { name := "liveSets", fn := fun _ => fun
  | [d] => { results := [.lit (.bool true)], args := [d] }
  | _ => none }
def liveSetsRow : OpenClaim := { program := "ytobhjjbhlnbcpaa", sum := "8c857c5371e73722aa8facfd998f83a7e53190a39409213285733d2cf0f31db5", func := "splice/splicelaw19.LiveSets", spec := "liveSets", unfollowed := true, recurses := true, apart := false }
def LiveSetsSaid : Prop := liveSetsRow.holds Try.pinned (OpenSpec.ofChange liveSetsSpec)

/-- ITS FALSE NEIGHBOUR: 'it returns false'. Refute it at one input. -/
def liveSetsWrong : ChangeSpec := { name := "liveSets", fn := fun _ => fun
  | [d] => { results := [.lit (.bool false)], args := [d] }
  | _ => none }
def LiveSetsWrongFalsely : Prop := liveSetsRow.holds Try.pinned (OpenSpec.ofChange liveSetsWrong)

/-- 'splicelaw19.LiveBefore': WHATEVER THE INPUT: true; the input reads as it did. -/
def liveBeforeSpec : ChangeSpec := { name := "liveBefore", fn := fun _ => fun
  | [d1, d2, d3, d4] => { results := [.lit (.bool true)], args := [d1, d2, d3, d4] }
  | _ => none }
def liveBeforeRow : OpenClaim := { program := "ytobhjjbhlnbcpaa", sum := "8c857c5371e73722aa8facfd998f83a7e53190a39409213285733d2cf0f31db5", func := "splice/splicelaw19.LiveBefore", spec := "liveBefore", unfollowed := true, recurses := true, apart := false }
def LiveBeforeSaid : Prop := liveBeforeRow.holds Try.pinned (OpenSpec.ofChange liveBeforeSpec)

/-- ITS FALSE NEIGHBOUR: 'it returns false'. Refute it at one input. -/
def liveBeforeWrong : ChangeSpec := { name := "liveBefore", fn := fun _ => fun
  | [d1, d2, d3, d4] => { results := [.lit (.bool false)], args := [d1, d2, d3, d4] }
  | _ => none }
def LiveBeforeWrongFalsely : Prop := liveBeforeRow.holds Try.pinned (OpenSpec.ofChange liveBeforeWrong)

/-- 'splicelaw19.LiveEquations': WHATEVER THE INPUT: true; the input reads as it did. -/
def liveEquationsSpec : ChangeSpec := { name := "liveEquations", fn := fun _ => fun
  | [d] => { results := [.lit (.bool true)], args := [d] }
  | _ => none }
def liveEquationsRow : OpenClaim := { program := "ytobhjjbhlnbcpaa", sum := "8c857c5371e73722aa8facfd998f83a7e53190a39409213285733d2cf0f31db5", func := "splice/splicelaw19.LiveEquations", spec := "liveEquations", unfollowed := true, recurses := true, apart := false }
def LiveEquationsSaid : Prop := liveEquationsRow.holds Try.pinned (OpenSpec.ofChange liveEquationsSpec)

/-- ITS FALSE NEIGHBOUR: 'it returns false'. Refute it at one input. -/
def liveEquationsWrong : ChangeSpec := { name := "liveEquations", fn := fun _ => fun
  | [d] => { results := [.lit (.bool false)], args := [d] }
  | _ => none }
def LiveEquationsWrongFalsely : Prop := liveEquationsRow.holds Try.pinned (OpenSpec.ofChange liveEquationsWrong)

/-- 'splicelaw19.LiveKeeps': WHATEVER THE INPUT: true; the input reads as it did. -/
def liveKeepsSpec : ChangeSpec := { name := "liveKeeps", fn := fun _ => fun
  | [d] => { results := [.lit (.bool true)], args := [d] }
  | _ => none }
def liveKeepsRow : OpenClaim := { program := "ytobhjjbhlnbcpaa", sum := "8c857c5371e73722aa8facfd998f83a7e53190a39409213285733d2cf0f31db5", func := "splice/splicelaw19.LiveKeeps", spec := "liveKeeps", unfollowed := true, recurses := true, apart := false }
def LiveKeepsSaid : Prop := liveKeepsRow.holds Try.pinned (OpenSpec.ofChange liveKeepsSpec)

/-- ITS FALSE NEIGHBOUR: 'it returns false'. Refute it at one input. -/
def liveKeepsWrong : ChangeSpec := { name := "liveKeeps", fn := fun _ => fun
  | [d] => { results := [.lit (.bool false)], args := [d] }
  | _ => none }
def LiveKeepsWrongFalsely : Prop := liveKeepsRow.holds Try.pinned (OpenSpec.ofChange liveKeepsWrong)

/- THE SECOND FORM. 'bulk': how many values and letters a reading holds, each counted each time it is reached (what is shared counts as often as it is met; a slice's spare places count too). A statement '..UptoSaid' is the law's where the arguments, and the package variables that the reading takes, are together of bulk at most 1048576: NARROWER than '..Said'. Prove '..Said' where nothing that the law and all that it calls make is longer than what came in: it says more and counts as full. Else prove '..UptoSaid'. A law counts once. -/
mutual
def uptoBulk {H : Type} : DataW H → Nat
  | .lit (.string bytes) => bytes.length + 1
  | .lit _ => 1
  | .nil => 1
  | .ptr d => uptoBulk d + 1
  | .slice elems spare => uptoBulkAll elems + uptoBulkAll spare + 1
  | .agg parts => uptoBulkAll parts + 1
  | .iface _ d => uptoBulk d + 1
  | .map entries => uptoBulkEntries entries + 1
  | .held _ => 1
def uptoBulkAll {H : Type} : List (DataW H) → Nat
  | [] => 0
  | d :: r => uptoBulk d + uptoBulkAll r
def uptoBulkEntries {H : Type} : List (Lit × DataW H) → Nat
  | [] => 0
  | x :: r => uptoBulkEntry x + uptoBulkEntries r
def uptoBulkEntry {H : Type} : Lit × DataW H → Nat
  | (.string bytes, d) => bytes.length + uptoBulk d + 1
  | (_, d) => uptoBulk d + 1
 end
def uptoSmall : (H : Type) → List (DataW H) → Bool := fun _ ds => decide (uptoBulkAll ds ≤ 1048576)
def OpenSpec.upto (s : _root_.Go.ChangeSpec) : _root_.Go.OpenSpec := { _root_.Go.OpenSpec.ofChange s with cond := some uptoSmall }

/-- 'splicelaw23.InlineGraphs', WHERE WHAT IT READS IS OF BULK AT MOST 1048576: true; the input reads as it did. -/
def inlineGraphsUptoRow : OpenClaim := { program := "ytobhjjbhlnbcpaa", sum := "8c857c5371e73722aa8facfd998f83a7e53190a39409213285733d2cf0f31db5", func := "splice/splicelaw23.InlineGraphs", spec := "inlineGraphs", unfollowed := true, recurses := true, apart := false, narrowed := true }
def InlineGraphsUptoSaid : Prop := inlineGraphsUptoRow.holds Try.pinned (OpenSpec.upto inlineGraphsSpec)

/-- 'splicelaw23.InlineRight', WHERE WHAT IT READS IS OF BULK AT MOST 1048576: true; the input reads as it did. -/
def inlineRightUptoRow : OpenClaim := { program := "ytobhjjbhlnbcpaa", sum := "8c857c5371e73722aa8facfd998f83a7e53190a39409213285733d2cf0f31db5", func := "splice/splicelaw23.InlineRight", spec := "inlineRight", unfollowed := true, recurses := true, apart := false, narrowed := true }
def InlineRightUptoSaid : Prop := inlineRightUptoRow.holds Try.pinned (OpenSpec.upto inlineRightSpec)

/-- 'splicelaw23.InlineKeeps', WHERE WHAT IT READS IS OF BULK AT MOST 1048576: true; the input reads as it did. -/
def inlineKeepsUptoRow : OpenClaim := { program := "ytobhjjbhlnbcpaa", sum := "8c857c5371e73722aa8facfd998f83a7e53190a39409213285733d2cf0f31db5", func := "splice/splicelaw23.InlineKeeps", spec := "inlineKeeps", unfollowed := true, recurses := true, apart := false, narrowed := true }
def InlineKeepsUptoSaid : Prop := inlineKeepsUptoRow.holds Try.pinned (OpenSpec.upto inlineKeepsSpec)

/-- 'splicelaw23.InlineTwice', WHERE WHAT IT READS IS OF BULK AT MOST 1048576: true; the input reads as it did. -/
def inlineTwiceUptoRow : OpenClaim := { program := "ytobhjjbhlnbcpaa", sum := "8c857c5371e73722aa8facfd998f83a7e53190a39409213285733d2cf0f31db5", func := "splice/splicelaw23.InlineTwice", spec := "inlineTwice", unfollowed := true, recurses := true, apart := false, narrowed := true }
def InlineTwiceUptoSaid : Prop := inlineTwiceUptoRow.holds Try.pinned (OpenSpec.upto inlineTwiceSpec)

/-- 'splicelaw19.LiveSets', WHERE WHAT IT READS IS OF BULK AT MOST 1048576: true; the input reads as it did. -/
def liveSetsUptoRow : OpenClaim := { program := "ytobhjjbhlnbcpaa", sum := "8c857c5371e73722aa8facfd998f83a7e53190a39409213285733d2cf0f31db5", func := "splice/splicelaw19.LiveSets", spec := "liveSets", unfollowed := true, recurses := true, apart := false, narrowed := true }
def LiveSetsUptoSaid : Prop := liveSetsUptoRow.holds Try.pinned (OpenSpec.upto liveSetsSpec)

/-- 'splicelaw19.LiveBefore', WHERE WHAT IT READS IS OF BULK AT MOST 1048576: true; the input reads as it did. -/
def liveBeforeUptoRow : OpenClaim := { program := "ytobhjjbhlnbcpaa", sum := "8c857c5371e73722aa8facfd998f83a7e53190a39409213285733d2cf0f31db5", func := "splice/splicelaw19.LiveBefore", spec := "liveBefore", unfollowed := true, recurses := true, apart := false, narrowed := true }
def LiveBeforeUptoSaid : Prop := liveBeforeUptoRow.holds Try.pinned (OpenSpec.upto liveBeforeSpec)

/-- 'splicelaw19.LiveEquations', WHERE WHAT IT READS IS OF BULK AT MOST 1048576: true; the input reads as it did. -/
def liveEquationsUptoRow : OpenClaim := { program := "ytobhjjbhlnbcpaa", sum := "8c857c5371e73722aa8facfd998f83a7e53190a39409213285733d2cf0f31db5", func := "splice/splicelaw19.LiveEquations", spec := "liveEquations", unfollowed := true, recurses := true, apart := false, narrowed := true }
def LiveEquationsUptoSaid : Prop := liveEquationsUptoRow.holds Try.pinned (OpenSpec.upto liveEquationsSpec)

/-- 'splicelaw19.LiveKeeps', WHERE WHAT IT READS IS OF BULK AT MOST 1048576: true; the input reads as it did. -/
def liveKeepsUptoRow : OpenClaim := { program := "ytobhjjbhlnbcpaa", sum := "8c857c5371e73722aa8facfd998f83a7e53190a39409213285733d2cf0f31db5", func := "splice/splicelaw19.LiveKeeps", spec := "liveKeeps", unfollowed := true, recurses := true, apart := false, narrowed := true }
def LiveKeepsUptoSaid : Prop := liveKeepsUptoRow.holds Try.pinned (OpenSpec.upto liveKeepsSpec)

end Rows
end Go.Proofs.Ytobhjjbhlnbcpaa
