/-
  No cell of these rows narrows 'for every input' (looked for: loops, veiled, ifaces, maps, wideKeys, modest, calm, conditions, laid).
  DERIVED. THE GIVEN ROWS OF THIS SEAT. 12 by the template 'for every input the law returns true; each argument reads behind the call as it read before'; 0 by the template 'total and deterministic' (their statements: YtokkngfgppikkaaTotals.lean).
  GIVEN WITH THE SEED: the statements are not yours to turn. If you find one false, say at which input.
  Laid BY PROGRAM, IN A SANDBOX (cutbox-rows.mjs): the forced cells as the released guide's own fill.sh prints them over the translation 24494aed136338c5… (all of the seat's roots in one cut). By AI agents, Wed Nov 11 2026. No macro, syntax, notation, axiom, sorry.
-/
import Derived.Test.YtokkngfgppikkaaChecked
import GoSem.Claim
import GoSem.ClaimJoined
import GoSem.ClaimMapViews
import Derived.JoinedTies
import Derived.KernelRfl
namespace Go.Proofs.Ytokkngfgppikkaa
/- THE CELL 'sum', in the pinned program and in every row, IS THE sha256 OF THE DUMP (.gsa) THAT YtokkngfgppikkaaProg.lean LOADS. Nothing in Lean hashes anything: it is a label: what it is worth is what the hold of that sum in a sandbox is worth. -/
noncomputable def Try.pinned : Pinned := { name := "ytokkngfgppikkaa", sum := "24494aed136338c503e3aa90b0c04a0b5e55155ea1526137c6cc7b343e8beac1", checked := Try.checked }
namespace Rows
def none {H : Type} : Left H := { results := [], args := [] }

/-- 'splicelaw20.ValueJoins': WHATEVER THE INPUT: true; the input reads as it did. -/
def valueJoinsSpec : ChangeSpec := { name := "valueJoins", fn := fun _ => fun
  | [d1, d2, d3] => { results := [.lit (.bool true)], args := [d1, d2, d3] }
  | _ => none }
def valueJoinsRow : OpenClaim := { program := "ytokkngfgppikkaa", sum := "24494aed136338c503e3aa90b0c04a0b5e55155ea1526137c6cc7b343e8beac1", func := "splice/splicelaw20.ValueJoins", spec := "valueJoins", unfollowed := true, recurses := true, apart := false }
def ValueJoinsSaid : Prop := valueJoinsRow.holds Try.pinned (OpenSpec.ofChange valueJoinsSpec)

/-- ITS FALSE NEIGHBOUR: 'it returns false'. Refute it at one input. -/
def valueJoinsWrong : ChangeSpec := { name := "valueJoins", fn := fun _ => fun
  | [d1, d2, d3] => { results := [.lit (.bool false)], args := [d1, d2, d3] }
  | _ => none }
def ValueJoinsWrongFalsely : Prop := valueJoinsRow.holds Try.pinned (OpenSpec.ofChange valueJoinsWrong)

/-- 'splicelaw20.ValueBehind': WHATEVER THE INPUT: true; the input reads as it did. -/
def valueBehindSpec : ChangeSpec := { name := "valueBehind", fn := fun _ => fun
  | [d1, d2, d3, d4] => { results := [.lit (.bool true)], args := [d1, d2, d3, d4] }
  | _ => none }
def valueBehindRow : OpenClaim := { program := "ytokkngfgppikkaa", sum := "24494aed136338c503e3aa90b0c04a0b5e55155ea1526137c6cc7b343e8beac1", func := "splice/splicelaw20.ValueBehind", spec := "valueBehind", unfollowed := true, recurses := true, apart := false }
def ValueBehindSaid : Prop := valueBehindRow.holds Try.pinned (OpenSpec.ofChange valueBehindSpec)

/-- ITS FALSE NEIGHBOUR: 'it returns false'. Refute it at one input. -/
def valueBehindWrong : ChangeSpec := { name := "valueBehind", fn := fun _ => fun
  | [d1, d2, d3, d4] => { results := [.lit (.bool false)], args := [d1, d2, d3, d4] }
  | _ => none }
def ValueBehindWrongFalsely : Prop := valueBehindRow.holds Try.pinned (OpenSpec.ofChange valueBehindWrong)

/-- 'splicelaw20.ValueAt': WHATEVER THE INPUT: true; the input reads as it did. -/
def valueAtSpec : ChangeSpec := { name := "valueAt", fn := fun _ => fun
  | [d] => { results := [.lit (.bool true)], args := [d] }
  | _ => none }
def valueAtRow : OpenClaim := { program := "ytokkngfgppikkaa", sum := "24494aed136338c503e3aa90b0c04a0b5e55155ea1526137c6cc7b343e8beac1", func := "splice/splicelaw20.ValueAt", spec := "valueAt", unfollowed := true, recurses := true, apart := false }
def ValueAtSaid : Prop := valueAtRow.holds Try.pinned (OpenSpec.ofChange valueAtSpec)

/-- ITS FALSE NEIGHBOUR: 'it returns false'. Refute it at one input. -/
def valueAtWrong : ChangeSpec := { name := "valueAt", fn := fun _ => fun
  | [d] => { results := [.lit (.bool false)], args := [d] }
  | _ => none }
def ValueAtWrongFalsely : Prop := valueAtRow.holds Try.pinned (OpenSpec.ofChange valueAtWrong)

/-- 'splicelaw20.ValueKeeps': WHATEVER THE INPUT: true; the input reads as it did. -/
def valueKeepsSpec : ChangeSpec := { name := "valueKeeps", fn := fun _ => fun
  | [d] => { results := [.lit (.bool true)], args := [d] }
  | _ => none }
def valueKeepsRow : OpenClaim := { program := "ytokkngfgppikkaa", sum := "24494aed136338c503e3aa90b0c04a0b5e55155ea1526137c6cc7b343e8beac1", func := "splice/splicelaw20.ValueKeeps", spec := "valueKeeps", unfollowed := true, recurses := true, apart := false }
def ValueKeepsSaid : Prop := valueKeepsRow.holds Try.pinned (OpenSpec.ofChange valueKeepsSpec)

/-- ITS FALSE NEIGHBOUR: 'it returns false'. Refute it at one input. -/
def valueKeepsWrong : ChangeSpec := { name := "valueKeeps", fn := fun _ => fun
  | [d] => { results := [.lit (.bool false)], args := [d] }
  | _ => none }
def ValueKeepsWrongFalsely : Prop := valueKeepsRow.holds Try.pinned (OpenSpec.ofChange valueKeepsWrong)

/-- 'splicelaw20.ValueTaken': WHATEVER THE INPUT: true; the input reads as it did. -/
def valueTakenSpec : ChangeSpec := { name := "valueTaken", fn := fun _ => fun
  | [d1, d2, d3, d4] => { results := [.lit (.bool true)], args := [d1, d2, d3, d4] }
  | _ => none }
def valueTakenRow : OpenClaim := { program := "ytokkngfgppikkaa", sum := "24494aed136338c503e3aa90b0c04a0b5e55155ea1526137c6cc7b343e8beac1", func := "splice/splicelaw20.ValueTaken", spec := "valueTaken", unfollowed := true, recurses := true, apart := false }
def ValueTakenSaid : Prop := valueTakenRow.holds Try.pinned (OpenSpec.ofChange valueTakenSpec)

/-- ITS FALSE NEIGHBOUR: 'it returns false'. Refute it at one input. -/
def valueTakenWrong : ChangeSpec := { name := "valueTaken", fn := fun _ => fun
  | [d1, d2, d3, d4] => { results := [.lit (.bool false)], args := [d1, d2, d3, d4] }
  | _ => none }
def ValueTakenWrongFalsely : Prop := valueTakenRow.holds Try.pinned (OpenSpec.ofChange valueTakenWrong)

/-- 'splicelaw22.DeadGraphs': WHATEVER THE INPUT: true; the input reads as it did. -/
def deadGraphsSpec : ChangeSpec := { name := "deadGraphs", fn := fun _ => fun
  | [d] => { results := [.lit (.bool true)], args := [d] }
  | _ => none }
def deadGraphsRow : OpenClaim := { program := "ytokkngfgppikkaa", sum := "24494aed136338c503e3aa90b0c04a0b5e55155ea1526137c6cc7b343e8beac1", func := "splice/splicelaw22.DeadGraphs", spec := "deadGraphs", unfollowed := true, recurses := true, apart := false }
def DeadGraphsSaid : Prop := deadGraphsRow.holds Try.pinned (OpenSpec.ofChange deadGraphsSpec)

/-- ITS FALSE NEIGHBOUR: 'it returns false'. Refute it at one input. -/
def deadGraphsWrong : ChangeSpec := { name := "deadGraphs", fn := fun _ => fun
  | [d] => { results := [.lit (.bool false)], args := [d] }
  | _ => none }
def DeadGraphsWrongFalsely : Prop := deadGraphsRow.holds Try.pinned (OpenSpec.ofChange deadGraphsWrong)

/-- 'splicelaw22.DeadLess': WHATEVER THE INPUT: true; the input reads as it did. -/
def deadLessSpec : ChangeSpec := { name := "deadLess", fn := fun _ => fun
  | [d] => { results := [.lit (.bool true)], args := [d] }
  | _ => none }
def deadLessRow : OpenClaim := { program := "ytokkngfgppikkaa", sum := "24494aed136338c503e3aa90b0c04a0b5e55155ea1526137c6cc7b343e8beac1", func := "splice/splicelaw22.DeadLess", spec := "deadLess", unfollowed := true, recurses := true, apart := false }
def DeadLessSaid : Prop := deadLessRow.holds Try.pinned (OpenSpec.ofChange deadLessSpec)

/-- ITS FALSE NEIGHBOUR: 'it returns false'. Refute it at one input. -/
def deadLessWrong : ChangeSpec := { name := "deadLess", fn := fun _ => fun
  | [d] => { results := [.lit (.bool false)], args := [d] }
  | _ => none }
def DeadLessWrongFalsely : Prop := deadLessRow.holds Try.pinned (OpenSpec.ofChange deadLessWrong)

/-- 'splicelaw22.DeadSteps': WHATEVER THE INPUT: true; the input reads as it did. -/
def deadStepsSpec : ChangeSpec := { name := "deadSteps", fn := fun _ => fun
  | [d1, d2, d3] => { results := [.lit (.bool true)], args := [d1, d2, d3] }
  | _ => none }
def deadStepsRow : OpenClaim := { program := "ytokkngfgppikkaa", sum := "24494aed136338c503e3aa90b0c04a0b5e55155ea1526137c6cc7b343e8beac1", func := "splice/splicelaw22.DeadSteps", spec := "deadSteps", unfollowed := true, recurses := true, apart := false }
def DeadStepsSaid : Prop := deadStepsRow.holds Try.pinned (OpenSpec.ofChange deadStepsSpec)

/-- ITS FALSE NEIGHBOUR: 'it returns false'. Refute it at one input. -/
def deadStepsWrong : ChangeSpec := { name := "deadSteps", fn := fun _ => fun
  | [d1, d2, d3] => { results := [.lit (.bool false)], args := [d1, d2, d3] }
  | _ => none }
def DeadStepsWrongFalsely : Prop := deadStepsRow.holds Try.pinned (OpenSpec.ofChange deadStepsWrong)

/-- 'splicelaw22.DeadKeeps': WHATEVER THE INPUT: true; the input reads as it did. -/
def deadKeepsSpec : ChangeSpec := { name := "deadKeeps", fn := fun _ => fun
  | [d] => { results := [.lit (.bool true)], args := [d] }
  | _ => none }
def deadKeepsRow : OpenClaim := { program := "ytokkngfgppikkaa", sum := "24494aed136338c503e3aa90b0c04a0b5e55155ea1526137c6cc7b343e8beac1", func := "splice/splicelaw22.DeadKeeps", spec := "deadKeeps", unfollowed := true, recurses := true, apart := false }
def DeadKeepsSaid : Prop := deadKeepsRow.holds Try.pinned (OpenSpec.ofChange deadKeepsSpec)

/-- ITS FALSE NEIGHBOUR: 'it returns false'. Refute it at one input. -/
def deadKeepsWrong : ChangeSpec := { name := "deadKeeps", fn := fun _ => fun
  | [d] => { results := [.lit (.bool false)], args := [d] }
  | _ => none }
def DeadKeepsWrongFalsely : Prop := deadKeepsRow.holds Try.pinned (OpenSpec.ofChange deadKeepsWrong)

/-- 'splicelaw22.DeadThreads': WHATEVER THE INPUT: true; the input reads as it did. -/
def deadThreadsSpec : ChangeSpec := { name := "deadThreads", fn := fun _ => fun
  | [d] => { results := [.lit (.bool true)], args := [d] }
  | _ => none }
def deadThreadsRow : OpenClaim := { program := "ytokkngfgppikkaa", sum := "24494aed136338c503e3aa90b0c04a0b5e55155ea1526137c6cc7b343e8beac1", func := "splice/splicelaw22.DeadThreads", spec := "deadThreads", unfollowed := true, recurses := true, apart := false }
def DeadThreadsSaid : Prop := deadThreadsRow.holds Try.pinned (OpenSpec.ofChange deadThreadsSpec)

/-- ITS FALSE NEIGHBOUR: 'it returns false'. Refute it at one input. -/
def deadThreadsWrong : ChangeSpec := { name := "deadThreads", fn := fun _ => fun
  | [d] => { results := [.lit (.bool false)], args := [d] }
  | _ => none }
def DeadThreadsWrongFalsely : Prop := deadThreadsRow.holds Try.pinned (OpenSpec.ofChange deadThreadsWrong)

/-- 'splicelaw25.ChainBlocks': WHATEVER THE INPUT: true; the input reads as it did. -/
def chainBlocksSpec : ChangeSpec := { name := "chainBlocks", fn := fun _ => fun
  | [d1, d2] => { results := [.lit (.bool true)], args := [d1, d2] }
  | _ => none }
def chainBlocksRow : OpenClaim := { program := "ytokkngfgppikkaa", sum := "24494aed136338c503e3aa90b0c04a0b5e55155ea1526137c6cc7b343e8beac1", func := "splice/splicelaw25.ChainBlocks", spec := "chainBlocks", unfollowed := true, recurses := true, apart := false }
def ChainBlocksSaid : Prop := chainBlocksRow.holds Try.pinned (OpenSpec.ofChange chainBlocksSpec)

/-- ITS FALSE NEIGHBOUR: 'it returns false'. Refute it at one input. -/
def chainBlocksWrong : ChangeSpec := { name := "chainBlocks", fn := fun _ => fun
  | [d1, d2] => { results := [.lit (.bool false)], args := [d1, d2] }
  | _ => none }
def ChainBlocksWrongFalsely : Prop := chainBlocksRow.holds Try.pinned (OpenSpec.ofChange chainBlocksWrong)

/-- 'splicelaw25.ChainFuncs': WHATEVER THE INPUT: true; the input reads as it did. -/
def chainFuncsSpec : ChangeSpec := { name := "chainFuncs", fn := fun _ => fun
  | [d1, d2, d3, d4] => { results := [.lit (.bool true)], args := [d1, d2, d3, d4] }
  | _ => none }
def chainFuncsRow : OpenClaim := { program := "ytokkngfgppikkaa", sum := "24494aed136338c503e3aa90b0c04a0b5e55155ea1526137c6cc7b343e8beac1", func := "splice/splicelaw25.ChainFuncs", spec := "chainFuncs", unfollowed := true, recurses := true, apart := false }
def ChainFuncsSaid : Prop := chainFuncsRow.holds Try.pinned (OpenSpec.ofChange chainFuncsSpec)

/-- ITS FALSE NEIGHBOUR: 'it returns false'. Refute it at one input. -/
def chainFuncsWrong : ChangeSpec := { name := "chainFuncs", fn := fun _ => fun
  | [d1, d2, d3, d4] => { results := [.lit (.bool false)], args := [d1, d2, d3, d4] }
  | _ => none }
def ChainFuncsWrongFalsely : Prop := chainFuncsRow.holds Try.pinned (OpenSpec.ofChange chainFuncsWrong)

/- THE SECOND FORM. 'bulk': how many values and letters a reading holds, each counted each time it is reached (what is shared counts as often as it is met; a slice's spare places count too). A statement '..UptoSaid' is the law's where the arguments, and the package variables that the reading takes, are together of bulk at most 1048576: NARROWER than '..Said'. Prove '..Said' where nothing that the law and all that it calls make is longer than what came in: it says more and counts as full. Else prove '..UptoSaid'. A law counts once. -/
mutual
def uptoBulk {H : Type} : DataW H → Nat
  | .lit (.string bytes) => bytes.length + 1
  | .lit _ => 1
  | .nil => 1
  | .ptr d => uptoBulk d + 1
  | .slice elems spare => uptoBulkAll elems + uptoBulkAll spare + 1
  | .agg parts => uptoBulkAll parts + 1
  | .iface _ d => uptoBulk d + 1
  | .map entries => uptoBulkEntries entries + 1
  | .held _ => 1
def uptoBulkAll {H : Type} : List (DataW H) → Nat
  | [] => 0
  | d :: r => uptoBulk d + uptoBulkAll r
def uptoBulkEntries {H : Type} : List (Lit × DataW H) → Nat
  | [] => 0
  | x :: r => uptoBulkEntry x + uptoBulkEntries r
def uptoBulkEntry {H : Type} : Lit × DataW H → Nat
  | (.string bytes, d) => bytes.length + uptoBulk d + 1
  | (_, d) => uptoBulk d + 1
 end
def uptoSmall : (H : Type) → List (DataW H) → Bool := fun _ ds => decide (uptoBulkAll ds ≤ 1048576)
def OpenSpec.upto (s : _root_.Go.ChangeSpec) : _root_.Go.OpenSpec := { _root_.Go.OpenSpec.ofChange s with cond := some uptoSmall }

/-- 'splicelaw20.ValueJoins', WHERE WHAT IT READS IS OF BULK AT MOST 1048576: true; the input reads as it did. -/
def valueJoinsUptoRow : OpenClaim := { program := "ytokkngfgppikkaa", sum := "24494aed136338c503e3aa90b0c04a0b5e55155ea1526137c6cc7b343e8beac1", func := "splice/splicelaw20.ValueJoins", spec := "valueJoins", unfollowed := true, recurses := true, apart := false, narrowed := true }
def ValueJoinsUptoSaid : Prop := valueJoinsUptoRow.holds Try.pinned (OpenSpec.upto valueJoinsSpec)

/-- 'splicelaw20.ValueBehind', WHERE WHAT IT READS IS OF BULK AT MOST 1048576: true; the input reads as it did. -/
def valueBehindUptoRow : OpenClaim := { program := "ytokkngfgppikkaa", sum := "24494aed136338c503e3aa90b0c04a0b5e55155ea1526137c6cc7b343e8beac1", func := "splice/splicelaw20.ValueBehind", spec := "valueBehind", unfollowed := true, recurses := true, apart := false, narrowed := true }
def ValueBehindUptoSaid : Prop := valueBehindUptoRow.holds Try.pinned (OpenSpec.upto valueBehindSpec)

/-- 'splicelaw20.ValueAt', WHERE WHAT IT READS IS OF BULK AT MOST 1048576: true; the input reads as it did. -/
def valueAtUptoRow : OpenClaim := { program := "ytokkngfgppikkaa", sum := "24494aed136338c503e3aa90b0c04a0b5e55155ea1526137c6cc7b343e8beac1", func := "splice/splicelaw20.ValueAt", spec := "valueAt", unfollowed := true, recurses := true, apart := false, narrowed := true }
def ValueAtUptoSaid : Prop := valueAtUptoRow.holds Try.pinned (OpenSpec.upto valueAtSpec)

/-- 'splicelaw20.ValueKeeps', WHERE WHAT IT READS IS OF BULK AT MOST 1048576: true; the input reads as it did. -/
def valueKeepsUptoRow : OpenClaim := { program := "ytokkngfgppikkaa", sum := "24494aed136338c503e3aa90b0c04a0b5e55155ea1526137c6cc7b343e8beac1", func := "splice/splicelaw20.ValueKeeps", spec := "valueKeeps", unfollowed := true, recurses := true, apart := false, narrowed := true }
def ValueKeepsUptoSaid : Prop := valueKeepsUptoRow.holds Try.pinned (OpenSpec.upto valueKeepsSpec)

/-- 'splicelaw20.ValueTaken', WHERE WHAT IT READS IS OF BULK AT MOST 1048576: true; the input reads as it did. -/
def valueTakenUptoRow : OpenClaim := { program := "ytokkngfgppikkaa", sum := "24494aed136338c503e3aa90b0c04a0b5e55155ea1526137c6cc7b343e8beac1", func := "splice/splicelaw20.ValueTaken", spec := "valueTaken", unfollowed := true, recurses := true, apart := false, narrowed := true }
def ValueTakenUptoSaid : Prop := valueTakenUptoRow.holds Try.pinned (OpenSpec.upto valueTakenSpec)

/-- 'splicelaw22.DeadGraphs', WHERE WHAT IT READS IS OF BULK AT MOST 1048576: true; the input reads as it did. -/
def deadGraphsUptoRow : OpenClaim := { program := "ytokkngfgppikkaa", sum := "24494aed136338c503e3aa90b0c04a0b5e55155ea1526137c6cc7b343e8beac1", func := "splice/splicelaw22.DeadGraphs", spec := "deadGraphs", unfollowed := true, recurses := true, apart := false, narrowed := true }
def DeadGraphsUptoSaid : Prop := deadGraphsUptoRow.holds Try.pinned (OpenSpec.upto deadGraphsSpec)

/-- 'splicelaw22.DeadLess', WHERE WHAT IT READS IS OF BULK AT MOST 1048576: true; the input reads as it did. -/
def deadLessUptoRow : OpenClaim := { program := "ytokkngfgppikkaa", sum := "24494aed136338c503e3aa90b0c04a0b5e55155ea1526137c6cc7b343e8beac1", func := "splice/splicelaw22.DeadLess", spec := "deadLess", unfollowed := true, recurses := true, apart := false, narrowed := true }
def DeadLessUptoSaid : Prop := deadLessUptoRow.holds Try.pinned (OpenSpec.upto deadLessSpec)

/-- 'splicelaw22.DeadSteps', WHERE WHAT IT READS IS OF BULK AT MOST 1048576: true; the input reads as it did. -/
def deadStepsUptoRow : OpenClaim := { program := "ytokkngfgppikkaa", sum := "24494aed136338c503e3aa90b0c04a0b5e55155ea1526137c6cc7b343e8beac1", func := "splice/splicelaw22.DeadSteps", spec := "deadSteps", unfollowed := true, recurses := true, apart := false, narrowed := true }
def DeadStepsUptoSaid : Prop := deadStepsUptoRow.holds Try.pinned (OpenSpec.upto deadStepsSpec)

/-- 'splicelaw22.DeadKeeps', WHERE WHAT IT READS IS OF BULK AT MOST 1048576: true; the input reads as it did. -/
def deadKeepsUptoRow : OpenClaim := { program := "ytokkngfgppikkaa", sum := "24494aed136338c503e3aa90b0c04a0b5e55155ea1526137c6cc7b343e8beac1", func := "splice/splicelaw22.DeadKeeps", spec := "deadKeeps", unfollowed := true, recurses := true, apart := false, narrowed := true }
def DeadKeepsUptoSaid : Prop := deadKeepsUptoRow.holds Try.pinned (OpenSpec.upto deadKeepsSpec)

/-- 'splicelaw22.DeadThreads', WHERE WHAT IT READS IS OF BULK AT MOST 1048576: true; the input reads as it did. -/
def deadThreadsUptoRow : OpenClaim := { program := "ytokkngfgppikkaa", sum := "24494aed136338c503e3aa90b0c04a0b5e55155ea1526137c6cc7b343e8beac1", func := "splice/splicelaw22.DeadThreads", spec := "deadThreads", unfollowed := true, recurses := true, apart := false, narrowed := true }
def DeadThreadsUptoSaid : Prop := deadThreadsUptoRow.holds Try.pinned (OpenSpec.upto deadThreadsSpec)

/-- 'splicelaw25.ChainBlocks', WHERE WHAT IT READS IS OF BULK AT MOST 1048576: true; the input reads as it did. -/
def chainBlocksUptoRow : OpenClaim := { program := "ytokkngfgppikkaa", sum := "24494aed136338c503e3aa90b0c04a0b5e55155ea1526137c6cc7b343e8beac1", func := "splice/splicelaw25.ChainBlocks", spec := "chainBlocks", unfollowed := true, recurses := true, apart := false, narrowed := true }
def ChainBlocksUptoSaid : Prop := chainBlocksUptoRow.holds Try.pinned (OpenSpec.upto chainBlocksSpec)

/-- 'splicelaw25.ChainFuncs', WHERE WHAT IT READS IS OF BULK AT MOST 1048576: true; the input reads as it did. -/
def chainFuncsUptoRow : OpenClaim := { program := "ytokkngfgppikkaa", sum := "24494aed136338c503e3aa90b0c04a0b5e55155ea1526137c6cc7b343e8beac1", func := "splice/splicelaw25.ChainFuncs", spec := "chainFuncs", unfollowed := true, recurses := true, apart := false, narrowed := true }
def ChainFuncsUptoSaid : Prop := chainFuncsUptoRow.holds Try.pinned (OpenSpec.upto chainFuncsSpec)

end Rows
end Go.Proofs.Ytokkngfgppikkaa
