/-
  No cell of these rows narrows 'for every input' (looked for: loops, veiled, ifaces, maps, wideKeys, modest, calm, conditions, laid).
  DERIVED. THE GIVEN ROWS OF THIS SEAT. 4 by the template 'for every input the law returns true; each argument reads behind the call as it read before'; 0 by the template 'total and deterministic' (their statements: YthnkikdbllkmkaaTotals.lean).
  GIVEN WITH THE SEED: the statements are not yours to turn. If you find one false, say at which input.
  Laid BY PROGRAM, IN A SANDBOX (cutbox-rows.mjs): the forced cells as the released guide's own fill.sh prints them over the translation 4a5e94e8a1dd53b1… (all of the seat's roots in one cut). By AI agents, Wed Nov 11 2026. No macro, syntax, notation, axiom, sorry.
-/
import Derived.Test.YthnkikdbllkmkaaChecked
import GoSem.Claim
import GoSem.ClaimJoined
import GoSem.ClaimMapViews
import Derived.JoinedTies
import Derived.KernelRfl
namespace Go.Proofs.Ythnkikdbllkmkaa
/- THE CELL 'sum', in the pinned program and in every row, IS THE sha256 OF THE DUMP (.gsa) THAT YthnkikdbllkmkaaProg.lean LOADS. Nothing in Lean hashes anything: it is a label: what it is worth is what the hold of that sum in a sandbox is worth. -/
noncomputable def Try.pinned : Pinned := { name := "ythnkikdbllkmkaa", sum := "4a5e94e8a1dd53b14b4542daaca04941edef864574f3ab2ca48707951171e088", checked := Try.checked }
namespace Rows
def none {H : Type} : Left H := { results := [], args := [] }

/-- 'splicelaw25.ChainBlocks': WHATEVER THE INPUT: true; the input reads as it did. -/
def chainBlocksSpec : ChangeSpec := { name := "chainBlocks", fn := fun _ => fun
  | [d1, d2] => { results := [.lit (.bool true)], args := [d1, d2] }
  | _ => none }
def chainBlocksRow : OpenClaim := { program := "ythnkikdbllkmkaa", sum := "4a5e94e8a1dd53b14b4542daaca04941edef864574f3ab2ca48707951171e088", func := "splice/splicelaw25.ChainBlocks", spec := "chainBlocks", unfollowed := true, recurses := true, apart := false }
def ChainBlocksSaid : Prop := chainBlocksRow.holds Try.pinned (OpenSpec.ofChange chainBlocksSpec)

/-- ITS FALSE NEIGHBOUR: 'it returns false'. Refute it at one input. -/
def chainBlocksWrong : ChangeSpec := { name := "chainBlocks", fn := fun _ => fun
  | [d1, d2] => { results := [.lit (.bool false)], args := [d1, d2] }
  | _ => none }
def ChainBlocksWrongFalsely : Prop := chainBlocksRow.holds Try.pinned (OpenSpec.ofChange chainBlocksWrong)

/-- 'splicelaw25.ChainFuncs': WHATEVER THE INPUT: true; the input reads as it did. -/
def chainFuncsSpec : ChangeSpec := { name := "chainFuncs", fn := fun _ => fun
  | [d1, d2, d3, d4] => { results := [.lit (.bool true)], args := [d1, d2, d3, d4] }
  | _ => none }
def chainFuncsRow : OpenClaim := { program := "ythnkikdbllkmkaa", sum := "4a5e94e8a1dd53b14b4542daaca04941edef864574f3ab2ca48707951171e088", func := "splice/splicelaw25.ChainFuncs", spec := "chainFuncs", unfollowed := true, recurses := true, apart := false }
def ChainFuncsSaid : Prop := chainFuncsRow.holds Try.pinned (OpenSpec.ofChange chainFuncsSpec)

/-- ITS FALSE NEIGHBOUR: 'it returns false'. Refute it at one input. -/
def chainFuncsWrong : ChangeSpec := { name := "chainFuncs", fn := fun _ => fun
  | [d1, d2, d3, d4] => { results := [.lit (.bool false)], args := [d1, d2, d3, d4] }
  | _ => none }
def ChainFuncsWrongFalsely : Prop := chainFuncsRow.holds Try.pinned (OpenSpec.ofChange chainFuncsWrong)

/-- 'splicelaw25.ChainUses': WHATEVER THE INPUT: true; the input reads as it did. -/
def chainUsesSpec : ChangeSpec := { name := "chainUses", fn := fun _ => fun
  | [d1, d2, d3, d4] => { results := [.lit (.bool true)], args := [d1, d2, d3, d4] }
  | _ => none }
def chainUsesRow : OpenClaim := { program := "ythnkikdbllkmkaa", sum := "4a5e94e8a1dd53b14b4542daaca04941edef864574f3ab2ca48707951171e088", func := "splice/splicelaw25.ChainUses", spec := "chainUses", unfollowed := true, recurses := true, apart := false }
def ChainUsesSaid : Prop := chainUsesRow.holds Try.pinned (OpenSpec.ofChange chainUsesSpec)

/-- ITS FALSE NEIGHBOUR: 'it returns false'. Refute it at one input. -/
def chainUsesWrong : ChangeSpec := { name := "chainUses", fn := fun _ => fun
  | [d1, d2, d3, d4] => { results := [.lit (.bool false)], args := [d1, d2, d3, d4] }
  | _ => none }
def ChainUsesWrongFalsely : Prop := chainUsesRow.holds Try.pinned (OpenSpec.ofChange chainUsesWrong)

/-- 'splicelaw25.ChainKeeps': WHATEVER THE INPUT: true; the input reads as it did. -/
def chainKeepsSpec : ChangeSpec := { name := "chainKeeps", fn := fun _ => fun
  | [d1, d2] => { results := [.lit (.bool true)], args := [d1, d2] }
  | _ => none }
def chainKeepsRow : OpenClaim := { program := "ythnkikdbllkmkaa", sum := "4a5e94e8a1dd53b14b4542daaca04941edef864574f3ab2ca48707951171e088", func := "splice/splicelaw25.ChainKeeps", spec := "chainKeeps", unfollowed := true, recurses := true, apart := false }
def ChainKeepsSaid : Prop := chainKeepsRow.holds Try.pinned (OpenSpec.ofChange chainKeepsSpec)

/-- ITS FALSE NEIGHBOUR: 'it returns false'. Refute it at one input. -/
def chainKeepsWrong : ChangeSpec := { name := "chainKeeps", fn := fun _ => fun
  | [d1, d2] => { results := [.lit (.bool false)], args := [d1, d2] }
  | _ => none }
def ChainKeepsWrongFalsely : Prop := chainKeepsRow.holds Try.pinned (OpenSpec.ofChange chainKeepsWrong)

/- THE SECOND FORM. 'bulk': how many values and letters a reading holds, each counted each time it is reached (what is shared counts as often as it is met; a slice's spare places count too). A statement '..UptoSaid' is the law's where the arguments, and the package variables that the reading takes, are together of bulk at most 1048576: NARROWER than '..Said'. Prove '..Said' where nothing that the law and all that it calls make is longer than what came in: it says more and counts as full. Else prove '..UptoSaid'. A law counts once. -/
mutual
def uptoBulk {H : Type} : DataW H → Nat
  | .lit (.string bytes) => bytes.length + 1
  | .lit _ => 1
  | .nil => 1
  | .ptr d => uptoBulk d + 1
  | .slice elems spare => uptoBulkAll elems + uptoBulkAll spare + 1
  | .agg parts => uptoBulkAll parts + 1
  | .iface _ d => uptoBulk d + 1
  | .map entries => uptoBulkEntries entries + 1
  | .held _ => 1
def uptoBulkAll {H : Type} : List (DataW H) → Nat
  | [] => 0
  | d :: r => uptoBulk d + uptoBulkAll r
def uptoBulkEntries {H : Type} : List (Lit × DataW H) → Nat
  | [] => 0
  | x :: r => uptoBulkEntry x + uptoBulkEntries r
def uptoBulkEntry {H : Type} : Lit × DataW H → Nat
  | (.string bytes, d) => bytes.length + uptoBulk d + 1
  | (_, d) => uptoBulk d + 1
 end
def uptoSmall : (H : Type) → List (DataW H) → Bool := fun _ ds => decide (uptoBulkAll ds ≤ 1048576)
def OpenSpec.upto (s : _root_.Go.ChangeSpec) : _root_.Go.OpenSpec := { _root_.Go.OpenSpec.ofChange s with cond := some uptoSmall }

/-- 'splicelaw25.ChainBlocks', WHERE WHAT IT READS IS OF BULK AT MOST 1048576: true; the input reads as it did. -/
def chainBlocksUptoRow : OpenClaim := { program := "ythnkikdbllkmkaa", sum := "4a5e94e8a1dd53b14b4542daaca04941edef864574f3ab2ca48707951171e088", func := "splice/splicelaw25.ChainBlocks", spec := "chainBlocks", unfollowed := true, recurses := true, apart := false, narrowed := true }
def ChainBlocksUptoSaid : Prop := chainBlocksUptoRow.holds Try.pinned (OpenSpec.upto chainBlocksSpec)

/-- 'splicelaw25.ChainFuncs', WHERE WHAT IT READS IS OF BULK AT MOST 1048576: true; the input reads as it did. -/
def chainFuncsUptoRow : OpenClaim := { program := "ythnkikdbllkmkaa", sum := "4a5e94e8a1dd53b14b4542daaca04941edef864574f3ab2ca48707951171e088", func := "splice/splicelaw25.ChainFuncs", spec := "chainFuncs", unfollowed := true, recurses := true, apart := false, narrowed := true }
def ChainFuncsUptoSaid : Prop := chainFuncsUptoRow.holds Try.pinned (OpenSpec.upto chainFuncsSpec)

/-- 'splicelaw25.ChainUses', WHERE WHAT IT READS IS OF BULK AT MOST 1048576: true; the input reads as it did. -/
def chainUsesUptoRow : OpenClaim := { program := "ythnkikdbllkmkaa", sum := "4a5e94e8a1dd53b14b4542daaca04941edef864574f3ab2ca48707951171e088", func := "splice/splicelaw25.ChainUses", spec := "chainUses", unfollowed := true, recurses := true, apart := false, narrowed := true }
def ChainUsesUptoSaid : Prop := chainUsesUptoRow.holds Try.pinned (OpenSpec.upto chainUsesSpec)

/-- 'splicelaw25.ChainKeeps', WHERE WHAT IT READS IS OF BULK AT MOST 1048576: true; the input reads as it did. -/
def chainKeepsUptoRow : OpenClaim := { program := "ythnkikdbllkmkaa", sum := "4a5e94e8a1dd53b14b4542daaca04941edef864574f3ab2ca48707951171e088", func := "splice/splicelaw25.ChainKeeps", spec := "chainKeeps", unfollowed := true, recurses := true, apart := false, narrowed := true }
def ChainKeepsUptoSaid : Prop := chainKeepsUptoRow.holds Try.pinned (OpenSpec.upto chainKeepsSpec)

end Rows
end Go.Proofs.Ythnkikdbllkmkaa
