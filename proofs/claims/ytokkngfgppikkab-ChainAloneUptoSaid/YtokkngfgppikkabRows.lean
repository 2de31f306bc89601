/-
  No cell of these rows narrows 'for every input' (looked for: loops, veiled, ifaces, maps, wideKeys, modest, calm, conditions, laid).
  DERIVED. THE GIVEN ROWS OF THIS SEAT. 8 by the template 'for every input the law returns true; each argument reads behind the call as it read before'; 0 by the template 'total and deterministic' (their statements: YtokkngfgppikkabTotals.lean).
  GIVEN WITH THE SEED: the statements are not yours to turn. If you find one false, say at which input.
  Laid BY PROGRAM, IN A SANDBOX (cutbox-rows.mjs): the forced cells as the released guide's own fill.sh prints them over the translation 10767ce0be5b83c1… (all of the seat's roots in one cut). By AI agents, Wed Nov 11 2026. No macro, syntax, notation, axiom, sorry.
-/
import Derived.Test.YtokkngfgppikkabChecked
import GoSem.Claim
import GoSem.ClaimJoined
import GoSem.ClaimMapViews
import Derived.JoinedTies
import Derived.KernelRfl
namespace Go.Proofs.Ytokkngfgppikkab
/- THE CELL 'sum', in the pinned program and in every row, IS THE sha256 OF THE DUMP (.gsa) THAT YtokkngfgppikkabProg.lean LOADS. Nothing in Lean hashes anything: it is a label: what it is worth is what the hold of that sum in a sandbox is worth. -/
noncomputable def Try.pinned : Pinned := { name := "ytokkngfgppikkab", sum := "10767ce0be5b83c1e62f1ad6302b5803b20d447c607de9b46062f28b9c2fce26", checked := Try.checked }
namespace Rows
def none {H : Type} : Left H := { results := [], args := [] }

/-- 'splicelaw25.ChainWhole': WHATEVER THE INPUT: true; the input reads as it did. -/
def chainWholeSpec : ChangeSpec := { name := "chainWhole", fn := fun _ => fun
  | [d1, d2] => { results := [.lit (.bool true)], args := [d1, d2] }
  | _ => none }
def chainWholeRow : OpenClaim := { program := "ytokkngfgppikkab", sum := "10767ce0be5b83c1e62f1ad6302b5803b20d447c607de9b46062f28b9c2fce26", func := "splice/splicelaw25.ChainWhole", spec := "chainWhole", unfollowed := true, recurses := true, apart := false }
def ChainWholeSaid : Prop := chainWholeRow.holds Try.pinned (OpenSpec.ofChange chainWholeSpec)

/-- ITS FALSE NEIGHBOUR: 'it returns false'. Refute it at one input. -/
def chainWholeWrong : ChangeSpec := { name := "chainWhole", fn := fun _ => fun
  | [d1, d2] => { results := [.lit (.bool false)], args := [d1, d2] }
  | _ => none }
def ChainWholeWrongFalsely : Prop := chainWholeRow.holds Try.pinned (OpenSpec.ofChange chainWholeWrong)

/-- 'splicelaw25.ChainHeavy': WHATEVER THE INPUT: true; the input reads as it did. -/
def chainHeavySpec : ChangeSpec := { name := "chainHeavy", fn := fun _ => fun
  | [d1, d2] => { results := [.lit (.bool true)], args := [d1, d2] }
  | _ => none }
def chainHeavyRow : OpenClaim := { program := "ytokkngfgppikkab", sum := "10767ce0be5b83c1e62f1ad6302b5803b20d447c607de9b46062f28b9c2fce26", func := "splice/splicelaw25.ChainHeavy", spec := "chainHeavy", unfollowed := true, recurses := true, apart := false }
def ChainHeavySaid : Prop := chainHeavyRow.holds Try.pinned (OpenSpec.ofChange chainHeavySpec)

/-- ITS FALSE NEIGHBOUR: 'it returns false'. Refute it at one input. -/
def chainHeavyWrong : ChangeSpec := { name := "chainHeavy", fn := fun _ => fun
  | [d1, d2] => { results := [.lit (.bool false)], args := [d1, d2] }
  | _ => none }
def ChainHeavyWrongFalsely : Prop := chainHeavyRow.holds Try.pinned (OpenSpec.ofChange chainHeavyWrong)

/-- 'splicelaw25.ChainUses': WHATEVER THE INPUT: true; the input reads as it did. -/
def chainUsesSpec : ChangeSpec := { name := "chainUses", fn := fun _ => fun
  | [d1, d2, d3, d4] => { results := [.lit (.bool true)], args := [d1, d2, d3, d4] }
  | _ => none }
def chainUsesRow : OpenClaim := { program := "ytokkngfgppikkab", sum := "10767ce0be5b83c1e62f1ad6302b5803b20d447c607de9b46062f28b9c2fce26", func := "splice/splicelaw25.ChainUses", spec := "chainUses", unfollowed := true, recurses := true, apart := false }
def ChainUsesSaid : Prop := chainUsesRow.holds Try.pinned (OpenSpec.ofChange chainUsesSpec)

/-- ITS FALSE NEIGHBOUR: 'it returns false'. Refute it at one input. -/
def chainUsesWrong : ChangeSpec := { name := "chainUses", fn := fun _ => fun
  | [d1, d2, d3, d4] => { results := [.lit (.bool false)], args := [d1, d2, d3, d4] }
  | _ => none }
def ChainUsesWrongFalsely : Prop := chainUsesRow.holds Try.pinned (OpenSpec.ofChange chainUsesWrong)

/-- 'splicelaw25.ChainKeeps': WHATEVER THE INPUT: true; the input reads as it did. -/
def chainKeepsSpec : ChangeSpec := { name := "chainKeeps", fn := fun _ => fun
  | [d1, d2] => { results := [.lit (.bool true)], args := [d1, d2] }
  | _ => none }
def chainKeepsRow : OpenClaim := { program := "ytokkngfgppikkab", sum := "10767ce0be5b83c1e62f1ad6302b5803b20d447c607de9b46062f28b9c2fce26", func := "splice/splicelaw25.ChainKeeps", spec := "chainKeeps", unfollowed := true, recurses := true, apart := false }
def ChainKeepsSaid : Prop := chainKeepsRow.holds Try.pinned (OpenSpec.ofChange chainKeepsSpec)

/-- ITS FALSE NEIGHBOUR: 'it returns false'. Refute it at one input. -/
def chainKeepsWrong : ChangeSpec := { name := "chainKeeps", fn := fun _ => fun
  | [d1, d2] => { results := [.lit (.bool false)], args := [d1, d2] }
  | _ => none }
def ChainKeepsWrongFalsely : Prop := chainKeepsRow.holds Try.pinned (OpenSpec.ofChange chainKeepsWrong)

/-- 'splicelaw25.ChainAlone': WHATEVER THE INPUT: true; the input reads as it did. -/
def chainAloneSpec : ChangeSpec := { name := "chainAlone", fn := fun _ => fun
  | [d1, d2] => { results := [.lit (.bool true)], args := [d1, d2] }
  | _ => none }
def chainAloneRow : OpenClaim := { program := "ytokkngfgppikkab", sum := "10767ce0be5b83c1e62f1ad6302b5803b20d447c607de9b46062f28b9c2fce26", func := "splice/splicelaw25.ChainAlone", spec := "chainAlone", unfollowed := true, recurses := true, apart := false }
def ChainAloneSaid : Prop := chainAloneRow.holds Try.pinned (OpenSpec.ofChange chainAloneSpec)

/-- ITS FALSE NEIGHBOUR: 'it returns false'. Refute it at one input. -/
def chainAloneWrong : ChangeSpec := { name := "chainAlone", fn := fun _ => fun
  | [d1, d2] => { results := [.lit (.bool false)], args := [d1, d2] }
  | _ => none }
def ChainAloneWrongFalsely : Prop := chainAloneRow.holds Try.pinned (OpenSpec.ofChange chainAloneWrong)

/-- 'splicelaw21.FoldGraphs': WHATEVER THE INPUT: true; the input reads as it did. -/
def foldGraphsSpec : ChangeSpec := { name := "foldGraphs", fn := fun _ => fun
  | [d] => { results := [.lit (.bool true)], args := [d] }
  | _ => none }
def foldGraphsRow : OpenClaim := { program := "ytokkngfgppikkab", sum := "10767ce0be5b83c1e62f1ad6302b5803b20d447c607de9b46062f28b9c2fce26", func := "splice/splicelaw21.FoldGraphs", spec := "foldGraphs", unfollowed := true, recurses := true, apart := false }
def FoldGraphsSaid : Prop := foldGraphsRow.holds Try.pinned (OpenSpec.ofChange foldGraphsSpec)

/-- ITS FALSE NEIGHBOUR: 'it returns false'. Refute it at one input. -/
def foldGraphsWrong : ChangeSpec := { name := "foldGraphs", fn := fun _ => fun
  | [d] => { results := [.lit (.bool false)], args := [d] }
  | _ => none }
def FoldGraphsWrongFalsely : Prop := foldGraphsRow.holds Try.pinned (OpenSpec.ofChange foldGraphsWrong)

/-- 'splicelaw21.FoldRight': WHATEVER THE INPUT: true; the input reads as it did. -/
def foldRightSpec : ChangeSpec := { name := "foldRight", fn := fun _ => fun
  | [d] => { results := [.lit (.bool true)], args := [d] }
  | _ => none }
def foldRightRow : OpenClaim := { program := "ytokkngfgppikkab", sum := "10767ce0be5b83c1e62f1ad6302b5803b20d447c607de9b46062f28b9c2fce26", func := "splice/splicelaw21.FoldRight", spec := "foldRight", unfollowed := true, recurses := true, apart := false }
def FoldRightSaid : Prop := foldRightRow.holds Try.pinned (OpenSpec.ofChange foldRightSpec)

/-- ITS FALSE NEIGHBOUR: 'it returns false'. Refute it at one input. -/
def foldRightWrong : ChangeSpec := { name := "foldRight", fn := fun _ => fun
  | [d] => { results := [.lit (.bool false)], args := [d] }
  | _ => none }
def FoldRightWrongFalsely : Prop := foldRightRow.holds Try.pinned (OpenSpec.ofChange foldRightWrong)

/-- 'splicelaw21.FoldKeeps': WHATEVER THE INPUT: true; the input reads as it did. -/
def foldKeepsSpec : ChangeSpec := { name := "foldKeeps", fn := fun _ => fun
  | [d] => { results := [.lit (.bool true)], args := [d] }
  | _ => none }
def foldKeepsRow : OpenClaim := { program := "ytokkngfgppikkab", sum := "10767ce0be5b83c1e62f1ad6302b5803b20d447c607de9b46062f28b9c2fce26", func := "splice/splicelaw21.FoldKeeps", spec := "foldKeeps", unfollowed := true, recurses := true, apart := false }
def FoldKeepsSaid : Prop := foldKeepsRow.holds Try.pinned (OpenSpec.ofChange foldKeepsSpec)

/-- ITS FALSE NEIGHBOUR: 'it returns false'. Refute it at one input. -/
def foldKeepsWrong : ChangeSpec := { name := "foldKeeps", fn := fun _ => fun
  | [d] => { results := [.lit (.bool false)], args := [d] }
  | _ => none }
def FoldKeepsWrongFalsely : Prop := foldKeepsRow.holds Try.pinned (OpenSpec.ofChange foldKeepsWrong)

/- THE SECOND FORM. 'bulk': how many values and letters a reading holds, each counted each time it is reached (what is shared counts as often as it is met; a slice's spare places count too). A statement '..UptoSaid' is the law's where the arguments, and the package variables that the reading takes, are together of bulk at most 1048576: NARROWER than '..Said'. Prove '..Said' where nothing that the law and all that it calls make is longer than what came in: it says more and counts as full. Else prove '..UptoSaid'. A law counts once. -/
mutual
def uptoBulk {H : Type} : DataW H → Nat
  | .lit (.string bytes) => bytes.length + 1
  | .lit _ => 1
  | .nil => 1
  | .ptr d => uptoBulk d + 1
  | .slice elems spare => uptoBulkAll elems + uptoBulkAll spare + 1
  | .agg parts => uptoBulkAll parts + 1
  | .iface _ d => uptoBulk d + 1
  | .map entries => uptoBulkEntries entries + 1
  | .held _ => 1
def uptoBulkAll {H : Type} : List (DataW H) → Nat
  | [] => 0
  | d :: r => uptoBulk d + uptoBulkAll r
def uptoBulkEntries {H : Type} : List (Lit × DataW H) → Nat
  | [] => 0
  | x :: r => uptoBulkEntry x + uptoBulkEntries r
def uptoBulkEntry {H : Type} : Lit × DataW H → Nat
  | (.string bytes, d) => bytes.length + uptoBulk d + 1
  | (_, d) => uptoBulk d + 1
 end
def uptoSmall : (H : Type) → List (DataW H) → Bool := fun _ ds => decide (uptoBulkAll ds ≤ 1048576)
def OpenSpec.upto (s : _root_.Go.ChangeSpec) : _root_.Go.OpenSpec := { _root_.Go.OpenSpec.ofChange s with cond := some uptoSmall }

/-- 'splicelaw25.ChainWhole', WHERE WHAT IT READS IS OF BULK AT MOST 1048576: true; the input reads as it did. -/
def chainWholeUptoRow : OpenClaim := { program := "ytokkngfgppikkab", sum := "10767ce0be5b83c1e62f1ad6302b5803b20d447c607de9b46062f28b9c2fce26", func := "splice/splicelaw25.ChainWhole", spec := "chainWhole", unfollowed := true, recurses := true, apart := false, narrowed := true }
def ChainWholeUptoSaid : Prop := chainWholeUptoRow.holds Try.pinned (OpenSpec.upto chainWholeSpec)

/-- 'splicelaw25.ChainHeavy', WHERE WHAT IT READS IS OF BULK AT MOST 1048576: true; the input reads as it did. -/
def chainHeavyUptoRow : OpenClaim := { program := "ytokkngfgppikkab", sum := "10767ce0be5b83c1e62f1ad6302b5803b20d447c607de9b46062f28b9c2fce26", func := "splice/splicelaw25.ChainHeavy", spec := "chainHeavy", unfollowed := true, recurses := true, apart := false, narrowed := true }
def ChainHeavyUptoSaid : Prop := chainHeavyUptoRow.holds Try.pinned (OpenSpec.upto chainHeavySpec)

/-- 'splicelaw25.ChainUses', WHERE WHAT IT READS IS OF BULK AT MOST 1048576: true; the input reads as it did. -/
def chainUsesUptoRow : OpenClaim := { program := "ytokkngfgppikkab", sum := "10767ce0be5b83c1e62f1ad6302b5803b20d447c607de9b46062f28b9c2fce26", func := "splice/splicelaw25.ChainUses", spec := "chainUses", unfollowed := true, recurses := true, apart := false, narrowed := true }
def ChainUsesUptoSaid : Prop := chainUsesUptoRow.holds Try.pinned (OpenSpec.upto chainUsesSpec)

/-- 'splicelaw25.ChainKeeps', WHERE WHAT IT READS IS OF BULK AT MOST 1048576: true; the input reads as it did. -/
def chainKeepsUptoRow : OpenClaim := { program := "ytokkngfgppikkab", sum := "10767ce0be5b83c1e62f1ad6302b5803b20d447c607de9b46062f28b9c2fce26", func := "splice/splicelaw25.ChainKeeps", spec := "chainKeeps", unfollowed := true, recurses := true, apart := false, narrowed := true }
def ChainKeepsUptoSaid : Prop := chainKeepsUptoRow.holds Try.pinned (OpenSpec.upto chainKeepsSpec)

/-- 'splicelaw25.ChainAlone', WHERE WHAT IT READS IS OF BULK AT MOST 1048576: true; the input reads as it did. -/
def chainAloneUptoRow : OpenClaim := { program := "ytokkngfgppikkab", sum := "10767ce0be5b83c1e62f1ad6302b5803b20d447c607de9b46062f28b9c2fce26", func := "splice/splicelaw25.ChainAlone", spec := "chainAlone", unfollowed := true, recurses := true, apart := false, narrowed := true }
def ChainAloneUptoSaid : Prop := chainAloneUptoRow.holds Try.pinned (OpenSpec.upto chainAloneSpec)

/-- 'splicelaw21.FoldGraphs', WHERE WHAT IT READS IS OF BULK AT MOST 1048576: true; the input reads as it did. -/
def foldGraphsUptoRow : OpenClaim := { program := "ytokkngfgppikkab", sum := "10767ce0be5b83c1e62f1ad6302b5803b20d447c607de9b46062f28b9c2fce26", func := "splice/splicelaw21.FoldGraphs", spec := "foldGraphs", unfollowed := true, recurses := true, apart := false, narrowed := true }
def FoldGraphsUptoSaid : Prop := foldGraphsUptoRow.holds Try.pinned (OpenSpec.upto foldGraphsSpec)

/-- 'splicelaw21.FoldRight', WHERE WHAT IT READS IS OF BULK AT MOST 1048576: true; the input reads as it did. -/
def foldRightUptoRow : OpenClaim := { program := "ytokkngfgppikkab", sum := "10767ce0be5b83c1e62f1ad6302b5803b20d447c607de9b46062f28b9c2fce26", func := "splice/splicelaw21.FoldRight", spec := "foldRight", unfollowed := true, recurses := true, apart := false, narrowed := true }
def FoldRightUptoSaid : Prop := foldRightUptoRow.holds Try.pinned (OpenSpec.upto foldRightSpec)

/-- 'splicelaw21.FoldKeeps', WHERE WHAT IT READS IS OF BULK AT MOST 1048576: true; the input reads as it did. -/
def foldKeepsUptoRow : OpenClaim := { program := "ytokkngfgppikkab", sum := "10767ce0be5b83c1e62f1ad6302b5803b20d447c607de9b46062f28b9c2fce26", func := "splice/splicelaw21.FoldKeeps", spec := "foldKeeps", unfollowed := true, recurses := true, apart := false, narrowed := true }
def FoldKeepsUptoSaid : Prop := foldKeepsUptoRow.holds Try.pinned (OpenSpec.upto foldKeepsSpec)

end Rows
end Go.Proofs.Ytokkngfgppikkab
