/-
  No cell of these rows narrows 'for every input' (looked for: loops, veiled, ifaces, maps, wideKeys, modest, calm, conditions, laid).
  DERIVED. THE GIVEN ROWS OF THIS SEAT. 10 by the template 'for every input the law returns true; each argument reads behind the call as it read before'; 0 by the template 'total and deterministic' (their statements: YtklhhdhokobbmaaTotals.lean).
  GIVEN WITH THE SEED: the statements are not yours to turn. If you find one false, say at which input.
  Laid BY PROGRAM, IN A SANDBOX (cutbox-rows.mjs): the forced cells as the released guide's own fill.sh prints them over the translation 0b4f233fe3c7a28d… (all of the seat's roots in one cut). By AI agents, Wed Nov 11 2026. No macro, syntax, notation, axiom, sorry.
-/
import Derived.Test.YtklhhdhokobbmaaChecked
import GoSem.Claim
import GoSem.ClaimJoined
import GoSem.ClaimMapViews
import Derived.JoinedTies
import Derived.KernelRfl
namespace Go.Proofs.Ytklhhdhokobbmaa
/- THE CELL 'sum', in the pinned program and in every row, IS THE sha256 OF THE DUMP (.gsa) THAT YtklhhdhokobbmaaProg.lean LOADS. Nothing in Lean hashes anything: it is a label: what it is worth is what the hold of that sum in a sandbox is worth. -/
noncomputable def Try.pinned : Pinned := { name := "ytklhhdhokobbmaa", sum := "0b4f233fe3c7a28daed8b7818393dd90436cdba3d8a5c4e1901f0edcbf37d673", checked := Try.checked }
namespace Rows
def none {H : Type} : Left H := { results := [], args := [] }

/-- 'splicelaw18.CallsOf': WHATEVER THE INPUT: true; the input reads as it did. -/
def callsOfSpec : ChangeSpec := { name := "callsOf", fn := fun _ => fun
  | [d] => { results := [.lit (.bool true)], args := [d] }
  | _ => none }
def callsOfRow : OpenClaim := { program := "ytklhhdhokobbmaa", sum := "0b4f233fe3c7a28daed8b7818393dd90436cdba3d8a5c4e1901f0edcbf37d673", func := "splice/splicelaw18.CallsOf", spec := "callsOf", unfollowed := true, recurses := true, apart := false }
def CallsOfSaid : Prop := callsOfRow.holds Try.pinned (OpenSpec.ofChange callsOfSpec)

/-- ITS FALSE NEIGHBOUR: 'it returns false'. Refute it at one input. -/
def callsOfWrong : ChangeSpec := { name := "callsOf", fn := fun _ => fun
  | [d] => { results := [.lit (.bool false)], args := [d] }
  | _ => none }
def CallsOfWrongFalsely : Prop := callsOfRow.holds Try.pinned (OpenSpec.ofChange callsOfWrong)

/-- 'splicelaw18.CallsReach': WHATEVER THE INPUT: true; the input reads as it did. -/
def callsReachSpec : ChangeSpec := { name := "callsReach", fn := fun _ => fun
  | [d1, d2] => { results := [.lit (.bool true)], args := [d1, d2] }
  | _ => none }
def callsReachRow : OpenClaim := { program := "ytklhhdhokobbmaa", sum := "0b4f233fe3c7a28daed8b7818393dd90436cdba3d8a5c4e1901f0edcbf37d673", func := "splice/splicelaw18.CallsReach", spec := "callsReach", unfollowed := true, recurses := true, apart := false }
def CallsReachSaid : Prop := callsReachRow.holds Try.pinned (OpenSpec.ofChange callsReachSpec)

/-- ITS FALSE NEIGHBOUR: 'it returns false'. Refute it at one input. -/
def callsReachWrong : ChangeSpec := { name := "callsReach", fn := fun _ => fun
  | [d1, d2] => { results := [.lit (.bool false)], args := [d1, d2] }
  | _ => none }
def CallsReachWrongFalsely : Prop := callsReachRow.holds Try.pinned (OpenSpec.ofChange callsReachWrong)

/-- 'splicelaw18.CallsClosed': WHATEVER THE INPUT: true; the input reads as it did. -/
def callsClosedSpec : ChangeSpec := { name := "callsClosed", fn := fun _ => fun
  | [d1, d2] => { results := [.lit (.bool true)], args := [d1, d2] }
  | _ => none }
def callsClosedRow : OpenClaim := { program := "ytklhhdhokobbmaa", sum := "0b4f233fe3c7a28daed8b7818393dd90436cdba3d8a5c4e1901f0edcbf37d673", func := "splice/splicelaw18.CallsClosed", spec := "callsClosed", unfollowed := true, recurses := true, apart := false }
def CallsClosedSaid : Prop := callsClosedRow.holds Try.pinned (OpenSpec.ofChange callsClosedSpec)

/-- ITS FALSE NEIGHBOUR: 'it returns false'. Refute it at one input. -/
def callsClosedWrong : ChangeSpec := { name := "callsClosed", fn := fun _ => fun
  | [d1, d2] => { results := [.lit (.bool false)], args := [d1, d2] }
  | _ => none }
def CallsClosedWrongFalsely : Prop := callsClosedRow.holds Try.pinned (OpenSpec.ofChange callsClosedWrong)

/-- 'splicelaw18.CallsKeeps': WHATEVER THE INPUT: true; the input reads as it did. -/
def callsKeepsSpec : ChangeSpec := { name := "callsKeeps", fn := fun _ => fun
  | [d] => { results := [.lit (.bool true)], args := [d] }
  | _ => none }
def callsKeepsRow : OpenClaim := { program := "ytklhhdhokobbmaa", sum := "0b4f233fe3c7a28daed8b7818393dd90436cdba3d8a5c4e1901f0edcbf37d673", func := "splice/splicelaw18.CallsKeeps", spec := "callsKeeps", unfollowed := true, recurses := true, apart := false }
def CallsKeepsSaid : Prop := callsKeepsRow.holds Try.pinned (OpenSpec.ofChange callsKeepsSpec)

/-- ITS FALSE NEIGHBOUR: 'it returns false'. Refute it at one input. -/
def callsKeepsWrong : ChangeSpec := { name := "callsKeeps", fn := fun _ => fun
  | [d] => { results := [.lit (.bool false)], args := [d] }
  | _ => none }
def CallsKeepsWrongFalsely : Prop := callsKeepsRow.holds Try.pinned (OpenSpec.ofChange callsKeepsWrong)

/-- 'splicelaw18.CallsMore': WHATEVER THE INPUT: true; the input reads as it did. -/
def callsMoreSpec : ChangeSpec := { name := "callsMore", fn := fun _ => fun
  | [d1, d2] => { results := [.lit (.bool true)], args := [d1, d2] }
  | _ => none }
def callsMoreRow : OpenClaim := { program := "ytklhhdhokobbmaa", sum := "0b4f233fe3c7a28daed8b7818393dd90436cdba3d8a5c4e1901f0edcbf37d673", func := "splice/splicelaw18.CallsMore", spec := "callsMore", unfollowed := true, recurses := true, apart := false }
def CallsMoreSaid : Prop := callsMoreRow.holds Try.pinned (OpenSpec.ofChange callsMoreSpec)

/-- ITS FALSE NEIGHBOUR: 'it returns false'. Refute it at one input. -/
def callsMoreWrong : ChangeSpec := { name := "callsMore", fn := fun _ => fun
  | [d1, d2] => { results := [.lit (.bool false)], args := [d1, d2] }
  | _ => none }
def CallsMoreWrongFalsely : Prop := callsMoreRow.holds Try.pinned (OpenSpec.ofChange callsMoreWrong)

/-- 'splicelaw03.FlowKinds': WHATEVER THE INPUT: true; the input reads as it did. -/
def flowKindsSpec : ChangeSpec := { name := "flowKinds", fn := fun _ => fun
  | [d] => { results := [.lit (.bool true)], args := [d] }
  | _ => none }
def flowKindsRow : OpenClaim := { program := "ytklhhdhokobbmaa", sum := "0b4f233fe3c7a28daed8b7818393dd90436cdba3d8a5c4e1901f0edcbf37d673", func := "splice/splicelaw03.FlowKinds", spec := "flowKinds", unfollowed := true, recurses := true, apart := false }
def FlowKindsSaid : Prop := flowKindsRow.holds Try.pinned (OpenSpec.ofChange flowKindsSpec)

/-- ITS FALSE NEIGHBOUR: 'it returns false'. Refute it at one input. -/
def flowKindsWrong : ChangeSpec := { name := "flowKinds", fn := fun _ => fun
  | [d] => { results := [.lit (.bool false)], args := [d] }
  | _ => none }
def FlowKindsWrongFalsely : Prop := flowKindsRow.holds Try.pinned (OpenSpec.ofChange flowKindsWrong)

/-- 'splicelaw03.FlowFlip': WHATEVER THE INPUT: true; the input reads as it did. -/
def flowFlipSpec : ChangeSpec := { name := "flowFlip", fn := fun _ => fun
  | [d] => { results := [.lit (.bool true)], args := [d] }
  | _ => none }
def flowFlipRow : OpenClaim := { program := "ytklhhdhokobbmaa", sum := "0b4f233fe3c7a28daed8b7818393dd90436cdba3d8a5c4e1901f0edcbf37d673", func := "splice/splicelaw03.FlowFlip", spec := "flowFlip", unfollowed := true, recurses := true, apart := false }
def FlowFlipSaid : Prop := flowFlipRow.holds Try.pinned (OpenSpec.ofChange flowFlipSpec)

/-- ITS FALSE NEIGHBOUR: 'it returns false'. Refute it at one input. -/
def flowFlipWrong : ChangeSpec := { name := "flowFlip", fn := fun _ => fun
  | [d] => { results := [.lit (.bool false)], args := [d] }
  | _ => none }
def FlowFlipWrongFalsely : Prop := flowFlipRow.holds Try.pinned (OpenSpec.ofChange flowFlipWrong)

/-- 'splicelaw03.FlowPure': WHATEVER THE INPUT: true; the input reads as it did. -/
def flowPureSpec : ChangeSpec := { name := "flowPure", fn := fun _ => fun
  | [d] => { results := [.lit (.bool true)], args := [d] }
  | _ => none }
def flowPureRow : OpenClaim := { program := "ytklhhdhokobbmaa", sum := "0b4f233fe3c7a28daed8b7818393dd90436cdba3d8a5c4e1901f0edcbf37d673", func := "splice/splicelaw03.FlowPure", spec := "flowPure", unfollowed := true, recurses := true, apart := false }
def FlowPureSaid : Prop := flowPureRow.holds Try.pinned (OpenSpec.ofChange flowPureSpec)

/-- ITS FALSE NEIGHBOUR: 'it returns false'. Refute it at one input. -/
def flowPureWrong : ChangeSpec := { name := "flowPure", fn := fun _ => fun
  | [d] => { results := [.lit (.bool false)], args := [d] }
  | _ => none }
def FlowPureWrongFalsely : Prop := flowPureRow.holds Try.pinned (OpenSpec.ofChange flowPureWrong)

/-- 'splicelaw03.FlowKeeps': WHATEVER THE INPUT: true; the input reads as it did. -/
def flowKeepsSpec : ChangeSpec := { name := "flowKeeps", fn := fun _ => fun
  | [d] => { results := [.lit (.bool true)], args := [d] }
  | _ => none }
def flowKeepsRow : OpenClaim := { program := "ytklhhdhokobbmaa", sum := "0b4f233fe3c7a28daed8b7818393dd90436cdba3d8a5c4e1901f0edcbf37d673", func := "splice/splicelaw03.FlowKeeps", spec := "flowKeeps", unfollowed := true, recurses := true, apart := false }
def FlowKeepsSaid : Prop := flowKeepsRow.holds Try.pinned (OpenSpec.ofChange flowKeepsSpec)

/-- ITS FALSE NEIGHBOUR: 'it returns false'. Refute it at one input. -/
def flowKeepsWrong : ChangeSpec := { name := "flowKeeps", fn := fun _ => fun
  | [d] => { results := [.lit (.bool false)], args := [d] }
  | _ => none }
def FlowKeepsWrongFalsely : Prop := flowKeepsRow.holds Try.pinned (OpenSpec.ofChange flowKeepsWrong)

/-- 'splicelaw03.FlowReads': WHATEVER THE INPUT: true; the input reads as it did. -/
def flowReadsSpec : ChangeSpec := { name := "flowReads", fn := fun _ => fun
  | [d1, d2] => { results := [.lit (.bool true)], args := [d1, d2] }
  | _ => none }
def flowReadsRow : OpenClaim := { program := "ytklhhdhokobbmaa", sum := "0b4f233fe3c7a28daed8b7818393dd90436cdba3d8a5c4e1901f0edcbf37d673", func := "splice/splicelaw03.FlowReads", spec := "flowReads", unfollowed := true, recurses := true, apart := false }
def FlowReadsSaid : Prop := flowReadsRow.holds Try.pinned (OpenSpec.ofChange flowReadsSpec)

/-- ITS FALSE NEIGHBOUR: 'it returns false'. Refute it at one input. -/
def flowReadsWrong : ChangeSpec := { name := "flowReads", fn := fun _ => fun
  | [d1, d2] => { results := [.lit (.bool false)], args := [d1, d2] }
  | _ => none }
def FlowReadsWrongFalsely : Prop := flowReadsRow.holds Try.pinned (OpenSpec.ofChange flowReadsWrong)

/- THE SECOND FORM. 'bulk': how many values and letters a reading holds, each counted each time it is reached (what is shared counts as often as it is met; a slice's spare places count too). A statement '..UptoSaid' is the law's where the arguments, and the package variables that the reading takes, are together of bulk at most 1048576: NARROWER than '..Said'. Prove '..Said' where nothing that the law and all that it calls make is longer than what came in: it says more and counts as full. Else prove '..UptoSaid'. A law counts once. -/
mutual
def uptoBulk {H : Type} : DataW H → Nat
  | .lit (.string bytes) => bytes.length + 1
  | .lit _ => 1
  | .nil => 1
  | .ptr d => uptoBulk d + 1
  | .slice elems spare => uptoBulkAll elems + uptoBulkAll spare + 1
  | .agg parts => uptoBulkAll parts + 1
  | .iface _ d => uptoBulk d + 1
  | .map entries => uptoBulkEntries entries + 1
  | .held _ => 1
def uptoBulkAll {H : Type} : List (DataW H) → Nat
  | [] => 0
  | d :: r => uptoBulk d + uptoBulkAll r
def uptoBulkEntries {H : Type} : List (Lit × DataW H) → Nat
  | [] => 0
  | x :: r => uptoBulkEntry x + uptoBulkEntries r
def uptoBulkEntry {H : Type} : Lit × DataW H → Nat
  | (.string bytes, d) => bytes.length + uptoBulk d + 1
  | (_, d) => uptoBulk d + 1
 end
def uptoSmall : (H : Type) → List (DataW H) → Bool := fun _ ds => decide (uptoBulkAll ds ≤ 1048576)
def OpenSpec.upto (s : _root_.Go.ChangeSpec) : _root_.Go.OpenSpec := { _root_.Go.OpenSpec.ofChange s with cond := some uptoSmall }

/-- 'splicelaw18.CallsOf', WHERE WHAT IT READS IS OF BULK AT MOST 1048576: true; the input reads as it did. -/
def callsOfUptoRow : OpenClaim := { program := "ytklhhdhokobbmaa", sum := "0b4f233fe3c7a28daed8b7818393dd90436cdba3d8a5c4e1901f0edcbf37d673", func := "splice/splicelaw18.CallsOf", spec := "callsOf", unfollowed := true, recurses := true, apart := false, narrowed := true }
def CallsOfUptoSaid : Prop := callsOfUptoRow.holds Try.pinned (OpenSpec.upto callsOfSpec)

/-- 'splicelaw18.CallsReach', WHERE WHAT IT READS IS OF BULK AT MOST 1048576: true; the input reads as it did. -/
def callsReachUptoRow : OpenClaim := { program := "ytklhhdhokobbmaa", sum := "0b4f233fe3c7a28daed8b7818393dd90436cdba3d8a5c4e1901f0edcbf37d673", func := "splice/splicelaw18.CallsReach", spec := "callsReach", unfollowed := true, recurses := true, apart := false, narrowed := true }
def CallsReachUptoSaid : Prop := callsReachUptoRow.holds Try.pinned (OpenSpec.upto callsReachSpec)

/-- 'splicelaw18.CallsClosed', WHERE WHAT IT READS IS OF BULK AT MOST 1048576: true; the input reads as it did. -/
def callsClosedUptoRow : OpenClaim := { program := "ytklhhdhokobbmaa", sum := "0b4f233fe3c7a28daed8b7818393dd90436cdba3d8a5c4e1901f0edcbf37d673", func := "splice/splicelaw18.CallsClosed", spec := "callsClosed", unfollowed := true, recurses := true, apart := false, narrowed := true }
def CallsClosedUptoSaid : Prop := callsClosedUptoRow.holds Try.pinned (OpenSpec.upto callsClosedSpec)

/-- 'splicelaw18.CallsKeeps', WHERE WHAT IT READS IS OF BULK AT MOST 1048576: true; the input reads as it did. -/
def callsKeepsUptoRow : OpenClaim := { program := "ytklhhdhokobbmaa", sum := "0b4f233fe3c7a28daed8b7818393dd90436cdba3d8a5c4e1901f0edcbf37d673", func := "splice/splicelaw18.CallsKeeps", spec := "callsKeeps", unfollowed := true, recurses := true, apart := false, narrowed := true }
def CallsKeepsUptoSaid : Prop := callsKeepsUptoRow.holds Try.pinned (OpenSpec.upto callsKeepsSpec)

/-- 'splicelaw18.CallsMore', WHERE WHAT IT READS IS OF BULK AT MOST 1048576: true; the input reads as it did. -/
def callsMoreUptoRow : OpenClaim := { program := "ytklhhdhokobbmaa", sum := "0b4f233fe3c7a28daed8b7818393dd90436cdba3d8a5c4e1901f0edcbf37d673", func := "splice/splicelaw18.CallsMore", spec := "callsMore", unfollowed := true, recurses := true, apart := false, narrowed := true }
def CallsMoreUptoSaid : Prop := callsMoreUptoRow.holds Try.pinned (OpenSpec.upto callsMoreSpec)

/-- 'splicelaw03.FlowKinds', WHERE WHAT IT READS IS OF BULK AT MOST 1048576: true; the input reads as it did. -/
def flowKindsUptoRow : OpenClaim := { program := "ytklhhdhokobbmaa", sum := "0b4f233fe3c7a28daed8b7818393dd90436cdba3d8a5c4e1901f0edcbf37d673", func := "splice/splicelaw03.FlowKinds", spec := "flowKinds", unfollowed := true, recurses := true, apart := false, narrowed := true }
def FlowKindsUptoSaid : Prop := flowKindsUptoRow.holds Try.pinned (OpenSpec.upto flowKindsSpec)

/-- 'splicelaw03.FlowFlip', WHERE WHAT IT READS IS OF BULK AT MOST 1048576: true; the input reads as it did. -/
def flowFlipUptoRow : OpenClaim := { program := "ytklhhdhokobbmaa", sum := "0b4f233fe3c7a28daed8b7818393dd90436cdba3d8a5c4e1901f0edcbf37d673", func := "splice/splicelaw03.FlowFlip", spec := "flowFlip", unfollowed := true, recurses := true, apart := false, narrowed := true }
def FlowFlipUptoSaid : Prop := flowFlipUptoRow.holds Try.pinned (OpenSpec.upto flowFlipSpec)

/-- 'splicelaw03.FlowPure', WHERE WHAT IT READS IS OF BULK AT MOST 1048576: true; the input reads as it did. -/
def flowPureUptoRow : OpenClaim := { program := "ytklhhdhokobbmaa", sum := "0b4f233fe3c7a28daed8b7818393dd90436cdba3d8a5c4e1901f0edcbf37d673", func := "splice/splicelaw03.FlowPure", spec := "flowPure", unfollowed := true, recurses := true, apart := false, narrowed := true }
def FlowPureUptoSaid : Prop := flowPureUptoRow.holds Try.pinned (OpenSpec.upto flowPureSpec)

/-- 'splicelaw03.FlowKeeps', WHERE WHAT IT READS IS OF BULK AT MOST 1048576: true; the input reads as it did. -/
def flowKeepsUptoRow : OpenClaim := { program := "ytklhhdhokobbmaa", sum := "0b4f233fe3c7a28daed8b7818393dd90436cdba3d8a5c4e1901f0edcbf37d673", func := "splice/splicelaw03.FlowKeeps", spec := "flowKeeps", unfollowed := true, recurses := true, apart := false, narrowed := true }
def FlowKeepsUptoSaid : Prop := flowKeepsUptoRow.holds Try.pinned (OpenSpec.upto flowKeepsSpec)

/-- 'splicelaw03.FlowReads', WHERE WHAT IT READS IS OF BULK AT MOST 1048576: true; the input reads as it did. -/
def flowReadsUptoRow : OpenClaim := { program := "ytklhhdhokobbmaa", sum := "0b4f233fe3c7a28daed8b7818393dd90436cdba3d8a5c4e1901f0edcbf37d673", func := "splice/splicelaw03.FlowReads", spec := "flowReads", unfollowed := true, recurses := true, apart := false, narrowed := true }
def FlowReadsUptoSaid : Prop := flowReadsUptoRow.holds Try.pinned (OpenSpec.upto flowReadsSpec)

end Rows
end Go.Proofs.Ytklhhdhokobbmaa
