/-
  No cell of these rows narrows 'for every input' (looked for: loops, veiled, ifaces, maps, wideKeys, modest, calm, conditions, laid).
  DERIVED. THE GIVEN ROWS OF THIS SEAT. 16 by the template 'for every input the law returns true; each argument reads behind the call as it read before'; 0 by the template 'total and deterministic' (their statements: YtfemaeacmnhdlaaTotals.lean).
  GIVEN WITH THE SEED: the statements are not yours to turn. If you find one false, say at which input.
  Laid BY PROGRAM, IN A SANDBOX (cutbox-rows.mjs): the forced cells as the released guide's own fill.sh prints them over the translation 19ac3b77f1f01ae4… (all of the seat's roots in one cut). By AI agents, Wed Nov 11 2026. No macro, syntax, notation, axiom, sorry.
-/
import Derived.Test.YtfemaeacmnhdlaaChecked
import GoSem.Claim
import GoSem.ClaimJoined
import GoSem.ClaimMapViews
import Derived.JoinedTies
import Derived.KernelRfl
namespace Go.Proofs.Ytfemaeacmnhdlaa
/- THE CELL 'sum', in the pinned program and in every row, IS THE sha256 OF THE DUMP (.gsa) THAT YtfemaeacmnhdlaaProg.lean LOADS. Nothing in Lean hashes anything: it is a label: what it is worth is what the hold of that sum in a sandbox is worth. -/
noncomputable def Try.pinned : Pinned := { name := "ytfemaeacmnhdlaa", sum := "19ac3b77f1f01ae46f9b21be94257c7da372d81f40b965e104dc6b7e5e5c7524", checked := Try.checked }
namespace Rows
def none {H : Type} : Left H := { results := [], args := [] }

/-- 'bulletinlaw44.VisibilityClosed': WHATEVER THE INPUT: true; the input reads as it did. -/
def visibilityClosedSpec : ChangeSpec := { name := "visibilityClosed", fn := fun _ => fun
  | [d1, d2, d3] => { results := [.lit (.bool true)], args := [d1, d2, d3] }
  | _ => none }
def visibilityClosedRow : OpenClaim := { program := "ytfemaeacmnhdlaa", sum := "19ac3b77f1f01ae46f9b21be94257c7da372d81f40b965e104dc6b7e5e5c7524", func := "bulletin/bulletinlaw44.VisibilityClosed", spec := "visibilityClosed", inPlace := ["internal/bytealg.Compare"], unfollowed := true, recurses := true, plainKeys := false, apart := false }
def VisibilityClosedSaid : Prop := visibilityClosedRow.holds Try.pinned (OpenSpec.ofChange visibilityClosedSpec)

/-- ITS FALSE NEIGHBOUR: 'it returns false'. Refute it at one input. -/
def visibilityClosedWrong : ChangeSpec := { name := "visibilityClosed", fn := fun _ => fun
  | [d1, d2, d3] => { results := [.lit (.bool false)], args := [d1, d2, d3] }
  | _ => none }
def VisibilityClosedWrongFalsely : Prop := visibilityClosedRow.holds Try.pinned (OpenSpec.ofChange visibilityClosedWrong)

/-- 'bulletinlaw44.VisibilityMonotone': WHATEVER THE INPUT: true; the input reads as it did. -/
def visibilityMonotoneSpec : ChangeSpec := { name := "visibilityMonotone", fn := fun _ => fun
  | [d1, d2, d3, d4, d5] => { results := [.lit (.bool true)], args := [d1, d2, d3, d4, d5] }
  | _ => none }
def visibilityMonotoneRow : OpenClaim := { program := "ytfemaeacmnhdlaa", sum := "19ac3b77f1f01ae46f9b21be94257c7da372d81f40b965e104dc6b7e5e5c7524", func := "bulletin/bulletinlaw44.VisibilityMonotone", spec := "visibilityMonotone", inPlace := ["internal/bytealg.Compare"], unfollowed := true, recurses := true, plainKeys := false, apart := false }
def VisibilityMonotoneSaid : Prop := visibilityMonotoneRow.holds Try.pinned (OpenSpec.ofChange visibilityMonotoneSpec)

/-- ITS FALSE NEIGHBOUR: 'it returns false'. Refute it at one input. -/
def visibilityMonotoneWrong : ChangeSpec := { name := "visibilityMonotone", fn := fun _ => fun
  | [d1, d2, d3, d4, d5] => { results := [.lit (.bool false)], args := [d1, d2, d3, d4, d5] }
  | _ => none }
def VisibilityMonotoneWrongFalsely : Prop := visibilityMonotoneRow.holds Try.pinned (OpenSpec.ofChange visibilityMonotoneWrong)

/-- 'bulletinlaw44.VisibilityHole': WHATEVER THE INPUT: true; the input reads as it did. -/
def visibilityHoleSpec : ChangeSpec := { name := "visibilityHole", fn := fun _ => fun
  | [d1, d2, d3, d4] => { results := [.lit (.bool true)], args := [d1, d2, d3, d4] }
  | _ => none }
def visibilityHoleRow : OpenClaim := { program := "ytfemaeacmnhdlaa", sum := "19ac3b77f1f01ae46f9b21be94257c7da372d81f40b965e104dc6b7e5e5c7524", func := "bulletin/bulletinlaw44.VisibilityHole", spec := "visibilityHole", inPlace := ["internal/bytealg.Compare"], unfollowed := true, recurses := true, plainKeys := false, apart := false }
def VisibilityHoleSaid : Prop := visibilityHoleRow.holds Try.pinned (OpenSpec.ofChange visibilityHoleSpec)

/-- ITS FALSE NEIGHBOUR: 'it returns false'. Refute it at one input. -/
def visibilityHoleWrong : ChangeSpec := { name := "visibilityHole", fn := fun _ => fun
  | [d1, d2, d3, d4] => { results := [.lit (.bool false)], args := [d1, d2, d3, d4] }
  | _ => none }
def VisibilityHoleWrongFalsely : Prop := visibilityHoleRow.holds Try.pinned (OpenSpec.ofChange visibilityHoleWrong)

/-- 'bulletinlaw43.ThreadRows': WHATEVER THE INPUT: true; the input reads as it did. -/
def threadRowsSpec : ChangeSpec := { name := "threadRows", fn := fun _ => fun
  | [d] => { results := [.lit (.bool true)], args := [d] }
  | _ => none }
def threadRowsRow : OpenClaim := { program := "ytfemaeacmnhdlaa", sum := "19ac3b77f1f01ae46f9b21be94257c7da372d81f40b965e104dc6b7e5e5c7524", func := "bulletin/bulletinlaw43.ThreadRows", spec := "threadRows", inPlace := ["internal/bytealg.Compare"], unfollowed := true, recurses := true, plainKeys := false, apart := false }
def ThreadRowsSaid : Prop := threadRowsRow.holds Try.pinned (OpenSpec.ofChange threadRowsSpec)

/-- ITS FALSE NEIGHBOUR: 'it returns false'. Refute it at one input. -/
def threadRowsWrong : ChangeSpec := { name := "threadRows", fn := fun _ => fun
  | [d] => { results := [.lit (.bool false)], args := [d] }
  | _ => none }
def ThreadRowsWrongFalsely : Prop := threadRowsRow.holds Try.pinned (OpenSpec.ofChange threadRowsWrong)

/-- 'bulletinlaw43.ThreadAnswers': WHATEVER THE INPUT: true; the input reads as it did. -/
def threadAnswersSpec : ChangeSpec := { name := "threadAnswers", fn := fun _ => fun
  | [d] => { results := [.lit (.bool true)], args := [d] }
  | _ => none }
def threadAnswersRow : OpenClaim := { program := "ytfemaeacmnhdlaa", sum := "19ac3b77f1f01ae46f9b21be94257c7da372d81f40b965e104dc6b7e5e5c7524", func := "bulletin/bulletinlaw43.ThreadAnswers", spec := "threadAnswers", inPlace := ["internal/bytealg.Compare"], unfollowed := true, recurses := true, plainKeys := false, apart := false }
def ThreadAnswersSaid : Prop := threadAnswersRow.holds Try.pinned (OpenSpec.ofChange threadAnswersSpec)

/-- ITS FALSE NEIGHBOUR: 'it returns false'. Refute it at one input. -/
def threadAnswersWrong : ChangeSpec := { name := "threadAnswers", fn := fun _ => fun
  | [d] => { results := [.lit (.bool false)], args := [d] }
  | _ => none }
def ThreadAnswersWrongFalsely : Prop := threadAnswersRow.holds Try.pinned (OpenSpec.ofChange threadAnswersWrong)

/-- 'bulletinlaw43.ThreadChecks': WHATEVER THE INPUT: true; the input reads as it did. -/
def threadChecksSpec : ChangeSpec := { name := "threadChecks", fn := fun _ => fun
  | [d1, d2] => { results := [.lit (.bool true)], args := [d1, d2] }
  | _ => none }
def threadChecksRow : OpenClaim := { program := "ytfemaeacmnhdlaa", sum := "19ac3b77f1f01ae46f9b21be94257c7da372d81f40b965e104dc6b7e5e5c7524", func := "bulletin/bulletinlaw43.ThreadChecks", spec := "threadChecks", inPlace := ["internal/bytealg.Compare"], unfollowed := true, recurses := true, plainKeys := false, apart := false }
def ThreadChecksSaid : Prop := threadChecksRow.holds Try.pinned (OpenSpec.ofChange threadChecksSpec)

/-- ITS FALSE NEIGHBOUR: 'it returns false'. Refute it at one input. -/
def threadChecksWrong : ChangeSpec := { name := "threadChecks", fn := fun _ => fun
  | [d1, d2] => { results := [.lit (.bool false)], args := [d1, d2] }
  | _ => none }
def ThreadChecksWrongFalsely : Prop := threadChecksRow.holds Try.pinned (OpenSpec.ofChange threadChecksWrong)

/-- 'bulletinlaw43.ThreadCompares': WHATEVER THE INPUT: true; the input reads as it did. -/
def threadComparesSpec : ChangeSpec := { name := "threadCompares", fn := fun _ => fun
  | [d1, d2] => { results := [.lit (.bool true)], args := [d1, d2] }
  | _ => none }
def threadComparesRow : OpenClaim := { program := "ytfemaeacmnhdlaa", sum := "19ac3b77f1f01ae46f9b21be94257c7da372d81f40b965e104dc6b7e5e5c7524", func := "bulletin/bulletinlaw43.ThreadCompares", spec := "threadCompares", inPlace := ["internal/bytealg.Compare"], unfollowed := true, recurses := true, plainKeys := false, apart := false }
def ThreadComparesSaid : Prop := threadComparesRow.holds Try.pinned (OpenSpec.ofChange threadComparesSpec)

/-- ITS FALSE NEIGHBOUR: 'it returns false'. Refute it at one input. -/
def threadComparesWrong : ChangeSpec := { name := "threadCompares", fn := fun _ => fun
  | [d1, d2] => { results := [.lit (.bool false)], args := [d1, d2] }
  | _ => none }
def ThreadComparesWrongFalsely : Prop := threadComparesRow.holds Try.pinned (OpenSpec.ofChange threadComparesWrong)

/-- 'bulletinlaw43.ThreadErrors': WHATEVER THE INPUT: true; the input reads as it did. -/
def threadErrorsSpec : ChangeSpec := { name := "threadErrors", fn := fun _ => fun
  | [d1, d2, d3] => { results := [.lit (.bool true)], args := [d1, d2, d3] }
  | _ => none }
def threadErrorsRow : OpenClaim := { program := "ytfemaeacmnhdlaa", sum := "19ac3b77f1f01ae46f9b21be94257c7da372d81f40b965e104dc6b7e5e5c7524", func := "bulletin/bulletinlaw43.ThreadErrors", spec := "threadErrors", inPlace := ["internal/bytealg.Compare"], unfollowed := true, recurses := true, plainKeys := false, apart := false }
def ThreadErrorsSaid : Prop := threadErrorsRow.holds Try.pinned (OpenSpec.ofChange threadErrorsSpec)

/-- ITS FALSE NEIGHBOUR: 'it returns false'. Refute it at one input. -/
def threadErrorsWrong : ChangeSpec := { name := "threadErrors", fn := fun _ => fun
  | [d1, d2, d3] => { results := [.lit (.bool false)], args := [d1, d2, d3] }
  | _ => none }
def ThreadErrorsWrongFalsely : Prop := threadErrorsRow.holds Try.pinned (OpenSpec.ofChange threadErrorsWrong)

/-- 'bulletinlaw43.ThreadHoles': WHATEVER THE INPUT: true; the input reads as it did. -/
def threadHolesSpec : ChangeSpec := { name := "threadHoles", fn := fun _ => fun
  | [d1, d2] => { results := [.lit (.bool true)], args := [d1, d2] }
  | _ => none }
def threadHolesRow : OpenClaim := { program := "ytfemaeacmnhdlaa", sum := "19ac3b77f1f01ae46f9b21be94257c7da372d81f40b965e104dc6b7e5e5c7524", func := "bulletin/bulletinlaw43.ThreadHoles", spec := "threadHoles", inPlace := ["internal/bytealg.Compare"], unfollowed := true, recurses := true, plainKeys := false, apart := false }
def ThreadHolesSaid : Prop := threadHolesRow.holds Try.pinned (OpenSpec.ofChange threadHolesSpec)

/-- ITS FALSE NEIGHBOUR: 'it returns false'. Refute it at one input. -/
def threadHolesWrong : ChangeSpec := { name := "threadHoles", fn := fun _ => fun
  | [d1, d2] => { results := [.lit (.bool false)], args := [d1, d2] }
  | _ => none }
def ThreadHolesWrongFalsely : Prop := threadHolesRow.holds Try.pinned (OpenSpec.ofChange threadHolesWrong)

/-- 'bulletinlaw43.ThreadCuts': WHATEVER THE INPUT: true; the input reads as it did. -/
def threadCutsSpec : ChangeSpec := { name := "threadCuts", fn := fun _ => fun
  | [d1, d2] => { results := [.lit (.bool true)], args := [d1, d2] }
  | _ => none }
def threadCutsRow : OpenClaim := { program := "ytfemaeacmnhdlaa", sum := "19ac3b77f1f01ae46f9b21be94257c7da372d81f40b965e104dc6b7e5e5c7524", func := "bulletin/bulletinlaw43.ThreadCuts", spec := "threadCuts", inPlace := ["internal/bytealg.Compare"], unfollowed := true, recurses := true, plainKeys := false, apart := false }
def ThreadCutsSaid : Prop := threadCutsRow.holds Try.pinned (OpenSpec.ofChange threadCutsSpec)

/-- ITS FALSE NEIGHBOUR: 'it returns false'. Refute it at one input. -/
def threadCutsWrong : ChangeSpec := { name := "threadCuts", fn := fun _ => fun
  | [d1, d2] => { results := [.lit (.bool false)], args := [d1, d2] }
  | _ => none }
def ThreadCutsWrongFalsely : Prop := threadCutsRow.holds Try.pinned (OpenSpec.ofChange threadCutsWrong)

/-- 'bulletinlaw43.ThreadWalks': WHATEVER THE INPUT: true; the input reads as it did. -/
def threadWalksSpec : ChangeSpec := { name := "threadWalks", fn := fun _ => fun
  | [d1, d2] => { results := [.lit (.bool true)], args := [d1, d2] }
  | _ => none }
def threadWalksRow : OpenClaim := { program := "ytfemaeacmnhdlaa", sum := "19ac3b77f1f01ae46f9b21be94257c7da372d81f40b965e104dc6b7e5e5c7524", func := "bulletin/bulletinlaw43.ThreadWalks", spec := "threadWalks", inPlace := ["internal/bytealg.Compare"], unfollowed := true, recurses := true, plainKeys := false, apart := false }
def ThreadWalksSaid : Prop := threadWalksRow.holds Try.pinned (OpenSpec.ofChange threadWalksSpec)

/-- ITS FALSE NEIGHBOUR: 'it returns false'. Refute it at one input. -/
def threadWalksWrong : ChangeSpec := { name := "threadWalks", fn := fun _ => fun
  | [d1, d2] => { results := [.lit (.bool false)], args := [d1, d2] }
  | _ => none }
def ThreadWalksWrongFalsely : Prop := threadWalksRow.holds Try.pinned (OpenSpec.ofChange threadWalksWrong)

/-- 'bulletinlaw43.ThreadFinds': WHATEVER THE INPUT: true; the input reads as it did. -/
def threadFindsSpec : ChangeSpec := { name := "threadFinds", fn := fun _ => fun
  | [d1, d2] => { results := [.lit (.bool true)], args := [d1, d2] }
  | _ => none }
def threadFindsRow : OpenClaim := { program := "ytfemaeacmnhdlaa", sum := "19ac3b77f1f01ae46f9b21be94257c7da372d81f40b965e104dc6b7e5e5c7524", func := "bulletin/bulletinlaw43.ThreadFinds", spec := "threadFinds", inPlace := ["internal/bytealg.Compare"], unfollowed := true, recurses := true, plainKeys := false, apart := false }
def ThreadFindsSaid : Prop := threadFindsRow.holds Try.pinned (OpenSpec.ofChange threadFindsSpec)

/-- ITS FALSE NEIGHBOUR: 'it returns false'. Refute it at one input. -/
def threadFindsWrong : ChangeSpec := { name := "threadFinds", fn := fun _ => fun
  | [d1, d2] => { results := [.lit (.bool false)], args := [d1, d2] }
  | _ => none }
def ThreadFindsWrongFalsely : Prop := threadFindsRow.holds Try.pinned (OpenSpec.ofChange threadFindsWrong)

/-- 'bulletinlaw44.VisibilityNext': WHATEVER THE INPUT: true; the input reads as it did. -/
def visibilityNextSpec : ChangeSpec := { name := "visibilityNext", fn := fun _ => fun
  | [d1, d2, d3] => { results := [.lit (.bool true)], args := [d1, d2, d3] }
  | _ => none }
def visibilityNextRow : OpenClaim := { program := "ytfemaeacmnhdlaa", sum := "19ac3b77f1f01ae46f9b21be94257c7da372d81f40b965e104dc6b7e5e5c7524", func := "bulletin/bulletinlaw44.VisibilityNext", spec := "visibilityNext", inPlace := ["internal/bytealg.Compare"], unfollowed := true, recurses := true, plainKeys := false, apart := false }
def VisibilityNextSaid : Prop := visibilityNextRow.holds Try.pinned (OpenSpec.ofChange visibilityNextSpec)

/-- ITS FALSE NEIGHBOUR: 'it returns false'. Refute it at one input. -/
def visibilityNextWrong : ChangeSpec := { name := "visibilityNext", fn := fun _ => fun
  | [d1, d2, d3] => { results := [.lit (.bool false)], args := [d1, d2, d3] }
  | _ => none }
def VisibilityNextWrongFalsely : Prop := visibilityNextRow.holds Try.pinned (OpenSpec.ofChange visibilityNextWrong)

/-- 'bulletinlaw44.VisibilityListing': WHATEVER THE INPUT: true; the input reads as it did. -/
def visibilityListingSpec : ChangeSpec := { name := "visibilityListing", fn := fun _ => fun
  | [d1, d2, d3] => { results := [.lit (.bool true)], args := [d1, d2, d3] }
  | _ => none }
def visibilityListingRow : OpenClaim := { program := "ytfemaeacmnhdlaa", sum := "19ac3b77f1f01ae46f9b21be94257c7da372d81f40b965e104dc6b7e5e5c7524", func := "bulletin/bulletinlaw44.VisibilityListing", spec := "visibilityListing", inPlace := ["internal/bytealg.Compare"], unfollowed := true, recurses := true, plainKeys := false, apart := false }
def VisibilityListingSaid : Prop := visibilityListingRow.holds Try.pinned (OpenSpec.ofChange visibilityListingSpec)

/-- ITS FALSE NEIGHBOUR: 'it returns false'. Refute it at one input. -/
def visibilityListingWrong : ChangeSpec := { name := "visibilityListing", fn := fun _ => fun
  | [d1, d2, d3] => { results := [.lit (.bool false)], args := [d1, d2, d3] }
  | _ => none }
def VisibilityListingWrongFalsely : Prop := visibilityListingRow.holds Try.pinned (OpenSpec.ofChange visibilityListingWrong)

/-- 'bulletinlaw44.VisibilityPrecedes': WHATEVER THE INPUT: true; the input reads as it did. -/
def visibilityPrecedesSpec : ChangeSpec := { name := "visibilityPrecedes", fn := fun _ => fun
  | [d1, d2, d3] => { results := [.lit (.bool true)], args := [d1, d2, d3] }
  | _ => none }
def visibilityPrecedesRow : OpenClaim := { program := "ytfemaeacmnhdlaa", sum := "19ac3b77f1f01ae46f9b21be94257c7da372d81f40b965e104dc6b7e5e5c7524", func := "bulletin/bulletinlaw44.VisibilityPrecedes", spec := "visibilityPrecedes", inPlace := ["internal/bytealg.Compare"], unfollowed := true, recurses := true, plainKeys := false, apart := false }
def VisibilityPrecedesSaid : Prop := visibilityPrecedesRow.holds Try.pinned (OpenSpec.ofChange visibilityPrecedesSpec)

/-- ITS FALSE NEIGHBOUR: 'it returns false'. Refute it at one input. -/
def visibilityPrecedesWrong : ChangeSpec := { name := "visibilityPrecedes", fn := fun _ => fun
  | [d1, d2, d3] => { results := [.lit (.bool false)], args := [d1, d2, d3] }
  | _ => none }
def VisibilityPrecedesWrongFalsely : Prop := visibilityPrecedesRow.holds Try.pinned (OpenSpec.ofChange visibilityPrecedesWrong)

/-- 'bulletinlaw44.VisibilityOrder': WHATEVER THE INPUT: true; the input reads as it did. -/
def visibilityOrderSpec : ChangeSpec := { name := "visibilityOrder", fn := fun _ => fun
  | [d1, d2, d3, d4] => { results := [.lit (.bool true)], args := [d1, d2, d3, d4] }
  | _ => none }
def visibilityOrderRow : OpenClaim := { program := "ytfemaeacmnhdlaa", sum := "19ac3b77f1f01ae46f9b21be94257c7da372d81f40b965e104dc6b7e5e5c7524", func := "bulletin/bulletinlaw44.VisibilityOrder", spec := "visibilityOrder", inPlace := ["internal/bytealg.Compare"], unfollowed := true, recurses := true, plainKeys := false, apart := false }
def VisibilityOrderSaid : Prop := visibilityOrderRow.holds Try.pinned (OpenSpec.ofChange visibilityOrderSpec)

/-- ITS FALSE NEIGHBOUR: 'it returns false'. Refute it at one input. -/
def visibilityOrderWrong : ChangeSpec := { name := "visibilityOrder", fn := fun _ => fun
  | [d1, d2, d3, d4] => { results := [.lit (.bool false)], args := [d1, d2, d3, d4] }
  | _ => none }
def VisibilityOrderWrongFalsely : Prop := visibilityOrderRow.holds Try.pinned (OpenSpec.ofChange visibilityOrderWrong)

/- THE SECOND FORM. 'bulk': how many values and letters a reading holds, each counted each time it is reached (what is shared counts as often as it is met; a slice's spare places count too). A statement '..UptoSaid' is the law's where the arguments, and the package variables that the reading takes, are together of bulk at most 1048576: NARROWER than '..Said'. Prove '..Said' where nothing that the law and all that it calls make is longer than what came in: it says more and counts as full. Else prove '..UptoSaid'. A law counts once. -/
mutual
def uptoBulk {H : Type} : DataW H → Nat
  | .lit (.string bytes) => bytes.length + 1
  | .lit _ => 1
  | .nil => 1
  | .ptr d => uptoBulk d + 1
  | .slice elems spare => uptoBulkAll elems + uptoBulkAll spare + 1
  | .agg parts => uptoBulkAll parts + 1
  | .iface _ d => uptoBulk d + 1
  | .map entries => uptoBulkEntries entries + 1
  | .held _ => 1
def uptoBulkAll {H : Type} : List (DataW H) → Nat
  | [] => 0
  | d :: r => uptoBulk d + uptoBulkAll r
def uptoBulkEntries {H : Type} : List (Lit × DataW H) → Nat
  | [] => 0
  | x :: r => uptoBulkEntry x + uptoBulkEntries r
def uptoBulkEntry {H : Type} : Lit × DataW H → Nat
  | (.string bytes, d) => bytes.length + uptoBulk d + 1
  | (_, d) => uptoBulk d + 1
 end
def uptoSmall : (H : Type) → List (DataW H) → Bool := fun _ ds => decide (uptoBulkAll ds ≤ 1048576)
def OpenSpec.upto (s : _root_.Go.ChangeSpec) : _root_.Go.OpenSpec := { _root_.Go.OpenSpec.ofChange s with cond := some uptoSmall }

/-- 'bulletinlaw44.VisibilityClosed', WHERE WHAT IT READS IS OF BULK AT MOST 1048576: true; the input reads as it did. -/
def visibilityClosedUptoRow : OpenClaim := { program := "ytfemaeacmnhdlaa", sum := "19ac3b77f1f01ae46f9b21be94257c7da372d81f40b965e104dc6b7e5e5c7524", func := "bulletin/bulletinlaw44.VisibilityClosed", spec := "visibilityClosed", inPlace := ["internal/bytealg.Compare"], unfollowed := true, recurses := true, plainKeys := false, apart := false, narrowed := true }
def VisibilityClosedUptoSaid : Prop := visibilityClosedUptoRow.holds Try.pinned (OpenSpec.upto visibilityClosedSpec)

/-- 'bulletinlaw44.VisibilityMonotone', WHERE WHAT IT READS IS OF BULK AT MOST 1048576: true; the input reads as it did. -/
def visibilityMonotoneUptoRow : OpenClaim := { program := "ytfemaeacmnhdlaa", sum := "19ac3b77f1f01ae46f9b21be94257c7da372d81f40b965e104dc6b7e5e5c7524", func := "bulletin/bulletinlaw44.VisibilityMonotone", spec := "visibilityMonotone", inPlace := ["internal/bytealg.Compare"], unfollowed := true, recurses := true, plainKeys := false, apart := false, narrowed := true }
def VisibilityMonotoneUptoSaid : Prop := visibilityMonotoneUptoRow.holds Try.pinned (OpenSpec.upto visibilityMonotoneSpec)

/-- 'bulletinlaw44.VisibilityHole', WHERE WHAT IT READS IS OF BULK AT MOST 1048576: true; the input reads as it did. -/
def visibilityHoleUptoRow : OpenClaim := { program := "ytfemaeacmnhdlaa", sum := "19ac3b77f1f01ae46f9b21be94257c7da372d81f40b965e104dc6b7e5e5c7524", func := "bulletin/bulletinlaw44.VisibilityHole", spec := "visibilityHole", inPlace := ["internal/bytealg.Compare"], unfollowed := true, recurses := true, plainKeys := false, apart := false, narrowed := true }
def VisibilityHoleUptoSaid : Prop := visibilityHoleUptoRow.holds Try.pinned (OpenSpec.upto visibilityHoleSpec)

/-- 'bulletinlaw43.ThreadRows', WHERE WHAT IT READS IS OF BULK AT MOST 1048576: true; the input reads as it did. -/
def threadRowsUptoRow : OpenClaim := { program := "ytfemaeacmnhdlaa", sum := "19ac3b77f1f01ae46f9b21be94257c7da372d81f40b965e104dc6b7e5e5c7524", func := "bulletin/bulletinlaw43.ThreadRows", spec := "threadRows", inPlace := ["internal/bytealg.Compare"], unfollowed := true, recurses := true, plainKeys := false, apart := false, narrowed := true }
def ThreadRowsUptoSaid : Prop := threadRowsUptoRow.holds Try.pinned (OpenSpec.upto threadRowsSpec)

/-- 'bulletinlaw43.ThreadAnswers', WHERE WHAT IT READS IS OF BULK AT MOST 1048576: true; the input reads as it did. -/
def threadAnswersUptoRow : OpenClaim := { program := "ytfemaeacmnhdlaa", sum := "19ac3b77f1f01ae46f9b21be94257c7da372d81f40b965e104dc6b7e5e5c7524", func := "bulletin/bulletinlaw43.ThreadAnswers", spec := "threadAnswers", inPlace := ["internal/bytealg.Compare"], unfollowed := true, recurses := true, plainKeys := false, apart := false, narrowed := true }
def ThreadAnswersUptoSaid : Prop := threadAnswersUptoRow.holds Try.pinned (OpenSpec.upto threadAnswersSpec)

/-- 'bulletinlaw43.ThreadChecks', WHERE WHAT IT READS IS OF BULK AT MOST 1048576: true; the input reads as it did. -/
def threadChecksUptoRow : OpenClaim := { program := "ytfemaeacmnhdlaa", sum := "19ac3b77f1f01ae46f9b21be94257c7da372d81f40b965e104dc6b7e5e5c7524", func := "bulletin/bulletinlaw43.ThreadChecks", spec := "threadChecks", inPlace := ["internal/bytealg.Compare"], unfollowed := true, recurses := true, plainKeys := false, apart := false, narrowed := true }
def ThreadChecksUptoSaid : Prop := threadChecksUptoRow.holds Try.pinned (OpenSpec.upto threadChecksSpec)

/-- 'bulletinlaw43.ThreadCompares', WHERE WHAT IT READS IS OF BULK AT MOST 1048576: true; the input reads as it did. -/
def threadComparesUptoRow : OpenClaim := { program := "ytfemaeacmnhdlaa", sum := "19ac3b77f1f01ae46f9b21be94257c7da372d81f40b965e104dc6b7e5e5c7524", func := "bulletin/bulletinlaw43.ThreadCompares", spec := "threadCompares", inPlace := ["internal/bytealg.Compare"], unfollowed := true, recurses := true, plainKeys := false, apart := false, narrowed := true }
def ThreadComparesUptoSaid : Prop := threadComparesUptoRow.holds Try.pinned (OpenSpec.upto threadComparesSpec)

/-- 'bulletinlaw43.ThreadErrors', WHERE WHAT IT READS IS OF BULK AT MOST 1048576: true; the input reads as it did. -/
def threadErrorsUptoRow : OpenClaim := { program := "ytfemaeacmnhdlaa", sum := "19ac3b77f1f01ae46f9b21be94257c7da372d81f40b965e104dc6b7e5e5c7524", func := "bulletin/bulletinlaw43.ThreadErrors", spec := "threadErrors", inPlace := ["internal/bytealg.Compare"], unfollowed := true, recurses := true, plainKeys := false, apart := false, narrowed := true }
def ThreadErrorsUptoSaid : Prop := threadErrorsUptoRow.holds Try.pinned (OpenSpec.upto threadErrorsSpec)

/-- 'bulletinlaw43.ThreadHoles', WHERE WHAT IT READS IS OF BULK AT MOST 1048576: true; the input reads as it did. -/
def threadHolesUptoRow : OpenClaim := { program := "ytfemaeacmnhdlaa", sum := "19ac3b77f1f01ae46f9b21be94257c7da372d81f40b965e104dc6b7e5e5c7524", func := "bulletin/bulletinlaw43.ThreadHoles", spec := "threadHoles", inPlace := ["internal/bytealg.Compare"], unfollowed := true, recurses := true, plainKeys := false, apart := false, narrowed := true }
def ThreadHolesUptoSaid : Prop := threadHolesUptoRow.holds Try.pinned (OpenSpec.upto threadHolesSpec)

/-- 'bulletinlaw43.ThreadCuts', WHERE WHAT IT READS IS OF BULK AT MOST 1048576: true; the input reads as it did. -/
def threadCutsUptoRow : OpenClaim := { program := "ytfemaeacmnhdlaa", sum := "19ac3b77f1f01ae46f9b21be94257c7da372d81f40b965e104dc6b7e5e5c7524", func := "bulletin/bulletinlaw43.ThreadCuts", spec := "threadCuts", inPlace := ["internal/bytealg.Compare"], unfollowed := true, recurses := true, plainKeys := false, apart := false, narrowed := true }
def ThreadCutsUptoSaid : Prop := threadCutsUptoRow.holds Try.pinned (OpenSpec.upto threadCutsSpec)

/-- 'bulletinlaw43.ThreadWalks', WHERE WHAT IT READS IS OF BULK AT MOST 1048576: true; the input reads as it did. -/
def threadWalksUptoRow : OpenClaim := { program := "ytfemaeacmnhdlaa", sum := "19ac3b77f1f01ae46f9b21be94257c7da372d81f40b965e104dc6b7e5e5c7524", func := "bulletin/bulletinlaw43.ThreadWalks", spec := "threadWalks", inPlace := ["internal/bytealg.Compare"], unfollowed := true, recurses := true, plainKeys := false, apart := false, narrowed := true }
def ThreadWalksUptoSaid : Prop := threadWalksUptoRow.holds Try.pinned (OpenSpec.upto threadWalksSpec)

/-- 'bulletinlaw43.ThreadFinds', WHERE WHAT IT READS IS OF BULK AT MOST 1048576: true; the input reads as it did. -/
def threadFindsUptoRow : OpenClaim := { program := "ytfemaeacmnhdlaa", sum := "19ac3b77f1f01ae46f9b21be94257c7da372d81f40b965e104dc6b7e5e5c7524", func := "bulletin/bulletinlaw43.ThreadFinds", spec := "threadFinds", inPlace := ["internal/bytealg.Compare"], unfollowed := true, recurses := true, plainKeys := false, apart := false, narrowed := true }
def ThreadFindsUptoSaid : Prop := threadFindsUptoRow.holds Try.pinned (OpenSpec.upto threadFindsSpec)

/-- 'bulletinlaw44.VisibilityNext', WHERE WHAT IT READS IS OF BULK AT MOST 1048576: true; the input reads as it did. -/
def visibilityNextUptoRow : OpenClaim := { program := "ytfemaeacmnhdlaa", sum := "19ac3b77f1f01ae46f9b21be94257c7da372d81f40b965e104dc6b7e5e5c7524", func := "bulletin/bulletinlaw44.VisibilityNext", spec := "visibilityNext", inPlace := ["internal/bytealg.Compare"], unfollowed := true, recurses := true, plainKeys := false, apart := false, narrowed := true }
def VisibilityNextUptoSaid : Prop := visibilityNextUptoRow.holds Try.pinned (OpenSpec.upto visibilityNextSpec)

/-- 'bulletinlaw44.VisibilityListing', WHERE WHAT IT READS IS OF BULK AT MOST 1048576: true; the input reads as it did. -/
def visibilityListingUptoRow : OpenClaim := { program := "ytfemaeacmnhdlaa", sum := "19ac3b77f1f01ae46f9b21be94257c7da372d81f40b965e104dc6b7e5e5c7524", func := "bulletin/bulletinlaw44.VisibilityListing", spec := "visibilityListing", inPlace := ["internal/bytealg.Compare"], unfollowed := true, recurses := true, plainKeys := false, apart := false, narrowed := true }
def VisibilityListingUptoSaid : Prop := visibilityListingUptoRow.holds Try.pinned (OpenSpec.upto visibilityListingSpec)

/-- 'bulletinlaw44.VisibilityPrecedes', WHERE WHAT IT READS IS OF BULK AT MOST 1048576: true; the input reads as it did. -/
def visibilityPrecedesUptoRow : OpenClaim := { program := "ytfemaeacmnhdlaa", sum := "19ac3b77f1f01ae46f9b21be94257c7da372d81f40b965e104dc6b7e5e5c7524", func := "bulletin/bulletinlaw44.VisibilityPrecedes", spec := "visibilityPrecedes", inPlace := ["internal/bytealg.Compare"], unfollowed := true, recurses := true, plainKeys := false, apart := false, narrowed := true }
def VisibilityPrecedesUptoSaid : Prop := visibilityPrecedesUptoRow.holds Try.pinned (OpenSpec.upto visibilityPrecedesSpec)

/-- 'bulletinlaw44.VisibilityOrder', WHERE WHAT IT READS IS OF BULK AT MOST 1048576: true; the input reads as it did. -/
def visibilityOrderUptoRow : OpenClaim := { program := "ytfemaeacmnhdlaa", sum := "19ac3b77f1f01ae46f9b21be94257c7da372d81f40b965e104dc6b7e5e5c7524", func := "bulletin/bulletinlaw44.VisibilityOrder", spec := "visibilityOrder", inPlace := ["internal/bytealg.Compare"], unfollowed := true, recurses := true, plainKeys := false, apart := false, narrowed := true }
def VisibilityOrderUptoSaid : Prop := visibilityOrderUptoRow.holds Try.pinned (OpenSpec.upto visibilityOrderSpec)

end Rows
end Go.Proofs.Ytfemaeacmnhdlaa
