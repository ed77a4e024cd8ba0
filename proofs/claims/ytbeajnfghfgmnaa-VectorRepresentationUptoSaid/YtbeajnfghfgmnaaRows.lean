/-
  No cell of these rows narrows 'for every input' (looked for: loops, veiled, ifaces, maps, wideKeys, modest, calm, conditions, laid).
  DERIVED. THE GIVEN ROWS OF THIS SEAT. 8 by the template 'for every input the law returns true; each argument reads behind the call as it read before'; 0 by the template 'total and deterministic' (their statements: YtbeajnfghfgmnaaTotals.lean).
  GIVEN WITH THE SEED: the statements are not yours to turn. If you find one false, say at which input.
  Laid BY PROGRAM, IN A SANDBOX (cutbox-rows.mjs): the forced cells as the released guide's own fill.sh prints them over the translation 196e98d41fbfe0ed… (all of the seat's roots in one cut). By AI agents, Wed Nov 11 2026. No macro, syntax, notation, axiom, sorry.
-/
import Derived.Test.YtbeajnfghfgmnaaChecked
import GoSem.Claim
import GoSem.ClaimJoined
import GoSem.ClaimMapViews
import Derived.JoinedTies
import Derived.KernelRfl
namespace Go.Proofs.Ytbeajnfghfgmnaa
/- THE CELL 'sum', in the pinned program and in every row, IS THE sha256 OF THE DUMP (.gsa) THAT YtbeajnfghfgmnaaProg.lean LOADS. Nothing in Lean hashes anything: it is a label: what it is worth is what the hold of that sum in a sandbox is worth. -/
noncomputable def Try.pinned : Pinned := { name := "ytbeajnfghfgmnaa", sum := "196e98d41fbfe0edb1b1a4f8512c974d4fcb413ca926a2c30955d807c0937007", checked := Try.checked }
namespace Rows
def none {H : Type} : Left H := { results := [], args := [] }

/-- 'gridmarketlaw08.OrderingForest': WHATEVER THE INPUT: true; the input reads as it did. -/
def orderingForestSpec : ChangeSpec := { name := "orderingForest", fn := fun _ => fun
  | [d1, d2] => { results := [.lit (.bool true)], args := [d1, d2] }
  | _ => none }
def orderingForestRow : OpenClaim := { program := "ytbeajnfghfgmnaa", sum := "196e98d41fbfe0edb1b1a4f8512c974d4fcb413ca926a2c30955d807c0937007", func := "gridmarket/gridmarketlaw08.OrderingForest", spec := "orderingForest", unfollowed := true, recurses := true, apart := false }
def OrderingForestSaid : Prop := orderingForestRow.holds Try.pinned (OpenSpec.ofChange orderingForestSpec)

/-- ITS FALSE NEIGHBOUR: 'it returns false'. Refute it at one input. -/
def orderingForestWrong : ChangeSpec := { name := "orderingForest", fn := fun _ => fun
  | [d1, d2] => { results := [.lit (.bool false)], args := [d1, d2] }
  | _ => none }
def OrderingForestWrongFalsely : Prop := orderingForestRow.holds Try.pinned (OpenSpec.ofChange orderingForestWrong)

/-- 'gridmarketlaw08.OrderingRelabels': WHATEVER THE INPUT: true; the input reads as it did. -/
def orderingRelabelsSpec : ChangeSpec := { name := "orderingRelabels", fn := fun _ => fun
  | [d1, d2, d3] => { results := [.lit (.bool true)], args := [d1, d2, d3] }
  | _ => none }
def orderingRelabelsRow : OpenClaim := { program := "ytbeajnfghfgmnaa", sum := "196e98d41fbfe0edb1b1a4f8512c974d4fcb413ca926a2c30955d807c0937007", func := "gridmarket/gridmarketlaw08.OrderingRelabels", spec := "orderingRelabels", unfollowed := true, recurses := true, apart := false }
def OrderingRelabelsSaid : Prop := orderingRelabelsRow.holds Try.pinned (OpenSpec.ofChange orderingRelabelsSpec)

/-- ITS FALSE NEIGHBOUR: 'it returns false'. Refute it at one input. -/
def orderingRelabelsWrong : ChangeSpec := { name := "orderingRelabels", fn := fun _ => fun
  | [d1, d2, d3] => { results := [.lit (.bool false)], args := [d1, d2, d3] }
  | _ => none }
def OrderingRelabelsWrongFalsely : Prop := orderingRelabelsRow.holds Try.pinned (OpenSpec.ofChange orderingRelabelsWrong)

/-- 'gridmarketlaw08.OrderingExact': WHATEVER THE INPUT: true; the input reads as it did. -/
def orderingExactSpec : ChangeSpec := { name := "orderingExact", fn := fun _ => fun
  | [d1, d2, d3, d4, d5] => { results := [.lit (.bool true)], args := [d1, d2, d3, d4, d5] }
  | _ => none }
def orderingExactRow : OpenClaim := { program := "ytbeajnfghfgmnaa", sum := "196e98d41fbfe0edb1b1a4f8512c974d4fcb413ca926a2c30955d807c0937007", func := "gridmarket/gridmarketlaw08.OrderingExact", spec := "orderingExact", unfollowed := true, recurses := true, apart := false }
def OrderingExactSaid : Prop := orderingExactRow.holds Try.pinned (OpenSpec.ofChange orderingExactSpec)

/-- ITS FALSE NEIGHBOUR: 'it returns false'. Refute it at one input. -/
def orderingExactWrong : ChangeSpec := { name := "orderingExact", fn := fun _ => fun
  | [d1, d2, d3, d4, d5] => { results := [.lit (.bool false)], args := [d1, d2, d3, d4, d5] }
  | _ => none }
def OrderingExactWrongFalsely : Prop := orderingExactRow.holds Try.pinned (OpenSpec.ofChange orderingExactWrong)

/-- 'gridmarketlaw08.OrderingFill': WHATEVER THE INPUT: true; the input reads as it did. -/
def orderingFillSpec : ChangeSpec := { name := "orderingFill", fn := fun _ => fun
  | [d1, d2] => { results := [.lit (.bool true)], args := [d1, d2] }
  | _ => none }
def orderingFillRow : OpenClaim := { program := "ytbeajnfghfgmnaa", sum := "196e98d41fbfe0edb1b1a4f8512c974d4fcb413ca926a2c30955d807c0937007", func := "gridmarket/gridmarketlaw08.OrderingFill", spec := "orderingFill", unfollowed := true, recurses := true, apart := false }
def OrderingFillSaid : Prop := orderingFillRow.holds Try.pinned (OpenSpec.ofChange orderingFillSpec)

/-- ITS FALSE NEIGHBOUR: 'it returns false'. Refute it at one input. -/
def orderingFillWrong : ChangeSpec := { name := "orderingFill", fn := fun _ => fun
  | [d1, d2] => { results := [.lit (.bool false)], args := [d1, d2] }
  | _ => none }
def OrderingFillWrongFalsely : Prop := orderingFillRow.holds Try.pinned (OpenSpec.ofChange orderingFillWrong)

/-- 'gridmarketlaw06.VectorIsometry': WHATEVER THE INPUT: true; the input reads as it did. -/
def vectorIsometrySpec : ChangeSpec := { name := "vectorIsometry", fn := fun _ => fun
  | [d1, d2, d3] => { results := [.lit (.bool true)], args := [d1, d2, d3] }
  | _ => none }
def vectorIsometryRow : OpenClaim := { program := "ytbeajnfghfgmnaa", sum := "196e98d41fbfe0edb1b1a4f8512c974d4fcb413ca926a2c30955d807c0937007", func := "gridmarket/gridmarketlaw06.VectorIsometry", spec := "vectorIsometry", unfollowed := true, recurses := true, apart := false }
def VectorIsometrySaid : Prop := vectorIsometryRow.holds Try.pinned (OpenSpec.ofChange vectorIsometrySpec)

/-- ITS FALSE NEIGHBOUR: 'it returns false'. Refute it at one input. -/
def vectorIsometryWrong : ChangeSpec := { name := "vectorIsometry", fn := fun _ => fun
  | [d1, d2, d3] => { results := [.lit (.bool false)], args := [d1, d2, d3] }
  | _ => none }
def VectorIsometryWrongFalsely : Prop := vectorIsometryRow.holds Try.pinned (OpenSpec.ofChange vectorIsometryWrong)

/-- 'gridmarketlaw08.OrderingPattern': WHATEVER THE INPUT: true; the input reads as it did. -/
def orderingPatternSpec : ChangeSpec := { name := "orderingPattern", fn := fun _ => fun
  | [d1, d2] => { results := [.lit (.bool true)], args := [d1, d2] }
  | _ => none }
def orderingPatternRow : OpenClaim := { program := "ytbeajnfghfgmnaa", sum := "196e98d41fbfe0edb1b1a4f8512c974d4fcb413ca926a2c30955d807c0937007", func := "gridmarket/gridmarketlaw08.OrderingPattern", spec := "orderingPattern", unfollowed := true, recurses := true, apart := false }
def OrderingPatternSaid : Prop := orderingPatternRow.holds Try.pinned (OpenSpec.ofChange orderingPatternSpec)

/-- ITS FALSE NEIGHBOUR: 'it returns false'. Refute it at one input. -/
def orderingPatternWrong : ChangeSpec := { name := "orderingPattern", fn := fun _ => fun
  | [d1, d2] => { results := [.lit (.bool false)], args := [d1, d2] }
  | _ => none }
def OrderingPatternWrongFalsely : Prop := orderingPatternRow.holds Try.pinned (OpenSpec.ofChange orderingPatternWrong)

/-- 'gridmarketlaw06.VectorSpace': WHATEVER THE INPUT: true; the input reads as it did. -/
def vectorSpaceSpec : ChangeSpec := { name := "vectorSpace", fn := fun _ => fun
  | [d1, d2, d3] => { results := [.lit (.bool true)], args := [d1, d2, d3] }
  | _ => none }
def vectorSpaceRow : OpenClaim := { program := "ytbeajnfghfgmnaa", sum := "196e98d41fbfe0edb1b1a4f8512c974d4fcb413ca926a2c30955d807c0937007", func := "gridmarket/gridmarketlaw06.VectorSpace", spec := "vectorSpace", unfollowed := true, recurses := true, apart := false }
def VectorSpaceSaid : Prop := vectorSpaceRow.holds Try.pinned (OpenSpec.ofChange vectorSpaceSpec)

/-- ITS FALSE NEIGHBOUR: 'it returns false'. Refute it at one input. -/
def vectorSpaceWrong : ChangeSpec := { name := "vectorSpace", fn := fun _ => fun
  | [d1, d2, d3] => { results := [.lit (.bool false)], args := [d1, d2, d3] }
  | _ => none }
def VectorSpaceWrongFalsely : Prop := vectorSpaceRow.holds Try.pinned (OpenSpec.ofChange vectorSpaceWrong)

/-- 'gridmarketlaw06.VectorRepresentation': WHATEVER THE INPUT: true; the input reads as it did. -/
def vectorRepresentationSpec : ChangeSpec := { name := "vectorRepresentation", fn := fun _ => fun
  | [d1, d2, d3] => { results := [.lit (.bool true)], args := [d1, d2, d3] }
  | _ => none }
def vectorRepresentationRow : OpenClaim := { program := "ytbeajnfghfgmnaa", sum := "196e98d41fbfe0edb1b1a4f8512c974d4fcb413ca926a2c30955d807c0937007", func := "gridmarket/gridmarketlaw06.VectorRepresentation", spec := "vectorRepresentation", unfollowed := true, recurses := true, apart := false }
def VectorRepresentationSaid : Prop := vectorRepresentationRow.holds Try.pinned (OpenSpec.ofChange vectorRepresentationSpec)

/-- ITS FALSE NEIGHBOUR: 'it returns false'. Refute it at one input. -/
def vectorRepresentationWrong : ChangeSpec := { name := "vectorRepresentation", fn := fun _ => fun
  | [d1, d2, d3] => { results := [.lit (.bool false)], args := [d1, d2, d3] }
  | _ => none }
def VectorRepresentationWrongFalsely : Prop := vectorRepresentationRow.holds Try.pinned (OpenSpec.ofChange vectorRepresentationWrong)

/- THE SECOND FORM. 'bulk': how many values and letters a reading holds, each counted each time it is reached (what is shared counts as often as it is met; a slice's spare places count too). A statement '..UptoSaid' is the law's where the arguments, and the package variables that the reading takes, are together of bulk at most 1048576: NARROWER than '..Said'. Prove '..Said' where nothing that the law and all that it calls make is longer than what came in: it says more and counts as full. Else prove '..UptoSaid'. A law counts once. -/
mutual
def uptoBulk {H : Type} : DataW H → Nat
  | .lit (.string bytes) => bytes.length + 1
  | .lit _ => 1
  | .nil => 1
  | .ptr d => uptoBulk d + 1
  | .slice elems spare => uptoBulkAll elems + uptoBulkAll spare + 1
  | .agg parts => uptoBulkAll parts + 1
  | .iface _ d => uptoBulk d + 1
  | .map entries => uptoBulkEntries entries + 1
  | .held _ => 1
def uptoBulkAll {H : Type} : List (DataW H) → Nat
  | [] => 0
  | d :: r => uptoBulk d + uptoBulkAll r
def uptoBulkEntries {H : Type} : List (Lit × DataW H) → Nat
  | [] => 0
  | x :: r => uptoBulkEntry x + uptoBulkEntries r
def uptoBulkEntry {H : Type} : Lit × DataW H → Nat
  | (.string bytes, d) => bytes.length + uptoBulk d + 1
  | (_, d) => uptoBulk d + 1
 end
def uptoSmall : (H : Type) → List (DataW H) → Bool := fun _ ds => decide (uptoBulkAll ds ≤ 1048576)
def OpenSpec.upto (s : _root_.Go.ChangeSpec) : _root_.Go.OpenSpec := { _root_.Go.OpenSpec.ofChange s with cond := some uptoSmall }

/-- 'gridmarketlaw08.OrderingForest', WHERE WHAT IT READS IS OF BULK AT MOST 1048576: true; the input reads as it did. -/
def orderingForestUptoRow : OpenClaim := { program := "ytbeajnfghfgmnaa", sum := "196e98d41fbfe0edb1b1a4f8512c974d4fcb413ca926a2c30955d807c0937007", func := "gridmarket/gridmarketlaw08.OrderingForest", spec := "orderingForest", unfollowed := true, recurses := true, apart := false, narrowed := true }
def OrderingForestUptoSaid : Prop := orderingForestUptoRow.holds Try.pinned (OpenSpec.upto orderingForestSpec)

/-- 'gridmarketlaw08.OrderingRelabels', WHERE WHAT IT READS IS OF BULK AT MOST 1048576: true; the input reads as it did. -/
def orderingRelabelsUptoRow : OpenClaim := { program := "ytbeajnfghfgmnaa", sum := "196e98d41fbfe0edb1b1a4f8512c974d4fcb413ca926a2c30955d807c0937007", func := "gridmarket/gridmarketlaw08.OrderingRelabels", spec := "orderingRelabels", unfollowed := true, recurses := true, apart := false, narrowed := true }
def OrderingRelabelsUptoSaid : Prop := orderingRelabelsUptoRow.holds Try.pinned (OpenSpec.upto orderingRelabelsSpec)

/-- 'gridmarketlaw08.OrderingExact', WHERE WHAT IT READS IS OF BULK AT MOST 1048576: true; the input reads as it did. -/
def orderingExactUptoRow : OpenClaim := { program := "ytbeajnfghfgmnaa", sum := "196e98d41fbfe0edb1b1a4f8512c974d4fcb413ca926a2c30955d807c0937007", func := "gridmarket/gridmarketlaw08.OrderingExact", spec := "orderingExact", unfollowed := true, recurses := true, apart := false, narrowed := true }
def OrderingExactUptoSaid : Prop := orderingExactUptoRow.holds Try.pinned (OpenSpec.upto orderingExactSpec)

/-- 'gridmarketlaw08.OrderingFill', WHERE WHAT IT READS IS OF BULK AT MOST 1048576: true; the input reads as it did. -/
def orderingFillUptoRow : OpenClaim := { program := "ytbeajnfghfgmnaa", sum := "196e98d41fbfe0edb1b1a4f8512c974d4fcb413ca926a2c30955d807c0937007", func := "gridmarket/gridmarketlaw08.OrderingFill", spec := "orderingFill", unfollowed := true, recurses := true, apart := false, narrowed := true }
def OrderingFillUptoSaid : Prop := orderingFillUptoRow.holds Try.pinned (OpenSpec.upto orderingFillSpec)

/-- 'gridmarketlaw06.VectorIsometry', WHERE WHAT IT READS IS OF BULK AT MOST 1048576: true; the input reads as it did. -/
def vectorIsometryUptoRow : OpenClaim := { program := "ytbeajnfghfgmnaa", sum := "196e98d41fbfe0edb1b1a4f8512c974d4fcb413ca926a2c30955d807c0937007", func := "gridmarket/gridmarketlaw06.VectorIsometry", spec := "vectorIsometry", unfollowed := true, recurses := true, apart := false, narrowed := true }
def VectorIsometryUptoSaid : Prop := vectorIsometryUptoRow.holds Try.pinned (OpenSpec.upto vectorIsometrySpec)

/-- 'gridmarketlaw08.OrderingPattern', WHERE WHAT IT READS IS OF BULK AT MOST 1048576: true; the input reads as it did. -/
def orderingPatternUptoRow : OpenClaim := { program := "ytbeajnfghfgmnaa", sum := "196e98d41fbfe0edb1b1a4f8512c974d4fcb413ca926a2c30955d807c0937007", func := "gridmarket/gridmarketlaw08.OrderingPattern", spec := "orderingPattern", unfollowed := true, recurses := true, apart := false, narrowed := true }
def OrderingPatternUptoSaid : Prop := orderingPatternUptoRow.holds Try.pinned (OpenSpec.upto orderingPatternSpec)

/-- 'gridmarketlaw06.VectorSpace', WHERE WHAT IT READS IS OF BULK AT MOST 1048576: true; the input reads as it did. -/
def vectorSpaceUptoRow : OpenClaim := { program := "ytbeajnfghfgmnaa", sum := "196e98d41fbfe0edb1b1a4f8512c974d4fcb413ca926a2c30955d807c0937007", func := "gridmarket/gridmarketlaw06.VectorSpace", spec := "vectorSpace", unfollowed := true, recurses := true, apart := false, narrowed := true }
def VectorSpaceUptoSaid : Prop := vectorSpaceUptoRow.holds Try.pinned (OpenSpec.upto vectorSpaceSpec)

/-- 'gridmarketlaw06.VectorRepresentation', WHERE WHAT IT READS IS OF BULK AT MOST 1048576: true; the input reads as it did. -/
def vectorRepresentationUptoRow : OpenClaim := { program := "ytbeajnfghfgmnaa", sum := "196e98d41fbfe0edb1b1a4f8512c974d4fcb413ca926a2c30955d807c0937007", func := "gridmarket/gridmarketlaw06.VectorRepresentation", spec := "vectorRepresentation", unfollowed := true, recurses := true, apart := false, narrowed := true }
def VectorRepresentationUptoSaid : Prop := vectorRepresentationUptoRow.holds Try.pinned (OpenSpec.upto vectorRepresentationSpec)

end Rows
end Go.Proofs.Ytbeajnfghfgmnaa
