/-
  No cell of these rows narrows 'for every input' (looked for: loops, veiled, ifaces, maps, wideKeys, modest, calm, conditions, laid).
  DERIVED. THE GIVEN ROWS OF THIS SEAT. 2 by the template 'for every input the law returns true; each argument reads behind the call as it read before'; 0 by the template 'total and deterministic' (their statements: YtbeajnfghfgmnaaGreatTotals.lean).
  GIVEN WITH THE SEED: the statements are not yours to turn. If you find one false, say at which input.
  Laid BY PROGRAM, IN A SANDBOX (cutbox-rows.mjs): the forced cells as the released guide's own fill.sh prints them over the translation 007e1ac4b2a70031… (all of the seat's roots in one cut). By AI agents, Wed Nov 11 2026. No macro, syntax, notation, axiom, sorry.
-/
import Derived.Test.YtbeajnfghfgmnaaGreatChecked
import GoSem.Claim
import GoSem.ClaimJoined
import GoSem.ClaimMapViews
import Derived.JoinedTies
import Derived.KernelRfl
namespace Go.Proofs.YtbeajnfghfgmnaaGreat
/- THE CELL 'sum', in the pinned program and in every row, IS THE sha256 OF THE DUMP (.gsa) THAT YtbeajnfghfgmnaaGreatProg.lean LOADS. Nothing in Lean hashes anything: it is a label: what it is worth is what the hold of that sum in a sandbox is worth. -/
noncomputable def Tryz.pinned : Pinned := { name := "ytbeajnfghfgmnaagreat", sum := "007e1ac4b2a70031e2ad6478c2846f8d9d4cdedbd46d3faa4636f119e6733410", checked := Tryz.checked }
namespace Rows
def none {H : Type} : Left H := { results := [], args := [] }

/-- 'gridmarketlaw06.VectorPermutes': WHATEVER THE INPUT: true; the input reads as it did. -/
def vectorPermutesSpec : ChangeSpec := { name := "vectorPermutes", fn := fun _ => fun
  | [d1, d2, d3] => { results := [.lit (.bool true)], args := [d1, d2, d3] }
  | _ => none }
def vectorPermutesRow : OpenClaim := { program := "ytbeajnfghfgmnaagreat", sum := "007e1ac4b2a70031e2ad6478c2846f8d9d4cdedbd46d3faa4636f119e6733410", func := "gridmarket/gridmarketlaw06.VectorPermutes", spec := "vectorPermutes", unfollowed := true, recurses := true, apart := false }
def VectorPermutesSaid : Prop := vectorPermutesRow.holds Tryz.pinned (OpenSpec.ofChange vectorPermutesSpec)

/-- ITS FALSE NEIGHBOUR: 'it returns false'. Refute it at one input. -/
def vectorPermutesWrong : ChangeSpec := { name := "vectorPermutes", fn := fun _ => fun
  | [d1, d2, d3] => { results := [.lit (.bool false)], args := [d1, d2, d3] }
  | _ => none }
def VectorPermutesWrongFalsely : Prop := vectorPermutesRow.holds Tryz.pinned (OpenSpec.ofChange vectorPermutesWrong)

/-- 'gridmarketlaw06.VectorDense': WHATEVER THE INPUT: true; the input reads as it did. -/
def vectorDenseSpec : ChangeSpec := { name := "vectorDense", fn := fun _ => fun
  | [d1, d2, d3, d4] => { results := [.lit (.bool true)], args := [d1, d2, d3, d4] }
  | _ => none }
def vectorDenseRow : OpenClaim := { program := "ytbeajnfghfgmnaagreat", sum := "007e1ac4b2a70031e2ad6478c2846f8d9d4cdedbd46d3faa4636f119e6733410", func := "gridmarket/gridmarketlaw06.VectorDense", spec := "vectorDense", unfollowed := true, recurses := true, apart := false }
def VectorDenseSaid : Prop := vectorDenseRow.holds Tryz.pinned (OpenSpec.ofChange vectorDenseSpec)

/-- ITS FALSE NEIGHBOUR: 'it returns false'. Refute it at one input. -/
def vectorDenseWrong : ChangeSpec := { name := "vectorDense", fn := fun _ => fun
  | [d1, d2, d3, d4] => { results := [.lit (.bool false)], args := [d1, d2, d3, d4] }
  | _ => none }
def VectorDenseWrongFalsely : Prop := vectorDenseRow.holds Tryz.pinned (OpenSpec.ofChange vectorDenseWrong)

/- THE SECOND FORM. 'bulk': how many values and letters a reading holds, each counted each time it is reached (what is shared counts as often as it is met; a slice's spare places count too). A statement '..UptoSaid' is the law's where the arguments, and the package variables that the reading takes, are together of bulk at most 1048576: NARROWER than '..Said'. Prove '..Said' where nothing that the law and all that it calls make is longer than what came in: it says more and counts as full. Else prove '..UptoSaid'. A law counts once. -/
mutual
def uptoBulk {H : Type} : DataW H → Nat
  | .lit (.string bytes) => bytes.length + 1
  | .lit _ => 1
  | .nil => 1
  | .ptr d => uptoBulk d + 1
  | .slice elems spare => uptoBulkAll elems + uptoBulkAll spare + 1
  | .agg parts => uptoBulkAll parts + 1
  | .iface _ d => uptoBulk d + 1
  | .map entries => uptoBulkEntries entries + 1
  | .held _ => 1
def uptoBulkAll {H : Type} : List (DataW H) → Nat
  | [] => 0
  | d :: r => uptoBulk d + uptoBulkAll r
def uptoBulkEntries {H : Type} : List (Lit × DataW H) → Nat
  | [] => 0
  | x :: r => uptoBulkEntry x + uptoBulkEntries r
def uptoBulkEntry {H : Type} : Lit × DataW H → Nat
  | (.string bytes, d) => bytes.length + uptoBulk d + 1
  | (_, d) => uptoBulk d + 1
 end
def uptoSmall : (H : Type) → List (DataW H) → Bool := fun _ ds => decide (uptoBulkAll ds ≤ 1048576)
def OpenSpec.upto (s : _root_.Go.ChangeSpec) : _root_.Go.OpenSpec := { _root_.Go.OpenSpec.ofChange s with cond := some uptoSmall }

/-- 'gridmarketlaw06.VectorPermutes', WHERE WHAT IT READS IS OF BULK AT MOST 1048576: true; the input reads as it did. -/
def vectorPermutesUptoRow : OpenClaim := { program := "ytbeajnfghfgmnaagreat", sum := "007e1ac4b2a70031e2ad6478c2846f8d9d4cdedbd46d3faa4636f119e6733410", func := "gridmarket/gridmarketlaw06.VectorPermutes", spec := "vectorPermutes", unfollowed := true, recurses := true, apart := false, narrowed := true }
def VectorPermutesUptoSaid : Prop := vectorPermutesUptoRow.holds Tryz.pinned (OpenSpec.upto vectorPermutesSpec)

/-- 'gridmarketlaw06.VectorDense', WHERE WHAT IT READS IS OF BULK AT MOST 1048576: true; the input reads as it did. -/
def vectorDenseUptoRow : OpenClaim := { program := "ytbeajnfghfgmnaagreat", sum := "007e1ac4b2a70031e2ad6478c2846f8d9d4cdedbd46d3faa4636f119e6733410", func := "gridmarket/gridmarketlaw06.VectorDense", spec := "vectorDense", unfollowed := true, recurses := true, apart := false, narrowed := true }
def VectorDenseUptoSaid : Prop := vectorDenseUptoRow.holds Tryz.pinned (OpenSpec.upto vectorDenseSpec)

end Rows
end Go.Proofs.YtbeajnfghfgmnaaGreat
