/-
  No cell of these rows narrows 'for every input' (looked for: loops, veiled, ifaces, maps, wideKeys, modest, calm, conditions, laid).
  DERIVED. THE GIVEN ROWS OF THIS SEAT. 6 by the template 'for every input the law returns true; each argument reads behind the call as it read before'; 0 by the template 'total and deterministic' (their statements: YtiejkgapifpchaaTotals.lean).
  GIVEN WITH THE SEED: the statements are not yours to turn. If you find one false, say at which input.
  Laid BY PROGRAM, IN A SANDBOX (cutbox-rows.mjs): the forced cells as the released guide's own fill.sh prints them over the translation 6d3dca34cc473ebc… (all of the seat's roots in one cut). By AI agents, Wed Nov 11 2026. No macro, syntax, notation, axiom, sorry.
-/
import Derived.Test.YtiejkgapifpchaaChecked
import GoSem.Claim
import GoSem.ClaimJoined
import GoSem.ClaimMapViews
import Derived.JoinedTies
import Derived.KernelRfl
namespace Go.Proofs.Ytiejkgapifpchaa
/- THE CELL 'sum', in the pinned program and in every row, IS THE sha256 OF THE DUMP (.gsa) THAT YtiejkgapifpchaaProg.lean LOADS. Nothing in Lean hashes anything: it is a label: what it is worth is what the hold of that sum in a sandbox is worth. -/
noncomputable def Try.pinned : Pinned := { name := "ytiejkgapifpchaa", sum := "6d3dca34cc473ebce6638a2a3013ab56627921d3dc7a40a01297df3336773181", checked := Try.checked }
namespace Rows
def none {H : Type} : Left H := { results := [], args := [] }

/-- 'spinetlaw03.RootTells': WHATEVER THE INPUT: true; the input reads as it did. -/
def rootTellsSpec : ChangeSpec := { name := "rootTells", fn := fun _ => fun
  | [d] => { results := [.lit (.bool true)], args := [d] }
  | _ => none }
def rootTellsRow : OpenClaim := { program := "ytiejkgapifpchaa", sum := "6d3dca34cc473ebce6638a2a3013ab56627921d3dc7a40a01297df3336773181", func := "spinet/spinetlaw03.RootTells", spec := "rootTells", apart := false }
def RootTellsSaid : Prop := rootTellsRow.holds Try.pinned (OpenSpec.ofChange rootTellsSpec)

/-- ITS FALSE NEIGHBOUR: 'it returns false'. Refute it at one input. -/
def rootTellsWrong : ChangeSpec := { name := "rootTells", fn := fun _ => fun
  | [d] => { results := [.lit (.bool false)], args := [d] }
  | _ => none }
def RootTellsWrongFalsely : Prop := rootTellsRow.holds Try.pinned (OpenSpec.ofChange rootTellsWrong)

/-- 'spinetlaw03.RootIs': WHATEVER THE INPUT: true; the input reads as it did. -/
def rootIsSpec : ChangeSpec := { name := "rootIs", fn := fun _ => fun
  | [d] => { results := [.lit (.bool true)], args := [d] }
  | _ => none }
def rootIsRow : OpenClaim := { program := "ytiejkgapifpchaa", sum := "6d3dca34cc473ebce6638a2a3013ab56627921d3dc7a40a01297df3336773181", func := "spinet/spinetlaw03.RootIs", spec := "rootIs", apart := false }
def RootIsSaid : Prop := rootIsRow.holds Try.pinned (OpenSpec.ofChange rootIsSpec)

/-- ITS FALSE NEIGHBOUR: 'it returns false'. Refute it at one input. -/
def rootIsWrong : ChangeSpec := { name := "rootIs", fn := fun _ => fun
  | [d] => { results := [.lit (.bool false)], args := [d] }
  | _ => none }
def RootIsWrongFalsely : Prop := rootIsRow.holds Try.pinned (OpenSpec.ofChange rootIsWrong)

/-- 'spinetlaw03.RootSquares': WHATEVER THE INPUT: true; the input reads as it did. -/
def rootSquaresSpec : ChangeSpec := { name := "rootSquares", fn := fun _ => fun
  | [d] => { results := [.lit (.bool true)], args := [d] }
  | _ => none }
def rootSquaresRow : OpenClaim := { program := "ytiejkgapifpchaa", sum := "6d3dca34cc473ebce6638a2a3013ab56627921d3dc7a40a01297df3336773181", func := "spinet/spinetlaw03.RootSquares", spec := "rootSquares", apart := false }
def RootSquaresSaid : Prop := rootSquaresRow.holds Try.pinned (OpenSpec.ofChange rootSquaresSpec)

/-- ITS FALSE NEIGHBOUR: 'it returns false'. Refute it at one input. -/
def rootSquaresWrong : ChangeSpec := { name := "rootSquares", fn := fun _ => fun
  | [d] => { results := [.lit (.bool false)], args := [d] }
  | _ => none }
def RootSquaresWrongFalsely : Prop := rootSquaresRow.holds Try.pinned (OpenSpec.ofChange rootSquaresWrong)

/-- 'spinetlaw03.RootNorms': WHATEVER THE INPUT: true; the input reads as it did. -/
def rootNormsSpec : ChangeSpec := { name := "rootNorms", fn := fun _ => fun
  | [d] => { results := [.lit (.bool true)], args := [d] }
  | _ => none }
def rootNormsRow : OpenClaim := { program := "ytiejkgapifpchaa", sum := "6d3dca34cc473ebce6638a2a3013ab56627921d3dc7a40a01297df3336773181", func := "spinet/spinetlaw03.RootNorms", spec := "rootNorms", apart := false }
def RootNormsSaid : Prop := rootNormsRow.holds Try.pinned (OpenSpec.ofChange rootNormsSpec)

/-- ITS FALSE NEIGHBOUR: 'it returns false'. Refute it at one input. -/
def rootNormsWrong : ChangeSpec := { name := "rootNorms", fn := fun _ => fun
  | [d] => { results := [.lit (.bool false)], args := [d] }
  | _ => none }
def RootNormsWrongFalsely : Prop := rootNormsRow.holds Try.pinned (OpenSpec.ofChange rootNormsWrong)

/-- 'spinetlaw03.RootParts': WHATEVER THE INPUT: true; the input reads as it did. -/
def rootPartsSpec : ChangeSpec := { name := "rootParts", fn := fun _ => fun
  | [d1, d2, d3] => { results := [.lit (.bool true)], args := [d1, d2, d3] }
  | _ => none }
def rootPartsRow : OpenClaim := { program := "ytiejkgapifpchaa", sum := "6d3dca34cc473ebce6638a2a3013ab56627921d3dc7a40a01297df3336773181", func := "spinet/spinetlaw03.RootParts", spec := "rootParts", apart := false }
def RootPartsSaid : Prop := rootPartsRow.holds Try.pinned (OpenSpec.ofChange rootPartsSpec)

/-- ITS FALSE NEIGHBOUR: 'it returns false'. Refute it at one input. -/
def rootPartsWrong : ChangeSpec := { name := "rootParts", fn := fun _ => fun
  | [d1, d2, d3] => { results := [.lit (.bool false)], args := [d1, d2, d3] }
  | _ => none }
def RootPartsWrongFalsely : Prop := rootPartsRow.holds Try.pinned (OpenSpec.ofChange rootPartsWrong)

/-- 'spinetlaw03.RootWithin': WHATEVER THE INPUT: true; the input reads as it did. -/
def rootWithinSpec : ChangeSpec := { name := "rootWithin", fn := fun _ => fun
  | [d1, d2] => { results := [.lit (.bool true)], args := [d1, d2] }
  | _ => none }
def rootWithinRow : OpenClaim := { program := "ytiejkgapifpchaa", sum := "6d3dca34cc473ebce6638a2a3013ab56627921d3dc7a40a01297df3336773181", func := "spinet/spinetlaw03.RootWithin", spec := "rootWithin", apart := false }
def RootWithinSaid : Prop := rootWithinRow.holds Try.pinned (OpenSpec.ofChange rootWithinSpec)

/-- ITS FALSE NEIGHBOUR: 'it returns false'. Refute it at one input. -/
def rootWithinWrong : ChangeSpec := { name := "rootWithin", fn := fun _ => fun
  | [d1, d2] => { results := [.lit (.bool false)], args := [d1, d2] }
  | _ => none }
def RootWithinWrongFalsely : Prop := rootWithinRow.holds Try.pinned (OpenSpec.ofChange rootWithinWrong)

/- THE SECOND FORM. 'bulk': how many values and letters a reading holds, each counted each time it is reached (what is shared counts as often as it is met; a slice's spare places count too). A statement '..UptoSaid' is the law's where the arguments, and the package variables that the reading takes, are together of bulk at most 1048576: NARROWER than '..Said'. Prove '..Said' where nothing that the law and all that it calls make is longer than what came in: it says more and counts as full. Else prove '..UptoSaid'. A law counts once. -/
mutual
def uptoBulk {H : Type} : DataW H → Nat
  | .lit (.string bytes) => bytes.length + 1
  | .lit _ => 1
  | .nil => 1
  | .ptr d => uptoBulk d + 1
  | .slice elems spare => uptoBulkAll elems + uptoBulkAll spare + 1
  | .agg parts => uptoBulkAll parts + 1
  | .iface _ d => uptoBulk d + 1
  | .map entries => uptoBulkEntries entries + 1
  | .held _ => 1
def uptoBulkAll {H : Type} : List (DataW H) → Nat
  | [] => 0
  | d :: r => uptoBulk d + uptoBulkAll r
def uptoBulkEntries {H : Type} : List (Lit × DataW H) → Nat
  | [] => 0
  | x :: r => uptoBulkEntry x + uptoBulkEntries r
def uptoBulkEntry {H : Type} : Lit × DataW H → Nat
  | (.string bytes, d) => bytes.length + uptoBulk d + 1
  | (_, d) => uptoBulk d + 1
 end
def uptoSmall : (H : Type) → List (DataW H) → Bool := fun _ ds => decide (uptoBulkAll ds ≤ 1048576)
def OpenSpec.upto (s : _root_.Go.ChangeSpec) : _root_.Go.OpenSpec := { _root_.Go.OpenSpec.ofChange s with cond := some uptoSmall }

/-- 'spinetlaw03.RootTells', WHERE WHAT IT READS IS OF BULK AT MOST 1048576: true; the input reads as it did. -/
def rootTellsUptoRow : OpenClaim := { program := "ytiejkgapifpchaa", sum := "6d3dca34cc473ebce6638a2a3013ab56627921d3dc7a40a01297df3336773181", func := "spinet/spinetlaw03.RootTells", spec := "rootTells", apart := false, narrowed := true }
def RootTellsUptoSaid : Prop := rootTellsUptoRow.holds Try.pinned (OpenSpec.upto rootTellsSpec)

/-- 'spinetlaw03.RootIs', WHERE WHAT IT READS IS OF BULK AT MOST 1048576: true; the input reads as it did. -/
def rootIsUptoRow : OpenClaim := { program := "ytiejkgapifpchaa", sum := "6d3dca34cc473ebce6638a2a3013ab56627921d3dc7a40a01297df3336773181", func := "spinet/spinetlaw03.RootIs", spec := "rootIs", apart := false, narrowed := true }
def RootIsUptoSaid : Prop := rootIsUptoRow.holds Try.pinned (OpenSpec.upto rootIsSpec)

/-- 'spinetlaw03.RootSquares', WHERE WHAT IT READS IS OF BULK AT MOST 1048576: true; the input reads as it did. -/
def rootSquaresUptoRow : OpenClaim := { program := "ytiejkgapifpchaa", sum := "6d3dca34cc473ebce6638a2a3013ab56627921d3dc7a40a01297df3336773181", func := "spinet/spinetlaw03.RootSquares", spec := "rootSquares", apart := false, narrowed := true }
def RootSquaresUptoSaid : Prop := rootSquaresUptoRow.holds Try.pinned (OpenSpec.upto rootSquaresSpec)

/-- 'spinetlaw03.RootNorms', WHERE WHAT IT READS IS OF BULK AT MOST 1048576: true; the input reads as it did. -/
def rootNormsUptoRow : OpenClaim := { program := "ytiejkgapifpchaa", sum := "6d3dca34cc473ebce6638a2a3013ab56627921d3dc7a40a01297df3336773181", func := "spinet/spinetlaw03.RootNorms", spec := "rootNorms", apart := false, narrowed := true }
def RootNormsUptoSaid : Prop := rootNormsUptoRow.holds Try.pinned (OpenSpec.upto rootNormsSpec)

/-- 'spinetlaw03.RootParts', WHERE WHAT IT READS IS OF BULK AT MOST 1048576: true; the input reads as it did. -/
def rootPartsUptoRow : OpenClaim := { program := "ytiejkgapifpchaa", sum := "6d3dca34cc473ebce6638a2a3013ab56627921d3dc7a40a01297df3336773181", func := "spinet/spinetlaw03.RootParts", spec := "rootParts", apart := false, narrowed := true }
def RootPartsUptoSaid : Prop := rootPartsUptoRow.holds Try.pinned (OpenSpec.upto rootPartsSpec)

/-- 'spinetlaw03.RootWithin', WHERE WHAT IT READS IS OF BULK AT MOST 1048576: true; the input reads as it did. -/
def rootWithinUptoRow : OpenClaim := { program := "ytiejkgapifpchaa", sum := "6d3dca34cc473ebce6638a2a3013ab56627921d3dc7a40a01297df3336773181", func := "spinet/spinetlaw03.RootWithin", spec := "rootWithin", apart := false, narrowed := true }
def RootWithinUptoSaid : Prop := rootWithinUptoRow.holds Try.pinned (OpenSpec.upto rootWithinSpec)

end Rows
end Go.Proofs.Ytiejkgapifpchaa
