/-
  No cell of these rows narrows 'for every input' (looked for: loops, veiled, ifaces, maps, wideKeys, modest, calm, conditions, laid).
  DERIVED. THE GIVEN ROWS OF THIS SEAT. 4 by the template 'for every input the law returns true; each argument reads behind the call as it read before'; 0 by the template 'total and deterministic' (their statements: YtcobbiapgihefaaTotals.lean).
  GIVEN WITH THE SEED: the statements are not yours to turn. If you find one false, say at which input.
  Laid BY PROGRAM, IN A SANDBOX (cutbox-rows.mjs): the forced cells as the released guide's own fill.sh prints them over the translation 768b48699db59b3d… (all of the seat's roots in one cut). By AI agents, Wed Nov 11 2026. No macro, syntax, notation, axiom, sorry.
-/
import Derived.Test.YtcobbiapgihefaaChecked
import GoSem.Claim
import GoSem.ClaimJoined
import GoSem.ClaimMapViews
import Derived.JoinedTies
import Derived.KernelRfl
namespace Go.Proofs.Ytcobbiapgihefaa
/- THE CELL 'sum', in the pinned program and in every row, IS THE sha256 OF THE DUMP (.gsa) THAT YtcobbiapgihefaaProg.lean LOADS. Nothing in Lean hashes anything: it is a label: what it is worth is what the hold of that sum in a sandbox is worth. -/
noncomputable def Try.pinned : Pinned := { name := "ytcobbiapgihefaa", sum := "768b48699db59b3d8c32492c5ff2dde971549f4c05d15f9cf512a05d4b40f9dd", checked := Try.checked }
namespace Rows
def none {H : Type} : Left H := { results := [], args := [] }

/-- 'spinetlaw06.WriterRange': WHATEVER THE INPUT: true; the input reads as it did. -/
def writerRangeSpec : ChangeSpec := { name := "writerRange", fn := fun _ => fun
  | [d1, d2] => { results := [.lit (.bool true)], args := [d1, d2] }
  | _ => none }
def writerRangeRow : OpenClaim := { program := "ytcobbiapgihefaa", sum := "768b48699db59b3d8c32492c5ff2dde971549f4c05d15f9cf512a05d4b40f9dd", func := "spinet/spinetlaw06.WriterRange", spec := "writerRange", apart := false }
def WriterRangeSaid : Prop := writerRangeRow.holds Try.pinned (OpenSpec.ofChange writerRangeSpec)

/-- ITS FALSE NEIGHBOUR: 'it returns false'. Refute it at one input. -/
def writerRangeWrong : ChangeSpec := { name := "writerRange", fn := fun _ => fun
  | [d1, d2] => { results := [.lit (.bool false)], args := [d1, d2] }
  | _ => none }
def WriterRangeWrongFalsely : Prop := writerRangeRow.holds Try.pinned (OpenSpec.ofChange writerRangeWrong)

/-- 'spinetlaw06.WriterFits': WHATEVER THE INPUT: true; the input reads as it did. -/
def writerFitsSpec : ChangeSpec := { name := "writerFits", fn := fun _ => fun
  | [d1, d2, d3] => { results := [.lit (.bool true)], args := [d1, d2, d3] }
  | _ => none }
def writerFitsRow : OpenClaim := { program := "ytcobbiapgihefaa", sum := "768b48699db59b3d8c32492c5ff2dde971549f4c05d15f9cf512a05d4b40f9dd", func := "spinet/spinetlaw06.WriterFits", spec := "writerFits", apart := false }
def WriterFitsSaid : Prop := writerFitsRow.holds Try.pinned (OpenSpec.ofChange writerFitsSpec)

/-- ITS FALSE NEIGHBOUR: 'it returns false'. Refute it at one input. -/
def writerFitsWrong : ChangeSpec := { name := "writerFits", fn := fun _ => fun
  | [d1, d2, d3] => { results := [.lit (.bool false)], args := [d1, d2, d3] }
  | _ => none }
def WriterFitsWrongFalsely : Prop := writerFitsRow.holds Try.pinned (OpenSpec.ofChange writerFitsWrong)

/-- 'spinetlaw06.WriterPlays': WHATEVER THE INPUT: true; the input reads as it did. -/
def writerPlaysSpec : ChangeSpec := { name := "writerPlays", fn := fun _ => fun
  | [d1, d2] => { results := [.lit (.bool true)], args := [d1, d2] }
  | _ => none }
def writerPlaysRow : OpenClaim := { program := "ytcobbiapgihefaa", sum := "768b48699db59b3d8c32492c5ff2dde971549f4c05d15f9cf512a05d4b40f9dd", func := "spinet/spinetlaw06.WriterPlays", spec := "writerPlays", apart := false }
def WriterPlaysSaid : Prop := writerPlaysRow.holds Try.pinned (OpenSpec.ofChange writerPlaysSpec)

/-- ITS FALSE NEIGHBOUR: 'it returns false'. Refute it at one input. -/
def writerPlaysWrong : ChangeSpec := { name := "writerPlays", fn := fun _ => fun
  | [d1, d2] => { results := [.lit (.bool false)], args := [d1, d2] }
  | _ => none }
def WriterPlaysWrongFalsely : Prop := writerPlaysRow.holds Try.pinned (OpenSpec.ofChange writerPlaysWrong)

/-- 'spinetlaw06.WriterAgain': WHATEVER THE INPUT: true; the input reads as it did. -/
def writerAgainSpec : ChangeSpec := { name := "writerAgain", fn := fun _ => fun
  | [d1, d2, d3] => { results := [.lit (.bool true)], args := [d1, d2, d3] }
  | _ => none }
def writerAgainRow : OpenClaim := { program := "ytcobbiapgihefaa", sum := "768b48699db59b3d8c32492c5ff2dde971549f4c05d15f9cf512a05d4b40f9dd", func := "spinet/spinetlaw06.WriterAgain", spec := "writerAgain", unfollowed := true, recurses := true, apart := false }
def WriterAgainSaid : Prop := writerAgainRow.holds Try.pinned (OpenSpec.ofChange writerAgainSpec)

/-- ITS FALSE NEIGHBOUR: 'it returns false'. Refute it at one input. -/
def writerAgainWrong : ChangeSpec := { name := "writerAgain", fn := fun _ => fun
  | [d1, d2, d3] => { results := [.lit (.bool false)], args := [d1, d2, d3] }
  | _ => none }
def WriterAgainWrongFalsely : Prop := writerAgainRow.holds Try.pinned (OpenSpec.ofChange writerAgainWrong)

/- THE SECOND FORM. 'bulk': how many values and letters a reading holds, each counted each time it is reached (what is shared counts as often as it is met; a slice's spare places count too). A statement '..UptoSaid' is the law's where the arguments, and the package variables that the reading takes, are together of bulk at most 1048576: NARROWER than '..Said'. Prove '..Said' where nothing that the law and all that it calls make is longer than what came in: it says more and counts as full. Else prove '..UptoSaid'. A law counts once. -/
mutual
def uptoBulk {H : Type} : DataW H → Nat
  | .lit (.string bytes) => bytes.length + 1
  | .lit _ => 1
  | .nil => 1
  | .ptr d => uptoBulk d + 1
  | .slice elems spare => uptoBulkAll elems + uptoBulkAll spare + 1
  | .agg parts => uptoBulkAll parts + 1
  | .iface _ d => uptoBulk d + 1
  | .map entries => uptoBulkEntries entries + 1
  | .held _ => 1
def uptoBulkAll {H : Type} : List (DataW H) → Nat
  | [] => 0
  | d :: r => uptoBulk d + uptoBulkAll r
def uptoBulkEntries {H : Type} : List (Lit × DataW H) → Nat
  | [] => 0
  | x :: r => uptoBulkEntry x + uptoBulkEntries r
def uptoBulkEntry {H : Type} : Lit × DataW H → Nat
  | (.string bytes, d) => bytes.length + uptoBulk d + 1
  | (_, d) => uptoBulk d + 1
 end
def uptoSmall : (H : Type) → List (DataW H) → Bool := fun _ ds => decide (uptoBulkAll ds ≤ 1048576)
def OpenSpec.upto (s : _root_.Go.ChangeSpec) : _root_.Go.OpenSpec := { _root_.Go.OpenSpec.ofChange s with cond := some uptoSmall }

/-- 'spinetlaw06.WriterRange', WHERE WHAT IT READS IS OF BULK AT MOST 1048576: true; the input reads as it did. -/
def writerRangeUptoRow : OpenClaim := { program := "ytcobbiapgihefaa", sum := "768b48699db59b3d8c32492c5ff2dde971549f4c05d15f9cf512a05d4b40f9dd", func := "spinet/spinetlaw06.WriterRange", spec := "writerRange", apart := false, narrowed := true }
def WriterRangeUptoSaid : Prop := writerRangeUptoRow.holds Try.pinned (OpenSpec.upto writerRangeSpec)

/-- 'spinetlaw06.WriterFits', WHERE WHAT IT READS IS OF BULK AT MOST 1048576: true; the input reads as it did. -/
def writerFitsUptoRow : OpenClaim := { program := "ytcobbiapgihefaa", sum := "768b48699db59b3d8c32492c5ff2dde971549f4c05d15f9cf512a05d4b40f9dd", func := "spinet/spinetlaw06.WriterFits", spec := "writerFits", apart := false, narrowed := true }
def WriterFitsUptoSaid : Prop := writerFitsUptoRow.holds Try.pinned (OpenSpec.upto writerFitsSpec)

/-- 'spinetlaw06.WriterPlays', WHERE WHAT IT READS IS OF BULK AT MOST 1048576: true; the input reads as it did. -/
def writerPlaysUptoRow : OpenClaim := { program := "ytcobbiapgihefaa", sum := "768b48699db59b3d8c32492c5ff2dde971549f4c05d15f9cf512a05d4b40f9dd", func := "spinet/spinetlaw06.WriterPlays", spec := "writerPlays", apart := false, narrowed := true }
def WriterPlaysUptoSaid : Prop := writerPlaysUptoRow.holds Try.pinned (OpenSpec.upto writerPlaysSpec)

/-- 'spinetlaw06.WriterAgain', WHERE WHAT IT READS IS OF BULK AT MOST 1048576: true; the input reads as it did. -/
def writerAgainUptoRow : OpenClaim := { program := "ytcobbiapgihefaa", sum := "768b48699db59b3d8c32492c5ff2dde971549f4c05d15f9cf512a05d4b40f9dd", func := "spinet/spinetlaw06.WriterAgain", spec := "writerAgain", unfollowed := true, recurses := true, apart := false, narrowed := true }
def WriterAgainUptoSaid : Prop := writerAgainUptoRow.holds Try.pinned (OpenSpec.upto writerAgainSpec)

end Rows
end Go.Proofs.Ytcobbiapgihefaa
