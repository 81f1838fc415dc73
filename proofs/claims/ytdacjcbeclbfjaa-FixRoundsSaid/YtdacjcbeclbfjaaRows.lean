/-
  No cell of these rows narrows 'for every input' (looked for: loops, veiled, ifaces, maps, wideKeys, modest, calm, conditions, laid).
  DERIVED. THE GIVEN ROWS OF THIS SEAT. 7 by the template 'for every input the law returns true; each argument reads behind the call as it read before'; 0 by the template 'total and deterministic' (their statements: YtdacjcbeclbfjaaTotals.lean).
  GIVEN WITH THE SEED: the statements are not yours to turn. If you find one false, say at which input.
  Laid BY PROGRAM, IN A SANDBOX (cutbox-rows.mjs): the forced cells as the released guide's own fill.sh prints them over the translation 3b5fbd9f013a084c… (all of the seat's roots in one cut). By AI agents, Wed Nov 11 2026. No macro, syntax, notation, axiom, sorry.
-/
import Derived.Test.YtdacjcbeclbfjaaChecked
import GoSem.Claim
import GoSem.ClaimJoined
import GoSem.ClaimMapViews
import Derived.JoinedTies
import Derived.KernelRfl
namespace Go.Proofs.Ytdacjcbeclbfjaa
/- THE CELL 'sum', in the pinned program and in every row, IS THE sha256 OF THE DUMP (.gsa) THAT YtdacjcbeclbfjaaProg.lean LOADS. Nothing in Lean hashes anything: it is a label: what it is worth is what the hold of that sum in a sandbox is worth. -/
noncomputable def Try.pinned : Pinned := { name := "ytdacjcbeclbfjaa", sum := "3b5fbd9f013a084c3dd232f4a2c9252b9e4c66bc2791568cec9e046652296d60", checked := Try.checked }
namespace Rows
def none {H : Type} : Left H := { results := [], args := [] }

/-- 'spinetlaw01.FixZigs': WHATEVER THE INPUT: true; the input reads as it did. -/
def fixZigsSpec : ChangeSpec := { name := "fixZigs", fn := fun _ => fun
  | [d1, d2] => { results := [.lit (.bool true)], args := [d1, d2] }
  | _ => none }
def fixZigsRow : OpenClaim := { program := "ytdacjcbeclbfjaa", sum := "3b5fbd9f013a084c3dd232f4a2c9252b9e4c66bc2791568cec9e046652296d60", func := "spinet/spinetlaw01.FixZigs", spec := "fixZigs", apart := false }
def FixZigsSaid : Prop := fixZigsRow.holds Try.pinned (OpenSpec.ofChange fixZigsSpec)

/-- ITS FALSE NEIGHBOUR: 'it returns false'. Refute it at one input. -/
def fixZigsWrong : ChangeSpec := { name := "fixZigs", fn := fun _ => fun
  | [d1, d2] => { results := [.lit (.bool false)], args := [d1, d2] }
  | _ => none }
def FixZigsWrongFalsely : Prop := fixZigsRow.holds Try.pinned (OpenSpec.ofChange fixZigsWrong)

/-- 'spinetlaw01.FixChance': WHATEVER THE INPUT: true; the input reads as it did. -/
def fixChanceSpec : ChangeSpec := { name := "fixChance", fn := fun _ => fun
  | [d1, d2] => { results := [.lit (.bool true)], args := [d1, d2] }
  | _ => none }
def fixChanceRow : OpenClaim := { program := "ytdacjcbeclbfjaa", sum := "3b5fbd9f013a084c3dd232f4a2c9252b9e4c66bc2791568cec9e046652296d60", func := "spinet/spinetlaw01.FixChance", spec := "fixChance", apart := false }
def FixChanceSaid : Prop := fixChanceRow.holds Try.pinned (OpenSpec.ofChange fixChanceSpec)

/-- ITS FALSE NEIGHBOUR: 'it returns false'. Refute it at one input. -/
def fixChanceWrong : ChangeSpec := { name := "fixChance", fn := fun _ => fun
  | [d1, d2] => { results := [.lit (.bool false)], args := [d1, d2] }
  | _ => none }
def FixChanceWrongFalsely : Prop := fixChanceRow.holds Try.pinned (OpenSpec.ofChange fixChanceWrong)

/-- 'spinetlaw01.FixRounds': WHATEVER THE INPUT: true; the input reads as it did. -/
def fixRoundsSpec : ChangeSpec := { name := "fixRounds", fn := fun _ => fun
  | [d1, d2, d3] => { results := [.lit (.bool true)], args := [d1, d2, d3] }
  | _ => none }
def fixRoundsRow : OpenClaim := { program := "ytdacjcbeclbfjaa", sum := "3b5fbd9f013a084c3dd232f4a2c9252b9e4c66bc2791568cec9e046652296d60", func := "spinet/spinetlaw01.FixRounds", spec := "fixRounds", apart := false }
def FixRoundsSaid : Prop := fixRoundsRow.holds Try.pinned (OpenSpec.ofChange fixRoundsSpec)

/-- ITS FALSE NEIGHBOUR: 'it returns false'. Refute it at one input. -/
def fixRoundsWrong : ChangeSpec := { name := "fixRounds", fn := fun _ => fun
  | [d1, d2, d3] => { results := [.lit (.bool false)], args := [d1, d2, d3] }
  | _ => none }
def FixRoundsWrongFalsely : Prop := fixRoundsRow.holds Try.pinned (OpenSpec.ofChange fixRoundsWrong)

/-- 'spinetlaw01.FixNear': WHATEVER THE INPUT: true; the input reads as it did. -/
def fixNearSpec : ChangeSpec := { name := "fixNear", fn := fun _ => fun
  | [d1, d2, d3] => { results := [.lit (.bool true)], args := [d1, d2, d3] }
  | _ => none }
def fixNearRow : OpenClaim := { program := "ytdacjcbeclbfjaa", sum := "3b5fbd9f013a084c3dd232f4a2c9252b9e4c66bc2791568cec9e046652296d60", func := "spinet/spinetlaw01.FixNear", spec := "fixNear", apart := false }
def FixNearSaid : Prop := fixNearRow.holds Try.pinned (OpenSpec.ofChange fixNearSpec)

/-- ITS FALSE NEIGHBOUR: 'it returns false'. Refute it at one input. -/
def fixNearWrong : ChangeSpec := { name := "fixNear", fn := fun _ => fun
  | [d1, d2, d3] => { results := [.lit (.bool false)], args := [d1, d2, d3] }
  | _ => none }
def FixNearWrongFalsely : Prop := fixNearRow.holds Try.pinned (OpenSpec.ofChange fixNearWrong)

/-- 'spinetlaw01.FixSats': WHATEVER THE INPUT: true; the input reads as it did. -/
def fixSatsSpec : ChangeSpec := { name := "fixSats", fn := fun _ => fun
  | [d1, d2] => { results := [.lit (.bool true)], args := [d1, d2] }
  | _ => none }
def fixSatsRow : OpenClaim := { program := "ytdacjcbeclbfjaa", sum := "3b5fbd9f013a084c3dd232f4a2c9252b9e4c66bc2791568cec9e046652296d60", func := "spinet/spinetlaw01.FixSats", spec := "fixSats", apart := false }
def FixSatsSaid : Prop := fixSatsRow.holds Try.pinned (OpenSpec.ofChange fixSatsSpec)

/-- ITS FALSE NEIGHBOUR: 'it returns false'. Refute it at one input. -/
def fixSatsWrong : ChangeSpec := { name := "fixSats", fn := fun _ => fun
  | [d1, d2] => { results := [.lit (.bool false)], args := [d1, d2] }
  | _ => none }
def FixSatsWrongFalsely : Prop := fixSatsRow.holds Try.pinned (OpenSpec.ofChange fixSatsWrong)

/-- 'spinetlaw01.FixBits': WHATEVER THE INPUT: true; the input reads as it did. -/
def fixBitsSpec : ChangeSpec := { name := "fixBits", fn := fun _ => fun
  | [d1, d2] => { results := [.lit (.bool true)], args := [d1, d2] }
  | _ => none }
def fixBitsRow : OpenClaim := { program := "ytdacjcbeclbfjaa", sum := "3b5fbd9f013a084c3dd232f4a2c9252b9e4c66bc2791568cec9e046652296d60", func := "spinet/spinetlaw01.FixBits", spec := "fixBits", apart := false }
def FixBitsSaid : Prop := fixBitsRow.holds Try.pinned (OpenSpec.ofChange fixBitsSpec)

/-- ITS FALSE NEIGHBOUR: 'it returns false'. Refute it at one input. -/
def fixBitsWrong : ChangeSpec := { name := "fixBits", fn := fun _ => fun
  | [d1, d2] => { results := [.lit (.bool false)], args := [d1, d2] }
  | _ => none }
def FixBitsWrongFalsely : Prop := fixBitsRow.holds Try.pinned (OpenSpec.ofChange fixBitsWrong)

/-- 'spinetlaw01.FixTwice': WHATEVER THE INPUT: true; the input reads as it did. -/
def fixTwiceSpec : ChangeSpec := { name := "fixTwice", fn := fun _ => fun
  | [d1, d2] => { results := [.lit (.bool true)], args := [d1, d2] }
  | _ => none }
def fixTwiceRow : OpenClaim := { program := "ytdacjcbeclbfjaa", sum := "3b5fbd9f013a084c3dd232f4a2c9252b9e4c66bc2791568cec9e046652296d60", func := "spinet/spinetlaw01.FixTwice", spec := "fixTwice", apart := false }
def FixTwiceSaid : Prop := fixTwiceRow.holds Try.pinned (OpenSpec.ofChange fixTwiceSpec)

/-- ITS FALSE NEIGHBOUR: 'it returns false'. Refute it at one input. -/
def fixTwiceWrong : ChangeSpec := { name := "fixTwice", fn := fun _ => fun
  | [d1, d2] => { results := [.lit (.bool false)], args := [d1, d2] }
  | _ => none }
def FixTwiceWrongFalsely : Prop := fixTwiceRow.holds Try.pinned (OpenSpec.ofChange fixTwiceWrong)

/- THE SECOND FORM. 'bulk': how many values and letters a reading holds, each counted each time it is reached (what is shared counts as often as it is met; a slice's spare places count too). A statement '..UptoSaid' is the law's where the arguments, and the package variables that the reading takes, are together of bulk at most 1048576: NARROWER than '..Said'. Prove '..Said' where nothing that the law and all that it calls make is longer than what came in: it says more and counts as full. Else prove '..UptoSaid'. A law counts once. -/
mutual
def uptoBulk {H : Type} : DataW H → Nat
  | .lit (.string bytes) => bytes.length + 1
  | .lit _ => 1
  | .nil => 1
  | .ptr d => uptoBulk d + 1
  | .slice elems spare => uptoBulkAll elems + uptoBulkAll spare + 1
  | .agg parts => uptoBulkAll parts + 1
  | .iface _ d => uptoBulk d + 1
  | .map entries => uptoBulkEntries entries + 1
  | .held _ => 1
def uptoBulkAll {H : Type} : List (DataW H) → Nat
  | [] => 0
  | d :: r => uptoBulk d + uptoBulkAll r
def uptoBulkEntries {H : Type} : List (Lit × DataW H) → Nat
  | [] => 0
  | x :: r => uptoBulkEntry x + uptoBulkEntries r
def uptoBulkEntry {H : Type} : Lit × DataW H → Nat
  | (.string bytes, d) => bytes.length + uptoBulk d + 1
  | (_, d) => uptoBulk d + 1
 end
def uptoSmall : (H : Type) → List (DataW H) → Bool := fun _ ds => decide (uptoBulkAll ds ≤ 1048576)
def OpenSpec.upto (s : _root_.Go.ChangeSpec) : _root_.Go.OpenSpec := { _root_.Go.OpenSpec.ofChange s with cond := some uptoSmall }

/-- 'spinetlaw01.FixZigs', WHERE WHAT IT READS IS OF BULK AT MOST 1048576: true; the input reads as it did. -/
def fixZigsUptoRow : OpenClaim := { program := "ytdacjcbeclbfjaa", sum := "3b5fbd9f013a084c3dd232f4a2c9252b9e4c66bc2791568cec9e046652296d60", func := "spinet/spinetlaw01.FixZigs", spec := "fixZigs", apart := false, narrowed := true }
def FixZigsUptoSaid : Prop := fixZigsUptoRow.holds Try.pinned (OpenSpec.upto fixZigsSpec)

/-- 'spinetlaw01.FixChance', WHERE WHAT IT READS IS OF BULK AT MOST 1048576: true; the input reads as it did. -/
def fixChanceUptoRow : OpenClaim := { program := "ytdacjcbeclbfjaa", sum := "3b5fbd9f013a084c3dd232f4a2c9252b9e4c66bc2791568cec9e046652296d60", func := "spinet/spinetlaw01.FixChance", spec := "fixChance", apart := false, narrowed := true }
def FixChanceUptoSaid : Prop := fixChanceUptoRow.holds Try.pinned (OpenSpec.upto fixChanceSpec)

/-- 'spinetlaw01.FixRounds', WHERE WHAT IT READS IS OF BULK AT MOST 1048576: true; the input reads as it did. -/
def fixRoundsUptoRow : OpenClaim := { program := "ytdacjcbeclbfjaa", sum := "3b5fbd9f013a084c3dd232f4a2c9252b9e4c66bc2791568cec9e046652296d60", func := "spinet/spinetlaw01.FixRounds", spec := "fixRounds", apart := false, narrowed := true }
def FixRoundsUptoSaid : Prop := fixRoundsUptoRow.holds Try.pinned (OpenSpec.upto fixRoundsSpec)

/-- 'spinetlaw01.FixNear', WHERE WHAT IT READS IS OF BULK AT MOST 1048576: true; the input reads as it did. -/
def fixNearUptoRow : OpenClaim := { program := "ytdacjcbeclbfjaa", sum := "3b5fbd9f013a084c3dd232f4a2c9252b9e4c66bc2791568cec9e046652296d60", func := "spinet/spinetlaw01.FixNear", spec := "fixNear", apart := false, narrowed := true }
def FixNearUptoSaid : Prop := fixNearUptoRow.holds Try.pinned (OpenSpec.upto fixNearSpec)

/-- 'spinetlaw01.FixSats', WHERE WHAT IT READS IS OF BULK AT MOST 1048576: true; the input reads as it did. -/
def fixSatsUptoRow : OpenClaim := { program := "ytdacjcbeclbfjaa", sum := "3b5fbd9f013a084c3dd232f4a2c9252b9e4c66bc2791568cec9e046652296d60", func := "spinet/spinetlaw01.FixSats", spec := "fixSats", apart := false, narrowed := true }
def FixSatsUptoSaid : Prop := fixSatsUptoRow.holds Try.pinned (OpenSpec.upto fixSatsSpec)

/-- 'spinetlaw01.FixBits', WHERE WHAT IT READS IS OF BULK AT MOST 1048576: true; the input reads as it did. -/
def fixBitsUptoRow : OpenClaim := { program := "ytdacjcbeclbfjaa", sum := "3b5fbd9f013a084c3dd232f4a2c9252b9e4c66bc2791568cec9e046652296d60", func := "spinet/spinetlaw01.FixBits", spec := "fixBits", apart := false, narrowed := true }
def FixBitsUptoSaid : Prop := fixBitsUptoRow.holds Try.pinned (OpenSpec.upto fixBitsSpec)

/-- 'spinetlaw01.FixTwice', WHERE WHAT IT READS IS OF BULK AT MOST 1048576: true; the input reads as it did. -/
def fixTwiceUptoRow : OpenClaim := { program := "ytdacjcbeclbfjaa", sum := "3b5fbd9f013a084c3dd232f4a2c9252b9e4c66bc2791568cec9e046652296d60", func := "spinet/spinetlaw01.FixTwice", spec := "fixTwice", apart := false, narrowed := true }
def FixTwiceUptoSaid : Prop := fixTwiceUptoRow.holds Try.pinned (OpenSpec.upto fixTwiceSpec)

end Rows
end Go.Proofs.Ytdacjcbeclbfjaa
