/-
  No cell of these rows narrows 'for every input' (looked for: loops, veiled, ifaces, maps, wideKeys, modest, calm, conditions, laid).
  DERIVED. THE GIVEN ROWS OF THIS SEAT. 5 by the template 'for every input the law returns true; each argument reads behind the call as it read before'; 0 by the template 'total and deterministic' (their statements: YtcmkejlkcfhklaaTotals.lean).
  GIVEN WITH THE SEED: the statements are not yours to turn. If you find one false, say at which input.
  Laid BY PROGRAM, IN A SANDBOX (cutbox-rows.mjs): the forced cells as the released guide's own fill.sh prints them over the translation 64e7d16744978838… (all of the seat's roots in one cut). By AI agents, Wed Nov 11 2026. No macro, syntax, notation, axiom, sorry.
-/
import Derived.Test.YtcmkejlkcfhklaaChecked
import GoSem.Claim
import GoSem.ClaimJoined
import GoSem.ClaimMapViews
import Derived.JoinedTies
import Derived.KernelRfl
namespace Go.Proofs.Ytcmkejlkcfhklaa
/- THE CELL 'sum', in the pinned program and in every row, IS THE sha256 OF THE DUMP (.gsa) THAT YtcmkejlkcfhklaaProg.lean LOADS. Nothing in Lean hashes anything: it is a label: what it is worth is what the hold of that sum in a sandbox is worth. -/
noncomputable def Try.pinned : Pinned := { name := "ytcmkejlkcfhklaa", sum := "64e7d167449788381fd0aafbd89d0846ff69027a6ec292f8cd2f6dab012456fd", checked := Try.checked }
namespace Rows
def none {H : Type} : Left H := { results := [], args := [] }

/-- 'spinetlaw24.EmphTells': WHATEVER THE INPUT: true; the input reads as it did. -/
def emphTellsSpec : ChangeSpec := { name := "emphTells", fn := fun _ => fun
  | [d1, d2] => { results := [.lit (.bool true)], args := [d1, d2] }
  | _ => none }
def emphTellsRow : OpenClaim := { program := "ytcmkejlkcfhklaa", sum := "64e7d167449788381fd0aafbd89d0846ff69027a6ec292f8cd2f6dab012456fd", func := "spinet/spinetlaw24.EmphTells", spec := "emphTells", apart := false }
def EmphTellsSaid : Prop := emphTellsRow.holds Try.pinned (OpenSpec.ofChange emphTellsSpec)

/-- ITS FALSE NEIGHBOUR: 'it returns false'. Refute it at one input. -/
def emphTellsWrong : ChangeSpec := { name := "emphTells", fn := fun _ => fun
  | [d1, d2] => { results := [.lit (.bool false)], args := [d1, d2] }
  | _ => none }
def EmphTellsWrongFalsely : Prop := emphTellsRow.holds Try.pinned (OpenSpec.ofChange emphTellsWrong)

/-- 'spinetlaw24.EmphParts': WHATEVER THE INPUT: true; the input reads as it did. -/
def emphPartsSpec : ChangeSpec := { name := "emphParts", fn := fun _ => fun
  | [d1, d2, d3] => { results := [.lit (.bool true)], args := [d1, d2, d3] }
  | _ => none }
def emphPartsRow : OpenClaim := { program := "ytcmkejlkcfhklaa", sum := "64e7d167449788381fd0aafbd89d0846ff69027a6ec292f8cd2f6dab012456fd", func := "spinet/spinetlaw24.EmphParts", spec := "emphParts", apart := false }
def EmphPartsSaid : Prop := emphPartsRow.holds Try.pinned (OpenSpec.ofChange emphPartsSpec)

/-- ITS FALSE NEIGHBOUR: 'it returns false'. Refute it at one input. -/
def emphPartsWrong : ChangeSpec := { name := "emphParts", fn := fun _ => fun
  | [d1, d2, d3] => { results := [.lit (.bool false)], args := [d1, d2, d3] }
  | _ => none }
def EmphPartsWrongFalsely : Prop := emphPartsRow.holds Try.pinned (OpenSpec.ofChange emphPartsWrong)

/-- 'spinetlaw24.EmphBounds': WHATEVER THE INPUT: true; the input reads as it did. -/
def emphBoundsSpec : ChangeSpec := { name := "emphBounds", fn := fun _ => fun
  | [d1, d2, d3] => { results := [.lit (.bool true)], args := [d1, d2, d3] }
  | _ => none }
def emphBoundsRow : OpenClaim := { program := "ytcmkejlkcfhklaa", sum := "64e7d167449788381fd0aafbd89d0846ff69027a6ec292f8cd2f6dab012456fd", func := "spinet/spinetlaw24.EmphBounds", spec := "emphBounds", apart := false }
def EmphBoundsSaid : Prop := emphBoundsRow.holds Try.pinned (OpenSpec.ofChange emphBoundsSpec)

/-- ITS FALSE NEIGHBOUR: 'it returns false'. Refute it at one input. -/
def emphBoundsWrong : ChangeSpec := { name := "emphBounds", fn := fun _ => fun
  | [d1, d2, d3] => { results := [.lit (.bool false)], args := [d1, d2, d3] }
  | _ => none }
def EmphBoundsWrongFalsely : Prop := emphBoundsRow.holds Try.pinned (OpenSpec.ofChange emphBoundsWrong)

/-- 'spinetlaw24.EmphFades': WHATEVER THE INPUT: true; the input reads as it did. -/
def emphFadesSpec : ChangeSpec := { name := "emphFades", fn := fun _ => fun
  | [d1, d2] => { results := [.lit (.bool true)], args := [d1, d2] }
  | _ => none }
def emphFadesRow : OpenClaim := { program := "ytcmkejlkcfhklaa", sum := "64e7d167449788381fd0aafbd89d0846ff69027a6ec292f8cd2f6dab012456fd", func := "spinet/spinetlaw24.EmphFades", spec := "emphFades", apart := false }
def EmphFadesSaid : Prop := emphFadesRow.holds Try.pinned (OpenSpec.ofChange emphFadesSpec)

/-- ITS FALSE NEIGHBOUR: 'it returns false'. Refute it at one input. -/
def emphFadesWrong : ChangeSpec := { name := "emphFades", fn := fun _ => fun
  | [d1, d2] => { results := [.lit (.bool false)], args := [d1, d2] }
  | _ => none }
def EmphFadesWrongFalsely : Prop := emphFadesRow.holds Try.pinned (OpenSpec.ofChange emphFadesWrong)

/-- 'spinetlaw24.EmphWrites': WHATEVER THE INPUT: true; the input reads as it did. -/
def emphWritesSpec : ChangeSpec := { name := "emphWrites", fn := fun _ => fun
  | [d1, d2, d3] => { results := [.lit (.bool true)], args := [d1, d2, d3] }
  | _ => none }
def emphWritesRow : OpenClaim := { program := "ytcmkejlkcfhklaa", sum := "64e7d167449788381fd0aafbd89d0846ff69027a6ec292f8cd2f6dab012456fd", func := "spinet/spinetlaw24.EmphWrites", spec := "emphWrites", apart := false }
def EmphWritesSaid : Prop := emphWritesRow.holds Try.pinned (OpenSpec.ofChange emphWritesSpec)

/-- ITS FALSE NEIGHBOUR: 'it returns false'. Refute it at one input. -/
def emphWritesWrong : ChangeSpec := { name := "emphWrites", fn := fun _ => fun
  | [d1, d2, d3] => { results := [.lit (.bool false)], args := [d1, d2, d3] }
  | _ => none }
def EmphWritesWrongFalsely : Prop := emphWritesRow.holds Try.pinned (OpenSpec.ofChange emphWritesWrong)

/- THE SECOND FORM. 'bulk': how many values and letters a reading holds, each counted each time it is reached (what is shared counts as often as it is met; a slice's spare places count too). A statement '..UptoSaid' is the law's where the arguments, and the package variables that the reading takes, are together of bulk at most 1048576: NARROWER than '..Said'. Prove '..Said' where nothing that the law and all that it calls make is longer than what came in: it says more and counts as full. Else prove '..UptoSaid'. A law counts once. -/
mutual
def uptoBulk {H : Type} : DataW H → Nat
  | .lit (.string bytes) => bytes.length + 1
  | .lit _ => 1
  | .nil => 1
  | .ptr d => uptoBulk d + 1
  | .slice elems spare => uptoBulkAll elems + uptoBulkAll spare + 1
  | .agg parts => uptoBulkAll parts + 1
  | .iface _ d => uptoBulk d + 1
  | .map entries => uptoBulkEntries entries + 1
  | .held _ => 1
def uptoBulkAll {H : Type} : List (DataW H) → Nat
  | [] => 0
  | d :: r => uptoBulk d + uptoBulkAll r
def uptoBulkEntries {H : Type} : List (Lit × DataW H) → Nat
  | [] => 0
  | x :: r => uptoBulkEntry x + uptoBulkEntries r
def uptoBulkEntry {H : Type} : Lit × DataW H → Nat
  | (.string bytes, d) => bytes.length + uptoBulk d + 1
  | (_, d) => uptoBulk d + 1
 end
def uptoSmall : (H : Type) → List (DataW H) → Bool := fun _ ds => decide (uptoBulkAll ds ≤ 1048576)
def OpenSpec.upto (s : _root_.Go.ChangeSpec) : _root_.Go.OpenSpec := { _root_.Go.OpenSpec.ofChange s with cond := some uptoSmall }

/-- 'spinetlaw24.EmphTells', WHERE WHAT IT READS IS OF BULK AT MOST 1048576: true; the input reads as it did. -/
def emphTellsUptoRow : OpenClaim := { program := "ytcmkejlkcfhklaa", sum := "64e7d167449788381fd0aafbd89d0846ff69027a6ec292f8cd2f6dab012456fd", func := "spinet/spinetlaw24.EmphTells", spec := "emphTells", apart := false, narrowed := true }
def EmphTellsUptoSaid : Prop := emphTellsUptoRow.holds Try.pinned (OpenSpec.upto emphTellsSpec)

/-- 'spinetlaw24.EmphParts', WHERE WHAT IT READS IS OF BULK AT MOST 1048576: true; the input reads as it did. -/
def emphPartsUptoRow : OpenClaim := { program := "ytcmkejlkcfhklaa", sum := "64e7d167449788381fd0aafbd89d0846ff69027a6ec292f8cd2f6dab012456fd", func := "spinet/spinetlaw24.EmphParts", spec := "emphParts", apart := false, narrowed := true }
def EmphPartsUptoSaid : Prop := emphPartsUptoRow.holds Try.pinned (OpenSpec.upto emphPartsSpec)

/-- 'spinetlaw24.EmphBounds', WHERE WHAT IT READS IS OF BULK AT MOST 1048576: true; the input reads as it did. -/
def emphBoundsUptoRow : OpenClaim := { program := "ytcmkejlkcfhklaa", sum := "64e7d167449788381fd0aafbd89d0846ff69027a6ec292f8cd2f6dab012456fd", func := "spinet/spinetlaw24.EmphBounds", spec := "emphBounds", apart := false, narrowed := true }
def EmphBoundsUptoSaid : Prop := emphBoundsUptoRow.holds Try.pinned (OpenSpec.upto emphBoundsSpec)

/-- 'spinetlaw24.EmphFades', WHERE WHAT IT READS IS OF BULK AT MOST 1048576: true; the input reads as it did. -/
def emphFadesUptoRow : OpenClaim := { program := "ytcmkejlkcfhklaa", sum := "64e7d167449788381fd0aafbd89d0846ff69027a6ec292f8cd2f6dab012456fd", func := "spinet/spinetlaw24.EmphFades", spec := "emphFades", apart := false, narrowed := true }
def EmphFadesUptoSaid : Prop := emphFadesUptoRow.holds Try.pinned (OpenSpec.upto emphFadesSpec)

/-- 'spinetlaw24.EmphWrites', WHERE WHAT IT READS IS OF BULK AT MOST 1048576: true; the input reads as it did. -/
def emphWritesUptoRow : OpenClaim := { program := "ytcmkejlkcfhklaa", sum := "64e7d167449788381fd0aafbd89d0846ff69027a6ec292f8cd2f6dab012456fd", func := "spinet/spinetlaw24.EmphWrites", spec := "emphWrites", apart := false, narrowed := true }
def EmphWritesUptoSaid : Prop := emphWritesUptoRow.holds Try.pinned (OpenSpec.upto emphWritesSpec)

end Rows
end Go.Proofs.Ytcmkejlkcfhklaa
