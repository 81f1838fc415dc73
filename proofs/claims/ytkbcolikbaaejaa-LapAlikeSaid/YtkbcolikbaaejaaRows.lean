/-
  No cell of these rows narrows 'for every input' (looked for: loops, veiled, ifaces, maps, wideKeys, modest, calm, conditions, laid).
  DERIVED. THE GIVEN ROWS OF THIS SEAT. 4 by the template 'for every input the law returns true; each argument reads behind the call as it read before'; 0 by the template 'total and deterministic' (their statements: YtkbcolikbaaejaaTotals.lean).
  GIVEN WITH THE SEED: the statements are not yours to turn. If you find one false, say at which input.
  Laid BY PROGRAM, IN A SANDBOX (cutbox-rows.mjs): the forced cells as the released guide's own fill.sh prints them over the translation 45e498878960833e… (all of the seat's roots in one cut). By AI agents, Wed Nov 11 2026. No macro, syntax, notation, axiom, sorry.
-/
import Derived.Test.YtkbcolikbaaejaaChecked
import GoSem.Claim
import GoSem.ClaimJoined
import GoSem.ClaimMapViews
import Derived.JoinedTies
import Derived.KernelRfl
namespace Go.Proofs.Ytkbcolikbaaejaa
/- THE CELL 'sum', in the pinned program and in every row, IS THE sha256 OF THE DUMP (.gsa) THAT YtkbcolikbaaejaaProg.lean LOADS. Nothing in Lean hashes anything: it is a label: what it is worth is what the hold of that sum in a sandbox is worth. -/
noncomputable def Try.pinned : Pinned := { name := "ytkbcolikbaaejaa", sum := "45e498878960833e390a50cbb146364cf50a3daaef770dbf48c50089a1d42cc8", checked := Try.checked }
namespace Rows
def none {H : Type} : Left H := { results := [], args := [] }

/-- 'spinetlaw23.LapWindows': WHATEVER THE INPUT: true; the input reads as it did. -/
def lapWindowsSpec : ChangeSpec := { name := "lapWindows", fn := fun _ => fun
  | [d1, d2, d3] => { results := [.lit (.bool true)], args := [d1, d2, d3] }
  | _ => none }
def lapWindowsRow : OpenClaim := { program := "ytkbcolikbaaejaa", sum := "45e498878960833e390a50cbb146364cf50a3daaef770dbf48c50089a1d42cc8", func := "spinet/spinetlaw23.LapWindows", spec := "lapWindows", apart := false }
def LapWindowsSaid : Prop := lapWindowsRow.holds Try.pinned (OpenSpec.ofChange lapWindowsSpec)

/-- ITS FALSE NEIGHBOUR: 'it returns false'. Refute it at one input. -/
def lapWindowsWrong : ChangeSpec := { name := "lapWindows", fn := fun _ => fun
  | [d1, d2, d3] => { results := [.lit (.bool false)], args := [d1, d2, d3] }
  | _ => none }
def LapWindowsWrongFalsely : Prop := lapWindowsRow.holds Try.pinned (OpenSpec.ofChange lapWindowsWrong)

/-- 'spinetlaw23.LapBack': WHATEVER THE INPUT: true; the input reads as it did. -/
def lapBackSpec : ChangeSpec := { name := "lapBack", fn := fun _ => fun
  | [d1, d2, d3] => { results := [.lit (.bool true)], args := [d1, d2, d3] }
  | _ => none }
def lapBackRow : OpenClaim := { program := "ytkbcolikbaaejaa", sum := "45e498878960833e390a50cbb146364cf50a3daaef770dbf48c50089a1d42cc8", func := "spinet/spinetlaw23.LapBack", spec := "lapBack", apart := false }
def LapBackSaid : Prop := lapBackRow.holds Try.pinned (OpenSpec.ofChange lapBackSpec)

/-- ITS FALSE NEIGHBOUR: 'it returns false'. Refute it at one input. -/
def lapBackWrong : ChangeSpec := { name := "lapBack", fn := fun _ => fun
  | [d1, d2, d3] => { results := [.lit (.bool false)], args := [d1, d2, d3] }
  | _ => none }
def LapBackWrongFalsely : Prop := lapBackRow.holds Try.pinned (OpenSpec.ofChange lapBackWrong)

/-- 'spinetlaw23.LapTells': WHATEVER THE INPUT: true; the input reads as it did. -/
def lapTellsSpec : ChangeSpec := { name := "lapTells", fn := fun _ => fun
  | [d1, d2] => { results := [.lit (.bool true)], args := [d1, d2] }
  | _ => none }
def lapTellsRow : OpenClaim := { program := "ytkbcolikbaaejaa", sum := "45e498878960833e390a50cbb146364cf50a3daaef770dbf48c50089a1d42cc8", func := "spinet/spinetlaw23.LapTells", spec := "lapTells", apart := false }
def LapTellsSaid : Prop := lapTellsRow.holds Try.pinned (OpenSpec.ofChange lapTellsSpec)

/-- ITS FALSE NEIGHBOUR: 'it returns false'. Refute it at one input. -/
def lapTellsWrong : ChangeSpec := { name := "lapTells", fn := fun _ => fun
  | [d1, d2] => { results := [.lit (.bool false)], args := [d1, d2] }
  | _ => none }
def LapTellsWrongFalsely : Prop := lapTellsRow.holds Try.pinned (OpenSpec.ofChange lapTellsWrong)

/-- 'spinetlaw23.LapAlike': WHATEVER THE INPUT: true; the input reads as it did. -/
def lapAlikeSpec : ChangeSpec := { name := "lapAlike", fn := fun _ => fun
  | [d1, d2] => { results := [.lit (.bool true)], args := [d1, d2] }
  | _ => none }
def lapAlikeRow : OpenClaim := { program := "ytkbcolikbaaejaa", sum := "45e498878960833e390a50cbb146364cf50a3daaef770dbf48c50089a1d42cc8", func := "spinet/spinetlaw23.LapAlike", spec := "lapAlike", apart := false }
def LapAlikeSaid : Prop := lapAlikeRow.holds Try.pinned (OpenSpec.ofChange lapAlikeSpec)

/-- ITS FALSE NEIGHBOUR: 'it returns false'. Refute it at one input. -/
def lapAlikeWrong : ChangeSpec := { name := "lapAlike", fn := fun _ => fun
  | [d1, d2] => { results := [.lit (.bool false)], args := [d1, d2] }
  | _ => none }
def LapAlikeWrongFalsely : Prop := lapAlikeRow.holds Try.pinned (OpenSpec.ofChange lapAlikeWrong)

/- THE SECOND FORM. 'bulk': how many values and letters a reading holds, each counted each time it is reached (what is shared counts as often as it is met; a slice's spare places count too). A statement '..UptoSaid' is the law's where the arguments, and the package variables that the reading takes, are together of bulk at most 1048576: NARROWER than '..Said'. Prove '..Said' where nothing that the law and all that it calls make is longer than what came in: it says more and counts as full. Else prove '..UptoSaid'. A law counts once. -/
mutual
def uptoBulk {H : Type} : DataW H → Nat
  | .lit (.string bytes) => bytes.length + 1
  | .lit _ => 1
  | .nil => 1
  | .ptr d => uptoBulk d + 1
  | .slice elems spare => uptoBulkAll elems + uptoBulkAll spare + 1
  | .agg parts => uptoBulkAll parts + 1
  | .iface _ d => uptoBulk d + 1
  | .map entries => uptoBulkEntries entries + 1
  | .held _ => 1
def uptoBulkAll {H : Type} : List (DataW H) → Nat
  | [] => 0
  | d :: r => uptoBulk d + uptoBulkAll r
def uptoBulkEntries {H : Type} : List (Lit × DataW H) → Nat
  | [] => 0
  | x :: r => uptoBulkEntry x + uptoBulkEntries r
def uptoBulkEntry {H : Type} : Lit × DataW H → Nat
  | (.string bytes, d) => bytes.length + uptoBulk d + 1
  | (_, d) => uptoBulk d + 1
 end
def uptoSmall : (H : Type) → List (DataW H) → Bool := fun _ ds => decide (uptoBulkAll ds ≤ 1048576)
def OpenSpec.upto (s : _root_.Go.ChangeSpec) : _root_.Go.OpenSpec := { _root_.Go.OpenSpec.ofChange s with cond := some uptoSmall }

/-- 'spinetlaw23.LapWindows', WHERE WHAT IT READS IS OF BULK AT MOST 1048576: true; the input reads as it did. -/
def lapWindowsUptoRow : OpenClaim := { program := "ytkbcolikbaaejaa", sum := "45e498878960833e390a50cbb146364cf50a3daaef770dbf48c50089a1d42cc8", func := "spinet/spinetlaw23.LapWindows", spec := "lapWindows", apart := false, narrowed := true }
def LapWindowsUptoSaid : Prop := lapWindowsUptoRow.holds Try.pinned (OpenSpec.upto lapWindowsSpec)

/-- 'spinetlaw23.LapBack', WHERE WHAT IT READS IS OF BULK AT MOST 1048576: true; the input reads as it did. -/
def lapBackUptoRow : OpenClaim := { program := "ytkbcolikbaaejaa", sum := "45e498878960833e390a50cbb146364cf50a3daaef770dbf48c50089a1d42cc8", func := "spinet/spinetlaw23.LapBack", spec := "lapBack", apart := false, narrowed := true }
def LapBackUptoSaid : Prop := lapBackUptoRow.holds Try.pinned (OpenSpec.upto lapBackSpec)

/-- 'spinetlaw23.LapTells', WHERE WHAT IT READS IS OF BULK AT MOST 1048576: true; the input reads as it did. -/
def lapTellsUptoRow : OpenClaim := { program := "ytkbcolikbaaejaa", sum := "45e498878960833e390a50cbb146364cf50a3daaef770dbf48c50089a1d42cc8", func := "spinet/spinetlaw23.LapTells", spec := "lapTells", apart := false, narrowed := true }
def LapTellsUptoSaid : Prop := lapTellsUptoRow.holds Try.pinned (OpenSpec.upto lapTellsSpec)

/-- 'spinetlaw23.LapAlike', WHERE WHAT IT READS IS OF BULK AT MOST 1048576: true; the input reads as it did. -/
def lapAlikeUptoRow : OpenClaim := { program := "ytkbcolikbaaejaa", sum := "45e498878960833e390a50cbb146364cf50a3daaef770dbf48c50089a1d42cc8", func := "spinet/spinetlaw23.LapAlike", spec := "lapAlike", apart := false, narrowed := true }
def LapAlikeUptoSaid : Prop := lapAlikeUptoRow.holds Try.pinned (OpenSpec.upto lapAlikeSpec)

end Rows
end Go.Proofs.Ytkbcolikbaaejaa
