/-
  NARROWER THAN 'FOR EVERY INPUT', by the rows' own cells (each row's printed sentence says how): SwiftPlays: laid · SwiftResets: laid · SwiftOwn: laid · SwiftAlike: laid · SwiftBack: laid.
  DERIVED. THE GIVEN ROWS OF THIS SEAT. 5 by the template 'for every input the law returns true; each argument reads behind the call as it read before'; 0 by the template 'total and deterministic' (their statements: YtdfgoahfaebooaaDoorTotals.lean).
  GIVEN WITH THE SEED: the statements are not yours to turn. If you find one false, say at which input.
  Laid BY PROGRAM, IN A SANDBOX (cutbox-rows.mjs): the forced cells as the released guide's own fill.sh prints them over the translation e5ccae7ca4c71778… (all of the seat's roots in one cut). By AI agents, Wed Nov 11 2026. No macro, syntax, notation, axiom, sorry.
-/
import Derived.Test.YtdfgoahfaebooaaDoorChecked
import GoSem.Claim
import GoSem.ClaimJoined
import GoSem.ClaimMapViews
import Derived.JoinedTies
import Derived.KernelRfl
namespace Go.Proofs.YtdfgoahfaebooaaDoor
/- THE CELL 'sum', in the pinned program and in every row, IS THE sha256 OF THE DUMP (.gsa) THAT YtdfgoahfaebooaaDoorProg.lean LOADS. Nothing in Lean hashes anything: it is a label: what it is worth is what the hold of that sum in a sandbox is worth. -/
noncomputable def Tryd.pinned : Pinned := { name := "ytdfgoahfaebooaadoor", sum := "e5ccae7ca4c7177868bf86301dd0475b11ed0afd81be4b974f09d0af8dfb4309", checked := Tryd.checked }
namespace Rows
def none {H : Type} : Left H := { results := [], args := [] }

/- WHAT THE LISTED PACKAGE-LEVEL VARIABLES READ AS WHEN THE CALL BEGINS. Each datum BY PROGRAM (the guide's laid-datum.mjs) off the statement by which the dump's own 'gosem.cut.vars' lays the variable. In a bare row this is a premise. The card (YtdfgoahfaebooaaDoorCards.lean) ties it to the program's text. -/
def laid_math_bits_deBruijn32tab {H : Type} : DataW H := .agg [.lit (.int .u8 0), .lit (.int .u8 1), .lit (.int .u8 28), .lit (.int .u8 2), .lit (.int .u8 29), .lit (.int .u8 14), .lit (.int .u8 24), .lit (.int .u8 3), .lit (.int .u8 30), .lit (.int .u8 22), .lit (.int .u8 20), .lit (.int .u8 15), .lit (.int .u8 25), .lit (.int .u8 17), .lit (.int .u8 4), .lit (.int .u8 8), .lit (.int .u8 31), .lit (.int .u8 27), .lit (.int .u8 13), .lit (.int .u8 23), .lit (.int .u8 21), .lit (.int .u8 19), .lit (.int .u8 16), .lit (.int .u8 7), .lit (.int .u8 26), .lit (.int .u8 12), .lit (.int .u8 18), .lit (.int .u8 6), .lit (.int .u8 11), .lit (.int .u8 5), .lit (.int .u8 10), .lit (.int .u8 9)]

/-- 'spinetlaw08.SwiftPlays': WHATEVER THE INPUT: true; the input reads as it did. -/
def swiftPlaysSpec : ChangeSpec := { name := "swiftPlays", fn := fun _ => fun
  | [d1, d2] => { results := [.lit (.bool true)], args := [d1, d2] }
  | _ => none }
def swiftPlaysRow : OpenClaim := { program := "ytdfgoahfaebooaadoor", sum := "e5ccae7ca4c7177868bf86301dd0475b11ed0afd81be4b974f09d0af8dfb4309", func := "spinet/spinetlaw08.SwiftPlays", spec := "swiftPlays", named := ["math/bits.deBruijn32tab"], apart := false, laid := [("math/bits.deBruijn32tab", laid_math_bits_deBruijn32tab)] }
def SwiftPlaysSaid : Prop := swiftPlaysRow.holds Tryd.pinned (OpenSpec.ofChange swiftPlaysSpec)

/-- ITS FALSE NEIGHBOUR: 'it returns false'. Refute it at one input. -/
def swiftPlaysWrong : ChangeSpec := { name := "swiftPlays", fn := fun _ => fun
  | [d1, d2] => { results := [.lit (.bool false)], args := [d1, d2] }
  | _ => none }
def SwiftPlaysWrongFalsely : Prop := swiftPlaysRow.holds Tryd.pinned (OpenSpec.ofChange swiftPlaysWrong)

/-- 'spinetlaw08.SwiftResets': WHATEVER THE INPUT: true; the input reads as it did. -/
def swiftResetsSpec : ChangeSpec := { name := "swiftResets", fn := fun _ => fun
  | [d1, d2, d3] => { results := [.lit (.bool true)], args := [d1, d2, d3] }
  | _ => none }
def swiftResetsRow : OpenClaim := { program := "ytdfgoahfaebooaadoor", sum := "e5ccae7ca4c7177868bf86301dd0475b11ed0afd81be4b974f09d0af8dfb4309", func := "spinet/spinetlaw08.SwiftResets", spec := "swiftResets", named := ["math/bits.deBruijn32tab"], apart := false, laid := [("math/bits.deBruijn32tab", laid_math_bits_deBruijn32tab)] }
def SwiftResetsSaid : Prop := swiftResetsRow.holds Tryd.pinned (OpenSpec.ofChange swiftResetsSpec)

/-- ITS FALSE NEIGHBOUR: 'it returns false'. Refute it at one input. -/
def swiftResetsWrong : ChangeSpec := { name := "swiftResets", fn := fun _ => fun
  | [d1, d2, d3] => { results := [.lit (.bool false)], args := [d1, d2, d3] }
  | _ => none }
def SwiftResetsWrongFalsely : Prop := swiftResetsRow.holds Tryd.pinned (OpenSpec.ofChange swiftResetsWrong)

/-- 'spinetlaw08.SwiftOwn': WHATEVER THE INPUT: true; the input reads as it did. -/
def swiftOwnSpec : ChangeSpec := { name := "swiftOwn", fn := fun _ => fun
  | [d1, d2] => { results := [.lit (.bool true)], args := [d1, d2] }
  | _ => none }
def swiftOwnRow : OpenClaim := { program := "ytdfgoahfaebooaadoor", sum := "e5ccae7ca4c7177868bf86301dd0475b11ed0afd81be4b974f09d0af8dfb4309", func := "spinet/spinetlaw08.SwiftOwn", spec := "swiftOwn", named := ["math/bits.deBruijn32tab"], apart := false, laid := [("math/bits.deBruijn32tab", laid_math_bits_deBruijn32tab)] }
def SwiftOwnSaid : Prop := swiftOwnRow.holds Tryd.pinned (OpenSpec.ofChange swiftOwnSpec)

/-- ITS FALSE NEIGHBOUR: 'it returns false'. Refute it at one input. -/
def swiftOwnWrong : ChangeSpec := { name := "swiftOwn", fn := fun _ => fun
  | [d1, d2] => { results := [.lit (.bool false)], args := [d1, d2] }
  | _ => none }
def SwiftOwnWrongFalsely : Prop := swiftOwnRow.holds Tryd.pinned (OpenSpec.ofChange swiftOwnWrong)

/-- 'spinetlaw08.SwiftAlike': WHATEVER THE INPUT: true; the input reads as it did. -/
def swiftAlikeSpec : ChangeSpec := { name := "swiftAlike", fn := fun _ => fun
  | [d1, d2] => { results := [.lit (.bool true)], args := [d1, d2] }
  | _ => none }
def swiftAlikeRow : OpenClaim := { program := "ytdfgoahfaebooaadoor", sum := "e5ccae7ca4c7177868bf86301dd0475b11ed0afd81be4b974f09d0af8dfb4309", func := "spinet/spinetlaw08.SwiftAlike", spec := "swiftAlike", named := ["math/bits.deBruijn32tab"], apart := false, laid := [("math/bits.deBruijn32tab", laid_math_bits_deBruijn32tab)] }
def SwiftAlikeSaid : Prop := swiftAlikeRow.holds Tryd.pinned (OpenSpec.ofChange swiftAlikeSpec)

/-- ITS FALSE NEIGHBOUR: 'it returns false'. Refute it at one input. -/
def swiftAlikeWrong : ChangeSpec := { name := "swiftAlike", fn := fun _ => fun
  | [d1, d2] => { results := [.lit (.bool false)], args := [d1, d2] }
  | _ => none }
def SwiftAlikeWrongFalsely : Prop := swiftAlikeRow.holds Tryd.pinned (OpenSpec.ofChange swiftAlikeWrong)

/-- 'spinetlaw08.SwiftBack': WHATEVER THE INPUT: true; the input reads as it did. -/
def swiftBackSpec : ChangeSpec := { name := "swiftBack", fn := fun _ => fun
  | [d1, d2] => { results := [.lit (.bool true)], args := [d1, d2] }
  | _ => none }
def swiftBackRow : OpenClaim := { program := "ytdfgoahfaebooaadoor", sum := "e5ccae7ca4c7177868bf86301dd0475b11ed0afd81be4b974f09d0af8dfb4309", func := "spinet/spinetlaw08.SwiftBack", spec := "swiftBack", named := ["math/bits.deBruijn32tab"], apart := false, laid := [("math/bits.deBruijn32tab", laid_math_bits_deBruijn32tab)] }
def SwiftBackSaid : Prop := swiftBackRow.holds Tryd.pinned (OpenSpec.ofChange swiftBackSpec)

/-- ITS FALSE NEIGHBOUR: 'it returns false'. Refute it at one input. -/
def swiftBackWrong : ChangeSpec := { name := "swiftBack", fn := fun _ => fun
  | [d1, d2] => { results := [.lit (.bool false)], args := [d1, d2] }
  | _ => none }
def SwiftBackWrongFalsely : Prop := swiftBackRow.holds Tryd.pinned (OpenSpec.ofChange swiftBackWrong)

/- THE SECOND FORM. 'bulk': how many values and letters a reading holds, each counted each time it is reached (what is shared counts as often as it is met; a slice's spare places count too). A statement '..UptoSaid' is the law's where the arguments, and the package variables that the reading takes, are together of bulk at most 1048576: NARROWER than '..Said'. Prove '..Said' where nothing that the law and all that it calls make is longer than what came in: it says more and counts as full. Else prove '..UptoSaid'. A law counts once. -/
mutual
def uptoBulk {H : Type} : DataW H → Nat
  | .lit (.string bytes) => bytes.length + 1
  | .lit _ => 1
  | .nil => 1
  | .ptr d => uptoBulk d + 1
  | .slice elems spare => uptoBulkAll elems + uptoBulkAll spare + 1
  | .agg parts => uptoBulkAll parts + 1
  | .iface _ d => uptoBulk d + 1
  | .map entries => uptoBulkEntries entries + 1
  | .held _ => 1
def uptoBulkAll {H : Type} : List (DataW H) → Nat
  | [] => 0
  | d :: r => uptoBulk d + uptoBulkAll r
def uptoBulkEntries {H : Type} : List (Lit × DataW H) → Nat
  | [] => 0
  | x :: r => uptoBulkEntry x + uptoBulkEntries r
def uptoBulkEntry {H : Type} : Lit × DataW H → Nat
  | (.string bytes, d) => bytes.length + uptoBulk d + 1
  | (_, d) => uptoBulk d + 1
 end
def uptoSmall : (H : Type) → List (DataW H) → Bool := fun _ ds => decide (uptoBulkAll ds ≤ 1048576)
def OpenSpec.upto (s : _root_.Go.ChangeSpec) : _root_.Go.OpenSpec := { _root_.Go.OpenSpec.ofChange s with cond := some uptoSmall }

/-- 'spinetlaw08.SwiftPlays', WHERE WHAT IT READS IS OF BULK AT MOST 1048576: true; the input reads as it did. -/
def swiftPlaysUptoRow : OpenClaim := { program := "ytdfgoahfaebooaadoor", sum := "e5ccae7ca4c7177868bf86301dd0475b11ed0afd81be4b974f09d0af8dfb4309", func := "spinet/spinetlaw08.SwiftPlays", spec := "swiftPlays", named := ["math/bits.deBruijn32tab"], apart := false, laid := [("math/bits.deBruijn32tab", laid_math_bits_deBruijn32tab)], narrowed := true }
def SwiftPlaysUptoSaid : Prop := swiftPlaysUptoRow.holds Tryd.pinned (OpenSpec.upto swiftPlaysSpec)

/-- 'spinetlaw08.SwiftResets', WHERE WHAT IT READS IS OF BULK AT MOST 1048576: true; the input reads as it did. -/
def swiftResetsUptoRow : OpenClaim := { program := "ytdfgoahfaebooaadoor", sum := "e5ccae7ca4c7177868bf86301dd0475b11ed0afd81be4b974f09d0af8dfb4309", func := "spinet/spinetlaw08.SwiftResets", spec := "swiftResets", named := ["math/bits.deBruijn32tab"], apart := false, laid := [("math/bits.deBruijn32tab", laid_math_bits_deBruijn32tab)], narrowed := true }
def SwiftResetsUptoSaid : Prop := swiftResetsUptoRow.holds Tryd.pinned (OpenSpec.upto swiftResetsSpec)

/-- 'spinetlaw08.SwiftOwn', WHERE WHAT IT READS IS OF BULK AT MOST 1048576: true; the input reads as it did. -/
def swiftOwnUptoRow : OpenClaim := { program := "ytdfgoahfaebooaadoor", sum := "e5ccae7ca4c7177868bf86301dd0475b11ed0afd81be4b974f09d0af8dfb4309", func := "spinet/spinetlaw08.SwiftOwn", spec := "swiftOwn", named := ["math/bits.deBruijn32tab"], apart := false, laid := [("math/bits.deBruijn32tab", laid_math_bits_deBruijn32tab)], narrowed := true }
def SwiftOwnUptoSaid : Prop := swiftOwnUptoRow.holds Tryd.pinned (OpenSpec.upto swiftOwnSpec)

/-- 'spinetlaw08.SwiftAlike', WHERE WHAT IT READS IS OF BULK AT MOST 1048576: true; the input reads as it did. -/
def swiftAlikeUptoRow : OpenClaim := { program := "ytdfgoahfaebooaadoor", sum := "e5ccae7ca4c7177868bf86301dd0475b11ed0afd81be4b974f09d0af8dfb4309", func := "spinet/spinetlaw08.SwiftAlike", spec := "swiftAlike", named := ["math/bits.deBruijn32tab"], apart := false, laid := [("math/bits.deBruijn32tab", laid_math_bits_deBruijn32tab)], narrowed := true }
def SwiftAlikeUptoSaid : Prop := swiftAlikeUptoRow.holds Tryd.pinned (OpenSpec.upto swiftAlikeSpec)

/-- 'spinetlaw08.SwiftBack', WHERE WHAT IT READS IS OF BULK AT MOST 1048576: true; the input reads as it did. -/
def swiftBackUptoRow : OpenClaim := { program := "ytdfgoahfaebooaadoor", sum := "e5ccae7ca4c7177868bf86301dd0475b11ed0afd81be4b974f09d0af8dfb4309", func := "spinet/spinetlaw08.SwiftBack", spec := "swiftBack", named := ["math/bits.deBruijn32tab"], apart := false, laid := [("math/bits.deBruijn32tab", laid_math_bits_deBruijn32tab)], narrowed := true }
def SwiftBackUptoSaid : Prop := swiftBackUptoRow.holds Tryd.pinned (OpenSpec.upto swiftBackSpec)

end Rows
end Go.Proofs.YtdfgoahfaebooaaDoor
