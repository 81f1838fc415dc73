/-
  NARROWER THAN 'FOR EVERY INPUT', by the rows' own cells (each row's printed sentence says how): SpreadTells: laid · SpreadZero: laid · SpreadOwn: laid · SpreadLength: laid.
  DERIVED. THE GIVEN ROWS OF THIS SEAT. 4 by the template 'for every input the law returns true; each argument reads behind the call as it read before'; 0 by the template 'total and deterministic' (their statements: YtgjanpbpggblmaaDoorTotals.lean).
  GIVEN WITH THE SEED: the statements are not yours to turn. If you find one false, say at which input.
  Laid BY PROGRAM, IN A SANDBOX (cutbox-rows.mjs): the forced cells as the released guide's own fill.sh prints them over the translation e6a8834346614312… (all of the seat's roots in one cut). By AI agents, Wed Nov 11 2026. No macro, syntax, notation, axiom, sorry.
-/
import Derived.Test.YtgjanpbpggblmaaDoorChecked
import GoSem.Claim
import GoSem.ClaimJoined
import GoSem.ClaimMapViews
import Derived.JoinedTies
import Derived.KernelRfl
namespace Go.Proofs.YtgjanpbpggblmaaDoor
/- THE CELL 'sum', in the pinned program and in every row, IS THE sha256 OF THE DUMP (.gsa) THAT YtgjanpbpggblmaaDoorProg.lean LOADS. Nothing in Lean hashes anything: it is a label: what it is worth is what the hold of that sum in a sandbox is worth. -/
noncomputable def Tryd.pinned : Pinned := { name := "ytgjanpbpggblmaadoor", sum := "e6a8834346614312658084df72331a25cf16c271b131bc0c5cf15c53121eaff2", checked := Tryd.checked }
namespace Rows
def none {H : Type} : Left H := { results := [], args := [] }

/- WHAT THE LISTED PACKAGE-LEVEL VARIABLES READ AS WHEN THE CALL BEGINS. Each datum BY PROGRAM (the guide's laid-datum.mjs) off the statement by which the dump's own 'gosem.cut.vars' lays the variable. In a bare row this is a premise. The card (YtgjanpbpggblmaaDoorCards.lean) ties it to the program's text. -/
def laid_spinet_spread_angles {H : Type} : DataW H := .agg [.agg [.lit (.int .i64 32768), .lit (.int .i64 0)], .agg [.lit (.int .i64 32138), .lit (.int .i64 6393)], .agg [.lit (.int .i64 30274), .lit (.int .i64 12540)], .agg [.lit (.int .i64 27246), .lit (.int .i64 18205)]]

/-- 'spinetlaw18.SpreadTells': WHATEVER THE INPUT: true; the input reads as it did. -/
def spreadTellsSpec : ChangeSpec := { name := "spreadTells", fn := fun _ => fun
  | [d1, d2] => { results := [.lit (.bool true)], args := [d1, d2] }
  | _ => none }
def spreadTellsRow : OpenClaim := { program := "ytgjanpbpggblmaadoor", sum := "e6a8834346614312658084df72331a25cf16c271b131bc0c5cf15c53121eaff2", func := "spinet/spinetlaw18.SpreadTells", spec := "spreadTells", named := ["spinet/spread.angles"], apart := false, laid := [("spinet/spread.angles", laid_spinet_spread_angles)] }
def SpreadTellsSaid : Prop := spreadTellsRow.holds Tryd.pinned (OpenSpec.ofChange spreadTellsSpec)

/-- ITS FALSE NEIGHBOUR: 'it returns false'. Refute it at one input. -/
def spreadTellsWrong : ChangeSpec := { name := "spreadTells", fn := fun _ => fun
  | [d1, d2] => { results := [.lit (.bool false)], args := [d1, d2] }
  | _ => none }
def SpreadTellsWrongFalsely : Prop := spreadTellsRow.holds Tryd.pinned (OpenSpec.ofChange spreadTellsWrong)

/-- 'spinetlaw18.SpreadZero': WHATEVER THE INPUT: true; the input reads as it did. -/
def spreadZeroSpec : ChangeSpec := { name := "spreadZero", fn := fun _ => fun
  | [d1, d2, d3] => { results := [.lit (.bool true)], args := [d1, d2, d3] }
  | _ => none }
def spreadZeroRow : OpenClaim := { program := "ytgjanpbpggblmaadoor", sum := "e6a8834346614312658084df72331a25cf16c271b131bc0c5cf15c53121eaff2", func := "spinet/spinetlaw18.SpreadZero", spec := "spreadZero", named := ["spinet/spread.angles"], apart := false, laid := [("spinet/spread.angles", laid_spinet_spread_angles)] }
def SpreadZeroSaid : Prop := spreadZeroRow.holds Tryd.pinned (OpenSpec.ofChange spreadZeroSpec)

/-- ITS FALSE NEIGHBOUR: 'it returns false'. Refute it at one input. -/
def spreadZeroWrong : ChangeSpec := { name := "spreadZero", fn := fun _ => fun
  | [d1, d2, d3] => { results := [.lit (.bool false)], args := [d1, d2, d3] }
  | _ => none }
def SpreadZeroWrongFalsely : Prop := spreadZeroRow.holds Tryd.pinned (OpenSpec.ofChange spreadZeroWrong)

/-- 'spinetlaw18.SpreadOwn': WHATEVER THE INPUT: true; the input reads as it did. -/
def spreadOwnSpec : ChangeSpec := { name := "spreadOwn", fn := fun _ => fun
  | [d1, d2] => { results := [.lit (.bool true)], args := [d1, d2] }
  | _ => none }
def spreadOwnRow : OpenClaim := { program := "ytgjanpbpggblmaadoor", sum := "e6a8834346614312658084df72331a25cf16c271b131bc0c5cf15c53121eaff2", func := "spinet/spinetlaw18.SpreadOwn", spec := "spreadOwn", named := ["spinet/spread.angles"], apart := false, laid := [("spinet/spread.angles", laid_spinet_spread_angles)] }
def SpreadOwnSaid : Prop := spreadOwnRow.holds Tryd.pinned (OpenSpec.ofChange spreadOwnSpec)

/-- ITS FALSE NEIGHBOUR: 'it returns false'. Refute it at one input. -/
def spreadOwnWrong : ChangeSpec := { name := "spreadOwn", fn := fun _ => fun
  | [d1, d2] => { results := [.lit (.bool false)], args := [d1, d2] }
  | _ => none }
def SpreadOwnWrongFalsely : Prop := spreadOwnRow.holds Tryd.pinned (OpenSpec.ofChange spreadOwnWrong)

/-- 'spinetlaw18.SpreadLength': WHATEVER THE INPUT: true; the input reads as it did. -/
def spreadLengthSpec : ChangeSpec := { name := "spreadLength", fn := fun _ => fun
  | [d1, d2] => { results := [.lit (.bool true)], args := [d1, d2] }
  | _ => none }
def spreadLengthRow : OpenClaim := { program := "ytgjanpbpggblmaadoor", sum := "e6a8834346614312658084df72331a25cf16c271b131bc0c5cf15c53121eaff2", func := "spinet/spinetlaw18.SpreadLength", spec := "spreadLength", named := ["spinet/spread.angles"], apart := false, laid := [("spinet/spread.angles", laid_spinet_spread_angles)] }
def SpreadLengthSaid : Prop := spreadLengthRow.holds Tryd.pinned (OpenSpec.ofChange spreadLengthSpec)

/-- ITS FALSE NEIGHBOUR: 'it returns false'. Refute it at one input. -/
def spreadLengthWrong : ChangeSpec := { name := "spreadLength", fn := fun _ => fun
  | [d1, d2] => { results := [.lit (.bool false)], args := [d1, d2] }
  | _ => none }
def SpreadLengthWrongFalsely : Prop := spreadLengthRow.holds Tryd.pinned (OpenSpec.ofChange spreadLengthWrong)

/- THE SECOND FORM. 'bulk': how many values and letters a reading holds, each counted each time it is reached (what is shared counts as often as it is met; a slice's spare places count too). A statement '..UptoSaid' is the law's where the arguments, and the package variables that the reading takes, are together of bulk at most 1048576: NARROWER than '..Said'. Prove '..Said' where nothing that the law and all that it calls make is longer than what came in: it says more and counts as full. Else prove '..UptoSaid'. A law counts once. -/
mutual
def uptoBulk {H : Type} : DataW H → Nat
  | .lit (.string bytes) => bytes.length + 1
  | .lit _ => 1
  | .nil => 1
  | .ptr d => uptoBulk d + 1
  | .slice elems spare => uptoBulkAll elems + uptoBulkAll spare + 1
  | .agg parts => uptoBulkAll parts + 1
  | .iface _ d => uptoBulk d + 1
  | .map entries => uptoBulkEntries entries + 1
  | .held _ => 1
def uptoBulkAll {H : Type} : List (DataW H) → Nat
  | [] => 0
  | d :: r => uptoBulk d + uptoBulkAll r
def uptoBulkEntries {H : Type} : List (Lit × DataW H) → Nat
  | [] => 0
  | x :: r => uptoBulkEntry x + uptoBulkEntries r
def uptoBulkEntry {H : Type} : Lit × DataW H → Nat
  | (.string bytes, d) => bytes.length + uptoBulk d + 1
  | (_, d) => uptoBulk d + 1
 end
def uptoSmall : (H : Type) → List (DataW H) → Bool := fun _ ds => decide (uptoBulkAll ds ≤ 1048576)
def OpenSpec.upto (s : _root_.Go.ChangeSpec) : _root_.Go.OpenSpec := { _root_.Go.OpenSpec.ofChange s with cond := some uptoSmall }

/-- 'spinetlaw18.SpreadTells', WHERE WHAT IT READS IS OF BULK AT MOST 1048576: true; the input reads as it did. -/
def spreadTellsUptoRow : OpenClaim := { program := "ytgjanpbpggblmaadoor", sum := "e6a8834346614312658084df72331a25cf16c271b131bc0c5cf15c53121eaff2", func := "spinet/spinetlaw18.SpreadTells", spec := "spreadTells", named := ["spinet/spread.angles"], apart := false, laid := [("spinet/spread.angles", laid_spinet_spread_angles)], narrowed := true }
def SpreadTellsUptoSaid : Prop := spreadTellsUptoRow.holds Tryd.pinned (OpenSpec.upto spreadTellsSpec)

/-- 'spinetlaw18.SpreadZero', WHERE WHAT IT READS IS OF BULK AT MOST 1048576: true; the input reads as it did. -/
def spreadZeroUptoRow : OpenClaim := { program := "ytgjanpbpggblmaadoor", sum := "e6a8834346614312658084df72331a25cf16c271b131bc0c5cf15c53121eaff2", func := "spinet/spinetlaw18.SpreadZero", spec := "spreadZero", named := ["spinet/spread.angles"], apart := false, laid := [("spinet/spread.angles", laid_spinet_spread_angles)], narrowed := true }
def SpreadZeroUptoSaid : Prop := spreadZeroUptoRow.holds Tryd.pinned (OpenSpec.upto spreadZeroSpec)

/-- 'spinetlaw18.SpreadOwn', WHERE WHAT IT READS IS OF BULK AT MOST 1048576: true; the input reads as it did. -/
def spreadOwnUptoRow : OpenClaim := { program := "ytgjanpbpggblmaadoor", sum := "e6a8834346614312658084df72331a25cf16c271b131bc0c5cf15c53121eaff2", func := "spinet/spinetlaw18.SpreadOwn", spec := "spreadOwn", named := ["spinet/spread.angles"], apart := false, laid := [("spinet/spread.angles", laid_spinet_spread_angles)], narrowed := true }
def SpreadOwnUptoSaid : Prop := spreadOwnUptoRow.holds Tryd.pinned (OpenSpec.upto spreadOwnSpec)

/-- 'spinetlaw18.SpreadLength', WHERE WHAT IT READS IS OF BULK AT MOST 1048576: true; the input reads as it did. -/
def spreadLengthUptoRow : OpenClaim := { program := "ytgjanpbpggblmaadoor", sum := "e6a8834346614312658084df72331a25cf16c271b131bc0c5cf15c53121eaff2", func := "spinet/spinetlaw18.SpreadLength", spec := "spreadLength", named := ["spinet/spread.angles"], apart := false, laid := [("spinet/spread.angles", laid_spinet_spread_angles)], narrowed := true }
def SpreadLengthUptoSaid : Prop := spreadLengthUptoRow.holds Tryd.pinned (OpenSpec.upto spreadLengthSpec)

end Rows
end Go.Proofs.YtgjanpbpggblmaaDoor
