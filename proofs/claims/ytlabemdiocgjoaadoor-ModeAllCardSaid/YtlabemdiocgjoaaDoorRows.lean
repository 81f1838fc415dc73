/-
  NARROWER THAN 'FOR EVERY INPUT', by the rows' own cells (each row's printed sentence says how): ModeOf: laid · ModeAll: laid · ModeTells: laid · ModeBands: laid.
  DERIVED. THE GIVEN ROWS OF THIS SEAT. 4 by the template 'for every input the law returns true; each argument reads behind the call as it read before'; 0 by the template 'total and deterministic' (their statements: YtlabemdiocgjoaaDoorTotals.lean).
  GIVEN WITH THE SEED: the statements are not yours to turn. If you find one false, say at which input.
  Laid BY PROGRAM, IN A SANDBOX (cutbox-rows.mjs): the forced cells as the released guide's own fill.sh prints them over the translation fc0bf18daa4bad82… (all of the seat's roots in one cut). By AI agents, Wed Nov 11 2026. No macro, syntax, notation, axiom, sorry.
-/
import Derived.Test.YtlabemdiocgjoaaDoorChecked
import GoSem.Claim
import GoSem.ClaimJoined
import GoSem.ClaimMapViews
import Derived.JoinedTies
import Derived.KernelRfl
namespace Go.Proofs.YtlabemdiocgjoaaDoor
/- THE CELL 'sum', in the pinned program and in every row, IS THE sha256 OF THE DUMP (.gsa) THAT YtlabemdiocgjoaaDoorProg.lean LOADS. Nothing in Lean hashes anything: it is a label: what it is worth is what the hold of that sum in a sandbox is worth. -/
noncomputable def Tryd.pinned : Pinned := { name := "ytlabemdiocgjoaadoor", sum := "fc0bf18daa4bad823a4a60cba9fcbf21ff612eaed4538aeeb8d9a0cab8503cbd", checked := Tryd.checked }
namespace Rows
def none {H : Type} : Left H := { results := [], args := [] }

/- WHAT THE LISTED PACKAGE-LEVEL VARIABLES READ AS WHEN THE CALL BEGINS. Each datum BY PROGRAM (the guide's laid-datum.mjs) off the statement by which the dump's own 'gosem.cut.vars' lays the variable. In a bare row this is a premise. The card (YtlabemdiocgjoaaDoorCards.lean) ties it to the program's text. -/
def laid_spinet_mode_widths {H : Type} : DataW H := .agg [.lit (.int .i64 2), .lit (.int .i64 2), .lit (.int .i64 4), .lit (.int .i64 8), .lit (.int .i64 16)]

/-- 'spinetlaw05.ModeOf': WHATEVER THE INPUT: true; the input reads as it did. -/
def modeOfSpec : ChangeSpec := { name := "modeOf", fn := fun _ => fun
  | [d1, d2] => { results := [.lit (.bool true)], args := [d1, d2] }
  | _ => none }
def modeOfRow : OpenClaim := { program := "ytlabemdiocgjoaadoor", sum := "fc0bf18daa4bad823a4a60cba9fcbf21ff612eaed4538aeeb8d9a0cab8503cbd", func := "spinet/spinetlaw05.ModeOf", spec := "modeOf", named := ["spinet/mode.widths"], apart := false, laid := [("spinet/mode.widths", laid_spinet_mode_widths)] }
def ModeOfSaid : Prop := modeOfRow.holds Tryd.pinned (OpenSpec.ofChange modeOfSpec)

/-- ITS FALSE NEIGHBOUR: 'it returns false'. Refute it at one input. -/
def modeOfWrong : ChangeSpec := { name := "modeOf", fn := fun _ => fun
  | [d1, d2] => { results := [.lit (.bool false)], args := [d1, d2] }
  | _ => none }
def ModeOfWrongFalsely : Prop := modeOfRow.holds Tryd.pinned (OpenSpec.ofChange modeOfWrong)

/-- 'spinetlaw05.ModeAll': WHATEVER THE INPUT: true; the input reads as it did. -/
def modeAllSpec : ChangeSpec := { name := "modeAll", fn := fun _ => fun
  | [d1, d2, d3] => { results := [.lit (.bool true)], args := [d1, d2, d3] }
  | _ => none }
def modeAllRow : OpenClaim := { program := "ytlabemdiocgjoaadoor", sum := "fc0bf18daa4bad823a4a60cba9fcbf21ff612eaed4538aeeb8d9a0cab8503cbd", func := "spinet/spinetlaw05.ModeAll", spec := "modeAll", named := ["spinet/mode.widths"], apart := false, laid := [("spinet/mode.widths", laid_spinet_mode_widths)] }
def ModeAllSaid : Prop := modeAllRow.holds Tryd.pinned (OpenSpec.ofChange modeAllSpec)

/-- ITS FALSE NEIGHBOUR: 'it returns false'. Refute it at one input. -/
def modeAllWrong : ChangeSpec := { name := "modeAll", fn := fun _ => fun
  | [d1, d2, d3] => { results := [.lit (.bool false)], args := [d1, d2, d3] }
  | _ => none }
def ModeAllWrongFalsely : Prop := modeAllRow.holds Tryd.pinned (OpenSpec.ofChange modeAllWrong)

/-- 'spinetlaw05.ModeTells': WHATEVER THE INPUT: true; the input reads as it did. -/
def modeTellsSpec : ChangeSpec := { name := "modeTells", fn := fun _ => fun
  | [d1, d2, d3] => { results := [.lit (.bool true)], args := [d1, d2, d3] }
  | _ => none }
def modeTellsRow : OpenClaim := { program := "ytlabemdiocgjoaadoor", sum := "fc0bf18daa4bad823a4a60cba9fcbf21ff612eaed4538aeeb8d9a0cab8503cbd", func := "spinet/spinetlaw05.ModeTells", spec := "modeTells", named := ["spinet/mode.widths"], apart := false, laid := [("spinet/mode.widths", laid_spinet_mode_widths)] }
def ModeTellsSaid : Prop := modeTellsRow.holds Tryd.pinned (OpenSpec.ofChange modeTellsSpec)

/-- ITS FALSE NEIGHBOUR: 'it returns false'. Refute it at one input. -/
def modeTellsWrong : ChangeSpec := { name := "modeTells", fn := fun _ => fun
  | [d1, d2, d3] => { results := [.lit (.bool false)], args := [d1, d2, d3] }
  | _ => none }
def ModeTellsWrongFalsely : Prop := modeTellsRow.holds Tryd.pinned (OpenSpec.ofChange modeTellsWrong)

/-- 'spinetlaw05.ModeBands': WHATEVER THE INPUT: true; the input reads as it did. -/
def modeBandsSpec : ChangeSpec := { name := "modeBands", fn := fun _ => fun
  | [d1, d2] => { results := [.lit (.bool true)], args := [d1, d2] }
  | _ => none }
def modeBandsRow : OpenClaim := { program := "ytlabemdiocgjoaadoor", sum := "fc0bf18daa4bad823a4a60cba9fcbf21ff612eaed4538aeeb8d9a0cab8503cbd", func := "spinet/spinetlaw05.ModeBands", spec := "modeBands", named := ["spinet/mode.widths"], apart := false, laid := [("spinet/mode.widths", laid_spinet_mode_widths)] }
def ModeBandsSaid : Prop := modeBandsRow.holds Tryd.pinned (OpenSpec.ofChange modeBandsSpec)

/-- ITS FALSE NEIGHBOUR: 'it returns false'. Refute it at one input. -/
def modeBandsWrong : ChangeSpec := { name := "modeBands", fn := fun _ => fun
  | [d1, d2] => { results := [.lit (.bool false)], args := [d1, d2] }
  | _ => none }
def ModeBandsWrongFalsely : Prop := modeBandsRow.holds Tryd.pinned (OpenSpec.ofChange modeBandsWrong)

/- THE SECOND FORM. 'bulk': how many values and letters a reading holds, each counted each time it is reached (what is shared counts as often as it is met; a slice's spare places count too). A statement '..UptoSaid' is the law's where the arguments, and the package variables that the reading takes, are together of bulk at most 1048576: NARROWER than '..Said'. Prove '..Said' where nothing that the law and all that it calls make is longer than what came in: it says more and counts as full. Else prove '..UptoSaid'. A law counts once. -/
mutual
def uptoBulk {H : Type} : DataW H → Nat
  | .lit (.string bytes) => bytes.length + 1
  | .lit _ => 1
  | .nil => 1
  | .ptr d => uptoBulk d + 1
  | .slice elems spare => uptoBulkAll elems + uptoBulkAll spare + 1
  | .agg parts => uptoBulkAll parts + 1
  | .iface _ d => uptoBulk d + 1
  | .map entries => uptoBulkEntries entries + 1
  | .held _ => 1
def uptoBulkAll {H : Type} : List (DataW H) → Nat
  | [] => 0
  | d :: r => uptoBulk d + uptoBulkAll r
def uptoBulkEntries {H : Type} : List (Lit × DataW H) → Nat
  | [] => 0
  | x :: r => uptoBulkEntry x + uptoBulkEntries r
def uptoBulkEntry {H : Type} : Lit × DataW H → Nat
  | (.string bytes, d) => bytes.length + uptoBulk d + 1
  | (_, d) => uptoBulk d + 1
 end
def uptoSmall : (H : Type) → List (DataW H) → Bool := fun _ ds => decide (uptoBulkAll ds ≤ 1048576)
def OpenSpec.upto (s : _root_.Go.ChangeSpec) : _root_.Go.OpenSpec := { _root_.Go.OpenSpec.ofChange s with cond := some uptoSmall }

/-- 'spinetlaw05.ModeOf', WHERE WHAT IT READS IS OF BULK AT MOST 1048576: true; the input reads as it did. -/
def modeOfUptoRow : OpenClaim := { program := "ytlabemdiocgjoaadoor", sum := "fc0bf18daa4bad823a4a60cba9fcbf21ff612eaed4538aeeb8d9a0cab8503cbd", func := "spinet/spinetlaw05.ModeOf", spec := "modeOf", named := ["spinet/mode.widths"], apart := false, laid := [("spinet/mode.widths", laid_spinet_mode_widths)], narrowed := true }
def ModeOfUptoSaid : Prop := modeOfUptoRow.holds Tryd.pinned (OpenSpec.upto modeOfSpec)

/-- 'spinetlaw05.ModeAll', WHERE WHAT IT READS IS OF BULK AT MOST 1048576: true; the input reads as it did. -/
def modeAllUptoRow : OpenClaim := { program := "ytlabemdiocgjoaadoor", sum := "fc0bf18daa4bad823a4a60cba9fcbf21ff612eaed4538aeeb8d9a0cab8503cbd", func := "spinet/spinetlaw05.ModeAll", spec := "modeAll", named := ["spinet/mode.widths"], apart := false, laid := [("spinet/mode.widths", laid_spinet_mode_widths)], narrowed := true }
def ModeAllUptoSaid : Prop := modeAllUptoRow.holds Tryd.pinned (OpenSpec.upto modeAllSpec)

/-- 'spinetlaw05.ModeTells', WHERE WHAT IT READS IS OF BULK AT MOST 1048576: true; the input reads as it did. -/
def modeTellsUptoRow : OpenClaim := { program := "ytlabemdiocgjoaadoor", sum := "fc0bf18daa4bad823a4a60cba9fcbf21ff612eaed4538aeeb8d9a0cab8503cbd", func := "spinet/spinetlaw05.ModeTells", spec := "modeTells", named := ["spinet/mode.widths"], apart := false, laid := [("spinet/mode.widths", laid_spinet_mode_widths)], narrowed := true }
def ModeTellsUptoSaid : Prop := modeTellsUptoRow.holds Tryd.pinned (OpenSpec.upto modeTellsSpec)

/-- 'spinetlaw05.ModeBands', WHERE WHAT IT READS IS OF BULK AT MOST 1048576: true; the input reads as it did. -/
def modeBandsUptoRow : OpenClaim := { program := "ytlabemdiocgjoaadoor", sum := "fc0bf18daa4bad823a4a60cba9fcbf21ff612eaed4538aeeb8d9a0cab8503cbd", func := "spinet/spinetlaw05.ModeBands", spec := "modeBands", named := ["spinet/mode.widths"], apart := false, laid := [("spinet/mode.widths", laid_spinet_mode_widths)], narrowed := true }
def ModeBandsUptoSaid : Prop := modeBandsUptoRow.holds Tryd.pinned (OpenSpec.upto modeBandsSpec)

end Rows
end Go.Proofs.YtlabemdiocgjoaaDoor
