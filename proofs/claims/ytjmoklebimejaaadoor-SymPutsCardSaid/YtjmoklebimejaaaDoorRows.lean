/-
  NARROWER THAN 'FOR EVERY INPUT', by the rows' own cells (each row's printed sentence says how): SymPuts: laid · SymReads: laid · SymBack: laid.
  DERIVED. THE GIVEN ROWS OF THIS SEAT. 3 by the template 'for every input the law returns true; each argument reads behind the call as it read before'; 0 by the template 'total and deterministic' (their statements: YtjmoklebimejaaaDoorTotals.lean).
  GIVEN WITH THE SEED: the statements are not yours to turn. If you find one false, say at which input.
  Laid BY PROGRAM, IN A SANDBOX (cutbox-rows.mjs): the forced cells as the released guide's own fill.sh prints them over the translation 5ce261bd4c08f4e8… (all of the seat's roots in one cut). By AI agents, Wed Nov 11 2026. No macro, syntax, notation, axiom, sorry.
-/
import Derived.Test.YtjmoklebimejaaaDoorChecked
import GoSem.Claim
import GoSem.ClaimJoined
import GoSem.ClaimMapViews
import Derived.JoinedTies
import Derived.KernelRfl
namespace Go.Proofs.YtjmoklebimejaaaDoor
/- THE CELL 'sum', in the pinned program and in every row, IS THE sha256 OF THE DUMP (.gsa) THAT YtjmoklebimejaaaDoorProg.lean LOADS. Nothing in Lean hashes anything: it is a label: what it is worth is what the hold of that sum in a sandbox is worth. -/
noncomputable def Tryd.pinned : Pinned := { name := "ytjmoklebimejaaadoor", sum := "5ce261bd4c08f4e8e7066ef0fe4ffd7a2b5672cb8c6d1faf9dba5163ed264021", checked := Tryd.checked }
namespace Rows
def none {H : Type} : Left H := { results := [], args := [] }

/- WHAT THE LISTED PACKAGE-LEVEL VARIABLES READ AS WHEN THE CALL BEGINS. Each datum BY PROGRAM (the guide's laid-datum.mjs) off the statement by which the dump's own 'gosem.cut.vars' lays the variable. In a bare row this is a premise. The card (YtjmoklebimejaaaDoorCards.lean) ties it to the program's text. -/
def laid_spinet_sym_widths {H : Type} : DataW H := .agg [.lit (.int .i64 20), .lit (.int .i64 9), .lit (.int .i64 5), .lit (.int .i64 3), .lit (.int .i64 2), .lit (.int .i64 1), .lit (.int .i64 1), .lit (.int .i64 1)]

/-- 'spinetlaw09.SymPuts': WHATEVER THE INPUT: true; the input reads as it did. -/
def symPutsSpec : ChangeSpec := { name := "symPuts", fn := fun _ => fun
  | [d1, d2] => { results := [.lit (.bool true)], args := [d1, d2] }
  | _ => none }
def symPutsRow : OpenClaim := { program := "ytjmoklebimejaaadoor", sum := "5ce261bd4c08f4e8e7066ef0fe4ffd7a2b5672cb8c6d1faf9dba5163ed264021", func := "spinet/spinetlaw09.SymPuts", spec := "symPuts", unfollowed := true, recurses := true, named := ["spinet/sym.widths"], apart := false, laid := [("spinet/sym.widths", laid_spinet_sym_widths)] }
def SymPutsSaid : Prop := symPutsRow.holds Tryd.pinned (OpenSpec.ofChange symPutsSpec)

/-- ITS FALSE NEIGHBOUR: 'it returns false'. Refute it at one input. -/
def symPutsWrong : ChangeSpec := { name := "symPuts", fn := fun _ => fun
  | [d1, d2] => { results := [.lit (.bool false)], args := [d1, d2] }
  | _ => none }
def SymPutsWrongFalsely : Prop := symPutsRow.holds Tryd.pinned (OpenSpec.ofChange symPutsWrong)

/-- 'spinetlaw09.SymReads': WHATEVER THE INPUT: true; the input reads as it did. -/
def symReadsSpec : ChangeSpec := { name := "symReads", fn := fun _ => fun
  | [d1, d2] => { results := [.lit (.bool true)], args := [d1, d2] }
  | _ => none }
def symReadsRow : OpenClaim := { program := "ytjmoklebimejaaadoor", sum := "5ce261bd4c08f4e8e7066ef0fe4ffd7a2b5672cb8c6d1faf9dba5163ed264021", func := "spinet/spinetlaw09.SymReads", spec := "symReads", unfollowed := true, recurses := true, named := ["spinet/sym.widths"], apart := false, laid := [("spinet/sym.widths", laid_spinet_sym_widths)] }
def SymReadsSaid : Prop := symReadsRow.holds Tryd.pinned (OpenSpec.ofChange symReadsSpec)

/-- ITS FALSE NEIGHBOUR: 'it returns false'. Refute it at one input. -/
def symReadsWrong : ChangeSpec := { name := "symReads", fn := fun _ => fun
  | [d1, d2] => { results := [.lit (.bool false)], args := [d1, d2] }
  | _ => none }
def SymReadsWrongFalsely : Prop := symReadsRow.holds Tryd.pinned (OpenSpec.ofChange symReadsWrong)

/-- 'spinetlaw09.SymBack': WHATEVER THE INPUT: true; the input reads as it did. -/
def symBackSpec : ChangeSpec := { name := "symBack", fn := fun _ => fun
  | [d1, d2] => { results := [.lit (.bool true)], args := [d1, d2] }
  | _ => none }
def symBackRow : OpenClaim := { program := "ytjmoklebimejaaadoor", sum := "5ce261bd4c08f4e8e7066ef0fe4ffd7a2b5672cb8c6d1faf9dba5163ed264021", func := "spinet/spinetlaw09.SymBack", spec := "symBack", unfollowed := true, recurses := true, named := ["spinet/sym.widths"], apart := false, laid := [("spinet/sym.widths", laid_spinet_sym_widths)] }
def SymBackSaid : Prop := symBackRow.holds Tryd.pinned (OpenSpec.ofChange symBackSpec)

/-- ITS FALSE NEIGHBOUR: 'it returns false'. Refute it at one input. -/
def symBackWrong : ChangeSpec := { name := "symBack", fn := fun _ => fun
  | [d1, d2] => { results := [.lit (.bool false)], args := [d1, d2] }
  | _ => none }
def SymBackWrongFalsely : Prop := symBackRow.holds Tryd.pinned (OpenSpec.ofChange symBackWrong)

/- THE SECOND FORM. 'bulk': how many values and letters a reading holds, each counted each time it is reached (what is shared counts as often as it is met; a slice's spare places count too). A statement '..UptoSaid' is the law's where the arguments, and the package variables that the reading takes, are together of bulk at most 1048576: NARROWER than '..Said'. Prove '..Said' where nothing that the law and all that it calls make is longer than what came in: it says more and counts as full. Else prove '..UptoSaid'. A law counts once. -/
mutual
def uptoBulk {H : Type} : DataW H → Nat
  | .lit (.string bytes) => bytes.length + 1
  | .lit _ => 1
  | .nil => 1
  | .ptr d => uptoBulk d + 1
  | .slice elems spare => uptoBulkAll elems + uptoBulkAll spare + 1
  | .agg parts => uptoBulkAll parts + 1
  | .iface _ d => uptoBulk d + 1
  | .map entries => uptoBulkEntries entries + 1
  | .held _ => 1
def uptoBulkAll {H : Type} : List (DataW H) → Nat
  | [] => 0
  | d :: r => uptoBulk d + uptoBulkAll r
def uptoBulkEntries {H : Type} : List (Lit × DataW H) → Nat
  | [] => 0
  | x :: r => uptoBulkEntry x + uptoBulkEntries r
def uptoBulkEntry {H : Type} : Lit × DataW H → Nat
  | (.string bytes, d) => bytes.length + uptoBulk d + 1
  | (_, d) => uptoBulk d + 1
 end
def uptoSmall : (H : Type) → List (DataW H) → Bool := fun _ ds => decide (uptoBulkAll ds ≤ 1048576)
def OpenSpec.upto (s : _root_.Go.ChangeSpec) : _root_.Go.OpenSpec := { _root_.Go.OpenSpec.ofChange s with cond := some uptoSmall }

/-- 'spinetlaw09.SymPuts', WHERE WHAT IT READS IS OF BULK AT MOST 1048576: true; the input reads as it did. -/
def symPutsUptoRow : OpenClaim := { program := "ytjmoklebimejaaadoor", sum := "5ce261bd4c08f4e8e7066ef0fe4ffd7a2b5672cb8c6d1faf9dba5163ed264021", func := "spinet/spinetlaw09.SymPuts", spec := "symPuts", unfollowed := true, recurses := true, named := ["spinet/sym.widths"], apart := false, laid := [("spinet/sym.widths", laid_spinet_sym_widths)], narrowed := true }
def SymPutsUptoSaid : Prop := symPutsUptoRow.holds Tryd.pinned (OpenSpec.upto symPutsSpec)

/-- 'spinetlaw09.SymReads', WHERE WHAT IT READS IS OF BULK AT MOST 1048576: true; the input reads as it did. -/
def symReadsUptoRow : OpenClaim := { program := "ytjmoklebimejaaadoor", sum := "5ce261bd4c08f4e8e7066ef0fe4ffd7a2b5672cb8c6d1faf9dba5163ed264021", func := "spinet/spinetlaw09.SymReads", spec := "symReads", unfollowed := true, recurses := true, named := ["spinet/sym.widths"], apart := false, laid := [("spinet/sym.widths", laid_spinet_sym_widths)], narrowed := true }
def SymReadsUptoSaid : Prop := symReadsUptoRow.holds Tryd.pinned (OpenSpec.upto symReadsSpec)

/-- 'spinetlaw09.SymBack', WHERE WHAT IT READS IS OF BULK AT MOST 1048576: true; the input reads as it did. -/
def symBackUptoRow : OpenClaim := { program := "ytjmoklebimejaaadoor", sum := "5ce261bd4c08f4e8e7066ef0fe4ffd7a2b5672cb8c6d1faf9dba5163ed264021", func := "spinet/spinetlaw09.SymBack", spec := "symBack", unfollowed := true, recurses := true, named := ["spinet/sym.widths"], apart := false, laid := [("spinet/sym.widths", laid_spinet_sym_widths)], narrowed := true }
def SymBackUptoSaid : Prop := symBackUptoRow.holds Tryd.pinned (OpenSpec.upto symBackSpec)

end Rows
end Go.Proofs.YtjmoklebimejaaaDoor
