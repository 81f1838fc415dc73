/-
  NARROWER THAN 'FOR EVERY INPUT', by the rows' own cells (each row's printed sentence says how): PowTells: laid · PowRises: laid · PowMeets: laid · PowFines: laid · PowLouds: laid.
  DERIVED. THE GIVEN ROWS OF THIS SEAT. 5 by the template 'for every input the law returns true; each argument reads behind the call as it read before'; 0 by the template 'total and deterministic' (their statements: YtilmnlipamhpkaaDoorTotals.lean).
  GIVEN WITH THE SEED: the statements are not yours to turn. If you find one false, say at which input.
  Laid BY PROGRAM, IN A SANDBOX (cutbox-rows.mjs): the forced cells as the released guide's own fill.sh prints them over the translation 5fa95d252758dc39… (all of the seat's roots in one cut). By AI agents, Wed Nov 11 2026. No macro, syntax, notation, axiom, sorry.
-/
import Derived.Test.YtilmnlipamhpkaaDoorChecked
import GoSem.Claim
import GoSem.ClaimJoined
import GoSem.ClaimMapViews
import Derived.JoinedTies
import Derived.KernelRfl
namespace Go.Proofs.YtilmnlipamhpkaaDoor
/- THE CELL 'sum', in the pinned program and in every row, IS THE sha256 OF THE DUMP (.gsa) THAT YtilmnlipamhpkaaDoorProg.lean LOADS. Nothing in Lean hashes anything: it is a label: what it is worth is what the hold of that sum in a sandbox is worth. -/
noncomputable def Tryd.pinned : Pinned := { name := "ytilmnlipamhpkaadoor", sum := "5fa95d252758dc393b0649004d29d4bdecc1a82eb26da33e699baa9e3b5b471f", checked := Tryd.checked }
namespace Rows
def none {H : Type} : Left H := { results := [], args := [] }

/- WHAT THE LISTED PACKAGE-LEVEL VARIABLES READ AS WHEN THE CALL BEGINS. Each datum BY PROGRAM (the guide's laid-datum.mjs) off the statement by which the dump's own 'gosem.cut.vars' lays the variable. In a bare row this is a premise. The card (YtilmnlipamhpkaaDoorCards.lean) ties it to the program's text. -/
def laid_spinet_pow_steps {H : Type} : DataW H := .agg [.lit (.int .i64 32768), .lit (.int .i64 34219), .lit (.int .i64 35734), .lit (.int .i64 37316), .lit (.int .i64 38968), .lit (.int .i64 40693), .lit (.int .i64 42495), .lit (.int .i64 44376), .lit (.int .i64 46341), .lit (.int .i64 48393), .lit (.int .i64 50535), .lit (.int .i64 52773), .lit (.int .i64 55109), .lit (.int .i64 57549), .lit (.int .i64 60097), .lit (.int .i64 62757)]

/-- 'spinetlaw04.PowTells': WHATEVER THE INPUT: true; the input reads as it did. -/
def powTellsSpec : ChangeSpec := { name := "powTells", fn := fun _ => fun
  | [d1, d2] => { results := [.lit (.bool true)], args := [d1, d2] }
  | _ => none }
def powTellsRow : OpenClaim := { program := "ytilmnlipamhpkaadoor", sum := "5fa95d252758dc393b0649004d29d4bdecc1a82eb26da33e699baa9e3b5b471f", func := "spinet/spinetlaw04.PowTells", spec := "powTells", named := ["spinet/pow.steps"], apart := false, laid := [("spinet/pow.steps", laid_spinet_pow_steps)] }
def PowTellsSaid : Prop := powTellsRow.holds Tryd.pinned (OpenSpec.ofChange powTellsSpec)

/-- ITS FALSE NEIGHBOUR: 'it returns false'. Refute it at one input. -/
def powTellsWrong : ChangeSpec := { name := "powTells", fn := fun _ => fun
  | [d1, d2] => { results := [.lit (.bool false)], args := [d1, d2] }
  | _ => none }
def PowTellsWrongFalsely : Prop := powTellsRow.holds Tryd.pinned (OpenSpec.ofChange powTellsWrong)

/-- 'spinetlaw04.PowRises': WHATEVER THE INPUT: true; the input reads as it did. -/
def powRisesSpec : ChangeSpec := { name := "powRises", fn := fun _ => fun
  | [d1, d2] => { results := [.lit (.bool true)], args := [d1, d2] }
  | _ => none }
def powRisesRow : OpenClaim := { program := "ytilmnlipamhpkaadoor", sum := "5fa95d252758dc393b0649004d29d4bdecc1a82eb26da33e699baa9e3b5b471f", func := "spinet/spinetlaw04.PowRises", spec := "powRises", named := ["spinet/pow.steps"], apart := false, laid := [("spinet/pow.steps", laid_spinet_pow_steps)] }
def PowRisesSaid : Prop := powRisesRow.holds Tryd.pinned (OpenSpec.ofChange powRisesSpec)

/-- ITS FALSE NEIGHBOUR: 'it returns false'. Refute it at one input. -/
def powRisesWrong : ChangeSpec := { name := "powRises", fn := fun _ => fun
  | [d1, d2] => { results := [.lit (.bool false)], args := [d1, d2] }
  | _ => none }
def PowRisesWrongFalsely : Prop := powRisesRow.holds Tryd.pinned (OpenSpec.ofChange powRisesWrong)

/-- 'spinetlaw04.PowMeets': WHATEVER THE INPUT: true; the input reads as it did. -/
def powMeetsSpec : ChangeSpec := { name := "powMeets", fn := fun _ => fun
  | [d1, d2] => { results := [.lit (.bool true)], args := [d1, d2] }
  | _ => none }
def powMeetsRow : OpenClaim := { program := "ytilmnlipamhpkaadoor", sum := "5fa95d252758dc393b0649004d29d4bdecc1a82eb26da33e699baa9e3b5b471f", func := "spinet/spinetlaw04.PowMeets", spec := "powMeets", named := ["spinet/pow.steps"], apart := false, laid := [("spinet/pow.steps", laid_spinet_pow_steps)] }
def PowMeetsSaid : Prop := powMeetsRow.holds Tryd.pinned (OpenSpec.ofChange powMeetsSpec)

/-- ITS FALSE NEIGHBOUR: 'it returns false'. Refute it at one input. -/
def powMeetsWrong : ChangeSpec := { name := "powMeets", fn := fun _ => fun
  | [d1, d2] => { results := [.lit (.bool false)], args := [d1, d2] }
  | _ => none }
def PowMeetsWrongFalsely : Prop := powMeetsRow.holds Tryd.pinned (OpenSpec.ofChange powMeetsWrong)

/-- 'spinetlaw04.PowFines': WHATEVER THE INPUT: true; the input reads as it did. -/
def powFinesSpec : ChangeSpec := { name := "powFines", fn := fun _ => fun
  | [d1, d2] => { results := [.lit (.bool true)], args := [d1, d2] }
  | _ => none }
def powFinesRow : OpenClaim := { program := "ytilmnlipamhpkaadoor", sum := "5fa95d252758dc393b0649004d29d4bdecc1a82eb26da33e699baa9e3b5b471f", func := "spinet/spinetlaw04.PowFines", spec := "powFines", named := ["spinet/pow.steps"], apart := false, laid := [("spinet/pow.steps", laid_spinet_pow_steps)] }
def PowFinesSaid : Prop := powFinesRow.holds Tryd.pinned (OpenSpec.ofChange powFinesSpec)

/-- ITS FALSE NEIGHBOUR: 'it returns false'. Refute it at one input. -/
def powFinesWrong : ChangeSpec := { name := "powFines", fn := fun _ => fun
  | [d1, d2] => { results := [.lit (.bool false)], args := [d1, d2] }
  | _ => none }
def PowFinesWrongFalsely : Prop := powFinesRow.holds Tryd.pinned (OpenSpec.ofChange powFinesWrong)

/-- 'spinetlaw04.PowLouds': WHATEVER THE INPUT: true; the input reads as it did. -/
def powLoudsSpec : ChangeSpec := { name := "powLouds", fn := fun _ => fun
  | [d1, d2, d3] => { results := [.lit (.bool true)], args := [d1, d2, d3] }
  | _ => none }
def powLoudsRow : OpenClaim := { program := "ytilmnlipamhpkaadoor", sum := "5fa95d252758dc393b0649004d29d4bdecc1a82eb26da33e699baa9e3b5b471f", func := "spinet/spinetlaw04.PowLouds", spec := "powLouds", named := ["spinet/pow.steps"], apart := false, laid := [("spinet/pow.steps", laid_spinet_pow_steps)] }
def PowLoudsSaid : Prop := powLoudsRow.holds Tryd.pinned (OpenSpec.ofChange powLoudsSpec)

/-- ITS FALSE NEIGHBOUR: 'it returns false'. Refute it at one input. -/
def powLoudsWrong : ChangeSpec := { name := "powLouds", fn := fun _ => fun
  | [d1, d2, d3] => { results := [.lit (.bool false)], args := [d1, d2, d3] }
  | _ => none }
def PowLoudsWrongFalsely : Prop := powLoudsRow.holds Tryd.pinned (OpenSpec.ofChange powLoudsWrong)

/- THE SECOND FORM. 'bulk': how many values and letters a reading holds, each counted each time it is reached (what is shared counts as often as it is met; a slice's spare places count too). A statement '..UptoSaid' is the law's where the arguments, and the package variables that the reading takes, are together of bulk at most 1048576: NARROWER than '..Said'. Prove '..Said' where nothing that the law and all that it calls make is longer than what came in: it says more and counts as full. Else prove '..UptoSaid'. A law counts once. -/
mutual
def uptoBulk {H : Type} : DataW H → Nat
  | .lit (.string bytes) => bytes.length + 1
  | .lit _ => 1
  | .nil => 1
  | .ptr d => uptoBulk d + 1
  | .slice elems spare => uptoBulkAll elems + uptoBulkAll spare + 1
  | .agg parts => uptoBulkAll parts + 1
  | .iface _ d => uptoBulk d + 1
  | .map entries => uptoBulkEntries entries + 1
  | .held _ => 1
def uptoBulkAll {H : Type} : List (DataW H) → Nat
  | [] => 0
  | d :: r => uptoBulk d + uptoBulkAll r
def uptoBulkEntries {H : Type} : List (Lit × DataW H) → Nat
  | [] => 0
  | x :: r => uptoBulkEntry x + uptoBulkEntries r
def uptoBulkEntry {H : Type} : Lit × DataW H → Nat
  | (.string bytes, d) => bytes.length + uptoBulk d + 1
  | (_, d) => uptoBulk d + 1
 end
def uptoSmall : (H : Type) → List (DataW H) → Bool := fun _ ds => decide (uptoBulkAll ds ≤ 1048576)
def OpenSpec.upto (s : _root_.Go.ChangeSpec) : _root_.Go.OpenSpec := { _root_.Go.OpenSpec.ofChange s with cond := some uptoSmall }

/-- 'spinetlaw04.PowTells', WHERE WHAT IT READS IS OF BULK AT MOST 1048576: true; the input reads as it did. -/
def powTellsUptoRow : OpenClaim := { program := "ytilmnlipamhpkaadoor", sum := "5fa95d252758dc393b0649004d29d4bdecc1a82eb26da33e699baa9e3b5b471f", func := "spinet/spinetlaw04.PowTells", spec := "powTells", named := ["spinet/pow.steps"], apart := false, laid := [("spinet/pow.steps", laid_spinet_pow_steps)], narrowed := true }
def PowTellsUptoSaid : Prop := powTellsUptoRow.holds Tryd.pinned (OpenSpec.upto powTellsSpec)

/-- 'spinetlaw04.PowRises', WHERE WHAT IT READS IS OF BULK AT MOST 1048576: true; the input reads as it did. -/
def powRisesUptoRow : OpenClaim := { program := "ytilmnlipamhpkaadoor", sum := "5fa95d252758dc393b0649004d29d4bdecc1a82eb26da33e699baa9e3b5b471f", func := "spinet/spinetlaw04.PowRises", spec := "powRises", named := ["spinet/pow.steps"], apart := false, laid := [("spinet/pow.steps", laid_spinet_pow_steps)], narrowed := true }
def PowRisesUptoSaid : Prop := powRisesUptoRow.holds Tryd.pinned (OpenSpec.upto powRisesSpec)

/-- 'spinetlaw04.PowMeets', WHERE WHAT IT READS IS OF BULK AT MOST 1048576: true; the input reads as it did. -/
def powMeetsUptoRow : OpenClaim := { program := "ytilmnlipamhpkaadoor", sum := "5fa95d252758dc393b0649004d29d4bdecc1a82eb26da33e699baa9e3b5b471f", func := "spinet/spinetlaw04.PowMeets", spec := "powMeets", named := ["spinet/pow.steps"], apart := false, laid := [("spinet/pow.steps", laid_spinet_pow_steps)], narrowed := true }
def PowMeetsUptoSaid : Prop := powMeetsUptoRow.holds Tryd.pinned (OpenSpec.upto powMeetsSpec)

/-- 'spinetlaw04.PowFines', WHERE WHAT IT READS IS OF BULK AT MOST 1048576: true; the input reads as it did. -/
def powFinesUptoRow : OpenClaim := { program := "ytilmnlipamhpkaadoor", sum := "5fa95d252758dc393b0649004d29d4bdecc1a82eb26da33e699baa9e3b5b471f", func := "spinet/spinetlaw04.PowFines", spec := "powFines", named := ["spinet/pow.steps"], apart := false, laid := [("spinet/pow.steps", laid_spinet_pow_steps)], narrowed := true }
def PowFinesUptoSaid : Prop := powFinesUptoRow.holds Tryd.pinned (OpenSpec.upto powFinesSpec)

/-- 'spinetlaw04.PowLouds', WHERE WHAT IT READS IS OF BULK AT MOST 1048576: true; the input reads as it did. -/
def powLoudsUptoRow : OpenClaim := { program := "ytilmnlipamhpkaadoor", sum := "5fa95d252758dc393b0649004d29d4bdecc1a82eb26da33e699baa9e3b5b471f", func := "spinet/spinetlaw04.PowLouds", spec := "powLouds", named := ["spinet/pow.steps"], apart := false, laid := [("spinet/pow.steps", laid_spinet_pow_steps)], narrowed := true }
def PowLoudsUptoSaid : Prop := powLoudsUptoRow.holds Tryd.pinned (OpenSpec.upto powLoudsSpec)

end Rows
end Go.Proofs.YtilmnlipamhpkaaDoor
