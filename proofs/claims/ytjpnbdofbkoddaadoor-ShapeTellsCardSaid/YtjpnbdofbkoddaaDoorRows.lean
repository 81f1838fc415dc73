/-
  NARROWER THAN 'FOR EVERY INPUT', by the rows' own cells (each row's printed sentence says how): ShapeScales: laid · ShapeNoise: laid · ShapeSeeds: laid · ShapeLouder: laid · ShapeTells: laid.
  DERIVED. THE GIVEN ROWS OF THIS SEAT. 5 by the template 'for every input the law returns true; each argument reads behind the call as it read before'; 0 by the template 'total and deterministic' (their statements: YtjpnbdofbkoddaaDoorTotals.lean).
  GIVEN WITH THE SEED: the statements are not yours to turn. If you find one false, say at which input.
  Laid BY PROGRAM, IN A SANDBOX (cutbox-rows.mjs): the forced cells as the released guide's own fill.sh prints them over the translation 8fd6ff3d95bdb1ce… (all of the seat's roots in one cut). By AI agents, Wed Nov 11 2026. No macro, syntax, notation, axiom, sorry.
-/
import Derived.Test.YtjpnbdofbkoddaaDoorChecked
import GoSem.Claim
import GoSem.ClaimJoined
import GoSem.ClaimMapViews
import Derived.JoinedTies
import Derived.KernelRfl
namespace Go.Proofs.YtjpnbdofbkoddaaDoor
/- THE CELL 'sum', in the pinned program and in every row, IS THE sha256 OF THE DUMP (.gsa) THAT YtjpnbdofbkoddaaDoorProg.lean LOADS. Nothing in Lean hashes anything: it is a label: what it is worth is what the hold of that sum in a sandbox is worth. -/
noncomputable def Tryd.pinned : Pinned := { name := "ytjpnbdofbkoddaadoor", sum := "8fd6ff3d95bdb1cecf3c11c34d204d6b2b2471a53a90e2f4ac18102815f3ac63", checked := Tryd.checked }
namespace Rows
def none {H : Type} : Left H := { results := [], args := [] }

/- WHAT THE LISTED PACKAGE-LEVEL VARIABLES READ AS WHEN THE CALL BEGINS. Each datum BY PROGRAM (the guide's laid-datum.mjs) off the statement by which the dump's own 'gosem.cut.vars' lays the variable. In a bare row this is a premise. The card (YtjpnbdofbkoddaaDoorCards.lean) ties it to the program's text. -/
def laid_spinet_pow_steps {H : Type} : DataW H := .agg [.lit (.int .i64 32768), .lit (.int .i64 34219), .lit (.int .i64 35734), .lit (.int .i64 37316), .lit (.int .i64 38968), .lit (.int .i64 40693), .lit (.int .i64 42495), .lit (.int .i64 44376), .lit (.int .i64 46341), .lit (.int .i64 48393), .lit (.int .i64 50535), .lit (.int .i64 52773), .lit (.int .i64 55109), .lit (.int .i64 57549), .lit (.int .i64 60097), .lit (.int .i64 62757)]
def laid_spinet_mode_widths {H : Type} : DataW H := .agg [.lit (.int .i64 2), .lit (.int .i64 2), .lit (.int .i64 4), .lit (.int .i64 8), .lit (.int .i64 16)]
def laid_spinet_spread_angles {H : Type} : DataW H := .agg [.agg [.lit (.int .i64 32768), .lit (.int .i64 0)], .agg [.lit (.int .i64 32138), .lit (.int .i64 6393)], .agg [.lit (.int .i64 30274), .lit (.int .i64 12540)], .agg [.lit (.int .i64 27246), .lit (.int .i64 18205)]]

/-- 'spinetlaw19.ShapeScales': WHATEVER THE INPUT: true; the input reads as it did. -/
def shapeScalesSpec : ChangeSpec := { name := "shapeScales", fn := fun _ => fun
  | [d1, d2] => { results := [.lit (.bool true)], args := [d1, d2] }
  | _ => none }
def shapeScalesRow : OpenClaim := { program := "ytjpnbdofbkoddaadoor", sum := "8fd6ff3d95bdb1cecf3c11c34d204d6b2b2471a53a90e2f4ac18102815f3ac63", func := "spinet/spinetlaw19.ShapeScales", spec := "shapeScales", named := ["spinet/pow.steps"], apart := false, laid := [("spinet/pow.steps", laid_spinet_pow_steps)] }
def ShapeScalesSaid : Prop := shapeScalesRow.holds Tryd.pinned (OpenSpec.ofChange shapeScalesSpec)

/-- ITS FALSE NEIGHBOUR: 'it returns false'. Refute it at one input. -/
def shapeScalesWrong : ChangeSpec := { name := "shapeScales", fn := fun _ => fun
  | [d1, d2] => { results := [.lit (.bool false)], args := [d1, d2] }
  | _ => none }
def ShapeScalesWrongFalsely : Prop := shapeScalesRow.holds Tryd.pinned (OpenSpec.ofChange shapeScalesWrong)

/-- 'spinetlaw19.ShapeNoise': WHATEVER THE INPUT: true; the input reads as it did. -/
def shapeNoiseSpec : ChangeSpec := { name := "shapeNoise", fn := fun _ => fun
  | [d1, d2, d3] => { results := [.lit (.bool true)], args := [d1, d2, d3] }
  | _ => none }
def shapeNoiseRow : OpenClaim := { program := "ytjpnbdofbkoddaadoor", sum := "8fd6ff3d95bdb1cecf3c11c34d204d6b2b2471a53a90e2f4ac18102815f3ac63", func := "spinet/spinetlaw19.ShapeNoise", spec := "shapeNoise", named := ["spinet/pow.steps"], apart := false, laid := [("spinet/pow.steps", laid_spinet_pow_steps)] }
def ShapeNoiseSaid : Prop := shapeNoiseRow.holds Tryd.pinned (OpenSpec.ofChange shapeNoiseSpec)

/-- ITS FALSE NEIGHBOUR: 'it returns false'. Refute it at one input. -/
def shapeNoiseWrong : ChangeSpec := { name := "shapeNoise", fn := fun _ => fun
  | [d1, d2, d3] => { results := [.lit (.bool false)], args := [d1, d2, d3] }
  | _ => none }
def ShapeNoiseWrongFalsely : Prop := shapeNoiseRow.holds Tryd.pinned (OpenSpec.ofChange shapeNoiseWrong)

/-- 'spinetlaw19.ShapeSeeds': WHATEVER THE INPUT: true; the input reads as it did. -/
def shapeSeedsSpec : ChangeSpec := { name := "shapeSeeds", fn := fun _ => fun
  | [d1, d2] => { results := [.lit (.bool true)], args := [d1, d2] }
  | _ => none }
def shapeSeedsRow : OpenClaim := { program := "ytjpnbdofbkoddaadoor", sum := "8fd6ff3d95bdb1cecf3c11c34d204d6b2b2471a53a90e2f4ac18102815f3ac63", func := "spinet/spinetlaw19.ShapeSeeds", spec := "shapeSeeds", recurses := true, named := ["spinet/pow.steps", "spinet/mode.widths", "spinet/spread.angles"], apart := false, laid := [("spinet/mode.widths", laid_spinet_mode_widths), ("spinet/pow.steps", laid_spinet_pow_steps), ("spinet/spread.angles", laid_spinet_spread_angles)] }
def ShapeSeedsSaid : Prop := shapeSeedsRow.holds Tryd.pinned (OpenSpec.ofChange shapeSeedsSpec)

/-- ITS FALSE NEIGHBOUR: 'it returns false'. Refute it at one input. -/
def shapeSeedsWrong : ChangeSpec := { name := "shapeSeeds", fn := fun _ => fun
  | [d1, d2] => { results := [.lit (.bool false)], args := [d1, d2] }
  | _ => none }
def ShapeSeedsWrongFalsely : Prop := shapeSeedsRow.holds Tryd.pinned (OpenSpec.ofChange shapeSeedsWrong)

/-- 'spinetlaw19.ShapeLouder': WHATEVER THE INPUT: true; the input reads as it did. -/
def shapeLouderSpec : ChangeSpec := { name := "shapeLouder", fn := fun _ => fun
  | [d1, d2] => { results := [.lit (.bool true)], args := [d1, d2] }
  | _ => none }
def shapeLouderRow : OpenClaim := { program := "ytjpnbdofbkoddaadoor", sum := "8fd6ff3d95bdb1cecf3c11c34d204d6b2b2471a53a90e2f4ac18102815f3ac63", func := "spinet/spinetlaw19.ShapeLouder", spec := "shapeLouder", recurses := true, named := ["spinet/pow.steps", "spinet/mode.widths", "spinet/spread.angles"], apart := false, laid := [("spinet/mode.widths", laid_spinet_mode_widths), ("spinet/pow.steps", laid_spinet_pow_steps), ("spinet/spread.angles", laid_spinet_spread_angles)] }
def ShapeLouderSaid : Prop := shapeLouderRow.holds Tryd.pinned (OpenSpec.ofChange shapeLouderSpec)

/-- ITS FALSE NEIGHBOUR: 'it returns false'. Refute it at one input. -/
def shapeLouderWrong : ChangeSpec := { name := "shapeLouder", fn := fun _ => fun
  | [d1, d2] => { results := [.lit (.bool false)], args := [d1, d2] }
  | _ => none }
def ShapeLouderWrongFalsely : Prop := shapeLouderRow.holds Tryd.pinned (OpenSpec.ofChange shapeLouderWrong)

/-- 'spinetlaw19.ShapeTells': WHATEVER THE INPUT: true; the input reads as it did. -/
def shapeTellsSpec : ChangeSpec := { name := "shapeTells", fn := fun _ => fun
  | [d1, d2, d3] => { results := [.lit (.bool true)], args := [d1, d2, d3] }
  | _ => none }
def shapeTellsRow : OpenClaim := { program := "ytjpnbdofbkoddaadoor", sum := "8fd6ff3d95bdb1cecf3c11c34d204d6b2b2471a53a90e2f4ac18102815f3ac63", func := "spinet/spinetlaw19.ShapeTells", spec := "shapeTells", recurses := true, named := ["spinet/pow.steps", "spinet/mode.widths", "spinet/spread.angles"], apart := false, laid := [("spinet/mode.widths", laid_spinet_mode_widths), ("spinet/pow.steps", laid_spinet_pow_steps), ("spinet/spread.angles", laid_spinet_spread_angles)] }
def ShapeTellsSaid : Prop := shapeTellsRow.holds Tryd.pinned (OpenSpec.ofChange shapeTellsSpec)

/-- ITS FALSE NEIGHBOUR: 'it returns false'. Refute it at one input. -/
def shapeTellsWrong : ChangeSpec := { name := "shapeTells", fn := fun _ => fun
  | [d1, d2, d3] => { results := [.lit (.bool false)], args := [d1, d2, d3] }
  | _ => none }
def ShapeTellsWrongFalsely : Prop := shapeTellsRow.holds Tryd.pinned (OpenSpec.ofChange shapeTellsWrong)

/- THE SECOND FORM. 'bulk': how many values and letters a reading holds, each counted each time it is reached (what is shared counts as often as it is met; a slice's spare places count too). A statement '..UptoSaid' is the law's where the arguments, and the package variables that the reading takes, are together of bulk at most 1048576: NARROWER than '..Said'. Prove '..Said' where nothing that the law and all that it calls make is longer than what came in: it says more and counts as full. Else prove '..UptoSaid'. A law counts once. -/
mutual
def uptoBulk {H : Type} : DataW H → Nat
  | .lit (.string bytes) => bytes.length + 1
  | .lit _ => 1
  | .nil => 1
  | .ptr d => uptoBulk d + 1
  | .slice elems spare => uptoBulkAll elems + uptoBulkAll spare + 1
  | .agg parts => uptoBulkAll parts + 1
  | .iface _ d => uptoBulk d + 1
  | .map entries => uptoBulkEntries entries + 1
  | .held _ => 1
def uptoBulkAll {H : Type} : List (DataW H) → Nat
  | [] => 0
  | d :: r => uptoBulk d + uptoBulkAll r
def uptoBulkEntries {H : Type} : List (Lit × DataW H) → Nat
  | [] => 0
  | x :: r => uptoBulkEntry x + uptoBulkEntries r
def uptoBulkEntry {H : Type} : Lit × DataW H → Nat
  | (.string bytes, d) => bytes.length + uptoBulk d + 1
  | (_, d) => uptoBulk d + 1
 end
def uptoSmall : (H : Type) → List (DataW H) → Bool := fun _ ds => decide (uptoBulkAll ds ≤ 1048576)
def OpenSpec.upto (s : _root_.Go.ChangeSpec) : _root_.Go.OpenSpec := { _root_.Go.OpenSpec.ofChange s with cond := some uptoSmall }

/-- 'spinetlaw19.ShapeScales', WHERE WHAT IT READS IS OF BULK AT MOST 1048576: true; the input reads as it did. -/
def shapeScalesUptoRow : OpenClaim := { program := "ytjpnbdofbkoddaadoor", sum := "8fd6ff3d95bdb1cecf3c11c34d204d6b2b2471a53a90e2f4ac18102815f3ac63", func := "spinet/spinetlaw19.ShapeScales", spec := "shapeScales", named := ["spinet/pow.steps"], apart := false, laid := [("spinet/pow.steps", laid_spinet_pow_steps)], narrowed := true }
def ShapeScalesUptoSaid : Prop := shapeScalesUptoRow.holds Tryd.pinned (OpenSpec.upto shapeScalesSpec)

/-- 'spinetlaw19.ShapeNoise', WHERE WHAT IT READS IS OF BULK AT MOST 1048576: true; the input reads as it did. -/
def shapeNoiseUptoRow : OpenClaim := { program := "ytjpnbdofbkoddaadoor", sum := "8fd6ff3d95bdb1cecf3c11c34d204d6b2b2471a53a90e2f4ac18102815f3ac63", func := "spinet/spinetlaw19.ShapeNoise", spec := "shapeNoise", named := ["spinet/pow.steps"], apart := false, laid := [("spinet/pow.steps", laid_spinet_pow_steps)], narrowed := true }
def ShapeNoiseUptoSaid : Prop := shapeNoiseUptoRow.holds Tryd.pinned (OpenSpec.upto shapeNoiseSpec)

/-- 'spinetlaw19.ShapeSeeds', WHERE WHAT IT READS IS OF BULK AT MOST 1048576: true; the input reads as it did. -/
def shapeSeedsUptoRow : OpenClaim := { program := "ytjpnbdofbkoddaadoor", sum := "8fd6ff3d95bdb1cecf3c11c34d204d6b2b2471a53a90e2f4ac18102815f3ac63", func := "spinet/spinetlaw19.ShapeSeeds", spec := "shapeSeeds", recurses := true, named := ["spinet/pow.steps", "spinet/mode.widths", "spinet/spread.angles"], apart := false, laid := [("spinet/mode.widths", laid_spinet_mode_widths), ("spinet/pow.steps", laid_spinet_pow_steps), ("spinet/spread.angles", laid_spinet_spread_angles)], narrowed := true }
def ShapeSeedsUptoSaid : Prop := shapeSeedsUptoRow.holds Tryd.pinned (OpenSpec.upto shapeSeedsSpec)

/-- 'spinetlaw19.ShapeLouder', WHERE WHAT IT READS IS OF BULK AT MOST 1048576: true; the input reads as it did. -/
def shapeLouderUptoRow : OpenClaim := { program := "ytjpnbdofbkoddaadoor", sum := "8fd6ff3d95bdb1cecf3c11c34d204d6b2b2471a53a90e2f4ac18102815f3ac63", func := "spinet/spinetlaw19.ShapeLouder", spec := "shapeLouder", recurses := true, named := ["spinet/pow.steps", "spinet/mode.widths", "spinet/spread.angles"], apart := false, laid := [("spinet/mode.widths", laid_spinet_mode_widths), ("spinet/pow.steps", laid_spinet_pow_steps), ("spinet/spread.angles", laid_spinet_spread_angles)], narrowed := true }
def ShapeLouderUptoSaid : Prop := shapeLouderUptoRow.holds Tryd.pinned (OpenSpec.upto shapeLouderSpec)

/-- 'spinetlaw19.ShapeTells', WHERE WHAT IT READS IS OF BULK AT MOST 1048576: true; the input reads as it did. -/
def shapeTellsUptoRow : OpenClaim := { program := "ytjpnbdofbkoddaadoor", sum := "8fd6ff3d95bdb1cecf3c11c34d204d6b2b2471a53a90e2f4ac18102815f3ac63", func := "spinet/spinetlaw19.ShapeTells", spec := "shapeTells", recurses := true, named := ["spinet/pow.steps", "spinet/mode.widths", "spinet/spread.angles"], apart := false, laid := [("spinet/mode.widths", laid_spinet_mode_widths), ("spinet/pow.steps", laid_spinet_pow_steps), ("spinet/spread.angles", laid_spinet_spread_angles)], narrowed := true }
def ShapeTellsUptoSaid : Prop := shapeTellsUptoRow.holds Tryd.pinned (OpenSpec.upto shapeTellsSpec)

end Rows
end Go.Proofs.YtjpnbdofbkoddaaDoor
