/-
  DERIVED. GIVEN WITH THE SEED: THE CARDS: each row of YtjpnbdofbkoddaaDoorRows.lean that lists a variable, with what it lists TIED to the program's text (the seventh form; the later family's looks); each row that meets fmt, with fmt's text TOLD by the authors' own Lean function (tested against real Go, not proved from fmt's source: count such statements apart). THE CARD IS WHAT COUNTS. Prove the row's statement (the work); the ties are given (YtjpnbdofbkoddaaDoorTie.lean); close each card by the builder's one call (the guide's Derived/Test/ToyasCard.lean, 'card_holds'). Laid BY PROGRAM, IN A SANDBOX (cutbox-door.mjs). By AI agents, Wed Nov 11 2026. No macro, syntax, notation, axiom, sorry.
-/
import Derived.Test.YtjpnbdofbkoddaaDoorRows
import GoSem.ClaimSeven
namespace Go.Proofs.YtjpnbdofbkoddaaDoor
namespace Rows

/-- THE TIED CARD OF 'spinetlaw19.ShapeScales'. -/
def shapeScalesCard : Claim7 := { stood := { row := shapeScalesRow, standIns := [], harness := (true, "fbf6f556878339f90aa02abf70a300e1dcc7f1519425c1db45dd41612f224946"), looks := false }, kinds := [], alts := [], laidByText := true, laidKinds := [.data], laidTests := true, laidLooks := .later }
def ShapeScalesCardSaid : Prop := Claim7.holds Tryd.pinned (.plain (OpenSpec.ofChange shapeScalesSpec)) shapeScalesCard

/-- THE TIED CARD OF 'spinetlaw19.ShapeNoise'. -/
def shapeNoiseCard : Claim7 := { stood := { row := shapeNoiseRow, standIns := [], harness := (true, "fbf6f556878339f90aa02abf70a300e1dcc7f1519425c1db45dd41612f224946"), looks := false }, kinds := [], alts := [], laidByText := true, laidKinds := [.data], laidTests := true, laidLooks := .later }
def ShapeNoiseCardSaid : Prop := Claim7.holds Tryd.pinned (.plain (OpenSpec.ofChange shapeNoiseSpec)) shapeNoiseCard

/-- THE TIED CARD OF 'spinetlaw19.ShapeSeeds'. -/
def shapeSeedsCard : Claim7 := { stood := { row := shapeSeedsRow, standIns := [], harness := (true, "fbf6f556878339f90aa02abf70a300e1dcc7f1519425c1db45dd41612f224946"), looks := false }, kinds := [], alts := [], laidByText := true, laidKinds := [.data, .data, .data], laidTests := true, laidLooks := .later }
def ShapeSeedsCardSaid : Prop := Claim7.holds Tryd.pinned (.plain (OpenSpec.ofChange shapeSeedsSpec)) shapeSeedsCard

/-- THE TIED CARD OF 'spinetlaw19.ShapeLouder'. -/
def shapeLouderCard : Claim7 := { stood := { row := shapeLouderRow, standIns := [], harness := (true, "fbf6f556878339f90aa02abf70a300e1dcc7f1519425c1db45dd41612f224946"), looks := false }, kinds := [], alts := [], laidByText := true, laidKinds := [.data, .data, .data], laidTests := true, laidLooks := .later }
def ShapeLouderCardSaid : Prop := Claim7.holds Tryd.pinned (.plain (OpenSpec.ofChange shapeLouderSpec)) shapeLouderCard

/-- THE TIED CARD OF 'spinetlaw19.ShapeTells'. -/
def shapeTellsCard : Claim7 := { stood := { row := shapeTellsRow, standIns := [], harness := (true, "fbf6f556878339f90aa02abf70a300e1dcc7f1519425c1db45dd41612f224946"), looks := false }, kinds := [], alts := [], laidByText := true, laidKinds := [.data, .data, .data], laidTests := true, laidLooks := .later }
def ShapeTellsCardSaid : Prop := Claim7.holds Tryd.pinned (.plain (OpenSpec.ofChange shapeTellsSpec)) shapeTellsCard

/-- THE SECOND FORM's CARD OF 'spinetlaw19.ShapeScales'. -/
def shapeScalesUptoCard : Claim7 := { stood := { row := shapeScalesUptoRow, standIns := [], harness := (true, "fbf6f556878339f90aa02abf70a300e1dcc7f1519425c1db45dd41612f224946"), looks := false }, kinds := [], alts := [], laidByText := true, laidKinds := [.data], laidTests := true, laidLooks := .later }
def ShapeScalesUptoCardSaid : Prop := Claim7.holds Tryd.pinned (.plain (OpenSpec.upto shapeScalesSpec)) shapeScalesUptoCard

/-- THE SECOND FORM's CARD OF 'spinetlaw19.ShapeNoise'. -/
def shapeNoiseUptoCard : Claim7 := { stood := { row := shapeNoiseUptoRow, standIns := [], harness := (true, "fbf6f556878339f90aa02abf70a300e1dcc7f1519425c1db45dd41612f224946"), looks := false }, kinds := [], alts := [], laidByText := true, laidKinds := [.data], laidTests := true, laidLooks := .later }
def ShapeNoiseUptoCardSaid : Prop := Claim7.holds Tryd.pinned (.plain (OpenSpec.upto shapeNoiseSpec)) shapeNoiseUptoCard

/-- THE SECOND FORM's CARD OF 'spinetlaw19.ShapeSeeds'. -/
def shapeSeedsUptoCard : Claim7 := { stood := { row := shapeSeedsUptoRow, standIns := [], harness := (true, "fbf6f556878339f90aa02abf70a300e1dcc7f1519425c1db45dd41612f224946"), looks := false }, kinds := [], alts := [], laidByText := true, laidKinds := [.data, .data, .data], laidTests := true, laidLooks := .later }
def ShapeSeedsUptoCardSaid : Prop := Claim7.holds Tryd.pinned (.plain (OpenSpec.upto shapeSeedsSpec)) shapeSeedsUptoCard

/-- THE SECOND FORM's CARD OF 'spinetlaw19.ShapeLouder'. -/
def shapeLouderUptoCard : Claim7 := { stood := { row := shapeLouderUptoRow, standIns := [], harness := (true, "fbf6f556878339f90aa02abf70a300e1dcc7f1519425c1db45dd41612f224946"), looks := false }, kinds := [], alts := [], laidByText := true, laidKinds := [.data, .data, .data], laidTests := true, laidLooks := .later }
def ShapeLouderUptoCardSaid : Prop := Claim7.holds Tryd.pinned (.plain (OpenSpec.upto shapeLouderSpec)) shapeLouderUptoCard

/-- THE SECOND FORM's CARD OF 'spinetlaw19.ShapeTells'. -/
def shapeTellsUptoCard : Claim7 := { stood := { row := shapeTellsUptoRow, standIns := [], harness := (true, "fbf6f556878339f90aa02abf70a300e1dcc7f1519425c1db45dd41612f224946"), looks := false }, kinds := [], alts := [], laidByText := true, laidKinds := [.data, .data, .data], laidTests := true, laidLooks := .later }
def ShapeTellsUptoCardSaid : Prop := Claim7.holds Tryd.pinned (.plain (OpenSpec.upto shapeTellsSpec)) shapeTellsUptoCard
end Rows
end Go.Proofs.YtjpnbdofbkoddaaDoor
