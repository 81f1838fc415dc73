/-
  DERIVED. GIVEN WITH THE SEED: THE CARDS: each row of YtlabemdiocgjoaaDoorRows.lean that lists a variable, with what it lists TIED to the program's text (the seventh form; the later family's looks); each row that meets fmt, with fmt's text TOLD by the authors' own Lean function (tested against real Go, not proved from fmt's source: count such statements apart). THE CARD IS WHAT COUNTS. Prove the row's statement (the work); the ties are given (YtlabemdiocgjoaaDoorTie.lean); close each card by the builder's one call (the guide's Derived/Test/ToyasCard.lean, 'card_holds'). Laid BY PROGRAM, IN A SANDBOX (cutbox-door.mjs). By AI agents, Wed Nov 11 2026. No macro, syntax, notation, axiom, sorry.
-/
import Derived.Test.YtlabemdiocgjoaaDoorRows
import GoSem.ClaimSeven
namespace Go.Proofs.YtlabemdiocgjoaaDoor
namespace Rows

/-- THE TIED CARD OF 'spinetlaw05.ModeOf'. -/
def modeOfCard : Claim7 := { stood := { row := modeOfRow, standIns := [], harness := (true, "669205c03dd6fcc50b179941463e95a6e54bcfa46ca23585b1c6d274794f49ee"), looks := false }, kinds := [], alts := [], laidByText := true, laidKinds := [.data], laidTests := true, laidLooks := .later }
def ModeOfCardSaid : Prop := Claim7.holds Tryd.pinned (.plain (OpenSpec.ofChange modeOfSpec)) modeOfCard

/-- THE TIED CARD OF 'spinetlaw05.ModeAll'. -/
def modeAllCard : Claim7 := { stood := { row := modeAllRow, standIns := [], harness := (true, "669205c03dd6fcc50b179941463e95a6e54bcfa46ca23585b1c6d274794f49ee"), looks := false }, kinds := [], alts := [], laidByText := true, laidKinds := [.data], laidTests := true, laidLooks := .later }
def ModeAllCardSaid : Prop := Claim7.holds Tryd.pinned (.plain (OpenSpec.ofChange modeAllSpec)) modeAllCard

/-- THE TIED CARD OF 'spinetlaw05.ModeTells'. -/
def modeTellsCard : Claim7 := { stood := { row := modeTellsRow, standIns := [], harness := (true, "669205c03dd6fcc50b179941463e95a6e54bcfa46ca23585b1c6d274794f49ee"), looks := false }, kinds := [], alts := [], laidByText := true, laidKinds := [.data], laidTests := true, laidLooks := .later }
def ModeTellsCardSaid : Prop := Claim7.holds Tryd.pinned (.plain (OpenSpec.ofChange modeTellsSpec)) modeTellsCard

/-- THE TIED CARD OF 'spinetlaw05.ModeBands'. -/
def modeBandsCard : Claim7 := { stood := { row := modeBandsRow, standIns := [], harness := (true, "669205c03dd6fcc50b179941463e95a6e54bcfa46ca23585b1c6d274794f49ee"), looks := false }, kinds := [], alts := [], laidByText := true, laidKinds := [.data], laidTests := true, laidLooks := .later }
def ModeBandsCardSaid : Prop := Claim7.holds Tryd.pinned (.plain (OpenSpec.ofChange modeBandsSpec)) modeBandsCard

/-- THE SECOND FORM's CARD OF 'spinetlaw05.ModeOf'. -/
def modeOfUptoCard : Claim7 := { stood := { row := modeOfUptoRow, standIns := [], harness := (true, "669205c03dd6fcc50b179941463e95a6e54bcfa46ca23585b1c6d274794f49ee"), looks := false }, kinds := [], alts := [], laidByText := true, laidKinds := [.data], laidTests := true, laidLooks := .later }
def ModeOfUptoCardSaid : Prop := Claim7.holds Tryd.pinned (.plain (OpenSpec.upto modeOfSpec)) modeOfUptoCard

/-- THE SECOND FORM's CARD OF 'spinetlaw05.ModeAll'. -/
def modeAllUptoCard : Claim7 := { stood := { row := modeAllUptoRow, standIns := [], harness := (true, "669205c03dd6fcc50b179941463e95a6e54bcfa46ca23585b1c6d274794f49ee"), looks := false }, kinds := [], alts := [], laidByText := true, laidKinds := [.data], laidTests := true, laidLooks := .later }
def ModeAllUptoCardSaid : Prop := Claim7.holds Tryd.pinned (.plain (OpenSpec.upto modeAllSpec)) modeAllUptoCard

/-- THE SECOND FORM's CARD OF 'spinetlaw05.ModeTells'. -/
def modeTellsUptoCard : Claim7 := { stood := { row := modeTellsUptoRow, standIns := [], harness := (true, "669205c03dd6fcc50b179941463e95a6e54bcfa46ca23585b1c6d274794f49ee"), looks := false }, kinds := [], alts := [], laidByText := true, laidKinds := [.data], laidTests := true, laidLooks := .later }
def ModeTellsUptoCardSaid : Prop := Claim7.holds Tryd.pinned (.plain (OpenSpec.upto modeTellsSpec)) modeTellsUptoCard

/-- THE SECOND FORM's CARD OF 'spinetlaw05.ModeBands'. -/
def modeBandsUptoCard : Claim7 := { stood := { row := modeBandsUptoRow, standIns := [], harness := (true, "669205c03dd6fcc50b179941463e95a6e54bcfa46ca23585b1c6d274794f49ee"), looks := false }, kinds := [], alts := [], laidByText := true, laidKinds := [.data], laidTests := true, laidLooks := .later }
def ModeBandsUptoCardSaid : Prop := Claim7.holds Tryd.pinned (.plain (OpenSpec.upto modeBandsSpec)) modeBandsUptoCard
end Rows
end Go.Proofs.YtlabemdiocgjoaaDoor
