/-
  DERIVED. GIVEN WITH THE SEED: THE CARDS: each row of YtjmoklebimejaaaDoorRows.lean that lists a variable, with what it lists TIED to the program's text (the seventh form; the later family's looks); each row that meets fmt, with fmt's text TOLD by the authors' own Lean function (tested against real Go, not proved from fmt's source: count such statements apart). THE CARD IS WHAT COUNTS. Prove the row's statement (the work); the ties are given (YtjmoklebimejaaaDoorTie.lean); close each card by the builder's one call (the guide's Derived/Test/ToyasCard.lean, 'card_holds'). Laid BY PROGRAM, IN A SANDBOX (cutbox-door.mjs). By AI agents, Wed Nov 11 2026. No macro, syntax, notation, axiom, sorry.
-/
import Derived.Test.YtjmoklebimejaaaDoorRows
import GoSem.ClaimSeven
namespace Go.Proofs.YtjmoklebimejaaaDoor
namespace Rows

/-- THE TIED CARD OF 'spinetlaw09.SymPuts'. -/
def symPutsCard : Claim7 := { stood := { row := symPutsRow, standIns := [], harness := (true, "26a832c1e1ffbac18b20fca84f71f6f5640d438f25cd01e7ec7f76bcb4ec8cf2"), looks := false }, kinds := [], alts := [], laidByText := true, laidKinds := [.data], laidTests := true, laidLooks := .later }
def SymPutsCardSaid : Prop := Claim7.holds Tryd.pinned (.plain (OpenSpec.ofChange symPutsSpec)) symPutsCard

/-- THE TIED CARD OF 'spinetlaw09.SymReads'. -/
def symReadsCard : Claim7 := { stood := { row := symReadsRow, standIns := [], harness := (true, "26a832c1e1ffbac18b20fca84f71f6f5640d438f25cd01e7ec7f76bcb4ec8cf2"), looks := false }, kinds := [], alts := [], laidByText := true, laidKinds := [.data], laidTests := true, laidLooks := .later }
def SymReadsCardSaid : Prop := Claim7.holds Tryd.pinned (.plain (OpenSpec.ofChange symReadsSpec)) symReadsCard

/-- THE TIED CARD OF 'spinetlaw09.SymBack'. -/
def symBackCard : Claim7 := { stood := { row := symBackRow, standIns := [], harness := (true, "26a832c1e1ffbac18b20fca84f71f6f5640d438f25cd01e7ec7f76bcb4ec8cf2"), looks := false }, kinds := [], alts := [], laidByText := true, laidKinds := [.data], laidTests := true, laidLooks := .later }
def SymBackCardSaid : Prop := Claim7.holds Tryd.pinned (.plain (OpenSpec.ofChange symBackSpec)) symBackCard

/-- THE SECOND FORM's CARD OF 'spinetlaw09.SymPuts'. -/
def symPutsUptoCard : Claim7 := { stood := { row := symPutsUptoRow, standIns := [], harness := (true, "26a832c1e1ffbac18b20fca84f71f6f5640d438f25cd01e7ec7f76bcb4ec8cf2"), looks := false }, kinds := [], alts := [], laidByText := true, laidKinds := [.data], laidTests := true, laidLooks := .later }
def SymPutsUptoCardSaid : Prop := Claim7.holds Tryd.pinned (.plain (OpenSpec.upto symPutsSpec)) symPutsUptoCard

/-- THE SECOND FORM's CARD OF 'spinetlaw09.SymReads'. -/
def symReadsUptoCard : Claim7 := { stood := { row := symReadsUptoRow, standIns := [], harness := (true, "26a832c1e1ffbac18b20fca84f71f6f5640d438f25cd01e7ec7f76bcb4ec8cf2"), looks := false }, kinds := [], alts := [], laidByText := true, laidKinds := [.data], laidTests := true, laidLooks := .later }
def SymReadsUptoCardSaid : Prop := Claim7.holds Tryd.pinned (.plain (OpenSpec.upto symReadsSpec)) symReadsUptoCard

/-- THE SECOND FORM's CARD OF 'spinetlaw09.SymBack'. -/
def symBackUptoCard : Claim7 := { stood := { row := symBackUptoRow, standIns := [], harness := (true, "26a832c1e1ffbac18b20fca84f71f6f5640d438f25cd01e7ec7f76bcb4ec8cf2"), looks := false }, kinds := [], alts := [], laidByText := true, laidKinds := [.data], laidTests := true, laidLooks := .later }
def SymBackUptoCardSaid : Prop := Claim7.holds Tryd.pinned (.plain (OpenSpec.upto symBackSpec)) symBackUptoCard
end Rows
end Go.Proofs.YtjmoklebimejaaaDoor
