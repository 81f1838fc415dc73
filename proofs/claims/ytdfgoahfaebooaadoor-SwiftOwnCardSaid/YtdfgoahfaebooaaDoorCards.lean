/-
  DERIVED. GIVEN WITH THE SEED: THE CARDS: each row of YtdfgoahfaebooaaDoorRows.lean that lists a variable, with what it lists TIED to the program's text (the seventh form; the later family's looks); each row that meets fmt, with fmt's text TOLD by the authors' own Lean function (tested against real Go, not proved from fmt's source: count such statements apart). THE CARD IS WHAT COUNTS. Prove the row's statement (the work); the ties are given (YtdfgoahfaebooaaDoorTie.lean); close each card by the builder's one call (the guide's Derived/Test/ToyasCard.lean, 'card_holds'). Laid BY PROGRAM, IN A SANDBOX (cutbox-door.mjs). By AI agents, Wed Nov 11 2026. No macro, syntax, notation, axiom, sorry.
-/
import Derived.Test.YtdfgoahfaebooaaDoorRows
import GoSem.ClaimSeven
namespace Go.Proofs.YtdfgoahfaebooaaDoor
namespace Rows

/-- THE TIED CARD OF 'spinetlaw08.SwiftPlays'. -/
def swiftPlaysCard : Claim7 := { stood := { row := swiftPlaysRow, standIns := [], harness := (true, "170e0b1fdeb00dec3450dafff09c36957494716b11b9c83e6c8d9e0899bfde85"), looks := false }, kinds := [], alts := [], laidByText := true, laidKinds := [.data], laidTests := true, laidLooks := .later }
def SwiftPlaysCardSaid : Prop := Claim7.holds Tryd.pinned (.plain (OpenSpec.ofChange swiftPlaysSpec)) swiftPlaysCard

/-- THE TIED CARD OF 'spinetlaw08.SwiftResets'. -/
def swiftResetsCard : Claim7 := { stood := { row := swiftResetsRow, standIns := [], harness := (true, "170e0b1fdeb00dec3450dafff09c36957494716b11b9c83e6c8d9e0899bfde85"), looks := false }, kinds := [], alts := [], laidByText := true, laidKinds := [.data], laidTests := true, laidLooks := .later }
def SwiftResetsCardSaid : Prop := Claim7.holds Tryd.pinned (.plain (OpenSpec.ofChange swiftResetsSpec)) swiftResetsCard

/-- THE TIED CARD OF 'spinetlaw08.SwiftOwn'. -/
def swiftOwnCard : Claim7 := { stood := { row := swiftOwnRow, standIns := [], harness := (true, "170e0b1fdeb00dec3450dafff09c36957494716b11b9c83e6c8d9e0899bfde85"), looks := false }, kinds := [], alts := [], laidByText := true, laidKinds := [.data], laidTests := true, laidLooks := .later }
def SwiftOwnCardSaid : Prop := Claim7.holds Tryd.pinned (.plain (OpenSpec.ofChange swiftOwnSpec)) swiftOwnCard

/-- THE TIED CARD OF 'spinetlaw08.SwiftAlike'. -/
def swiftAlikeCard : Claim7 := { stood := { row := swiftAlikeRow, standIns := [], harness := (true, "170e0b1fdeb00dec3450dafff09c36957494716b11b9c83e6c8d9e0899bfde85"), looks := false }, kinds := [], alts := [], laidByText := true, laidKinds := [.data], laidTests := true, laidLooks := .later }
def SwiftAlikeCardSaid : Prop := Claim7.holds Tryd.pinned (.plain (OpenSpec.ofChange swiftAlikeSpec)) swiftAlikeCard

/-- THE TIED CARD OF 'spinetlaw08.SwiftBack'. -/
def swiftBackCard : Claim7 := { stood := { row := swiftBackRow, standIns := [], harness := (true, "170e0b1fdeb00dec3450dafff09c36957494716b11b9c83e6c8d9e0899bfde85"), looks := false }, kinds := [], alts := [], laidByText := true, laidKinds := [.data], laidTests := true, laidLooks := .later }
def SwiftBackCardSaid : Prop := Claim7.holds Tryd.pinned (.plain (OpenSpec.ofChange swiftBackSpec)) swiftBackCard

/-- THE SECOND FORM's CARD OF 'spinetlaw08.SwiftPlays'. -/
def swiftPlaysUptoCard : Claim7 := { stood := { row := swiftPlaysUptoRow, standIns := [], harness := (true, "170e0b1fdeb00dec3450dafff09c36957494716b11b9c83e6c8d9e0899bfde85"), looks := false }, kinds := [], alts := [], laidByText := true, laidKinds := [.data], laidTests := true, laidLooks := .later }
def SwiftPlaysUptoCardSaid : Prop := Claim7.holds Tryd.pinned (.plain (OpenSpec.upto swiftPlaysSpec)) swiftPlaysUptoCard

/-- THE SECOND FORM's CARD OF 'spinetlaw08.SwiftResets'. -/
def swiftResetsUptoCard : Claim7 := { stood := { row := swiftResetsUptoRow, standIns := [], harness := (true, "170e0b1fdeb00dec3450dafff09c36957494716b11b9c83e6c8d9e0899bfde85"), looks := false }, kinds := [], alts := [], laidByText := true, laidKinds := [.data], laidTests := true, laidLooks := .later }
def SwiftResetsUptoCardSaid : Prop := Claim7.holds Tryd.pinned (.plain (OpenSpec.upto swiftResetsSpec)) swiftResetsUptoCard

/-- THE SECOND FORM's CARD OF 'spinetlaw08.SwiftOwn'. -/
def swiftOwnUptoCard : Claim7 := { stood := { row := swiftOwnUptoRow, standIns := [], harness := (true, "170e0b1fdeb00dec3450dafff09c36957494716b11b9c83e6c8d9e0899bfde85"), looks := false }, kinds := [], alts := [], laidByText := true, laidKinds := [.data], laidTests := true, laidLooks := .later }
def SwiftOwnUptoCardSaid : Prop := Claim7.holds Tryd.pinned (.plain (OpenSpec.upto swiftOwnSpec)) swiftOwnUptoCard

/-- THE SECOND FORM's CARD OF 'spinetlaw08.SwiftAlike'. -/
def swiftAlikeUptoCard : Claim7 := { stood := { row := swiftAlikeUptoRow, standIns := [], harness := (true, "170e0b1fdeb00dec3450dafff09c36957494716b11b9c83e6c8d9e0899bfde85"), looks := false }, kinds := [], alts := [], laidByText := true, laidKinds := [.data], laidTests := true, laidLooks := .later }
def SwiftAlikeUptoCardSaid : Prop := Claim7.holds Tryd.pinned (.plain (OpenSpec.upto swiftAlikeSpec)) swiftAlikeUptoCard

/-- THE SECOND FORM's CARD OF 'spinetlaw08.SwiftBack'. -/
def swiftBackUptoCard : Claim7 := { stood := { row := swiftBackUptoRow, standIns := [], harness := (true, "170e0b1fdeb00dec3450dafff09c36957494716b11b9c83e6c8d9e0899bfde85"), looks := false }, kinds := [], alts := [], laidByText := true, laidKinds := [.data], laidTests := true, laidLooks := .later }
def SwiftBackUptoCardSaid : Prop := Claim7.holds Tryd.pinned (.plain (OpenSpec.upto swiftBackSpec)) swiftBackUptoCard
end Rows
end Go.Proofs.YtdfgoahfaebooaaDoor
