/-
  DERIVED. GIVEN WITH THE SEED: THE CARDS: each row of YtgjanpbpggblmaaDoorRows.lean that lists a variable, with what it lists TIED to the program's text (the seventh form; the later family's looks); each row that meets fmt, with fmt's text TOLD by the authors' own Lean function (tested against real Go, not proved from fmt's source: count such statements apart). THE CARD IS WHAT COUNTS. Prove the row's statement (the work); the ties are given (YtgjanpbpggblmaaDoorTie.lean); close each card by the builder's one call (the guide's Derived/Test/ToyasCard.lean, 'card_holds'). Laid BY PROGRAM, IN A SANDBOX (cutbox-door.mjs). By AI agents, Wed Nov 11 2026. No macro, syntax, notation, axiom, sorry.
-/
import Derived.Test.YtgjanpbpggblmaaDoorRows
import GoSem.ClaimSeven
namespace Go.Proofs.YtgjanpbpggblmaaDoor
namespace Rows

/-- THE TIED CARD OF 'spinetlaw18.SpreadTells'. -/
def spreadTellsCard : Claim7 := { stood := { row := spreadTellsRow, standIns := [], harness := (true, "41103782b320591662b9313c0ed12fc872a9a1d711b98d67926594bef990b004"), looks := false }, kinds := [], alts := [], laidByText := true, laidKinds := [.data], laidTests := true, laidLooks := .later }
def SpreadTellsCardSaid : Prop := Claim7.holds Tryd.pinned (.plain (OpenSpec.ofChange spreadTellsSpec)) spreadTellsCard

/-- THE TIED CARD OF 'spinetlaw18.SpreadZero'. -/
def spreadZeroCard : Claim7 := { stood := { row := spreadZeroRow, standIns := [], harness := (true, "41103782b320591662b9313c0ed12fc872a9a1d711b98d67926594bef990b004"), looks := false }, kinds := [], alts := [], laidByText := true, laidKinds := [.data], laidTests := true, laidLooks := .later }
def SpreadZeroCardSaid : Prop := Claim7.holds Tryd.pinned (.plain (OpenSpec.ofChange spreadZeroSpec)) spreadZeroCard

/-- THE TIED CARD OF 'spinetlaw18.SpreadOwn'. -/
def spreadOwnCard : Claim7 := { stood := { row := spreadOwnRow, standIns := [], harness := (true, "41103782b320591662b9313c0ed12fc872a9a1d711b98d67926594bef990b004"), looks := false }, kinds := [], alts := [], laidByText := true, laidKinds := [.data], laidTests := true, laidLooks := .later }
def SpreadOwnCardSaid : Prop := Claim7.holds Tryd.pinned (.plain (OpenSpec.ofChange spreadOwnSpec)) spreadOwnCard

/-- THE TIED CARD OF 'spinetlaw18.SpreadLength'. -/
def spreadLengthCard : Claim7 := { stood := { row := spreadLengthRow, standIns := [], harness := (true, "41103782b320591662b9313c0ed12fc872a9a1d711b98d67926594bef990b004"), looks := false }, kinds := [], alts := [], laidByText := true, laidKinds := [.data], laidTests := true, laidLooks := .later }
def SpreadLengthCardSaid : Prop := Claim7.holds Tryd.pinned (.plain (OpenSpec.ofChange spreadLengthSpec)) spreadLengthCard

/-- THE SECOND FORM's CARD OF 'spinetlaw18.SpreadTells'. -/
def spreadTellsUptoCard : Claim7 := { stood := { row := spreadTellsUptoRow, standIns := [], harness := (true, "41103782b320591662b9313c0ed12fc872a9a1d711b98d67926594bef990b004"), looks := false }, kinds := [], alts := [], laidByText := true, laidKinds := [.data], laidTests := true, laidLooks := .later }
def SpreadTellsUptoCardSaid : Prop := Claim7.holds Tryd.pinned (.plain (OpenSpec.upto spreadTellsSpec)) spreadTellsUptoCard

/-- THE SECOND FORM's CARD OF 'spinetlaw18.SpreadZero'. -/
def spreadZeroUptoCard : Claim7 := { stood := { row := spreadZeroUptoRow, standIns := [], harness := (true, "41103782b320591662b9313c0ed12fc872a9a1d711b98d67926594bef990b004"), looks := false }, kinds := [], alts := [], laidByText := true, laidKinds := [.data], laidTests := true, laidLooks := .later }
def SpreadZeroUptoCardSaid : Prop := Claim7.holds Tryd.pinned (.plain (OpenSpec.upto spreadZeroSpec)) spreadZeroUptoCard

/-- THE SECOND FORM's CARD OF 'spinetlaw18.SpreadOwn'. -/
def spreadOwnUptoCard : Claim7 := { stood := { row := spreadOwnUptoRow, standIns := [], harness := (true, "41103782b320591662b9313c0ed12fc872a9a1d711b98d67926594bef990b004"), looks := false }, kinds := [], alts := [], laidByText := true, laidKinds := [.data], laidTests := true, laidLooks := .later }
def SpreadOwnUptoCardSaid : Prop := Claim7.holds Tryd.pinned (.plain (OpenSpec.upto spreadOwnSpec)) spreadOwnUptoCard

/-- THE SECOND FORM's CARD OF 'spinetlaw18.SpreadLength'. -/
def spreadLengthUptoCard : Claim7 := { stood := { row := spreadLengthUptoRow, standIns := [], harness := (true, "41103782b320591662b9313c0ed12fc872a9a1d711b98d67926594bef990b004"), looks := false }, kinds := [], alts := [], laidByText := true, laidKinds := [.data], laidTests := true, laidLooks := .later }
def SpreadLengthUptoCardSaid : Prop := Claim7.holds Tryd.pinned (.plain (OpenSpec.upto spreadLengthSpec)) spreadLengthUptoCard
end Rows
end Go.Proofs.YtgjanpbpggblmaaDoor
