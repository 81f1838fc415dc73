/-
  DERIVED. GIVEN WITH THE SEED: THE CARDS: each row of YtilmnlipamhpkaaDoorRows.lean that lists a variable, with what it lists TIED to the program's text (the seventh form; the later family's looks); each row that meets fmt, with fmt's text TOLD by the authors' own Lean function (tested against real Go, not proved from fmt's source: count such statements apart). THE CARD IS WHAT COUNTS. Prove the row's statement (the work); the ties are given (YtilmnlipamhpkaaDoorTie.lean); close each card by the builder's one call (the guide's Derived/Test/ToyasCard.lean, 'card_holds'). Laid BY PROGRAM, IN A SANDBOX (cutbox-door.mjs). By AI agents, Wed Nov 11 2026. No macro, syntax, notation, axiom, sorry.
-/
import Derived.Test.YtilmnlipamhpkaaDoorRows
import GoSem.ClaimSeven
namespace Go.Proofs.YtilmnlipamhpkaaDoor
namespace Rows

/-- THE TIED CARD OF 'spinetlaw04.PowTells'. -/
def powTellsCard : Claim7 := { stood := { row := powTellsRow, standIns := [], harness := (true, "ca8569b5bfccf9c8aa466a3b69b93c36e10518f78ba9da2044c1a9d462fae71e"), looks := false }, kinds := [], alts := [], laidByText := true, laidKinds := [.data], laidTests := true, laidLooks := .later }
def PowTellsCardSaid : Prop := Claim7.holds Tryd.pinned (.plain (OpenSpec.ofChange powTellsSpec)) powTellsCard

/-- THE TIED CARD OF 'spinetlaw04.PowRises'. -/
def powRisesCard : Claim7 := { stood := { row := powRisesRow, standIns := [], harness := (true, "ca8569b5bfccf9c8aa466a3b69b93c36e10518f78ba9da2044c1a9d462fae71e"), looks := false }, kinds := [], alts := [], laidByText := true, laidKinds := [.data], laidTests := true, laidLooks := .later }
def PowRisesCardSaid : Prop := Claim7.holds Tryd.pinned (.plain (OpenSpec.ofChange powRisesSpec)) powRisesCard

/-- THE TIED CARD OF 'spinetlaw04.PowMeets'. -/
def powMeetsCard : Claim7 := { stood := { row := powMeetsRow, standIns := [], harness := (true, "ca8569b5bfccf9c8aa466a3b69b93c36e10518f78ba9da2044c1a9d462fae71e"), looks := false }, kinds := [], alts := [], laidByText := true, laidKinds := [.data], laidTests := true, laidLooks := .later }
def PowMeetsCardSaid : Prop := Claim7.holds Tryd.pinned (.plain (OpenSpec.ofChange powMeetsSpec)) powMeetsCard

/-- THE TIED CARD OF 'spinetlaw04.PowFines'. -/
def powFinesCard : Claim7 := { stood := { row := powFinesRow, standIns := [], harness := (true, "ca8569b5bfccf9c8aa466a3b69b93c36e10518f78ba9da2044c1a9d462fae71e"), looks := false }, kinds := [], alts := [], laidByText := true, laidKinds := [.data], laidTests := true, laidLooks := .later }
def PowFinesCardSaid : Prop := Claim7.holds Tryd.pinned (.plain (OpenSpec.ofChange powFinesSpec)) powFinesCard

/-- THE TIED CARD OF 'spinetlaw04.PowLouds'. -/
def powLoudsCard : Claim7 := { stood := { row := powLoudsRow, standIns := [], harness := (true, "ca8569b5bfccf9c8aa466a3b69b93c36e10518f78ba9da2044c1a9d462fae71e"), looks := false }, kinds := [], alts := [], laidByText := true, laidKinds := [.data], laidTests := true, laidLooks := .later }
def PowLoudsCardSaid : Prop := Claim7.holds Tryd.pinned (.plain (OpenSpec.ofChange powLoudsSpec)) powLoudsCard

/-- THE SECOND FORM's CARD OF 'spinetlaw04.PowTells'. -/
def powTellsUptoCard : Claim7 := { stood := { row := powTellsUptoRow, standIns := [], harness := (true, "ca8569b5bfccf9c8aa466a3b69b93c36e10518f78ba9da2044c1a9d462fae71e"), looks := false }, kinds := [], alts := [], laidByText := true, laidKinds := [.data], laidTests := true, laidLooks := .later }
def PowTellsUptoCardSaid : Prop := Claim7.holds Tryd.pinned (.plain (OpenSpec.upto powTellsSpec)) powTellsUptoCard

/-- THE SECOND FORM's CARD OF 'spinetlaw04.PowRises'. -/
def powRisesUptoCard : Claim7 := { stood := { row := powRisesUptoRow, standIns := [], harness := (true, "ca8569b5bfccf9c8aa466a3b69b93c36e10518f78ba9da2044c1a9d462fae71e"), looks := false }, kinds := [], alts := [], laidByText := true, laidKinds := [.data], laidTests := true, laidLooks := .later }
def PowRisesUptoCardSaid : Prop := Claim7.holds Tryd.pinned (.plain (OpenSpec.upto powRisesSpec)) powRisesUptoCard

/-- THE SECOND FORM's CARD OF 'spinetlaw04.PowMeets'. -/
def powMeetsUptoCard : Claim7 := { stood := { row := powMeetsUptoRow, standIns := [], harness := (true, "ca8569b5bfccf9c8aa466a3b69b93c36e10518f78ba9da2044c1a9d462fae71e"), looks := false }, kinds := [], alts := [], laidByText := true, laidKinds := [.data], laidTests := true, laidLooks := .later }
def PowMeetsUptoCardSaid : Prop := Claim7.holds Tryd.pinned (.plain (OpenSpec.upto powMeetsSpec)) powMeetsUptoCard

/-- THE SECOND FORM's CARD OF 'spinetlaw04.PowFines'. -/
def powFinesUptoCard : Claim7 := { stood := { row := powFinesUptoRow, standIns := [], harness := (true, "ca8569b5bfccf9c8aa466a3b69b93c36e10518f78ba9da2044c1a9d462fae71e"), looks := false }, kinds := [], alts := [], laidByText := true, laidKinds := [.data], laidTests := true, laidLooks := .later }
def PowFinesUptoCardSaid : Prop := Claim7.holds Tryd.pinned (.plain (OpenSpec.upto powFinesSpec)) powFinesUptoCard

/-- THE SECOND FORM's CARD OF 'spinetlaw04.PowLouds'. -/
def powLoudsUptoCard : Claim7 := { stood := { row := powLoudsUptoRow, standIns := [], harness := (true, "ca8569b5bfccf9c8aa466a3b69b93c36e10518f78ba9da2044c1a9d462fae71e"), looks := false }, kinds := [], alts := [], laidByText := true, laidKinds := [.data], laidTests := true, laidLooks := .later }
def PowLoudsUptoCardSaid : Prop := Claim7.holds Tryd.pinned (.plain (OpenSpec.upto powLoudsSpec)) powLoudsUptoCard
end Rows
end Go.Proofs.YtilmnlipamhpkaaDoor
