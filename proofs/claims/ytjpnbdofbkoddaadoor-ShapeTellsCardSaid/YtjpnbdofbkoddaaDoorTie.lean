/-
  DERIVED. GIVEN WITH THE SEED: THE PROGRAM's TIES (one call each: nine closed facts by the kernel) AND EACH ROW's TIE, after the 31st guide's Derived/Test/Toyas{Tie, Card}.lean. No idea stands in it: it is a product of the set-up. Laid BY PROGRAM, IN A SANDBOX (cutbox-door.mjs). By AI agents, Wed Nov 11 2026. No macro, syntax, notation, axiom, sorry.
-/
import Derived.Test.YtjpnbdofbkoddaaDoorRows
import Derived.LaidByTextLater
import Derived.SevenTiedAt
import Derived.LaidSub
import Derived.LaidOnce
namespace Go.Proofs.YtjpnbdofbkoddaaDoor
open Go
set_option maxRecDepth 100000
theorem seatTie1 : Tryd.prog.laidByTextLater [("spinet/mode.widths", Rows.laid_spinet_mode_widths), ("spinet/pow.steps", Rows.laid_spinet_pow_steps), ("spinet/spread.angles", Rows.laid_spinet_spread_angles)] [.data, .data, .data] true :=
  Program.laidByTextLater_by_one 28 8 17 (by kernel_rfl) (by kernel_rfl) (by kernel_rfl) (by kernel_rfl) (by kernel_rfl) (by kernel_rfl) (fun _ _ => by kernel_rfl)
theorem noOwnUnsafe : Tryd.pinned.checked.prog.headLifts.contains "ownunsafe" = false := by kernel_rfl
theorem tie : Tryd.prog.laidByTextLater [("spinet/pow.steps", Rows.laid_spinet_pow_steps)] [.data] true :=
  Program.laidByTextLater.sub seatTie1 ["spinet/pow.steps"] (by kernel_rfl) (by kernel_rfl)
theorem shapeScales_row_tie : Rows.shapeScalesRow.laidByTextAt .later Tryd.pinned [.data] true :=
  OpenClaim.laidByTextAt_later rfl rfl tie noOwnUnsafe
theorem shapeNoise_row_tie : Rows.shapeNoiseRow.laidByTextAt .later Tryd.pinned [.data] true :=
  OpenClaim.laidByTextAt_later rfl rfl tie noOwnUnsafe
theorem tie2 : Tryd.prog.laidByTextLater [("spinet/mode.widths", Rows.laid_spinet_mode_widths), ("spinet/pow.steps", Rows.laid_spinet_pow_steps), ("spinet/spread.angles", Rows.laid_spinet_spread_angles)] [.data, .data, .data] true :=
  Program.laidByTextLater.sub seatTie1 ["spinet/mode.widths", "spinet/pow.steps", "spinet/spread.angles"] (by kernel_rfl) (by kernel_rfl)
theorem shapeSeeds_row_tie : Rows.shapeSeedsRow.laidByTextAt .later Tryd.pinned [.data, .data, .data] true :=
  OpenClaim.laidByTextAt_later rfl rfl tie2 noOwnUnsafe
theorem shapeLouder_row_tie : Rows.shapeLouderRow.laidByTextAt .later Tryd.pinned [.data, .data, .data] true :=
  OpenClaim.laidByTextAt_later rfl rfl tie2 noOwnUnsafe
theorem shapeTells_row_tie : Rows.shapeTellsRow.laidByTextAt .later Tryd.pinned [.data, .data, .data] true :=
  OpenClaim.laidByTextAt_later rfl rfl tie2 noOwnUnsafe
theorem shapeScalesUpto_row_tie : Rows.shapeScalesUptoRow.laidByTextAt .later Tryd.pinned [.data] true :=
  OpenClaim.laidByTextAt_later rfl rfl tie noOwnUnsafe
theorem shapeNoiseUpto_row_tie : Rows.shapeNoiseUptoRow.laidByTextAt .later Tryd.pinned [.data] true :=
  OpenClaim.laidByTextAt_later rfl rfl tie noOwnUnsafe
theorem shapeSeedsUpto_row_tie : Rows.shapeSeedsUptoRow.laidByTextAt .later Tryd.pinned [.data, .data, .data] true :=
  OpenClaim.laidByTextAt_later rfl rfl tie2 noOwnUnsafe
theorem shapeLouderUpto_row_tie : Rows.shapeLouderUptoRow.laidByTextAt .later Tryd.pinned [.data, .data, .data] true :=
  OpenClaim.laidByTextAt_later rfl rfl tie2 noOwnUnsafe
theorem shapeTellsUpto_row_tie : Rows.shapeTellsUptoRow.laidByTextAt .later Tryd.pinned [.data, .data, .data] true :=
  OpenClaim.laidByTextAt_later rfl rfl tie2 noOwnUnsafe
end Go.Proofs.YtjpnbdofbkoddaaDoor
