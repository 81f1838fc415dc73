import Derived.Test.YtgjanpbpggblmaaDoorSpreadTells
import Derived.Test.YtgjanpbpggblmaaDoorMath
namespace Go.Proofs.YtgjanpbpggblmaaDoor.Spread
open Go.RowKit Go.Proofs.YtgjanpbpggblmaaDoorW.PrintWords Go.Proofs.YtgjanpbpggblmaaDoorW.PrintLast Go.Proofs.YtgjanpbpggblmaaDoorW.PrintMore
open Go.Proofs.YtgjanpbpggblmaaDoor.Math
set_option linter.unusedVariables false
theorem tells_row (a0 : Option Addr) (len0 cap0 : Nat) (z0 : List Int) (a1 : Int) (w : World) (hL : Laid w) (w0 : (a0 = none ∧ len0 = 0 ∧ cap0 = 0 ∧ z0 = []) ∨ ∃ x, a0 = some x ∧ len0 ≤ cap0 ∧ cap0 ≤ maxLen ∧ z0.length = cap0 ∧ (∀ i, i < z0.length → w.cell? (x.add i) = some (.int .i32 (z0.getD i 0))) ∧ ∀ n ∈ z0, (Lit.int .i32 n).wf = true) :
    Calls Tryd.prog 3 #[.slice a0 len0 cap0, .int .i64 a1] w fun e w' => e = .returned (.bool true) ∧ Below w.heap.size w w' := by
  obtain ⟨l0, rfl, hr0, hm0, hw0, hc0⟩ := ReadsInt.ofRowC w0
  exact tells a1 l0 (fun x h => wf_i32 (hw0 x h)) a0 cap0 w (Kd.C_of_reads (d := (0 : Int)) (h1 := fun _ => rfl) hr0) hc0 hL
end Go.Proofs.YtgjanpbpggblmaaDoor.Spread
