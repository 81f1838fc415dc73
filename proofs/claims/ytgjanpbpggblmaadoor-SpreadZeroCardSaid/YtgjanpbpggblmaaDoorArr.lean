import Derived.WalkKit
import Derived.ProofKit
import Derived.OpenShut
import Derived.WideKeyArr2
import Derived.Lib.SmallJoins
/-! An array of two whole numbers, as an argument: opened and shut. -/
namespace Go.Proofs.YtgjanpbpggblmaaDoor.Arr
open Go.ChangeShapes Go.WideShapes Go.ChangeAt Go.RowKit
variable {H : Type} {enc : TypeId × Value → H} {P : Program} {w : World} {base : Nat} {spare : Nat → Bool} {held : Bool}

theorem open_arr2 {r : Reach} {b0 : Nat} {t e : TypeId} {k : IntKind} {v : Value} {d : DataW H} {p : List MemPlace} (ht : P.underlying t = some (.array 2 e)) (he : P.underlying e = some (.int k)) (hce : P.cellsOf e = 1) (hct : P.cellsOf t = 2)
    (hv : Value.okWide P w r b0 t v) (h : DataW.Trod enc P w base spare held t v d p) :
    ∃ x0 x1 : Int, v = .agg #[.int k x0, .int k x1] ∧ d = .agg [.lit (.int k x0), .lit (.int k x1)] ∧ p = [] ∧ (Lit.int k x0).wf = true ∧ (Lit.int k x1).wf = true := by
  simp only [Value.okWide, ht] at hv
  obtain ⟨cs, rfl, hsz, _⟩ := hv
  obtain ⟨c0, c1, rfl⟩ := Go.Joins.array2 (hsz.trans hct)
  obtain ⟨fuel, hf⟩ := h
  cases fuel with
  | zero => simp [DataW.trod] at hf
  | succ n =>
    simp only [Value.cells] at hf
    unfold DataW.trod at hf
    rw [ht] at hf
    have r2 : List.range 2 = [0, 1] := rfl
    simp [r2, hce] at hf
    obtain ⟨_, hf⟩ := hf
    cases h0 : DataW.trod enc P w base spare held n e [c0] with
    | none => simp [h0] at hf
    | some y0 =>
      cases h1 : DataW.trod enc P w base spare held n e [c1] with
      | none => simp [h0, h1] at hf
      | some y1 =>
        simp [h0, h1] at hf
        obtain ⟨a0, e0, rfl, wa0⟩ := DataW.trod_int he h0
        obtain ⟨a1, e1, rfl, wa1⟩ := DataW.trod_int he h1
        simp at e0 e1
        subst e0 e1
        refine ⟨a0, a1, rfl, ?_, ?_, wa0, wa1⟩
        · exact hf.1.symm
        · exact hf.2.symm
theorem shut_arr2 {t e : TypeId} {k : IntKind} {x0 x1 : Int} (ht : P.underlying t = some (.array 2 e)) (he : P.underlying e = some (.int k)) (hce : P.cellsOf e = 1) (hct : P.cellsOf t = 2)
    (w0 : (Lit.int k x0).wf = true) (w1 : (Lit.int k x1).wf = true) :
    DataW.Trod enc P w base spare held t (.agg #[.int k x0, .int k x1]) (.agg [.lit (.int k x0), .lit (.int k x1)]) [] := by
  refine ⟨2, ?_⟩
  simp only [Value.cells]
  have r2 : List.range 2 = [0, 1] := rfl
  simp [DataW.trod, ht, he, r2, hce, hct, w0, w1]
end Go.Proofs.YtgjanpbpggblmaaDoor.Arr
