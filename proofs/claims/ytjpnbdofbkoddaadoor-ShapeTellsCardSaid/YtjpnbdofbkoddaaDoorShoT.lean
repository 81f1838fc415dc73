import Derived.Test.YtjpnbdofbkoddaaDoorWMoreT
import Derived.LoopTactic
import Derived.OrdersHeld
import Derived.RegionTactic
import Derived.Deep.RegionHeld
import Derived.KernelRfl
namespace Go.Proofs.YtjpnbdofbkoddaaDoorW.PrintMore
open Go.RowKit
section
variable {P : Program} {ops : Array Oper} {Q : Exit → Act → World → Prop} {S : World → Prop} {md : Region.Mode}
theorem zA1 {α : Type _} (l : List α) (i : Nat) (a : α) : l.toArray.setIfInBounds i a = (l.set i a).toArray := List.setIfInBounds_toArray l i a
theorem zA2 {α : Type _} (x b : α) (l : List α) : (x :: l).set 0 b = b :: l := List.set_cons_zero
theorem zA3 {α : Type _} (x b : α) (l : List α) (i : Nat) : (x :: l).set (i + 1) b = x :: l.set i b := List.set_cons_succ
theorem zTH (i : Nat) {d : Option Tmp} {op : Op} {ty : TypeId} {pos : String} {af : Array Edge} {gd : Option (Nat × Bool)} {v : Value} {fuel : Nat} {listed : Array Bool} {a : Act} {w : World} (hi : ops[i]? = some ⟨d, op, ty, pos, af, gd⟩)
    (hS : S w) (hy : ∀ w, S w → (execOp a.eval ⟨d, op, ty, pos, af, gd⟩).run P w = .ok (.value v) w) (h : wpAnyH P md ops Q S fuel (listed.setIfInBounds i true) (a.put d v) w)
    (hs : Region.noSelect ops = true := by kernel_rfl) (hf : Region.free md ops listed i = true := by kernel_rfl) (hr : (Region.ready md ops listed).contains i = true := by kernel_rfl)
    (hQ : ∀ c a w, Q (.panic c) (a.put d v) w → Q (.panic c) a w := by exact fun _ _ _ h => h) (hw : Region.wanted ⟨d, op, ty, pos, af, gd⟩ (yielded ops a.tmps) = true := by rfl) : wpAnyH P md ops Q S (fuel + 1) listed a w :=
  wpAnyH_take hi hs hf hr hQ (Or.inl ⟨hw, hy⟩) hS h
theorem zT (i : Nat) {d : Option Tmp} {op : Op} {ty : TypeId} {pos : String} {af : Array Edge} {gd : Option (Nat × Bool)} {v : Value} {fuel : Nat} {listed : Array Bool} {a : Act} {w : World} (hi : ops[i]? = some ⟨d, op, ty, pos, af, gd⟩)
    (hy : ∀ w, (execOp a.eval ⟨d, op, ty, pos, af, gd⟩).run P w = .ok (.value v) w) (h : wpAny P md ops Q fuel (listed.setIfInBounds i true) (a.put d v) w)
    (hs : Region.noSelect ops = true := by kernel_rfl) (hf : Region.free md ops listed i = true := by kernel_rfl) (hr : (Region.ready md ops listed).contains i = true := by kernel_rfl)
    (hQ : ∀ c a w, Q (.panic c) (a.put d v) w → Q (.panic c) a w := by exact fun _ _ _ h => h) (hw : Region.wanted ⟨d, op, ty, pos, af, gd⟩ (yielded ops a.tmps) = true := by rfl) : wpAny P md ops Q (fuel + 1) listed a w :=
  wpAny_take hi hs hf hr hQ (Or.inl ⟨hw, hy⟩) h
theorem zOH (i : Nat) {d : Option Tmp} {op : Op} {ty : TypeId} {pos : String} {af : Array Edge} {gd : Option (Nat × Bool)} {fuel : Nat} {listed : Array Bool} {a : Act} {w : World} (hi : ops[i]? = some ⟨d, op, ty, pos, af, gd⟩)
    (h : ∀ K' : Act → World → Prop, Shut (∀ a w, S w → (S w → wpAnyH P md ops Q S fuel (listed.setIfInBounds i true) a w) → K' a w) → if Region.wanted ⟨d, op, ty, pos, af, gd⟩ (yielded ops a.tmps) = true then Oper.wp P ⟨d, op, ty, pos, af, gd⟩ a w K' Q else K' (a.put d undef) w)
    (hr : Region.ready md ops listed = [i] := by kernel_rfl) : wpAnyH P md ops Q S (fuel + 1) listed a w := wpAnyH_ready hr (by simp) (AllReadyH.cons hi h AllReadyH.nil)
theorem zO (i : Nat) {d : Option Tmp} {op : Op} {ty : TypeId} {pos : String} {af : Array Edge} {gd : Option (Nat × Bool)} {fuel : Nat} {listed : Array Bool} {a : Act} {w : World} (hi : ops[i]? = some ⟨d, op, ty, pos, af, gd⟩)
    (h : ∀ K' : Act → World → Prop, (∀ a w, wpAny P md ops Q fuel (listed.setIfInBounds i true) a w → K' a w) → if Region.wanted ⟨d, op, ty, pos, af, gd⟩ (yielded ops a.tmps) = true then Oper.wp P ⟨d, op, ty, pos, af, gd⟩ a w K' Q else K' (a.put d undef) w)
    (hr : Region.ready md ops listed = [i] := by kernel_rfl) : wpAny P md ops Q (fuel + 1) listed a w := wpAny_ready hr (by simp) (AllReady.cons hi h AllReady.nil)
def zB (n m : Nat) : Array Bool := ((List.range n).map (fun i => m.testBit i)).toArray
end
end Go.Proofs.YtjpnbdofbkoddaaDoorW.PrintMore
