import Derived.Test.YtjpnbdofbkoddaaDoorWMoreT
import Derived.Deep.Slices
import Derived.Deep.MidRow
import Derived.Great.BuildSlice
import Derived.OpenShut
import Derived.Deep.WholeRow
set_option linter.unusedVariables false
set_option linter.unusedSimpArgs false
namespace Go.Proofs.YtjpnbdofbkoddaaDoor.Arrs
open Go.RowKit Go.ChangeShapes Go.WideShapes Go.Deep Go.Proofs.YtjpnbdofbkoddaaDoorW.PrintWords
section
variable {H : Type} {enc : TypeId × Value → H} {P : Program} {w : World} {base : Nat} {spare : Nat → Bool} {held : Bool}
theorem nums_at {k : IntKind} {xs : List Int} {j : Nat} (h : j < xs.length) : (nums k xs)[j]? = some (.int k (rd xs j)) := by
 unfold nums rd
 rw [List.getElem?_map, List.getElem?_eq_getElem h, Int.toNat_natCast, List.getD_eq_getElem?_getD, List.getElem?_eq_getElem h]
 rfl
theorem trod_ints {e t : TypeId} {n : Nat} {k : IntKind} {fuel : Nat} {cs : List Value} {x : DataW H × List MemPlace} (ht : P.underlying t = some (.array n e)) (he : P.underlying e = some (.int k)) (hce : P.cellsOf e = 1) (hct : P.cellsOf t = n)
 (h : DataW.trod enc P w base spare held fuel t cs = some x) : ∃ xs : List Int, xs.length = n ∧ cs = nums k xs ∧ ∀ z ∈ xs, (Lit.int k z).wf = true := by
 obtain ⟨ys, m, rfl, rfl, hl, hyl, hy⟩ := DataW.trod_array ht h
 have each : ∀ j, j < n → ∃ q : Int, cs[j]? = some (.int k q) ∧ (Lit.int k q).wf = true := by
  intro j hj
  have h5 := hy j hj
  rw [hce, Nat.mul_one, List.getElem?_eq_getElem (by omega)] at h5
  obtain ⟨q, h6, _, h7⟩ := DataW.trod_int he h5
  have h8 := congrArg (fun l : List Value => l[0]?) h6
  simp only [List.getElem?_take, List.getElem?_drop] at h8
  exact ⟨q, by simpa using h8, h7⟩
 obtain ⟨F, hF⟩ := choose_lt each
 refine ⟨(List.range n).map F, by simp, ?_, ?_⟩
 ·apply List.ext_getElem?
  intro j
  by_cases hj : j < n
  ·rw [(hF j hj).1]; simp [nums, List.getElem?_map, List.getElem?_range hj]
  ·rw [List.getElem?_eq_none (by omega), List.getElem?_eq_none (by simp [nums]; omega)]
 ·intro z hz
  obtain ⟨i, hi, rfl⟩ := List.mem_map.1 hz
  exact (hF i (List.mem_range.1 hi)).2
theorem open_arr {r : Reach} {b0 : Nat} {t e : TypeId} {n : Nat} {k : IntKind} {v : Value} {d : DataW H} {p : List MemPlace} (ht : P.underlying t = some (.array n e)) (he : P.underlying e = some (.int k)) (hce : P.cellsOf e = 1) (hct : P.cellsOf t = n)
 (hv : Value.okWide P w r b0 t v) (h : DataW.Trod enc P w base spare held t v d p) :
 ∃ xs : List Int, xs.length = n ∧ v = .agg (nums k xs).toArray ∧ ∀ z ∈ xs, (Lit.int k z).wf = true := by
 simp only [Value.okWide, ht] at hv
 obtain ⟨cs, rfl, hsz, _⟩ := hv
 obtain ⟨fuel, hf⟩ := h
 obtain ⟨xs, hn, hc, hw⟩ := trod_ints ht he hce hct hf
 refine ⟨xs, hn, ?_, hw⟩
 have : cs.toList = nums k xs := by simpa [Value.cells] using hc
 rw [← this]
end
section
variable {w : World}
end
section
variable {P : Program} {ops : Array Oper} {rest : List Oper} {op : Oper} {a : Act} {w : World} {Q : Exit → Act → World → Prop}
end
def ARows (k : IntKind) (n : Nat) (w : World) (A : Option Addr) (len cap : Nat) (zs : List (List Int)) : Prop :=
 len ≤ cap ∧ zs.length = len ∧ len ≤ 9223372036854775807 ∧ (∀ z ∈ zs, z.length = n ∧ ∀ x ∈ z, (Lit.int k x).wf = true) ∧
  (0 < len → ∃ ad, A = some ad ∧ ∀ i z, zs[i]? = some z → ∀ j v, (nums k z)[j]? = some v → w.cell? ((ad.add (i * n)).add j) = some v)
section
variable {H : Type} {enc : TypeId × Value → H} {P : Program} {w : World} {base : Nat} {spare : Nat → Bool} {held : Bool}
theorem ARows.below {k : IntKind} {n : Nat} {w w' : World} {A : Option Addr} {len cap : Nat} {zs : List (List Int)} (h : ARows k n w A len cap zs) (hb : Below w.heap.size w w') : ARows k n w' A len cap zs :=
 ⟨h.1, h.2.1, h.2.2.1, h.2.2.2.1, fun hp => by
  obtain ⟨ad, h1, h2⟩ := h.2.2.2.2 hp
  exact ⟨ad, h1, fun i z hz j v hv => pw_cell_below hb (h2 i z hz j v hv)⟩⟩
end
section
variable {P : Program} {ops : Array Oper} {rest : List Oper} {op : Oper} {a : Act} {w : World} {Q : Exit → Act → World → Prop}
end
section
variable {w w' : World} {base g n c : Nat} {e : TypeId} {ok : Nat → Prop} {k : IntKind} {xs ys : List Int}
end
theorem set_nums (k : IntKind) (xs : List Int) (i : Nat) (y : Int) : (nums k xs).toArray.setIfInBounds i (.int k y) = (nums k (xs.set i y)).toArray := by
 unfold nums
 rw [List.map_set]
 simp
theorem blk_set1 {w : World} {g : Nat} {k : IntKind} {xs : List Int} {t : TypeId} (h : w.heap[g]? = some (.cells (nums k xs).toArray t (0, 0))) (i : Nat) (y : Int) : (w.setCell ⟨g, i, none⟩ (.int k y)).heap[g]? = some (.cells (nums k (xs.set i y)).toArray t (0, 0)) := by
 have e := blk_set h i (.int k y)
 rw [set_nums] at e
 exact e
end Go.Proofs.YtjpnbdofbkoddaaDoor.Arrs
