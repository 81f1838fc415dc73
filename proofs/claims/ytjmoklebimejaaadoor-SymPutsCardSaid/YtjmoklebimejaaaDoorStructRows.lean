import Derived.Test.YtjmoklebimejaaaDoorWMore
import Derived.Deep.Slices
/-! A slice of structs of whole numbers, opened: each element's numbers, cell by cell. -/
namespace Go.Proofs.YtjmoklebimejaaaDoor.StructRows
open Go.RowKit Go.ChangeShapes Go.WideShapes Go.Deep
section
variable {H : Type} {enc : TypeId × Value → H} {P : Program} {w : World} {base : Nat} {spare : Nat → Bool} {held : Bool}
theorem elem_ints {e : TypeId} {fs : Array Field} {ks : List IntKind} {fuel : Nat} {cs : List Value} {x : DataW H × List MemPlace} (he : P.underlying e = some (.struct fs)) (hs : fs.size = ks.length) (hce : P.cellsOf e = ks.length)
    (hf : ∀ j k, ks[j]? = some k → ∃ f : Field, fs[j]? = some f ∧ f.offset = j ∧ P.cellsOf f.type = 1 ∧ P.underlying f.type = some (.int k))
    (h : DataW.trod enc P w base spare held fuel e cs = some x) :
    ∃ z : List Int, z.length = ks.length ∧ ∀ j k, ks[j]? = some k → cs[j]? = some (.int k (z.getD j 0)) ∧ (Lit.int k (z.getD j 0)).wf = true := by
  obtain ⟨xs, n, _, _, hl, hxl, hx⟩ := DataW.trod_struct he h
  have each : ∀ j, j < ks.length → ∃ q : Int, ∀ k, ks[j]? = some k → cs[j]? = some (.int k q) ∧ (Lit.int k q).wf = true := by
    intro j hj
    obtain ⟨f, h1, h2, h3, h4⟩ := hf j _ (List.getElem?_eq_getElem hj)
    have h5 := hx j f h1
    rw [h2, h3, List.getElem?_eq_getElem (by omega)] at h5
    obtain ⟨q, h6, _, h7⟩ := DataW.trod_int h4 h5
    refine ⟨q, fun k hk => ?_⟩
    rw [List.getElem?_eq_getElem hj] at hk
    injection hk with hk
    subst hk
    refine ⟨?_, h7⟩
    have h8 := congrArg (fun l : List Value => l[0]?) h6
    simp only [List.getElem?_take, List.getElem?_drop] at h8
    simpa using h8
  obtain ⟨F, hF⟩ := choose_lt each
  refine ⟨(List.range ks.length).map F, by simp, fun j k hk => ?_⟩
  have hj : j < ks.length := (List.getElem?_eq_some_iff.1 hk).1
  have e1 : ((List.range ks.length).map F).getD j 0 = F j := by
    rw [List.getD_eq_getElem?_getD, List.getElem?_map, List.getElem?_range hj]; rfl
  rw [e1]
  exact hF j hj k hk
end
/-- A slice of structs that came in: its elements' numbers. -/
def Rows (ks : List IntKind) (w : World) (A : Option Addr) (len cap : Nat) (zs : List (List Int)) : Prop :=
  len ≤ cap ∧ zs.length = len ∧ len ≤ 9223372036854775807 ∧ (∀ z ∈ zs, ∀ j k, ks[j]? = some k → (Lit.int k (z.getD j 0)).wf = true) ∧
      (0 < len → ∃ ad, A = some ad ∧ ∀ i z, zs[i]? = some z → ∀ j k, ks[j]? = some k → w.cell? (ad.add (i * ks.length + j)) = some (.int k (z.getD j 0)))
section
variable {H : Type} {enc : TypeId × Value → H} {P : Program} {w : World} {base : Nat} {spare : Nat → Bool} {held : Bool}
/-- A slice that came in. -/
theorem open_structs {t e : TypeId} {fs : Array Field} {ks : List IntKind} {fuel : Nat} {cs : List Value} {x : DataW H × List MemPlace} (ht : P.underlying t = some (.slice e)) (he : P.underlying e = some (.struct fs)) (hs : fs.size = ks.length) (hce : P.cellsOf e = ks.length)
    (hf : ∀ j k, ks[j]? = some k → ∃ f : Field, fs[j]? = some f ∧ f.offset = j ∧ P.cellsOf f.type = 1 ∧ P.underlying f.type = some (.int k))
    (h : DataW.trod enc P w base spare held fuel t cs = some x) :
    ∃ (A : Option Addr) (len cap : Nat) (zs : List (List Int)), cs = [.slice A len cap] ∧ Rows ks w A len cap zs := by
  rcases open_slice ht h with ⟨rfl, _⟩ | ⟨a, len, cap, m, n, D, Pl, rfl, hb, hl, hm, hmm, rfl, hx⟩
  · exact ⟨none, 0, 0, [], rfl, by omega, rfl, by omega, by simp, by omega⟩
  · have each : ∀ i, i < len → ∃ z : List Int, ∀ j k, ks[j]? = some k → w.cell? (a.add (i * ks.length + j)) = some (.int k (z.getD j 0)) ∧ (Lit.int k (z.getD j 0)).wf = true := by
      intro i hi
      obtain ⟨cs', h1, h2⟩ := hx i (by rw [hmm]; split <;> omega)
      obtain ⟨_, hlen, hcell⟩ := World.cells?_some h1
      obtain ⟨z, hz, hz2⟩ := elem_ints he hs hce hf h2
      refine ⟨z, fun j k hk => ?_⟩
      have hj : j < ks.length := (List.getElem?_eq_some_iff.1 hk).1
      have h3 := hcell j (by omega)
      rw [add_add, hce] at h3
      exact ⟨h3.trans (hz2 j k hk).1, (hz2 j k hk).2⟩
    obtain ⟨F, hF⟩ := choose_lt each
    refine ⟨some a, len, cap, (List.range len).map F, rfl, hl, by simp, Nat.le_trans hl (Nat.le_trans hm (by decide)), ?_, fun _ => ⟨a, rfl, ?_⟩⟩
    · intro z hz j k hk
      obtain ⟨i, hi, rfl⟩ := List.mem_map.1 hz
      exact (hF i (List.mem_range.1 hi) j k hk).2
    · intro i z hz j k hk
      rw [List.getElem?_map] at hz
      have hi : i < len := by
        rcases Nat.lt_or_ge i len with h | h
        · exact h
        · rw [List.getElem?_eq_none (by simpa using h)] at hz; cases hz
      rw [List.getElem?_range hi] at hz
      injection hz with hz
      subst hz
      exact (hF i hi j k hk).1
end
end Go.Proofs.YtjmoklebimejaaaDoor.StructRows
