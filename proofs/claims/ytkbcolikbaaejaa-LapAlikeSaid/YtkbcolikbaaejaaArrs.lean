import Derived.Test.YtkbcolikbaaejaaWMore
import Derived.Deep.Slices
import Derived.Deep.MidRow
import Derived.Great.BuildSlice
import Derived.OpenShut
import Derived.Deep.WholeRow
/-! Arrays of whole numbers, of any length: as an argument, read at a place, loaded and stored whole. -/
namespace Go.Proofs.Ytkbcolikbaaejaa.Arrs
open Go.RowKit Go.ChangeShapes Go.WideShapes Go.Deep Go.Proofs.YtkbcolikbaaejaaW.PrintWords
set_option linter.unusedVariables false
set_option linter.unusedSimpArgs false
section
variable {H : Type} {enc : TypeId × Value → H} {P : Program} {w : World} {base : Nat} {spare : Nat → Bool} {held : Bool}
theorem nums_at {k : IntKind} {xs : List Int} {j : Nat} (h : j < xs.length) : (nums k xs)[j]? = some (.int k (rd xs j)) := by
  unfold nums rd
  rw [List.getElem?_map, List.getElem?_eq_getElem h, Int.toNat_natCast, List.getD_eq_getElem?_getD, List.getElem?_eq_getElem h]
  rfl
/-- The cells of an array of whole numbers. -/
theorem trod_ints {e t : TypeId} {n : Nat} {k : IntKind} {fuel : Nat} {cs : List Value} {x : DataW H × List MemPlace} (ht : P.underlying t = some (.array n e)) (he : P.underlying e = some (.int k)) (hce : P.cellsOf e = 1) (hct : P.cellsOf t = n)
    (h : DataW.trod enc P w base spare held fuel t cs = some x) : ∃ xs : List Int, xs.length = n ∧ cs = nums k xs ∧ ∀ z ∈ xs, (Lit.int k z).wf = true := by
  obtain ⟨ys, m, rfl, rfl, hl, hyl, hy⟩ := DataW.trod_array ht h
  have each : ∀ j, j < n → ∃ q : Int, cs[j]? = some (.int k q) ∧ (Lit.int k q).wf = true := by
    intro j hj
    have h5 := hy j hj
    rw [hce, Nat.mul_one, List.getElem?_eq_getElem (by omega)] at h5
    obtain ⟨q, h6, _, h7⟩ := DataW.trod_int he h5
    have h8 := congrArg (fun l : List Value => l[0]?) h6
    simp only [List.getElem?_take, List.getElem?_drop] at h8
    exact ⟨q, by simpa using h8, h7⟩
  obtain ⟨F, hF⟩ := choose_lt each
  refine ⟨(List.range n).map F, by simp, ?_, ?_⟩
  · apply List.ext_getElem?
    intro j
    by_cases hj : j < n
    · rw [(hF j hj).1]; simp [nums, List.getElem?_map, List.getElem?_range hj]
    · rw [List.getElem?_eq_none (by omega), List.getElem?_eq_none (by simp [nums]; omega)]
  · intro z hz
    obtain ⟨i, hi, rfl⟩ := List.mem_map.1 hz
    exact (hF i (List.mem_range.1 hi)).2
/-- An array of whole numbers, as an argument. -/
theorem open_arr {r : Reach} {b0 : Nat} {t e : TypeId} {n : Nat} {k : IntKind} {v : Value} {d : DataW H} {p : List MemPlace} (ht : P.underlying t = some (.array n e)) (he : P.underlying e = some (.int k)) (hce : P.cellsOf e = 1) (hct : P.cellsOf t = n)
    (hv : Value.okWide P w r b0 t v) (h : DataW.Trod enc P w base spare held t v d p) :
    ∃ xs : List Int, xs.length = n ∧ v = .agg (nums k xs).toArray ∧ ∀ z ∈ xs, (Lit.int k z).wf = true := by
  simp only [Value.okWide, ht] at hv
  obtain ⟨cs, rfl, hsz, _⟩ := hv
  obtain ⟨fuel, hf⟩ := h
  obtain ⟨xs, hn, hc, hw⟩ := trod_ints ht he hce hct hf
  refine ⟨xs, hn, ?_, hw⟩
  have : cs.toList = nums k xs := by simpa [Value.cells] using hc
  rw [← this]
/-- An array of arrays of whole numbers, as an argument: its numbers, one array behind the other. -/
theorem open_arrs {r : Reach} {b0 : Nat} {t u e : TypeId} {m n : Nat} {k : IntKind} {v : Value} {d : DataW H} {p : List MemPlace} (ht : P.underlying t = some (.array m u)) (hu : P.underlying u = some (.array n e)) (he : P.underlying e = some (.int k)) (hce : P.cellsOf e = 1) (hcu : P.cellsOf u = n) (hct : P.cellsOf t = m * n)
    (hv : Value.okWide P w r b0 t v) (h : DataW.Trod enc P w base spare held t v d p) :
    ∃ xs : List Int, xs.length = m * n ∧ v = .agg (nums k xs).toArray ∧ ∀ z ∈ xs, (Lit.int k z).wf = true := by
  simp only [Value.okWide, ht] at hv
  obtain ⟨cs, rfl, hsz, _⟩ := hv
  obtain ⟨fuel, hf⟩ := h
  obtain ⟨ys, q, rfl, _, hl, hyl, hy⟩ := DataW.trod_array ht hf
  have hcs : (Value.agg cs).cells.toList = cs.toList := rfl
  rw [hcs] at hl hy
  have each : ∀ j, j < m * n → ∃ q : Int, cs.toList[j]? = some (.int k q) ∧ (Lit.int k q).wf = true := by
    intro j hj
    have hn : 0 < n := by
      rcases Nat.eq_zero_or_pos n with h | h
      · subst h; omega
      · exact h
    have hi : j / n < m := by rw [Nat.div_lt_iff_lt_mul hn]; exact hj
    have h5 := hy (j / n) hi
    rw [List.getElem?_eq_getElem (by omega)] at h5
    obtain ⟨zs, hz, hc, hw⟩ := trod_ints hu he hce hcu h5
    have hr := Nat.mod_lt j hn
    refine ⟨rd zs (j % n : Nat), ?_, hw _ ?_⟩
    · have h8 := congrArg (fun l : List Value => l[j % n]?) hc
      simp only [List.getElem?_take, List.getElem?_drop, nums_at (k := k) (xs := zs) (j := j % n) (by omega), hcu, if_pos hr] at h8
      have e : j / n * n + j % n = j := by rw [Nat.mul_comm]; exact Nat.div_add_mod j n
      rw [e] at h8
      exact h8
    · unfold rd; rw [Int.toNat_natCast, List.getD_eq_getElem?_getD, List.getElem?_eq_getElem (by omega)]; exact List.getElem_mem _
  obtain ⟨F, hF⟩ := choose_lt each
  have hsz2 : cs.toList.length = m * n := by rw [hl, hct]
  refine ⟨(List.range (m * n)).map F, by simp, ?_, ?_⟩
  · have : cs.toList = nums k ((List.range (m * n)).map F) := by
      apply List.ext_getElem?
      intro j
      by_cases hj : j < m * n
      · rw [(hF j hj).1]; simp [nums, List.getElem?_map, List.getElem?_range hj]
      · rw [List.getElem?_eq_none (by omega), List.getElem?_eq_none (by simp [nums]; omega)]
    rw [← this]
  · intro z hz
    obtain ⟨i, hi, rfl⟩ := List.mem_map.1 hz
    exact (hF i (List.mem_range.1 hi)).2
/-- A number of an array, by value. -/
theorem index_arr {t e : TypeId} {n : Nat} {k : IntKind} (ht : P.underlying t = some (.array n e)) (hse : (P.info? e).map (·.size) = some 1) (hag : ∀ w, (isAgg e).run P w = .ok false w) {xs : List Int} (hl : xs.length = n) (i : Nat) (hi : i < n) (w : World) :
    (Instr.index t (.agg (nums k xs).toArray) (.int .i64 (i : Int))).run P w = .ok (.int k (rd xs i)) w := by
  cases hq : P.info? e with
  | none => simp [hq] at hse
  | some ie =>
    have hs : ie.size = 1 := by simpa [hq] using hse
    have hn := nums_at (k := k) (xs := xs) (j := i) (by omega)
    unfold Instr.index
    simp only [Sem.run_bind, asIntOf, Sem.run_pure, Result.andThen_ok, run_underlying ht, sizeOf, typeInfo, hq]
    have hc : (0 : Int) ≤ (i : Int) ∧ (i : Int) < (n : Int) := by omega
    rw [if_pos hc]
    simp [part, Sem.run_bind, hag, hs, sizeOf, typeInfo, hq, hn]
end
section
variable {w : World}
/-- A block of numbers: a part of it lies there. -/
theorem range_nums {b : Nat} {k : IntKind} {xs : List Int} {t : TypeId} {fr : Nat × Nat} (hb : w.heap[b]? = some (.cells (nums k xs).toArray t fr)) (o n : Nat) (h : o + n ≤ xs.length) : w.rangeAt b o (nums k ((xs.drop o).take n)) := by
  intro j v hv
  rw [cell_of_row w b (o + j) _ t fr hb]
  have hj : j < n := by
    have := (List.getElem?_eq_some_iff.1 hv).1
    simp [nums] at this; omega
  rw [nums, List.getElem?_map, List.getElem?_take, if_pos hj, List.getElem?_drop] at hv
  rw [List.getElem?_toArray, nums, List.getElem?_map]
  exact hv
theorem range_all {b : Nat} {k : IntKind} {xs : List Int} {t : TypeId} {fr : Nat × Nat} (hb : w.heap[b]? = some (.cells (nums k xs).toArray t fr)) : w.rangeAt b 0 (nums k xs) := by
  have h := range_nums hb 0 xs.length (by omega)
  rwa [List.drop_zero, List.take_length] at h
theorem range_fst {b : Nat} {k : IntKind} {xs : List Int} {t : TypeId} {fr : Nat × Nat} (hb : w.heap[b]? = some (.cells (nums k xs).toArray t fr)) (n : Nat) (h : n ≤ xs.length) : w.rangeAt b 0 (nums k (xs.take n)) := by
  have h := range_nums hb 0 n (by omega)
  rwa [List.drop_zero] at h
theorem range_snd {b : Nat} {k : IntKind} {xs : List Int} {t : TypeId} {fr : Nat × Nat} (hb : w.heap[b]? = some (.cells (nums k xs).toArray t fr)) (n : Nat) (h : n ≤ xs.length) : w.rangeAt b n (nums k (xs.drop n)) := by
  have h := range_nums hb n (xs.length - n) (by omega)
  rwa [List.take_of_length_le (by simp)] at h
theorem oneCell_nums (k : IntKind) (xs : List Int) : (nums k xs).toArray.all (·.oneCell') = true := all_oneCell_toArray (fun v hv => by
  obtain ⟨x, _, rfl⟩ := List.mem_map.1 hv; rfl)
/-- A slice over a part of a block of numbers reads it. -/
theorem reads_block {b : Nat} {k : IntKind} {xs : List Int} {t : TypeId} {fr : Nat × Nat} (hb : w.heap[b]? = some (.cells (nums k xs).toArray t fr)) (o n : Nat) (h : o + n ≤ xs.length) (hm : n ≤ 9223372036854775807) : ReadsInt w k (some ⟨b, o, none⟩) n ((xs.drop o).take n) := by
  have hl : ((xs.drop o).take n).length = n := by simp; omega
  refine ⟨hl, hm, fun hp => ⟨_, rfl, fun i hi => ?_⟩⟩
  have hr := range_nums hb o n h i (.int k (((xs.drop o).take n).getD i 0)) (by
    rw [nums, List.getElem?_map, List.getD_eq_getElem?_getD, List.getElem?_eq_getElem (by omega)]; rfl)
  rw [Addr.add_mid]
  exact hr
end


section
variable {P : Program} {ops : Array Oper} {rest : List Oper} {op : Oper} {a : Act} {w : World} {Q : Exit → Act → World → Prop}
/-- A whole array of numbers is loaded. -/
theorem load_nums (hgd : op.guard = none) (ty : TypeId) (x : Operand) (ho : op.op = .load ty x) (b o : Nat) (hx : a.eval x = .pointer (some ⟨b, o, none⟩)) {n : Nat} {e : TypeId} (hu : P.underlying ty = some (.array n e)) (hi : (P.info? ty).map (·.size) = some n) (k : IntKind) (xs : List Int) (hl : xs.length = n) (hc : w.rangeAt b o (nums k xs))
    (h : wpList P ops Q rest (a.put op.dst (.agg (nums k xs).toArray)) w) : wpList P ops Q (op :: rest) a w :=
  wpList_load_mid hgd ty x ho b o hx (nums k xs) _ hc hu rfl (by rw [hi, nums_length, hl]) h
/-- A whole array of numbers is stored into the block that was made last. -/
theorem store_new (hgd : op.guard = none) (ty : TypeId) (x y : Operand) (ho : op.op = .store ty x y) (c : Array Value) (w0 : World) (hw : w = w0.alloc (.cells c ty)) (hx : a.eval x = .pointer (some ⟨w0.heap.size, 0, none⟩)) {n : Nat} (hn : c.size = n) (hi : (P.info? ty).map (·.size) = some n) (k : IntKind) (xs : List Int) (hl : xs.length = n)
    (hy : a.eval y = .agg (nums k xs).toArray) (h : wpList P ops Q rest (a.put op.dst undef) (w0.alloc (.cells (nums k xs).toArray ty))) : wpList P ops Q (op :: rest) a w := by
  subst hw
  refine wpList_plain hgd fun _ hK => ?_
  unfold Oper.wp execOp
  have hs : (nums k xs).toArray.size = n := by simp [nums, hl]
  simp only [ho, hx, hy, Instr.storeAt, Instr.sureAddr, Sem.run_bind, Sem.run_pure, Result.andThen_ok, run_storeVar_new (P := P) w0 ty c (nums k xs).toArray (by rw [hi, hs]) (by rw [hn, hs]) (oneCell_nums k xs)]
  exact hK _ _ h
end

/-! ### A slice of arrays that came in -/
/-- A slice of arrays of whole numbers that came in: its elements' numbers. -/
def ARows (k : IntKind) (n : Nat) (w : World) (A : Option Addr) (len cap : Nat) (zs : List (List Int)) : Prop :=
  len ≤ cap ∧ zs.length = len ∧ len ≤ 9223372036854775807 ∧ (∀ z ∈ zs, z.length = n ∧ ∀ x ∈ z, (Lit.int k x).wf = true) ∧
    (0 < len → ∃ ad, A = some ad ∧ ∀ i z, zs[i]? = some z → ∀ j v, (nums k z)[j]? = some v → w.cell? ((ad.add (i * n)).add j) = some v)
section
variable {H : Type} {enc : TypeId × Value → H} {P : Program} {w : World} {base : Nat} {spare : Nat → Bool} {held : Bool}
theorem open_slice_arr {t u e : TypeId} {n : Nat} {k : IntKind} {fuel : Nat} {cs : List Value} {x : DataW H × List MemPlace} (ht : P.underlying t = some (.slice u)) (hu : P.underlying u = some (.array n e)) (he : P.underlying e = some (.int k)) (hce : P.cellsOf e = 1) (hcu : P.cellsOf u = n)
    (h : DataW.trod enc P w base spare held fuel t cs = some x) :
    ∃ (A : Option Addr) (len cap : Nat) (zs : List (List Int)), cs = [.slice A len cap] ∧ ARows k n w A len cap zs := by
  rcases open_slice ht h with ⟨rfl, _⟩ | ⟨a, len, cap, m, q, D, Pl, rfl, hb, hl, hm, hmm, rfl, hx⟩
  · exact ⟨none, 0, 0, [], rfl, by omega, rfl, by omega, by simp, by omega⟩
  · have each : ∀ i, i < len → ∃ z : List Int, (z.length = n ∧ ∀ x ∈ z, (Lit.int k x).wf = true) ∧ ∀ j v, (nums k z)[j]? = some v → w.cell? ((a.add (i * n)).add j) = some v := by
      intro i hi
      obtain ⟨cs', h1, h2⟩ := hx i (by rw [hmm]; split <;> omega)
      obtain ⟨_, hlen, hcell⟩ := World.cells?_some h1
      obtain ⟨z, hz, hz2, hz3⟩ := trod_ints hu he hce hcu h2
      refine ⟨z, ⟨hz, hz3⟩, fun j v hv => ?_⟩
      have hj : j < n := by have := (List.getElem?_eq_some_iff.1 hv).1; rw [nums_length] at this; omega
      have h3 := hcell j (by omega)
      rw [hcu] at h3
      rw [h3, hz2]
      exact hv
    obtain ⟨F, hF⟩ := choose_lt each
    refine ⟨some a, len, cap, (List.range len).map F, rfl, hl, by simp, Nat.le_trans hl (Nat.le_trans hm (by decide)), ?_, fun _ => ⟨a, rfl, ?_⟩⟩
    · intro z hz
      obtain ⟨i, hi, rfl⟩ := List.mem_map.1 hz
      exact (hF i (List.mem_range.1 hi)).1
    · intro i z hz
      rw [List.getElem?_map] at hz
      have hi : i < len := by
        rcases Nat.lt_or_ge i len with h | h
        · exact h
        · rw [List.getElem?_eq_none (by simpa using h)] at hz; cases hz
      rw [List.getElem?_range hi] at hz
      injection hz with hz
      subst hz
      exact (hF i hi).2
theorem ARows.below {k : IntKind} {n : Nat} {w w' : World} {A : Option Addr} {len cap : Nat} {zs : List (List Int)} (h : ARows k n w A len cap zs) (hb : Below w.heap.size w w') : ARows k n w' A len cap zs :=
  ⟨h.1, h.2.1, h.2.2.1, h.2.2.2.1, fun hp => by
    obtain ⟨ad, h1, h2⟩ := h.2.2.2.2 hp
    exact ⟨ad, h1, fun i z hz j v hv => pw_cell_below hb (h2 i z hz j v hv)⟩⟩
end
section
variable {P : Program} {ops : Array Oper} {rest : List Oper} {op : Oper} {a : Act} {w : World} {Q : Exit → Act → World → Prop}
/-- A whole array of numbers is loaded from wherever it lies. -/
theorem load_at (hgd : op.guard = none) (ty : TypeId) (x : Operand) (ho : op.op = .load ty x) (ad : Addr) (hx : a.eval x = .pointer (some ad)) {n : Nat} {e : TypeId} (hu : P.underlying ty = some (.array n e)) (hi : (P.info? ty).map (·.size) = some n) (k : IntKind) (xs : List Int) (hl : xs.length = n) (hc : ∀ j v, (nums k xs)[j]? = some v → w.cell? (ad.add j) = some v)
    (h : wpList P ops Q rest (a.put op.dst (.agg (nums k xs).toArray)) w) : wpList P ops Q (op :: rest) a w := by
  refine wpList_plain hgd fun _ hK => ?_
  have hl2 := run_loadCells_list (P := P) w ad (nums k xs) hc
  rw [nums_length, hl] at hl2
  have hrun : (loadVar ty ad).run P w = .ok (.agg (nums k xs).toArray) w := by
    cases hq : P.info? ty with
    | none => simp [hq] at hi
    | some i =>
      have hs : i.size = n := by simpa [hq] using hi
      have hagg : (isAgg ty).run P w = .ok true w := by
        unfold isAgg
        rw [Sem.run_bind, run_underlying hu w]
        rfl
      simp [loadVar, Sem.run_bind, hagg, sizeOf, typeInfo, hq, hs, hl2]
  unfold Oper.wp execOp
  simp only [ho, hx, Instr.loadAt, Instr.sureAddr, Sem.run_bind, Sem.run_pure, Result.andThen_ok, hrun]
  exact hK _ _ h
end
/-! ### A slice of the walk's own: its block, whole -/
section
variable {w w' : World} {base g n c : Nat} {e : TypeId} {ok : Nat → Prop} {k : IntKind} {xs ys : List Int}
theorem R_open (h : Kd.R (Kd.int k) e w base ok (.slice (some ⟨g, 0, none⟩) n c) xs) : ∃ cur : Array Value, w.heap[g]? = some (.cells cur e (0, 0)) ∧ xs.length = n ∧ n ≤ c ∧ c ≤ maxLen ∧ cur.size = c ∧ cur.toList.take n = nums k xs ∧ base ≤ g ∧ ok g := by
  obtain ⟨hl, ho⟩ := Kd.own_of_R (enc := Value.int k) (h1 := fun _ => rfl) h
  rcases ho with ⟨h1, _⟩ | ⟨g', cap, cur, h1, h2, h3, h4, h5, h6, h7⟩
  · cases h1
  · injection h1 with e1 e2 e3
    injection e1 with e1
    injection e1 with e1
    subst e1 e2 e3
    exact ⟨cur, h3, rfl, h4, h5, by simpa using h6, by simpa [nums, encs] using h7, h2, h.1 _ rfl⟩
theorem R_close {cur : Array Value} (hb : w.heap[g]? = some (.cells cur e (0, 0))) (hl : xs.length = n) (hn : n ≤ c) (hc : c ≤ maxLen) (hs : cur.size = c) (ht : cur.toList.take n = nums k xs) (hg : base ≤ g) (hok : ok g) : Kd.R (Kd.int k) e w base ok (.slice (some ⟨g, 0, none⟩) n c) xs := by
  subst hl
  refine Kd.R_of_own (enc := Value.int k) (h1 := fun _ => rfl) ⟨by simp [encs], .inr ⟨g, c, cur, rfl, hg, hb, hn, hc, by simpa using hs, by simpa [nums, encs] using ht⟩⟩ (fun q hq => ?_)
  simp [Value.ownBlock] at hq
  subst hq
  exact hok
end
theorem set_nums (k : IntKind) (xs : List Int) (i : Nat) (y : Int) : (nums k xs).toArray.setIfInBounds i (.int k y) = (nums k (xs.set i y)).toArray := by
  unfold nums
  rw [List.map_set]
  simp
theorem blk_set1 {w : World} {g : Nat} {k : IntKind} {xs : List Int} {t : TypeId} (h : w.heap[g]? = some (.cells (nums k xs).toArray t (0, 0))) (i : Nat) (y : Int) : (w.setCell ⟨g, i, none⟩ (.int k y)).heap[g]? = some (.cells (nums k (xs.set i y)).toArray t (0, 0)) := by
  have e := blk_set h i (.int k y)
  rw [set_nums] at e
  exact e
theorem blk_set2 {w : World} {g : Nat} {k : IntKind} {xs : List Int} {t : TypeId} (h : w.heap[g]? = some (.cells (nums k xs).toArray t (0, 0))) (i j : Nat) (y z : Int) : ((w.setCell ⟨g, i, none⟩ (.int k y)).setCell ⟨g, j, none⟩ (.int k z)).heap[g]? = some (.cells (nums k ((xs.set i y).set j z)).toArray t (0, 0)) := blk_set1 (blk_set1 h i y) j z
/-- What follows a store at a place of a list that is told by its places. -/
theorem set_range (f : Nat → Int) (N p : Nat) (v : Int) : ((List.range N).map f).set p v = (List.range N).map (fun j => if j = p then v else f j) := by
  apply List.ext_getElem
  · simp
  · intro i h1 h2
    simp only [List.getElem_set, List.getElem_map, List.getElem_range]
    by_cases h : p = i
    · rw [if_pos h, if_pos h.symm]
    · rw [if_neg h, if_neg (fun e => h e.symm)]
end Go.Proofs.Ytkbcolikbaaejaa.Arrs
