import Derived.Test.YtgjanpbpggblmaaDoorPSpreadTellsx3
import Derived.LoopTactic
import Derived.Test.YtgjanpbpggblmaaDoorRows
import Derived.Lib.LaidTab
import Derived.LaidMore
import Derived.Stop.Joined
namespace Go.Proofs.YtgjanpbpggblmaaDoor.Spread
open Go.RowKit Go.Proofs.YtgjanpbpggblmaaDoorW.PrintWords Go.Proofs.YtgjanpbpggblmaaDoorW.PrintLast Go.Proofs.YtgjanpbpggblmaaDoorW.PrintMore
open Go.Lib (tabData mapM_at mapM_length cells_of_tab)
attribute [local go_sem] max2_int min2_int max_two min_two max_three min_three max_four min_four   -- for this text's walks alone
set_option linter.unusedVariables false
set_option linter.unusedSimpArgs false

/-- An array of arrays of numbers that reads as the table holds the table's numbers, cell for cell. -/
theorem cells_of_tab2 {H : Type} {enc : TypeId × Value → H} {P : Program} {w : World} {base : Nat} {sp : Nat → Bool} {held : Bool} {fuel : Nat} {t e f : TypeId} {n m : Nat} {k : IntKind} {cs : List Value} {zss : List (List Int)} {p : List MemPlace}
    (ht : P.underlying t = some (.array n e)) (he : P.underlying e = some (.array m f)) (hf : P.underlying f = some (.int k)) (hcf : P.cellsOf f = 1) (hce : P.cellsOf e = m) (hct : P.cellsOf t = n * m)
    (h : DataW.trod enc P w base sp held fuel t cs = some (.agg (zss.map (tabData k)), p)) : cs.length = n * m ∧ zss.length = n ∧ ∀ i : Nat, i < n → (cs.drop (i * m)).take m = (zss.getD i []).map fun z => Value.int k z := by
  cases fuel with
  | zero => simp [DataW.trod] at h
  | succ fuel =>
    simp only [DataW.trod, ht, hce, hct] at h
    split at h
    · rename_i hl
      obtain ⟨xs, hm, hx⟩ := Option.map_eq_some_iff.1 h
      have hxs : xs.map (·.1) = zss.map (tabData (H := H) k) := by
        have := congrArg Prod.fst hx
        simpa using this
      have hxl : xs.length = n := by simpa using mapM_length hm
      have hzl : zss.length = n := by
        have := congrArg List.length hxs
        simp at this
        omega
      refine ⟨by simpa using hl, hzl, fun i hi => ?_⟩
      obtain ⟨b, hb, hg⟩ := mapM_at hm i i (by simp [hi])
      have h2 : (xs.map (·.1))[i]? = some b.1 := by simp [hb]
      rw [hxs, List.getElem?_map] at h2
      obtain ⟨zs, hz, hbz⟩ := Option.map_eq_some_iff.1 h2
      have hgd : zss.getD i [] = zs := by simp [List.getD, hz]
      rw [hgd]
      exact cells_of_tab (zs := zs) (p := b.2) he hf hcf hce (hg.trans (by rw [hbz]))
    · cases h
def cosines : List Int := [32768, 32138, 30274, 27246]
def sines : List Int := [0, 6393, 12540, 18205]
/-- The table lies in its variable. -/
def Laid (w : World) : Prop := ∀ i : Nat, i < 4 → w.cell? ⟨0, i * 2, none⟩ = some (.int .i64 (cosines.getD i 0)) ∧ w.cell? ⟨0, i * 2 + 1, none⟩ = some (.int .i64 (sines.getD i 0))
theorem Laid.below {w w' : World} (h : Laid w) (hb : Below w.heap.size w w') : Laid w' := fun i hi => ⟨pw_cell_below hb (h i hi).1, pw_cell_below hb (h i hi).2⟩
theorem gAngles : Tryd.prog.globalNamed "spinet/spread.angles" = some 0 := by kernel_rfl
def table : List (List Int) := [[32768, 0], [32138, 6393], [30274, 12540], [27246, 18205]]
theorem table_at : ∀ i : Nat, i < 4 → table.getD i [] = [cosines.getD i 0, sines.getD i 0] := by decide
theorem of_laid {W : World} (h : laidMetH Tryd.prog [("spinet/spread.angles", Rows.laid_spinet_spread_angles)] W) : Laid W := by
  rw [MakeChecks.laidMetH_plain _ _ _ (by kernel_rfl)] at h
  obtain ⟨ps, ⟨g', t', cs, fuel, p, q, hg', ht', hvar, hd, _, _⟩, _⟩ := h
  obtain rfl := Option.some.inj (gAngles.symm.trans hg')
  have hty : (Tryd.prog.globals[0]?).map (·.type) = some 42 := by kernel_rfl
  obtain rfl := Option.some.inj (hty.symm.trans ht')
  obtain ⟨hl, _, hrow⟩ := cells_of_tab2 (zss := table) (n := 4) (m := 2) (k := .i64) Tryd.underlying42 Tryd.underlying41 Tryd.underlying2 (by kernel_rfl) (by kernel_rfl) (by kernel_rfl) hd
  intro i hi
  have hr := hrow i hi
  rw [table_at i hi] at hr
  have c0 : cs[i * 2]? = some (.int .i64 (cosines.getD i 0)) := by
    have := congrArg (·[0]?) hr
    simpa [List.getElem?_take, List.getElem?_drop] using this
  have c1 : cs[i * 2 + 1]? = some (.int .i64 (sines.getD i 0)) := by
    have := congrArg (·[1]?) hr
    simpa [List.getElem?_take, List.getElem?_drop] using this
  refine ⟨?_, ?_⟩
  · have := World.var?_cell gAngles hvar (i * 2)
    simpa [c0] using this
  · have := World.var?_cell gAngles hvar (i * 2 + 1)
    simpa [c1] using this

/-- Which row of the table. -/
def row (a : Int) : Nat := if a ≤ 0 then 0 else if a = 1 then 1 else if a = 2 then 2 else 3
def co (a : Int) : Int := cosines.getD (row a) 0
def si (a : Int) : Int := sines.getD (row a) 0
theorem row_lt (a : Int) : row a < 4 := by unfold row; repeat' split
                                           all_goals omega
set_option maxHeartbeats 1000000 in
set_option maxRecDepth 100000 in
theorem angle_at (a : Int) (i : Nat) (c s : Int) (h : a < 0 ∧ i = 0 ∨ a = 0 ∧ i = 0 ∨ a = 1 ∧ i = 1 ∨ a = 2 ∧ i = 2 ∨ a = 3 ∧ i = 3 ∨ 3 < a ∧ i = 3) (w : World) (h0 : w.cell? ⟨0, i * 2, none⟩ = some (.int .i64 c)) (h1 : w.cell? ⟨0, i * 2 + 1, none⟩ = some (.int .i64 s)) :
    Calls Tryd.prog 13 #[.int .i64 a] w fun e w' => e = .returned (.tuple #[.int .i64 c, .int .i64 s]) ∧ Below w.heap.size w w' := by
  have hu41 := Tryd.underlying41
  have HB := Aside0.mk (Below.refl w.heap.size w)
  rcases h with ⟨ha, rfl⟩ | ⟨rfl, rfl⟩ | ⟨rfl, rfl⟩ | ⟨rfl, rfl⟩ | ⟨rfl, rfl⟩ | ⟨ha, rfl⟩
  all_goals
    simp only [Nat.zero_mul, Nat.one_mul, Nat.zero_add, Nat.reduceMul, Nat.reduceAdd] at h0 h1
    go_enter Tryd.func13, Tryd.ntmps13
    go_wp2
    go_quiet (fail)
    go_wp2
    go_ret2
    exact ⟨rfl, pw_below_drewN (below_alloc HB.out _) _⟩
theorem angle_any (a : Int) (w : World) (hL : Laid w) : Calls Tryd.prog 13 #[.int .i64 a] w fun e w' => e = .returned (.tuple #[.int .i64 (co a), .int .i64 (si a)]) ∧ Below w.heap.size w w' := by
  refine angle_at a (row a) _ _ ?_ w (hL _ (row_lt a)).1 (hL _ (row_lt a)).2
  unfold row
  repeat' split
  all_goals omega
end Go.Proofs.YtgjanpbpggblmaaDoor.Spread
