import Derived.Test.YtlabemdiocgjoaaDoorMode
namespace Go.Proofs.YtlabemdiocgjoaaDoor.Mode
open Go.RowKit Go.Proofs.YtlabemdiocgjoaaDoorW.PrintWords Go.Proofs.YtlabemdiocgjoaaDoorW.PrintLast Go.Proofs.YtlabemdiocgjoaaDoorW.PrintMore
set_option linter.unusedVariables false
set_option linter.unusedSimpArgs false
theorem has_of (s c b : Int) : PModeTells.mode_Mode_has.f s c b = some (decide (0 ≤ s ∧ s < 3 ∧ 1 ≤ c ∧ c ≤ 2 ∧ 0 ≤ b ∧ b < 3 + s)) := by
  unfold PModeTells.mode_Mode_has.f PModeTells.mode_Mode_Bands.f PModeTells.mode_Mode_Right.f
  by_cases h : 0 ≤ s ∧ s < 3 ∧ 1 ≤ c ∧ c ≤ 2
  · obtain ⟨h1, h2, h3, h4⟩ := h
    have hw : wrap64 (3 + s) = 3 + s := by
      have : s = 0 ∨ s = 1 ∨ s = 2 := by omega
      rcases this with rfl | rfl | rfl <;> decide +kernel
    rw [if_pos h1, if_pos h2, if_pos h3, decide_eq_true h4, Option.bind_some, if_pos rfl, Option.bind_some, hw]
    by_cases hb : b ≥ 0
    · rw [if_pos hb]
      congr 1
      exact decide_eq_decide.mpr ⟨fun h => ⟨h1, h2, h3, h4, hb, h⟩, fun h => h.2.2.2.2.2⟩
    · rw [if_neg hb, decide_eq_false (by omega)]
  · by_cases hb : b ≥ 0
    · rw [if_pos hb]
      have e : (if s ≥ 0 then (if s < 3 then (if c ≥ 1 then (some (decide (c ≤ 2))) else (some false)) else (some false)) else (some false)) = some false := by
        repeat' split
        all_goals first | rfl | (rw [decide_eq_false (by omega)])
      rw [e, Option.bind_some, if_neg (by decide), Option.bind_some, decide_eq_false (by omega), decide_eq_false (by omega)]
    · rw [if_neg hb, decide_eq_false (by omega)]
theorem of_16 (w : World) : Calls Tryd.prog 8 #[.int .i64 16, .int .i64 2] w fun e w' => e = .returned (.tuple #[.agg #[.int .i64 1, .int .i64 2], .int .i64 0]) ∧ Below w.heap.size w w' :=
  PModeOf.mode_Of.calls 20 16 2 1 2 0 w (by decide +kernel)
theorem bands_12 (w : World) : Calls Tryd.prog 14 #[.agg #[.int .i64 1, .int .i64 2]] w fun e w' => e = .returned (.int .i64 4) ∧ Below w.heap.size w w' :=
  PModeTells.mode_Mode_Bands.calls 1 2 4 w (by decide +kernel)
theorem samples_12 (w : World) : Calls Tryd.prog 17 #[.agg #[.int .i64 1, .int .i64 2]] w fun e w' => e = .returned (.int .i64 32) ∧ Below w.heap.size w w' :=
  PModeTells.mode_Mode_Samples.calls 1 2 32 w (by decide +kernel)
theorem from_12 (w : World) (hL : Laid w) : Calls Tryd.prog 16 #[.agg #[.int .i64 1, .int .i64 2], .int .i64 3] w fun e w' => e = .returned (.int .i64 8) ∧ Below w.heap.size w w' :=
  from_in 1 2 3 (by decide) (by decide +kernel) w hL
set_option maxHeartbeats 1000000 in
set_option maxRecDepth 100000 in
theorem awake (w : World) (hL : Laid w) : Calls Tryd.prog 7 #[] w fun e w' => e = .returned (.bool true) ∧ Below w.heap.size w w' := by
  have hu24 := Tryd.underlying24
  have HB := Aside0.mk (Below.refl w.heap.size w)
  have HL := Aside0.mk hL
  clear hL
  go_enter Tryd.func7, Tryd.ntmps7
  go_wp2_with (first | (go_at_call 8; (with_reducible refine (of_16 _).mono ?_); rintro e w1 ⟨rfl, hb⟩; have n0 := Aside0.mk (below_step HB.out hb); clear HB; have HB := n0; clear n0; have m0 := Aside0.mk (HL.out.below hb); clear HL; have HL := m0; clear m0;  clear hb) | (go_at_call 14; (with_reducible refine (bands_12 _).mono ?_); rintro e w2 ⟨rfl, hb⟩; have n0 := Aside0.mk (below_step (below_alloc HB.out _) hb); clear HB; have HB := n0; clear n0; have m0 := Aside0.mk (HL.out.below (below_step (below_alloc (Below.refl _ _) _) hb)); clear HL; have HL := m0; clear m0; have hc0 := pw_cell_below (a := ⟨w1.heap.size, 0, none⟩) (v := .int .i64 (1)) hb (by simp); have hc1 := pw_cell_below (a := ⟨w1.heap.size, 1, none⟩) (v := .int .i64 (2)) hb (by simp); clear hb) | (go_at_call 16; (with_reducible refine (from_12 _ HL.out).mono ?_); rintro e w2 ⟨rfl, hb⟩; have n0 := Aside0.mk (below_step HB.out hb); clear HB; have HB := n0; clear n0; have m0 := Aside0.mk (HL.out.below hb); clear HL; have HL := m0; clear m0; have m0 := pw_cell_below hb hc0; have m1 := pw_cell_below hb hc1; clear hc0 hc1; have hc0 := m0; have hc1 := m1; clear m0 m1 hb) | (go_at_call 17; (with_reducible refine (samples_12 _).mono ?_); rintro e w2 ⟨rfl, hb⟩; have n0 := Aside0.mk (below_step HB.out hb); clear HB; have HB := n0; clear n0; have m0 := Aside0.mk (HL.out.below hb); clear HL; have HL := m0; clear m0; have m0 := pw_cell_below hb hc0; have m1 := pw_cell_below hb hc1; clear hc0 hc1; have hc0 := m0; have hc1 := m1; clear m0 m1 hb))
  go_ret
  exact ⟨rfl, HB.out⟩
end Go.Proofs.YtlabemdiocgjoaaDoor.Mode
