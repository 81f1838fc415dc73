import Derived.Test.YtlabemdiocgjoaaDoorModeT
import Derived.Deep.RegionHeld3
import Derived.Deep.DrawnRows
namespace Go.Proofs.YtlabemdiocgjoaaDoor.Mode
open Go.RowKit Go.Proofs.YtlabemdiocgjoaaDoorW.PrintWords Go.Proofs.YtlabemdiocgjoaaDoorW.PrintLast Go.Proofs.YtlabemdiocgjoaaDoorW.PrintMore
set_option linter.unusedVariables false
set_option linter.unusedSimpArgs false
abbrev Rt (s c : Int) (r : Bool) : Prop := ∀ w, Calls Tryd.prog 12 #[.agg #[.int .i64 s, .int .i64 c]] w fun e w' => e = .returned (.bool r) ∧ Below w.heap.size w w'
abbrev Nn (s c r : Int) : Prop := ∀ w, Calls Tryd.prog 13 #[.agg #[.int .i64 s, .int .i64 c]] w fun e w' => e = .returned (.int .i64 r) ∧ Below w.heap.size w w'
abbrev Bd (s c r : Int) : Prop := ∀ w, Calls Tryd.prog 14 #[.agg #[.int .i64 s, .int .i64 c]] w fun e w' => e = .returned (.int .i64 r) ∧ Below w.heap.size w w'
abbrev Wd (s c b r : Int) : Prop := ∀ w, Laid w → Calls Tryd.prog 15 #[.agg #[.int .i64 s, .int .i64 c], .int .i64 b] w fun e w' => e = .returned (.int .i64 r) ∧ Below w.heap.size w w'
abbrev Fr (s c b r : Int) : Prop := ∀ w, Laid w → Calls Tryd.prog 16 #[.agg #[.int .i64 s, .int .i64 c], .int .i64 b] w fun e w' => e = .returned (.int .i64 r) ∧ Below w.heap.size w w'
abbrev Sm (s c r : Int) : Prop := ∀ w, Calls Tryd.prog 17 #[.agg #[.int .i64 s, .int .i64 c]] w fun e w' => e = .returned (.int .i64 r) ∧ Below w.heap.size w w'
abbrev Rr (s c : Int) (r : Bool) : Prop := ∀ w, Calls Tryd.prog 10 #[.int .i64 s, .int .i64 c] w fun e w' => e = .returned (.bool r) ∧ Below w.heap.size w w'
abbrev Rn (s r : Int) : Prop := ∀ w, Calls Tryd.prog 9 #[.int .i64 s] w fun e w' => e = .returned (.int .i64 r) ∧ Below w.heap.size w w'
abbrev Rb (s r : Int) : Prop := ∀ w, Calls Tryd.prog 18 #[.int .i64 s] w fun e w' => e = .returned (.int .i64 r) ∧ Below w.heap.size w w'
abbrev Rd (b f r : Int) : Prop := ∀ w, Calls Tryd.prog 19 #[.int .i64 b] w fun e w' => e = .returned (.tuple #[.int .i64 f, .int .i64 r]) ∧ Below w.heap.size w w'

set_option maxHeartbeats 2000000 in
set_option maxRecDepth 100000 in
theorem tells_no (s c b : Int) (h1 : Rt s c false) (h2 : Nn s c 0) (h3 : Bd s c 0) (h4 : Wd s c b 0) (h5 : Fr s c b 0) (h6 : Sm s c 0) (h7 : Rr s c false) (w : World) (hL : Laid w) :
    Calls Tryd.prog 5 #[.int .i64 s, .int .i64 c, .int .i64 b] w fun e w' => e = .returned (.bool true) ∧ Below w.heap.size w w' := by
  have hu24 := Tryd.underlying24
  have HB := Aside0.mk (Below.refl w.heap.size w)
  have HL := Aside0.mk hL
  have H1 := Aside0.mk h1
  have H2 := Aside0.mk h2
  have H3 := Aside0.mk h3
  have H4 := Aside0.mk h4
  have H5 := Aside0.mk h5
  have H6 := Aside0.mk h6
  have H7 := Aside0.mk h7
  clear hL h1 h2 h3 h4 h5 h6 h7
  go_enter Tryd.func5, Tryd.ntmps5
  go_wp2_with (first | (go_at_call 7; (with_reducible refine (awake _ HL.out).mono ?_); rintro e w1 ⟨rfl, hb⟩; have n0 := Aside0.mk (below_step HB.out hb); clear HB; have HB := n0; clear n0; have m0 := Aside0.mk (HL.out.below hb); clear HL; have HL := m0; clear m0;  clear hb) | (go_at_call 10; (with_reducible refine (H7.out _).mono ?_); rintro e w2 ⟨rfl, hb⟩; have n0 := Aside0.mk (below_step (below_alloc HB.out _) hb); clear HB; have HB := n0; clear n0; have m0 := Aside0.mk (HL.out.below (below_step (below_alloc (Below.refl _ _) _) hb)); clear HL; have HL := m0; clear m0; have hc0 := pw_cell_below (a := ⟨w1.heap.size, 0, none⟩) (v := .int .i64 (s)) hb (by simp); have hc1 := pw_cell_below (a := ⟨w1.heap.size, 1, none⟩) (v := .int .i64 (c)) hb (by simp); clear hb))
  go_region_held3 (fun w' => w'.cell? ⟨w1.heap.size, 0, none⟩ = some (.int .i64 s) ∧ w'.cell? ⟨w1.heap.size, 1, none⟩ = some (.int .i64 c) ∧ Aside0 (Below w.heap.size w w') ∧ Aside0 (Laid w'))
    (first | exact ⟨(World.cell?_drew _ _).trans hc0, (World.cell?_drew _ _).trans hc1, ⟨below_drew HB.out⟩, ⟨HL.out.below (below_drew (Below.refl _ _))⟩⟩ | (go_split_ands; refine ⟨pw_cell_below hb (by assumption), pw_cell_below hb (by assumption), ⟨below_step (Aside0.out (by assumption)) hb⟩, ⟨Laid.below (Aside0.out (by assumption)) hb⟩⟩))
    (first | (go_at_call 12; (with_reducible refine (H1.out _).mono ?_); rintro e w3 ⟨rfl, hb⟩) | (go_at_call 13; (with_reducible refine (H2.out _).mono ?_); rintro e w3 ⟨rfl, hb⟩) | (go_at_call 14; (with_reducible refine (H3.out _).mono ?_); rintro e w3 ⟨rfl, hb⟩) | (go_at_call 15; (go_split_ands; (with_reducible refine (H4.out _ (Aside0.out (by assumption))).mono ?_)); rintro e w3 ⟨rfl, hb⟩) | (go_at_call 16; (go_split_ands; (with_reducible refine (H5.out _ (Aside0.out (by assumption))).mono ?_)); rintro e w3 ⟨rfl, hb⟩) | (go_at_call 17; (with_reducible refine (H6.out _).mono ?_); rintro e w3 ⟨rfl, hb⟩))
  rename_i hH
  have HB2 := hH.2.2.1
  clear hH
  go_wp2
  go_ret
  exact ⟨congrArg Ending.returned (congrArg Value.bool (by simp; decide +kernel)), HB2.out⟩


set_option maxHeartbeats 2000000 in
set_option maxRecDepth 100000 in
theorem tells_out (s c b n bd : Int) (hout : b < 0 ∨ 0 ≤ b ∧ bd ≤ b) (h1 : Rt s c true) (h2 : Nn s c n) (h3 : Bd s c bd) (h4 : Wd s c b 0) (h5 : Fr s c b 0) (h6 : Sm s c (wrap64 (n * c))) (h7 : Rr s c true) (h8 : Rn s n) (h9 : Rb s bd) (w : World) (hL : Laid w) :
    Calls Tryd.prog 5 #[.int .i64 s, .int .i64 c, .int .i64 b] w fun e w' => e = .returned (.bool true) ∧ Below w.heap.size w w' := by
  have hu24 := Tryd.underlying24
  have HB := Aside0.mk (Below.refl w.heap.size w)
  have HL := Aside0.mk hL
  have H1 := Aside0.mk h1
  have H2 := Aside0.mk h2
  have H3 := Aside0.mk h3
  have H4 := Aside0.mk h4
  have H5 := Aside0.mk h5
  have H6 := Aside0.mk h6
  have H7 := Aside0.mk h7
  have H8 := Aside0.mk h8
  have H9 := Aside0.mk h9
  clear hL h1 h2 h3 h4 h5 h6 h7 h8 h9
  rcases hout with hb0 | ⟨hb1, hb0⟩
  all_goals
    go_enter Tryd.func5, Tryd.ntmps5
    go_wp2_with (first | (go_at_call 7; (with_reducible refine (awake _ HL.out).mono ?_); rintro e w1 ⟨rfl, hb⟩; have n0 := Aside0.mk (below_step HB.out hb); clear HB; have HB := n0; clear n0; have m0 := Aside0.mk (HL.out.below hb); clear HL; have HL := m0; clear m0;  clear hb) | (go_at_call 10; (with_reducible refine (H7.out _).mono ?_); rintro e w2 ⟨rfl, hb⟩; have n0 := Aside0.mk (below_step (below_alloc HB.out _) hb); clear HB; have HB := n0; clear n0; have m0 := Aside0.mk (HL.out.below (below_step (below_alloc (Below.refl _ _) _) hb)); clear HL; have HL := m0; clear m0; have hc0 := pw_cell_below (a := ⟨w1.heap.size, 0, none⟩) (v := .int .i64 (s)) hb (by simp); have hc1 := pw_cell_below (a := ⟨w1.heap.size, 1, none⟩) (v := .int .i64 (c)) hb (by simp); clear hb) | (go_at_call 9; (with_reducible refine (H8.out _).mono ?_); rintro e w2 ⟨rfl, hb⟩; have n0 := Aside0.mk (below_step HB.out hb); clear HB; have HB := n0; clear n0; have m0 := Aside0.mk (HL.out.below hb); clear HL; have HL := m0; clear m0; have m0 := pw_cell_below hb hc0; have m1 := pw_cell_below hb hc1; clear hc0 hc1; have hc0 := m0; have hc1 := m1; clear m0 m1 hb) | (go_at_call 18; (with_reducible refine (H9.out _).mono ?_); rintro e w2 ⟨rfl, hb⟩; have n0 := Aside0.mk (below_step HB.out hb); clear HB; have HB := n0; clear n0; have m0 := Aside0.mk (HL.out.below hb); clear HL; have HL := m0; clear m0; have m0 := pw_cell_below hb hc0; have m1 := pw_cell_below hb hc1; clear hc0 hc1; have hc0 := m0; have hc1 := m1; clear m0 m1 hb) | (go_at_call 12; (with_reducible refine (H1.out _).mono ?_); rintro e w2 ⟨rfl, hb⟩; have n0 := Aside0.mk (below_step HB.out hb); clear HB; have HB := n0; clear n0; have m0 := Aside0.mk (HL.out.below hb); clear HL; have HL := m0; clear m0; have m0 := pw_cell_below hb hc0; have m1 := pw_cell_below hb hc1; clear hc0 hc1; have hc0 := m0; have hc1 := m1; clear m0 m1 hb) | (go_at_call 13; (with_reducible refine (H2.out _).mono ?_); rintro e w2 ⟨rfl, hb⟩; have n0 := Aside0.mk (below_step HB.out hb); clear HB; have HB := n0; clear n0; have m0 := Aside0.mk (HL.out.below hb); clear HL; have HL := m0; clear m0; have m0 := pw_cell_below hb hc0; have m1 := pw_cell_below hb hc1; clear hc0 hc1; have hc0 := m0; have hc1 := m1; clear m0 m1 hb) | (go_at_call 14; (with_reducible refine (H3.out _).mono ?_); rintro e w2 ⟨rfl, hb⟩; have n0 := Aside0.mk (below_step HB.out hb); clear HB; have HB := n0; clear n0; have m0 := Aside0.mk (HL.out.below hb); clear HL; have HL := m0; clear m0; have m0 := pw_cell_below hb hc0; have m1 := pw_cell_below hb hc1; clear hc0 hc1; have hc0 := m0; have hc1 := m1; clear m0 m1 hb) | (go_at_call 17; (with_reducible refine (H6.out _).mono ?_); rintro e w2 ⟨rfl, hb⟩; have n0 := Aside0.mk (below_step HB.out hb); clear HB; have HB := n0; clear n0; have m0 := Aside0.mk (HL.out.below hb); clear HL; have HL := m0; clear m0; have m0 := pw_cell_below hb hc0; have m1 := pw_cell_below hb hc1; clear hc0 hc1; have hc0 := m0; have hc1 := m1; clear m0 m1 hb) | (go_at_call 15; (with_reducible refine (H4.out _ HL.out).mono ?_); rintro e w2 ⟨rfl, hb⟩; have n0 := Aside0.mk (below_step HB.out hb); clear HB; have HB := n0; clear n0; have m0 := Aside0.mk (HL.out.below hb); clear HL; have HL := m0; clear m0; have m0 := pw_cell_below hb hc0; have m1 := pw_cell_below hb hc1; clear hc0 hc1; have hc0 := m0; have hc1 := m1; clear m0 m1 hb) | (go_at_call 16; (with_reducible refine (H5.out _ HL.out).mono ?_); rintro e w2 ⟨rfl, hb⟩; have n0 := Aside0.mk (below_step HB.out hb); clear HB; have HB := n0; clear n0; have m0 := Aside0.mk (HL.out.below hb); clear HL; have HL := m0; clear m0; have m0 := pw_cell_below hb hc0; have m1 := pw_cell_below hb hc1; clear hc0 hc1; have hc0 := m0; have hc1 := m1; clear m0 m1 hb))
    go_ret
    exact ⟨congrArg Ending.returned (congrArg Value.bool (by simp)), HB.out⟩

set_option maxHeartbeats 2000000 in
set_option maxRecDepth 100000 in
theorem tells_in (s c b n bd wd fr : Int) (hb1 : 0 ≤ b) (hb0 : b < bd) (h1 : Rt s c true) (h2 : Nn s c n) (h3 : Bd s c bd) (h4 : Wd s c b wd) (h5 : Fr s c b fr) (h6 : Sm s c (wrap64 (n * c))) (h7 : Rr s c true) (h8 : Rn s n) (h9 : Rb s bd) (hd : Rd b fr wd) (w : World) (hL : Laid w) :
    Calls Tryd.prog 5 #[.int .i64 s, .int .i64 c, .int .i64 b] w fun e w' => e = .returned (.bool true) ∧ Below w.heap.size w w' := by
  have hu24 := Tryd.underlying24
  have HB := Aside0.mk (Below.refl w.heap.size w)
  have HL := Aside0.mk hL
  have H1 := Aside0.mk h1
  have H2 := Aside0.mk h2
  have H3 := Aside0.mk h3
  have H4 := Aside0.mk h4
  have H5 := Aside0.mk h5
  have H6 := Aside0.mk h6
  have H7 := Aside0.mk h7
  have H8 := Aside0.mk h8
  have H9 := Aside0.mk h9
  have HD := Aside0.mk hd
  clear hL h1 h2 h3 h4 h5 h6 h7 h8 h9 hd
  go_enter Tryd.func5, Tryd.ntmps5
  go_wp2_with (first | (go_at_call 7; (with_reducible refine (awake _ HL.out).mono ?_); rintro e w1 ⟨rfl, hb⟩; have n0 := Aside0.mk (below_step HB.out hb); clear HB; have HB := n0; clear n0; have m0 := Aside0.mk (HL.out.below hb); clear HL; have HL := m0; clear m0;  clear hb) | (go_at_call 10; (with_reducible refine (H7.out _).mono ?_); rintro e w2 ⟨rfl, hb⟩; have n0 := Aside0.mk (below_step (below_alloc HB.out _) hb); clear HB; have HB := n0; clear n0; have m0 := Aside0.mk (HL.out.below (below_step (below_alloc (Below.refl _ _) _) hb)); clear HL; have HL := m0; clear m0; have hc0 := pw_cell_below (a := ⟨w1.heap.size, 0, none⟩) (v := .int .i64 (s)) hb (by simp); have hc1 := pw_cell_below (a := ⟨w1.heap.size, 1, none⟩) (v := .int .i64 (c)) hb (by simp); clear hb) | (go_at_call 9; (with_reducible refine (H8.out _).mono ?_); rintro e w2 ⟨rfl, hb⟩; have n0 := Aside0.mk (below_step HB.out hb); clear HB; have HB := n0; clear n0; have m0 := Aside0.mk (HL.out.below hb); clear HL; have HL := m0; clear m0; have m0 := pw_cell_below hb hc0; have m1 := pw_cell_below hb hc1; clear hc0 hc1; have hc0 := m0; have hc1 := m1; clear m0 m1 hb) | (go_at_call 18; (with_reducible refine (H9.out _).mono ?_); rintro e w2 ⟨rfl, hb⟩; have n0 := Aside0.mk (below_step HB.out hb); clear HB; have HB := n0; clear n0; have m0 := Aside0.mk (HL.out.below hb); clear HL; have HL := m0; clear m0; have m0 := pw_cell_below hb hc0; have m1 := pw_cell_below hb hc1; clear hc0 hc1; have hc0 := m0; have hc1 := m1; clear m0 m1 hb) | (go_at_call 12; (with_reducible refine (H1.out _).mono ?_); rintro e w2 ⟨rfl, hb⟩; have n0 := Aside0.mk (below_step HB.out hb); clear HB; have HB := n0; clear n0; have m0 := Aside0.mk (HL.out.below hb); clear HL; have HL := m0; clear m0; have m0 := pw_cell_below hb hc0; have m1 := pw_cell_below hb hc1; clear hc0 hc1; have hc0 := m0; have hc1 := m1; clear m0 m1 hb) | (go_at_call 13; (with_reducible refine (H2.out _).mono ?_); rintro e w2 ⟨rfl, hb⟩; have n0 := Aside0.mk (below_step HB.out hb); clear HB; have HB := n0; clear n0; have m0 := Aside0.mk (HL.out.below hb); clear HL; have HL := m0; clear m0; have m0 := pw_cell_below hb hc0; have m1 := pw_cell_below hb hc1; clear hc0 hc1; have hc0 := m0; have hc1 := m1; clear m0 m1 hb) | (go_at_call 14; (with_reducible refine (H3.out _).mono ?_); rintro e w2 ⟨rfl, hb⟩; have n0 := Aside0.mk (below_step HB.out hb); clear HB; have HB := n0; clear n0; have m0 := Aside0.mk (HL.out.below hb); clear HL; have HL := m0; clear m0; have m0 := pw_cell_below hb hc0; have m1 := pw_cell_below hb hc1; clear hc0 hc1; have hc0 := m0; have hc1 := m1; clear m0 m1 hb) | (go_at_call 17; (with_reducible refine (H6.out _).mono ?_); rintro e w2 ⟨rfl, hb⟩; have n0 := Aside0.mk (below_step HB.out hb); clear HB; have HB := n0; clear n0; have m0 := Aside0.mk (HL.out.below hb); clear HL; have HL := m0; clear m0; have m0 := pw_cell_below hb hc0; have m1 := pw_cell_below hb hc1; clear hc0 hc1; have hc0 := m0; have hc1 := m1; clear m0 m1 hb) | (go_at_call 19; (with_reducible refine (HD.out _).mono ?_); rintro e w2 ⟨rfl, hb⟩; have n0 := Aside0.mk (below_step HB.out hb); clear HB; have HB := n0; clear n0; have m0 := Aside0.mk (HL.out.below hb); clear HL; have HL := m0; clear m0; have m0 := pw_cell_below hb hc0; have m1 := pw_cell_below hb hc1; clear hc0 hc1; have hc0 := m0; have hc1 := m1; clear m0 m1 hb) | (go_at_call 15; (with_reducible refine (H4.out _ HL.out).mono ?_); rintro e w2 ⟨rfl, hb⟩; have n0 := Aside0.mk (below_step HB.out hb); clear HB; have HB := n0; clear n0; have m0 := Aside0.mk (HL.out.below hb); clear HL; have HL := m0; clear m0; have m0 := pw_cell_below hb hc0; have m1 := pw_cell_below hb hc1; clear hc0 hc1; have hc0 := m0; have hc1 := m1; clear m0 m1 hb) | (go_at_call 16; (with_reducible refine (H5.out _ HL.out).mono ?_); rintro e w2 ⟨rfl, hb⟩; have n0 := Aside0.mk (below_step HB.out hb); clear HB; have HB := n0; clear n0; have m0 := Aside0.mk (HL.out.below hb); clear HL; have HL := m0; clear m0; have m0 := pw_cell_below hb hc0; have m1 := pw_cell_below hb hc1; clear hc0 hc1; have hc0 := m0; have hc1 := m1; clear m0 m1 hb))
  go_ret
  exact ⟨congrArg Ending.returned (congrArg Value.bool (by simp)), HB.out⟩

theorem right_is (s c : Int) : PModeTells.mode_Mode_Right.f s c = some (decide (0 ≤ s ∧ s < 3 ∧ 1 ≤ c ∧ c ≤ 2)) := by
  unfold PModeTells.mode_Mode_Right.f
  by_cases h1 : s ≥ 0
  · rw [if_pos h1]
    by_cases h2 : s < 3
    · rw [if_pos h2]
      by_cases h3 : c ≥ 1
      · rw [if_pos h3]
        congr 1
        exact decide_eq_decide.mpr ⟨fun h => ⟨h1, h2, h3, h⟩, fun h => h.2.2.2⟩
      · rw [if_neg h3, decide_eq_false (by omega)]
    · rw [if_neg h2, decide_eq_false (by omega)]
  · rw [if_neg h1, decide_eq_false (by omega)]
theorem ref_right_is (s c : Int) : PModeTells.spinetref05_Right.f s c = some (decide (0 ≤ s ∧ s < 3 ∧ 1 ≤ c ∧ c ≤ 2)) := by
  unfold PModeTells.spinetref05_Right.f
  by_cases h1 : s ≥ 0
  · rw [if_pos h1]
    by_cases h2 : s ≤ 2
    · rw [if_pos h2]
      by_cases h3 : c = 1
      · rw [if_pos h3, decide_eq_true (by omega)]
      · rw [if_neg h3]
        congr 1
        by_cases h4 : c = 2
        · subst h4; rw [decide_eq_true (by omega)]; rfl
        · rw [decide_eq_false (by omega), beq_eq_false_iff_ne.mpr h4]
    · rw [if_neg h2, decide_eq_false (by omega)]
  · rw [if_neg h1, decide_eq_false (by omega)]
theorem samples_no (s c : Int) (h : ¬ (0 ≤ s ∧ s < 3 ∧ 1 ≤ c ∧ c ≤ 2)) : PModeTells.mode_Mode_Samples.f s c = some 0 := by
  unfold PModeTells.mode_Mode_Samples.f PModeTells.mode_Mode_N.f
  rw [right_is, decide_eq_false h, Option.bind_some, if_neg (by decide), Option.bind_some, Int.zero_mul]
  decide +kernel
theorem n_no (s c : Int) (h : ¬ (0 ≤ s ∧ s < 3 ∧ 1 ≤ c ∧ c ≤ 2)) : PModeTells.mode_Mode_N.f s c = some 0 := by
  unfold PModeTells.mode_Mode_N.f
  rw [right_is, decide_eq_false h, Option.bind_some, if_neg (by decide)]
theorem bands_no (s c : Int) (h : ¬ (0 ≤ s ∧ s < 3 ∧ 1 ≤ c ∧ c ≤ 2)) : PModeTells.mode_Mode_Bands.f s c = some 0 := by
  unfold PModeTells.mode_Mode_Bands.f
  rw [right_is, decide_eq_false h, Option.bind_some, if_neg (by decide)]
theorem case_all (P : Int → Int → Prop) (h : ∀ s : Nat, s < 3 → ∀ c : Nat, c < 2 → P s (c + 1)) (s c : Int) (hr : 0 ≤ s ∧ s < 3 ∧ 1 ≤ c ∧ c ≤ 2) : P s c := by
  obtain ⟨m, rfl⟩ := Int.eq_ofNat_of_zero_le hr.1
  obtain ⟨d, hd⟩ := Int.eq_ofNat_of_zero_le (show 0 ≤ c - 1 by omega)
  have : c = (d : Int) + 1 := by omega
  rw [this]
  exact h m (by omega) d (by omega)
/-- How many samples. -/
def ns (s : Int) : Int := 8 * 2 ^ s.toNat
theorem n_is (s c : Int) (h : 0 ≤ s ∧ s < 3 ∧ 1 ≤ c ∧ c ≤ 2) : PModeTells.mode_Mode_N.f s c = some (ns s) :=
  case_all (fun s c => PModeTells.mode_Mode_N.f s c = some (ns s)) (by decide +kernel) s c h
theorem ref_n_is (s c : Int) (h : 0 ≤ s ∧ s < 3 ∧ 1 ≤ c ∧ c ≤ 2) : PModeTells.spinetref05_N.f s = some (ns s) :=
  case_all (fun s c => PModeTells.spinetref05_N.f s = some (ns s)) (by decide +kernel) s c h
theorem bands_is (s c : Int) (h : 0 ≤ s ∧ s < 3 ∧ 1 ≤ c ∧ c ≤ 2) : PModeTells.mode_Mode_Bands.f s c = some (3 + s) :=
  case_all (fun s c => PModeTells.mode_Mode_Bands.f s c = some (3 + s)) (by decide +kernel) s c h
theorem ref_bands_is (s c : Int) (h : 0 ≤ s ∧ s < 3 ∧ 1 ≤ c ∧ c ≤ 2) : PModeTells.spinetref05_Bands.f s = some (3 + s) :=
  case_all (fun s c => PModeTells.spinetref05_Bands.f s = some (3 + s)) (by decide +kernel) s c h
theorem samples_is (s c : Int) (h : 0 ≤ s ∧ s < 3 ∧ 1 ≤ c ∧ c ≤ 2) : PModeTells.mode_Mode_Samples.f s c = some (wrap64 (ns s * c)) := by
  unfold PModeTells.mode_Mode_Samples.f
  rw [n_is s c h, Option.bind_some]
theorem band_is : ∀ b : Nat, b < 5 → PModeTells.spinetref05_Band.f 20 b = some (fr b, widths.getD b 0) := by decide +kernel
theorem wd_out (s c b : Int) (h : PModeTells.mode_Mode_has.f s c b = some false) : Wd s c b 0 := fun w _ => width_out s c b h w
theorem fr_out (s c b : Int) (h : PModeTells.mode_Mode_has.f s c b = some false) : Fr s c b 0 := fun w _ => from_out s c b h w
theorem wd_in (s c : Int) (b : Nat) (hb : b < 5) (h : PModeTells.mode_Mode_has.f s c b = some true) : Wd s c b (widths.getD b 0) := fun w hL => width_in s c b _ hb h w (hL b hb)
theorem fr_in (s c : Int) (b : Nat) (hb : b < 5) (h : PModeTells.mode_Mode_has.f s c b = some true) : Fr s c b (fr b) := fun w hL => from_in s c b (by omega) h w hL

theorem tells (s c b : Int) (w : World) (hL : Laid w) :
    Calls Tryd.prog 5 #[.int .i64 s, .int .i64 c, .int .i64 b] w fun e w' => e = .returned (.bool true) ∧ Below w.heap.size w w' := by
  by_cases h : 0 ≤ s ∧ s < 3 ∧ 1 ≤ c ∧ c ≤ 2
  · have h1 : Rt s c true := fun w => PModeTells.mode_Mode_Right.calls s c true w (by rw [right_is, decide_eq_true h])
    have h2 : Nn s c (ns s) := fun w => PModeTells.mode_Mode_N.calls s c _ w (n_is s c h)
    have h3 : Bd s c (3 + s) := fun w => PModeTells.mode_Mode_Bands.calls s c _ w (bands_is s c h)
    have h6 : Sm s c (wrap64 (ns s * c)) := fun w => PModeTells.mode_Mode_Samples.calls s c _ w (samples_is s c h)
    have h7 : Rr s c true := fun w => (PModeTells.spinetref05_Right.calls s c true w (by rw [ref_right_is, decide_eq_true h])).mono fun e w' h => ⟨h.1, h.2.below⟩
    have h8 : Rn s (ns s) := fun w => (PModeTells.spinetref05_N.calls s _ w (ref_n_is s c h)).mono fun e w' h => ⟨h.1, h.2.below⟩
    have h9 : Rb s (3 + s) := fun w => (PModeTells.spinetref05_Bands.calls s _ w (ref_bands_is s c h)).mono fun e w' h => ⟨h.1, h.2.below⟩
    by_cases hb : 0 ≤ b ∧ b < 3 + s
    · have hh : PModeTells.mode_Mode_has.f s c b = some true := by rw [has_of, decide_eq_true (by omega)]
      obtain ⟨b, rfl⟩ := Int.eq_ofNat_of_zero_le hb.1
      exact tells_in s c b _ _ _ _ hb.1 hb.2 h1 h2 h3 (wd_in s c b (by omega) hh) (fr_in s c b (by omega) hh) h6 h7 h8 h9 (fun w => (PModeTells.spinetref05_Band.calls 20 b _ _ w (band_is b (by omega))).mono fun e w' h => ⟨h.1, h.2.below⟩) w hL
    · have hh : PModeTells.mode_Mode_has.f s c b = some false := by rw [has_of, decide_eq_false (by omega)]
      exact tells_out s c b _ _ (by omega) h1 h2 h3 (wd_out s c b hh) (fr_out s c b hh) h6 h7 h8 h9 w hL
  · have hh : PModeTells.mode_Mode_has.f s c b = some false := by rw [has_of, decide_eq_false (by omega)]
    exact tells_no s c b (fun w => PModeTells.mode_Mode_Right.calls s c false w (by rw [right_is, decide_eq_false h])) (fun w => PModeTells.mode_Mode_N.calls s c _ w (n_no s c h)) (fun w => PModeTells.mode_Mode_Bands.calls s c _ w (bands_no s c h)) (wd_out s c b hh) (fr_out s c b hh) (fun w => PModeTells.mode_Mode_Samples.calls s c _ w (samples_no s c h)) (fun w => (PModeTells.spinetref05_Right.calls s c false w (by rw [ref_right_is, decide_eq_false h])).mono fun e w' h => ⟨h.1, h.2.below⟩) w hL
end Go.Proofs.YtlabemdiocgjoaaDoor.Mode
