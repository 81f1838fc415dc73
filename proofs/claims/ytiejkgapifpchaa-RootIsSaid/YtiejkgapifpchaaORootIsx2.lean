import Derived.Test.YtiejkgapifpchaaORootIsx0
import Derived.Test.YtiejkgapifpchaaORootIsx1
namespace Go.Proofs.Ytiejkgapifpchaa.ORootIs
open Go.RowKit Go.Proofs.YtiejkgapifpchaaW.PrintWords Go.Proofs.YtiejkgapifpchaaW.PrintLast Go.Proofs.YtiejkgapifpchaaW.PrintMore
attribute [local go_sem] max2_int min2_int max_two min_two max_three min_three max_four min_four   -- for this text's walks alone
set_option linter.unusedVariables false
set_option linter.unusedSimpArgs false

/-! ### spinetlaw03_RootIs: function 4 -/
mutual
def spinetlaw03_RootIs.j0 : Nat → Int → Int → Bool → Option (Bool)
  | 0, _, _, _ => none
  | k + 1, x0, x3, x17 => if x17 = true then (some false) else (if x3 < 4294967295 then (spinetlaw03_RootIs.j1 k x0 x3 (decide ((IntKind.u64.wrap ((IntKind.u64.wrap (x3 + 1)) * (IntKind.u64.wrap (x3 + 1)))) ≤ x0))) else (spinetlaw03_RootIs.j1 k x0 x3 false))
def spinetlaw03_RootIs.j1 : Nat → Int → Int → Bool → Option (Bool)
  | 0, _, _, _ => none
  | k + 1, x0, x3, x28 => if x28 = true then (some false) else (if x0 = 18446744073709551615 then (some (x3 == 4294967295)) else ((root_Sqrt.f k (IntKind.u64.wrap (x0 + 1))).bind fun t114 => (if t114 = x3 then (some true) else (if t114 = (IntKind.u64.wrap (x3 + 1)) then (some ((IntKind.u64.wrap (t114 * t114)) == (IntKind.u64.wrap (x0 + 1)))) else (some false)))))
end
def spinetlaw03_RootIs.f (k : Nat) (a0 : Int) : Option (Bool) := (spinetlaw03_awake.f k).bind fun t112 => (if t112 = true then ((root_Sqrt.f k a0).bind fun t113 => (if t113 ≥ 4294967296 then (spinetlaw03_RootIs.j0 k a0 t113 true) else (spinetlaw03_RootIs.j0 k a0 t113 (decide ((IntKind.u64.wrap (t113 * t113)) > a0))))) else (some false))
theorem spinetlaw03_RootIs.mono_l : ∀ k, (∀ y0 y1 y2, LeO (spinetlaw03_RootIs.j0 k y0 y1 y2) (spinetlaw03_RootIs.j0 (k + 1) y0 y1 y2)) ∧ (∀ y0 y1 y2, LeO (spinetlaw03_RootIs.j1 k y0 y1 y2) (spinetlaw03_RootIs.j1 (k + 1) y0 y1 y2))
  | 0 => ⟨fun _ _ _ r h => by simp [spinetlaw03_RootIs.j0] at h, fun _ _ _ r h => by simp [spinetlaw03_RootIs.j1] at h⟩
  | k + 1 => by
    obtain ⟨ih0, ih1⟩ := spinetlaw03_RootIs.mono_l k
    refine ⟨?_, ?_⟩
    · intro y0 y1 y2
      unfold spinetlaw03_RootIs.j0
      repeat' first
      | (with_reducible exact ih0 _ _ _)
      | (with_reducible exact ih1 _ _ _)
      | (with_reducible exact root_Sqrt.mono _ _)
      | (with_reducible exact spinetlaw03_awake.mono _)
      | (with_reducible exact LeO.refl _)
      | (with_reducible exact LeO.none _)
      | (with_reducible refine LeO.ite ?_ ?_)
      | (with_reducible refine LeO.bind ?_ (fun _ => ?_))
      | exact ih0 _ _ _
      | exact ih1 _ _ _
      | exact root_Sqrt.mono _ _
      | exact spinetlaw03_awake.mono _
      | exact LeO.none _
      | refine LeO.ite ?_ ?_
      | refine LeO.bind ?_ (fun _ => ?_)
    · intro y0 y1 y2
      unfold spinetlaw03_RootIs.j1
      repeat' first
      | (with_reducible exact ih0 _ _ _)
      | (with_reducible exact ih1 _ _ _)
      | (with_reducible exact root_Sqrt.mono _ _)
      | (with_reducible exact spinetlaw03_awake.mono _)
      | (with_reducible exact LeO.refl _)
      | (with_reducible exact LeO.none _)
      | (with_reducible refine LeO.ite ?_ ?_)
      | (with_reducible refine LeO.bind ?_ (fun _ => ?_))
      | exact ih0 _ _ _
      | exact ih1 _ _ _
      | exact root_Sqrt.mono _ _
      | exact spinetlaw03_awake.mono _
      | exact LeO.none _
      | refine LeO.ite ?_ ?_
      | refine LeO.bind ?_ (fun _ => ?_)
theorem spinetlaw03_RootIs.mono : ∀ a0 k, LeO (spinetlaw03_RootIs.f k a0) (spinetlaw03_RootIs.f (k + 1) a0) := by
  intro a0 k
  obtain ⟨ih0, ih1⟩ := spinetlaw03_RootIs.mono_l k
  unfold spinetlaw03_RootIs.f
  repeat' first
      | (with_reducible exact ih0 _ _ _)
      | (with_reducible exact ih1 _ _ _)
      | (with_reducible exact root_Sqrt.mono _ _)
      | (with_reducible exact spinetlaw03_awake.mono _)
      | (with_reducible exact LeO.refl _)
      | (with_reducible exact LeO.none _)
      | (with_reducible refine LeO.ite ?_ ?_)
      | (with_reducible refine LeO.bind ?_ (fun _ => ?_))
      | exact ih0 _ _ _
      | exact ih1 _ _ _
      | exact root_Sqrt.mono _ _
      | exact spinetlaw03_awake.mono _
      | exact LeO.none _
      | refine LeO.ite ?_ ?_
      | refine LeO.bind ?_ (fun _ => ?_)
set_option maxHeartbeats 8000000 in
set_option maxRecDepth 100000 in
theorem spinetlaw03_RootIs.calls (k : Nat) (a0 : Int) (r : Bool) (w : World) (h : spinetlaw03_RootIs.f k a0 = some r) :
    Calls Try.prog 4 #[.int .u64 a0] w fun e w' => e = .returned (.bool r) ∧ Below w.heap.size w w' := by
  have HB := Aside0.mk (Below.refl w.heap.size w)
  have H : ((spinetlaw03_awake.f k).bind fun t112 => (if t112 = true then ((root_Sqrt.f k a0).bind fun t113 => (if t113 ≥ 4294967296 then (spinetlaw03_RootIs.j0 k a0 t113 true) else (spinetlaw03_RootIs.j0 k a0 t113 (decide ((IntKind.u64.wrap (t113 * t113)) > a0))))) else (some false))) = some r := h
  clear h
  replace H := Option.bind_eq_some_iff.mp H
  obtain ⟨t112, A20, H⟩ := H
  replace H : (if t112 = true then ((root_Sqrt.f k a0).bind fun t113 => (if t113 ≥ 4294967296 then (spinetlaw03_RootIs.j0 k a0 t113 true) else (spinetlaw03_RootIs.j0 k a0 t113 (decide ((IntKind.u64.wrap (t113 * t113)) > a0))))) else (some false)) = some r := H
  have A2 := Aside0.mk A20
  clear A20
  by_cases c3 : t112 = true
  · subst c3
    have H1 : ((root_Sqrt.f k a0).bind fun t113 => (if t113 ≥ 4294967296 then (spinetlaw03_RootIs.j0 k a0 t113 true) else (spinetlaw03_RootIs.j0 k a0 t113 (decide ((IntKind.u64.wrap (t113 * t113)) > a0))))) = some r := by rw [if_pos rfl] at H; exact H
    clear H
    have H := H1
    clear H1
    replace H := Option.bind_eq_some_iff.mp H
    obtain ⟨t113, A40, H⟩ := H
    replace H : (if t113 ≥ 4294967296 then (spinetlaw03_RootIs.j0 k a0 t113 true) else (spinetlaw03_RootIs.j0 k a0 t113 (decide ((IntKind.u64.wrap (t113 * t113)) > a0)))) = some r := H
    have A4 := Aside0.mk A40
    clear A40
    have HC5 := Aside0.mk H
    clear H
    go_enter Try.func4, Try.ntmps4
    go_upto_region 4 with (first | ((with_reducible refine gate_callee (f := 9) rfl ?_); refine goesL_ (some 5) rfl rfl Try.func9 (by kernel_rfl) rfl #[] rfl (by (try simp only [List.map_toArray, List.map_cons, List.map_nil]); first | done | rfl | (simp only [List.length_drop, List.length_take]; rfl)) ?_; (with_reducible refine (spinetlaw03_awake.calls k  true _ A2.out).mono ?_); rintro e w6 ⟨rfl, hb⟩; refine ⟨_, rfl, ?_⟩; have n0_ := Aside0.mk (below_step (by repeat (first | (with_reducible first | exact HB.out | apply below_alloc | apply pw_below_drewN | apply below_drew1) | exact HB.out)) hb); clear HB; have HB := n0_; clear n0_; (try clear hb); (try clear hb2); (try clear hk); (try clear hi)) | ((with_reducible refine gate_callee (f := 10) rfl ?_); refine goesL_ (some 8) rfl rfl Try.func10 (by kernel_rfl) rfl #[.int .u64 a0] rfl (by (try simp only [List.map_toArray, List.map_cons, List.map_nil]); first | done | rfl | (simp only [List.length_drop, List.length_take]; rfl)) ?_; (with_reducible refine (root_Sqrt.calls k a0 t113 _ A4.out).mono ?_); rintro e w' ⟨rfl, ⟨nd, rfl⟩⟩; refine ⟨_, rfl, ?_⟩))
    (try simp only [Act.put, List.setIfInBounds_toArray, List.set_cons_zero, List.set_cons_succ])
    go_cut [17] (fun v17 wc => ∃ (kq : Nat) (x17_4 : Bool), v17 = .bool x17_4 ∧ Aside0 (spinetlaw03_RootIs.j0 kq a0 t113 x17_4 = some r) ∧ Aside0 (kq ≤ k) ∧ Aside0 (Below w.heap.size w wc))
    case first =>
      have H := HC5.out
      clear HC5
      by_cases c7 : t113 ≥ 4294967296
      · rw [if_pos c7] at H
        have c7b0 : decide (4294967296 ≤ t113) = true := decide_eq_true c7
        clear c7
        (first | rw [c7b0] | (simp only [i64_w, i32_w]; rw [c7b0]) | skip)
        have H' := Aside0.mk H
        clear H
        go_wp2
        go_meet
        case rel => exact ⟨_, (true), (by first | rfl | (simp; done) | (simp [*]; done)), H', ⟨by first | omega | exact Nat.le_refl _⟩, ⟨by repeat (first | (with_reducible first | exact HB.out | apply below_alloc | apply pw_below_drewN | apply below_drew1) | exact HB.out)⟩⟩
      · rw [if_neg c7] at H
        have c7b0 : decide (4294967296 ≤ t113) = false := decide_eq_false c7
        clear c7
        (first | rw [c7b0] | (simp only [i64_w, i32_w]; rw [c7b0]) | skip)
        have H' := Aside0.mk H
        clear H
        go_wp2
        go_meet
        case rel => exact ⟨_, (decide ((IntKind.u64.wrap (t113 * t113)) > a0)), (by first | rfl | (simp; done) | (simp [*]; done)), H', ⟨by first | omega | exact Nat.le_refl _⟩, ⟨by repeat (first | (with_reducible first | exact HB.out | apply below_alloc | apply pw_below_drewN | apply below_drew1) | exact HB.out)⟩⟩
    case rest =>
      clear HC5
      try clear c1
      try clear p2
      try clear c3
      try clear c4
      try clear c7
      try clear c7b0
      obtain ⟨kq, x17_4, rfl, HA, HJ4, HB⟩ := hcut
      cases kq with
      | zero => exact absurd HA.out (by simp [spinetlaw03_RootIs.j0])
      | succ kj4 =>
        have H := HA.out
        clear HA
        simp only [spinetlaw03_RootIs.j0] at H
        by_cases c8 : x17_4 = true
        · subst c8
          have H1 : (some false) = some r := by rw [if_pos rfl] at H; exact H
          clear H
          have H := H1
          clear H1
          obtain rfl := Option.some.inj H
          go_wp2
          go_ret
          exact ⟨by first | rfl | (simp [errW_none, errW_some] <;> rfl) | (simp [*, errW_none, errW_some] <;> rfl), by repeat (first | (with_reducible first | exact HB.out | apply below_alloc | apply pw_below_drewN | apply below_drew1) | exact HB.out)⟩
        · replace c8 := Bool.eq_false_iff.mpr c8
          subst c8
          have H1 : (if t113 < 4294967295 then (spinetlaw03_RootIs.j1 kj4 a0 t113 (decide ((IntKind.u64.wrap ((IntKind.u64.wrap (t113 + 1)) * (IntKind.u64.wrap (t113 + 1)))) ≤ a0))) else (spinetlaw03_RootIs.j1 kj4 a0 t113 false)) = some r := by rw [if_neg (show ¬ (false = true) by decide)] at H; exact H
          clear H
          have H := H1
          clear H1
          have HC9 := Aside0.mk H
          clear H
          go_upto_region 6 with (fail)
          go_cut [28] (fun v28 wc => ∃ (kq : Nat) (x28_8 : Bool), v28 = .bool x28_8 ∧ Aside0 (spinetlaw03_RootIs.j1 kq a0 t113 x28_8 = some r) ∧ Aside0 (kq ≤ kj4) ∧ Aside0 (Below w.heap.size w wc))
          case first =>
            have H := HC9.out
            clear HC9
            by_cases c10 : t113 < 4294967295
            · rw [if_pos c10] at H
              have c10b0 : decide (t113 < 4294967295) = true := decide_eq_true c10
              clear c10
              (first | rw [c10b0] | (simp only [i64_w, i32_w]; rw [c10b0]) | skip)
              have H' := Aside0.mk H
              clear H
              go_wp2
              go_meet
              case rel => exact ⟨_, (decide ((IntKind.u64.wrap ((IntKind.u64.wrap (t113 + 1)) * (IntKind.u64.wrap (t113 + 1)))) ≤ a0)), (by first | rfl | (simp; done) | (simp [*]; done)), H', ⟨by have := HJ4.out; first | omega | exact Nat.le_refl _⟩, ⟨by repeat (first | (with_reducible first | exact HB.out | apply below_alloc | apply pw_below_drewN | apply below_drew1) | exact HB.out)⟩⟩
            · rw [if_neg c10] at H
              have c10b0 : decide (t113 < 4294967295) = false := decide_eq_false c10
              clear c10
              (first | rw [c10b0] | (simp only [i64_w, i32_w]; rw [c10b0]) | skip)
              have H' := Aside0.mk H
              clear H
              go_wp2
              go_meet
              case rel => exact ⟨_, (false), (by first | rfl | (simp; done) | (simp [*]; done)), H', ⟨by have := HJ4.out; first | omega | exact Nat.le_refl _⟩, ⟨by repeat (first | (with_reducible first | exact HB.out | apply below_alloc | apply pw_below_drewN | apply below_drew1) | exact HB.out)⟩⟩
          case rest =>
            clear HC9
            try clear c1
            try clear p2
            try clear c3
            try clear c4
            try clear c7
            try clear c7b0
            try clear c8
            try clear c9
            try clear c10
            try clear c10b0
            try clear p2
            obtain ⟨kq, x28_8, rfl, HA, HJ8, HB⟩ := hcut
            cases kq with
            | zero => exact absurd HA.out (by simp [spinetlaw03_RootIs.j1])
            | succ kj8 =>
              have H := HA.out
              clear HA
              simp only [spinetlaw03_RootIs.j1] at H
              by_cases c11 : x28_8 = true
              · subst c11
                have H1 : (some false) = some r := by rw [if_pos rfl] at H; exact H
                clear H
                have H := H1
                clear H1
                obtain rfl := Option.some.inj H
                go_wp2
                go_ret
                exact ⟨by first | rfl | (simp [errW_none, errW_some] <;> rfl) | (simp [*, errW_none, errW_some] <;> rfl), by repeat (first | (with_reducible first | exact HB.out | apply below_alloc | apply pw_below_drewN | apply below_drew1) | exact HB.out)⟩
              · replace c11 := Bool.eq_false_iff.mpr c11
                subst c11
                have H1 : (if a0 = 18446744073709551615 then (some (t113 == 4294967295)) else ((root_Sqrt.f kj8 (IntKind.u64.wrap (a0 + 1))).bind fun t114 => (if t114 = t113 then (some true) else (if t114 = (IntKind.u64.wrap (t113 + 1)) then (some ((IntKind.u64.wrap (t114 * t114)) == (IntKind.u64.wrap (a0 + 1)))) else (some false))))) = some r := by rw [if_neg (show ¬ (false = true) by decide)] at H; exact H
                clear H
                have H := H1
                clear H1
                by_cases c12 : a0 = 18446744073709551615
                · rw [if_pos c12] at H
                  have c12b0 : (a0 == 18446744073709551615) = true := beq_iff_eq.mpr c12
                  have c12b1 : (a0 != 18446744073709551615) = false := bne_eq_false_iff_eq.mpr c12
                  clear c12
                  obtain rfl := Option.some.inj H
                  go_wp2
                  go_ret
                  exact ⟨by first | rfl | (simp [errW_none, errW_some] <;> rfl) | (simp [*, errW_none, errW_some] <;> rfl), by repeat (first | (with_reducible first | exact HB.out | apply below_alloc | apply pw_below_drewN | apply below_drew1) | exact HB.out)⟩
                · rw [if_neg c12] at H
                  have c12b0 : (a0 == 18446744073709551615) = false := beq_eq_false_iff_ne.mpr c12
                  have c12b1 : (a0 != 18446744073709551615) = true := bne_iff_ne.mpr c12
                  replace H := Option.bind_eq_some_iff.mp H
                  obtain ⟨t114, A130, H⟩ := H
                  replace H : (if t114 = t113 then (some true) else (if t114 = (IntKind.u64.wrap (t113 + 1)) then (some ((IntKind.u64.wrap (t114 * t114)) == (IntKind.u64.wrap (a0 + 1)))) else (some false))) = some r := H
                  have A13 := Aside0.mk A130
                  clear A130
                  by_cases c14 : t114 = t113
                  · rw [if_pos c14] at H
                    have c14b0 : (t114 == t113) = true := beq_iff_eq.mpr c14
                    have c14b1 : (t114 != t113) = false := bne_eq_false_iff_eq.mpr c14
                    clear c14
                    obtain rfl := Option.some.inj H
                    go_wp2_with (first | ((with_reducible refine gate_callee (f := 10) rfl ?_); refine goesL_ (some 35) rfl rfl Try.func10 (by kernel_rfl) rfl #[.int .u64 (IntKind.u64.wrap (a0 + 1))] rfl (by (try simp only [List.map_toArray, List.map_cons, List.map_nil]); first | done | rfl | (simp only [List.length_drop, List.length_take]; rfl)) ?_; (with_reducible refine (root_Sqrt.calls kj8 (IntKind.u64.wrap (a0 + 1)) t114 _ A13.out).mono ?_); rintro e w' ⟨rfl, ⟨nd, rfl⟩⟩; refine ⟨_, rfl, ?_⟩))
                    go_ret
                    exact ⟨by first | rfl | (simp [errW_none, errW_some] <;> rfl) | (simp [*, errW_none, errW_some] <;> rfl), by repeat (first | (with_reducible first | exact HB.out | apply below_alloc | apply pw_below_drewN | apply below_drew1) | exact HB.out)⟩
                  · rw [if_neg c14] at H
                    have c14b0 : (t114 == t113) = false := beq_eq_false_iff_ne.mpr c14
                    have c14b1 : (t114 != t113) = true := bne_iff_ne.mpr c14
                    by_cases c15 : t114 = (IntKind.u64.wrap (t113 + 1))
                    · rw [if_pos c15] at H
                      have c15b0 : (t114 == (IntKind.u64.wrap (t113 + 1))) = true := beq_iff_eq.mpr c15
                      have c15b1 : (t114 != (IntKind.u64.wrap (t113 + 1))) = false := bne_eq_false_iff_eq.mpr c15
                      clear c15
                      obtain rfl := Option.some.inj H
                      go_wp2_with (first | ((with_reducible refine gate_callee (f := 10) rfl ?_); refine goesL_ (some 35) rfl rfl Try.func10 (by kernel_rfl) rfl #[.int .u64 (IntKind.u64.wrap (a0 + 1))] rfl (by (try simp only [List.map_toArray, List.map_cons, List.map_nil]); first | done | rfl | (simp only [List.length_drop, List.length_take]; rfl)) ?_; (with_reducible refine (root_Sqrt.calls kj8 (IntKind.u64.wrap (a0 + 1)) t114 _ A13.out).mono ?_); rintro e w' ⟨rfl, ⟨nd, rfl⟩⟩; refine ⟨_, rfl, ?_⟩))
                      go_ret
                      exact ⟨by first | rfl | (simp [errW_none, errW_some] <;> rfl) | (simp [*, errW_none, errW_some] <;> rfl), by repeat (first | (with_reducible first | exact HB.out | apply below_alloc | apply pw_below_drewN | apply below_drew1) | exact HB.out)⟩
                    · rw [if_neg c15] at H
                      have c15b0 : (t114 == (IntKind.u64.wrap (t113 + 1))) = false := beq_eq_false_iff_ne.mpr c15
                      have c15b1 : (t114 != (IntKind.u64.wrap (t113 + 1))) = true := bne_iff_ne.mpr c15
                      obtain rfl := Option.some.inj H
                      go_wp2_with (first | ((with_reducible refine gate_callee (f := 10) rfl ?_); refine goesL_ (some 35) rfl rfl Try.func10 (by kernel_rfl) rfl #[.int .u64 (IntKind.u64.wrap (a0 + 1))] rfl (by (try simp only [List.map_toArray, List.map_cons, List.map_nil]); first | done | rfl | (simp only [List.length_drop, List.length_take]; rfl)) ?_; (with_reducible refine (root_Sqrt.calls kj8 (IntKind.u64.wrap (a0 + 1)) t114 _ A13.out).mono ?_); rintro e w' ⟨rfl, ⟨nd, rfl⟩⟩; refine ⟨_, rfl, ?_⟩))
                      go_ret
                      exact ⟨by first | rfl | (simp [errW_none, errW_some] <;> rfl) | (simp [*, errW_none, errW_some] <;> rfl), by repeat (first | (with_reducible first | exact HB.out | apply below_alloc | apply pw_below_drewN | apply below_drew1) | exact HB.out)⟩
  · replace c3 := Bool.eq_false_iff.mpr c3
    subst c3
    have H1 : (some false) = some r := by rw [if_neg (show ¬ (false = true) by decide)] at H; exact H
    clear H
    have H := H1
    clear H1
    obtain rfl := Option.some.inj H
    go_enter Try.func4, Try.ntmps4
    go_wp2_with (first | ((with_reducible refine gate_callee (f := 9) rfl ?_); refine goesL_ (some 5) rfl rfl Try.func9 (by kernel_rfl) rfl #[] rfl (by (try simp only [List.map_toArray, List.map_cons, List.map_nil]); first | done | rfl | (simp only [List.length_drop, List.length_take]; rfl)) ?_; (with_reducible refine (spinetlaw03_awake.calls k  false _ A2.out).mono ?_); rintro e w16 ⟨rfl, hb⟩; refine ⟨_, rfl, ?_⟩; have n0_ := Aside0.mk (below_step (by repeat (first | (with_reducible first | exact HB.out | apply below_alloc | apply pw_below_drewN | apply below_drew1) | exact HB.out)) hb); clear HB; have HB := n0_; clear n0_; (try clear hb); (try clear hb2); (try clear hk); (try clear hi)))
    go_ret
    exact ⟨by first | rfl | (simp [errW_none, errW_some] <;> rfl) | (simp [*, errW_none, errW_some] <;> rfl), by repeat (first | (with_reducible first | exact HB.out | apply below_alloc | apply pw_below_drewN | apply below_drew1) | exact HB.out)⟩

/-- THE ONE PURE STATEMENT of spinetlaw03_RootIs: yours. -/
def spinetlaw03_RootIs.Pure : Prop := ∀ (a0 : Int), (Lit.int .u64 a0).wf = true → ∃ k, spinetlaw03_RootIs.f k a0 = some true
theorem spinetlaw03_RootIs.walk (P : spinetlaw03_RootIs.Pure) (a0 : Int) (w : World) (w0 : (Lit.int .u64 a0).wf = true) :
    Calls Try.prog 4 #[.int .u64 a0] w fun e w' => e = .returned (.bool true) ∧ Below w.heap.size w w' := by
  obtain ⟨k, h⟩ := P a0 w0
  refine (spinetlaw03_RootIs.calls k a0 true w h).mono ?_
  rintro e w' ⟨rfl, hd⟩
  exact ⟨rfl, hd⟩

end Go.Proofs.Ytiejkgapifpchaa.ORootIs
