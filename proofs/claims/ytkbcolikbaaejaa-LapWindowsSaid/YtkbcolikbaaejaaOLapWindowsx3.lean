import Derived.Test.YtkbcolikbaaejaaOLapWindowsx0
import Derived.Test.YtkbcolikbaaejaaOLapWindowsx1
import Derived.Test.YtkbcolikbaaejaaOLapWindowsx2
namespace Go.Proofs.Ytkbcolikbaaejaa.OLapWindows
open Go.RowKit Go.Proofs.YtkbcolikbaaejaaW.PrintWords Go.Proofs.YtkbcolikbaaejaaW.PrintLast Go.Proofs.YtkbcolikbaaejaaW.PrintMore
attribute [local go_sem] max2_int min2_int max_two min_two max_three min_three max_four min_four   -- for this text's walks alone
set_option linter.unusedVariables false
set_option linter.unusedSimpArgs false

/-! ### spinetlaw23_awake: function 7 -/
def spinetlaw23_awake.f (k : Nat)  : Option (Bool) := if 8 ≤ 70368744177664 then ((lap_Plain.f k (List.replicate 8 0) (([5, 0, 0, 0, 0, 0, 0, 0] : List Int))).bind fun bt142 => ((lap_Window.f k 8 0).bind fun t148 => (if t148 = 8192 then (if (bt142.1.length : Int) = 8 then (if 0 < (bt142.1.length : Int) then (if (rd bt142.1 0) = 5 then (if (bt142.2.length : Int) = 8 then (if 0 < (bt142.2.length : Int) then (some ((rd bt142.2 0) == 0)) else (none)) else (some false)) else (some false)) else (none)) else (some false)) else (some false)))) else (none)
theorem spinetlaw23_awake.mono : ∀ k, LeO (spinetlaw23_awake.f k ) (spinetlaw23_awake.f (k + 1) ) := by
  intro  k
  unfold spinetlaw23_awake.f
  repeat' first
      | (with_reducible exact lap_Plain.mono _ _ _)
      | (with_reducible exact lap_Window.mono _ _ _)
      | (with_reducible exact LeO.refl _)
      | (with_reducible exact LeO.none _)
      | (with_reducible refine LeO.ite ?_ ?_)
      | (with_reducible refine LeO.bind ?_ (fun _ => ?_))
      | exact lap_Plain.mono _ _ _
      | exact lap_Window.mono _ _ _
      | exact LeO.none _
      | refine LeO.ite ?_ ?_
      | refine LeO.bind ?_ (fun _ => ?_)
set_option maxHeartbeats 8000000 in
set_option maxRecDepth 100000 in
theorem spinetlaw23_awake.calls (k : Nat)  (r : Bool) (w : World) (h : spinetlaw23_awake.f k  = some r) :
    Calls Try.prog 7 #[] w fun e w' => e = .returned (.bool r) ∧ Below w.heap.size w w' := by
  have HB := Aside0.mk (Below.refl w.heap.size w)
  have H : (if 8 ≤ 70368744177664 then ((lap_Plain.f k (List.replicate 8 0) (([5, 0, 0, 0, 0, 0, 0, 0] : List Int))).bind fun bt142 => ((lap_Window.f k 8 0).bind fun t148 => (if t148 = 8192 then (if (bt142.1.length : Int) = 8 then (if 0 < (bt142.1.length : Int) then (if (rd bt142.1 0) = 5 then (if (bt142.2.length : Int) = 8 then (if 0 < (bt142.2.length : Int) then (some ((rd bt142.2 0) == 0)) else (none)) else (some false)) else (some false)) else (none)) else (some false)) else (some false)))) else (none)) = some r := h
  clear h
  by_cases c1 : 8 ≤ 70368744177664
  · rw [if_pos c1] at H
    have c1b0 := eq_true c1
    have c1b1 : decide (8 ≤ 70368744177664) = true := decide_eq_true c1
    clear c1
    obtain ⟨y136, hy136⟩ : ∃ y_ : List Int, y_ = (List.replicate 8 0) := ⟨_, rfl⟩
    replace H : ((lap_Plain.f k y136 (([5, 0, 0, 0, 0, 0, 0, 0] : List Int))).bind fun bt142 => ((lap_Window.f k 8 0).bind fun t148 => (if t148 = 8192 then (if (bt142.1.length : Int) = 8 then (if 0 < (bt142.1.length : Int) then (if (rd bt142.1 0) = 5 then (if (bt142.2.length : Int) = 8 then (if 0 < (bt142.2.length : Int) then (some ((rd bt142.2 0) == 0)) else (none)) else (some false)) else (some false)) else (none)) else (some false)) else (some false)))) = some r := by first | (rw [hy136]; with_reducible exact H) | (have H2_ := (Option.bind_some _ _).symm.trans H; rw [hy136]; with_reducible exact H2_) | (have H2_ := (Option.bind_some _ _).symm.trans H; with_reducible exact H2_) | with_reducible exact H | (rw [hy136]; exact H) | exact H
    have Ny136 := Aside0.mk hy136
    clear hy136
    obtain ⟨y139, hy139⟩ : ∃ y_ : List Int, y_ = (([5, 0, 0, 0, 0, 0, 0, 0] : List Int)) := ⟨_, rfl⟩
    replace H : ((lap_Plain.f k y136 y139).bind fun bt142 => ((lap_Window.f k 8 0).bind fun t148 => (if t148 = 8192 then (if (bt142.1.length : Int) = 8 then (if 0 < (bt142.1.length : Int) then (if (rd bt142.1 0) = 5 then (if (bt142.2.length : Int) = 8 then (if 0 < (bt142.2.length : Int) then (some ((rd bt142.2 0) == 0)) else (none)) else (some false)) else (some false)) else (none)) else (some false)) else (some false)))) = some r := by first | (rw [hy139]; with_reducible exact H) | (have H2_ := (Option.bind_some _ _).symm.trans H; rw [hy139]; with_reducible exact H2_) | (have H2_ := (Option.bind_some _ _).symm.trans H; with_reducible exact H2_) | with_reducible exact H | (rw [hy139]; exact H) | exact H
    have Ny139 := Aside0.mk hy139
    clear hy139
    replace H := Option.bind_eq_some_iff.mp H
    obtain ⟨⟨t142, t143⟩, A20, H⟩ := H
    replace H : ((lap_Window.f k 8 0).bind fun t148 => (if t148 = 8192 then (if (t142.length : Int) = 8 then (if 0 < (t142.length : Int) then (if (rd t142 0) = 5 then (if (t143.length : Int) = 8 then (if 0 < (t143.length : Int) then (some ((rd t143 0) == 0)) else (none)) else (some false)) else (some false)) else (none)) else (some false)) else (some false))) = some r := H
    have A2 := Aside0.mk A20
    clear A20
    replace H := Option.bind_eq_some_iff.mp H
    obtain ⟨t148, A30, H⟩ := H
    replace H : (if t148 = 8192 then (if (t142.length : Int) = 8 then (if 0 < (t142.length : Int) then (if (rd t142 0) = 5 then (if (t143.length : Int) = 8 then (if 0 < (t143.length : Int) then (some ((rd t143 0) == 0)) else (none)) else (some false)) else (some false)) else (none)) else (some false)) else (some false)) = some r := H
    have A3 := Aside0.mk A30
    clear A30
    by_cases c4 : t148 = 8192
    · rw [if_pos c4] at H
      have c4b0 : (t148 == 8192) = true := beq_iff_eq.mpr c4
      have c4b1 : (t148 != 8192) = false := bne_eq_false_iff_eq.mpr c4
      clear c4
      by_cases c5 : (t142.length : Int) = 8
      · rw [if_pos c5] at H
        have c5b0 : ((t142.length : Int) == 8) = true := beq_iff_eq.mpr c5
        have c5b1 : ((t142.length : Int) != 8) = false := bne_eq_false_iff_eq.mpr c5
        clear c5
        by_cases c6 : 0 < (t142.length : Int)
        · rw [if_pos c6] at H
          have c6b0 : decide (0 < (t142.length : Int)) = true := decide_eq_true c6
          have c6b1 : decide (0 < t142.length) = true := decide_eq_true (by omega)
          clear c6
          by_cases c7 : (rd t142 0) = 5
          · rw [if_pos c7] at H
            have c7b0 : ((rd t142 0) == 5) = true := beq_iff_eq.mpr c7
            have c7b1 : ((rd t142 0) != 5) = false := bne_eq_false_iff_eq.mpr c7
            clear c7
            by_cases c8 : (t143.length : Int) = 8
            · rw [if_pos c8] at H
              have c8b0 : ((t143.length : Int) == 8) = true := beq_iff_eq.mpr c8
              have c8b1 : ((t143.length : Int) != 8) = false := bne_eq_false_iff_eq.mpr c8
              clear c8
              by_cases c9 : 0 < (t143.length : Int)
              · rw [if_pos c9] at H
                have c9b0 : decide (0 < (t143.length : Int)) = true := decide_eq_true c9
                have c9b1 : decide (0 < t143.length) = true := decide_eq_true (by omega)
                clear c9
                obtain rfl := Option.some.inj H
                go_enter Try.func7, Try.ntmps7
                go_wp2_with (first | ((with_reducible refine gate_dst (N := 4) rfl ?_); (try (refine gate_guard (by rfl) ?_; dsimp only)); refine Kd.R_make (Kd.int .i32) _ 21 rfl (N := 4) rfl 30 _ _ rfl 8 rfl rfl Try.underlying30 (.int .i32 0) 4 info21 rfl (by decide) (by omega) 0 (ok := fun _ => True) (okp := fun _ => True) rfl (fun _ hk => hk) trivial (by omega) (by omega) (Below.refl _ _) (Nat.le_refl _) ?_; intro v137 w10 ho11 hb hg_ hnew_; clear hg_ hnew_; (first | rw [← Ny136.out] at ho11 | (simp only [Int.reduceToNat] at ho11; rw [← Ny136.out] at ho11)); have n0_ := Aside0.mk (Kd.R_lower ho11 (below_size (by repeat (first | (with_reducible first | exact HB.out | apply below_alloc | apply pw_below_drewN | apply below_drew1) | exact HB.out)))); have n1_ := Aside0.mk (below_step (by repeat (first | (with_reducible first | exact HB.out | apply below_alloc | apply pw_below_drewN | apply below_drew1) | exact HB.out)) hb); clear HB; have HO138 := n0_; have HB := n1_; clear n0_ n1_; clear hb ho11) | ((with_reducible refine gate_dst (N := 5) rfl ?_); (try (refine gate_guard (by rfl) ?_; dsimp only)); refine Kd.R_lit (Kd.int .i32) _ 21 ?hg (N := 5) ?hd (xs := ([5, 0, 0, 0, 0, 0, 0, 0] : List Int)) (inner := [.int .i32 5, .int .i32 0, .int .i32 0, .int .i32 0, .int .i32 0, .int .i32 0, .int .i32 0, .int .i32 0]) (ok := fun _ => True) (okp := fun _ => True) ?hr ?hp (fun _ hk => hk) trivial (Below.refl _ _) (Nat.le_refl _) (by simp) ?_; (case hd => rfl); (case hg => rfl); (case hr => first | (go_simp; done) | (go_simp; rfl)); (case hp => exact (Reps.one (show Kd.M (Kd.int .i32) _ _ _ 5 [.int .i32 5] from rfl) (Reps.one (show Kd.M (Kd.int .i32) _ _ _ 0 [.int .i32 0] from rfl) (Reps.one (show Kd.M (Kd.int .i32) _ _ _ 0 [.int .i32 0] from rfl) (Reps.one (show Kd.M (Kd.int .i32) _ _ _ 0 [.int .i32 0] from rfl) (Reps.one (show Kd.M (Kd.int .i32) _ _ _ 0 [.int .i32 0] from rfl) (Reps.one (show Kd.M (Kd.int .i32) _ _ _ 0 [.int .i32 0] from rfl) (Reps.one (show Kd.M (Kd.int .i32) _ _ _ 0 [.int .i32 0] from rfl) (Reps.one (show Kd.M (Kd.int .i32) _ _ _ 0 [.int .i32 0] from rfl) (Reps.none _ _)))))))))); intro v140 w12 ho13 hb hg_ hnew_; clear hg_ hnew_; (first | rw [← Ny139.out] at ho13 | (simp only [Int.reduceToNat] at ho13; rw [← Ny139.out] at ho13)); have n0_ := Aside0.mk (Kd.R_elder' (by (with_reducible repeat (first | apply Kd.R_alloc | apply Kd.R_drewN | apply Kd.R_drew)); exact HO138.out) (Kd.R_base ho13) hb); have n1_ := Aside0.mk (Kd.R_lower (Kd.R_new' ho13 (Kd.R_lt (by (with_reducible repeat (first | apply Kd.R_alloc | apply Kd.R_drewN | apply Kd.R_drew)); exact HO138.out))) (below_size (by repeat (first | (with_reducible first | exact HB.out | apply below_alloc | apply pw_below_drewN | apply below_drew1) | exact HB.out)))); have n2_ := Aside0.mk (below_step (by repeat (first | (with_reducible first | exact HB.out | apply below_alloc | apply pw_below_drewN | apply below_drew1) | exact HB.out)) hb); clear HO138; clear HB; have HO138 := n0_; have HO141 := n1_; have HB := n2_; clear n0_ n1_ n2_; clear hb ho13; obtain ⟨Ao14, co14, eo14⟩ := Kd.R_slice HO138.out; subst eo14; obtain ⟨Ao15, co15, eo15⟩ := Kd.R_slice HO141.out; subst eo15) | ((with_reducible refine gate_callee (f := 11) rfl ?_); refine goesL_ (some 6) rfl rfl Try.func11 (by kernel_rfl) rfl #[.slice Ao14 y136.length co14, .slice Ao15 y139.length co15] rfl (by (try simp only [List.map_toArray, List.map_cons, List.map_nil]); first | done | rfl | (simp only [List.length_drop, List.length_take]; rfl)) ?_; (with_reducible refine (lap_Plain.calls k _ _ y136 _ _ y139 t142 t143 _ ?side1 ?side2 ?side3 ?side4 A2.out).mono ?_); (case side1 => repeat (first | exact (Kd.R_reads' HO138.out).2.2 | (with_reducible refine Kd.C_alloc ?_ _) | (with_reducible refine Kd.C_drewN ?_ _) | (with_reducible refine Kd.C_drew ?_))); (case side2 => exact (Kd.R_reads' HO138.out).2.1); (case side3 => repeat (first | exact (Kd.R_reads' HO141.out).2.2 | (with_reducible refine Kd.C_alloc ?_ _) | (with_reducible refine Kd.C_drewN ?_ _) | (with_reducible refine Kd.C_drew ?_))); (case side4 => exact (Kd.R_reads' HO141.out).2.1); rintro e w16 ⟨v144, v146, rfl, ho0, ho1, hb⟩; refine ⟨_, rfl, ?_⟩; have n0_ := Aside0.mk (Kd.R_mono (Kd.R_told (Kd.R_told (Kd.R_old (by (with_reducible repeat (first | apply Kd.R_alloc | apply Kd.R_drewN | apply Kd.R_drew)); exact HO138.out) hb) (Kd.R_base ho0)) (Kd.R_base ho1)) (fun _ h_ => h_.1)); have n1_ := Aside0.mk (Kd.R_mono (Kd.R_told (Kd.R_told (Kd.R_old (by (with_reducible repeat (first | apply Kd.R_alloc | apply Kd.R_drewN | apply Kd.R_drew)); exact HO141.out) hb) (Kd.R_base ho0)) (Kd.R_base ho1)) (fun _ h_ => h_.1)); have n2_ := Aside0.mk (Kd.R_lower (Kd.R_new' (Kd.R_new' ho0 (Kd.R_lt (by (with_reducible repeat (first | apply Kd.R_alloc | apply Kd.R_drewN | apply Kd.R_drew)); exact HO138.out))) (Kd.R_lt (by (with_reducible repeat (first | apply Kd.R_alloc | apply Kd.R_drewN | apply Kd.R_drew)); exact HO141.out))) (below_size (by repeat (first | (with_reducible first | exact HB.out | apply below_alloc | apply pw_below_drewN | apply below_drew1) | exact HB.out)))); have n3_ := Aside0.mk (Kd.R_lower (Kd.R_new' (Kd.R_new' ho1 (Kd.R_lt (by (with_reducible repeat (first | apply Kd.R_alloc | apply Kd.R_drewN | apply Kd.R_drew)); exact HO138.out))) (Kd.R_lt (by (with_reducible repeat (first | apply Kd.R_alloc | apply Kd.R_drewN | apply Kd.R_drew)); exact HO141.out))) (below_size (by repeat (first | (with_reducible first | exact HB.out | apply below_alloc | apply pw_below_drewN | apply below_drew1) | exact HB.out)))); have n4_ := Aside0.mk (below_step (by repeat (first | (with_reducible first | exact HB.out | apply below_alloc | apply pw_below_drewN | apply below_drew1) | exact HB.out)) hb); clear HO138; clear HO141; clear HB; have HO138 := n0_; have HO141 := n1_; have HO145 := n2_; have HO147 := n3_; have HB := n4_; clear n0_ n1_ n2_ n3_ n4_; (try clear hb); (try clear hb2); (try clear hk); (try clear hi); (try clear ho0); (try clear ho1)) | ((with_reducible refine gate_callee (f := 10) rfl ?_); refine goesL_ (some 9) rfl rfl Try.func10 (by kernel_rfl) rfl #[.int .i64 8, .int .i64 0] rfl (by (try simp only [List.map_toArray, List.map_cons, List.map_nil]); first | done | rfl | (simp only [List.length_drop, List.length_take]; rfl)) ?_; (with_reducible refine (lap_Window.calls k 8 0 t148 _ A3.out).mono ?_); rintro e w' ⟨rfl, ⟨nd, rfl⟩⟩; refine ⟨_, rfl, ?_⟩; obtain ⟨Ao17, co17, eo17⟩ := Kd.R_slice HO145.out; subst eo17; have p149 : 0 ≤ (0 : Int) := (by omega); have q149 : 0 < (t142.length : Int) := of_decide_eq_true (by first | (with_reducible assumption) | assumption); obtain ⟨ad149, e149, hx149_0⟩ := Kd.at_int (Kd.R_reads' HO145.out).2.2 0 p149 q149; cases e149; have qi149 : (0 < t142.length) = True := eq_true (by omega); (try rw [show ((0 : Int)).toNat = 0 from rfl] at hx149_0); (try rw [Addr.add_zero'] at hx149_0); replace p149 := eq_true p149; replace q149 := eq_true q149; obtain ⟨Ao18, co18, eo18⟩ := Kd.R_slice HO147.out; subst eo18; have p150 : 0 ≤ (0 : Int) := (by omega); have q150 : 0 < (t143.length : Int) := of_decide_eq_true (by first | (with_reducible assumption) | assumption); obtain ⟨ad150, e150, hx150_0⟩ := Kd.at_int (Kd.R_reads' HO147.out).2.2 0 p150 q150; cases e150; have qi150 : (0 < t143.length) = True := eq_true (by omega); (try rw [show ((0 : Int)).toNat = 0 from rfl] at hx150_0); (try rw [Addr.add_zero'] at hx150_0); replace p150 := eq_true p150; replace q150 := eq_true q150))
                go_ret
                exact ⟨by first | rfl | (simp [errW_none, errW_some] <;> rfl) | (simp [*, errW_none, errW_some] <;> rfl), by repeat (first | (with_reducible first | exact HB.out | apply below_alloc | apply pw_below_drewN | apply below_drew1) | exact HB.out)⟩
              · rw [if_neg c9] at H
                exact absurd H (by simp)
            · rw [if_neg c8] at H
              have c8b0 : ((t143.length : Int) == 8) = false := beq_eq_false_iff_ne.mpr c8
              have c8b1 : ((t143.length : Int) != 8) = true := bne_iff_ne.mpr c8
              obtain rfl := Option.some.inj H
              go_enter Try.func7, Try.ntmps7
              go_wp2_with (first | ((with_reducible refine gate_dst (N := 4) rfl ?_); (try (refine gate_guard (by rfl) ?_; dsimp only)); refine Kd.R_make (Kd.int .i32) _ 21 rfl (N := 4) rfl 30 _ _ rfl 8 rfl rfl Try.underlying30 (.int .i32 0) 4 info21 rfl (by decide) (by omega) 0 (ok := fun _ => True) (okp := fun _ => True) rfl (fun _ hk => hk) trivial (by omega) (by omega) (Below.refl _ _) (Nat.le_refl _) ?_; intro v137 w19 ho20 hb hg_ hnew_; clear hg_ hnew_; (first | rw [← Ny136.out] at ho20 | (simp only [Int.reduceToNat] at ho20; rw [← Ny136.out] at ho20)); have n0_ := Aside0.mk (Kd.R_lower ho20 (below_size (by repeat (first | (with_reducible first | exact HB.out | apply below_alloc | apply pw_below_drewN | apply below_drew1) | exact HB.out)))); have n1_ := Aside0.mk (below_step (by repeat (first | (with_reducible first | exact HB.out | apply below_alloc | apply pw_below_drewN | apply below_drew1) | exact HB.out)) hb); clear HB; have HO138 := n0_; have HB := n1_; clear n0_ n1_; clear hb ho20) | ((with_reducible refine gate_dst (N := 5) rfl ?_); (try (refine gate_guard (by rfl) ?_; dsimp only)); refine Kd.R_lit (Kd.int .i32) _ 21 ?hg (N := 5) ?hd (xs := ([5, 0, 0, 0, 0, 0, 0, 0] : List Int)) (inner := [.int .i32 5, .int .i32 0, .int .i32 0, .int .i32 0, .int .i32 0, .int .i32 0, .int .i32 0, .int .i32 0]) (ok := fun _ => True) (okp := fun _ => True) ?hr ?hp (fun _ hk => hk) trivial (Below.refl _ _) (Nat.le_refl _) (by simp) ?_; (case hd => rfl); (case hg => rfl); (case hr => first | (go_simp; done) | (go_simp; rfl)); (case hp => exact (Reps.one (show Kd.M (Kd.int .i32) _ _ _ 5 [.int .i32 5] from rfl) (Reps.one (show Kd.M (Kd.int .i32) _ _ _ 0 [.int .i32 0] from rfl) (Reps.one (show Kd.M (Kd.int .i32) _ _ _ 0 [.int .i32 0] from rfl) (Reps.one (show Kd.M (Kd.int .i32) _ _ _ 0 [.int .i32 0] from rfl) (Reps.one (show Kd.M (Kd.int .i32) _ _ _ 0 [.int .i32 0] from rfl) (Reps.one (show Kd.M (Kd.int .i32) _ _ _ 0 [.int .i32 0] from rfl) (Reps.one (show Kd.M (Kd.int .i32) _ _ _ 0 [.int .i32 0] from rfl) (Reps.one (show Kd.M (Kd.int .i32) _ _ _ 0 [.int .i32 0] from rfl) (Reps.none _ _)))))))))); intro v140 w21 ho22 hb hg_ hnew_; clear hg_ hnew_; (first | rw [← Ny139.out] at ho22 | (simp only [Int.reduceToNat] at ho22; rw [← Ny139.out] at ho22)); have n0_ := Aside0.mk (Kd.R_elder' (by (with_reducible repeat (first | apply Kd.R_alloc | apply Kd.R_drewN | apply Kd.R_drew)); exact HO138.out) (Kd.R_base ho22) hb); have n1_ := Aside0.mk (Kd.R_lower (Kd.R_new' ho22 (Kd.R_lt (by (with_reducible repeat (first | apply Kd.R_alloc | apply Kd.R_drewN | apply Kd.R_drew)); exact HO138.out))) (below_size (by repeat (first | (with_reducible first | exact HB.out | apply below_alloc | apply pw_below_drewN | apply below_drew1) | exact HB.out)))); have n2_ := Aside0.mk (below_step (by repeat (first | (with_reducible first | exact HB.out | apply below_alloc | apply pw_below_drewN | apply below_drew1) | exact HB.out)) hb); clear HO138; clear HB; have HO138 := n0_; have HO141 := n1_; have HB := n2_; clear n0_ n1_ n2_; clear hb ho22; obtain ⟨Ao23, co23, eo23⟩ := Kd.R_slice HO138.out; subst eo23; obtain ⟨Ao24, co24, eo24⟩ := Kd.R_slice HO141.out; subst eo24) | ((with_reducible refine gate_callee (f := 11) rfl ?_); refine goesL_ (some 6) rfl rfl Try.func11 (by kernel_rfl) rfl #[.slice Ao23 y136.length co23, .slice Ao24 y139.length co24] rfl (by (try simp only [List.map_toArray, List.map_cons, List.map_nil]); first | done | rfl | (simp only [List.length_drop, List.length_take]; rfl)) ?_; (with_reducible refine (lap_Plain.calls k _ _ y136 _ _ y139 t142 t143 _ ?side1 ?side2 ?side3 ?side4 A2.out).mono ?_); (case side1 => repeat (first | exact (Kd.R_reads' HO138.out).2.2 | (with_reducible refine Kd.C_alloc ?_ _) | (with_reducible refine Kd.C_drewN ?_ _) | (with_reducible refine Kd.C_drew ?_))); (case side2 => exact (Kd.R_reads' HO138.out).2.1); (case side3 => repeat (first | exact (Kd.R_reads' HO141.out).2.2 | (with_reducible refine Kd.C_alloc ?_ _) | (with_reducible refine Kd.C_drewN ?_ _) | (with_reducible refine Kd.C_drew ?_))); (case side4 => exact (Kd.R_reads' HO141.out).2.1); rintro e w25 ⟨v144, v146, rfl, ho0, ho1, hb⟩; refine ⟨_, rfl, ?_⟩; have n0_ := Aside0.mk (Kd.R_mono (Kd.R_told (Kd.R_told (Kd.R_old (by (with_reducible repeat (first | apply Kd.R_alloc | apply Kd.R_drewN | apply Kd.R_drew)); exact HO138.out) hb) (Kd.R_base ho0)) (Kd.R_base ho1)) (fun _ h_ => h_.1)); have n1_ := Aside0.mk (Kd.R_mono (Kd.R_told (Kd.R_told (Kd.R_old (by (with_reducible repeat (first | apply Kd.R_alloc | apply Kd.R_drewN | apply Kd.R_drew)); exact HO141.out) hb) (Kd.R_base ho0)) (Kd.R_base ho1)) (fun _ h_ => h_.1)); have n2_ := Aside0.mk (Kd.R_lower (Kd.R_new' (Kd.R_new' ho0 (Kd.R_lt (by (with_reducible repeat (first | apply Kd.R_alloc | apply Kd.R_drewN | apply Kd.R_drew)); exact HO138.out))) (Kd.R_lt (by (with_reducible repeat (first | apply Kd.R_alloc | apply Kd.R_drewN | apply Kd.R_drew)); exact HO141.out))) (below_size (by repeat (first | (with_reducible first | exact HB.out | apply below_alloc | apply pw_below_drewN | apply below_drew1) | exact HB.out)))); have n3_ := Aside0.mk (Kd.R_lower (Kd.R_new' (Kd.R_new' ho1 (Kd.R_lt (by (with_reducible repeat (first | apply Kd.R_alloc | apply Kd.R_drewN | apply Kd.R_drew)); exact HO138.out))) (Kd.R_lt (by (with_reducible repeat (first | apply Kd.R_alloc | apply Kd.R_drewN | apply Kd.R_drew)); exact HO141.out))) (below_size (by repeat (first | (with_reducible first | exact HB.out | apply below_alloc | apply pw_below_drewN | apply below_drew1) | exact HB.out)))); have n4_ := Aside0.mk (below_step (by repeat (first | (with_reducible first | exact HB.out | apply below_alloc | apply pw_below_drewN | apply below_drew1) | exact HB.out)) hb); clear HO138; clear HO141; clear HB; have HO138 := n0_; have HO141 := n1_; have HO145 := n2_; have HO147 := n3_; have HB := n4_; clear n0_ n1_ n2_ n3_ n4_; (try clear hb); (try clear hb2); (try clear hk); (try clear hi); (try clear ho0); (try clear ho1)) | ((with_reducible refine gate_callee (f := 10) rfl ?_); refine goesL_ (some 9) rfl rfl Try.func10 (by kernel_rfl) rfl #[.int .i64 8, .int .i64 0] rfl (by (try simp only [List.map_toArray, List.map_cons, List.map_nil]); first | done | rfl | (simp only [List.length_drop, List.length_take]; rfl)) ?_; (with_reducible refine (lap_Window.calls k 8 0 t148 _ A3.out).mono ?_); rintro e w' ⟨rfl, ⟨nd, rfl⟩⟩; refine ⟨_, rfl, ?_⟩; obtain ⟨Ao26, co26, eo26⟩ := Kd.R_slice HO145.out; subst eo26; have p149 : 0 ≤ (0 : Int) := (by omega); have q149 : 0 < (t142.length : Int) := of_decide_eq_true (by first | (with_reducible assumption) | assumption); obtain ⟨ad149, e149, hx149_0⟩ := Kd.at_int (Kd.R_reads' HO145.out).2.2 0 p149 q149; cases e149; have qi149 : (0 < t142.length) = True := eq_true (by omega); (try rw [show ((0 : Int)).toNat = 0 from rfl] at hx149_0); (try rw [Addr.add_zero'] at hx149_0); replace p149 := eq_true p149; replace q149 := eq_true q149; obtain ⟨Ao27, co27, eo27⟩ := Kd.R_slice HO147.out; subst eo27))
              go_ret
              exact ⟨by first | rfl | (simp [errW_none, errW_some] <;> rfl) | (simp [*, errW_none, errW_some] <;> rfl), by repeat (first | (with_reducible first | exact HB.out | apply below_alloc | apply pw_below_drewN | apply below_drew1) | exact HB.out)⟩
          · rw [if_neg c7] at H
            have c7b0 : ((rd t142 0) == 5) = false := beq_eq_false_iff_ne.mpr c7
            have c7b1 : ((rd t142 0) != 5) = true := bne_iff_ne.mpr c7
            obtain rfl := Option.some.inj H
            go_enter Try.func7, Try.ntmps7
            go_wp2_with (first | ((with_reducible refine gate_dst (N := 4) rfl ?_); (try (refine gate_guard (by rfl) ?_; dsimp only)); refine Kd.R_make (Kd.int .i32) _ 21 rfl (N := 4) rfl 30 _ _ rfl 8 rfl rfl Try.underlying30 (.int .i32 0) 4 info21 rfl (by decide) (by omega) 0 (ok := fun _ => True) (okp := fun _ => True) rfl (fun _ hk => hk) trivial (by omega) (by omega) (Below.refl _ _) (Nat.le_refl _) ?_; intro v137 w28 ho29 hb hg_ hnew_; clear hg_ hnew_; (first | rw [← Ny136.out] at ho29 | (simp only [Int.reduceToNat] at ho29; rw [← Ny136.out] at ho29)); have n0_ := Aside0.mk (Kd.R_lower ho29 (below_size (by repeat (first | (with_reducible first | exact HB.out | apply below_alloc | apply pw_below_drewN | apply below_drew1) | exact HB.out)))); have n1_ := Aside0.mk (below_step (by repeat (first | (with_reducible first | exact HB.out | apply below_alloc | apply pw_below_drewN | apply below_drew1) | exact HB.out)) hb); clear HB; have HO138 := n0_; have HB := n1_; clear n0_ n1_; clear hb ho29) | ((with_reducible refine gate_dst (N := 5) rfl ?_); (try (refine gate_guard (by rfl) ?_; dsimp only)); refine Kd.R_lit (Kd.int .i32) _ 21 ?hg (N := 5) ?hd (xs := ([5, 0, 0, 0, 0, 0, 0, 0] : List Int)) (inner := [.int .i32 5, .int .i32 0, .int .i32 0, .int .i32 0, .int .i32 0, .int .i32 0, .int .i32 0, .int .i32 0]) (ok := fun _ => True) (okp := fun _ => True) ?hr ?hp (fun _ hk => hk) trivial (Below.refl _ _) (Nat.le_refl _) (by simp) ?_; (case hd => rfl); (case hg => rfl); (case hr => first | (go_simp; done) | (go_simp; rfl)); (case hp => exact (Reps.one (show Kd.M (Kd.int .i32) _ _ _ 5 [.int .i32 5] from rfl) (Reps.one (show Kd.M (Kd.int .i32) _ _ _ 0 [.int .i32 0] from rfl) (Reps.one (show Kd.M (Kd.int .i32) _ _ _ 0 [.int .i32 0] from rfl) (Reps.one (show Kd.M (Kd.int .i32) _ _ _ 0 [.int .i32 0] from rfl) (Reps.one (show Kd.M (Kd.int .i32) _ _ _ 0 [.int .i32 0] from rfl) (Reps.one (show Kd.M (Kd.int .i32) _ _ _ 0 [.int .i32 0] from rfl) (Reps.one (show Kd.M (Kd.int .i32) _ _ _ 0 [.int .i32 0] from rfl) (Reps.one (show Kd.M (Kd.int .i32) _ _ _ 0 [.int .i32 0] from rfl) (Reps.none _ _)))))))))); intro v140 w30 ho31 hb hg_ hnew_; clear hg_ hnew_; (first | rw [← Ny139.out] at ho31 | (simp only [Int.reduceToNat] at ho31; rw [← Ny139.out] at ho31)); have n0_ := Aside0.mk (Kd.R_elder' (by (with_reducible repeat (first | apply Kd.R_alloc | apply Kd.R_drewN | apply Kd.R_drew)); exact HO138.out) (Kd.R_base ho31) hb); have n1_ := Aside0.mk (Kd.R_lower (Kd.R_new' ho31 (Kd.R_lt (by (with_reducible repeat (first | apply Kd.R_alloc | apply Kd.R_drewN | apply Kd.R_drew)); exact HO138.out))) (below_size (by repeat (first | (with_reducible first | exact HB.out | apply below_alloc | apply pw_below_drewN | apply below_drew1) | exact HB.out)))); have n2_ := Aside0.mk (below_step (by repeat (first | (with_reducible first | exact HB.out | apply below_alloc | apply pw_below_drewN | apply below_drew1) | exact HB.out)) hb); clear HO138; clear HB; have HO138 := n0_; have HO141 := n1_; have HB := n2_; clear n0_ n1_ n2_; clear hb ho31; obtain ⟨Ao32, co32, eo32⟩ := Kd.R_slice HO138.out; subst eo32; obtain ⟨Ao33, co33, eo33⟩ := Kd.R_slice HO141.out; subst eo33) | ((with_reducible refine gate_callee (f := 11) rfl ?_); refine goesL_ (some 6) rfl rfl Try.func11 (by kernel_rfl) rfl #[.slice Ao32 y136.length co32, .slice Ao33 y139.length co33] rfl (by (try simp only [List.map_toArray, List.map_cons, List.map_nil]); first | done | rfl | (simp only [List.length_drop, List.length_take]; rfl)) ?_; (with_reducible refine (lap_Plain.calls k _ _ y136 _ _ y139 t142 t143 _ ?side1 ?side2 ?side3 ?side4 A2.out).mono ?_); (case side1 => repeat (first | exact (Kd.R_reads' HO138.out).2.2 | (with_reducible refine Kd.C_alloc ?_ _) | (with_reducible refine Kd.C_drewN ?_ _) | (with_reducible refine Kd.C_drew ?_))); (case side2 => exact (Kd.R_reads' HO138.out).2.1); (case side3 => repeat (first | exact (Kd.R_reads' HO141.out).2.2 | (with_reducible refine Kd.C_alloc ?_ _) | (with_reducible refine Kd.C_drewN ?_ _) | (with_reducible refine Kd.C_drew ?_))); (case side4 => exact (Kd.R_reads' HO141.out).2.1); rintro e w34 ⟨v144, v146, rfl, ho0, ho1, hb⟩; refine ⟨_, rfl, ?_⟩; have n0_ := Aside0.mk (Kd.R_mono (Kd.R_told (Kd.R_told (Kd.R_old (by (with_reducible repeat (first | apply Kd.R_alloc | apply Kd.R_drewN | apply Kd.R_drew)); exact HO138.out) hb) (Kd.R_base ho0)) (Kd.R_base ho1)) (fun _ h_ => h_.1)); have n1_ := Aside0.mk (Kd.R_mono (Kd.R_told (Kd.R_told (Kd.R_old (by (with_reducible repeat (first | apply Kd.R_alloc | apply Kd.R_drewN | apply Kd.R_drew)); exact HO141.out) hb) (Kd.R_base ho0)) (Kd.R_base ho1)) (fun _ h_ => h_.1)); have n2_ := Aside0.mk (Kd.R_lower (Kd.R_new' (Kd.R_new' ho0 (Kd.R_lt (by (with_reducible repeat (first | apply Kd.R_alloc | apply Kd.R_drewN | apply Kd.R_drew)); exact HO138.out))) (Kd.R_lt (by (with_reducible repeat (first | apply Kd.R_alloc | apply Kd.R_drewN | apply Kd.R_drew)); exact HO141.out))) (below_size (by repeat (first | (with_reducible first | exact HB.out | apply below_alloc | apply pw_below_drewN | apply below_drew1) | exact HB.out)))); have n3_ := Aside0.mk (Kd.R_lower (Kd.R_new' (Kd.R_new' ho1 (Kd.R_lt (by (with_reducible repeat (first | apply Kd.R_alloc | apply Kd.R_drewN | apply Kd.R_drew)); exact HO138.out))) (Kd.R_lt (by (with_reducible repeat (first | apply Kd.R_alloc | apply Kd.R_drewN | apply Kd.R_drew)); exact HO141.out))) (below_size (by repeat (first | (with_reducible first | exact HB.out | apply below_alloc | apply pw_below_drewN | apply below_drew1) | exact HB.out)))); have n4_ := Aside0.mk (below_step (by repeat (first | (with_reducible first | exact HB.out | apply below_alloc | apply pw_below_drewN | apply below_drew1) | exact HB.out)) hb); clear HO138; clear HO141; clear HB; have HO138 := n0_; have HO141 := n1_; have HO145 := n2_; have HO147 := n3_; have HB := n4_; clear n0_ n1_ n2_ n3_ n4_; (try clear hb); (try clear hb2); (try clear hk); (try clear hi); (try clear ho0); (try clear ho1)) | ((with_reducible refine gate_callee (f := 10) rfl ?_); refine goesL_ (some 9) rfl rfl Try.func10 (by kernel_rfl) rfl #[.int .i64 8, .int .i64 0] rfl (by (try simp only [List.map_toArray, List.map_cons, List.map_nil]); first | done | rfl | (simp only [List.length_drop, List.length_take]; rfl)) ?_; (with_reducible refine (lap_Window.calls k 8 0 t148 _ A3.out).mono ?_); rintro e w' ⟨rfl, ⟨nd, rfl⟩⟩; refine ⟨_, rfl, ?_⟩; obtain ⟨Ao35, co35, eo35⟩ := Kd.R_slice HO145.out; subst eo35; have p149 : 0 ≤ (0 : Int) := (by omega); have q149 : 0 < (t142.length : Int) := of_decide_eq_true (by first | (with_reducible assumption) | assumption); obtain ⟨ad149, e149, hx149_0⟩ := Kd.at_int (Kd.R_reads' HO145.out).2.2 0 p149 q149; cases e149; have qi149 : (0 < t142.length) = True := eq_true (by omega); (try rw [show ((0 : Int)).toNat = 0 from rfl] at hx149_0); (try rw [Addr.add_zero'] at hx149_0); replace p149 := eq_true p149; replace q149 := eq_true q149))
            go_ret
            exact ⟨by first | rfl | (simp [errW_none, errW_some] <;> rfl) | (simp [*, errW_none, errW_some] <;> rfl), by repeat (first | (with_reducible first | exact HB.out | apply below_alloc | apply pw_below_drewN | apply below_drew1) | exact HB.out)⟩
        · rw [if_neg c6] at H
          exact absurd H (by simp)
      · rw [if_neg c5] at H
        have c5b0 : ((t142.length : Int) == 8) = false := beq_eq_false_iff_ne.mpr c5
        have c5b1 : ((t142.length : Int) != 8) = true := bne_iff_ne.mpr c5
        obtain rfl := Option.some.inj H
        go_enter Try.func7, Try.ntmps7
        go_wp2_with (first | ((with_reducible refine gate_dst (N := 4) rfl ?_); (try (refine gate_guard (by rfl) ?_; dsimp only)); refine Kd.R_make (Kd.int .i32) _ 21 rfl (N := 4) rfl 30 _ _ rfl 8 rfl rfl Try.underlying30 (.int .i32 0) 4 info21 rfl (by decide) (by omega) 0 (ok := fun _ => True) (okp := fun _ => True) rfl (fun _ hk => hk) trivial (by omega) (by omega) (Below.refl _ _) (Nat.le_refl _) ?_; intro v137 w36 ho37 hb hg_ hnew_; clear hg_ hnew_; (first | rw [← Ny136.out] at ho37 | (simp only [Int.reduceToNat] at ho37; rw [← Ny136.out] at ho37)); have n0_ := Aside0.mk (Kd.R_lower ho37 (below_size (by repeat (first | (with_reducible first | exact HB.out | apply below_alloc | apply pw_below_drewN | apply below_drew1) | exact HB.out)))); have n1_ := Aside0.mk (below_step (by repeat (first | (with_reducible first | exact HB.out | apply below_alloc | apply pw_below_drewN | apply below_drew1) | exact HB.out)) hb); clear HB; have HO138 := n0_; have HB := n1_; clear n0_ n1_; clear hb ho37) | ((with_reducible refine gate_dst (N := 5) rfl ?_); (try (refine gate_guard (by rfl) ?_; dsimp only)); refine Kd.R_lit (Kd.int .i32) _ 21 ?hg (N := 5) ?hd (xs := ([5, 0, 0, 0, 0, 0, 0, 0] : List Int)) (inner := [.int .i32 5, .int .i32 0, .int .i32 0, .int .i32 0, .int .i32 0, .int .i32 0, .int .i32 0, .int .i32 0]) (ok := fun _ => True) (okp := fun _ => True) ?hr ?hp (fun _ hk => hk) trivial (Below.refl _ _) (Nat.le_refl _) (by simp) ?_; (case hd => rfl); (case hg => rfl); (case hr => first | (go_simp; done) | (go_simp; rfl)); (case hp => exact (Reps.one (show Kd.M (Kd.int .i32) _ _ _ 5 [.int .i32 5] from rfl) (Reps.one (show Kd.M (Kd.int .i32) _ _ _ 0 [.int .i32 0] from rfl) (Reps.one (show Kd.M (Kd.int .i32) _ _ _ 0 [.int .i32 0] from rfl) (Reps.one (show Kd.M (Kd.int .i32) _ _ _ 0 [.int .i32 0] from rfl) (Reps.one (show Kd.M (Kd.int .i32) _ _ _ 0 [.int .i32 0] from rfl) (Reps.one (show Kd.M (Kd.int .i32) _ _ _ 0 [.int .i32 0] from rfl) (Reps.one (show Kd.M (Kd.int .i32) _ _ _ 0 [.int .i32 0] from rfl) (Reps.one (show Kd.M (Kd.int .i32) _ _ _ 0 [.int .i32 0] from rfl) (Reps.none _ _)))))))))); intro v140 w38 ho39 hb hg_ hnew_; clear hg_ hnew_; (first | rw [← Ny139.out] at ho39 | (simp only [Int.reduceToNat] at ho39; rw [← Ny139.out] at ho39)); have n0_ := Aside0.mk (Kd.R_elder' (by (with_reducible repeat (first | apply Kd.R_alloc | apply Kd.R_drewN | apply Kd.R_drew)); exact HO138.out) (Kd.R_base ho39) hb); have n1_ := Aside0.mk (Kd.R_lower (Kd.R_new' ho39 (Kd.R_lt (by (with_reducible repeat (first | apply Kd.R_alloc | apply Kd.R_drewN | apply Kd.R_drew)); exact HO138.out))) (below_size (by repeat (first | (with_reducible first | exact HB.out | apply below_alloc | apply pw_below_drewN | apply below_drew1) | exact HB.out)))); have n2_ := Aside0.mk (below_step (by repeat (first | (with_reducible first | exact HB.out | apply below_alloc | apply pw_below_drewN | apply below_drew1) | exact HB.out)) hb); clear HO138; clear HB; have HO138 := n0_; have HO141 := n1_; have HB := n2_; clear n0_ n1_ n2_; clear hb ho39; obtain ⟨Ao40, co40, eo40⟩ := Kd.R_slice HO138.out; subst eo40; obtain ⟨Ao41, co41, eo41⟩ := Kd.R_slice HO141.out; subst eo41) | ((with_reducible refine gate_callee (f := 11) rfl ?_); refine goesL_ (some 6) rfl rfl Try.func11 (by kernel_rfl) rfl #[.slice Ao40 y136.length co40, .slice Ao41 y139.length co41] rfl (by (try simp only [List.map_toArray, List.map_cons, List.map_nil]); first | done | rfl | (simp only [List.length_drop, List.length_take]; rfl)) ?_; (with_reducible refine (lap_Plain.calls k _ _ y136 _ _ y139 t142 t143 _ ?side1 ?side2 ?side3 ?side4 A2.out).mono ?_); (case side1 => repeat (first | exact (Kd.R_reads' HO138.out).2.2 | (with_reducible refine Kd.C_alloc ?_ _) | (with_reducible refine Kd.C_drewN ?_ _) | (with_reducible refine Kd.C_drew ?_))); (case side2 => exact (Kd.R_reads' HO138.out).2.1); (case side3 => repeat (first | exact (Kd.R_reads' HO141.out).2.2 | (with_reducible refine Kd.C_alloc ?_ _) | (with_reducible refine Kd.C_drewN ?_ _) | (with_reducible refine Kd.C_drew ?_))); (case side4 => exact (Kd.R_reads' HO141.out).2.1); rintro e w42 ⟨v144, v146, rfl, ho0, ho1, hb⟩; refine ⟨_, rfl, ?_⟩; have n0_ := Aside0.mk (Kd.R_mono (Kd.R_told (Kd.R_told (Kd.R_old (by (with_reducible repeat (first | apply Kd.R_alloc | apply Kd.R_drewN | apply Kd.R_drew)); exact HO138.out) hb) (Kd.R_base ho0)) (Kd.R_base ho1)) (fun _ h_ => h_.1)); have n1_ := Aside0.mk (Kd.R_mono (Kd.R_told (Kd.R_told (Kd.R_old (by (with_reducible repeat (first | apply Kd.R_alloc | apply Kd.R_drewN | apply Kd.R_drew)); exact HO141.out) hb) (Kd.R_base ho0)) (Kd.R_base ho1)) (fun _ h_ => h_.1)); have n2_ := Aside0.mk (Kd.R_lower (Kd.R_new' (Kd.R_new' ho0 (Kd.R_lt (by (with_reducible repeat (first | apply Kd.R_alloc | apply Kd.R_drewN | apply Kd.R_drew)); exact HO138.out))) (Kd.R_lt (by (with_reducible repeat (first | apply Kd.R_alloc | apply Kd.R_drewN | apply Kd.R_drew)); exact HO141.out))) (below_size (by repeat (first | (with_reducible first | exact HB.out | apply below_alloc | apply pw_below_drewN | apply below_drew1) | exact HB.out)))); have n3_ := Aside0.mk (Kd.R_lower (Kd.R_new' (Kd.R_new' ho1 (Kd.R_lt (by (with_reducible repeat (first | apply Kd.R_alloc | apply Kd.R_drewN | apply Kd.R_drew)); exact HO138.out))) (Kd.R_lt (by (with_reducible repeat (first | apply Kd.R_alloc | apply Kd.R_drewN | apply Kd.R_drew)); exact HO141.out))) (below_size (by repeat (first | (with_reducible first | exact HB.out | apply below_alloc | apply pw_below_drewN | apply below_drew1) | exact HB.out)))); have n4_ := Aside0.mk (below_step (by repeat (first | (with_reducible first | exact HB.out | apply below_alloc | apply pw_below_drewN | apply below_drew1) | exact HB.out)) hb); clear HO138; clear HO141; clear HB; have HO138 := n0_; have HO141 := n1_; have HO145 := n2_; have HO147 := n3_; have HB := n4_; clear n0_ n1_ n2_ n3_ n4_; (try clear hb); (try clear hb2); (try clear hk); (try clear hi); (try clear ho0); (try clear ho1)) | ((with_reducible refine gate_callee (f := 10) rfl ?_); refine goesL_ (some 9) rfl rfl Try.func10 (by kernel_rfl) rfl #[.int .i64 8, .int .i64 0] rfl (by (try simp only [List.map_toArray, List.map_cons, List.map_nil]); first | done | rfl | (simp only [List.length_drop, List.length_take]; rfl)) ?_; (with_reducible refine (lap_Window.calls k 8 0 t148 _ A3.out).mono ?_); rintro e w' ⟨rfl, ⟨nd, rfl⟩⟩; refine ⟨_, rfl, ?_⟩; obtain ⟨Ao43, co43, eo43⟩ := Kd.R_slice HO145.out; subst eo43))
        go_ret
        exact ⟨by first | rfl | (simp [errW_none, errW_some] <;> rfl) | (simp [*, errW_none, errW_some] <;> rfl), by repeat (first | (with_reducible first | exact HB.out | apply below_alloc | apply pw_below_drewN | apply below_drew1) | exact HB.out)⟩
    · rw [if_neg c4] at H
      have c4b0 : (t148 == 8192) = false := beq_eq_false_iff_ne.mpr c4
      have c4b1 : (t148 != 8192) = true := bne_iff_ne.mpr c4
      obtain rfl := Option.some.inj H
      go_enter Try.func7, Try.ntmps7
      go_wp2_with (first | ((with_reducible refine gate_dst (N := 4) rfl ?_); (try (refine gate_guard (by rfl) ?_; dsimp only)); refine Kd.R_make (Kd.int .i32) _ 21 rfl (N := 4) rfl 30 _ _ rfl 8 rfl rfl Try.underlying30 (.int .i32 0) 4 info21 rfl (by decide) (by omega) 0 (ok := fun _ => True) (okp := fun _ => True) rfl (fun _ hk => hk) trivial (by omega) (by omega) (Below.refl _ _) (Nat.le_refl _) ?_; intro v137 w44 ho45 hb hg_ hnew_; clear hg_ hnew_; (first | rw [← Ny136.out] at ho45 | (simp only [Int.reduceToNat] at ho45; rw [← Ny136.out] at ho45)); have n0_ := Aside0.mk (Kd.R_lower ho45 (below_size (by repeat (first | (with_reducible first | exact HB.out | apply below_alloc | apply pw_below_drewN | apply below_drew1) | exact HB.out)))); have n1_ := Aside0.mk (below_step (by repeat (first | (with_reducible first | exact HB.out | apply below_alloc | apply pw_below_drewN | apply below_drew1) | exact HB.out)) hb); clear HB; have HO138 := n0_; have HB := n1_; clear n0_ n1_; clear hb ho45) | ((with_reducible refine gate_dst (N := 5) rfl ?_); (try (refine gate_guard (by rfl) ?_; dsimp only)); refine Kd.R_lit (Kd.int .i32) _ 21 ?hg (N := 5) ?hd (xs := ([5, 0, 0, 0, 0, 0, 0, 0] : List Int)) (inner := [.int .i32 5, .int .i32 0, .int .i32 0, .int .i32 0, .int .i32 0, .int .i32 0, .int .i32 0, .int .i32 0]) (ok := fun _ => True) (okp := fun _ => True) ?hr ?hp (fun _ hk => hk) trivial (Below.refl _ _) (Nat.le_refl _) (by simp) ?_; (case hd => rfl); (case hg => rfl); (case hr => first | (go_simp; done) | (go_simp; rfl)); (case hp => exact (Reps.one (show Kd.M (Kd.int .i32) _ _ _ 5 [.int .i32 5] from rfl) (Reps.one (show Kd.M (Kd.int .i32) _ _ _ 0 [.int .i32 0] from rfl) (Reps.one (show Kd.M (Kd.int .i32) _ _ _ 0 [.int .i32 0] from rfl) (Reps.one (show Kd.M (Kd.int .i32) _ _ _ 0 [.int .i32 0] from rfl) (Reps.one (show Kd.M (Kd.int .i32) _ _ _ 0 [.int .i32 0] from rfl) (Reps.one (show Kd.M (Kd.int .i32) _ _ _ 0 [.int .i32 0] from rfl) (Reps.one (show Kd.M (Kd.int .i32) _ _ _ 0 [.int .i32 0] from rfl) (Reps.one (show Kd.M (Kd.int .i32) _ _ _ 0 [.int .i32 0] from rfl) (Reps.none _ _)))))))))); intro v140 w46 ho47 hb hg_ hnew_; clear hg_ hnew_; (first | rw [← Ny139.out] at ho47 | (simp only [Int.reduceToNat] at ho47; rw [← Ny139.out] at ho47)); have n0_ := Aside0.mk (Kd.R_elder' (by (with_reducible repeat (first | apply Kd.R_alloc | apply Kd.R_drewN | apply Kd.R_drew)); exact HO138.out) (Kd.R_base ho47) hb); have n1_ := Aside0.mk (Kd.R_lower (Kd.R_new' ho47 (Kd.R_lt (by (with_reducible repeat (first | apply Kd.R_alloc | apply Kd.R_drewN | apply Kd.R_drew)); exact HO138.out))) (below_size (by repeat (first | (with_reducible first | exact HB.out | apply below_alloc | apply pw_below_drewN | apply below_drew1) | exact HB.out)))); have n2_ := Aside0.mk (below_step (by repeat (first | (with_reducible first | exact HB.out | apply below_alloc | apply pw_below_drewN | apply below_drew1) | exact HB.out)) hb); clear HO138; clear HB; have HO138 := n0_; have HO141 := n1_; have HB := n2_; clear n0_ n1_ n2_; clear hb ho47; obtain ⟨Ao48, co48, eo48⟩ := Kd.R_slice HO138.out; subst eo48; obtain ⟨Ao49, co49, eo49⟩ := Kd.R_slice HO141.out; subst eo49) | ((with_reducible refine gate_callee (f := 11) rfl ?_); refine goesL_ (some 6) rfl rfl Try.func11 (by kernel_rfl) rfl #[.slice Ao48 y136.length co48, .slice Ao49 y139.length co49] rfl (by (try simp only [List.map_toArray, List.map_cons, List.map_nil]); first | done | rfl | (simp only [List.length_drop, List.length_take]; rfl)) ?_; (with_reducible refine (lap_Plain.calls k _ _ y136 _ _ y139 t142 t143 _ ?side1 ?side2 ?side3 ?side4 A2.out).mono ?_); (case side1 => repeat (first | exact (Kd.R_reads' HO138.out).2.2 | (with_reducible refine Kd.C_alloc ?_ _) | (with_reducible refine Kd.C_drewN ?_ _) | (with_reducible refine Kd.C_drew ?_))); (case side2 => exact (Kd.R_reads' HO138.out).2.1); (case side3 => repeat (first | exact (Kd.R_reads' HO141.out).2.2 | (with_reducible refine Kd.C_alloc ?_ _) | (with_reducible refine Kd.C_drewN ?_ _) | (with_reducible refine Kd.C_drew ?_))); (case side4 => exact (Kd.R_reads' HO141.out).2.1); rintro e w50 ⟨v144, v146, rfl, ho0, ho1, hb⟩; refine ⟨_, rfl, ?_⟩; have n0_ := Aside0.mk (Kd.R_mono (Kd.R_told (Kd.R_told (Kd.R_old (by (with_reducible repeat (first | apply Kd.R_alloc | apply Kd.R_drewN | apply Kd.R_drew)); exact HO138.out) hb) (Kd.R_base ho0)) (Kd.R_base ho1)) (fun _ h_ => h_.1)); have n1_ := Aside0.mk (Kd.R_mono (Kd.R_told (Kd.R_told (Kd.R_old (by (with_reducible repeat (first | apply Kd.R_alloc | apply Kd.R_drewN | apply Kd.R_drew)); exact HO141.out) hb) (Kd.R_base ho0)) (Kd.R_base ho1)) (fun _ h_ => h_.1)); have n2_ := Aside0.mk (Kd.R_lower (Kd.R_new' (Kd.R_new' ho0 (Kd.R_lt (by (with_reducible repeat (first | apply Kd.R_alloc | apply Kd.R_drewN | apply Kd.R_drew)); exact HO138.out))) (Kd.R_lt (by (with_reducible repeat (first | apply Kd.R_alloc | apply Kd.R_drewN | apply Kd.R_drew)); exact HO141.out))) (below_size (by repeat (first | (with_reducible first | exact HB.out | apply below_alloc | apply pw_below_drewN | apply below_drew1) | exact HB.out)))); have n3_ := Aside0.mk (Kd.R_lower (Kd.R_new' (Kd.R_new' ho1 (Kd.R_lt (by (with_reducible repeat (first | apply Kd.R_alloc | apply Kd.R_drewN | apply Kd.R_drew)); exact HO138.out))) (Kd.R_lt (by (with_reducible repeat (first | apply Kd.R_alloc | apply Kd.R_drewN | apply Kd.R_drew)); exact HO141.out))) (below_size (by repeat (first | (with_reducible first | exact HB.out | apply below_alloc | apply pw_below_drewN | apply below_drew1) | exact HB.out)))); have n4_ := Aside0.mk (below_step (by repeat (first | (with_reducible first | exact HB.out | apply below_alloc | apply pw_below_drewN | apply below_drew1) | exact HB.out)) hb); clear HO138; clear HO141; clear HB; have HO138 := n0_; have HO141 := n1_; have HO145 := n2_; have HO147 := n3_; have HB := n4_; clear n0_ n1_ n2_ n3_ n4_; (try clear hb); (try clear hb2); (try clear hk); (try clear hi); (try clear ho0); (try clear ho1)) | ((with_reducible refine gate_callee (f := 10) rfl ?_); refine goesL_ (some 9) rfl rfl Try.func10 (by kernel_rfl) rfl #[.int .i64 8, .int .i64 0] rfl (by (try simp only [List.map_toArray, List.map_cons, List.map_nil]); first | done | rfl | (simp only [List.length_drop, List.length_take]; rfl)) ?_; (with_reducible refine (lap_Window.calls k 8 0 t148 _ A3.out).mono ?_); rintro e w' ⟨rfl, ⟨nd, rfl⟩⟩; refine ⟨_, rfl, ?_⟩))
      go_ret
      exact ⟨by first | rfl | (simp [errW_none, errW_some] <;> rfl) | (simp [*, errW_none, errW_some] <;> rfl), by repeat (first | (with_reducible first | exact HB.out | apply below_alloc | apply pw_below_drewN | apply below_drew1) | exact HB.out)⟩
  · rw [if_neg c1] at H
    exact absurd H (by simp)

/-! ### spinetref23_There: function 8 -/
def spinetref23_There.f (a0 : Int) : Option (Bool) := if a0 = 8 then (some true) else (if a0 = 16 then (some true) else (some (a0 == 32)))
set_option maxHeartbeats 8000000 in
set_option maxRecDepth 100000 in
theorem spinetref23_There.calls (a0 : Int) (r : Bool) (w : World) (h : spinetref23_There.f a0 = some r) :
    Calls Try.prog 8 #[.int .i64 a0] w fun e w' => e = .returned (.bool r) ∧ Drawn0 w w' := by
  have H : (if a0 = 8 then (some true) else (if a0 = 16 then (some true) else (some (a0 == 32)))) = some r := h
  clear h
  by_cases c2 : a0 = 8
  · rw [if_pos c2] at H
    have c2b0 : (a0 == 8) = true := beq_iff_eq.mpr c2
    have c2b1 : (a0 != 8) = false := bne_eq_false_iff_eq.mpr c2
    clear c2
    obtain rfl := Option.some.inj H
    go_enter Try.func8, Try.ntmps8
    go_wp2
    go_ret
    exact ⟨by first | rfl | (simp; done) | (simp [*]; done), by repeat (first | exact Drawn0.refl _ | apply Drawn0.step)⟩
  · rw [if_neg c2] at H
    have c2b0 : (a0 == 8) = false := beq_eq_false_iff_ne.mpr c2
    have c2b1 : (a0 != 8) = true := bne_iff_ne.mpr c2
    by_cases c3 : a0 = 16
    · rw [if_pos c3] at H
      have c3b0 : (a0 == 16) = true := beq_iff_eq.mpr c3
      have c3b1 : (a0 != 16) = false := bne_eq_false_iff_eq.mpr c3
      clear c3
      obtain rfl := Option.some.inj H
      go_enter Try.func8, Try.ntmps8
      go_wp2
      go_ret
      exact ⟨by first | rfl | (simp; done) | (simp [*]; done), by repeat (first | exact Drawn0.refl _ | apply Drawn0.step)⟩
    · rw [if_neg c3] at H
      have c3b0 : (a0 == 16) = false := beq_eq_false_iff_ne.mpr c3
      have c3b1 : (a0 != 16) = true := bne_iff_ne.mpr c3
      obtain rfl := Option.some.inj H
      go_enter Try.func8, Try.ntmps8
      go_wp2
      go_ret
      exact ⟨by first | rfl | (simp; done) | (simp [*]; done), by repeat (first | exact Drawn0.refl _ | apply Drawn0.step)⟩

/-! ### spinetref03_Fits: function 28 -/
def spinetref03_Fits.f (a0 : Int) (a1 : Int) : Option (Bool) := if a0 = 0 then (some true) else (some (decide (a0 ≤ (IntKind.u64.wrap (Int.tdiv a1 a0)))))
set_option maxHeartbeats 8000000 in
set_option maxRecDepth 100000 in
theorem spinetref03_Fits.calls (a0 : Int) (a1 : Int) (r : Bool) (w : World) (h : spinetref03_Fits.f a0 a1 = some r) :
    Calls Try.prog 28 #[.int .u64 a0, .int .u64 a1] w fun e w' => e = .returned (.bool r) ∧ Drawn0 w w' := by
  have H : (if a0 = 0 then (some true) else (some (decide (a0 ≤ (IntKind.u64.wrap (Int.tdiv a1 a0)))))) = some r := h
  clear h
  by_cases c3 : a0 = 0
  · rw [if_pos c3] at H
    have c3b0 : (a0 == 0) = true := beq_iff_eq.mpr c3
    have c3b1 : (a0 != 0) = false := bne_eq_false_iff_eq.mpr c3
    clear c3
    obtain rfl := Option.some.inj H
    go_enter Try.func28, Try.ntmps28
    go_wp2
    go_ret
    exact ⟨by first | rfl | (simp; done) | (simp [*]; done), by repeat (first | exact Drawn0.refl _ | apply Drawn0.step)⟩
  · rw [if_neg c3] at H
    have c3b0 : (a0 == 0) = false := beq_eq_false_iff_ne.mpr c3
    have c3b1 : (a0 != 0) = true := bne_iff_ne.mpr c3
    obtain rfl := Option.some.inj H
    go_enter Try.func28, Try.ntmps28
    go_wp2
    go_ret
    exact ⟨by first | rfl | (simp; done) | (simp [*]; done), by repeat (first | exact Drawn0.refl _ | apply Drawn0.step)⟩

/-! ### spinetref03_Sqrt: function 17 -/
def spinetref03_Sqrt.l0 : Nat → Int → Int → Int → Option (Int)
  | 0, _, _, _ => none
  | k + 1, x0, x3, x4 => if x4 > 0 then ((spinetref03_Fits.f (IntKind.u64.wrap (x3 + x4)) x0).bind fun t151 => (if t151 = true then (spinetref03_Sqrt.l0 k x0 (IntKind.u64.wrap (x3 + x4)) (IntKind.u64.wrap (Int.tdiv x4 2))) else (spinetref03_Sqrt.l0 k x0 x3 (IntKind.u64.wrap (Int.tdiv x4 2))))) else (some x3)
def spinetref03_Sqrt.f (k : Nat) (a0 : Int) : Option (Int) := spinetref03_Sqrt.l0 k a0 0 2147483648
theorem spinetref03_Sqrt.mono_l : ∀ k, (∀ y0 y1 y2, LeO (spinetref03_Sqrt.l0 k y0 y1 y2) (spinetref03_Sqrt.l0 (k + 1) y0 y1 y2))
  | 0 => fun _ _ _ r h => by simp [spinetref03_Sqrt.l0] at h
  | k + 1 => by
    have ih0 := spinetref03_Sqrt.mono_l k
    · intro y0 y1 y2
      unfold spinetref03_Sqrt.l0
      repeat' first
      | (with_reducible exact ih0 _ _ _)
      | (with_reducible exact LeO.refl _)
      | (with_reducible exact LeO.none _)
      | (with_reducible refine LeO.ite ?_ ?_)
      | (with_reducible refine LeO.bind ?_ (fun _ => ?_))
      | exact ih0 _ _ _
      | exact LeO.none _
      | refine LeO.ite ?_ ?_
      | refine LeO.bind ?_ (fun _ => ?_)
theorem spinetref03_Sqrt.mono : ∀ a0 k, LeO (spinetref03_Sqrt.f k a0) (spinetref03_Sqrt.f (k + 1) a0) := by
  intro a0 k
  have ih0 := spinetref03_Sqrt.mono_l k
  unfold spinetref03_Sqrt.f
  repeat' first
      | (with_reducible exact ih0 _ _ _)
      | (with_reducible exact LeO.refl _)
      | (with_reducible exact LeO.none _)
      | (with_reducible refine LeO.ite ?_ ?_)
      | (with_reducible refine LeO.bind ?_ (fun _ => ?_))
      | exact ih0 _ _ _
      | exact LeO.none _
      | refine LeO.ite ?_ ?_
      | refine LeO.bind ?_ (fun _ => ?_)
set_option maxHeartbeats 8000000 in
set_option maxRecDepth 100000 in
theorem spinetref03_Sqrt.calls (k : Nat) (a0 : Int) (r : Int) (w : World) (h : spinetref03_Sqrt.f k a0 = some r) :
    Calls Try.prog 17 #[.int .u64 a0] w fun e w' => e = .returned (.int .u64 r) ∧ Drawn0 w w' := by
  have H : (spinetref03_Sqrt.l0 k a0 0 2147483648) = some r := h
  clear h
  have H' := Aside0.mk H
  clear H
  go_enter Try.func17, Try.ntmps17
  go_wp2
  go_loopg [3, 4] k (fun kq v3 v4 w' => ∃ (x3_1 : Int) (x4_1 : Int), v3 = .int .u64 x3_1 ∧ v4 = .int .u64 x4_1 ∧ Aside0 (spinetref03_Sqrt.l0 kq a0 x3_1 x4_1 = some r) ∧ Aside0 (kq ≤ k) ∧ Drawn0 w w')
  case atStart => exact ⟨(0), (2147483648), (by first | rfl | (simp; done) | (simp [*]; done)), (by first | rfl | (simp; done) | (simp [*]; done)), H', ⟨Nat.le_refl _⟩, by repeat (first | exact Drawn0.refl _ | apply Drawn0.step)⟩
  case round =>
    clear H'
    try clear c1
    obtain ⟨x3_1, x4_1, rfl, rfl, HA, HK1, ⟨m1, rfl⟩⟩ := hrel
    cases gk with
    | zero => exact absurd HA.out (by simp [spinetref03_Sqrt.l0])
    | succ k1 =>
      have H := HA.out
      clear HA
      simp only [spinetref03_Sqrt.l0] at H
      by_cases c2 : x4_1 > 0
      · rw [if_pos c2] at H
        have c2b0 : decide (0 < x4_1) = true := decide_eq_true c2
        clear c2
        replace H := Option.bind_eq_some_iff.mp H
        obtain ⟨t151, A30, H⟩ := H
        replace H : (if t151 = true then (spinetref03_Sqrt.l0 k1 a0 (IntKind.u64.wrap (x3_1 + x4_1)) (IntKind.u64.wrap (Int.tdiv x4_1 2))) else (spinetref03_Sqrt.l0 k1 a0 x3_1 (IntKind.u64.wrap (Int.tdiv x4_1 2)))) = some r := H
        have A3 := Aside0.mk A30
        clear A30
        by_cases c4 : t151 = true
        · subst c4
          have H1 : (spinetref03_Sqrt.l0 k1 a0 (IntKind.u64.wrap (x3_1 + x4_1)) (IntKind.u64.wrap (Int.tdiv x4_1 2))) = some r := by rw [if_pos rfl] at H; exact H
          clear H
          have H := H1
          clear H1
          have H' := Aside0.mk H
          clear H
          go_wp2_with (first | ((with_reducible refine gate_callee (f := 28) rfl ?_); refine goesL_ (some 13) rfl rfl Try.func28 (by kernel_rfl) rfl #[.int .u64 (IntKind.u64.wrap (x3_1 + x4_1)), .int .u64 a0] rfl (by (try simp only [List.map_toArray, List.map_cons, List.map_nil]); first | done | rfl | (simp only [List.length_drop, List.length_take]; rfl)) ?_; (with_reducible refine (spinetref03_Fits.calls (IntKind.u64.wrap (x3_1 + x4_1)) a0 true _ A3.out).mono ?_); rintro e w' ⟨rfl, ⟨nd, rfl⟩⟩; refine ⟨_, rfl, ?_⟩))
          go_roundg k1
          case measure => have := HK1.out; omega
          case rel => exact ⟨(IntKind.u64.wrap (x3_1 + x4_1)), (IntKind.u64.wrap (Int.tdiv x4_1 2)), (by first | rfl | (simp; done) | (simp [*]; done)), (by first | rfl | (simp; done) | (simp [*]; done)), H', ⟨by have := HK1.out; omega⟩, by repeat (first | exact Drawn0.refl _ | apply Drawn0.step)⟩
        · replace c4 := Bool.eq_false_iff.mpr c4
          subst c4
          have H1 : (spinetref03_Sqrt.l0 k1 a0 x3_1 (IntKind.u64.wrap (Int.tdiv x4_1 2))) = some r := by rw [if_neg (show ¬ (false = true) by decide)] at H; exact H
          clear H
          have H := H1
          clear H1
          have H' := Aside0.mk H
          clear H
          go_wp2_with (first | ((with_reducible refine gate_callee (f := 28) rfl ?_); refine goesL_ (some 13) rfl rfl Try.func28 (by kernel_rfl) rfl #[.int .u64 (IntKind.u64.wrap (x3_1 + x4_1)), .int .u64 a0] rfl (by (try simp only [List.map_toArray, List.map_cons, List.map_nil]); first | done | rfl | (simp only [List.length_drop, List.length_take]; rfl)) ?_; (with_reducible refine (spinetref03_Fits.calls (IntKind.u64.wrap (x3_1 + x4_1)) a0 false _ A3.out).mono ?_); rintro e w' ⟨rfl, ⟨nd, rfl⟩⟩; refine ⟨_, rfl, ?_⟩))
          go_roundg k1
          case measure => have := HK1.out; omega
          case rel => exact ⟨(x3_1), (IntKind.u64.wrap (Int.tdiv x4_1 2)), (by first | rfl | (simp; done) | (simp [*]; done)), (by first | rfl | (simp; done) | (simp [*]; done)), H', ⟨by have := HK1.out; omega⟩, by repeat (first | exact Drawn0.refl _ | apply Drawn0.step)⟩
      · rw [if_neg c2] at H
        have c2b0 : decide (0 < x4_1) = false := decide_eq_false c2
        clear c2
        obtain rfl := Option.some.inj H
        go_wp2
        go_ret
        exact ⟨by first | rfl | (simp; done) | (simp [*]; done), by repeat (first | exact Drawn0.refl _ | apply Drawn0.step)⟩

/-! ### spinetref23_Window: function 9 -/
def spinetref23_Window.f (k : Nat) (a0 : Int) (a1 : Int) : Option (Int) := if (IntKind.u64.wrap (wrap64 (2 * a0))) = 0 then (none) else ((spinetref03_Sqrt.f k (IntKind.u64.wrap (Int.tdiv (IntKind.u64.wrap ((IntKind.u64.wrap (wrap64 ((wrap64 (2 * a1)) + 1))) * 1073741824)) (IntKind.u64.wrap (wrap64 (2 * a0)))))).bind fun t152 => (some (wrap64 (t152))))
theorem spinetref23_Window.mono : ∀ a0 a1 k, LeO (spinetref23_Window.f k a0 a1) (spinetref23_Window.f (k + 1) a0 a1) := by
  intro a0 a1 k
  unfold spinetref23_Window.f
  repeat' first
      | (with_reducible exact spinetref03_Sqrt.mono _ _)
      | (with_reducible exact LeO.refl _)
      | (with_reducible exact LeO.none _)
      | (with_reducible refine LeO.ite ?_ ?_)
      | (with_reducible refine LeO.bind ?_ (fun _ => ?_))
      | exact spinetref03_Sqrt.mono _ _
      | exact LeO.none _
      | refine LeO.ite ?_ ?_
      | refine LeO.bind ?_ (fun _ => ?_)
set_option maxHeartbeats 8000000 in
set_option maxRecDepth 100000 in
theorem spinetref23_Window.calls (k : Nat) (a0 : Int) (a1 : Int) (r : Int) (w : World) (h : spinetref23_Window.f k a0 a1 = some r) :
    Calls Try.prog 9 #[.int .i64 a0, .int .i64 a1] w fun e w' => e = .returned (.int .i64 r) ∧ Drawn0 w w' := by
  have H : (if (IntKind.u64.wrap (wrap64 (2 * a0))) = 0 then (none) else ((spinetref03_Sqrt.f k (IntKind.u64.wrap (Int.tdiv (IntKind.u64.wrap ((IntKind.u64.wrap (wrap64 ((wrap64 (2 * a1)) + 1))) * 1073741824)) (IntKind.u64.wrap (wrap64 (2 * a0)))))).bind fun t152 => (some (wrap64 (t152))))) = some r := h
  clear h
  by_cases c3 : (IntKind.u64.wrap (wrap64 (2 * a0))) = 0
  · rw [if_pos c3] at H
    exact absurd H (by simp)
  · rw [if_neg c3] at H
    have c3b0 : ((IntKind.u64.wrap (wrap64 (2 * a0))) == 0) = false := beq_eq_false_iff_ne.mpr c3
    have c3b1 : ((IntKind.u64.wrap (wrap64 (2 * a0))) != 0) = true := bne_iff_ne.mpr c3
    replace H := Option.bind_eq_some_iff.mp H
    obtain ⟨t152, A40, H⟩ := H
    replace H : (some (wrap64 (t152))) = some r := H
    have A4 := Aside0.mk A40
    clear A40
    obtain rfl := Option.some.inj H
    go_enter Try.func9, Try.ntmps9
    go_wp2_with (first | ((with_reducible refine gate_callee (f := 17) rfl ?_); refine goesL_ (some 14) rfl rfl Try.func17 (by kernel_rfl) rfl #[.int .u64 (IntKind.u64.wrap (Int.tdiv (IntKind.u64.wrap ((IntKind.u64.wrap (wrap64 ((wrap64 (2 * a1)) + 1))) * 1073741824)) (IntKind.u64.wrap (wrap64 (2 * a0)))))] rfl (by (try simp only [List.map_toArray, List.map_cons, List.map_nil]); first | done | rfl | (simp only [List.length_drop, List.length_take]; rfl)) ?_; (with_reducible refine (spinetref03_Sqrt.calls k (IntKind.u64.wrap (Int.tdiv (IntKind.u64.wrap ((IntKind.u64.wrap (wrap64 ((wrap64 (2 * a1)) + 1))) * 1073741824)) (IntKind.u64.wrap (wrap64 (2 * a0))))) t152 _ A4.out).mono ?_); rintro e w' ⟨rfl, ⟨nd, rfl⟩⟩; refine ⟨_, rfl, ?_⟩))
    go_ret
    exact ⟨by first | rfl | (simp; done) | (simp [*]; done), by repeat (first | exact Drawn0.refl _ | apply Drawn0.step)⟩

/-! ### spinetlaw23_LapWindows: function 3 -/
mutual
def spinetlaw23_LapWindows.j0 : Nat → Int → Int → Int → Int → Bool → Option (Bool)
  | 0, _, _, _, _, _ => none
  | k + 1, x0, x1, x2, x7, x25 => if x25 = true then ((spinetref23_Window.f k x1 x2).bind fun t155 => (spinetlaw23_LapWindows.j1 k x0 x1 x2 t155)) else (spinetlaw23_LapWindows.j1 k x0 x1 x2 x7)
def spinetlaw23_LapWindows.j1 : Nat → Int → Int → Int → Int → Option (Bool)
  | 0, _, _, _, _ => none
  | k + 1, x0, x1, x2, x7 => (lap_Window.f k x1 x2).bind fun t156 => (if (wrap64 (t156)) = x7 then (if 0 ≤ (Int.tmod x0 3) then (spinetlaw23_LapWindows.l0 k (shl .i64 8 (Int.tmod x0 3)) 0) else (none)) else (some false))
def spinetlaw23_LapWindows.l0 : Nat → Int → Int → Option (Bool)
  | 0, _, _ => none
  | k + 1, x8, x9 => if x9 < x8 then ((lap_Window.f k x8 x9).bind fun t157 => ((lap_Window.f k x8 (wrap64 ((wrap64 (x8 - 1)) - x9))).bind fun t158 => (if (wrap64 ((wrap64 (1073741824 - (wrap64 ((wrap64 (t157)) * (wrap64 (t157)))))) - (wrap64 ((wrap64 (t158)) * (wrap64 (t158)))))) < 0 then (some false) else (if (wrap64 ((wrap64 (1073741824 - (wrap64 ((wrap64 (t157)) * (wrap64 (t157)))))) - (wrap64 ((wrap64 (t158)) * (wrap64 (t158)))))) > 131072 then (some false) else (if x9 > 0 then ((lap_Window.f k x8 (wrap64 (x9 - 1))).bind fun t159 => (if (wrap32 (wrap64 (t157))) ≤ t159 then (some false) else (if (wrap64 (t157)) > 32767 then (some false) else (spinetlaw23_LapWindows.l0 k x8 (wrap64 (x9 + 1)))))) else (if (wrap64 (t157)) > 32767 then (some false) else (spinetlaw23_LapWindows.l0 k x8 (wrap64 (x9 + 1))))))))) else (some true)
end
def spinetlaw23_LapWindows.f (k : Nat) (a0 : Int) (a1 : Int) (a2 : Int) : Option (Bool) := (spinetlaw23_awake.f k).bind fun t153 => (if t153 = true then ((spinetref23_There.f a1).bind fun t154 => (if t154 = true then (if a2 ≥ 0 then (spinetlaw23_LapWindows.j0 k a0 a1 a2 0 (decide (a2 < a1))) else (spinetlaw23_LapWindows.j0 k a0 a1 a2 0 false)) else (spinetlaw23_LapWindows.j0 k a0 a1 a2 0 false))) else (some false))
theorem spinetlaw23_LapWindows.mono_l : ∀ k, (∀ y0 y1 y2 y3 y4, LeO (spinetlaw23_LapWindows.j0 k y0 y1 y2 y3 y4) (spinetlaw23_LapWindows.j0 (k + 1) y0 y1 y2 y3 y4)) ∧ (∀ y0 y1 y2 y3, LeO (spinetlaw23_LapWindows.j1 k y0 y1 y2 y3) (spinetlaw23_LapWindows.j1 (k + 1) y0 y1 y2 y3)) ∧ (∀ y0 y1, LeO (spinetlaw23_LapWindows.l0 k y0 y1) (spinetlaw23_LapWindows.l0 (k + 1) y0 y1))
  | 0 => ⟨fun _ _ _ _ _ r h => by simp [spinetlaw23_LapWindows.j0] at h, fun _ _ _ _ r h => by simp [spinetlaw23_LapWindows.j1] at h, fun _ _ r h => by simp [spinetlaw23_LapWindows.l0] at h⟩
  | k + 1 => by
    obtain ⟨ih0, ih1, ih2⟩ := spinetlaw23_LapWindows.mono_l k
    refine ⟨?_, ?_, ?_⟩
    · intro y0 y1 y2 y3 y4
      unfold spinetlaw23_LapWindows.j0
      repeat' first
      | (with_reducible exact ih0 _ _ _ _ _)
      | (with_reducible exact ih1 _ _ _ _)
      | (with_reducible exact ih2 _ _)
      | (with_reducible exact lap_Window.mono _ _ _)
      | (with_reducible exact spinetlaw23_awake.mono _)
      | (with_reducible exact spinetref23_Window.mono _ _ _)
      | (with_reducible exact LeO.refl _)
      | (with_reducible exact LeO.none _)
      | (with_reducible refine LeO.ite ?_ ?_)
      | (with_reducible refine LeO.bind ?_ (fun _ => ?_))
      | exact ih0 _ _ _ _ _
      | exact ih1 _ _ _ _
      | exact ih2 _ _
      | exact lap_Window.mono _ _ _
      | exact spinetlaw23_awake.mono _
      | exact spinetref23_Window.mono _ _ _
      | exact LeO.none _
      | refine LeO.ite ?_ ?_
      | refine LeO.bind ?_ (fun _ => ?_)
    · intro y0 y1 y2 y3
      unfold spinetlaw23_LapWindows.j1
      repeat' first
      | (with_reducible exact ih0 _ _ _ _ _)
      | (with_reducible exact ih1 _ _ _ _)
      | (with_reducible exact ih2 _ _)
      | (with_reducible exact lap_Window.mono _ _ _)
      | (with_reducible exact spinetlaw23_awake.mono _)
      | (with_reducible exact spinetref23_Window.mono _ _ _)
      | (with_reducible exact LeO.refl _)
      | (with_reducible exact LeO.none _)
      | (with_reducible refine LeO.ite ?_ ?_)
      | (with_reducible refine LeO.bind ?_ (fun _ => ?_))
      | exact ih0 _ _ _ _ _
      | exact ih1 _ _ _ _
      | exact ih2 _ _
      | exact lap_Window.mono _ _ _
      | exact spinetlaw23_awake.mono _
      | exact spinetref23_Window.mono _ _ _
      | exact LeO.none _
      | refine LeO.ite ?_ ?_
      | refine LeO.bind ?_ (fun _ => ?_)
    · intro y0 y1
      unfold spinetlaw23_LapWindows.l0
      repeat' first
      | (with_reducible exact ih0 _ _ _ _ _)
      | (with_reducible exact ih1 _ _ _ _)
      | (with_reducible exact ih2 _ _)
      | (with_reducible exact lap_Window.mono _ _ _)
      | (with_reducible exact spinetlaw23_awake.mono _)
      | (with_reducible exact spinetref23_Window.mono _ _ _)
      | (with_reducible exact LeO.refl _)
      | (with_reducible exact LeO.none _)
      | (with_reducible refine LeO.ite ?_ ?_)
      | (with_reducible refine LeO.bind ?_ (fun _ => ?_))
      | exact ih0 _ _ _ _ _
      | exact ih1 _ _ _ _
      | exact ih2 _ _
      | exact lap_Window.mono _ _ _
      | exact spinetlaw23_awake.mono _
      | exact spinetref23_Window.mono _ _ _
      | exact LeO.none _
      | refine LeO.ite ?_ ?_
      | refine LeO.bind ?_ (fun _ => ?_)
theorem spinetlaw23_LapWindows.mono : ∀ a0 a1 a2 k, LeO (spinetlaw23_LapWindows.f k a0 a1 a2) (spinetlaw23_LapWindows.f (k + 1) a0 a1 a2) := by
  intro a0 a1 a2 k
  obtain ⟨ih0, ih1, ih2⟩ := spinetlaw23_LapWindows.mono_l k
  unfold spinetlaw23_LapWindows.f
  repeat' first
      | (with_reducible exact ih0 _ _ _ _ _)
      | (with_reducible exact ih1 _ _ _ _)
      | (with_reducible exact ih2 _ _)
      | (with_reducible exact lap_Window.mono _ _ _)
      | (with_reducible exact spinetlaw23_awake.mono _)
      | (with_reducible exact spinetref23_Window.mono _ _ _)
      | (with_reducible exact LeO.refl _)
      | (with_reducible exact LeO.none _)
      | (with_reducible refine LeO.ite ?_ ?_)
      | (with_reducible refine LeO.bind ?_ (fun _ => ?_))
      | exact ih0 _ _ _ _ _
      | exact ih1 _ _ _ _
      | exact ih2 _ _
      | exact lap_Window.mono _ _ _
      | exact spinetlaw23_awake.mono _
      | exact spinetref23_Window.mono _ _ _
      | exact LeO.none _
      | refine LeO.ite ?_ ?_
      | refine LeO.bind ?_ (fun _ => ?_)
set_option maxHeartbeats 8000000 in
set_option maxRecDepth 100000 in
theorem spinetlaw23_LapWindows.calls (k : Nat) (a0 : Int) (a1 : Int) (a2 : Int) (r : Bool) (w : World) (h : spinetlaw23_LapWindows.f k a0 a1 a2 = some r) :
    Calls Try.prog 3 #[.int .u8 a0, .int .i64 a1, .int .i64 a2] w fun e w' => e = .returned (.bool r) ∧ Below w.heap.size w w' := by
  have HB := Aside0.mk (Below.refl w.heap.size w)
  have H : ((spinetlaw23_awake.f k).bind fun t153 => (if t153 = true then ((spinetref23_There.f a1).bind fun t154 => (if t154 = true then (if a2 ≥ 0 then (spinetlaw23_LapWindows.j0 k a0 a1 a2 0 (decide (a2 < a1))) else (spinetlaw23_LapWindows.j0 k a0 a1 a2 0 false)) else (spinetlaw23_LapWindows.j0 k a0 a1 a2 0 false))) else (some false))) = some r := h
  clear h
  replace H := Option.bind_eq_some_iff.mp H
  obtain ⟨t153, A40, H⟩ := H
  replace H : (if t153 = true then ((spinetref23_There.f a1).bind fun t154 => (if t154 = true then (if a2 ≥ 0 then (spinetlaw23_LapWindows.j0 k a0 a1 a2 0 (decide (a2 < a1))) else (spinetlaw23_LapWindows.j0 k a0 a1 a2 0 false)) else (spinetlaw23_LapWindows.j0 k a0 a1 a2 0 false))) else (some false)) = some r := H
  have A4 := Aside0.mk A40
  clear A40
  by_cases c5 : t153 = true
  · subst c5
    have H1 : ((spinetref23_There.f a1).bind fun t154 => (if t154 = true then (if a2 ≥ 0 then (spinetlaw23_LapWindows.j0 k a0 a1 a2 0 (decide (a2 < a1))) else (spinetlaw23_LapWindows.j0 k a0 a1 a2 0 false)) else (spinetlaw23_LapWindows.j0 k a0 a1 a2 0 false))) = some r := by rw [if_pos rfl] at H; exact H
    clear H
    have H := H1
    clear H1
    have HC6 := Aside0.mk H
    clear H
    go_enter Try.func3, Try.ntmps3
    go_upto_region 4 with (first | ((with_reducible refine gate_callee (f := 7) rfl ?_); refine goesL_ (some 13) rfl rfl Try.func7 (by kernel_rfl) rfl #[] rfl (by (try simp only [List.map_toArray, List.map_cons, List.map_nil]); first | done | rfl | (simp only [List.length_drop, List.length_take]; rfl)) ?_; (with_reducible refine (spinetlaw23_awake.calls k  true _ A4.out).mono ?_); rintro e w7 ⟨rfl, hb⟩; refine ⟨_, rfl, ?_⟩; have n0_ := Aside0.mk (below_step (by repeat (first | (with_reducible first | exact HB.out | apply below_alloc | apply pw_below_drewN | apply below_drew1) | exact HB.out)) hb); clear HB; have HB := n0_; clear n0_; (try clear hb); (try clear hb2); (try clear hk); (try clear hi)))
    (try simp only [Act.put, List.setIfInBounds_toArray, List.set_cons_zero, List.set_cons_succ])
    go_cut [25] (fun v25 wc => ∃ (kq : Nat) (x25_5 : Bool), v25 = .bool x25_5 ∧ Aside0 (spinetlaw23_LapWindows.j0 kq a0 a1 a2 0 x25_5 = some r) ∧ Aside0 (kq ≤ k) ∧ Aside0 (Below w.heap.size w wc))
    case first =>
      have H := HC6.out
      clear HC6
      replace H := Option.bind_eq_some_iff.mp H
      obtain ⟨t154, A80, H⟩ := H
      replace H : (if t154 = true then (if a2 ≥ 0 then (spinetlaw23_LapWindows.j0 k a0 a1 a2 0 (decide (a2 < a1))) else (spinetlaw23_LapWindows.j0 k a0 a1 a2 0 false)) else (spinetlaw23_LapWindows.j0 k a0 a1 a2 0 false)) = some r := H
      have A8 := Aside0.mk A80
      clear A80
      by_cases c9 : t154 = true
      · subst c9
        have H1 : (if a2 ≥ 0 then (spinetlaw23_LapWindows.j0 k a0 a1 a2 0 (decide (a2 < a1))) else (spinetlaw23_LapWindows.j0 k a0 a1 a2 0 false)) = some r := by rw [if_pos rfl] at H; exact H
        clear H
        have H := H1
        clear H1
        by_cases c10 : a2 ≥ 0
        · rw [if_pos c10] at H
          have c10b0 : decide (0 ≤ a2) = true := decide_eq_true c10
          clear c10
          (first | rw [c10b0] | (simp only [i64_w, i32_w]; rw [c10b0]) | skip)
          have H' := Aside0.mk H
          clear H
          go_wp2_with (first | ((with_reducible refine gate_callee (f := 8) rfl ?_); refine goesL_ (some 16) rfl rfl Try.func8 (by kernel_rfl) rfl #[.int .i64 a1] rfl (by (try simp only [List.map_toArray, List.map_cons, List.map_nil]); first | done | rfl | (simp only [List.length_drop, List.length_take]; rfl)) ?_; (with_reducible refine (spinetref23_There.calls a1 true _ A8.out).mono ?_); rintro e w' ⟨rfl, ⟨nd, rfl⟩⟩; refine ⟨_, rfl, ?_⟩))
          go_meet
          case rel => exact ⟨_, (decide (a2 < a1)), (by first | rfl | (simp; done) | (simp [*]; done)), H', ⟨by first | omega | exact Nat.le_refl _⟩, ⟨by repeat (first | (with_reducible first | exact HB.out | apply below_alloc | apply pw_below_drewN | apply below_drew1) | exact HB.out)⟩⟩
        · rw [if_neg c10] at H
          have c10b0 : decide (0 ≤ a2) = false := decide_eq_false c10
          clear c10
          (first | rw [c10b0] | (simp only [i64_w, i32_w]; rw [c10b0]) | skip)
          have H' := Aside0.mk H
          clear H
          go_wp2_with (first | ((with_reducible refine gate_callee (f := 8) rfl ?_); refine goesL_ (some 16) rfl rfl Try.func8 (by kernel_rfl) rfl #[.int .i64 a1] rfl (by (try simp only [List.map_toArray, List.map_cons, List.map_nil]); first | done | rfl | (simp only [List.length_drop, List.length_take]; rfl)) ?_; (with_reducible refine (spinetref23_There.calls a1 true _ A8.out).mono ?_); rintro e w' ⟨rfl, ⟨nd, rfl⟩⟩; refine ⟨_, rfl, ?_⟩))
          go_meet
          case rel => exact ⟨_, (false), (by first | rfl | (simp; done) | (simp [*]; done)), H', ⟨by first | omega | exact Nat.le_refl _⟩, ⟨by repeat (first | (with_reducible first | exact HB.out | apply below_alloc | apply pw_below_drewN | apply below_drew1) | exact HB.out)⟩⟩
      · replace c9 := Bool.eq_false_iff.mpr c9
        subst c9
        have H1 : (spinetlaw23_LapWindows.j0 k a0 a1 a2 0 false) = some r := by rw [if_neg (show ¬ (false = true) by decide)] at H; exact H
        clear H
        have H := H1
        clear H1
        have H' := Aside0.mk H
        clear H
        go_wp2_with (first | ((with_reducible refine gate_callee (f := 8) rfl ?_); refine goesL_ (some 16) rfl rfl Try.func8 (by kernel_rfl) rfl #[.int .i64 a1] rfl (by (try simp only [List.map_toArray, List.map_cons, List.map_nil]); first | done | rfl | (simp only [List.length_drop, List.length_take]; rfl)) ?_; (with_reducible refine (spinetref23_There.calls a1 false _ A8.out).mono ?_); rintro e w' ⟨rfl, ⟨nd, rfl⟩⟩; refine ⟨_, rfl, ?_⟩))
        go_meet
        case rel => exact ⟨_, (false), (by first | rfl | (simp; done) | (simp [*]; done)), H', ⟨by first | omega | exact Nat.le_refl _⟩, ⟨by repeat (first | (with_reducible first | exact HB.out | apply below_alloc | apply pw_below_drewN | apply below_drew1) | exact HB.out)⟩⟩
    case rest =>
      clear HC6
      try clear c1
      try clear p2
      try clear c3
      try clear c5
      try clear c7
      try clear c8
      try clear c9
      try clear c10
      try clear c10b0
      obtain ⟨kq, x25_5, rfl, HA, HJ5, HB⟩ := hcut
      cases kq with
      | zero => exact absurd HA.out (by simp [spinetlaw23_LapWindows.j0])
      | succ kj5 =>
        have H := HA.out
        clear HA
        simp only [spinetlaw23_LapWindows.j0] at H
        have HC11 := Aside0.mk H
        clear H
        go_upto_if 25 with (fail)
        go_cut [7] (fun v7 wc => ∃ (kq : Nat) (x7_10 : Int), v7 = .int .i64 x7_10 ∧ Aside0 (spinetlaw23_LapWindows.j1 kq a0 a1 a2 x7_10 = some r) ∧ Aside0 (kq ≤ kj5) ∧ Aside0 (Below w.heap.size w wc))
        case first =>
          have H := HC11.out
          clear HC11
          by_cases c12 : x25_5 = true
          · subst c12
            have H1 : ((spinetref23_Window.f kj5 a1 a2).bind fun t155 => (spinetlaw23_LapWindows.j1 kj5 a0 a1 a2 t155)) = some r := by rw [if_pos rfl] at H; exact H
            clear H
            have H := H1
            clear H1
            replace H := Option.bind_eq_some_iff.mp H
            obtain ⟨t155, A130, H⟩ := H
            replace H : (spinetlaw23_LapWindows.j1 kj5 a0 a1 a2 t155) = some r := H
            have A13 := Aside0.mk A130
            clear A130
            have H' := Aside0.mk H
            clear H
            go_wp2_with (first | ((with_reducible refine gate_callee (f := 9) rfl ?_); refine goesL_ (some 28) rfl rfl Try.func9 (by kernel_rfl) rfl #[.int .i64 a1, .int .i64 a2] rfl (by (try simp only [List.map_toArray, List.map_cons, List.map_nil]); first | done | rfl | (simp only [List.length_drop, List.length_take]; rfl)) ?_; (with_reducible refine (spinetref23_Window.calls kj5 a1 a2 t155 _ A13.out).mono ?_); rintro e w' ⟨rfl, ⟨nd, rfl⟩⟩; refine ⟨_, rfl, ?_⟩))
            go_meet
            case rel => exact ⟨_, (t155), (by first | rfl | (simp; done) | (simp [*]; done)), H', ⟨by have := HJ5.out; first | omega | exact Nat.le_refl _⟩, ⟨by repeat (first | (with_reducible first | exact HB.out | apply below_alloc | apply pw_below_drewN | apply below_drew1) | exact HB.out)⟩⟩
          · replace c12 := Bool.eq_false_iff.mpr c12
            subst c12
            have H1 : (spinetlaw23_LapWindows.j1 kj5 a0 a1 a2 0) = some r := by rw [if_neg (show ¬ (false = true) by decide)] at H; exact H
            clear H
            have H := H1
            clear H1
            have H' := Aside0.mk H
            clear H
            go_wp2
            go_meet
            case rel => exact ⟨_, (0), (by first | rfl | (simp; done) | (simp [*]; done)), H', ⟨by have := HJ5.out; first | omega | exact Nat.le_refl _⟩, ⟨by repeat (first | (with_reducible first | exact HB.out | apply below_alloc | apply pw_below_drewN | apply below_drew1) | exact HB.out)⟩⟩
        case rest =>
          clear HC11
          try clear c1
          try clear p2
          try clear c3
          try clear c5
          try clear c7
          try clear c8
          try clear c9
          try clear c10
          try clear c10b0
          try clear c12
          try clear p2
          obtain ⟨kq, x7_10, rfl, HA, HJ10, HB⟩ := hcut
          cases kq with
          | zero => exact absurd HA.out (by simp [spinetlaw23_LapWindows.j1])
          | succ kj10 =>
            have H := HA.out
            clear HA
            simp only [spinetlaw23_LapWindows.j1] at H
            replace H := Option.bind_eq_some_iff.mp H
            obtain ⟨t156, A140, H⟩ := H
            replace H : (if (wrap64 (t156)) = x7_10 then (if 0 ≤ (Int.tmod a0 3) then (spinetlaw23_LapWindows.l0 kj10 (shl .i64 8 (Int.tmod a0 3)) 0) else (none)) else (some false)) = some r := H
            have A14 := Aside0.mk A140
            clear A140
            by_cases c15 : (wrap64 (t156)) = x7_10
            · rw [if_pos c15] at H
              have c15b0 : ((wrap64 (t156)) == x7_10) = true := beq_iff_eq.mpr c15
              have c15b1 : ((wrap64 (t156)) != x7_10) = false := bne_eq_false_iff_eq.mpr c15
              clear c15
              obtain ⟨ji16, hji16⟩ : ∃ j_ : Int, (Int.tmod a0 3) = j_ := ⟨_, rfl⟩
              replace H : (if 0 ≤ (ji16) then (spinetlaw23_LapWindows.l0 kj10 (shl .i64 8 (ji16)) 0) else (none)) = some r := by first | (rw [hji16] at H; exact H) | (simp only [hji16] at H ⊢; exact H)
              (try rw [hji16] at A14)
              by_cases c17 : 0 ≤ (ji16)
              · rw [if_pos c17] at H
                have c17b0 := eq_true c17
                have c17b1 : decide (0 ≤ (ji16)) = true := decide_eq_true c17
                clear c17
                obtain ⟨ji18, hji18⟩ : ∃ j_ : Int, (shl .i64 8 (ji16)) = j_ := ⟨_, rfl⟩
                replace H : (spinetlaw23_LapWindows.l0 kj10 ji18 0) = some r := by first | (rw [hji18] at H; exact H) | (simp only [hji18] at H ⊢; exact H)
                (try rw [hji18] at A14)
                have hji18_ : (IntKind.i64.wrap (8 * 2 ^ min (ji16).toNat 64)) = ji18 := hji18
                have hji18z : (ji16) ≤ 64 → (IntKind.i64.wrap (8 * 2 ^ (ji16).toNat)) = ji18 := shl_small hji18
                have hji18y : (wrap64 (8 * 2 ^ min (ji16).toNat 64)) = ji18 := (i64_w _).symm.trans hji18_
                have hji18x : (ji16) ≤ 64 → (wrap64 (8 * 2 ^ (ji16).toNat)) = ji18 := fun h_ => (i64_w _).symm.trans (hji18z h_)
                have H' := Aside0.mk H
                clear H
                go_wp2_with (first | ((with_reducible refine gate_callee (f := 10) rfl ?_); refine goesL_ (some 31) rfl rfl Try.func10 (by kernel_rfl) rfl #[.int .i64 a1, .int .i64 a2] rfl (by (try simp only [List.map_toArray, List.map_cons, List.map_nil]); first | done | rfl | (simp only [List.length_drop, List.length_take]; rfl)) ?_; (with_reducible refine (lap_Window.calls kj10 a1 a2 t156 _ A14.out).mono ?_); rintro e w' ⟨rfl, ⟨nd, rfl⟩⟩; refine ⟨_, rfl, ?_⟩))
                go_loopg [9] kj10 (fun kq v9 w' => ∃ (x9_3 : Int), v9 = .int .i64 x9_3 ∧ Aside0 (spinetlaw23_LapWindows.l0 kq ji18 x9_3 = some r) ∧ Aside0 (kq ≤ kj10) ∧ Aside0 (Below w.heap.size w w'))
                case atStart => exact ⟨(0), (by first | rfl | (simp; done) | (simp [*]; done)), H', ⟨Nat.le_refl _⟩, ⟨by repeat (first | (with_reducible first | exact HB.out | apply below_alloc | apply pw_below_drewN | apply below_drew1) | exact HB.out)⟩⟩
                case round =>
                  clear H'
                  try clear c1
                  try clear p2
                  try clear c3
                  try clear c5
                  try clear p6
                  try clear c7
                  try clear c8
                  try clear c9
                  try clear c10
                  try clear c10b0
                  try clear c12
                  try clear c15
                  try clear c15b0
                  try clear c15b1
                  try clear c17
                  try clear c17b0
                  try clear c17b1
                  try clear p2
                  obtain ⟨x9_3, rfl, HA, HK3, HB⟩ := hrel
                  cases gk with
                  | zero => exact absurd HA.out (by simp [spinetlaw23_LapWindows.l0])
                  | succ k3 =>
                    have H := HA.out
                    clear HA
                    simp only [spinetlaw23_LapWindows.l0] at H
                    by_cases c19 : x9_3 < ji18
                    · rw [if_pos c19] at H
                      have c19b0 : decide (x9_3 < ji18) = true := decide_eq_true c19
                      clear c19
                      replace H := Option.bind_eq_some_iff.mp H
                      obtain ⟨t157, A200, H⟩ := H
                      replace H : ((lap_Window.f k3 ji18 (wrap64 ((wrap64 (ji18 - 1)) - x9_3))).bind fun t158 => (if (wrap64 ((wrap64 (1073741824 - (wrap64 ((wrap64 (t157)) * (wrap64 (t157)))))) - (wrap64 ((wrap64 (t158)) * (wrap64 (t158)))))) < 0 then (some false) else (if (wrap64 ((wrap64 (1073741824 - (wrap64 ((wrap64 (t157)) * (wrap64 (t157)))))) - (wrap64 ((wrap64 (t158)) * (wrap64 (t158)))))) > 131072 then (some false) else (if x9_3 > 0 then ((lap_Window.f k3 ji18 (wrap64 (x9_3 - 1))).bind fun t159 => (if (wrap32 (wrap64 (t157))) ≤ t159 then (some false) else (if (wrap64 (t157)) > 32767 then (some false) else (spinetlaw23_LapWindows.l0 k3 ji18 (wrap64 (x9_3 + 1)))))) else (if (wrap64 (t157)) > 32767 then (some false) else (spinetlaw23_LapWindows.l0 k3 ji18 (wrap64 (x9_3 + 1)))))))) = some r := H
                      have A20 := Aside0.mk A200
                      clear A200
                      replace H := Option.bind_eq_some_iff.mp H
                      obtain ⟨t158, A210, H⟩ := H
                      replace H : (if (wrap64 ((wrap64 (1073741824 - (wrap64 ((wrap64 (t157)) * (wrap64 (t157)))))) - (wrap64 ((wrap64 (t158)) * (wrap64 (t158)))))) < 0 then (some false) else (if (wrap64 ((wrap64 (1073741824 - (wrap64 ((wrap64 (t157)) * (wrap64 (t157)))))) - (wrap64 ((wrap64 (t158)) * (wrap64 (t158)))))) > 131072 then (some false) else (if x9_3 > 0 then ((lap_Window.f k3 ji18 (wrap64 (x9_3 - 1))).bind fun t159 => (if (wrap32 (wrap64 (t157))) ≤ t159 then (some false) else (if (wrap64 (t157)) > 32767 then (some false) else (spinetlaw23_LapWindows.l0 k3 ji18 (wrap64 (x9_3 + 1)))))) else (if (wrap64 (t157)) > 32767 then (some false) else (spinetlaw23_LapWindows.l0 k3 ji18 (wrap64 (x9_3 + 1))))))) = some r := H
                      have A21 := Aside0.mk A210
                      clear A210
                      by_cases c22 : (wrap64 ((wrap64 (1073741824 - (wrap64 ((wrap64 (t157)) * (wrap64 (t157)))))) - (wrap64 ((wrap64 (t158)) * (wrap64 (t158)))))) < 0
                      · rw [if_pos c22] at H
                        have c22b0 : decide ((wrap64 ((wrap64 (1073741824 - (wrap64 ((wrap64 (t157)) * (wrap64 (t157)))))) - (wrap64 ((wrap64 (t158)) * (wrap64 (t158)))))) < 0) = true := decide_eq_true c22
                        clear c22
                        obtain rfl := Option.some.inj H
                        go_wp2_with (first | ((with_reducible refine gate_callee (f := 10) rfl ?_); refine goesL_ (some 45) rfl rfl Try.func10 (by kernel_rfl) rfl #[.int .i64 ji18, .int .i64 x9_3] rfl (by (try simp only [List.map_toArray, List.map_cons, List.map_nil]); first | done | (simp only [hji18]; rfl) | rfl | (simp only [List.length_drop, List.length_take]; rfl)) ?_; (with_reducible refine (lap_Window.calls k3 ji18 x9_3 t157 _ A20.out).mono ?_); rintro e w' ⟨rfl, ⟨nd, rfl⟩⟩; refine ⟨_, rfl, ?_⟩) | ((with_reducible refine gate_callee (f := 10) rfl ?_); refine goesL_ (some 52) rfl rfl Try.func10 (by kernel_rfl) rfl #[.int .i64 ji18, .int .i64 (wrap64 ((wrap64 (ji18 - 1)) - x9_3))] rfl (by (try simp only [List.map_toArray, List.map_cons, List.map_nil]); first | done | (simp only [hji18]; rfl) | rfl | (simp only [List.length_drop, List.length_take]; rfl)) ?_; (with_reducible refine (lap_Window.calls k3 ji18 (wrap64 ((wrap64 (ji18 - 1)) - x9_3)) t158 _ A21.out).mono ?_); rintro e w' ⟨rfl, ⟨nd, rfl⟩⟩; refine ⟨_, rfl, ?_⟩))
                        go_ret
                        exact ⟨by first | rfl | (simp [errW_none, errW_some] <;> rfl) | (simp only [← hji16, ← hji18]; first | rfl | (simp [errW_none, errW_some] <;> rfl)) | (simp [*, errW_none, errW_some] <;> rfl), by repeat (first | (with_reducible first | exact HB.out | apply below_alloc | apply pw_below_drewN | apply below_drew1) | exact HB.out)⟩
                      · rw [if_neg c22] at H
                        have c22b0 : decide ((wrap64 ((wrap64 (1073741824 - (wrap64 ((wrap64 (t157)) * (wrap64 (t157)))))) - (wrap64 ((wrap64 (t158)) * (wrap64 (t158)))))) < 0) = false := decide_eq_false c22
                        clear c22
                        by_cases c23 : (wrap64 ((wrap64 (1073741824 - (wrap64 ((wrap64 (t157)) * (wrap64 (t157)))))) - (wrap64 ((wrap64 (t158)) * (wrap64 (t158)))))) > 131072
                        · rw [if_pos c23] at H
                          have c23b0 : decide (131072 < (wrap64 ((wrap64 (1073741824 - (wrap64 ((wrap64 (t157)) * (wrap64 (t157)))))) - (wrap64 ((wrap64 (t158)) * (wrap64 (t158))))))) = true := decide_eq_true c23
                          clear c23
                          obtain rfl := Option.some.inj H
                          go_wp2_with (first | ((with_reducible refine gate_callee (f := 10) rfl ?_); refine goesL_ (some 45) rfl rfl Try.func10 (by kernel_rfl) rfl #[.int .i64 ji18, .int .i64 x9_3] rfl (by (try simp only [List.map_toArray, List.map_cons, List.map_nil]); first | done | (simp only [hji18]; rfl) | rfl | (simp only [List.length_drop, List.length_take]; rfl)) ?_; (with_reducible refine (lap_Window.calls k3 ji18 x9_3 t157 _ A20.out).mono ?_); rintro e w' ⟨rfl, ⟨nd, rfl⟩⟩; refine ⟨_, rfl, ?_⟩) | ((with_reducible refine gate_callee (f := 10) rfl ?_); refine goesL_ (some 52) rfl rfl Try.func10 (by kernel_rfl) rfl #[.int .i64 ji18, .int .i64 (wrap64 ((wrap64 (ji18 - 1)) - x9_3))] rfl (by (try simp only [List.map_toArray, List.map_cons, List.map_nil]); first | done | (simp only [hji18]; rfl) | rfl | (simp only [List.length_drop, List.length_take]; rfl)) ?_; (with_reducible refine (lap_Window.calls k3 ji18 (wrap64 ((wrap64 (ji18 - 1)) - x9_3)) t158 _ A21.out).mono ?_); rintro e w' ⟨rfl, ⟨nd, rfl⟩⟩; refine ⟨_, rfl, ?_⟩))
                          go_ret
                          exact ⟨by first | rfl | (simp [errW_none, errW_some] <;> rfl) | (simp only [← hji16, ← hji18]; first | rfl | (simp [errW_none, errW_some] <;> rfl)) | (simp [*, errW_none, errW_some] <;> rfl), by repeat (first | (with_reducible first | exact HB.out | apply below_alloc | apply pw_below_drewN | apply below_drew1) | exact HB.out)⟩
                        · rw [if_neg c23] at H
                          have c23b0 : decide (131072 < (wrap64 ((wrap64 (1073741824 - (wrap64 ((wrap64 (t157)) * (wrap64 (t157)))))) - (wrap64 ((wrap64 (t158)) * (wrap64 (t158))))))) = false := decide_eq_false c23
                          clear c23
                          by_cases c24 : x9_3 > 0
                          · rw [if_pos c24] at H
                            have c24b0 : decide (0 < x9_3) = true := decide_eq_true c24
                            clear c24
                            replace H := Option.bind_eq_some_iff.mp H
                            obtain ⟨t159, A250, H⟩ := H
                            replace H : (if (wrap32 (wrap64 (t157))) ≤ t159 then (some false) else (if (wrap64 (t157)) > 32767 then (some false) else (spinetlaw23_LapWindows.l0 k3 ji18 (wrap64 (x9_3 + 1))))) = some r := H
                            have A25 := Aside0.mk A250
                            clear A250
                            by_cases c26 : (wrap32 (wrap64 (t157))) ≤ t159
                            · rw [if_pos c26] at H
                              have c26b0 : decide ((wrap32 (wrap64 (t157))) ≤ t159) = true := decide_eq_true c26
                              clear c26
                              obtain rfl := Option.some.inj H
                              go_wp2_with (first | ((with_reducible refine gate_callee (f := 10) rfl ?_); refine goesL_ (some 45) rfl rfl Try.func10 (by kernel_rfl) rfl #[.int .i64 ji18, .int .i64 x9_3] rfl (by (try simp only [List.map_toArray, List.map_cons, List.map_nil]); first | done | (simp only [hji18]; rfl) | rfl | (simp only [List.length_drop, List.length_take]; rfl)) ?_; (with_reducible refine (lap_Window.calls k3 ji18 x9_3 t157 _ A20.out).mono ?_); rintro e w' ⟨rfl, ⟨nd, rfl⟩⟩; refine ⟨_, rfl, ?_⟩) | ((with_reducible refine gate_callee (f := 10) rfl ?_); refine goesL_ (some 52) rfl rfl Try.func10 (by kernel_rfl) rfl #[.int .i64 ji18, .int .i64 (wrap64 ((wrap64 (ji18 - 1)) - x9_3))] rfl (by (try simp only [List.map_toArray, List.map_cons, List.map_nil]); first | done | (simp only [hji18]; rfl) | rfl | (simp only [List.length_drop, List.length_take]; rfl)) ?_; (with_reducible refine (lap_Window.calls k3 ji18 (wrap64 ((wrap64 (ji18 - 1)) - x9_3)) t158 _ A21.out).mono ?_); rintro e w' ⟨rfl, ⟨nd, rfl⟩⟩; refine ⟨_, rfl, ?_⟩) | (go_at_call 10; (with_reducible refine (lap_Window.calls k3 ji18 (wrap64 (x9_3 - 1)) t159 _ A25.out).mono ?_); rintro e w' ⟨rfl, ⟨nd, rfl⟩⟩))
                              go_ret
                              exact ⟨by first | rfl | (simp [errW_none, errW_some] <;> rfl) | (simp only [← hji16, ← hji18]; first | rfl | (simp [errW_none, errW_some] <;> rfl)) | (simp [*, errW_none, errW_some] <;> rfl), by repeat (first | (with_reducible first | exact HB.out | apply below_alloc | apply pw_below_drewN | apply below_drew1) | exact HB.out)⟩
                            · rw [if_neg c26] at H
                              have c26b0 : decide ((wrap32 (wrap64 (t157))) ≤ t159) = false := decide_eq_false c26
                              clear c26
                              by_cases c27 : (wrap64 (t157)) > 32767
                              · rw [if_pos c27] at H
                                have c27b0 : decide (32767 < (wrap64 (t157))) = true := decide_eq_true c27
                                clear c27
                                obtain rfl := Option.some.inj H
                                go_wp2_with (first | ((with_reducible refine gate_callee (f := 10) rfl ?_); refine goesL_ (some 45) rfl rfl Try.func10 (by kernel_rfl) rfl #[.int .i64 ji18, .int .i64 x9_3] rfl (by (try simp only [List.map_toArray, List.map_cons, List.map_nil]); first | done | (simp only [hji18]; rfl) | rfl | (simp only [List.length_drop, List.length_take]; rfl)) ?_; (with_reducible refine (lap_Window.calls k3 ji18 x9_3 t157 _ A20.out).mono ?_); rintro e w' ⟨rfl, ⟨nd, rfl⟩⟩; refine ⟨_, rfl, ?_⟩) | ((with_reducible refine gate_callee (f := 10) rfl ?_); refine goesL_ (some 52) rfl rfl Try.func10 (by kernel_rfl) rfl #[.int .i64 ji18, .int .i64 (wrap64 ((wrap64 (ji18 - 1)) - x9_3))] rfl (by (try simp only [List.map_toArray, List.map_cons, List.map_nil]); first | done | (simp only [hji18]; rfl) | rfl | (simp only [List.length_drop, List.length_take]; rfl)) ?_; (with_reducible refine (lap_Window.calls k3 ji18 (wrap64 ((wrap64 (ji18 - 1)) - x9_3)) t158 _ A21.out).mono ?_); rintro e w' ⟨rfl, ⟨nd, rfl⟩⟩; refine ⟨_, rfl, ?_⟩) | (go_at_call 10; (with_reducible refine (lap_Window.calls k3 ji18 (wrap64 (x9_3 - 1)) t159 _ A25.out).mono ?_); rintro e w' ⟨rfl, ⟨nd, rfl⟩⟩))
                                go_ret
                                exact ⟨by first | rfl | (simp [errW_none, errW_some] <;> rfl) | (simp only [← hji16, ← hji18]; first | rfl | (simp [errW_none, errW_some] <;> rfl)) | (simp [*, errW_none, errW_some] <;> rfl), by repeat (first | (with_reducible first | exact HB.out | apply below_alloc | apply pw_below_drewN | apply below_drew1) | exact HB.out)⟩
                              · rw [if_neg c27] at H
                                have c27b0 : decide (32767 < (wrap64 (t157))) = false := decide_eq_false c27
                                clear c27
                                have H' := Aside0.mk H
                                clear H
                                go_wp2_with (first | ((with_reducible refine gate_callee (f := 10) rfl ?_); refine goesL_ (some 45) rfl rfl Try.func10 (by kernel_rfl) rfl #[.int .i64 ji18, .int .i64 x9_3] rfl (by (try simp only [List.map_toArray, List.map_cons, List.map_nil]); first | done | (simp only [hji18]; rfl) | rfl | (simp only [List.length_drop, List.length_take]; rfl)) ?_; (with_reducible refine (lap_Window.calls k3 ji18 x9_3 t157 _ A20.out).mono ?_); rintro e w' ⟨rfl, ⟨nd, rfl⟩⟩; refine ⟨_, rfl, ?_⟩) | ((with_reducible refine gate_callee (f := 10) rfl ?_); refine goesL_ (some 52) rfl rfl Try.func10 (by kernel_rfl) rfl #[.int .i64 ji18, .int .i64 (wrap64 ((wrap64 (ji18 - 1)) - x9_3))] rfl (by (try simp only [List.map_toArray, List.map_cons, List.map_nil]); first | done | (simp only [hji18]; rfl) | rfl | (simp only [List.length_drop, List.length_take]; rfl)) ?_; (with_reducible refine (lap_Window.calls k3 ji18 (wrap64 ((wrap64 (ji18 - 1)) - x9_3)) t158 _ A21.out).mono ?_); rintro e w' ⟨rfl, ⟨nd, rfl⟩⟩; refine ⟨_, rfl, ?_⟩) | (go_at_call 10; (with_reducible refine (lap_Window.calls k3 ji18 (wrap64 (x9_3 - 1)) t159 _ A25.out).mono ?_); rintro e w' ⟨rfl, ⟨nd, rfl⟩⟩))
                                go_roundg k3
                                case measure => have := HJ5.out; have := HJ10.out; have := HK3.out; omega
                                case rel => exact ⟨(wrap64 (x9_3 + 1)), (by first | rfl | (simp; done) | (simp [*]; done)), H', ⟨by have := HJ5.out; have := HJ10.out; have := HK3.out; omega⟩, ⟨by repeat (first | (with_reducible first | exact HB.out | apply below_alloc | apply pw_below_drewN | apply below_drew1) | exact HB.out)⟩⟩
                          · rw [if_neg c24] at H
                            have c24b0 : decide (0 < x9_3) = false := decide_eq_false c24
                            clear c24
                            by_cases c28 : (wrap64 (t157)) > 32767
                            · rw [if_pos c28] at H
                              have c28b0 : decide (32767 < (wrap64 (t157))) = true := decide_eq_true c28
                              clear c28
                              obtain rfl := Option.some.inj H
                              go_wp2_with (first | ((with_reducible refine gate_callee (f := 10) rfl ?_); refine goesL_ (some 45) rfl rfl Try.func10 (by kernel_rfl) rfl #[.int .i64 ji18, .int .i64 x9_3] rfl (by (try simp only [List.map_toArray, List.map_cons, List.map_nil]); first | done | (simp only [hji18]; rfl) | rfl | (simp only [List.length_drop, List.length_take]; rfl)) ?_; (with_reducible refine (lap_Window.calls k3 ji18 x9_3 t157 _ A20.out).mono ?_); rintro e w' ⟨rfl, ⟨nd, rfl⟩⟩; refine ⟨_, rfl, ?_⟩) | ((with_reducible refine gate_callee (f := 10) rfl ?_); refine goesL_ (some 52) rfl rfl Try.func10 (by kernel_rfl) rfl #[.int .i64 ji18, .int .i64 (wrap64 ((wrap64 (ji18 - 1)) - x9_3))] rfl (by (try simp only [List.map_toArray, List.map_cons, List.map_nil]); first | done | (simp only [hji18]; rfl) | rfl | (simp only [List.length_drop, List.length_take]; rfl)) ?_; (with_reducible refine (lap_Window.calls k3 ji18 (wrap64 ((wrap64 (ji18 - 1)) - x9_3)) t158 _ A21.out).mono ?_); rintro e w' ⟨rfl, ⟨nd, rfl⟩⟩; refine ⟨_, rfl, ?_⟩))
                              go_ret
                              exact ⟨by first | rfl | (simp [errW_none, errW_some] <;> rfl) | (simp only [← hji16, ← hji18]; first | rfl | (simp [errW_none, errW_some] <;> rfl)) | (simp [*, errW_none, errW_some] <;> rfl), by repeat (first | (with_reducible first | exact HB.out | apply below_alloc | apply pw_below_drewN | apply below_drew1) | exact HB.out)⟩
                            · rw [if_neg c28] at H
                              have c28b0 : decide (32767 < (wrap64 (t157))) = false := decide_eq_false c28
                              clear c28
                              have H' := Aside0.mk H
                              clear H
                              go_wp2_with (first | ((with_reducible refine gate_callee (f := 10) rfl ?_); refine goesL_ (some 45) rfl rfl Try.func10 (by kernel_rfl) rfl #[.int .i64 ji18, .int .i64 x9_3] rfl (by (try simp only [List.map_toArray, List.map_cons, List.map_nil]); first | done | (simp only [hji18]; rfl) | rfl | (simp only [List.length_drop, List.length_take]; rfl)) ?_; (with_reducible refine (lap_Window.calls k3 ji18 x9_3 t157 _ A20.out).mono ?_); rintro e w' ⟨rfl, ⟨nd, rfl⟩⟩; refine ⟨_, rfl, ?_⟩) | ((with_reducible refine gate_callee (f := 10) rfl ?_); refine goesL_ (some 52) rfl rfl Try.func10 (by kernel_rfl) rfl #[.int .i64 ji18, .int .i64 (wrap64 ((wrap64 (ji18 - 1)) - x9_3))] rfl (by (try simp only [List.map_toArray, List.map_cons, List.map_nil]); first | done | (simp only [hji18]; rfl) | rfl | (simp only [List.length_drop, List.length_take]; rfl)) ?_; (with_reducible refine (lap_Window.calls k3 ji18 (wrap64 ((wrap64 (ji18 - 1)) - x9_3)) t158 _ A21.out).mono ?_); rintro e w' ⟨rfl, ⟨nd, rfl⟩⟩; refine ⟨_, rfl, ?_⟩))
                              go_roundg k3
                              case measure => have := HJ5.out; have := HJ10.out; have := HK3.out; omega
                              case rel => exact ⟨(wrap64 (x9_3 + 1)), (by first | rfl | (simp; done) | (simp [*]; done)), H', ⟨by have := HJ5.out; have := HJ10.out; have := HK3.out; omega⟩, ⟨by repeat (first | (with_reducible first | exact HB.out | apply below_alloc | apply pw_below_drewN | apply below_drew1) | exact HB.out)⟩⟩
                    · rw [if_neg c19] at H
                      have c19b0 : decide (x9_3 < ji18) = false := decide_eq_false c19
                      clear c19
                      obtain rfl := Option.some.inj H
                      go_wp2
                      go_ret
                      exact ⟨by first | rfl | (simp [errW_none, errW_some] <;> rfl) | (simp only [← hji16, ← hji18]; first | rfl | (simp [errW_none, errW_some] <;> rfl)) | (simp [*, errW_none, errW_some] <;> rfl), by repeat (first | (with_reducible first | exact HB.out | apply below_alloc | apply pw_below_drewN | apply below_drew1) | exact HB.out)⟩
              · rw [if_neg c17] at H
                exact absurd H (by simp)
            · rw [if_neg c15] at H
              have c15b0 : ((wrap64 (t156)) == x7_10) = false := beq_eq_false_iff_ne.mpr c15
              have c15b1 : ((wrap64 (t156)) != x7_10) = true := bne_iff_ne.mpr c15
              obtain rfl := Option.some.inj H
              go_wp2_with (first | ((with_reducible refine gate_callee (f := 10) rfl ?_); refine goesL_ (some 31) rfl rfl Try.func10 (by kernel_rfl) rfl #[.int .i64 a1, .int .i64 a2] rfl (by (try simp only [List.map_toArray, List.map_cons, List.map_nil]); first | done | rfl | (simp only [List.length_drop, List.length_take]; rfl)) ?_; (with_reducible refine (lap_Window.calls kj10 a1 a2 t156 _ A14.out).mono ?_); rintro e w' ⟨rfl, ⟨nd, rfl⟩⟩; refine ⟨_, rfl, ?_⟩))
              go_ret
              exact ⟨by first | rfl | (simp [errW_none, errW_some] <;> rfl) | (simp [*, errW_none, errW_some] <;> rfl), by repeat (first | (with_reducible first | exact HB.out | apply below_alloc | apply pw_below_drewN | apply below_drew1) | exact HB.out)⟩
  · replace c5 := Bool.eq_false_iff.mpr c5
    subst c5
    have H1 : (some false) = some r := by rw [if_neg (show ¬ (false = true) by decide)] at H; exact H
    clear H
    have H := H1
    clear H1
    obtain rfl := Option.some.inj H
    go_enter Try.func3, Try.ntmps3
    go_wp2_with (first | ((with_reducible refine gate_callee (f := 7) rfl ?_); refine goesL_ (some 13) rfl rfl Try.func7 (by kernel_rfl) rfl #[] rfl (by (try simp only [List.map_toArray, List.map_cons, List.map_nil]); first | done | rfl | (simp only [List.length_drop, List.length_take]; rfl)) ?_; (with_reducible refine (spinetlaw23_awake.calls k  false _ A4.out).mono ?_); rintro e w29 ⟨rfl, hb⟩; refine ⟨_, rfl, ?_⟩; have n0_ := Aside0.mk (below_step (by repeat (first | (with_reducible first | exact HB.out | apply below_alloc | apply pw_below_drewN | apply below_drew1) | exact HB.out)) hb); clear HB; have HB := n0_; clear n0_; (try clear hb); (try clear hb2); (try clear hk); (try clear hi)))
    go_ret
    exact ⟨by first | rfl | (simp [errW_none, errW_some] <;> rfl) | (simp [*, errW_none, errW_some] <;> rfl), by repeat (first | (with_reducible first | exact HB.out | apply below_alloc | apply pw_below_drewN | apply below_drew1) | exact HB.out)⟩

/-- THE ONE PURE STATEMENT of spinetlaw23_LapWindows: yours. -/
def spinetlaw23_LapWindows.Pure : Prop := ∀ (a0 : Int) (a1 : Int) (a2 : Int), (Lit.int .u8 a0).wf = true → (Lit.int .i64 a1).wf = true → (Lit.int .i64 a2).wf = true → ∃ k, spinetlaw23_LapWindows.f k a0 a1 a2 = some true
theorem spinetlaw23_LapWindows.walk (P : spinetlaw23_LapWindows.Pure) (a0 : Int) (a1 : Int) (a2 : Int) (w : World) (w0 : (Lit.int .u8 a0).wf = true) (w1 : (Lit.int .i64 a1).wf = true) (w2 : (Lit.int .i64 a2).wf = true) :
    Calls Try.prog 3 #[.int .u8 a0, .int .i64 a1, .int .i64 a2] w fun e w' => e = .returned (.bool true) ∧ Below w.heap.size w w' := by
  obtain ⟨k, h⟩ := P a0 a1 a2 w0 w1 w2
  refine (spinetlaw23_LapWindows.calls k a0 a1 a2 true w h).mono ?_
  rintro e w' ⟨rfl, hd⟩
  exact ⟨rfl, hd⟩

end Go.Proofs.Ytkbcolikbaaejaa.OLapWindows
