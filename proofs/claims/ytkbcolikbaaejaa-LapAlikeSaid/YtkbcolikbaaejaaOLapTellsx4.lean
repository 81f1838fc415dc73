import Derived.Test.YtkbcolikbaaejaaOLapTellsx0
import Derived.Test.YtkbcolikbaaejaaOLapTellsx3
namespace Go.Proofs.Ytkbcolikbaaejaa.OLapTells
open Go.RowKit Go.Proofs.YtkbcolikbaaejaaW.PrintWords Go.Proofs.YtkbcolikbaaejaaW.PrintLast Go.Proofs.YtkbcolikbaaejaaW.PrintMore
attribute [local go_sem] max2_int min2_int max_two min_two max_three min_three max_four min_four   -- for this text's walks alone
set_option linter.unusedVariables false
set_option linter.unusedSimpArgs false

/-! ### spinetref23_U: function 27 -/
def spinetref23_U.f (l0 : List Int) (a1 : Int) : Option (Int) := if a1 < (wrap64 ((l0.length : Int) / 2)) then (if 0 ≤ (wrap64 ((wrap64 ((l0.length : Int) / 2)) + a1)) then (if (wrap64 ((wrap64 ((l0.length : Int) / 2)) + a1)) < (l0.length : Int) then (some (rd l0 (wrap64 ((wrap64 ((l0.length : Int) / 2)) + a1)))) else (none)) else (none)) else (if a1 < (wrap64 ((l0.length : Int) + (wrap64 ((l0.length : Int) / 2)))) then (if 0 ≤ (wrap64 ((wrap64 ((wrap64 ((l0.length : Int) + (wrap64 ((l0.length : Int) / 2)))) - 1)) - a1)) then (if (wrap64 ((wrap64 ((wrap64 ((l0.length : Int) + (wrap64 ((l0.length : Int) / 2)))) - 1)) - a1)) < (l0.length : Int) then (some (wrap64 (-(rd l0 (wrap64 ((wrap64 ((wrap64 ((l0.length : Int) + (wrap64 ((l0.length : Int) / 2)))) - 1)) - a1)))))) else (none)) else (none)) else (if 0 ≤ (wrap64 ((wrap64 (a1 - (l0.length : Int))) - (wrap64 ((l0.length : Int) / 2)))) then (if (wrap64 ((wrap64 (a1 - (l0.length : Int))) - (wrap64 ((l0.length : Int) / 2)))) < (l0.length : Int) then (some (wrap64 (-(rd l0 (wrap64 ((wrap64 (a1 - (l0.length : Int))) - (wrap64 ((l0.length : Int) / 2)))))))) else (none)) else (none)))
set_option maxHeartbeats 8000000 in
set_option maxRecDepth 100000 in
theorem spinetref23_U.calls (A0 : Option Addr) (c0 : Nat) (l0 : List Int) (a1 : Int) (r : Int) (w : World) (hr0 : Kd.C (Kd.int .i64) w A0 l0.length l0) (hc0 : l0.length ≤ c0) (h : spinetref23_U.f l0 a1 = some r) :
    Calls Try.prog 27 #[.slice A0 l0.length c0, .int .i64 a1] w fun e w' => e = .returned (.int .i64 r) ∧ Drawn0 w w' := by
  have HR0 := Aside0.mk hr0
  have HC0 := Aside0.mk hc0
  clear hr0 hc0
  have H : (if a1 < (wrap64 ((l0.length : Int) / 2)) then (if 0 ≤ (wrap64 ((wrap64 ((l0.length : Int) / 2)) + a1)) then (if (wrap64 ((wrap64 ((l0.length : Int) / 2)) + a1)) < (l0.length : Int) then (some (rd l0 (wrap64 ((wrap64 ((l0.length : Int) / 2)) + a1)))) else (none)) else (none)) else (if a1 < (wrap64 ((l0.length : Int) + (wrap64 ((l0.length : Int) / 2)))) then (if 0 ≤ (wrap64 ((wrap64 ((wrap64 ((l0.length : Int) + (wrap64 ((l0.length : Int) / 2)))) - 1)) - a1)) then (if (wrap64 ((wrap64 ((wrap64 ((l0.length : Int) + (wrap64 ((l0.length : Int) / 2)))) - 1)) - a1)) < (l0.length : Int) then (some (wrap64 (-(rd l0 (wrap64 ((wrap64 ((wrap64 ((l0.length : Int) + (wrap64 ((l0.length : Int) / 2)))) - 1)) - a1)))))) else (none)) else (none)) else (if 0 ≤ (wrap64 ((wrap64 (a1 - (l0.length : Int))) - (wrap64 ((l0.length : Int) / 2)))) then (if (wrap64 ((wrap64 (a1 - (l0.length : Int))) - (wrap64 ((l0.length : Int) / 2)))) < (l0.length : Int) then (some (wrap64 (-(rd l0 (wrap64 ((wrap64 (a1 - (l0.length : Int))) - (wrap64 ((l0.length : Int) / 2)))))))) else (none)) else (none)))) = some r := h
  clear h
  by_cases c3 : a1 < (wrap64 ((l0.length : Int) / 2))
  · rw [if_pos c3] at H
    have c3b0 : decide (a1 < (wrap64 ((l0.length : Int) / 2))) = true := decide_eq_true c3
    clear c3
    obtain ⟨ji4, hji4⟩ : ∃ j_ : Int, (wrap64 ((wrap64 ((l0.length : Int) / 2)) + a1)) = j_ := ⟨_, rfl⟩
    replace H : (if 0 ≤ (ji4) then (if (ji4) < (l0.length : Int) then (some (rd l0 (ji4))) else (none)) else (none)) = some r := by first | (rw [hji4] at H; exact H) | (simp only [hji4] at H ⊢; exact H)
    have hji4w : (IntKind.i64.wrap ((wrap64 ((l0.length : Int) / 2)) + a1)) = ji4 := (i64_w _).trans hji4
    by_cases c5 : 0 ≤ (ji4)
    · rw [if_pos c5] at H
      have c5b0 : decide (0 ≤ (ji4)) = true := decide_eq_true c5
      clear c5
      by_cases c6 : (ji4) < (l0.length : Int)
      · rw [if_pos c6] at H
        have c6b0 : decide ((ji4) < (l0.length : Int)) = true := decide_eq_true c6
        clear c6
        obtain rfl := Option.some.inj H
        have p166 : 0 ≤ ((ji4) : Int) := of_decide_eq_true (by first | (with_reducible assumption) | assumption)
        have q166 : (ji4) < (l0.length : Int) := of_decide_eq_true (by first | (with_reducible assumption) | assumption)
        obtain ⟨ad166, e166, hx166_0⟩ := Kd.at_int HR0.out (ji4) p166 q166
        cases e166
        replace p166 := eq_true p166
        replace q166 := eq_true q166
        go_enter Try.func27, Try.ntmps27
        go_wp2
        go_ret
        exact ⟨by first | rfl | (simp; done) | (simp only [← hji4] <;> (first | rfl | simp)) | (simp [*]; done), by repeat (first | exact Drawn0.refl _ | apply Drawn0.step)⟩
      · rw [if_neg c6] at H
        exact absurd H (by simp)
    · rw [if_neg c5] at H
      exact absurd H (by simp)
  · rw [if_neg c3] at H
    have c3b0 : decide (a1 < (wrap64 ((l0.length : Int) / 2))) = false := decide_eq_false c3
    clear c3
    by_cases c7 : a1 < (wrap64 ((l0.length : Int) + (wrap64 ((l0.length : Int) / 2))))
    · rw [if_pos c7] at H
      have c7b0 : decide (a1 < (wrap64 ((l0.length : Int) + (wrap64 ((l0.length : Int) / 2))))) = true := decide_eq_true c7
      clear c7
      obtain ⟨ji8, hji8⟩ : ∃ j_ : Int, (wrap64 ((wrap64 ((wrap64 ((l0.length : Int) + (wrap64 ((l0.length : Int) / 2)))) - 1)) - a1)) = j_ := ⟨_, rfl⟩
      replace H : (if 0 ≤ (ji8) then (if (ji8) < (l0.length : Int) then (some (wrap64 (-(rd l0 (ji8))))) else (none)) else (none)) = some r := by first | (rw [hji8] at H; exact H) | (simp only [hji8] at H ⊢; exact H)
      have hji8w : (IntKind.i64.wrap ((wrap64 ((wrap64 ((l0.length : Int) + (wrap64 ((l0.length : Int) / 2)))) - 1)) - a1)) = ji8 := (i64_w _).trans hji8
      by_cases c9 : 0 ≤ (ji8)
      · rw [if_pos c9] at H
        have c9b0 : decide (0 ≤ (ji8)) = true := decide_eq_true c9
        clear c9
        by_cases c10 : (ji8) < (l0.length : Int)
        · rw [if_pos c10] at H
          have c10b0 : decide ((ji8) < (l0.length : Int)) = true := decide_eq_true c10
          clear c10
          obtain rfl := Option.some.inj H
          have p167 : 0 ≤ ((ji8) : Int) := of_decide_eq_true (by first | (with_reducible assumption) | assumption)
          have q167 : (ji8) < (l0.length : Int) := of_decide_eq_true (by first | (with_reducible assumption) | assumption)
          obtain ⟨ad167, e167, hx167_0⟩ := Kd.at_int HR0.out (ji8) p167 q167
          cases e167
          replace p167 := eq_true p167
          replace q167 := eq_true q167
          go_enter Try.func27, Try.ntmps27
          go_wp2
          go_ret
          exact ⟨by first | rfl | (simp; done) | (simp only [← hji8] <;> (first | rfl | simp)) | (simp [*]; done), by repeat (first | exact Drawn0.refl _ | apply Drawn0.step)⟩
        · rw [if_neg c10] at H
          exact absurd H (by simp)
      · rw [if_neg c9] at H
        exact absurd H (by simp)
    · rw [if_neg c7] at H
      have c7b0 : decide (a1 < (wrap64 ((l0.length : Int) + (wrap64 ((l0.length : Int) / 2))))) = false := decide_eq_false c7
      clear c7
      obtain ⟨ji11, hji11⟩ : ∃ j_ : Int, (wrap64 ((wrap64 (a1 - (l0.length : Int))) - (wrap64 ((l0.length : Int) / 2)))) = j_ := ⟨_, rfl⟩
      replace H : (if 0 ≤ (ji11) then (if (ji11) < (l0.length : Int) then (some (wrap64 (-(rd l0 (ji11))))) else (none)) else (none)) = some r := by first | (rw [hji11] at H; exact H) | (simp only [hji11] at H ⊢; exact H)
      have hji11w : (IntKind.i64.wrap ((wrap64 (a1 - (l0.length : Int))) - (wrap64 ((l0.length : Int) / 2)))) = ji11 := (i64_w _).trans hji11
      by_cases c12 : 0 ≤ (ji11)
      · rw [if_pos c12] at H
        have c12b0 : decide (0 ≤ (ji11)) = true := decide_eq_true c12
        clear c12
        by_cases c13 : (ji11) < (l0.length : Int)
        · rw [if_pos c13] at H
          have c13b0 : decide ((ji11) < (l0.length : Int)) = true := decide_eq_true c13
          clear c13
          obtain rfl := Option.some.inj H
          have p168 : 0 ≤ ((ji11) : Int) := of_decide_eq_true (by first | (with_reducible assumption) | assumption)
          have q168 : (ji11) < (l0.length : Int) := of_decide_eq_true (by first | (with_reducible assumption) | assumption)
          obtain ⟨ad168, e168, hx168_0⟩ := Kd.at_int HR0.out (ji11) p168 q168
          cases e168
          replace p168 := eq_true p168
          replace q168 := eq_true q168
          go_enter Try.func27, Try.ntmps27
          go_wp2
          go_ret
          exact ⟨by first | rfl | (simp; done) | (simp only [← hji11] <;> (first | rfl | simp)) | (simp [*]; done), by repeat (first | exact Drawn0.refl _ | apply Drawn0.step)⟩
        · rw [if_neg c13] at H
          exact absurd H (by simp)
      · rw [if_neg c12] at H
        exact absurd H (by simp)

/-! ### spinetref23_Lap: function 16 -/
def spinetref23_Lap.l0 : Nat → List Int → List Int → List Int → List Int → Int → Int → Option (List Int × List Int)
  | 0, _, _, _, _, _, _ => none
  | k + 1, x0, x1, x6, x7, x8, x9 => if x9 < x8 then (if 0 ≤ x9 then (if x9 < (x1.length : Int) then ((spinetref23_U.f x0 x9).bind fun t170 => ((spinetref23_Window.f k x8 x9).bind fun t171 => ((spinetref01_Round.f k (wrap64 (t170 * t171)) 15).bind fun t172 => ((spinetref01_Sat.f k (wrap64 ((rd x1 x9) + t172)) 24).bind fun t173 => (if x6.length < 17592186044416 then ((spinetref23_U.f x0 (wrap64 (x8 + x9))).bind fun t177 => ((spinetref23_Window.f k x8 (wrap64 ((wrap64 (x8 - 1)) - x9))).bind fun t178 => ((spinetref01_Round.f k (wrap64 (t177 * t178)) 15).bind fun t179 => ((spinetref01_Sat.f k t179 32).bind fun t180 => (if x7.length < 17592186044416 then (spinetref23_Lap.l0 k x0 x1 (x6 ++ [t173]) (x7 ++ [t180]) x8 (wrap64 (x9 + 1))) else (none)))))) else (none)))))) else (none)) else (none)) else (some (x6, x7))
def spinetref23_Lap.f (k : Nat) (l0 : List Int) (l1 : List Int) : Option (List Int × List Int) := spinetref23_Lap.l0 k l0 l1 ([] : List Int) ([] : List Int) (l0.length : Int) 0
theorem spinetref23_Lap.mono_l : ∀ k, (∀ y0 y1 y2 y3 y4 y5, LeO (spinetref23_Lap.l0 k y0 y1 y2 y3 y4 y5) (spinetref23_Lap.l0 (k + 1) y0 y1 y2 y3 y4 y5))
  | 0 => fun _ _ _ _ _ _ r h => by simp [spinetref23_Lap.l0] at h
  | k + 1 => by
    have ih0 := spinetref23_Lap.mono_l k
    · intro y0 y1 y2 y3 y4 y5
      unfold spinetref23_Lap.l0
      repeat' first
      | (with_reducible exact ih0 _ _ _ _ _ _)
      | (with_reducible exact spinetref01_Round.mono _ _ _)
      | (with_reducible exact spinetref01_Sat.mono _ _ _)
      | (with_reducible exact spinetref23_Window.mono _ _ _)
      | (with_reducible exact LeO.refl _)
      | (with_reducible exact LeO.none _)
      | (with_reducible refine LeO.ite ?_ ?_)
      | (with_reducible refine LeO.bind ?_ (fun _ => ?_))
      | exact ih0 _ _ _ _ _ _
      | exact spinetref01_Round.mono _ _ _
      | exact spinetref01_Sat.mono _ _ _
      | exact spinetref23_Window.mono _ _ _
      | exact LeO.none _
      | refine LeO.ite ?_ ?_
      | refine LeO.bind ?_ (fun _ => ?_)
theorem spinetref23_Lap.mono : ∀ a0 a1 k, LeO (spinetref23_Lap.f k a0 a1) (spinetref23_Lap.f (k + 1) a0 a1) := by
  intro a0 a1 k
  have ih0 := spinetref23_Lap.mono_l k
  unfold spinetref23_Lap.f
  repeat' first
      | (with_reducible exact ih0 _ _ _ _ _ _)
      | (with_reducible exact spinetref01_Round.mono _ _ _)
      | (with_reducible exact spinetref01_Sat.mono _ _ _)
      | (with_reducible exact spinetref23_Window.mono _ _ _)
      | (with_reducible exact LeO.refl _)
      | (with_reducible exact LeO.none _)
      | (with_reducible refine LeO.ite ?_ ?_)
      | (with_reducible refine LeO.bind ?_ (fun _ => ?_))
      | exact ih0 _ _ _ _ _ _
      | exact spinetref01_Round.mono _ _ _
      | exact spinetref01_Sat.mono _ _ _
      | exact spinetref23_Window.mono _ _ _
      | exact LeO.none _
      | refine LeO.ite ?_ ?_
      | refine LeO.bind ?_ (fun _ => ?_)
def spinetref23_Lap.T6 : Bool × List (List Nat × List Nat) := (true, [([], []), ([], []), ([], []), ([1, 2], [1, 2]), ([3], [3]), ([], []), ([], []), ([5, 6], [5, 6]), ([], []), ([], []), ([8, 9, 7], [8, 9]), ([7, 10], [7, 10]), ([11, 10], [11]), ([4, 12], [4, 12]), ([13, 12], [13]), ([14], [14]), ([0, 15, 14], [0, 15]), ([16, 16, 0, 1, 2, 3, 4, 5, 6, 7, 8, 9, 10, 11, 12, 13, 14, 15, 16], [0, 16])])
def spinetref23_Lap.B6 : List Nat := [0, 0, 0, 6, 14, 0, 0, 96, 0, 0, 992, 2016, 4064, 8190, 16382, 32766, 65535, 131071]
theorem spinetref23_Lap.tab6 : rtab .any (opsOf Try.f16 6) = spinetref23_Lap.T6 := by kernel_rfl
theorem spinetref23_Lap.bits6 : waitsOk spinetref23_Lap.T6.2 spinetref23_Lap.B6 = true := by kernel_rfl
set_option maxHeartbeats 8000000 in
set_option maxRecDepth 100000 in
theorem spinetref23_Lap.calls (k : Nat) (A0 : Option Addr) (c0 : Nat) (l0 : List Int) (A1 : Option Addr) (c1 : Nat) (l1 : List Int) (r1 : List Int) (r2 : List Int) (w : World) (hr0 : Kd.C (Kd.int .i64) w A0 l0.length l0) (hc0 : l0.length ≤ c0) (hr1 : Kd.C (Kd.int .i64) w A1 l1.length l1) (hc1 : l1.length ≤ c1) (h : spinetref23_Lap.f k l0 l1 = some (r1, r2)) :
    Calls Try.prog 16 #[.slice A0 l0.length c0, .slice A1 l1.length c1] w fun e w' => ∃ v0_ v1_ : Value, e = .returned (.tuple #[v0_, v1_]) ∧ Kd.R (Kd.int .i64) 2 w' w.heap.size (fun k_ => some k_ ≠ (v1_ : Value).ownBlock) v0_ r1 ∧ Kd.R (Kd.int .i64) 2 w' w.heap.size (fun k_ => some k_ ≠ (v0_ : Value).ownBlock) v1_ r2 ∧ Below w.heap.size w w' := by
  have HR0 := Aside0.mk hr0
  have HC0 := Aside0.mk hc0
  clear hr0 hc0
  have HR1 := Aside0.mk hr1
  have HC1 := Aside0.mk hc1
  clear hr1 hc1
  have HB := Aside0.mk (Below.refl w.heap.size w)
  have H : (spinetref23_Lap.l0 k l0 l1 ([] : List Int) ([] : List Int) (l0.length : Int) 0) = some (r1, r2) := h
  clear h
  have H' := Aside0.mk H
  clear H
  go_enter Try.func16, Try.ntmps16
  go_wp2
  go_loopg [6, 7, 9] k (fun kq v6 v7 v9 w' => ∃ (x6_1 : List Int) (x7_1 : List Int) (x9_1 : Int), v9 = .int .i64 x9_1 ∧ Aside0 (spinetref23_Lap.l0 kq l0 l1 x6_1 x7_1 (l0.length : Int) x9_1 = some (r1, r2)) ∧ Aside0 (kq ≤ k) ∧ Aside0 (Kd.R (Kd.int .i64) 2 w' w.heap.size (fun k_ => some k_ ≠ (v7 : Value).ownBlock) v6 x6_1) ∧ Aside0 (Kd.R (Kd.int .i64) 2 w' w.heap.size (fun k_ => some k_ ≠ (v6 : Value).ownBlock) v7 x7_1) ∧ Aside0 (Below w.heap.size w w'))
  case atStart => exact ⟨(([] : List Int)), (([] : List Int)), (0), (by first | rfl | (simp; done) | (simp [*]; done)), H', ⟨Nat.le_refl _⟩, ⟨by first | exact Kd.R_nil _ _ _ _ _ | exact Kd.N_nil _ _ _ _ _ | exact Kd.V_nil _ _ _ _ _ | exact Kd.Q_nil _ _ _ _ _ | exact Kd.S_nil _ _ _ _ _⟩, ⟨by first | exact Kd.R_nil _ _ _ _ _ | exact Kd.N_nil _ _ _ _ _ | exact Kd.V_nil _ _ _ _ _ | exact Kd.Q_nil _ _ _ _ _ | exact Kd.S_nil _ _ _ _ _⟩, ⟨by repeat (first | (with_reducible first | exact HB.out | apply below_alloc | apply pw_below_drewN | apply below_drew1) | exact HB.out)⟩⟩
  case round =>
    clear H'
    try clear c1
    try clear p2
    obtain ⟨x6_1, x7_1, x9_1, rfl, HA, HK1, HO_6, HO_7, HB⟩ := hrel
    cases gk with
    | zero => exact absurd HA.out (by simp [spinetref23_Lap.l0])
    | succ k1 =>
      have H := HA.out
      clear HA
      simp only [spinetref23_Lap.l0] at H
      by_cases c3 : x9_1 < (l0.length : Int)
      · rw [if_pos c3] at H
        have c3b0 : decide (x9_1 < (l0.length : Int)) = true := decide_eq_true c3
        clear c3
        by_cases c4 : 0 ≤ x9_1
        · rw [if_pos c4] at H
          have c4b0 : decide (0 ≤ x9_1) = true := decide_eq_true c4
          clear c4
          by_cases c5 : x9_1 < (l1.length : Int)
          · rw [if_pos c5] at H
            have c5b0 : decide (x9_1 < (l1.length : Int)) = true := decide_eq_true c5
            clear c5
            replace H := Option.bind_eq_some_iff.mp H
            obtain ⟨t170, A60, H⟩ := H
            replace H : ((spinetref23_Window.f k1 (l0.length : Int) x9_1).bind fun t171 => ((spinetref01_Round.f k1 (wrap64 (t170 * t171)) 15).bind fun t172 => ((spinetref01_Sat.f k1 (wrap64 ((rd l1 x9_1) + t172)) 24).bind fun t173 => (if x6_1.length < 17592186044416 then ((spinetref23_U.f l0 (wrap64 ((l0.length : Int) + x9_1))).bind fun t177 => ((spinetref23_Window.f k1 (l0.length : Int) (wrap64 ((wrap64 ((l0.length : Int) - 1)) - x9_1))).bind fun t178 => ((spinetref01_Round.f k1 (wrap64 (t177 * t178)) 15).bind fun t179 => ((spinetref01_Sat.f k1 t179 32).bind fun t180 => (if x7_1.length < 17592186044416 then (spinetref23_Lap.l0 k1 l0 l1 (x6_1 ++ [t173]) (x7_1 ++ [t180]) (l0.length : Int) (wrap64 (x9_1 + 1))) else (none)))))) else (none))))) = some (r1, r2) := H
            have A6 := Aside0.mk A60
            clear A60
            replace H := Option.bind_eq_some_iff.mp H
            obtain ⟨t171, A70, H⟩ := H
            replace H : ((spinetref01_Round.f k1 (wrap64 (t170 * t171)) 15).bind fun t172 => ((spinetref01_Sat.f k1 (wrap64 ((rd l1 x9_1) + t172)) 24).bind fun t173 => (if x6_1.length < 17592186044416 then ((spinetref23_U.f l0 (wrap64 ((l0.length : Int) + x9_1))).bind fun t177 => ((spinetref23_Window.f k1 (l0.length : Int) (wrap64 ((wrap64 ((l0.length : Int) - 1)) - x9_1))).bind fun t178 => ((spinetref01_Round.f k1 (wrap64 (t177 * t178)) 15).bind fun t179 => ((spinetref01_Sat.f k1 t179 32).bind fun t180 => (if x7_1.length < 17592186044416 then (spinetref23_Lap.l0 k1 l0 l1 (x6_1 ++ [t173]) (x7_1 ++ [t180]) (l0.length : Int) (wrap64 (x9_1 + 1))) else (none)))))) else (none)))) = some (r1, r2) := H
            have A7 := Aside0.mk A70
            clear A70
            replace H := Option.bind_eq_some_iff.mp H
            obtain ⟨t172, A80, H⟩ := H
            replace H : ((spinetref01_Sat.f k1 (wrap64 ((rd l1 x9_1) + t172)) 24).bind fun t173 => (if x6_1.length < 17592186044416 then ((spinetref23_U.f l0 (wrap64 ((l0.length : Int) + x9_1))).bind fun t177 => ((spinetref23_Window.f k1 (l0.length : Int) (wrap64 ((wrap64 ((l0.length : Int) - 1)) - x9_1))).bind fun t178 => ((spinetref01_Round.f k1 (wrap64 (t177 * t178)) 15).bind fun t179 => ((spinetref01_Sat.f k1 t179 32).bind fun t180 => (if x7_1.length < 17592186044416 then (spinetref23_Lap.l0 k1 l0 l1 (x6_1 ++ [t173]) (x7_1 ++ [t180]) (l0.length : Int) (wrap64 (x9_1 + 1))) else (none)))))) else (none))) = some (r1, r2) := H
            have A8 := Aside0.mk A80
            clear A80
            replace H := Option.bind_eq_some_iff.mp H
            obtain ⟨t173, A90, H⟩ := H
            replace H : (if x6_1.length < 17592186044416 then ((spinetref23_U.f l0 (wrap64 ((l0.length : Int) + x9_1))).bind fun t177 => ((spinetref23_Window.f k1 (l0.length : Int) (wrap64 ((wrap64 ((l0.length : Int) - 1)) - x9_1))).bind fun t178 => ((spinetref01_Round.f k1 (wrap64 (t177 * t178)) 15).bind fun t179 => ((spinetref01_Sat.f k1 t179 32).bind fun t180 => (if x7_1.length < 17592186044416 then (spinetref23_Lap.l0 k1 l0 l1 (x6_1 ++ [t173]) (x7_1 ++ [t180]) (l0.length : Int) (wrap64 (x9_1 + 1))) else (none)))))) else (none)) = some (r1, r2) := H
            have A9 := Aside0.mk A90
            clear A90
            by_cases c10 : x6_1.length < 17592186044416
            · rw [if_pos c10] at H
              have LMc10 := Aside0.mk c10
              clear c10
              obtain ⟨y174, hy174⟩ : ∃ y_ : List Int, y_ = (x6_1 ++ [t173]) := ⟨_, rfl⟩
              replace H : ((spinetref23_U.f l0 (wrap64 ((l0.length : Int) + x9_1))).bind fun t177 => ((spinetref23_Window.f k1 (l0.length : Int) (wrap64 ((wrap64 ((l0.length : Int) - 1)) - x9_1))).bind fun t178 => ((spinetref01_Round.f k1 (wrap64 (t177 * t178)) 15).bind fun t179 => ((spinetref01_Sat.f k1 t179 32).bind fun t180 => (if x7_1.length < 17592186044416 then (spinetref23_Lap.l0 k1 l0 l1 y174 (x7_1 ++ [t180]) (l0.length : Int) (wrap64 (x9_1 + 1))) else (none)))))) = some (r1, r2) := by first | (rw [hy174]; with_reducible exact H) | (have H2_ := (Option.bind_some _ _).symm.trans H; rw [hy174]; with_reducible exact H2_) | (have H2_ := (Option.bind_some _ _).symm.trans H; with_reducible exact H2_) | with_reducible exact H | (rw [hy174]; exact H) | exact H
              have Ny174 := Aside0.mk hy174
              clear hy174
              replace H := Option.bind_eq_some_iff.mp H
              obtain ⟨t177, A110, H⟩ := H
              replace H : ((spinetref23_Window.f k1 (l0.length : Int) (wrap64 ((wrap64 ((l0.length : Int) - 1)) - x9_1))).bind fun t178 => ((spinetref01_Round.f k1 (wrap64 (t177 * t178)) 15).bind fun t179 => ((spinetref01_Sat.f k1 t179 32).bind fun t180 => (if x7_1.length < 17592186044416 then (spinetref23_Lap.l0 k1 l0 l1 y174 (x7_1 ++ [t180]) (l0.length : Int) (wrap64 (x9_1 + 1))) else (none))))) = some (r1, r2) := H
              have A11 := Aside0.mk A110
              clear A110
              replace H := Option.bind_eq_some_iff.mp H
              obtain ⟨t178, A120, H⟩ := H
              replace H : ((spinetref01_Round.f k1 (wrap64 (t177 * t178)) 15).bind fun t179 => ((spinetref01_Sat.f k1 t179 32).bind fun t180 => (if x7_1.length < 17592186044416 then (spinetref23_Lap.l0 k1 l0 l1 y174 (x7_1 ++ [t180]) (l0.length : Int) (wrap64 (x9_1 + 1))) else (none)))) = some (r1, r2) := H
              have A12 := Aside0.mk A120
              clear A120
              replace H := Option.bind_eq_some_iff.mp H
              obtain ⟨t179, A130, H⟩ := H
              replace H : ((spinetref01_Sat.f k1 t179 32).bind fun t180 => (if x7_1.length < 17592186044416 then (spinetref23_Lap.l0 k1 l0 l1 y174 (x7_1 ++ [t180]) (l0.length : Int) (wrap64 (x9_1 + 1))) else (none))) = some (r1, r2) := H
              have A13 := Aside0.mk A130
              clear A130
              replace H := Option.bind_eq_some_iff.mp H
              obtain ⟨t180, A140, H⟩ := H
              replace H : (if x7_1.length < 17592186044416 then (spinetref23_Lap.l0 k1 l0 l1 y174 (x7_1 ++ [t180]) (l0.length : Int) (wrap64 (x9_1 + 1))) else (none)) = some (r1, r2) := H
              have A14 := Aside0.mk A140
              clear A140
              by_cases c15 : x7_1.length < 17592186044416
              · rw [if_pos c15] at H
                have LMc15 := Aside0.mk c15
                clear c15
                obtain ⟨y181, hy181⟩ : ∃ y_ : List Int, y_ = (x7_1 ++ [t180]) := ⟨_, rfl⟩
                replace H : (spinetref23_Lap.l0 k1 l0 l1 y174 y181 (l0.length : Int) (wrap64 (x9_1 + 1))) = some (r1, r2) := by first | (rw [hy181]; with_reducible exact H) | (have H2_ := (Option.bind_some _ _).symm.trans H; rw [hy181]; with_reducible exact H2_) | (have H2_ := (Option.bind_some _ _).symm.trans H; with_reducible exact H2_) | with_reducible exact H | (rw [hy181]; exact H) | exact H
                have Ny181 := Aside0.mk hy181
                clear hy181
                have H' := Aside0.mk H
                clear H
                try go_wp2
                have n0_ := Aside0.mk (Kd.R_drew HO_6.out)
                have n1_ := Aside0.mk (Kd.R_drew HO_7.out)
                have n2_ := Aside0.mk (below_drew1 HB.out)
                clear HO_6
                clear HO_7
                clear HB
                have HO_6 := n0_
                have HO_7 := n1_
                have HB := n2_
                clear n0_ n1_ n2_
                have p169 : 0 ≤ (x9_1 : Int) := of_decide_eq_true (by first | (with_reducible assumption) | assumption)
                have q169 : x9_1 < (l1.length : Int) := of_decide_eq_true (by first | (with_reducible assumption) | assumption)
                obtain ⟨ad169, e169, hx169_0⟩ := Kd.at_int HR1.out x9_1 p169 q169
                have hw169_0 := hx169_0
                cases e169
                replace hx169_0 := (HB.out.cell (World.block_lt_of_cell? w _ hx169_0)).trans hx169_0
                replace p169 := eq_true p169
                replace q169 := eq_true q169
                refine start_ (n := 18) (S := fun w' => w'.cell? (ad169.add (x9_1).toNat) = some (.int .i64 (rd l1 x9_1))) (ds := []) #[false, false, false, false, false, false, false, false, false, false, false, false, false, false, false, false, false, false] (by kernel_rfl) rfl rfl (((HB.out.cell (World.block_lt_of_cell? w _ hw169_0)).trans hw169_0)) (fun hHeld => ?_); refine with_tabW spinetref23_Lap.tab6 spinetref23_Lap.bits6 (fun HT_ HW_ => ?_)
                generalize wr.drew = w16 at HO_6 HO_7 HB hx169_0 hHeld ⊢
                refine pure_ (i := 0) (N := some 17) (v := ?_) (a' := ?_) #[true, false, false, false, false, false, false, false, false, false, false, false, false, false, false, false, false, false] rfl rfl (any_of HT_.out (by kernel_rfl)) (fun _ _ _ h => h) (Or.inl ⟨by rfl, ?_⟩) ?_ ?_
                rotate_left
                · intro w'
                  go_simp
                  with_reducible rfl
                rotate_left
                · simp only [Act.put, List.setIfInBounds_toArray, List.set_cons_zero, List.set_cons_succ, i64_w, i32_w]
                  rfl
                refine pure_ (i := 1) (N := some 18) (v := ?_) (a' := ?_) #[true, true, false, false, false, false, false, false, false, false, false, false, false, false, false, false, false, false] rfl rfl (any_of HT_.out (by kernel_rfl)) (fun _ _ _ h => h) (Or.inl ⟨by rfl, ?_⟩) ?_ ?_
                rotate_left
                · intro w'
                  go_simp
                  with_reducible rfl
                rotate_left
                · simp only [Act.put, List.setIfInBounds_toArray, List.set_cons_zero, List.set_cons_succ, i64_w, i32_w]
                  rfl
                refine pure_ (i := 2) (N := some 19) (v := ?_) (a' := ?_) #[true, true, true, false, false, false, false, false, false, false, false, false, false, false, false, false, false, false] rfl rfl (any_of HT_.out (by kernel_rfl)) (fun _ _ _ h => h) (Or.inl ⟨by rfl, ?_⟩) ?_ ?_
                rotate_left
                · intro w'
                  go_simp
                  with_reducible rfl
                rotate_left
                · simp only [Act.put, List.setIfInBounds_toArray, List.set_cons_zero, List.set_cons_succ, i64_w, i32_w]
                  rfl
                refine pure_ (i := 3) (N := some 20) (v := ?_) (a' := ?_) #[true, true, true, true, false, false, false, false, false, false, false, false, false, false, false, false, false, false] rfl rfl (any_of HT_.out (by kernel_rfl)) (fun _ _ _ h => h) (Or.inl ⟨by rfl, ?_⟩) ?_ ?_
                rotate_left
                · intro w'
                  go_simp
                  with_reducible rfl
                rotate_left
                · simp only [Act.put, List.setIfInBounds_toArray, List.set_cons_zero, List.set_cons_succ, i64_w, i32_w]
                  rfl
                refine pure_ (i := 5) (N := some 22) (v := ?_) (a' := ?_) #[true, true, true, true, false, true, false, false, false, false, false, false, false, false, false, false, false, false] rfl rfl (any_of HT_.out (by kernel_rfl)) (fun _ _ _ h => h) (Or.inl ⟨by rfl, ?_⟩) ?_ ?_
                rotate_left
                · intro w'
                  go_simp
                  with_reducible rfl
                rotate_left
                · simp only [Act.put, List.setIfInBounds_toArray, List.set_cons_zero, List.set_cons_succ, i64_w, i32_w]
                  rfl
                refine pure_ (i := 6) (N := some 23) (v := ?_) (a' := ?_) #[true, true, true, true, false, true, true, false, false, false, false, false, false, false, false, false, false, false] rfl rfl (any_of HT_.out (by kernel_rfl)) (fun _ _ _ h => h) (Or.inl ⟨by rfl, ?_⟩) ?_ ?_
                rotate_left
                · intro w'
                  go_simp
                  with_reducible rfl
                rotate_left
                · simp only [Act.put, List.setIfInBounds_toArray, List.set_cons_zero, List.set_cons_succ, i64_w, i32_w]
                  rfl
                refine pure_ (i := 8) (N := some 25) (v := ?_) (a' := ?_) #[true, true, true, true, false, true, true, false, true, false, false, false, false, false, false, false, false, false] rfl rfl (any_of HT_.out (by kernel_rfl)) (fun _ _ _ h => h) (Or.inl ⟨by rfl, ?_⟩) ?_ ?_
                rotate_left
                · intro w'
                  go_simp
                  with_reducible rfl
                rotate_left
                · simp only [Act.put, List.setIfInBounds_toArray, List.set_cons_zero, List.set_cons_succ, i64_w, i32_w]
                  rfl
                refine pure_ (i := 9) (N := some 26) (v := ?_) (a' := ?_) #[true, true, true, true, false, true, true, false, true, true, false, false, false, false, false, false, false, false] rfl rfl (any_of HT_.out (by kernel_rfl)) (fun _ _ _ h => h) (Or.inl ⟨by rfl, ?_⟩) ?_ ?_
                rotate_left
                · intro w'
                  go_simp
                  with_reducible rfl
                rotate_left
                · simp only [Act.put, List.setIfInBounds_toArray, List.set_cons_zero, List.set_cons_succ, i64_w, i32_w]
                  rfl
                refine take_ (i := 4) (N := some 21) (v := ?_) (a' := ?_) #[true, true, true, true, true, true, true, false, true, true, false, false, false, false, false, false, false, false] rfl rfl (take_ofW HT_.out HW_.out (by kernel_rfl)) (fun _ _ _ h => h) (Or.inl ⟨by rfl, ?_⟩) hHeld ?_ ?_
                rotate_left
                · intro w' s0
                  go_simp
                  with_reducible rfl
                rotate_left
                · simp only [Act.put, List.setIfInBounds_toArray, List.set_cons_zero, List.set_cons_succ, i64_w, i32_w]
                  rfl
                refine one_ (i := 7) (N := some 24) #[true, true, true, true, true, true, true, true, true, true, false, false, false, false, false, false, false, false] rfl rfl (one_of HT_.out (by kernel_rfl)) (by decide) (fun K hK => ?_)
                refine goes_ Try.func27 (by kernel_rfl) rfl #[.slice A0 l0.length c0, .int .i64 x9_1] (by rfl) rfl rfl (by (try simp only [List.map_toArray, List.map_cons, List.map_nil]); first | done | rfl | (simp only [List.length_drop, List.length_take]; rfl)) ?_
                with_reducible refine (spinetref23_U.calls _ _ l0 x9_1 t170 _ ?side1 ?side2 A6.out).mono ?_
                (case side1 => repeat (first | exact (Kd.C_below HR0.out HB.out) | (with_reducible refine Kd.C_alloc ?_ _) | (with_reducible refine Kd.C_drewN ?_ _) | (with_reducible refine Kd.C_drew ?_)))
                (case side2 => exact HC0.out)
                rintro e w' ⟨rfl, ⟨nd, rfl⟩⟩
                refine ⟨_, rfl, ?_⟩
                refine hK.out _ _ (((HB.out.cell (World.block_lt_of_cell? w _ hw169_0)).trans hw169_0)) (fun hHeld => ?_)
                clear hK K
                refine norm_ (a' := ?_) ?_ ?_
                rotate_left
                · show Act.put _ (some 24) _ = _
                  simp only [Act.put, List.setIfInBounds_toArray, List.set_cons_zero, List.set_cons_succ, i64_w, i32_w]
                  rfl
                refine one_ (i := 10) (N := some 27) #[true, true, true, true, true, true, true, true, true, true, true, false, false, false, false, false, false, false] rfl rfl (one_of HT_.out (by kernel_rfl)) (by decide) (fun K hK => ?_)
                refine goes_ Try.func9 (by kernel_rfl) rfl #[.int .i64 (l0.length : Int), .int .i64 x9_1] (by rfl) rfl rfl (by (try simp only [List.map_toArray, List.map_cons, List.map_nil]); first | done | rfl | (simp only [List.length_drop, List.length_take]; rfl)) ?_
                with_reducible refine (spinetref23_Window.calls k1 (l0.length : Int) x9_1 t171 _ A7.out).mono ?_
                rintro e w' ⟨rfl, ⟨nd, rfl⟩⟩
                refine ⟨_, rfl, ?_⟩
                refine hK.out _ _ (((HB.out.cell (World.block_lt_of_cell? w _ hw169_0)).trans hw169_0)) (fun hHeld => ?_)
                clear hK K
                refine norm_ (a' := ?_) ?_ ?_
                rotate_left
                · show Act.put _ (some 27) _ = _
                  simp only [Act.put, List.setIfInBounds_toArray, List.set_cons_zero, List.set_cons_succ, i64_w, i32_w]
                  rfl
                refine pure_ (i := 11) (N := some 28) (v := ?_) (a' := ?_) #[true, true, true, true, true, true, true, true, true, true, true, true, false, false, false, false, false, false] rfl rfl (any_of HT_.out (by kernel_rfl)) (fun _ _ _ h => h) (Or.inl ⟨by rfl, ?_⟩) ?_ ?_
                rotate_left
                · intro w'
                  go_simp
                  with_reducible rfl
                rotate_left
                · simp only [Act.put, List.setIfInBounds_toArray, List.set_cons_zero, List.set_cons_succ, i64_w, i32_w]
                  rfl
                refine one_ (i := 12) (N := some 29) #[true, true, true, true, true, true, true, true, true, true, true, true, true, false, false, false, false, false] rfl rfl (one_of HT_.out (by kernel_rfl)) (by decide) (fun K hK => ?_)
                refine goes_ Try.func26 (by kernel_rfl) rfl #[.int .i64 (wrap64 (t170 * t171)), .int .i64 15] (by rfl) rfl rfl (by (try simp only [List.map_toArray, List.map_cons, List.map_nil]); first | done | rfl | (simp only [List.length_drop, List.length_take]; rfl)) ?_
                with_reducible refine (spinetref01_Round.calls k1 (wrap64 (t170 * t171)) 15 t172 _ A8.out).mono ?_
                rintro e w' ⟨rfl, ⟨nd, rfl⟩⟩
                refine ⟨_, rfl, ?_⟩
                refine hK.out _ _ (((HB.out.cell (World.block_lt_of_cell? w _ hw169_0)).trans hw169_0)) (fun hHeld => ?_)
                clear hK K
                refine norm_ (a' := ?_) ?_ ?_
                rotate_left
                · show Act.put _ (some 29) _ = _
                  simp only [Act.put, List.setIfInBounds_toArray, List.set_cons_zero, List.set_cons_succ, i64_w, i32_w]
                  rfl
                refine pure_ (i := 13) (N := some 30) (v := ?_) (a' := ?_) #[true, true, true, true, true, true, true, true, true, true, true, true, true, true, false, false, false, false] rfl rfl (any_of HT_.out (by kernel_rfl)) (fun _ _ _ h => h) (Or.inl ⟨by rfl, ?_⟩) ?_ ?_
                rotate_left
                · intro w'
                  go_simp
                  with_reducible rfl
                rotate_left
                · simp only [Act.put, List.setIfInBounds_toArray, List.set_cons_zero, List.set_cons_succ, i64_w, i32_w]
                  rfl
                refine one_ (i := 14) (N := some 31) #[true, true, true, true, true, true, true, true, true, true, true, true, true, true, true, false, false, false] rfl rfl (one_of HT_.out (by kernel_rfl)) (by decide) (fun K hK => ?_)
                refine goes_ Try.func25 (by kernel_rfl) rfl #[.int .i64 (wrap64 ((rd l1 x9_1) + t172)), .int .i64 24] (by rfl) rfl rfl (by (try simp only [List.map_toArray, List.map_cons, List.map_nil]); first | done | rfl | (simp only [List.length_drop, List.length_take]; rfl)) ?_
                with_reducible refine (spinetref01_Sat.calls k1 (wrap64 ((rd l1 x9_1) + t172)) 24 t173 _ A9.out).mono ?_
                rintro e w' ⟨rfl, ⟨nd, rfl⟩⟩
                refine ⟨_, rfl, ?_⟩
                refine hK.out _ _ (((HB.out.cell (World.block_lt_of_cell? w _ hw169_0)).trans hw169_0)) (fun hHeld => ?_)
                clear hK K
                refine norm_ (a' := ?_) ?_ ?_
                rotate_left
                · show Act.put _ (some 31) _ = _
                  simp only [Act.put, List.setIfInBounds_toArray, List.set_cons_zero, List.set_cons_succ, i64_w, i32_w]
                  rfl
                refine one_ (i := 15) (N := some 32) #[true, true, true, true, true, true, true, true, true, true, true, true, true, true, true, true, false, false] rfl rfl (one_of HT_.out (by kernel_rfl)) (by decide) (fun K hK => ?_)
                refine value_ (w1 := ?_) (v := ?_) (by rfl) rfl ?_ ?_
                rotate_left 2
                · go_simp
                  constructor
                  · rfl
                  · rfl
                refine hK.out _ _ ((World.cell?_alloc_lt _ _ _ (World.block_lt_of_cell? _ _ (((HB.out.cell (World.block_lt_of_cell? w _ hw169_0)).trans hw169_0)))).trans (((HB.out.cell (World.block_lt_of_cell? w _ hw169_0)).trans hw169_0))) (fun hHeld => ?_)
                clear hK K
                refine norm_ (a' := ?_) ?_ ?_
                rotate_left
                · show Act.put _ (some 32) _ = _
                  simp only [Act.put, List.setIfInBounds_toArray, List.set_cons_zero, List.set_cons_succ, i64_w, i32_w]
                  rfl
                refine one_ (i := 16) (N := some 33) #[true, true, true, true, true, true, true, true, true, true, true, true, true, true, true, true, true, false] rfl rfl (one_of HT_.out (by kernel_rfl)) (by decide) (fun K hK => ?_)
                refine Kd.R_append_step (Kd.int .i64) (w0 := w) w.heap.size (by rfl) (.tmp 17) (.tmp 32) 34 2 (.int .i64 0) 8 rfl Try.underlying34 info2 rfl (by decide) (by omega) u6 x6_1 t173 [.int .i64 t173] (fun k_ => some k_ ≠ (u7 : Value).ownBlock) (fun _ => False) rfl rfl ?aP (fun _ hk => hk.elim) ?aF ?aO ?aB ?aS ?aL ?_
                (case aP => exact rfl)
                (case aB => exact (by repeat (first | (with_reducible first | exact HB.out | apply below_alloc | apply pw_below_drewN | apply below_drew1) | exact HB.out)))
                (case aF => exact (fun k_ hk => Kd.fresh' (Kd.R_lt (by (with_reducible repeat (first | apply Kd.R_alloc | apply Kd.R_drewN | apply Kd.R_drew)); exact HO_7.out)) k_ hk))
                (case aO => exact (by (with_reducible repeat (first | apply Kd.R_alloc | apply Kd.R_drewN | apply Kd.R_drew)); exact HO_6.out))
                (case aS => exact (below_size (by repeat (first | (with_reducible first | exact HB.out | apply below_alloc | apply pw_below_drewN | apply below_drew1) | exact HB.out))))
                (case aL => have := LMc10.out; omega)
                intro v175 w17 ho hb hg hat
                rw [← Ny174.out] at ho
                have n0_ := Aside0.mk (Kd.R_after (ok := (fun _ => True)) (by (with_reducible repeat (first | apply Kd.R_alloc | apply Kd.R_drewN | apply Kd.R_drew)); exact Kd.R_mono HO_7.out (fun _ hk => ⟨trivial, hk⟩)) hg hat)
                have n1_ := Aside0.mk (hb)
                have n2_ := Aside0.mk (ho)
                clear HO_7
                clear HB
                clear HO_6
                have HO_7 := n0_
                have HB := n1_
                have HO176 := n2_
                clear n0_ n1_ n2_
                clear ho hb hg hat
                refine hK.out _ _ (((HB.out.cell (World.block_lt_of_cell? w _ hw169_0)).trans hw169_0)) (fun hHeld => ?_)
                clear hK K
                refine norm_ (a' := ?_) ?_ ?_
                rotate_left
                · show Act.put _ (some 33) _ = _
                  simp only [Act.put, List.setIfInBounds_toArray, List.set_cons_zero, List.set_cons_succ, i64_w, i32_w]
                  rfl
                refine pure_ (i := 17) (N := some 6) (v := ?_) (a' := ?_) #[true, true, true, true, true, true, true, true, true, true, true, true, true, true, true, true, true, true] rfl rfl (any_of HT_.out (by kernel_rfl)) (fun _ _ _ h => h) (Or.inl ⟨by rfl, ?_⟩) ?_ ?_
                rotate_left
                · intro w'
                  go_simp
                  with_reducible rfl
                rotate_left
                · simp only [Act.put, List.setIfInBounds_toArray, List.set_cons_zero, List.set_cons_succ, i64_w, i32_w]
                  rfl
                refine done_ (done_of HT_.out (by kernel_rfl)) ?_
                try go_wp2_with (first | ((with_reducible refine gate_callee (f := 27) rfl ?_); refine goesL_ (some 39) rfl rfl Try.func27 (by kernel_rfl) rfl #[.slice A0 l0.length c0, .int .i64 (wrap64 ((l0.length : Int) + x9_1))] rfl (by (try simp only [List.map_toArray, List.map_cons, List.map_nil]); first | done | rfl | (simp only [List.length_drop, List.length_take]; rfl)) ?_; (with_reducible refine (spinetref23_U.calls _ _ l0 (wrap64 ((l0.length : Int) + x9_1)) t177 _ ?side1 ?side2 A11.out).mono ?_); (case side1 => repeat (first | exact (Kd.C_below HR0.out HB.out) | (with_reducible refine Kd.C_alloc ?_ _) | (with_reducible refine Kd.C_drewN ?_ _) | (with_reducible refine Kd.C_drew ?_))); (case side2 => exact HC0.out); rintro e w' ⟨rfl, ⟨nd, rfl⟩⟩; refine ⟨_, rfl, ?_⟩) | ((with_reducible refine gate_callee (f := 9) rfl ?_); refine goesL_ (some 45) rfl rfl Try.func9 (by kernel_rfl) rfl #[.int .i64 (l0.length : Int), .int .i64 (wrap64 ((wrap64 ((l0.length : Int) - 1)) - x9_1))] rfl (by (try simp only [List.map_toArray, List.map_cons, List.map_nil]); first | done | rfl | (simp only [List.length_drop, List.length_take]; rfl)) ?_; (with_reducible refine (spinetref23_Window.calls k1 (l0.length : Int) (wrap64 ((wrap64 ((l0.length : Int) - 1)) - x9_1)) t178 _ A12.out).mono ?_); rintro e w' ⟨rfl, ⟨nd, rfl⟩⟩; refine ⟨_, rfl, ?_⟩) | ((with_reducible refine gate_callee (f := 26) rfl ?_); refine goesL_ (some 47) rfl rfl Try.func26 (by kernel_rfl) rfl #[.int .i64 (wrap64 (t177 * t178)), .int .i64 15] rfl (by (try simp only [List.map_toArray, List.map_cons, List.map_nil]); first | done | rfl | (simp only [List.length_drop, List.length_take]; rfl)) ?_; (with_reducible refine (spinetref01_Round.calls k1 (wrap64 (t177 * t178)) 15 t179 _ A13.out).mono ?_); rintro e w' ⟨rfl, ⟨nd, rfl⟩⟩; refine ⟨_, rfl, ?_⟩) | ((with_reducible refine gate_callee (f := 25) rfl ?_); refine goesL_ (some 48) rfl rfl Try.func25 (by kernel_rfl) rfl #[.int .i64 t179, .int .i64 32] rfl (by (try simp only [List.map_toArray, List.map_cons, List.map_nil]); first | done | rfl | (simp only [List.length_drop, List.length_take]; rfl)) ?_; (with_reducible refine (spinetref01_Sat.calls k1 t179 32 t180 _ A14.out).mono ?_); rintro e w' ⟨rfl, ⟨nd, rfl⟩⟩; refine ⟨_, rfl, ?_⟩) | ((with_reducible refine gate_builtin (b := .append) (xs := #[.tmp 34, .tmp 49]) rfl ?_); at_builtin; refine Kd.R_append (Kd.int .i64) (w0 := w) w.heap.size rfl (.tmp 34) (.tmp 49) 34 2 (.int .i64 0) 8 rfl Try.underlying34 info2 rfl (by decide) (by omega) u7 x7_1 t180 [.int .i64 t180] (fun k_ => some k_ ≠ (v175 : Value).ownBlock) (fun _ => False) rfl rfl ?aP (fun _ hk => hk.elim) ?aF ?aO ?aB ?aS ?aL ?_; (case aP => exact rfl); (case aB => exact (by repeat (first | (with_reducible first | exact HB.out | apply below_alloc | apply pw_below_drewN | apply below_drew1) | exact HB.out))); (case aF => exact (fun k_ hk => Kd.fresh' (Kd.R_lt (by (with_reducible repeat (first | apply Kd.R_alloc | apply Kd.R_drewN | apply Kd.R_drew)); exact HO176.out)) k_ hk)); (case aO => exact (by (with_reducible repeat (first | apply Kd.R_alloc | apply Kd.R_drewN | apply Kd.R_drew)); exact Kd.R_mono HO_7.out (fun _ hk => hk.2))); (case aS => exact (below_size (by repeat (first | (with_reducible first | exact HB.out | apply below_alloc | apply pw_below_drewN | apply below_drew1) | exact HB.out)))); (case aL => have := LMc15.out; omega); intro v182 w18 ho hb hg hat; rw [← Ny181.out] at ho; have n0_ := Aside0.mk (Kd.R_after (ok := (fun _ => True)) (by (with_reducible repeat (first | apply Kd.R_alloc | apply Kd.R_drewN | apply Kd.R_drew)); exact Kd.R_mono HO176.out (fun _ hk => ⟨trivial, hk⟩)) hg hat); have n1_ := Aside0.mk (hb); have n2_ := Aside0.mk (ho); clear HO176; clear HB; clear HO_7; have HO176 := n0_; have HB := n1_; have HO183 := n2_; clear n0_ n1_ n2_; clear ho hb hg hat))
                go_roundg k1
                case measure => have := HK1.out; omega
                case rel => exact ⟨(y174), (y181), (wrap64 (x9_1 + 1)), (by first | rfl | (simp; done) | (simp [*]; done)), H', ⟨by have := HK1.out; omega⟩, ⟨by (with_reducible repeat (first | apply Kd.R_alloc | apply Kd.R_drewN | apply Kd.R_drew)); exact Kd.R_mono HO176.out (fun _ hk => hk.2)⟩, ⟨by (with_reducible repeat (first | apply Kd.R_alloc | apply Kd.R_drewN | apply Kd.R_drew)); exact HO183.out⟩, ⟨by repeat (first | (with_reducible first | exact HB.out | apply below_alloc | apply pw_below_drewN | apply below_drew1) | exact HB.out)⟩⟩
              · rw [if_neg c15] at H
                exact absurd H (by simp)
            · rw [if_neg c10] at H
              exact absurd H (by simp)
          · rw [if_neg c5] at H
            exact absurd H (by simp)
        · rw [if_neg c4] at H
          exact absurd H (by simp)
      · rw [if_neg c3] at H
        have c3b0 : decide (x9_1 < (l0.length : Int)) = false := decide_eq_false c3
        clear c3
        simp only [Option.some.injEq, Prod.mk.injEq] at H
        obtain ⟨rfl, rfl⟩ := H
        go_wp2
        go_ret2
        exact ⟨_, _, by first | rfl | (simp [errW_none, errW_some] <;> rfl) | (simp [*, errW_none, errW_some] <;> rfl), by (with_reducible repeat (first | apply Kd.R_alloc | apply Kd.R_drewN | apply Kd.R_drew)); exact HO_6.out, by (with_reducible repeat (first | apply Kd.R_alloc | apply Kd.R_drewN | apply Kd.R_drew)); exact HO_7.out, by repeat (first | (with_reducible first | exact HB.out | apply below_alloc | apply pw_below_drewN | apply below_drew1) | exact HB.out)⟩

-- NOT PRINTED: function 5 (spinetlaw23_LapTells)

end Go.Proofs.Ytkbcolikbaaejaa.OLapTells
