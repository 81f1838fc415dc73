import Derived.Test.YtiejkgapifpchaaORootWithinx0
import Derived.Test.YtiejkgapifpchaaORootWithinx1
namespace Go.Proofs.Ytiejkgapifpchaa.ORootWithin
open Go.RowKit Go.Proofs.YtiejkgapifpchaaW.PrintWords Go.Proofs.YtiejkgapifpchaaW.PrintLast Go.Proofs.YtiejkgapifpchaaW.PrintMore
attribute [local go_sem] max2_int min2_int max_two min_two max_three min_three max_four min_four   -- for this text's walks alone
set_option linter.unusedVariables false
set_option linter.unusedSimpArgs false

/-! ### spinetlaw03_RootWithin: function 8 -/
mutual
def spinetlaw03_RootWithin.j0 : Nat → List Int → Int → Bool → Option (Bool)
  | 0, _, _, _ => none
  | k + 1, x0, x1, x20 => if x20 = true then (some true) else (spinetlaw03_RootWithin.l0 k x0 x1 x0 (x0.length : Int) 0)
def spinetlaw03_RootWithin.l0 : Nat → List Int → Int → List Int → Int → Int → Option (Bool)
  | 0, _, _, _, _, _ => none
  | k + 1, x0, x1, x21, x22, x23 => if x23 < x22 then (if 0 ≤ x23 then (if x23 < (x21.length : Int) then (if (rd x21 x23) > 1048576 then (some true) else (if (rd x21 x23) < (-1048576) then (some true) else (spinetlaw03_RootWithin.l0 k x0 x1 x21 x22 (wrap64 (x23 + 1))))) else (none)) else (none)) else ((root_Length.f k x0).bind fun t114 => (spinetlaw03_RootWithin.l1 k (wrap64 (t114)) (wrap64 (x1)) x0 (x0.length : Int) 0))
def spinetlaw03_RootWithin.l1 : Nat → Int → Int → List Int → Int → Int → Option (Bool)
  | 0, _, _, _, _, _ => none
  | k + 1, x7, x8, x39, x40, x41 => if x41 < x40 then (if 0 ≤ x41 then (if x41 < (x39.length : Int) then ((root_Part.f (rd x39 x41) x8 (IntKind.u64.wrap (x7))).bind fun t116 => (if (wrap64 (rd x39 x41)) > x7 then (some false) else (if (wrap64 (wrap32 (-(rd x39 x41)))) > x7 then (some false) else (if t116 > x8 then (some false) else (if t116 < (wrap64 (-x8)) then (some false) else (if x7 = 0 then (if t116 = 0 then (spinetlaw03_RootWithin.l1 k x7 x8 x39 x40 (wrap64 (x41 + 1))) else (some false)) else (spinetlaw03_RootWithin.l1 k x7 x8 x39 x40 (wrap64 (x41 + 1))))))))) else (none)) else (none)) else (some true)
end
def spinetlaw03_RootWithin.f (k : Nat) (l0 : List Int) (a1 : Int) : Option (Bool) := (spinetlaw03_awake.f k).bind fun t112 => (if t112 = true then (if (l0.length : Int) > 60 then (spinetlaw03_RootWithin.j0 k l0 a1 true) else (spinetlaw03_RootWithin.j0 k l0 a1 (decide (a1 > 1048576)))) else (some false))
theorem spinetlaw03_RootWithin.mono_l : ∀ k, (∀ y0 y1 y2, LeO (spinetlaw03_RootWithin.j0 k y0 y1 y2) (spinetlaw03_RootWithin.j0 (k + 1) y0 y1 y2)) ∧ (∀ y0 y1 y2 y3 y4, LeO (spinetlaw03_RootWithin.l0 k y0 y1 y2 y3 y4) (spinetlaw03_RootWithin.l0 (k + 1) y0 y1 y2 y3 y4)) ∧ (∀ y0 y1 y2 y3 y4, LeO (spinetlaw03_RootWithin.l1 k y0 y1 y2 y3 y4) (spinetlaw03_RootWithin.l1 (k + 1) y0 y1 y2 y3 y4))
  | 0 => ⟨fun _ _ _ r h => by simp [spinetlaw03_RootWithin.j0] at h, fun _ _ _ _ _ r h => by simp [spinetlaw03_RootWithin.l0] at h, fun _ _ _ _ _ r h => by simp [spinetlaw03_RootWithin.l1] at h⟩
  | k + 1 => by
    obtain ⟨ih0, ih1, ih2⟩ := spinetlaw03_RootWithin.mono_l k
    refine ⟨?_, ?_, ?_⟩
    · intro y0 y1 y2
      unfold spinetlaw03_RootWithin.j0
      repeat' first
      | (with_reducible exact ih0 _ _ _)
      | (with_reducible exact ih1 _ _ _ _ _)
      | (with_reducible exact ih2 _ _ _ _ _)
      | (with_reducible exact root_Length.mono _ _)
      | (with_reducible exact spinetlaw03_awake.mono _)
      | (with_reducible exact LeO.refl _)
      | (with_reducible exact LeO.none _)
      | (with_reducible refine LeO.ite ?_ ?_)
      | (with_reducible refine LeO.bind ?_ (fun _ => ?_))
      | exact ih0 _ _ _
      | exact ih1 _ _ _ _ _
      | exact ih2 _ _ _ _ _
      | exact root_Length.mono _ _
      | exact spinetlaw03_awake.mono _
      | exact LeO.none _
      | refine LeO.ite ?_ ?_
      | refine LeO.bind ?_ (fun _ => ?_)
    · intro y0 y1 y2 y3 y4
      unfold spinetlaw03_RootWithin.l0
      repeat' first
      | (with_reducible exact ih0 _ _ _)
      | (with_reducible exact ih1 _ _ _ _ _)
      | (with_reducible exact ih2 _ _ _ _ _)
      | (with_reducible exact root_Length.mono _ _)
      | (with_reducible exact spinetlaw03_awake.mono _)
      | (with_reducible exact LeO.refl _)
      | (with_reducible exact LeO.none _)
      | (with_reducible refine LeO.ite ?_ ?_)
      | (with_reducible refine LeO.bind ?_ (fun _ => ?_))
      | exact ih0 _ _ _
      | exact ih1 _ _ _ _ _
      | exact ih2 _ _ _ _ _
      | exact root_Length.mono _ _
      | exact spinetlaw03_awake.mono _
      | exact LeO.none _
      | refine LeO.ite ?_ ?_
      | refine LeO.bind ?_ (fun _ => ?_)
    · intro y0 y1 y2 y3 y4
      unfold spinetlaw03_RootWithin.l1
      repeat' first
      | (with_reducible exact ih0 _ _ _)
      | (with_reducible exact ih1 _ _ _ _ _)
      | (with_reducible exact ih2 _ _ _ _ _)
      | (with_reducible exact root_Length.mono _ _)
      | (with_reducible exact spinetlaw03_awake.mono _)
      | (with_reducible exact LeO.refl _)
      | (with_reducible exact LeO.none _)
      | (with_reducible refine LeO.ite ?_ ?_)
      | (with_reducible refine LeO.bind ?_ (fun _ => ?_))
      | exact ih0 _ _ _
      | exact ih1 _ _ _ _ _
      | exact ih2 _ _ _ _ _
      | exact root_Length.mono _ _
      | exact spinetlaw03_awake.mono _
      | exact LeO.none _
      | refine LeO.ite ?_ ?_
      | refine LeO.bind ?_ (fun _ => ?_)
theorem spinetlaw03_RootWithin.mono : ∀ a0 a1 k, LeO (spinetlaw03_RootWithin.f k a0 a1) (spinetlaw03_RootWithin.f (k + 1) a0 a1) := by
  intro a0 a1 k
  obtain ⟨ih0, ih1, ih2⟩ := spinetlaw03_RootWithin.mono_l k
  unfold spinetlaw03_RootWithin.f
  repeat' first
      | (with_reducible exact ih0 _ _ _)
      | (with_reducible exact ih1 _ _ _ _ _)
      | (with_reducible exact ih2 _ _ _ _ _)
      | (with_reducible exact root_Length.mono _ _)
      | (with_reducible exact spinetlaw03_awake.mono _)
      | (with_reducible exact LeO.refl _)
      | (with_reducible exact LeO.none _)
      | (with_reducible refine LeO.ite ?_ ?_)
      | (with_reducible refine LeO.bind ?_ (fun _ => ?_))
      | exact ih0 _ _ _
      | exact ih1 _ _ _ _ _
      | exact ih2 _ _ _ _ _
      | exact root_Length.mono _ _
      | exact spinetlaw03_awake.mono _
      | exact LeO.none _
      | refine LeO.ite ?_ ?_
      | refine LeO.bind ?_ (fun _ => ?_)
set_option maxHeartbeats 8000000 in
set_option maxRecDepth 100000 in
theorem spinetlaw03_RootWithin.calls (k : Nat) (A0 : Option Addr) (c0 : Nat) (l0 : List Int) (a1 : Int) (r : Bool) (w : World) (hr0 : Kd.C (Kd.int .i32) w A0 l0.length l0) (hc0 : l0.length ≤ c0) (h : spinetlaw03_RootWithin.f k l0 a1 = some r) :
    Calls Try.prog 8 #[.slice A0 l0.length c0, .int .u32 a1] w fun e w' => e = .returned (.bool r) ∧ Below w.heap.size w w' := by
  have HR0 := Aside0.mk hr0
  have HC0 := Aside0.mk hc0
  clear hr0 hc0
  have HB := Aside0.mk (Below.refl w.heap.size w)
  have H : ((spinetlaw03_awake.f k).bind fun t112 => (if t112 = true then (if (l0.length : Int) > 60 then (spinetlaw03_RootWithin.j0 k l0 a1 true) else (spinetlaw03_RootWithin.j0 k l0 a1 (decide (a1 > 1048576)))) else (some false))) = some r := h
  clear h
  replace H := Option.bind_eq_some_iff.mp H
  obtain ⟨t112, A30, H⟩ := H
  replace H : (if t112 = true then (if (l0.length : Int) > 60 then (spinetlaw03_RootWithin.j0 k l0 a1 true) else (spinetlaw03_RootWithin.j0 k l0 a1 (decide (a1 > 1048576)))) else (some false)) = some r := H
  have A3 := Aside0.mk A30
  clear A30
  by_cases c4 : t112 = true
  · subst c4
    have H1 : (if (l0.length : Int) > 60 then (spinetlaw03_RootWithin.j0 k l0 a1 true) else (spinetlaw03_RootWithin.j0 k l0 a1 (decide (a1 > 1048576)))) = some r := by rw [if_pos rfl] at H; exact H
    clear H
    have H := H1
    clear H1
    have HC5 := Aside0.mk H
    clear H
    go_enter Try.func8, Try.ntmps8
    go_upto_region 3 with (first | ((with_reducible refine gate_callee (f := 9) rfl ?_); refine goesL_ (some 12) rfl rfl Try.func9 (by kernel_rfl) rfl #[] rfl (by (try simp only [List.map_toArray, List.map_cons, List.map_nil]); first | done | rfl | (simp only [List.length_drop, List.length_take]; rfl)) ?_; (with_reducible refine (spinetlaw03_awake.calls k  true _ A3.out).mono ?_); rintro e w6 ⟨rfl, hb⟩; refine ⟨_, rfl, ?_⟩; have n0_ := Aside0.mk (below_step (by repeat (first | (with_reducible first | exact HB.out | apply below_alloc | apply pw_below_drewN | apply below_drew1) | exact HB.out)) hb); clear HB; have HB := n0_; clear n0_; (try clear hb); (try clear hb2); (try clear hk); (try clear hi)))
    (try simp only [Act.put, List.setIfInBounds_toArray, List.set_cons_zero, List.set_cons_succ])
    go_cut [20] (fun v20 wc => ∃ (kq : Nat) (x20_4 : Bool), v20 = .bool x20_4 ∧ Aside0 (spinetlaw03_RootWithin.j0 kq l0 a1 x20_4 = some r) ∧ Aside0 (kq ≤ k) ∧ Aside0 (Below w.heap.size w wc))
    case first =>
      have H := HC5.out
      clear HC5
      by_cases c7 : (l0.length : Int) > 60
      · rw [if_pos c7] at H
        have c7b0 : decide (60 < (l0.length : Int)) = true := decide_eq_true c7
        have c7b1 : decide (60 < l0.length) = true := decide_eq_true (by omega)
        clear c7
        (first | rw [c7b0] | (simp only [i64_w, i32_w]; rw [c7b0]) | skip)
        have H' := Aside0.mk H
        clear H
        go_wp2
        go_meet
        case rel => exact ⟨_, (true), (by first | rfl | (simp; done) | (simp [*]; done)), H', ⟨by first | omega | exact Nat.le_refl _⟩, ⟨by repeat (first | (with_reducible first | exact HB.out | apply below_alloc | apply pw_below_drewN | apply below_drew1) | exact HB.out)⟩⟩
      · rw [if_neg c7] at H
        have c7b0 : decide (60 < (l0.length : Int)) = false := decide_eq_false c7
        have c7b1 : decide (60 < l0.length) = false := decide_eq_false (by omega)
        clear c7
        (first | rw [c7b0] | (simp only [i64_w, i32_w]; rw [c7b0]) | skip)
        have H' := Aside0.mk H
        clear H
        go_wp2
        go_meet
        case rel => exact ⟨_, (decide (a1 > 1048576)), (by first | rfl | (simp; done) | (simp [*]; done)), H', ⟨by first | omega | exact Nat.le_refl _⟩, ⟨by repeat (first | (with_reducible first | exact HB.out | apply below_alloc | apply pw_below_drewN | apply below_drew1) | exact HB.out)⟩⟩
    case rest =>
      clear HC5
      try clear p2
      try clear c4
      try clear c7
      try clear c7b0
      try clear c7b1
      obtain ⟨kq, x20_4, rfl, HA, HJ4, HB⟩ := hcut
      cases kq with
      | zero => exact absurd HA.out (by simp [spinetlaw03_RootWithin.j0])
      | succ kj4 =>
        have H := HA.out
        clear HA
        simp only [spinetlaw03_RootWithin.j0] at H
        by_cases c8 : x20_4 = true
        · subst c8
          have H1 : (some true) = some r := by rw [if_pos rfl] at H; exact H
          clear H
          have H := H1
          clear H1
          obtain rfl := Option.some.inj H
          go_wp2
          go_ret
          exact ⟨by first | rfl | (simp [errW_none, errW_some] <;> rfl) | (simp [*, errW_none, errW_some] <;> rfl), by repeat (first | (with_reducible first | exact HB.out | apply below_alloc | apply pw_below_drewN | apply below_drew1) | exact HB.out)⟩
        · replace c8 := Bool.eq_false_iff.mpr c8
          subst c8
          have H1 : (spinetlaw03_RootWithin.l0 kj4 l0 a1 l0 (l0.length : Int) 0) = some r := by rw [if_neg (show ¬ (false = true) by decide)] at H; exact H
          clear H
          have H := H1
          clear H1
          have H' := Aside0.mk H
          clear H
          go_wp2
          go_loopg [23] kj4 (fun kq v23 w' => ∃ (x23_2 : Int), v23 = .int .i64 x23_2 ∧ Aside0 (spinetlaw03_RootWithin.l0 kq l0 a1 l0 (l0.length : Int) x23_2 = some r) ∧ Aside0 (kq ≤ kj4) ∧ Aside0 (Below w.heap.size w w'))
          case atStart => exact ⟨(0), (by first | rfl | (simp; done) | (simp [*]; done)), H', ⟨Nat.le_refl _⟩, ⟨by repeat (first | (with_reducible first | exact HB.out | apply below_alloc | apply pw_below_drewN | apply below_drew1) | exact HB.out)⟩⟩
          case round =>
            clear H'
            try clear p2
            try clear c4
            try clear c7
            try clear c7b0
            try clear c7b1
            try clear c8
            try clear p2
            obtain ⟨x23_2, rfl, HA, HK2, HB⟩ := hrel
            cases gk with
            | zero => exact absurd HA.out (by simp [spinetlaw03_RootWithin.l0])
            | succ k2 =>
              have H := HA.out
              clear HA
              simp only [spinetlaw03_RootWithin.l0] at H
              by_cases c9 : x23_2 < (l0.length : Int)
              · rw [if_pos c9] at H
                have c9b0 : decide (x23_2 < (l0.length : Int)) = true := decide_eq_true c9
                clear c9
                by_cases c10 : 0 ≤ x23_2
                · rw [if_pos c10] at H
                  have c10b0 : decide (0 ≤ x23_2) = true := decide_eq_true c10
                  clear c10
                  by_cases c11 : x23_2 < (l0.length : Int)
                  · rw [if_pos c11] at H
                    have c11b0 : decide (x23_2 < (l0.length : Int)) = true := decide_eq_true c11
                    clear c11
                    by_cases c12 : (rd l0 x23_2) > 1048576
                    · rw [if_pos c12] at H
                      have c12b0 : decide (1048576 < (rd l0 x23_2)) = true := decide_eq_true c12
                      clear c12
                      obtain rfl := Option.some.inj H
                      have p113 : 0 ≤ (x23_2 : Int) := of_decide_eq_true (by first | (with_reducible assumption) | assumption)
                      have q113 : x23_2 < (l0.length : Int) := of_decide_eq_true (by first | (with_reducible assumption) | assumption)
                      obtain ⟨ad113, e113, hx113_0⟩ := Kd.at_int HR0.out x23_2 p113 q113
                      cases e113
                      replace hx113_0 := (HB.out.cell (World.block_lt_of_cell? w _ hx113_0)).trans hx113_0
                      replace p113 := eq_true p113
                      replace q113 := eq_true q113
                      go_wp2
                      go_ret
                      exact ⟨by first | rfl | (simp [errW_none, errW_some] <;> rfl) | (simp [*, errW_none, errW_some] <;> rfl), by repeat (first | (with_reducible first | exact HB.out | apply below_alloc | apply pw_below_drewN | apply below_drew1) | exact HB.out)⟩
                    · rw [if_neg c12] at H
                      have c12b0 : decide (1048576 < (rd l0 x23_2)) = false := decide_eq_false c12
                      clear c12
                      by_cases c13 : (rd l0 x23_2) < (-1048576)
                      · rw [if_pos c13] at H
                        have c13b0 : decide ((rd l0 x23_2) < (-1048576)) = true := decide_eq_true c13
                        clear c13
                        obtain rfl := Option.some.inj H
                        have p113 : 0 ≤ (x23_2 : Int) := of_decide_eq_true (by first | (with_reducible assumption) | assumption)
                        have q113 : x23_2 < (l0.length : Int) := of_decide_eq_true (by first | (with_reducible assumption) | assumption)
                        obtain ⟨ad113, e113, hx113_0⟩ := Kd.at_int HR0.out x23_2 p113 q113
                        cases e113
                        replace hx113_0 := (HB.out.cell (World.block_lt_of_cell? w _ hx113_0)).trans hx113_0
                        replace p113 := eq_true p113
                        replace q113 := eq_true q113
                        go_wp2
                        go_ret
                        exact ⟨by first | rfl | (simp [errW_none, errW_some] <;> rfl) | (simp [*, errW_none, errW_some] <;> rfl), by repeat (first | (with_reducible first | exact HB.out | apply below_alloc | apply pw_below_drewN | apply below_drew1) | exact HB.out)⟩
                      · rw [if_neg c13] at H
                        have c13b0 : decide ((rd l0 x23_2) < (-1048576)) = false := decide_eq_false c13
                        clear c13
                        have H' := Aside0.mk H
                        clear H
                        have p113 : 0 ≤ (x23_2 : Int) := of_decide_eq_true (by first | (with_reducible assumption) | assumption)
                        have q113 : x23_2 < (l0.length : Int) := of_decide_eq_true (by first | (with_reducible assumption) | assumption)
                        obtain ⟨ad113, e113, hx113_0⟩ := Kd.at_int HR0.out x23_2 p113 q113
                        cases e113
                        replace hx113_0 := (HB.out.cell (World.block_lt_of_cell? w _ hx113_0)).trans hx113_0
                        replace p113 := eq_true p113
                        replace q113 := eq_true q113
                        go_wp2
                        go_roundg k2
                        case measure => have := HJ4.out; have := HK2.out; omega
                        case rel => exact ⟨(wrap64 (x23_2 + 1)), (by first | rfl | (simp; done) | (simp [*]; done)), H', ⟨by have := HJ4.out; have := HK2.out; omega⟩, ⟨by repeat (first | (with_reducible first | exact HB.out | apply below_alloc | apply pw_below_drewN | apply below_drew1) | exact HB.out)⟩⟩
                  · rw [if_neg c11] at H
                    exact absurd H (by simp)
                · rw [if_neg c10] at H
                  exact absurd H (by simp)
              · rw [if_neg c9] at H
                have c9b0 : decide (x23_2 < (l0.length : Int)) = false := decide_eq_false c9
                clear c9
                replace H := Option.bind_eq_some_iff.mp H
                obtain ⟨t114, A140, H⟩ := H
                replace H : (spinetlaw03_RootWithin.l1 k2 (wrap64 (t114)) (wrap64 (a1)) l0 (l0.length : Int) 0) = some r := H
                have A14 := Aside0.mk A140
                clear A140
                have H' := Aside0.mk H
                clear H
                go_wp2_with (first | ((with_reducible refine gate_callee (f := 14) rfl ?_); refine goesL_ (some 35) rfl rfl Try.func14 (by kernel_rfl) rfl #[.slice A0 l0.length c0] rfl (by (try simp only [List.map_toArray, List.map_cons, List.map_nil]); first | done | rfl | (simp only [List.length_drop, List.length_take]; rfl)) ?_; (with_reducible refine (root_Length.calls k2 _ _ l0 t114 _ ?side1 ?side2 A14.out).mono ?_); (case side1 => repeat (first | exact (Kd.C_below HR0.out HB.out) | (with_reducible refine Kd.C_alloc ?_ _) | (with_reducible refine Kd.C_drewN ?_ _) | (with_reducible refine Kd.C_drew ?_))); (case side2 => exact HC0.out); rintro e w15 ⟨rfl, hb⟩; refine ⟨_, rfl, ?_⟩; have n0_ := Aside0.mk (below_step (by repeat (first | (with_reducible first | exact HB.out | apply below_alloc | apply pw_below_drewN | apply below_drew1) | exact HB.out)) hb); clear HB; have HB := n0_; clear n0_; (try clear hb); (try clear hb2); (try clear hk); (try clear hi)))
                go_loopg [41] k2 (fun kq v41 w' => ∃ (x41_3 : Int), v41 = .int .i64 x41_3 ∧ Aside0 (spinetlaw03_RootWithin.l1 kq (wrap64 (t114)) (wrap64 (a1)) l0 (l0.length : Int) x41_3 = some r) ∧ Aside0 (kq ≤ k2) ∧ Aside0 (Below w.heap.size w w'))
                case atStart => exact ⟨(0), (by first | rfl | (simp; done) | (simp [*]; done)), H', ⟨Nat.le_refl _⟩, ⟨by repeat (first | (with_reducible first | exact HB.out | apply below_alloc | apply pw_below_drewN | apply below_drew1) | exact HB.out)⟩⟩
                case round =>
                  clear H'
                  try clear c1
                  try clear p1
                  try clear q1
                  try clear hx1
                  try clear p2
                  try clear c4
                  try clear p6
                  try clear c7
                  try clear c7b0
                  try clear c7b1
                  try clear c8
                  try clear c9
                  try clear c9b0
                  try clear c10
                  try clear c10b0
                  try clear c11
                  try clear c11b0
                  try clear p11
                  try clear q11
                  try clear hx11
                  try clear c12
                  try clear c12b0
                  try clear c13
                  try clear c13b0
                  try clear c14
                  try clear hx113_0
                  try clear p113
                  try clear p2
                  try clear q113
                  obtain ⟨x41_3, rfl, HA, HK3, HB⟩ := hrel
                  cases gk with
                  | zero => exact absurd HA.out (by simp [spinetlaw03_RootWithin.l1])
                  | succ k3 =>
                    have H := HA.out
                    clear HA
                    simp only [spinetlaw03_RootWithin.l1] at H
                    by_cases c16 : x41_3 < (l0.length : Int)
                    · rw [if_pos c16] at H
                      have c16b0 : decide (x41_3 < (l0.length : Int)) = true := decide_eq_true c16
                      clear c16
                      by_cases c17 : 0 ≤ x41_3
                      · rw [if_pos c17] at H
                        have c17b0 : decide (0 ≤ x41_3) = true := decide_eq_true c17
                        clear c17
                        by_cases c18 : x41_3 < (l0.length : Int)
                        · rw [if_pos c18] at H
                          have c18b0 : decide (x41_3 < (l0.length : Int)) = true := decide_eq_true c18
                          clear c18
                          replace H := Option.bind_eq_some_iff.mp H
                          obtain ⟨t116, A190, H⟩ := H
                          replace H : (if (wrap64 (rd l0 x41_3)) > (wrap64 (t114)) then (some false) else (if (wrap64 (wrap32 (-(rd l0 x41_3)))) > (wrap64 (t114)) then (some false) else (if t116 > (wrap64 (a1)) then (some false) else (if t116 < (wrap64 (-(wrap64 (a1)))) then (some false) else (if (wrap64 (t114)) = 0 then (if t116 = 0 then (spinetlaw03_RootWithin.l1 k3 (wrap64 (t114)) (wrap64 (a1)) l0 (l0.length : Int) (wrap64 (x41_3 + 1))) else (some false)) else (spinetlaw03_RootWithin.l1 k3 (wrap64 (t114)) (wrap64 (a1)) l0 (l0.length : Int) (wrap64 (x41_3 + 1)))))))) = some r := H
                          have A19 := Aside0.mk A190
                          clear A190
                          by_cases c20 : (wrap64 (rd l0 x41_3)) > (wrap64 (t114))
                          · rw [if_pos c20] at H
                            have c20b0 : decide ((wrap64 (t114)) < (wrap64 (rd l0 x41_3))) = true := decide_eq_true c20
                            clear c20
                            obtain rfl := Option.some.inj H
                            have p115 : 0 ≤ (x41_3 : Int) := of_decide_eq_true (by first | (with_reducible assumption) | assumption)
                            have q115 : x41_3 < (l0.length : Int) := of_decide_eq_true (by first | (with_reducible assumption) | assumption)
                            obtain ⟨ad115, e115, hx115_0⟩ := Kd.at_int HR0.out x41_3 p115 q115
                            cases e115
                            replace hx115_0 := (HB.out.cell (World.block_lt_of_cell? w _ hx115_0)).trans hx115_0
                            replace p115 := eq_true p115
                            replace q115 := eq_true q115
                            go_wp2_with (first | ((with_reducible refine gate_callee (f := 15) rfl ?_); refine goesL_ (some 49) rfl rfl Try.func15 (by kernel_rfl) rfl #[.int .i32 (rd l0 x41_3), .int .i64 (wrap64 (a1)), .int .u64 (IntKind.u64.wrap ((wrap64 (t114))))] rfl (by (try simp only [List.map_toArray, List.map_cons, List.map_nil]); first | done | rfl | (simp only [List.length_drop, List.length_take]; rfl)) ?_; (with_reducible refine (root_Part.calls (rd l0 x41_3) (wrap64 (a1)) (IntKind.u64.wrap ((wrap64 (t114)))) t116 _ A19.out).mono ?_); rintro e w21 ⟨rfl, hb⟩; refine ⟨_, rfl, ?_⟩; have n0_ := Aside0.mk (below_step (by repeat (first | (with_reducible first | exact HB.out | apply below_alloc | apply pw_below_drewN | apply below_drew1) | exact HB.out)) hb); clear HB; have HB := n0_; clear n0_; (try clear hb); (try clear hb2); (try clear hk); (try clear hi)))
                            go_ret
                            exact ⟨by first | rfl | (simp [errW_none, errW_some] <;> rfl) | (simp [*, errW_none, errW_some] <;> rfl), by repeat (first | (with_reducible first | exact HB.out | apply below_alloc | apply pw_below_drewN | apply below_drew1) | exact HB.out)⟩
                          · rw [if_neg c20] at H
                            have c20b0 : decide ((wrap64 (t114)) < (wrap64 (rd l0 x41_3))) = false := decide_eq_false c20
                            clear c20
                            by_cases c22 : (wrap64 (wrap32 (-(rd l0 x41_3)))) > (wrap64 (t114))
                            · rw [if_pos c22] at H
                              have c22b0 : decide ((wrap64 (t114)) < (wrap64 (wrap32 (-(rd l0 x41_3))))) = true := decide_eq_true c22
                              clear c22
                              obtain rfl := Option.some.inj H
                              have p115 : 0 ≤ (x41_3 : Int) := of_decide_eq_true (by first | (with_reducible assumption) | assumption)
                              have q115 : x41_3 < (l0.length : Int) := of_decide_eq_true (by first | (with_reducible assumption) | assumption)
                              obtain ⟨ad115, e115, hx115_0⟩ := Kd.at_int HR0.out x41_3 p115 q115
                              cases e115
                              replace hx115_0 := (HB.out.cell (World.block_lt_of_cell? w _ hx115_0)).trans hx115_0
                              replace p115 := eq_true p115
                              replace q115 := eq_true q115
                              go_wp2_with (first | ((with_reducible refine gate_callee (f := 15) rfl ?_); refine goesL_ (some 49) rfl rfl Try.func15 (by kernel_rfl) rfl #[.int .i32 (rd l0 x41_3), .int .i64 (wrap64 (a1)), .int .u64 (IntKind.u64.wrap ((wrap64 (t114))))] rfl (by (try simp only [List.map_toArray, List.map_cons, List.map_nil]); first | done | rfl | (simp only [List.length_drop, List.length_take]; rfl)) ?_; (with_reducible refine (root_Part.calls (rd l0 x41_3) (wrap64 (a1)) (IntKind.u64.wrap ((wrap64 (t114)))) t116 _ A19.out).mono ?_); rintro e w23 ⟨rfl, hb⟩; refine ⟨_, rfl, ?_⟩; have n0_ := Aside0.mk (below_step (by repeat (first | (with_reducible first | exact HB.out | apply below_alloc | apply pw_below_drewN | apply below_drew1) | exact HB.out)) hb); clear HB; have HB := n0_; clear n0_; (try clear hb); (try clear hb2); (try clear hk); (try clear hi)))
                              go_ret
                              exact ⟨by first | rfl | (simp [errW_none, errW_some] <;> rfl) | (simp [*, errW_none, errW_some] <;> rfl), by repeat (first | (with_reducible first | exact HB.out | apply below_alloc | apply pw_below_drewN | apply below_drew1) | exact HB.out)⟩
                            · rw [if_neg c22] at H
                              have c22b0 : decide ((wrap64 (t114)) < (wrap64 (wrap32 (-(rd l0 x41_3))))) = false := decide_eq_false c22
                              clear c22
                              by_cases c24 : t116 > (wrap64 (a1))
                              · rw [if_pos c24] at H
                                have c24b0 : decide ((wrap64 (a1)) < t116) = true := decide_eq_true c24
                                clear c24
                                obtain rfl := Option.some.inj H
                                have p115 : 0 ≤ (x41_3 : Int) := of_decide_eq_true (by first | (with_reducible assumption) | assumption)
                                have q115 : x41_3 < (l0.length : Int) := of_decide_eq_true (by first | (with_reducible assumption) | assumption)
                                obtain ⟨ad115, e115, hx115_0⟩ := Kd.at_int HR0.out x41_3 p115 q115
                                cases e115
                                replace hx115_0 := (HB.out.cell (World.block_lt_of_cell? w _ hx115_0)).trans hx115_0
                                replace p115 := eq_true p115
                                replace q115 := eq_true q115
                                go_wp2_with (first | ((with_reducible refine gate_callee (f := 15) rfl ?_); refine goesL_ (some 49) rfl rfl Try.func15 (by kernel_rfl) rfl #[.int .i32 (rd l0 x41_3), .int .i64 (wrap64 (a1)), .int .u64 (IntKind.u64.wrap ((wrap64 (t114))))] rfl (by (try simp only [List.map_toArray, List.map_cons, List.map_nil]); first | done | rfl | (simp only [List.length_drop, List.length_take]; rfl)) ?_; (with_reducible refine (root_Part.calls (rd l0 x41_3) (wrap64 (a1)) (IntKind.u64.wrap ((wrap64 (t114)))) t116 _ A19.out).mono ?_); rintro e w25 ⟨rfl, hb⟩; refine ⟨_, rfl, ?_⟩; have n0_ := Aside0.mk (below_step (by repeat (first | (with_reducible first | exact HB.out | apply below_alloc | apply pw_below_drewN | apply below_drew1) | exact HB.out)) hb); clear HB; have HB := n0_; clear n0_; (try clear hb); (try clear hb2); (try clear hk); (try clear hi)))
                                go_ret
                                exact ⟨by first | rfl | (simp [errW_none, errW_some] <;> rfl) | (simp [*, errW_none, errW_some] <;> rfl), by repeat (first | (with_reducible first | exact HB.out | apply below_alloc | apply pw_below_drewN | apply below_drew1) | exact HB.out)⟩
                              · rw [if_neg c24] at H
                                have c24b0 : decide ((wrap64 (a1)) < t116) = false := decide_eq_false c24
                                clear c24
                                by_cases c26 : t116 < (wrap64 (-(wrap64 (a1))))
                                · rw [if_pos c26] at H
                                  have c26b0 : decide (t116 < (wrap64 (-(wrap64 (a1))))) = true := decide_eq_true c26
                                  clear c26
                                  obtain rfl := Option.some.inj H
                                  have p115 : 0 ≤ (x41_3 : Int) := of_decide_eq_true (by first | (with_reducible assumption) | assumption)
                                  have q115 : x41_3 < (l0.length : Int) := of_decide_eq_true (by first | (with_reducible assumption) | assumption)
                                  obtain ⟨ad115, e115, hx115_0⟩ := Kd.at_int HR0.out x41_3 p115 q115
                                  cases e115
                                  replace hx115_0 := (HB.out.cell (World.block_lt_of_cell? w _ hx115_0)).trans hx115_0
                                  replace p115 := eq_true p115
                                  replace q115 := eq_true q115
                                  go_wp2_with (first | ((with_reducible refine gate_callee (f := 15) rfl ?_); refine goesL_ (some 49) rfl rfl Try.func15 (by kernel_rfl) rfl #[.int .i32 (rd l0 x41_3), .int .i64 (wrap64 (a1)), .int .u64 (IntKind.u64.wrap ((wrap64 (t114))))] rfl (by (try simp only [List.map_toArray, List.map_cons, List.map_nil]); first | done | rfl | (simp only [List.length_drop, List.length_take]; rfl)) ?_; (with_reducible refine (root_Part.calls (rd l0 x41_3) (wrap64 (a1)) (IntKind.u64.wrap ((wrap64 (t114)))) t116 _ A19.out).mono ?_); rintro e w27 ⟨rfl, hb⟩; refine ⟨_, rfl, ?_⟩; have n0_ := Aside0.mk (below_step (by repeat (first | (with_reducible first | exact HB.out | apply below_alloc | apply pw_below_drewN | apply below_drew1) | exact HB.out)) hb); clear HB; have HB := n0_; clear n0_; (try clear hb); (try clear hb2); (try clear hk); (try clear hi)))
                                  go_ret
                                  exact ⟨by first | rfl | (simp [errW_none, errW_some] <;> rfl) | (simp [*, errW_none, errW_some] <;> rfl), by repeat (first | (with_reducible first | exact HB.out | apply below_alloc | apply pw_below_drewN | apply below_drew1) | exact HB.out)⟩
                                · rw [if_neg c26] at H
                                  have c26b0 : decide (t116 < (wrap64 (-(wrap64 (a1))))) = false := decide_eq_false c26
                                  clear c26
                                  by_cases c28 : (wrap64 (t114)) = 0
                                  · rw [if_pos c28] at H
                                    have c28b0 : ((wrap64 (t114)) == 0) = true := beq_iff_eq.mpr c28
                                    have c28b1 : ((wrap64 (t114)) != 0) = false := bne_eq_false_iff_eq.mpr c28
                                    clear c28
                                    by_cases c29 : t116 = 0
                                    · rw [if_pos c29] at H
                                      have c29b0 : (t116 == 0) = true := beq_iff_eq.mpr c29
                                      have c29b1 : (t116 != 0) = false := bne_eq_false_iff_eq.mpr c29
                                      clear c29
                                      have H' := Aside0.mk H
                                      clear H
                                      have p115 : 0 ≤ (x41_3 : Int) := of_decide_eq_true (by first | (with_reducible assumption) | assumption)
                                      have q115 : x41_3 < (l0.length : Int) := of_decide_eq_true (by first | (with_reducible assumption) | assumption)
                                      obtain ⟨ad115, e115, hx115_0⟩ := Kd.at_int HR0.out x41_3 p115 q115
                                      cases e115
                                      replace hx115_0 := (HB.out.cell (World.block_lt_of_cell? w _ hx115_0)).trans hx115_0
                                      replace p115 := eq_true p115
                                      replace q115 := eq_true q115
                                      go_wp2_with (first | ((with_reducible refine gate_callee (f := 15) rfl ?_); refine goesL_ (some 49) rfl rfl Try.func15 (by kernel_rfl) rfl #[.int .i32 (rd l0 x41_3), .int .i64 (wrap64 (a1)), .int .u64 (IntKind.u64.wrap ((wrap64 (t114))))] rfl (by (try simp only [List.map_toArray, List.map_cons, List.map_nil]); first | done | rfl | (simp only [List.length_drop, List.length_take]; rfl)) ?_; (with_reducible refine (root_Part.calls (rd l0 x41_3) (wrap64 (a1)) (IntKind.u64.wrap ((wrap64 (t114)))) t116 _ A19.out).mono ?_); rintro e w30 ⟨rfl, hb⟩; refine ⟨_, rfl, ?_⟩; have n0_ := Aside0.mk (below_step (by repeat (first | (with_reducible first | exact HB.out | apply below_alloc | apply pw_below_drewN | apply below_drew1) | exact HB.out)) hb); clear HB; have HB := n0_; clear n0_; (try clear hb); (try clear hb2); (try clear hk); (try clear hi)))
                                      go_roundg k3
                                      case measure => have := HJ4.out; have := HK2.out; have := HK3.out; omega
                                      case rel => exact ⟨(wrap64 (x41_3 + 1)), (by first | rfl | (simp; done) | (simp [*]; done)), H', ⟨by have := HJ4.out; have := HK2.out; have := HK3.out; omega⟩, ⟨by repeat (first | (with_reducible first | exact HB.out | apply below_alloc | apply pw_below_drewN | apply below_drew1) | exact HB.out)⟩⟩
                                    · rw [if_neg c29] at H
                                      have c29b0 : (t116 == 0) = false := beq_eq_false_iff_ne.mpr c29
                                      have c29b1 : (t116 != 0) = true := bne_iff_ne.mpr c29
                                      obtain rfl := Option.some.inj H
                                      have p115 : 0 ≤ (x41_3 : Int) := of_decide_eq_true (by first | (with_reducible assumption) | assumption)
                                      have q115 : x41_3 < (l0.length : Int) := of_decide_eq_true (by first | (with_reducible assumption) | assumption)
                                      obtain ⟨ad115, e115, hx115_0⟩ := Kd.at_int HR0.out x41_3 p115 q115
                                      cases e115
                                      replace hx115_0 := (HB.out.cell (World.block_lt_of_cell? w _ hx115_0)).trans hx115_0
                                      replace p115 := eq_true p115
                                      replace q115 := eq_true q115
                                      go_wp2_with (first | ((with_reducible refine gate_callee (f := 15) rfl ?_); refine goesL_ (some 49) rfl rfl Try.func15 (by kernel_rfl) rfl #[.int .i32 (rd l0 x41_3), .int .i64 (wrap64 (a1)), .int .u64 (IntKind.u64.wrap ((wrap64 (t114))))] rfl (by (try simp only [List.map_toArray, List.map_cons, List.map_nil]); first | done | rfl | (simp only [List.length_drop, List.length_take]; rfl)) ?_; (with_reducible refine (root_Part.calls (rd l0 x41_3) (wrap64 (a1)) (IntKind.u64.wrap ((wrap64 (t114)))) t116 _ A19.out).mono ?_); rintro e w31 ⟨rfl, hb⟩; refine ⟨_, rfl, ?_⟩; have n0_ := Aside0.mk (below_step (by repeat (first | (with_reducible first | exact HB.out | apply below_alloc | apply pw_below_drewN | apply below_drew1) | exact HB.out)) hb); clear HB; have HB := n0_; clear n0_; (try clear hb); (try clear hb2); (try clear hk); (try clear hi)))
                                      go_ret
                                      exact ⟨by first | rfl | (simp [errW_none, errW_some] <;> rfl) | (simp [*, errW_none, errW_some] <;> rfl), by repeat (first | (with_reducible first | exact HB.out | apply below_alloc | apply pw_below_drewN | apply below_drew1) | exact HB.out)⟩
                                  · rw [if_neg c28] at H
                                    have c28b0 : ((wrap64 (t114)) == 0) = false := beq_eq_false_iff_ne.mpr c28
                                    have c28b1 : ((wrap64 (t114)) != 0) = true := bne_iff_ne.mpr c28
                                    have H' := Aside0.mk H
                                    clear H
                                    have p115 : 0 ≤ (x41_3 : Int) := of_decide_eq_true (by first | (with_reducible assumption) | assumption)
                                    have q115 : x41_3 < (l0.length : Int) := of_decide_eq_true (by first | (with_reducible assumption) | assumption)
                                    obtain ⟨ad115, e115, hx115_0⟩ := Kd.at_int HR0.out x41_3 p115 q115
                                    cases e115
                                    replace hx115_0 := (HB.out.cell (World.block_lt_of_cell? w _ hx115_0)).trans hx115_0
                                    replace p115 := eq_true p115
                                    replace q115 := eq_true q115
                                    go_wp2_with (first | ((with_reducible refine gate_callee (f := 15) rfl ?_); refine goesL_ (some 49) rfl rfl Try.func15 (by kernel_rfl) rfl #[.int .i32 (rd l0 x41_3), .int .i64 (wrap64 (a1)), .int .u64 (IntKind.u64.wrap ((wrap64 (t114))))] rfl (by (try simp only [List.map_toArray, List.map_cons, List.map_nil]); first | done | rfl | (simp only [List.length_drop, List.length_take]; rfl)) ?_; (with_reducible refine (root_Part.calls (rd l0 x41_3) (wrap64 (a1)) (IntKind.u64.wrap ((wrap64 (t114)))) t116 _ A19.out).mono ?_); rintro e w32 ⟨rfl, hb⟩; refine ⟨_, rfl, ?_⟩; have n0_ := Aside0.mk (below_step (by repeat (first | (with_reducible first | exact HB.out | apply below_alloc | apply pw_below_drewN | apply below_drew1) | exact HB.out)) hb); clear HB; have HB := n0_; clear n0_; (try clear hb); (try clear hb2); (try clear hk); (try clear hi)))
                                    go_roundg k3
                                    case measure => have := HJ4.out; have := HK2.out; have := HK3.out; omega
                                    case rel => exact ⟨(wrap64 (x41_3 + 1)), (by first | rfl | (simp; done) | (simp [*]; done)), H', ⟨by have := HJ4.out; have := HK2.out; have := HK3.out; omega⟩, ⟨by repeat (first | (with_reducible first | exact HB.out | apply below_alloc | apply pw_below_drewN | apply below_drew1) | exact HB.out)⟩⟩
                        · rw [if_neg c18] at H
                          exact absurd H (by simp)
                      · rw [if_neg c17] at H
                        exact absurd H (by simp)
                    · rw [if_neg c16] at H
                      have c16b0 : decide (x41_3 < (l0.length : Int)) = false := decide_eq_false c16
                      clear c16
                      obtain rfl := Option.some.inj H
                      go_wp2
                      go_ret
                      exact ⟨by first | rfl | (simp [errW_none, errW_some] <;> rfl) | (simp [*, errW_none, errW_some] <;> rfl), by repeat (first | (with_reducible first | exact HB.out | apply below_alloc | apply pw_below_drewN | apply below_drew1) | exact HB.out)⟩
  · replace c4 := Bool.eq_false_iff.mpr c4
    subst c4
    have H1 : (some false) = some r := by rw [if_neg (show ¬ (false = true) by decide)] at H; exact H
    clear H
    have H := H1
    clear H1
    obtain rfl := Option.some.inj H
    go_enter Try.func8, Try.ntmps8
    go_wp2_with (first | ((with_reducible refine gate_callee (f := 9) rfl ?_); refine goesL_ (some 12) rfl rfl Try.func9 (by kernel_rfl) rfl #[] rfl (by (try simp only [List.map_toArray, List.map_cons, List.map_nil]); first | done | rfl | (simp only [List.length_drop, List.length_take]; rfl)) ?_; (with_reducible refine (spinetlaw03_awake.calls k  false _ A3.out).mono ?_); rintro e w33 ⟨rfl, hb⟩; refine ⟨_, rfl, ?_⟩; have n0_ := Aside0.mk (below_step (by repeat (first | (with_reducible first | exact HB.out | apply below_alloc | apply pw_below_drewN | apply below_drew1) | exact HB.out)) hb); clear HB; have HB := n0_; clear n0_; (try clear hb); (try clear hb2); (try clear hk); (try clear hi)))
    go_ret
    exact ⟨by first | rfl | (simp [errW_none, errW_some] <;> rfl) | (simp [*, errW_none, errW_some] <;> rfl), by repeat (first | (with_reducible first | exact HB.out | apply below_alloc | apply pw_below_drewN | apply below_drew1) | exact HB.out)⟩

/-- THE ONE PURE STATEMENT of spinetlaw03_RootWithin: yours. -/
def spinetlaw03_RootWithin.Pure : Prop := ∀ (l0 : List Int) (a1 : Int), l0.length ≤ maxLen → l0.length * 4 ≤ 140737488351232 → (∀ x ∈ l0, (Lit.int .i32 x).wf = true) → (Lit.int .u32 a1).wf = true → ∃ k, spinetlaw03_RootWithin.f k l0 a1 = some true
theorem spinetlaw03_RootWithin.walk (P : spinetlaw03_RootWithin.Pure) (a0 : Option Addr) (len0 cap0 : Nat) (z0 : List Int) (a1 : Int) (w : World) (w0 : (a0 = none ∧ len0 = 0 ∧ cap0 = 0 ∧ z0 = []) ∨ ∃ x, a0 = some x ∧ len0 ≤ cap0 ∧ cap0 ≤ maxLen ∧ z0.length = cap0 ∧ (∀ i, i < z0.length → w.cell? (x.add i) = some (.int .i32 (z0.getD i 0))) ∧ ∀ n ∈ z0, (Lit.int .i32 n).wf = true) (y0 : len0 * 4 ≤ 140737488351232) (w1 : (Lit.int .u32 a1).wf = true) :
    Calls Try.prog 8 #[.slice a0 len0 cap0, .int .u32 a1] w fun e w' => e = .returned (.bool true) ∧ Below w.heap.size w w' := by
  obtain ⟨l0, rfl, hr0, hm0, hw0, hc0⟩ := ReadsInt.ofRowC w0
  obtain ⟨k, h⟩ := P l0 a1 hm0 y0 hw0 w1
  refine (spinetlaw03_RootWithin.calls k _ _ l0 a1 true w (Kd.C_of_reads (d := (0 : Int)) (h1 := fun _ => rfl) hr0) hc0 h).mono ?_
  rintro e w' ⟨rfl, hd⟩
  exact ⟨rfl, hd⟩

end Go.Proofs.Ytiejkgapifpchaa.ORootWithin
