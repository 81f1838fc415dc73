/- Fine steps, and a band's loudness, are what the document says. Conditions: none but that each number fits its type; the table of steps lies as the program's text lays it (the card ties it). -/
import Derived.Test.YtilmnlipamhpkaaDoorTells
import Derived.Test.YtilmnlipamhpkaaDoorMath
import Derived.LoopTactic
namespace Go.Proofs.YtilmnlipamhpkaaDoor.Pow
open Go.RowKit Go.Proofs.YtilmnlipamhpkaaDoorW.PrintWords Go.Proofs.YtilmnlipamhpkaaDoorW.PrintLast Go.Proofs.YtilmnlipamhpkaaDoorW.PrintMore
attribute [local go_sem] max2_int min2_int max_two min_two max_three min_three max_four min_four   -- for this text's walks alone
set_option linter.unusedVariables false
set_option linter.unusedSimpArgs false
open Go.Proofs.YtilmnlipamhpkaaDoor.Math

/-- A fine step, by the bits. -/
def fn (q : Int) (F : Nat) : Int := (2 * (min (max q 0) (2 ^ F - 1)) + 1) * 4 / 2 ^ F - 4
theorem fn_range (q : Int) (F : Nat) (hF : F ≤ 3) : -4 ≤ fn q F ∧ fn q F ≤ 3 := by
  unfold fn
  rcases (by omega : F = 0 ∨ F = 1 ∨ F = 2 ∨ F = 3) with rfl | rfl | rfl | rfl <;> simp <;> omega
theorem pow_fine (q f : Int) (F : Nat) (hF : min (max f 0) 3 = (F : Int)) : PPowTells.pow_Fine.f q f = some (fn q F) := by
  unfold PPowTells.pow_Fine.f PPowTells.pow_held.f
  have e1 : mn (mx f 0) 3 = (F : Int) := by rw [mx_eq, mn_eq]; exact hF
  rw [e1]
  simp only [Option.bind_some]
  rw [if_pos (by omega)]
  unfold fn
  rcases (by omega : F = 0 ∨ F = 1 ∨ F = 2 ∨ F = 3) with rfl | rfl | rfl | rfl
  all_goals
    simp only [mx_eq, mn_eq]
    congr 1
  · have e2 : wrap64 (shl .i64 1 ((0 : Nat) : Int) - 1) = 0 := by decide +kernel
    have hb : min (max q 0) 0 = 0 := by omega
    have e3 : (2 : Int) ^ 0 - 1 = 0 := rfl
    rw [e2, e3, hb]; decide +kernel
  · have e2 : wrap64 (shl .i64 1 ((1 : Nat) : Int) - 1) = 1 := by decide +kernel
    have e3 : (2 : Int) ^ 1 - 1 = 1 := rfl
    rw [e2, e3]
    rcases (by omega : min (max q 0) 1 = 0 ∨ min (max q 0) 1 = 1) with h | h <;> rw [h] <;> decide +kernel
  · have e2 : wrap64 (shl .i64 1 ((2 : Nat) : Int) - 1) = 3 := by decide +kernel
    have e3 : (2 : Int) ^ 2 - 1 = 3 := rfl
    rw [e2, e3]
    rcases (by omega : min (max q 0) 3 = 0 ∨ min (max q 0) 3 = 1 ∨ min (max q 0) 3 = 2 ∨ min (max q 0) 3 = 3) with h | h | h | h <;> rw [h] <;> decide +kernel
  · have e2 : wrap64 (shl .i64 1 ((3 : Nat) : Int) - 1) = 7 := by decide +kernel
    have e3 : (2 : Int) ^ 3 - 1 = 7 := rfl
    rw [e2, e3]
    rcases (by omega : min (max q 0) 7 = 0 ∨ min (max q 0) 7 = 1 ∨ min (max q 0) 7 = 2 ∨ min (max q 0) 7 = 3 ∨ min (max q 0) 7 = 4 ∨ min (max q 0) 7 = 5 ∨ min (max q 0) 7 = 6 ∨ min (max q 0) 7 = 7) with h | h | h | h | h | h | h | h <;> rw [h] <;> decide +kernel

set_option maxHeartbeats 4000000 in
set_option maxRecDepth 100000 in
theorem ref_fine (q f : Int) (F : Nat) (hF : min (max f 0) 3 = (F : Int)) (w : World) :
    Calls Tryd.prog 14 #[.int .i64 q, .int .i64 f] w fun e w' => e = .returned (.int .i64 (fn q F)) ∧ w = w' := by
  obtain ⟨r, hr⟩ : ∃ r, fn q F = r := ⟨_, rfl⟩
  rw [hr]
  unfold fn at hr
  have HR := Aside0.mk hr
  clear hr
  rcases (by omega : (f < 0 ∧ F = 0) ∨ (3 < f ∧ F = 3) ∨ (f = 0 ∧ F = 0) ∨ (f = 1 ∧ F = 1) ∨ (f = 2 ∧ F = 2) ∨ (f = 3 ∧ F = 3)) with ⟨hf, rfl⟩ | ⟨hf, rfl⟩ | ⟨rfl, rfl⟩ | ⟨rfl, rfl⟩ | ⟨rfl, rfl⟩ | ⟨rfl, rfl⟩
  · clear hF
    go_enter Tryd.func14, Tryd.ntmps14
    go_wp2
    go_loop [5, 6] (fun p i => ∃ j : Nat, j ≤ 0 ∧ i = .int .i64 j ∧ p = .int .i64 (2 ^ j)) (fun _ i => 0 - (intOf i).toNat)
    case atStart => exact ⟨0, by omega, rfl, rfl⟩
    case round =>
      obtain ⟨j, hj, rfl, rfl⟩ := hrel
      by_cases hlt : j < 0
      · omega
      · obtain rfl : j = 0 := by omega
        clear hj hlt
        by_cases h0 : q < 0
        · have h1 := HR.out
          rw [show min (max q 0) (2 ^ 0 - 1) = 0 by simp; omega] at h1
          have H1 := Aside0.mk h1
          clear h1 HR
          go_wp2
          go_ret
          exact ⟨congrArg Ending.returned (congrArg (Value.int .i64) (by rw [← H1.out]; first | rfl | (simp; done) | (simp; omega) | omega)), rfl⟩
        · by_cases h2 : 0 < q
          · have h1 := HR.out
            rw [show min (max q 0) (2 ^ 0 - 1) = 0 by simp; omega] at h1
            have H1 := Aside0.mk h1
            clear h1 HR
            go_wp2
            go_ret
            exact ⟨congrArg Ending.returned (congrArg (Value.int .i64) (by rw [← H1.out]; first | rfl | (simp; done) | (simp; omega) | omega)), rfl⟩
          · have h1 := HR.out
            rw [show min (max q 0) (2 ^ 0 - 1) = q by simp; omega] at h1
            have H1 := Aside0.mk h1
            clear h1 HR
            go_wp2
            go_ret
            exact ⟨congrArg Ending.returned (congrArg (Value.int .i64) (by rw [← H1.out]; first | rfl | (simp; done) | (simp; omega) | omega)), rfl⟩
  · clear hF
    go_enter Tryd.func14, Tryd.ntmps14
    go_wp2
    go_loop [5, 6] (fun p i => ∃ j : Nat, j ≤ 3 ∧ i = .int .i64 j ∧ p = .int .i64 (2 ^ j)) (fun _ i => 3 - (intOf i).toNat)
    case atStart => exact ⟨0, by omega, rfl, rfl⟩
    case round =>
      obtain ⟨j, hj, rfl, rfl⟩ := hrel
      by_cases hlt : j < 3
      · have hp : (2 : Int) ^ j ≤ 4 := by rcases (by omega : j = 0 ∨ j = 1 ∨ j = 2) with rfl | rfl | rfl <;> decide
        have hp0 : (0 : Int) < 2 ^ j := Int.pow_pos (by decide)
        go_wp2
        go_round
        case rel => exact ⟨j + 1, by omega, by go_num, by rw [Int.pow_succ]⟩
        case measure => simp [intOf]; omega
      · obtain rfl : j = 3 := by omega
        clear hj hlt
        by_cases h0 : q < 0
        · have h1 := HR.out
          rw [show min (max q 0) (2 ^ 3 - 1) = 0 by simp; omega] at h1
          have H1 := Aside0.mk h1
          clear h1 HR
          go_wp2
          go_ret
          exact ⟨congrArg Ending.returned (congrArg (Value.int .i64) (by rw [← H1.out]; first | rfl | (simp; done) | (simp; omega) | omega)), rfl⟩
        · by_cases h2 : 7 < q
          · have h1 := HR.out
            rw [show min (max q 0) (2 ^ 3 - 1) = 7 by simp; omega] at h1
            have H1 := Aside0.mk h1
            clear h1 HR
            go_wp2
            go_ret
            exact ⟨congrArg Ending.returned (congrArg (Value.int .i64) (by rw [← H1.out]; first | rfl | (simp; done) | (simp; omega) | omega)), rfl⟩
          · have h1 := HR.out
            rw [show min (max q 0) (2 ^ 3 - 1) = q by simp; omega] at h1
            have H1 := Aside0.mk h1
            clear h1 HR
            go_wp2
            go_ret
            exact ⟨congrArg Ending.returned (congrArg (Value.int .i64) (by rw [← H1.out]; first | rfl | (simp; done) | (simp; omega) | omega)), rfl⟩
  · clear hF
    go_enter Tryd.func14, Tryd.ntmps14
    go_wp2
    go_loop [5, 6] (fun p i => ∃ j : Nat, j ≤ 0 ∧ i = .int .i64 j ∧ p = .int .i64 (2 ^ j)) (fun _ i => 0 - (intOf i).toNat)
    case atStart => exact ⟨0, by omega, rfl, rfl⟩
    case round =>
      obtain ⟨j, hj, rfl, rfl⟩ := hrel
      by_cases hlt : j < 0
      · omega
      · obtain rfl : j = 0 := by omega
        clear hj hlt
        by_cases h0 : q < 0
        · have h1 := HR.out
          rw [show min (max q 0) (2 ^ 0 - 1) = 0 by simp; omega] at h1
          have H1 := Aside0.mk h1
          clear h1 HR
          go_wp2
          go_ret
          exact ⟨congrArg Ending.returned (congrArg (Value.int .i64) (by rw [← H1.out]; first | rfl | (simp; done) | (simp; omega) | omega)), rfl⟩
        · by_cases h2 : 0 < q
          · have h1 := HR.out
            rw [show min (max q 0) (2 ^ 0 - 1) = 0 by simp; omega] at h1
            have H1 := Aside0.mk h1
            clear h1 HR
            go_wp2
            go_ret
            exact ⟨congrArg Ending.returned (congrArg (Value.int .i64) (by rw [← H1.out]; first | rfl | (simp; done) | (simp; omega) | omega)), rfl⟩
          · have h1 := HR.out
            rw [show min (max q 0) (2 ^ 0 - 1) = q by simp; omega] at h1
            have H1 := Aside0.mk h1
            clear h1 HR
            go_wp2
            go_ret
            exact ⟨congrArg Ending.returned (congrArg (Value.int .i64) (by rw [← H1.out]; first | rfl | (simp; done) | (simp; omega) | omega)), rfl⟩
  · clear hF
    go_enter Tryd.func14, Tryd.ntmps14
    go_wp2
    go_loop [5, 6] (fun p i => ∃ j : Nat, j ≤ 1 ∧ i = .int .i64 j ∧ p = .int .i64 (2 ^ j)) (fun _ i => 1 - (intOf i).toNat)
    case atStart => exact ⟨0, by omega, rfl, rfl⟩
    case round =>
      obtain ⟨j, hj, rfl, rfl⟩ := hrel
      by_cases hlt : j < 1
      · have hp : (2 : Int) ^ j ≤ 4 := by rcases (by omega : j = 0 ∨ j = 1 ∨ j = 2) with rfl | rfl | rfl <;> decide
        have hp0 : (0 : Int) < 2 ^ j := Int.pow_pos (by decide)
        go_wp2
        go_round
        case rel => exact ⟨j + 1, by omega, by go_num, by rw [Int.pow_succ]⟩
        case measure => simp [intOf]; omega
      · obtain rfl : j = 1 := by omega
        clear hj hlt
        by_cases h0 : q < 0
        · have h1 := HR.out
          rw [show min (max q 0) (2 ^ 1 - 1) = 0 by simp; omega] at h1
          have H1 := Aside0.mk h1
          clear h1 HR
          go_wp2
          go_ret
          exact ⟨congrArg Ending.returned (congrArg (Value.int .i64) (by rw [← H1.out]; first | rfl | (simp; done) | (simp; omega) | omega)), rfl⟩
        · by_cases h2 : 1 < q
          · have h1 := HR.out
            rw [show min (max q 0) (2 ^ 1 - 1) = 1 by simp; omega] at h1
            have H1 := Aside0.mk h1
            clear h1 HR
            go_wp2
            go_ret
            exact ⟨congrArg Ending.returned (congrArg (Value.int .i64) (by rw [← H1.out]; first | rfl | (simp; done) | (simp; omega) | omega)), rfl⟩
          · have h1 := HR.out
            rw [show min (max q 0) (2 ^ 1 - 1) = q by simp; omega] at h1
            have H1 := Aside0.mk h1
            clear h1 HR
            go_wp2
            go_ret
            exact ⟨congrArg Ending.returned (congrArg (Value.int .i64) (by rw [← H1.out]; first | rfl | (simp; done) | (simp; omega) | omega)), rfl⟩
  · clear hF
    go_enter Tryd.func14, Tryd.ntmps14
    go_wp2
    go_loop [5, 6] (fun p i => ∃ j : Nat, j ≤ 2 ∧ i = .int .i64 j ∧ p = .int .i64 (2 ^ j)) (fun _ i => 2 - (intOf i).toNat)
    case atStart => exact ⟨0, by omega, rfl, rfl⟩
    case round =>
      obtain ⟨j, hj, rfl, rfl⟩ := hrel
      by_cases hlt : j < 2
      · have hp : (2 : Int) ^ j ≤ 4 := by rcases (by omega : j = 0 ∨ j = 1 ∨ j = 2) with rfl | rfl | rfl <;> decide
        have hp0 : (0 : Int) < 2 ^ j := Int.pow_pos (by decide)
        go_wp2
        go_round
        case rel => exact ⟨j + 1, by omega, by go_num, by rw [Int.pow_succ]⟩
        case measure => simp [intOf]; omega
      · obtain rfl : j = 2 := by omega
        clear hj hlt
        by_cases h0 : q < 0
        · have h1 := HR.out
          rw [show min (max q 0) (2 ^ 2 - 1) = 0 by simp; omega] at h1
          have H1 := Aside0.mk h1
          clear h1 HR
          go_wp2
          go_ret
          exact ⟨congrArg Ending.returned (congrArg (Value.int .i64) (by rw [← H1.out]; first | rfl | (simp; done) | (simp; omega) | omega)), rfl⟩
        · by_cases h2 : 3 < q
          · have h1 := HR.out
            rw [show min (max q 0) (2 ^ 2 - 1) = 3 by simp; omega] at h1
            have H1 := Aside0.mk h1
            clear h1 HR
            go_wp2
            go_ret
            exact ⟨congrArg Ending.returned (congrArg (Value.int .i64) (by rw [← H1.out]; first | rfl | (simp; done) | (simp; omega) | omega)), rfl⟩
          · have h1 := HR.out
            rw [show min (max q 0) (2 ^ 2 - 1) = q by simp; omega] at h1
            have H1 := Aside0.mk h1
            clear h1 HR
            go_wp2
            go_ret
            exact ⟨congrArg Ending.returned (congrArg (Value.int .i64) (by rw [← H1.out]; first | rfl | (simp; done) | (simp; omega) | omega)), rfl⟩
  · clear hF
    go_enter Tryd.func14, Tryd.ntmps14
    go_wp2
    go_loop [5, 6] (fun p i => ∃ j : Nat, j ≤ 3 ∧ i = .int .i64 j ∧ p = .int .i64 (2 ^ j)) (fun _ i => 3 - (intOf i).toNat)
    case atStart => exact ⟨0, by omega, rfl, rfl⟩
    case round =>
      obtain ⟨j, hj, rfl, rfl⟩ := hrel
      by_cases hlt : j < 3
      · have hp : (2 : Int) ^ j ≤ 4 := by rcases (by omega : j = 0 ∨ j = 1 ∨ j = 2) with rfl | rfl | rfl <;> decide
        have hp0 : (0 : Int) < 2 ^ j := Int.pow_pos (by decide)
        go_wp2
        go_round
        case rel => exact ⟨j + 1, by omega, by go_num, by rw [Int.pow_succ]⟩
        case measure => simp [intOf]; omega
      · obtain rfl : j = 3 := by omega
        clear hj hlt
        by_cases h0 : q < 0
        · have h1 := HR.out
          rw [show min (max q 0) (2 ^ 3 - 1) = 0 by simp; omega] at h1
          have H1 := Aside0.mk h1
          clear h1 HR
          go_wp2
          go_ret
          exact ⟨congrArg Ending.returned (congrArg (Value.int .i64) (by rw [← H1.out]; first | rfl | (simp; done) | (simp; omega) | omega)), rfl⟩
        · by_cases h2 : 7 < q
          · have h1 := HR.out
            rw [show min (max q 0) (2 ^ 3 - 1) = 7 by simp; omega] at h1
            have H1 := Aside0.mk h1
            clear h1 HR
            go_wp2
            go_ret
            exact ⟨congrArg Ending.returned (congrArg (Value.int .i64) (by rw [← H1.out]; first | rfl | (simp; done) | (simp; omega) | omega)), rfl⟩
          · have h1 := HR.out
            rw [show min (max q 0) (2 ^ 3 - 1) = q by simp; omega] at h1
            have H1 := Aside0.mk h1
            clear h1 HR
            go_wp2
            go_ret
            exact ⟨congrArg Ending.returned (congrArg (Value.int .i64) (by rw [← H1.out]; first | rfl | (simp; done) | (simp; omega) | omega)), rfl⟩

theorem held_gen (e lo hi r : Int) (h : min (max e lo) hi = r) (w : World) :
    Calls Tryd.prog 17 #[.int .i64 e, .int .i64 lo, .int .i64 hi] w fun e w' => e = .returned (.int .i64 r) ∧ Below w.heap.size w w' :=
  PPowTells.pow_held.calls e lo hi r w (by unfold PPowTells.pow_held.f; rw [mx_eq, mn_eq, h])
set_option maxHeartbeats 1000000 in
set_option maxRecDepth 100000 in
theorem loud_in (c q f cc x r : Int) (h1 : min (max c 0) 31 = cc) (hc0 : 0 ≤ cc) (hc1 : cc ≤ 31) (hx0 : -4 ≤ x) (hx1 : x ≤ 3) (hF : ∀ w, Calls Tryd.prog 13 #[.int .i64 q, .int .i64 f] w fun e w' => e = .returned (.int .i64 x) ∧ Below w.heap.size w w')
    (h2 : min (max (8 * cc + x) 0) 320 = r) (w : World) :
    Calls Tryd.prog 15 #[.int .i64 c, .int .i64 q, .int .i64 f] w fun e w' => e = .returned (.int .i64 r) ∧ Below w.heap.size w w' := by
  have HB := Aside0.mk (Below.refl w.heap.size w)
  have H1 := Aside0.mk h1
  have H2 := Aside0.mk h2
  have HF := Aside0.mk hF
  clear h1 h2 hF
  go_enter Tryd.func15, Tryd.ntmps15
  go_wp2_with (first | (go_at_call 17; (with_reducible refine (held_gen _ _ _ _ H1.out _).mono ?_); rintro e w1 ⟨rfl, hb⟩; have n0 := Aside0.mk (below_step HB.out hb); clear HB hb; have HB := n0; clear n0) | (go_at_call 17; (with_reducible refine (held_gen _ _ _ _ H2.out _).mono ?_); rintro e w1 ⟨rfl, hb⟩; have n0 := Aside0.mk (below_step HB.out hb); clear HB hb; have HB := n0; clear n0) | (go_at_call 13; (with_reducible refine (HF.out _).mono ?_); rintro e w1 ⟨rfl, hb⟩; have n0 := Aside0.mk (below_step HB.out hb); clear HB hb; have HB := n0; clear n0))
  go_ret
  exact ⟨rfl, HB.out⟩
set_option maxHeartbeats 1000000 in
set_option maxRecDepth 100000 in
theorem ref_loud_in (c q f cc x r : Int) (h1 : (c < 0 ∧ cc = 0) ∨ (31 < c ∧ cc = 31) ∨ (0 ≤ c ∧ c ≤ 31 ∧ cc = c)) (hx0 : -4 ≤ x) (hx1 : x ≤ 3) (hF : ∀ w, Calls Tryd.prog 14 #[.int .i64 q, .int .i64 f] w fun e w' => e = .returned (.int .i64 x) ∧ w = w')
    (h2 : (cc * 8 + x < 0 ∧ r = 0) ∨ (0 ≤ cc * 8 + x ∧ r = cc * 8 + x)) (w : World) :
    Calls Tryd.prog 16 #[.int .i64 c, .int .i64 q, .int .i64 f] w fun e w' => e = .returned (.int .i64 r) ∧ w = w' := by
  have RF := Aside0.mk hF
  clear hF
  rcases h1 with ⟨hc, rfl⟩ | ⟨hc, rfl⟩ | ⟨hc, hc', rfl⟩
  all_goals
    rcases h2 with ⟨hn, rfl⟩ | ⟨hn, rfl⟩
    all_goals
      go_enter Tryd.func16, Tryd.ntmps16
      go_wp2_with (first | (go_at_call 14; (with_reducible refine (RF.out _).mono ?_); rintro e w1 ⟨rfl, rfl⟩))
      all_goals first
      | (go_ret; exact ⟨congrArg Ending.returned (congrArg (Value.int .i64) (by first | rfl | omega)), rfl⟩)
      | (exfalso; omega)
set_option maxHeartbeats 1000000 in
set_option maxRecDepth 100000 in
theorem louds_in (c q f x r : Int) (hF : ∀ w, Calls Tryd.prog 13 #[.int .i64 q, .int .i64 f] w fun e w' => e = .returned (.int .i64 x) ∧ Below w.heap.size w w') (hF' : ∀ w, Calls Tryd.prog 14 #[.int .i64 q, .int .i64 f] w fun e w' => e = .returned (.int .i64 x) ∧ w = w')
    (hL : ∀ w, Calls Tryd.prog 15 #[.int .i64 c, .int .i64 q, .int .i64 f] w fun e w' => e = .returned (.int .i64 r) ∧ Below w.heap.size w w') (hL' : ∀ w, Calls Tryd.prog 16 #[.int .i64 c, .int .i64 q, .int .i64 f] w fun e w' => e = .returned (.int .i64 r) ∧ w = w')
    (w : World) (hT : Laid w) :
    Calls Tryd.prog 7 #[.int .i64 c, .int .i64 q, .int .i64 f] w fun e w' => e = .returned (.bool true) ∧ Below w.heap.size w w' := by
  have HB := Aside0.mk (Below.refl w.heap.size w)
  have HF := Aside0.mk hF
  have HF' := Aside0.mk hF'
  have HL := Aside0.mk hL
  have HL' := Aside0.mk hL'
  have HT := Aside0.mk hT
  clear hF hF' hL hL' hT
  go_enter Tryd.func7, Tryd.ntmps7
  go_wp2_with (first | (go_at_call 8; (with_reducible refine (awake_any _ HT.out).mono ?_); rintro e w1 ⟨rfl, hb⟩; have n0 := Aside0.mk (below_step HB.out hb); clear HB hb; have HB := n0; clear n0) | (go_at_call 13; (with_reducible refine (HF.out _).mono ?_); rintro e w1 ⟨rfl, hb⟩; have n0 := Aside0.mk (below_step HB.out hb); clear HB hb; have HB := n0; clear n0) | (go_at_call 15; (with_reducible refine (HL.out _).mono ?_); rintro e w1 ⟨rfl, hb⟩; have n0 := Aside0.mk (below_step HB.out hb); clear HB hb; have HB := n0; clear n0) | (go_at_call 14; (with_reducible refine (HF'.out _).mono ?_); rintro e w1 ⟨rfl, rfl⟩) | (go_at_call 16; (with_reducible refine (HL'.out _).mono ?_); rintro e w1 ⟨rfl, rfl⟩))
  go_ret
  exact ⟨congrArg Ending.returned (congrArg Value.bool (by simp)), HB.out⟩
theorem louds_any (c q f : Int) (w : World) (hL : Laid w) :
    Calls Tryd.prog 7 #[.int .i64 c, .int .i64 q, .int .i64 f] w fun e w' => e = .returned (.bool true) ∧ Below w.heap.size w w' := by
  obtain ⟨F, hF⟩ : ∃ F : Nat, min (max f 0) 3 = F := ⟨(min (max f 0) 3).toNat, by omega⟩
  have hr := fn_range q F (by omega)
  have h13 : ∀ w, Calls Tryd.prog 13 #[.int .i64 q, .int .i64 f] w fun e w' => e = .returned (.int .i64 (fn q F)) ∧ Below w.heap.size w w' := fun w => fine_any q f (fn q F) (pow_fine q f F hF) w
  have h14 : ∀ w, Calls Tryd.prog 14 #[.int .i64 q, .int .i64 f] w fun e w' => e = .returned (.int .i64 (fn q F)) ∧ w = w' := fun w => ref_fine q f F hF w
  generalize fn q F = x at *
  obtain ⟨cc, hc⟩ : ∃ cc : Int, min (max c 0) 31 = cc := ⟨_, rfl⟩
  obtain ⟨r, hr2⟩ : ∃ r : Int, min (max (8 * cc + x) 0) 320 = r := ⟨_, rfl⟩
  exact louds_in c q f x r h13 h14 (fun w => loud_in c q f cc x r hc (by omega) (by omega) hr.1 hr.2 h13 hr2 w)
    (fun w => ref_loud_in c q f cc x r (by omega) hr.1 hr.2 h14 (by omega) w) w hL
end Go.Proofs.YtilmnlipamhpkaaDoor.Pow
