/- A part of any length is what the document says. Conditions: none but that each number fits its type. -/
import Derived.Test.YtiejkgapifpchaaORootTellsx1
import Derived.Test.YtiejkgapifpchaaMath
namespace Go.Proofs.Ytiejkgapifpchaa.Parts
open Go.RowKit Go.Proofs.Ytiejkgapifpchaa.ORootTells Go.Proofs.YtiejkgapifpchaaW.PrintWords Go.Proofs.YtiejkgapifpchaaW.PrintLast Go.Proofs.YtiejkgapifpchaaW.PrintMore
open Go.Proofs.Ytiejkgapifpchaa.Math
attribute [local go_sem] max2_int min2_int max_two min_two max_three min_three max_four min_four   -- for this text's walks alone
set_option linter.unusedVariables false
set_option linter.unusedSimpArgs false
theorem awake_any (w : World) : Calls Try.prog 9 #[] w fun e w' => e = .returned (.bool true) ∧ Below w.heap.size w w' :=
  spinetlaw03_awake.calls 40 true w (by decide +kernel)
set_option maxHeartbeats 1000000 in
set_option maxRecDepth 100000 in
theorem ref_part_none (x g L : Int) (w : World) (hL0 : 0 ≤ L) (hL1 : L ≤ 18446744073709551615) (hx0 : -2147483648 ≤ x) (hx1 : x ≤ 2147483647) (h : L = 0 ∨ 4611686018427387904 < L) :
    Calls Try.prog 16 #[.int .i32 x, .int .i64 g, .int .u64 L] w fun e w' => e = .returned (.int .i64 0) ∧ w = w' := by
  rcases h with rfl | h
  · go_enter Try.func16, Try.ntmps16
    go_wp2
    go_ret
    exact ⟨rfl, rfl⟩
  · go_enter Try.func16, Try.ntmps16
    go_wp2
    go_ret
    exact ⟨rfl, rfl⟩
set_option maxHeartbeats 2000000 in
set_option maxRecDepth 100000 in
theorem ref_part_some (x g L G p r : Int) (w : World) (hL0 : 1 ≤ L) (hL1 : L ≤ 4611686018427387904) (hx0 : -2147483648 ≤ x) (hx1 : x ≤ 2147483647)
    (hG : (1073741824 < g ∧ G = 1073741824) ∨ (g < -1073741824 ∧ G = -1073741824) ∨ (-1073741824 ≤ g ∧ g ≤ 1073741824 ∧ g = G))
    (hr : (x < 0 ∧ G < 0 ∧ -x * -G = p ∧ r = p / L) ∨ (x < 0 ∧ 0 ≤ G ∧ -x * G = p ∧ r = -(p / L)) ∨ (0 ≤ x ∧ G < 0 ∧ x * -G = p ∧ r = -(p / L)) ∨ (0 ≤ x ∧ 0 ≤ G ∧ x * G = p ∧ r = p / L))
    (hp0 : 0 ≤ p) (hp1 : p ≤ 4611686018427387904) :
    Calls Try.prog 16 #[.int .i32 x, .int .i64 g, .int .u64 L] w fun e w' => e = .returned (.int .i64 r) ∧ w = w' := by
  have hq := Int.ediv_le_self (a := p) L hp0
  have hq0 := Int.ediv_nonneg hp0 (by omega : 0 ≤ L)
  have hLz : (L == 0) = false := by simp; omega
  rcases hG with ⟨h, rfl⟩ | ⟨h, rfl⟩ | ⟨h, h', rfl⟩
  all_goals
    rcases hr with ⟨hs, hg, hp, rfl⟩ | ⟨hs, hg, hp, rfl⟩ | ⟨hs, hg, hp, rfl⟩ | ⟨hs, hg, hp, rfl⟩
    all_goals first
      | (exfalso; omega)
      | (first | have hdx : decide (x < 0) = true := by simpa using hs | have hdx : decide (x < 0) = false := by simpa using hs
         first | have hdg : decide (g < 0) = true := by simpa using hg | have hdg : decide (g < 0) = false := by simpa using hg | skip
         go_enter Try.func16, Try.ntmps16
         go_wp2
         go_ret
         refine ⟨congrArg Ending.returned (congrArg (Value.int .i64) ?_), rfl⟩
         first
           | rfl
           | (rw [show -x * 1073741824 = p by omega]; unfold wrap64; omega)
           | (rw [show x * 1073741824 = p by omega]; unfold wrap64; omega)
           | (unfold wrap64; omega))
set_option maxHeartbeats 1000000 in
set_option maxRecDepth 100000 in
theorem parts_in (x g L r : Int) (w : World) (h1 : ∀ w, Calls Try.prog 15 #[.int .i32 x, .int .i64 g, .int .u64 L] w fun e w' => e = .returned (.int .i64 r) ∧ Below w.heap.size w w')
    (h2 : ∀ w, Calls Try.prog 16 #[.int .i32 x, .int .i64 g, .int .u64 L] w fun e w' => e = .returned (.int .i64 r) ∧ w = w') :
    Calls Try.prog 7 #[.int .i32 x, .int .i64 g, .int .u64 L] w fun e w' => e = .returned (.bool true) ∧ Below w.heap.size w w' := by
  have HB := Aside0.mk (Below.refl w.heap.size w)
  have H1 := Aside0.mk h1
  have H2 := Aside0.mk h2
  clear h1 h2
  go_enter Try.func7, Try.ntmps7
  go_wp2_with (first | (go_at_call 9; (with_reducible refine (awake_any _).mono ?_); rintro e w1 ⟨rfl, hb⟩; have n0 := Aside0.mk (below_step HB.out hb); clear HB hb; have HB := n0; clear n0) | (go_at_call 15; (with_reducible refine (H1.out _).mono ?_); rintro e w1 ⟨rfl, hb⟩; have n0 := Aside0.mk (below_step HB.out hb); clear HB hb; have HB := n0; clear n0) | (go_at_call 16; (with_reducible refine (H2.out _).mono ?_); rintro e w1 ⟨rfl, rfl⟩))
  go_ret
  exact ⟨congrArg Ending.returned (congrArg Value.bool (by simp)), HB.out⟩
theorem part_none (x g L : Int) (h : L = 0 ∨ 4611686018427387904 < L) : root_Part.f x g L = some 0 := by
  unfold root_Part.f
  rcases h with rfl | h
  · rw [if_pos rfl]
  · rw [if_neg (by omega), if_pos (by omega)]
theorem part_some (x g L : Int) (hL0 : 1 ≤ L) (hL1 : L ≤ 4611686018427387904) (hx0 : -2147483648 ≤ x) (hx1 : x ≤ 2147483647) :
    root_Part.f x g L = some (Int.tdiv (x * min (max g (-1073741824)) 1073741824) L) := by
  unfold root_Part.f
  rw [if_neg (by omega), if_neg (by omega), w64 (n := L) (by omega) (by omega), if_neg (by omega), w64 (n := x) (by omega) (by omega), mx_eq, mn_eq]
  obtain ⟨G, hG⟩ : ∃ G, min (max g (-1073741824)) 1073741824 = G := ⟨_, rfl⟩
  rw [hG]
  have hb := mul_range (a := x) (b := G) (by omega) (by omega) (by omega) (by omega)
  have hd := Int.natAbs_tdiv (x * G) L
  have hle : (x * G).natAbs / L.natAbs ≤ (x * G).natAbs := Nat.div_le_self _ _
  have hd2 : (Int.tdiv (x * G) L).natAbs ≤ (x * G).natAbs := by rw [hd]; exact hle
  rw [w64 (n := x * G) (by omega) (by omega), w64 (by omega) (by omega)]
theorem parts_any (x g L : Int) (w : World) (hL0 : 0 ≤ L) (hL1 : L ≤ 18446744073709551615) (hx0 : -2147483648 ≤ x) (hx1 : x ≤ 2147483647) :
    Calls Try.prog 7 #[.int .i32 x, .int .i64 g, .int .u64 L] w fun e w' => e = .returned (.bool true) ∧ Below w.heap.size w w' := by
  by_cases hn : L = 0 ∨ 4611686018427387904 < L
  · exact parts_in x g L 0 w (fun w => root_Part.calls _ _ _ _ w (part_none x g L hn)) (fun w => ref_part_none x g L w hL0 hL1 hx0 hx1 hn)
  · have hl0 : 1 ≤ L := by omega
    have hl1 : L ≤ 4611686018427387904 := by omega
    obtain ⟨G, hG⟩ : ∃ G, min (max g (-1073741824)) 1073741824 = G := ⟨_, rfl⟩
    have hp := part_some x g L hl0 hl1 hx0 hx1
    rw [hG] at hp
    have hb := mul_range (a := x) (b := G) (by omega) (by omega) (by omega) (by omega)
    refine parts_in x g L (Int.tdiv (x * G) L) w (fun w => root_Part.calls _ _ _ _ w hp) (fun w => ?_)
    have key : ∀ p : Int, 0 ≤ p → (x * G = p → Int.tdiv (x * G) L = p / L) ∧ (x * G = -p → Int.tdiv (x * G) L = -(p / L)) := by
      intro p h0
      refine ⟨fun h => by rw [h, Int.tdiv_eq_ediv_of_nonneg h0], fun h => ?_⟩
      rw [h, Int.neg_tdiv, Int.tdiv_eq_ediv_of_nonneg h0]
    by_cases hs : x < 0
    · by_cases hg : G < 0
      · have hm : -x * -G = x * G := Int.neg_mul_neg x G
        have h0 : 0 ≤ x * G := Int.mul_nonneg_of_nonpos_of_nonpos (by omega) (by omega)
        exact ref_part_some x g L G (x * G) _ w hl0 hl1 hx0 hx1 (by omega) (.inl ⟨hs, hg, hm, (key _ h0).1 rfl⟩) h0 (by omega)
      · have hm : x * G = -(-x * G) := by rw [Int.neg_mul]; omega
        have h0 : 0 ≤ -x * G := Int.mul_nonneg (by omega) (by omega)
        exact ref_part_some x g L G (-x * G) _ w hl0 hl1 hx0 hx1 (by omega) (.inr (.inl ⟨hs, by omega, rfl, (key _ h0).2 hm⟩)) h0 (by omega)
    · by_cases hg : G < 0
      · have hm : x * G = -(x * -G) := by rw [Int.mul_neg]; omega
        have h0 : 0 ≤ x * -G := Int.mul_nonneg (by omega) (by omega)
        exact ref_part_some x g L G (x * -G) _ w hl0 hl1 hx0 hx1 (by omega) (.inr (.inr (.inl ⟨by omega, hg, rfl, (key _ h0).2 hm⟩))) h0 (by omega)
      · have h0 : 0 ≤ x * G := Int.mul_nonneg (by omega) (by omega)
        exact ref_part_some x g L G (x * G) _ w hl0 hl1 hx0 hx1 (by omega) (.inr (.inr (.inr ⟨by omega, by omega, rfl, (key _ h0).1 rfl⟩))) h0 (by omega)
end Go.Proofs.Ytiejkgapifpchaa.Parts
