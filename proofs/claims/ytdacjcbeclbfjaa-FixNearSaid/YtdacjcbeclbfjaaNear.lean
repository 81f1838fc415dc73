/- For any number from -2^50 to 2^50 (and beyond these the law asks nothing): rounded by 1 to 12 bits it is off by no more than a half, the next greater number is never rounded to less, and what fits in so many bits stays. Conditions: none but that each number fits its type. -/
import Derived.Test.YtdacjcbeclbfjaaOFixTwicex1
import Derived.Test.YtdacjcbeclbfjaaMath
namespace Go.Proofs.Ytdacjcbeclbfjaa.Near
open Go.RowKit Go.Proofs.YtdacjcbeclbfjaaW.PrintWords Go.Proofs.YtdacjcbeclbfjaaW.PrintLast Go.Proofs.YtdacjcbeclbfjaaW.PrintMore
open Go.Proofs.Ytdacjcbeclbfjaa.OFixTwice Go.Proofs.Ytdacjcbeclbfjaa.Math
attribute [local go_sem] max2_int min2_int max_two min_two max_three min_three max_four min_four   -- for this text's walks alone
set_option linter.unusedVariables false
set_option linter.unusedSimpArgs false

/-- A number rounded by k bits, k above 0. -/
def rnd (x k : Int) : Int := x / 2 ^ (min k 62).toNat + x / 2 ^ ((min k 62) - 1).toNat % 2
/-- A number held in so many bits. -/
def st (x n : Int) : Int := min (max x (-(2 ^ (min (max n 1) 63 - 1).toNat))) (2 ^ (min (max n 1) 63 - 1).toNat - 1)

theorem st_is (x n : Int) : fix_Sat.f x n = some (st x n) := by
  unfold fix_Sat.f
  rw [mx_eq n, mn_eq (max n 1)]
  have hle : (2 : Int) ^ (min (max n 1) 63 - 1).toNat ≤ 4611686018427387904 := pow_le_62 (by omega)
  have hp : (0 : Int) < 2 ^ (min (max n 1) 63 - 1).toNat := Int.pow_pos (by decide)
  rw [w64 (n := 2 ^ _) (by omega) (by omega), w64 (by omega) (by omega), xor_i64_1' (by omega) (by omega), mx_eq, mn_eq]
  unfold st
  congr 1; omega

theorem rnd_small {x k : Int} (hx0 : -1125899906842625 ≤ x) (hx1 : x ≤ 1125899906842625) (hk : 0 < k) (hk2 : k ≤ 12) : fix_Round.f x k = some (rnd x k) := by
  unfold fix_Round.f
  have hm : mn k 62 = k := by rw [mn_eq]; omega
  have e1 : wrap64 (k - 1) = k - 1 := w64 (by omega) (by omega)
  rw [if_neg (by omega), hm, if_pos (by omega), e1, if_pos (by omega)]
  have e2 : shr .i64 x (k - 1) = x / 2 ^ (k - 1).toNat := by
    unfold shr
    have : min (k - 1).toNat IntKind.i64.bits = (k - 1).toNat := by simp [IntKind.bits]; omega
    rw [this]
  have e3 : bits .and .i64 (x / 2 ^ (k - 1).toNat) 1 = x / 2 ^ (k - 1).toNat % 2 := and_i64 _ 1 (by decide)
  rw [e2, e3]
  have hmin : min k 62 = k := by omega
  unfold rnd
  rw [hmin]
  congr 1
  have hp : (0 : Int) < 2 ^ k.toNat := Int.pow_pos (by decide)
  have hq := div_le_self_abs x (2 ^ k.toNat) hp
  exact w64 (by omega) (by omega)

theorem awake_any (w : World) : Calls Try.prog 10 #[] w fun e w' => e = .returned (.bool true) ∧ Below w.heap.size w w' :=
  spinetlaw01_awake.calls true w (by decide +kernel)
set_option maxHeartbeats 1000000 in
set_option maxRecDepth 100000 in
theorem near_in (R S : Int → Int → Int) (x s n : Int) (hR : ∀ (y k : Int) w, -1125899906842625 ≤ y → y ≤ 1125899906842625 → 0 < k → k ≤ 12 → Calls Try.prog 16 #[.int .i64 y, .int .i64 k] w fun e w' => e = .returned (.int .i64 (R y k)) ∧ Below w.heap.size w w')
    (hS : ∀ (y k : Int) w, Calls Try.prog 20 #[.int .i64 y, .int .i64 k] w fun e w' => e = .returned (.int .i64 (S y k)) ∧ Below w.heap.size w w')
    (w : World) (hx0 : -1125899906842624 ≤ x) (hx1 : x ≤ 1125899906842624) (hs0 : 0 ≤ s) (hs1 : s ≤ 255) (hn0 : 0 ≤ n) (hn1 : n ≤ 255)
    (h1 : wrap64 (wrap64 (R x (s % 12 + 1) * 2 ^ (s % 12 + 1 + 1).toNat) - x * 2) ≤ wrap64 (2 ^ (s % 12 + 1).toNat))
    (h2 : wrap64 (-2 ^ (s % 12 + 1).toNat) < wrap64 (wrap64 (R x (s % 12 + 1) * 2 ^ (s % 12 + 1 + 1).toNat) - x * 2))
    (h3 : R x (s % 12 + 1) ≤ R (x + 1) (s % 12 + 1)) (h4 : S (S x n) n = S x n) (h5 : S x 52 = x) :
    Calls Try.prog 6 #[.int .i64 x, .int .u8 s, .int .u8 n] w fun e w' => e = .returned (.bool true) ∧ Below w.heap.size w w' := by
  have HR := Aside0.mk hR
  have HS := Aside0.mk hS
  have H4 := Aside0.mk h4
  have H5 := Aside0.mk h5
  have HB := Aside0.mk (Below.refl w.heap.size w)
  clear hR hS h4 h5
  go_enter Try.func6, Try.ntmps6
  go_wp2_with (first | (go_at_call 10; refine (awake_any _).mono ?_; rintro e w1 ⟨rfl, hb⟩; have n0 := Aside0.mk (below_step HB.out hb); clear HB hb; have HB := n0; clear n0) | (go_at_call 16; refine (HR.out _ _ _ (by omega) (by omega) (by omega) (by omega)).mono ?_; rintro e w1 ⟨rfl, hb⟩; have n0 := Aside0.mk (below_step HB.out hb); clear HB hb; have HB := n0; clear n0) | (go_at_call 20; refine (HS.out _ _ _).mono ?_; rintro e w1 ⟨rfl, hb⟩; have n0 := Aside0.mk (below_step HB.out hb); clear HB hb; have HB := n0; clear n0))
  · go_ret
    exact ⟨congrArg _ (congrArg Value.bool (by rw [H5.out]; simp)), HB.out⟩
  · exact absurd H4.out ‹_›

set_option maxHeartbeats 1000000 in
set_option maxRecDepth 100000 in
theorem near_high (x s n : Int) (w : World) (hx : 1125899906842624 < x) :
    Calls Try.prog 6 #[.int .i64 x, .int .u8 s, .int .u8 n] w fun e w' => e = .returned (.bool true) ∧ Below w.heap.size w w' := by
  have HB := Aside0.mk (Below.refl w.heap.size w)
  go_enter Try.func6, Try.ntmps6
  go_wp2_with (first | (go_at_call 10; refine (awake_any _).mono ?_; rintro e w1 ⟨rfl, hb⟩; have n0 := Aside0.mk (below_step HB.out hb); clear HB hb; have HB := n0; clear n0))
  go_ret
  exact ⟨rfl, HB.out⟩
set_option maxHeartbeats 1000000 in
set_option maxRecDepth 100000 in
theorem near_low (x s n : Int) (w : World) (hx : x < -1125899906842624) :
    Calls Try.prog 6 #[.int .i64 x, .int .u8 s, .int .u8 n] w fun e w' => e = .returned (.bool true) ∧ Below w.heap.size w w' := by
  have HB := Aside0.mk (Below.refl w.heap.size w)
  go_enter Try.func6, Try.ntmps6
  go_wp2_with (first | (go_at_call 10; refine (awake_any _).mono ?_; rintro e w1 ⟨rfl, hb⟩; have n0 := Aside0.mk (below_step HB.out hb); clear HB hb; have HB := n0; clear n0))
  go_ret
  exact ⟨rfl, HB.out⟩

/-- The plain law of the rounded number: x is 2^k q + r, and 2^k is twice 2^(k-1). -/
theorem rnd_off (x : Int) (m : Nat) : 2 * 2 ^ (m + 1) * (x / 2 ^ (m + 1) + x / 2 ^ m % 2) - x * 2 ≤ 2 ^ (m + 1) ∧ -(2 ^ (m + 1)) < 2 * 2 ^ (m + 1) * (x / 2 ^ (m + 1) + x / 2 ^ m % 2) - x * 2 := by
  have hp : (0 : Int) < 2 ^ m := Int.pow_pos (by decide)
  have e : (2 : Int) ^ (m + 1) = 2 ^ m * 2 := Int.pow_succ 2 m
  have hd : x / 2 ^ (m + 1) = x / 2 ^ m / 2 := by rw [e, Int.ediv_ediv_of_nonneg (by omega)]
  rw [hd, e]
  have h1 := Int.mul_ediv_add_emod x (2 ^ m)
  have h2 : 0 ≤ x % 2 ^ m := Int.emod_nonneg _ (by omega)
  have h3 : x % 2 ^ m < 2 ^ m := Int.emod_lt_of_pos _ hp
  generalize x / 2 ^ m = y at *
  generalize x % 2 ^ m = r at *
  have h4 : y / 2 + y % 2 = y - y / 2 := by omega
  have h5 : y = 2 * (y / 2) + y % 2 := by omega
  generalize (2 : Int) ^ m = p at *
  rw [h4]
  have key : 2 * (p * 2) * (y - y / 2) - x * 2 = 2 * p * (y % 2) - 2 * r := by
    have : y - y / 2 = y / 2 + y % 2 := by omega
    rw [this, ← h1]
    generalize y / 2 = z at *
    generalize y % 2 = b at *
    rw [h5]
    have a1 : p * (2 * z + b) = 2 * (p * z) + p * b := by rw [Int.mul_add, Int.mul_left_comm]
    have a2 : 2 * (p * 2) * (z + b) = 4 * (p * z) + 4 * (p * b) := by
      have : 2 * (p * 2) = 4 * p := by omega
      rw [this, Int.mul_add, Int.mul_assoc, Int.mul_assoc]
    have a3 : 2 * p * b = 2 * (p * b) := Int.mul_assoc _ _ _
    rw [a1, a2, a3]
    omega
  rw [key]
  rcases (by omega : y % 2 = 0 ∨ y % 2 = 1) with h | h
  · rw [h]; omega
  · rw [h]; omega
theorem rnd_mono (x y : Int) (m : Nat) (h : x ≤ y) : x / 2 ^ (m + 1) + x / 2 ^ m % 2 ≤ y / 2 ^ (m + 1) + y / 2 ^ m % 2 := by
  have hp : (0 : Int) < 2 ^ m := Int.pow_pos (by decide)
  have e : (2 : Int) ^ (m + 1) = 2 ^ m * 2 := Int.pow_succ 2 m
  rw [e, ← Int.ediv_ediv_of_nonneg (by omega), ← Int.ediv_ediv_of_nonneg (by omega)]
  have := Int.ediv_le_ediv hp h
  omega

theorem near_any (x s n : Int) (w : World) (w0 : (Lit.int .i64 x).wf = true) (w1 : (Lit.int .u8 s).wf = true) (w2 : (Lit.int .u8 n).wf = true) :
    Calls Try.prog 6 #[.int .i64 x, .int .u8 s, .int .u8 n] w fun e w' => e = .returned (.bool true) ∧ Below w.heap.size w w' := by
  obtain ⟨s0, s1⟩ := wf_u8 w1
  obtain ⟨n0, n1⟩ := wf_u8 w2
  by_cases hx0 : x < -1125899906842624
  · exact near_low x s n w hx0
  by_cases hx1 : 1125899906842624 < x
  · exact near_high x s n w hx1
  obtain ⟨m, hm⟩ : ∃ m : Nat, s % 12 + 1 = ((m + 1 : Nat) : Int) := ⟨(s % 12).toNat, by omega⟩
  have hm11 : m ≤ 11 := by omega
  have hR : rnd x (s % 12 + 1) = x / 2 ^ (m + 1) + x / 2 ^ m % 2 := by
    unfold rnd
    have e1 : (min (s % 12 + 1) 62).toNat = m + 1 := by omega
    have e2 : (min (s % 12 + 1) 62 - 1).toNat = m := by omega
    rw [e1, e2]
  have hR1 : rnd (x + 1) (s % 12 + 1) = (x + 1) / 2 ^ (m + 1) + (x + 1) / 2 ^ m % 2 := by
    unfold rnd
    have e1 : (min (s % 12 + 1) 62).toNat = m + 1 := by omega
    have e2 : (min (s % 12 + 1) 62 - 1).toNat = m := by omega
    rw [e1, e2]
  have e3 : (s % 12 + 1 + 1).toNat = m + 2 := by omega
  have e4 : (s % 12 + 1).toNat = m + 1 := by omega
  have hoff := rnd_off x m
  have hmono := rnd_mono x (x + 1) m (by omega)
  have hp : (0 : Int) < 2 ^ (m + 1) := Int.pow_pos (by decide)
  have hle : (2 : Int) ^ (m + 1) ≤ 4096 := by
    have := Nat.pow_le_pow_right (n := 2) (by decide) (show m + 1 ≤ 12 by omega)
    have h2 := Int.ofNat_le.mpr this
    rw [Int.natCast_pow] at h2
    exact h2
  have e5 : (2 : Int) ^ (m + 2) = 2 * 2 ^ (m + 1) := by rw [Int.pow_succ 2 (m + 1)]; omega
  have hmul : rnd x (s % 12 + 1) * 2 ^ (s % 12 + 1 + 1).toNat = 2 * 2 ^ (m + 1) * (x / 2 ^ (m + 1) + x / 2 ^ m % 2) := by
    rw [hR, e3, e5, Int.mul_comm]
  refine near_in rnd st x s n (fun y k w h1 h2 h3 h4 => fix_Round.calls _ _ _ w (rnd_small h1 h2 h3 h4)) (fun y k w => fix_Sat.calls _ _ _ w (st_is y k)) w (by omega) (by omega) s0 s1 n0 n1 ?_ ?_ ?_ ?_ ?_
  · rw [hmul, e4, w64 (n := 2 * 2 ^ (m + 1) * _) (by omega) (by omega), w64 (by omega) (by omega), w64 (by omega) (by omega)]
    exact hoff.1
  · rw [hmul, e4, w64 (n := 2 * 2 ^ (m + 1) * _) (by omega) (by omega), w64 (n := -2 ^ (m + 1)) (by omega) (by omega), w64 (by omega) (by omega)]
    exact hoff.2
  · rw [hR, hR1]; exact hmono
  · unfold st
    have hp2 : (0 : Int) < 2 ^ (min (max n 1) 63 - 1).toNat := Int.pow_pos (by decide)
    omega
  · unfold st
    have : (2 : Int) ^ (min (max 52 1) 63 - 1 : Int).toNat = 2251799813685248 := by decide +kernel
    rw [this]; omega
end Go.Proofs.Ytdacjcbeclbfjaa.Near
