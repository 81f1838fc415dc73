import Derived.Test.YtjpnbdofbkoddaaDoorMathU
import Derived.Test.YtjpnbdofbkoddaaDoorMgFU
import Derived.Test.YtjpnbdofbkoddaaDoorShapePlainU
import Derived.Test.YtjpnbdofbkoddaaDoorMgEU
namespace Go.Proofs.YtjpnbdofbkoddaaDoor.Sq
set_option linter.unusedVariables false
set_option linter.unusedSimpArgs false
theorem mmm (a b c d : Int) : a * b * (c * d) = a * c * (b * d) := by simp only [Int.mul_assoc, Int.mul_left_comm]
theorem sqnn (x : Int) : 0 ≤ x * x := by
  rcases Int.le_total 0 x with h | h
  · exact Int.mul_nonneg h h
  · exact Int.mul_nonneg_of_nonpos_of_nonpos h h
theorem le_of_sq {x y : Int} (hy : 0 ≤ y) (h : x * x ≤ y * y) : x ≤ y := by
  rcases Int.lt_or_le y x with hlt | hle
  · have h1 : y * y < x * x := by
      have a := Int.mul_lt_mul_of_pos_left hlt (show 0 < x by omega)
      have b := Int.mul_le_mul_of_nonneg_right (Int.le_of_lt hlt) hy
      omega
    omega
  · exact hle
theorem cauchy (e f u v : Int) : (e * u + f * v) * (e * u + f * v) ≤ (e * e + f * f) * (u * u + v * v) := by
  have h : (e * e + f * f) * (u * u + v * v) - (e * u + f * v) * (e * u + f * v) = (e * v - f * u) * (e * v - f * u) := by
    simp only [Int.sub_mul, Int.mul_sub, Int.add_mul, Int.mul_add]
    simp only [Int.mul_assoc, Int.mul_comm, Int.mul_left_comm]
    omega
  have h2 : 0 ≤ (e * v - f * u) * (e * v - f * u) := sqnn _
  omega
theorem rotated (c s a b : Int) : (c * a - s * b) * (c * a - s * b) + (s * a + c * b) * (s * a + c * b) = (c * c + s * s) * (a * a + b * b) := by
  simp only [Int.sub_mul, Int.mul_sub, Int.add_mul, Int.mul_add]
  simp only [Int.mul_assoc, Int.mul_comm, Int.mul_left_comm]
  omega
theorem expand (u e : Int) : (u + e) * (u + e) = u * u + 2 * (e * u) + e * e := by
  simp only [Int.add_mul, Int.mul_add]
  have := Int.mul_comm u e
  omega
theorem upper {N M D G E X L t : Int} (hL : 0 ≤ L) (h : 6400000000 * N ≤ L * L) (hD0 : 0 ≤ D) (hDN : D ≤ N) (hG0 : 0 ≤ G) (hG : G ≤ 1073766676) (hE0 : 0 ≤ E) (hE : E ≤ 536870912) (hX : X * X ≤ E * (G * D))
    (hM : 1073741824 * M = 1073741824 * (N - D) + G * D + 2 * X + E) (h1 : 24852 * L + 121481426240000 ≤ 2147483648 * t) (h2 : 60000 ≤ t) : 6400000000 * M ≤ (L + t) * (L + t) := by
  have hGD : G * D ≤ 1073766676 * D := Int.mul_le_mul_of_nonneg_right hG hD0
  have hGD0 : 0 ≤ G * D := Int.mul_nonneg hG0 hD0
  have hEG : E * (G * D) ≤ 536870912 * (G * D) := Int.mul_le_mul_of_nonneg_right hE hGD0
  have hY : 80000 * X ≤ 759258914 * L := by
    refine le_of_sq (by omega) ?_
    have a1 : 80000 * X * (80000 * X) = 6400000000 * (X * X) := by rw [mmm]; rfl
    have a2 : 759258914 * L * (759258914 * L) = 576474098488459396 * (L * L) := by rw [mmm]; rfl
    rw [a1, a2]
    omega
  have e1 : (L + t) * (L + t) = L * L + 2 * (t * L) + t * t := expand L t
  have e2 : 0 ≤ L * (2147483648 * t - (24852 * L + 121481426240000)) := Int.mul_nonneg hL (by omega)
  have e3 : L * (2147483648 * t - (24852 * L + 121481426240000)) = 2147483648 * (t * L) - 24852 * (L * L) - 121481426240000 * L := by
    rw [Int.mul_sub, Int.mul_add, Int.mul_left_comm, Int.mul_comm L t, Int.mul_left_comm L 24852 L, Int.mul_comm L 121481426240000]
    omega
  have e4 : 60000 * 60000 ≤ t * t := Int.mul_le_mul h2 h2 (by decide) (by omega)
  rw [e1]
  rw [e3] at e2
  omega
theorem lower {N M D G E X L t a : Int} (hL : 0 ≤ L) (h : L * L ≤ 6400000000 * N) (hD0 : 0 ≤ D) (hDN : D ≤ N) (hG0 : 1073721493 ≤ G) (hG : G ≤ 1073766676) (hE0 : 0 ≤ E) (hE : E ≤ 536870912) (hX : X * X ≤ E * (G * D))
    (hM : 1073741824 * M = 1073741824 * (N - D) + G * D + 2 * X + E) (ha : 27 ≤ a) (hLa : L ≤ 80000 * a) (hLb : 79971 * a - 1914000 ≤ L) (ht : t = a + 66000) : (L - t) * (L - t) ≤ 6400000000 * M := by
  have hGD1 : 1073721493 * D ≤ G * D := Int.mul_le_mul_of_nonneg_right hG0 hD0
  have hGD : G * D ≤ 1073766676 * D := Int.mul_le_mul_of_nonneg_right hG hD0
  have hGD0 : 0 ≤ G * D := Int.mul_nonneg (by omega) hD0
  have hEG : E * (G * D) ≤ 536870912 * (G * D) := Int.mul_le_mul_of_nonneg_right hE hGD0
  obtain ⟨Y, hYe⟩ : ∃ Y, Y = 80000 * (-X) := ⟨_, rfl⟩
  have hY2 : Y * Y ≤ 576474098488459396 * (6400000000 * N) := by
    have a1 : Y * Y = 6400000000 * (X * X) := by
      rw [hYe, mmm, Int.neg_mul_neg]; rfl
    rw [a1]
    omega
  have key : L * (1073721493 * L - 121481426240000) ≤ 1073721493 * (6400000000 * N) - 160000 * Y := by
    have e0 : L * (1073721493 * L - 121481426240000) = 1073721493 * (L * L) - 121481426240000 * L := by
      rw [Int.mul_sub, Int.mul_left_comm, Int.mul_comm L 121481426240000]
    rcases Int.lt_or_le (759258914 * L) Y with hlt | hle
    · have hYL : 0 ≤ Y - 759258914 * L := by omega
      have f0 : 0 ≤ 1073721493 * (Y + 759258914 * L) - 92235855758153503360000 := by omega
      have f1 := Int.mul_nonneg hYL f0
      have f2 : (Y - 759258914 * L) * (1073721493 * (Y + 759258914 * L) - 92235855758153503360000) = 1073721493 * (Y * Y) - 618972629704857665942998228 * (L * L) - 92235855758153503360000 * Y + 70030895674796275606408951040000 * L := by
        have g1 : (Y - 759258914 * L) * (Y + 759258914 * L) = Y * Y - 576474098488459396 * (L * L) := by
          rw [Int.sub_mul, Int.mul_add, Int.mul_add, mmm, Int.mul_comm (759258914 * L) Y]
          omega
        rw [Int.mul_sub, Int.mul_left_comm, g1, Int.mul_comm (Y - 759258914 * L)]
        omega
      rw [f2] at f1
      rw [e0]
      omega
    · rw [e0]
      omega
  have e1 : (L - t) * (L - t) = L * L - 2 * (t * L) + t * t := by
    rw [Int.sub_mul, Int.mul_sub, Int.mul_sub, Int.mul_comm L t]; omega
  -- what is left: a number above the square of what is taken off
  have r0 : 500000000 * a + 20250000000000 ≤ 2147483648 * t - (20331 * L + 121481426240000) := by omega
  have r1 : L * (500000000 * a + 20250000000000) ≤ L * (2147483648 * t - (20331 * L + 121481426240000)) := Int.mul_le_mul_of_nonneg_left r0 hL
  have r2 : (79971 * a - 1914000) * (500000000 * a + 20250000000000) ≤ L * (500000000 * a + 20250000000000) := Int.mul_le_mul_of_nonneg_right hLb (by omega)
  have r3 : L * (2147483648 * t - (20331 * L + 121481426240000)) = 2147483648 * (t * L) - 20331 * (L * L) - 121481426240000 * L := by
    rw [Int.mul_sub, Int.mul_add, Int.mul_left_comm, Int.mul_comm L t, Int.mul_left_comm L 20331 L, Int.mul_comm L 121481426240000]
    omega
  have r4 : (79971 * a - 1914000) * (500000000 * a + 20250000000000) = 39985500000000 * (a * a) + 1618455750000000000 * a - 38758500000000000000 := by
    rw [Int.sub_mul, Int.mul_add, Int.mul_add, mmm]
    omega
  have r5 : t * t = a * a + 132000 * a + 4356000000 := by
    rw [ht, Int.add_mul, Int.mul_add, Int.mul_add]; omega
  have r6 : 27 * a ≤ a * a := Int.mul_le_mul_of_nonneg_right ha (by omega)
  have e5 : L * (1073721493 * L - 121481426240000) = 1073721493 * (L * L) - 121481426240000 * L := by
    rw [Int.mul_sub, Int.mul_left_comm, Int.mul_comm L 121481426240000]
  rw [e1]
  rw [r3] at r1
  rw [r4] at r2
  rw [e5] at key
  omega
end Go.Proofs.YtjpnbdofbkoddaaDoor.Sq
namespace Go.Proofs.YtjpnbdofbkoddaaDoor.SpreadPlain
open Go.RowKit Go.Proofs.YtjpnbdofbkoddaaDoor.OShapeSeeds Go.Proofs.YtjpnbdofbkoddaaDoorW.PrintWords Go.Proofs.YtjpnbdofbkoddaaDoorW.PrintLast Go.Proofs.YtjpnbdofbkoddaaDoorW.PrintMore
open Go.Proofs.YtjpnbdofbkoddaaDoor.Math
theorem round_is {x s : Int} (h0 : -9223372036854775808 ≤ x) (h1 : x ≤ 9223372036854775807) : fix_Round.f x s = some (rnd x s) := by
  unfold fix_Round.f rnd
  by_cases hs : s ≤ 0
  · rw [if_pos hs, if_pos hs]
  rw [if_neg hs, if_neg hs, mn_eq]
  obtain ⟨n, hn⟩ : ∃ n : Nat, min s 62 = n := ⟨(min s 62).toNat, by omega⟩
  rw [hn]
  have e1 : wrap64 ((n : Int) - 1) = ((n - 1 : Nat) : Int) := by rw [w64 (by omega) (by omega)]; omega
  rw [if_pos (by omega), e1, if_pos (by omega), Int.toNat_natCast]
  have e2 : shr .i64 x ((n - 1 : Nat) : Int) = x / 2 ^ (n - 1) := by
    unfold shr
    have : min ((n - 1 : Nat) : Int).toNat IntKind.i64.bits = n - 1 := by simp [IntKind.bits]; omega
    rw [this]
  have e3 : bits .and .i64 (x / 2 ^ (n - 1)) 1 = x / 2 ^ (n - 1) % 2 := and_i64 _ 1 (by decide)
  rw [e2, e3]
  have hr := rn_range h0 h1 (n := n) (by omega)
  unfold rn at hr
  rw [w64 hr.2.2.1 hr.2.2.2]
  rfl
end Go.Proofs.YtjpnbdofbkoddaaDoor.SpreadPlain
namespace Go.Proofs.YtjpnbdofbkoddaaDoor.Sq
open Go.RowKit Go.Proofs.YtjpnbdofbkoddaaDoorW.PrintWords Go.Proofs.YtjpnbdofbkoddaaDoorW.PrintLast Go.Proofs.YtjpnbdofbkoddaaDoorW.PrintMore
open Go.Proofs.YtjpnbdofbkoddaaDoor.Spread (tn ta tb s32 rnd_is tn_len upw dnw upw_len dnw_len sp sp_len co si row)
open Go.Proofs.YtjpnbdofbkoddaaDoor.Math (w64 rd_mem rd_drop rnd15 mn_eq mx_eq)
set_option linter.unusedVariables false
set_option linter.unusedSimpArgs false
def sq : List Int → Int
  | [] => 0
  | x :: r => x * x + sq r
theorem sq_nn : ∀ l : List Int, 0 ≤ sq l
  | [] => by decide
  | x :: r => by have := sqnn x; have := sq_nn r; unfold sq; omega
theorem rd_zero (x : Int) (r : List Int) : rd (x :: r) 0 = x := rfl
theorem rd_next (x : Int) (r : List Int) (i : Nat) : rd (x :: r) ((i + 1 : Nat) : Int) = rd r (i : Int) := by
  unfold rd; rw [Int.toNat_natCast, Int.toNat_natCast]; rfl
theorem sq_set : ∀ (l : List Int) (i : Nat) (p : Int), i < l.length → sq (l.set i p) = sq l - rd l (i : Int) * rd l (i : Int) + p * p
  | [], _, _, h => by cases h
  | x :: r, 0, p, _ => by
    rw [List.set_cons_zero]; unfold sq
    rw [show ((0 : Nat) : Int) = 0 from rfl, rd_zero]; omega
  | x :: r, i + 1, p, h => by
    rw [List.set_cons_succ]; unfold sq
    rw [rd_next, sq_set r i p (by simpa using h)]; omega
theorem sq_two (l : List Int) (i : Nat) (h : i + 1 < l.length) : rd l (i : Int) * rd l (i : Int) + rd l ((i + 1 : Nat) : Int) * rd l ((i + 1 : Nat) : Int) ≤ sq l := by
  have h1 := sq_set l i 0 (by omega)
  have h2 := sq_set (l.set i 0) (i + 1) 0 (by rw [List.length_set]; exact h)
  have h3 := sq_nn ((l.set i 0).set (i + 1) 0)
  have e : rd (l.set i 0) ((i + 1 : Nat) : Int) = rd l ((i + 1 : Nat) : Int) := by
    unfold rd; rw [Int.toNat_natCast, List.getD_eq_getElem?_getD, List.getD_eq_getElem?_getD, List.getElem?_set_ne (by omega)]
  rw [e] at h2
  omega
theorem sq_one (l : List Int) (i : Nat) (h : i < l.length) : rd l (i : Int) * rd l (i : Int) ≤ sq l := by
  have h1 := sq_set l i 0 h
  have h3 := sq_nn (l.set i 0)
  omega
theorem sq_turn (c s : Int) (i : Nat) (l : List Int) (h : i + 1 < l.length) : sq (tn c s i l) = sq l - (rd l i * rd l i + rd l ((i : Int) + 1) * rd l ((i : Int) + 1)) + (ta c s (rd l i) (rd l ((i : Int) + 1)) * ta c s (rd l i) (rd l ((i : Int) + 1)) + tb c s (rd l i) (rd l ((i : Int) + 1)) * tb c s (rd l i) (rd l ((i : Int) + 1))) := by
  unfold tn
  have e : rd (l.set i (ta c s (rd l i) (rd l ((i : Int) + 1)))) ((i + 1 : Nat) : Int) = rd l ((i : Int) + 1) := by
    unfold rd
    rw [show ((i : Int) + 1).toNat = i + 1 by omega, Int.toNat_natCast i, Int.toNat_natCast (i + 1), List.getD_eq_getElem?_getD, List.getElem?_set_ne (by omega), List.getD_eq_getElem?_getD]
  rw [sq_set _ (i + 1) _ (by rw [List.length_set]; exact h), sq_set l i _ (by omega), e]
  omega
theorem rnd_in (x : Int) (h0 : -9223372036854775808 ≤ x) (h1 : x ≤ 9223372036854775807) : Spread.rnd x = (x + 16384) / 32768 := by
  have e1 := rnd_is x
  have e2 := SpreadPlain.round_is (x := x) (s := 15) h0 h1
  rw [rnd15] at e2
  exact Option.some.inj (e1.symm.trans e2)
theorem mul_small {c a : Int} (hc0 : 0 ≤ c) (hc : c ≤ 32768) (h0 : -8388608 ≤ a) (h1 : a ≤ 8388608) : -274877906944 ≤ c * a ∧ c * a ≤ 274877906944 := by
  have e1 := Int.mul_le_mul_of_nonneg_left h1 hc0
  have e2 := Int.mul_le_mul_of_nonneg_left h0 hc0
  constructor <;> omega
theorem ta_in {c s a b : Int} (hc0 : 0 ≤ c) (hc : c ≤ 32768) (hs0 : 0 ≤ s) (hs : s ≤ 32768) (ha0 : -8388608 ≤ a) (ha : a ≤ 8388608) (hb0 : -8388608 ≤ b) (hb : b ≤ 8388608) : ta c s a b = (c * a - s * b + 16384) / 32768 := by
  obtain ⟨p0, p1⟩ := mul_small hc0 hc ha0 ha
  obtain ⟨q0, q1⟩ := mul_small hs0 hs hb0 hb
  unfold ta s32
  rw [w64 (n := a) (by omega) (by omega), w64 (n := b) (by omega) (by omega), w64 (n := c * a) (by omega) (by omega), w64 (n := s * b) (by omega) (by omega), w64 (n := c * a - s * b) (by omega) (by omega), rnd_in _ (by omega) (by omega), mx_eq, mn_eq]
  omega
theorem tb_in {c s a b : Int} (hc0 : 0 ≤ c) (hc : c ≤ 32768) (hs0 : 0 ≤ s) (hs : s ≤ 32768) (ha0 : -8388608 ≤ a) (ha : a ≤ 8388608) (hb0 : -8388608 ≤ b) (hb : b ≤ 8388608) : tb c s a b = (s * a + c * b + 16384) / 32768 := by
  obtain ⟨p0, p1⟩ := mul_small hs0 hs ha0 ha
  obtain ⟨q0, q1⟩ := mul_small hc0 hc hb0 hb
  unfold tb s32
  rw [w64 (n := a) (by omega) (by omega), w64 (n := b) (by omega) (by omega), w64 (n := s * a) (by omega) (by omega), w64 (n := c * b) (by omega) (by omega), w64 (n := s * a + c * b) (by omega) (by omega), rnd_in _ (by omega) (by omega), mx_eq, mn_eq]
  omega
def Ang (c s : Int) : Prop := 0 ≤ c ∧ c ≤ 32768 ∧ 0 ≤ s ∧ s ≤ 32768 ∧ 1073721493 ≤ c * c + s * s ∧ c * c + s * s ≤ 1073766676
def hi (a : Int) (k : Nat) : Int := 80000 * (a + 1) + (k : Int) * (a + 60001)
def lo (a : Int) (k : Nat) : Int := 80000 * a - (k : Int) * (a + 66000)
theorem hi_next (a : Int) (k : Nat) : hi a (k + 1) = hi a k + (a + 60001) := by
  unfold hi; rw [show ((k + 1 : Nat) : Int) = (k : Int) + 1 by omega, Int.add_mul]; omega
theorem lo_next (a : Int) (k : Nat) : lo a (k + 1) = lo a k - (a + 66000) := by
  unfold lo; rw [show ((k + 1 : Nat) : Int) = (k : Int) + 1 by omega, Int.add_mul]; omega
theorem hi_in (a : Int) (k : Nat) (h0 : 0 ≤ a) (hk : k ≤ 29) : 0 ≤ hi a k ∧ hi a k ≤ 80029 * a + 1820029 := by
  have h1 : (k : Int) * (a + 60001) ≤ 29 * (a + 60001) := Int.mul_le_mul_of_nonneg_right (by omega) (by omega)
  have h2 : 0 ≤ (k : Int) * (a + 60001) := Int.mul_nonneg (by omega) (by omega)
  unfold hi; omega
theorem lo_in (a : Int) (k : Nat) (h0 : 27 ≤ a) (hk : k ≤ 29) : 0 ≤ lo a k ∧ lo a k ≤ 80000 * a ∧ 79971 * a - 1914000 ≤ lo a k := by
  have h1 : (k : Int) * (a + 66000) ≤ 29 * (a + 66000) := Int.mul_le_mul_of_nonneg_right (by omega) (by omega)
  have h2 : 0 ≤ (k : Int) * (a + 66000) := Int.mul_nonneg (by omega) (by omega)
  unfold lo; omega
structure Inv (a : Int) (k : Nat) (l : List Int) : Prop where
  up : 6400000000 * sq l ≤ hi a k * hi a k
  dn : 27 ≤ a → lo a k * lo a k ≤ 6400000000 * sq l
theorem Inv.small {a : Int} {k : Nat} {l : List Int} (h : Inv a k l) (h0 : 0 ≤ a) (ha : a ≤ 4194304) (hk : k ≤ 29) (i : Nat) (hi' : i < l.length) : -8388608 ≤ rd l (i : Int) ∧ rd l (i : Int) ≤ 8388608 := by
  have h1 := sq_one l i hi'
  have h2 := h.up
  obtain ⟨b0, b1⟩ := hi_in a k h0 hk
  have e : 80000 * rd l (i : Int) * (80000 * rd l (i : Int)) = 6400000000 * (rd l (i : Int) * rd l (i : Int)) := by rw [mmm]; rfl
  have e2 : 80000 * (-rd l (i : Int)) * (80000 * (-rd l (i : Int))) = 6400000000 * (rd l (i : Int) * rd l (i : Int)) := by rw [mmm, Int.neg_mul_neg]; rfl
  have g1 := le_of_sq (x := 80000 * rd l (i : Int)) b0 (by rw [e]; omega)
  have g2 := le_of_sq (x := 80000 * (-rd l (i : Int))) b0 (by rw [e2]; omega)
  omega
theorem Inv.turn {a c s : Int} {k : Nat} {l : List Int} (h : Inv a k l) (hA : Ang c s) (h0 : 0 ≤ a) (ha : a ≤ 4194304) (hk : k < 29) (i : Nat) (hi' : i + 1 < l.length) : Inv a (k + 1) (tn c s i l) := by
  obtain ⟨hc0, hc, hs0, hs, hG0, hG⟩ := hA
  have s1 := h.small h0 ha (by omega) i (by omega)
  have s2 := h.small h0 ha (by omega) (i + 1) hi'
  have h2 := sq_two l i hi'
  have ht := sq_turn c s i l hi'
  rw [show ((i + 1 : Nat) : Int) = (i : Int) + 1 by omega] at s2 h2
  obtain ⟨x, hx⟩ : ∃ x, rd l (i : Int) = x := ⟨_, rfl⟩
  obtain ⟨y, hy⟩ : ∃ y, rd l ((i : Int) + 1) = y := ⟨_, rfl⟩
  rw [hx] at s1 h2 ht
  rw [hy] at s2 h2 ht
  have ea := ta_in (c := c) (s := s) (a := x) (b := y) hc0 hc hs0 hs s1.1 s1.2 s2.1 s2.2
  have eb := tb_in (c := c) (s := s) (a := x) (b := y) hc0 hc hs0 hs s1.1 s1.2 s2.1 s2.2
  obtain ⟨p, hp⟩ : ∃ p, ta c s x y = p := ⟨_, rfl⟩
  obtain ⟨q, hq⟩ : ∃ q, tb c s x y = q := ⟨_, rfl⟩
  rw [hp] at ea ht
  rw [hq] at eb ht
  have hrot := rotated c s x y
  have hD0 : 0 ≤ x * x + y * y := by have := sqnn x; have := sqnn y; omega
  obtain ⟨u, hu⟩ : ∃ u, c * x - s * y = u := ⟨_, rfl⟩
  obtain ⟨v, hv⟩ : ∃ v, s * x + c * y = v := ⟨_, rfl⟩
  rw [hu] at ea hrot
  rw [hv] at eb hrot
  obtain ⟨e, he⟩ : ∃ e, e = 32768 * p - u := ⟨_, rfl⟩
  obtain ⟨f, hf⟩ : ∃ f, f = 32768 * q - v := ⟨_, rfl⟩
  have he2 : -16384 ≤ e ∧ e ≤ 16384 := by omega
  have hf2 : -16384 ≤ f ∧ f ≤ 16384 := by omega
  have hE1 : e * e ≤ 268435456 := by
    rcases Int.le_total 0 e with h | h
    · have := Int.mul_le_mul he2.2 he2.2 h (by decide); omega
    · have := Int.mul_le_mul (show -e ≤ 16384 by omega) (show -e ≤ 16384 by omega) (by omega) (by decide); rw [Int.neg_mul_neg] at this; omega
  have hF1 : f * f ≤ 268435456 := by
    rcases Int.le_total 0 f with h | h
    · have := Int.mul_le_mul hf2.2 hf2.2 h (by decide); omega
    · have := Int.mul_le_mul (show -f ≤ 16384 by omega) (show -f ≤ 16384 by omega) (by omega) (by decide); rw [Int.neg_mul_neg] at this; omega
  have hE0 : 0 ≤ e * e + f * f := by have := sqnn e; have := sqnn f; omega
  have hX := cauchy e f u v
  rw [hrot] at hX
  have hp2 : 1073741824 * (p * p) = u * u + 2 * (e * u) + e * e := by
    have e1 : (u + e) * (u + e) = 1073741824 * (p * p) := by rw [show u + e = 32768 * p by omega, mmm]; rfl
    rw [← e1, expand]
  have hq2 : 1073741824 * (q * q) = v * v + 2 * (f * v) + f * f := by
    have e1 : (v + f) * (v + f) = 1073741824 * (q * q) := by rw [show v + f = 32768 * q by omega, mmm]; rfl
    rw [← e1, expand]
  have hM : 1073741824 * sq (tn c s i l) = 1073741824 * (sq l - (x * x + y * y)) + (c * c + s * s) * (x * x + y * y) + 2 * (e * u + f * v) + (e * e + f * f) := by
    rw [← hrot, ht]; omega
  have HX := hX
  clear hX hrot
  constructor
  · rw [hi_next]
    obtain ⟨b0, b1⟩ := hi_in a k h0 (by omega)
    exact upper b0 h.up hD0 h2 (by omega) hG hE0 (by omega) HX hM (by omega) (by omega)
  · intro h27
    rw [lo_next]
    obtain ⟨b0, b1, b2⟩ := lo_in a k h27 (by omega)
    exact lower b0 (h.dn h27) hD0 h2 hG0 hG hE0 (by omega) HX hM h27 b1 b2 rfl
theorem Inv.up_ {a c s : Int} (hA : Ang c s) (h0 : 0 ≤ a) (ha : a ≤ 4194304) : ∀ (d i k : Nat) (l : List Int), Inv a k l → i + d + 1 ≤ l.length → k + d ≤ 29 → Inv a (k + d) (upw c s d i l)
  | 0, i, k, l, h, _, _ => h
  | d + 1, i, k, l, h, hl, hk => by
    rw [upw, show k + (d + 1) = k + 1 + d by omega]
    exact Inv.up_ hA h0 ha d (i + 1) (k + 1) _ (h.turn hA h0 ha (by omega) i (by omega)) (by rw [tn_len]; omega) (by omega)
theorem Inv.dn_ {a c s : Int} (hA : Ang c s) (h0 : 0 ≤ a) (ha : a ≤ 4194304) : ∀ (m k : Nat) (l : List Int), Inv a k l → m + 1 ≤ l.length → k + m ≤ 29 → Inv a (k + m) (dnw c s m l)
  | 0, k, l, h, _, _ => h
  | m + 1, k, l, h, hl, hk => by
    rw [dnw, show k + (m + 1) = k + 1 + m by omega]
    exact Inv.dn_ hA h0 ha m (k + 1) _ (h.turn hA h0 ha (by omega) m (by omega)) (by rw [tn_len]; omega) (by omega)
theorem ang_of (b : Int) (h : si b ≠ 0) : Ang (co b) (si b) := by
  unfold co si at *
  unfold row at *
  by_cases h0 : b ≤ 0
  · rw [if_pos h0] at h; exact absurd rfl h
  · rw [if_neg h0] at h ⊢
    by_cases h1 : b = 1
    · rw [if_pos h1]; unfold Ang; decide
    · rw [if_neg h1]
      by_cases h2 : b = 2
      · rw [if_pos h2]; unfold Ang; decide
      · rw [if_neg h2]; unfold Ang; decide
theorem spread_inv (b a : Int) (l : List Int) (hl : l.length ≤ 16) (h0 : 0 ≤ a) (ha : a ≤ 4194304) (h1 : a * a ≤ sq l) (h2 : sq l < (a + 1) * (a + 1)) : ∃ k, k ≤ 29 ∧ Inv a k (sp b l) := by
  have hI : Inv a 0 l := by
    have e1 : hi a 0 * hi a 0 = 6400000000 * ((a + 1) * (a + 1)) := by unfold hi; rw [show ((0 : Nat) : Int) = 0 from rfl, Int.zero_mul, Int.add_zero, mmm]; rfl
    have e2 : lo a 0 * lo a 0 = 6400000000 * (a * a) := by unfold lo; rw [show ((0 : Nat) : Int) = 0 from rfl, Int.zero_mul, Int.sub_zero, mmm]; rfl
    exact ⟨by rw [e1]; omega, fun _ => by rw [e2]; omega⟩
  unfold sp
  by_cases hs : si b = 0
  · rw [if_pos hs]; exact ⟨0, by omega, hI⟩
  · rw [if_neg hs]
    have hA := ang_of b hs
    by_cases hz : l.length = 0
    · rw [hz]; exact ⟨0, by omega, hI⟩
    · have g1 := Inv.up_ hA h0 ha (l.length - 1) 0 0 l hI (by omega) (by omega)
      have g2 := Inv.dn_ hA h0 ha (l.length - 2) _ _ g1 (by rw [upw_len]; omega) (by omega)
      exact ⟨_, by omega, g2⟩
theorem length_law (a b k : Int) (l : List Int) (K : Nat) (hK : K ≤ 29) (h0 : 0 ≤ a) (hb : 0 ≤ b) (h : Inv a K l) (h1 : b * b ≤ sq l) (h2 : sq l < (b + 1) * (b + 1)) : b ≤ a + (a / 1000 + 26) ∧ a - (a / 1000 + 26) ≤ b := by
  obtain ⟨b0, b1⟩ := hi_in a K h0 hK
  have e1 : 80000 * b * (80000 * b) = 6400000000 * (b * b) := by rw [mmm]; rfl
  have g1 := le_of_sq (x := 80000 * b) b0 (by rw [e1]; have := h.up; omega)
  refine ⟨by omega, ?_⟩
  by_cases h27 : 27 ≤ a
  · obtain ⟨c0, c1, c2⟩ := lo_in a K h27 hK
    have e2 : 80000 * (b + 1) * (80000 * (b + 1)) = 6400000000 * ((b + 1) * (b + 1)) := by rw [mmm]; rfl
    have g2 := le_of_sq (x := lo a K) (y := 80000 * (b + 1)) (by omega) (by rw [e2]; have := h.dn h27; omega)
    omega
  · omega
end Go.Proofs.YtjpnbdofbkoddaaDoor.Sq
namespace Go.Proofs.YtjpnbdofbkoddaaDoor.Sq
open Go.RowKit Go.Proofs.YtjpnbdofbkoddaaDoorW.PrintWords Go.Proofs.YtjpnbdofbkoddaaDoorW.PrintLast Go.Proofs.YtjpnbdofbkoddaaDoorW.PrintMore
open Go.Proofs.YtjpnbdofbkoddaaDoor.Spread (tn ta tb s32 rnd_is tn_len upw dnw upw_len dnw_len sp sp_len co si row)
open Go.Proofs.YtjpnbdofbkoddaaDoor.Math (w64 u64_in mx_eq mn_eq)
open Go.Proofs.YtjpnbdofbkoddaaDoor.OShapeScales (nsum yv)
set_option linter.unusedVariables false
set_option linter.unusedSimpArgs false
def Sm (x : Int) : Prop := -1048576 ≤ x ∧ x ≤ 1048576
def Md (x : Int) : Prop := -8388608 ≤ x ∧ x ≤ 8388608
theorem md_sq {x : Int} (h : Md x) : 0 ≤ x * x ∧ x * x ≤ 70368744177664 := by
  refine ⟨sqnn x, ?_⟩
  rcases Int.le_total 0 x with h1 | h1
  · have := Int.mul_le_mul h.2 h.2 h1 (by decide); omega
  · have := Int.mul_le_mul (show -x ≤ 8388608 by have := h.1; omega) (show -x ≤ 8388608 by have := h.1; omega) (by omega) (by decide); rw [Int.neg_mul_neg] at this; omega
theorem sm_sq {x : Int} (h : Sm x) : 0 ≤ x * x ∧ x * x ≤ 1099511627776 := by
  refine ⟨sqnn x, ?_⟩
  rcases Int.le_total 0 x with h1 | h1
  · have := Int.mul_le_mul h.2 h.2 h1 (by decide); omega
  · have := Int.mul_le_mul (show -x ≤ 1048576 by have := h.1; omega) (show -x ≤ 1048576 by have := h.1; omega) (by omega) (by decide); rw [Int.neg_mul_neg] at this; omega
theorem sq_le : ∀ (l : List Int) (c : Int), (∀ x ∈ l, x * x ≤ c) → sq l ≤ (l.length : Int) * c
  | [], c, _ => by simp [sq]
  | x :: r, c, h => by
    have h1 := h x (by simp)
    have h2 := sq_le r c (fun y hy => h y (by simp [hy]))
    unfold sq
    rw [List.length_cons, show ((r.length + 1 : Nat) : Int) = (r.length : Int) + 1 by omega, Int.add_mul]
    omega
theorem nsum_is : ∀ (l : List Int) (s : Int), (∀ x ∈ l, Md x) → 0 ≤ s → s + (l.length : Int) * 70368744177664 ≤ 9223372036854775807 → nsum l s = s + sq l
  | [], s, _, _, _ => by simp [nsum, sq]
  | x :: r, s, h, h0, hs => by
    have hx := h x (by simp)
    have hq := md_sq hx
    rw [List.length_cons, show ((r.length + 1 : Nat) : Int) = (r.length : Int) + 1 by omega, Int.add_mul] at hs
    have hr : 0 ≤ (r.length : Int) * 70368744177664 := by omega
    have hy : yv x = x := by unfold yv; rw [mx_eq, mn_eq]; unfold Md at hx; omega
    unfold nsum sq
    rw [hy, w64 (n := x * x) (by omega) (by omega), u64_in (n := x * x) (by omega) (by omega), u64_in (n := s + x * x) (by omega) (by omega), nsum_is r (s + x * x) (fun y hy => h y (by simp [hy])) (by omega) (by omega)]
    omega
def len (l : List Int) : Nat := ShapePlain.isq (sq l).toNat
theorem len_sq (l : List Int) : (len l : Int) * (len l : Int) ≤ sq l ∧ sq l < ((len l : Int) + 1) * ((len l : Int) + 1) := by
  obtain ⟨h1, h2⟩ := ShapePlain.isq_is (sq l).toNat
  have h0 := sq_nn l
  unfold len
  generalize ShapePlain.isq (sq l).toNat = s at *
  have e1 : ((s * s : Nat) : Int) = (s : Int) * (s : Int) := Int.natCast_mul s s
  have e2 : (((s + 1) * (s + 1) : Nat) : Int) = ((s : Int) + 1) * ((s : Int) + 1) := by rw [Int.natCast_mul]; rfl
  generalize (s : Int) * (s : Int) = p at *
  generalize ((s : Int) + 1) * ((s : Int) + 1) = q at *
  omega
theorem law_of (b : Int) (l : List Int) (hl : l.length ≤ 16) (h : ∀ x ∈ l, Sm x) : (∀ x ∈ sp b l, Md x) ∧ (len l : Int) ≤ 4194304 ∧ (len (sp b l) : Int) ≤ 8388608 ∧ (len (sp b l) : Int) ≤ (len l : Int) + ((len l : Int) / 1000 + 26) ∧ (len l : Int) - ((len l : Int) / 1000 + 26) ≤ (len (sp b l) : Int) := by
  obtain ⟨h1, h2⟩ := len_sq l
  have hq := sq_le l 1099511627776 (fun x hx => (sm_sq (h x hx)).2)
  have hle : (l.length : Int) * 1099511627776 ≤ 16 * 1099511627776 := Int.mul_le_mul_of_nonneg_right (by omega) (by decide)
  have ha : (len l : Int) ≤ 4194304 := le_of_sq (by decide) (by omega)
  obtain ⟨K, hK, hI⟩ := spread_inv b (len l) l hl (by omega) ha h1 h2
  have hsp := sp_len b l
  obtain ⟨g1, g2⟩ := len_sq (sp b l)
  have hlaw := length_law (len l) (len (sp b l)) 0 (sp b l) K hK (by omega) (by omega) hI g1 g2
  refine ⟨fun x hx => ?_, ha, by omega, hlaw⟩
  obtain ⟨i, hi, rfl⟩ := List.getElem_of_mem hx
  have := hI.small (by omega) ha hK i hi
  unfold rd at this
  rw [Int.toNat_natCast, List.getD_eq_getElem?_getD, List.getElem?_eq_getElem hi] at this
  exact this
end Go.Proofs.YtjpnbdofbkoddaaDoor.Sq
namespace Go.Proofs.YtjpnbdofbkoddaaDoor.Sh
open Go.RowKit Go.Proofs.YtjpnbdofbkoddaaDoorW.PrintWords Go.Proofs.YtjpnbdofbkoddaaDoorW.PrintLast Go.Proofs.YtjpnbdofbkoddaaDoorW.PrintMore
open Go.Proofs.YtjpnbdofbkoddaaDoor.OShapeSeeds Go.Proofs.YtjpnbdofbkoddaaDoor.Sy Go.Proofs.YtjpnbdofbkoddaaDoor.SyWalk Go.Proofs.YtjpnbdofbkoddaaDoor.WrWalk
open Go.Proofs.YtjpnbdofbkoddaaDoor.ShapePlain (sc sc_len sc_in)
open Go.Proofs.YtjpnbdofbkoddaaDoor.NoisePlain (fo fo_len fo_in hd lcg nz fz fv em)
open Go.Proofs.YtjpnbdofbkoddaaDoor.Spread (sp sp_len)
set_option linter.unusedVariables false
set_option linter.unusedSimpArgs false
structure Ask (cs wc : Array Value) (x a b : Int) (ps : List Int) (si it : Bool) (sp tr : Int) : Prop where
  sz : cs.size = 47
  c0 : cs[0]? = some (.int .u16 x)
  hx : 0 ≤ x ∧ x < 65536
  c1 : cs[1]? = some (.int .u8 a)
  c2 : cs[2]? = some (.int .u8 b)
  ha : 0 ≤ a ∧ a ≤ 255
  hb : 0 ≤ b ∧ b ≤ 255
  pl : ps.length = 10
  pr : ∀ p ∈ ps, 0 ≤ p ∧ p ≤ 255
  c3 : ∀ j v, (ps.map (Value.int .u8))[j]? = some v → cs[3 + j]? = some v
  wsz : wc.size = 34
  c13 : ∀ j v, wc.toList[j]? = some v → cs[13 + j]? = some v
  w : Wish wc si it sp tr
structure LI (w0 w : World) (cs : Array Value) (s c : Nat) (ps : List Int) (g5 g6 : Nat) : Prop where
  b : Below w0.heap.size w0 w
  a : w.heap[w0.heap.size]? = some (.cells cs 51 (0, 0))
  m : w.heap[g5]? = some (.cells #[.int .i64 (s : Int), .int .i64 (c : Int)] 53 (0, 0))
  p : w.heap[g6]? = some (.cells (ps.map (Value.int .i64)).toArray 55 (0, 0))
  n5 : w0.heap.size ≤ g5
  n6 : w0.heap.size ≤ g6
  lm : Mode.Laid w
  lp : Shape.Laid w
  ls : Spread.Laid w
section
variable {w0 w w1 : World} {cs : Array Value} {s c : Nat} {ps : List Int} {g5 g6 : Nat}
theorem LI.below (h : LI w0 w cs s c ps g5 g6) (hb : Below w.heap.size w w1) : LI w0 w1 cs s c ps g5 g6 :=
  ⟨below_step h.b hb, blk_below h.a hb, blk_below h.m hb, blk_below h.p hb, h.n5, h.n6, h.lm.below hb, h.lp.below hb, h.ls.below hb⟩
end
def Z2 : Array Value := #[.int .i64 0, .int .i64 0]
def Z10 : Array Value := #[.int .i64 0, .int .i64 0, .int .i64 0, .int .i64 0, .int .i64 0, .int .i64 0, .int .i64 0, .int .i64 0, .int .i64 0, .int .i64 0]
theorem z53 : (Tryd.prog.info? 53).map (·.zero) = some (some (.agg Z2)) := by kernel_rfl
theorem z55 : (Tryd.prog.info? 55).map (·.zero) = some (some (.agg Z10)) := by kernel_rfl
theorem z61 : (Tryd.prog.info? 61).map (·.zero) = some (some (.agg F0.cells.toArray)) := by kernel_rfl
theorem alloc_two {ops : Array Oper} {rest : List Oper} {o : Oper} {a : Act} {w1 : World} {Q : Exit → Act → World → Prop} (hg : o.guard = none) (ho : o.op = .alloc 55) (hd : o.dst = some 6)
    (h : ∀ W, W.heap[w1.heap.size]? = some (.cells Z2 53 (0, 0)) → W.heap[w1.heap.size + 1]? = some (.cells Z10 55 (0, 0)) → Below w1.heap.size w1 W → wpList Tryd.prog ops Q rest (a.put (some 6) (.pointer (some ⟨w1.heap.size + 1, 0, none⟩))) W) : wpList Tryd.prog ops Q (o :: rest) a (w1.alloc (.cells Z2 53)) := by
  refine alloc_to hg 55 ho _ z55 ?_
  have s1 : (w1.alloc (.cells Z2 53)).heap.size = w1.heap.size + 1 := by simp [World.alloc_eq]
  rw [hd, s1]
  refine h _ (blk_alloc (blk_new _ _) _) ?_ (below_alloc (below_alloc (Below.refl _ _) _) _)
  rw [← s1]; exact blk_new _ _
section
variable {P : Program}
theorem store_rowG {ops : Array Oper} {rest : List Oper} {o : Oper} {a : Act} {w : World} {Q : Exit → Act → World → Prop} (hgd : o.guard = none) (ty : TypeId) (x y : Operand) (ho : o.op = .store ty x y)
    (g : Nat) (cells : Array Value) (hx : a.eval x = .pointer (some ⟨g, 0, none⟩)) (hy : a.eval y = .agg cells)
    (t : TypeId) (old : Array Value) (hg : w.heap[g]? = some (.cells old t (0, 0))) (hi : (P.info? ty).map (·.size) = some cells.size)
    (hold : old.size = cells.size) (h1 : cells.all (·.oneCell') = true)
    (h : ∀ W, W.heap[g]? = some (.cells cells t (0, 0)) → (∀ k, k ≠ g → W.heap[k]? = w.heap[k]?) → (∀ B w0, Below B w0 w → B ≤ g → Below B w0 W) → wpList P ops Q rest (a.put o.dst undef) W) : wpList P ops Q (o :: rest) a w :=
  wpList_store_row hgd ty x y ho g cells hx hy t old hg hi hold h1 (h _ (setRow_heap _ _ _ _ _ _ hg) (fun k hk => setRow_other _ _ _ _ hk) (fun B w0 hb hB => below_setRow hb hB _))
theorem wp_alloc_to {o : Oper} {a : Act} {w : World} {K : Act → World → Prop} {Q : Exit → Act → World → Prop} (ty : TypeId) (ho : o.op = .alloc ty) (cs : Array Value)
    (hz : (P.info? ty).map (·.zero) = some (some (.agg cs))) (h : K (a.put o.dst (.pointer (some ⟨w.heap.size, 0, none⟩))) (w.alloc (.cells cs ty))) : Oper.wp P o a w K Q := by
  cases hq : P.info? ty with
  | none => simp [hq] at hz
  | some i =>
    have hz2 : i.zero = some (.agg cs) := by simpa [hq] using hz
    have hrun : (Instr.alloc ty true (.tuple #[])).run P w = .ok (.pointer (some ⟨w.heap.size, 0, none⟩)) (w.alloc (.cells cs ty)) := by
      simp [Instr.alloc, zeroValue, typeInfo, Sem.run_bind, hq, hz2, newVar, newRow, newObj, Value.cells, World.alloc_eq]; rfl
    unfold Oper.wp execOp
    simp only [ho, Sem.run_bind, hrun, Result.andThen_ok]
    exact h
end
theorem row53 (s c : Nat) : (#[Value.int .i64 (s : Int), .int .i64 (c : Int)] : Array Value).all (·.oneCell') = true := by simp [Value.oneCell']
theorem far_laid {w w1 : World} {g : Nat} (hg : 3 ≤ g) (hf : ∀ k, k ≠ g → w1.heap[k]? = w.heap[k]?) (h : Mode.Laid w ∧ Shape.Laid w ∧ Spread.Laid w) : Mode.Laid w1 ∧ Shape.Laid w1 ∧ Spread.Laid w1 :=
  ⟨mode_far h.1 (fun k hk => hf k (by omega)), pow_far h.2.1 (fun k hk => hf k (by omega)), spread_far h.2.2 (fun k hk => hf k (by omega))⟩
structure LF (w0 w : World) (cs : Array Value) (s c : Nat) (ps : List Int) (g5 g6 g7 : Nat) (f : Fr) : Prop where
  l : LI w0 w cs s c ps g5 g6
  f7 : w.heap[g7]? = some (.cells f.cells.toArray 61 (0, 0))
  n7 : w0.heap.size ≤ g7
theorem LF.below {w0 w w1 : World} {cs : Array Value} {s c : Nat} {ps : List Int} {g5 g6 g7 : Nat} {f : Fr} (h : LF w0 w cs s c ps g5 g6 g7 f) (hb : Below w.heap.size w w1) : LF w0 w1 cs s c ps g5 g6 g7 f :=
  ⟨h.l.below hb, blk_below h.f7 hb, h.n7⟩
theorem LI.frame {w0 w : World} {cs : Array Value} {s c : Nat} {ps : List Int} {g5 g6 g7 : Nat} {f : Fr} (h : LI w0 w cs s c ps g5 g6) (h3 : 3 ≤ w0.heap.size) (h7 : w.heap[g7]? = some (.cells F0.cells.toArray 61 (0, 0))) (hn : w0.heap.size < g7) : LF w0 (w.setRow g7 f.cells.toArray) cs s c ps g5 g6 g7 f := by
  have far : ∀ k, k ≠ g7 → (w.setRow g7 f.cells.toArray).heap[k]? = w.heap[k]? := fun k hk => setRow_other _ _ _ _ hk
  have e5 : g5 ≠ g7 := blk_ne h.m h7 (by decide)
  have e6 : g6 ≠ g7 := blk_ne h.p h7 (by decide)
  have hl := far_laid (by omega) far ⟨h.lm, h.lp, h.ls⟩
  exact ⟨⟨below_setRow h.b (by omega) _, (far _ (by omega)).trans h.a, (far _ e5).trans h.m, (far _ e6).trans h.p, h.n5, h.n6, hl.1, hl.2.1, hl.2.2⟩, setRow_heap _ _ _ _ _ _ h7, by omega⟩
theorem wish_range {w : World} {cs wc : Array Value} {x a b : Int} {ps : List Int} {si it : Bool} {sp tr : Int} {g t : Nat} (h : Ask cs wc x a b ps si it sp tr) (hg : w.heap[g]? = some (.cells cs t (0, 0))) : w.rangeAt g 13 wc.toList := fun j v hv => by
  rw [blk_cell hg]
  exact h.c13 j v hv
theorem laid_size {w : World} (ls : Spread.Laid w) : 3 ≤ w.heap.size := by have := World.block_lt_of_cell? w _ (ls 0 (by decide)).1; show 2 < _; exact this
end Go.Proofs.YtjpnbdofbkoddaaDoor.Sh
namespace Go.Proofs.YtjpnbdofbkoddaaDoor.Sh
open Go.RowKit Go.Proofs.YtjpnbdofbkoddaaDoorW.PrintWords Go.Proofs.YtjpnbdofbkoddaaDoorW.PrintLast Go.Proofs.YtjpnbdofbkoddaaDoorW.PrintMore
open Go.Proofs.YtjpnbdofbkoddaaDoor.OShapeSeeds
open Go.Proofs.YtjpnbdofbkoddaaDoor.Sq (sq sq_nn sq_le sq_one Sm Md nsum_is len_sq law_of le_of_sq)
open Go.Proofs.YtjpnbdofbkoddaaDoor.Math (w64)
open Go.Proofs.YtjpnbdofbkoddaaDoor.Shape (ex ld ld_is)
open Go.Proofs.YtjpnbdofbkoddaaDoor.ShapePlain (sc sc_len sc_in pv)
open Go.Proofs.YtjpnbdofbkoddaaDoor.OShapeScales (ptv)
open Go.Proofs.YtjpnbdofbkoddaaDoor.Spread (sp sp_len)
set_option linter.unusedVariables false
set_option linter.unusedSimpArgs false
theorem fine_tab : ∀ t : Fin 4, 0 ≤ wrap64 (shl .i64 1 ((t.val : Nat) : Int) - 1) ∧ wrap64 (shl .i64 1 ((t.val : Nat) : Int) - 1) ≤ 7 ∧ ∀ y : Fin 8, -4 ≤ wrap64 ((shr .i64 (wrap64 ((wrap64 ((wrap64 (2 * ((y.val : Nat) : Int))) + 1)) * 4)) ((t.val : Nat) : Int)) - 4) ∧ wrap64 ((shr .i64 (wrap64 ((wrap64 ((wrap64 (2 * ((y.val : Nat) : Int))) + 1)) * 4)) ((t.val : Nat) : Int)) - 4) ≤ 100 := by decide +kernel
theorem lou_big {e q f : Int} (he : 9 ≤ e) : 68 ≤ lou e q f := by
  have h : ∃ r, pow_Loud.f e q f = some r ∧ 68 ≤ r := by
    unfold pow_Loud.f pow_Fine.f pow_held.f
    simp only [Option.bind_some]
    rw [if_pos (by rw [mx_max, mn_min]; omega)]
    simp only [Option.bind_some]
    refine ⟨_, rfl, ?_⟩
    obtain ⟨t, ht⟩ : ∃ t : Nat, mn (mx f 0) 3 = t := ⟨(mn (mx f 0) 3).toNat, by rw [mx_max, mn_min]; omega⟩
    have ht3 : t < 4 := by rw [mx_max, mn_min] at ht; omega
    rw [ht]
    obtain ⟨h1, h2, h3⟩ := fine_tab ⟨t, ht3⟩
    generalize wrap64 (shl .i64 1 (t : Int) - 1) = u at *
    obtain ⟨y, hy⟩ : ∃ y : Nat, mn (mx q 0) u = y := ⟨(mn (mx q 0) u).toNat, by rw [mx_max, mn_min]; omega⟩
    have hy8 : y < 8 := by rw [mx_max, mn_min] at hy; omega
    rw [hy]
    have h4 := h3 ⟨y, hy8⟩
    generalize wrap64 ((shr .i64 (wrap64 ((wrap64 ((wrap64 (2 * (y : Int))) + 1)) * 4)) (t : Int)) - 4) = v at *
    rw [mx_max, mn_min, mx_max, mn_min, w64 (n := 8 * _) (by omega) (by omega), w64 (by omega) (by omega)]
    omega
  obtain ⟨r, hr, h2⟩ := h
  unfold lou
  rw [hr]
  exact h2
theorem ex_big : ∀ n : Nat, n < 321 → 68 ≤ n → 4 ≤ ex n := by decide +kernel
theorem ga_rd (l : List Int) (i : Nat) : ga l i = rd l (i : Int) := by unfold ga rd; rw [Int.toNat_natCast]
theorem ga_mem {l : List Int} {i : Nat} (h : i < l.length) : ga l i ∈ l := by
  unfold ga; rw [List.getD_eq_getElem?_getD, List.getElem?_eq_getElem h]; exact List.getElem_mem h
theorem asum_some : ∀ l : List Int, 0 < asum l → ∃ t, t < l.length ∧ ga l t ≠ 0
  | [], h => by simp [asum] at h
  | x :: l, h => by
    by_cases hx : x = 0
    · subst hx
      obtain ⟨t, h1, h2⟩ := asum_some l (by simpa [asum] using h)
      exact ⟨t + 1, by simp; omega, by simpa [ga] using h2⟩
    · exact ⟨0, by simp, by simpa [ga] using hx⟩
theorem plen (y : List Int) (hl : y.length ≤ 16) (h : ∀ x ∈ y, Md x) : ShapePlain.len y = (Sq.len y : Int) := by
  unfold ShapePlain.len Sq.len
  rw [List.take_of_length_le (by omega), nsum_is y 0 h (by decide) (by omega), Int.zero_add]
theorem part_big {g : Int} (hg : 4 ≤ g) {y : List Int} (hl : y.length ≤ 16) (h : ∀ x ∈ y, Md x) (hs : 1 ≤ sq y) : ∃ t, t < y.length ∧ pv g (ShapePlain.len y) (ga y t) ≠ 0 := by
  rw [plen y hl h]
  obtain ⟨l1, l2⟩ := len_sq y
  obtain ⟨L, hL⟩ : ∃ L, Sq.len y = L := ⟨_, rfl⟩
  rw [hL] at l1 l2 ⊢
  have hL1 : 1 ≤ L := by
    rcases Nat.eq_zero_or_pos L with h0 | h0
    · subst h0; simp at l2; omega
    · exact h0
  have hLb : (L : Int) ≤ 4611686018427387904 := by
    have hq := sq_le y 70368744177664 (fun x hx => (Sq.md_sq (h x hx)).2)
    have : (y.length : Int) * 70368744177664 ≤ 16 * 70368744177664 := Int.mul_le_mul_of_nonneg_right (by omega) (by decide)
    exact le_of_sq (by decide) (by omega)
  apply Classical.byContradiction
  intro hno
  have hz : ∀ x ∈ y, x.natAbs ≤ (L - 1) / 4 := by
    intro x hx
    obtain ⟨t, ht, rfl⟩ := List.getElem_of_mem hx
    have h0 : pv g (L : Int) (ga y t) = 0 := Classical.byContradiction fun hne => hno ⟨t, ht, hne⟩
    have e : ga y t = y[t] := by unfold ga; rw [List.getD_eq_getElem?_getD, List.getElem?_eq_getElem ht]; rfl
    rw [e] at h0
    generalize y[t] = x at *
    have h1 : Int.tdiv (x * min (max g (-1073741824)) 1073741824) (L : Int) = 0 := by
      unfold pv ptv at h0
      rw [if_neg (by omega)] at h0
      omega
    obtain ⟨G, hG⟩ : ∃ G, min (max g (-1073741824)) 1073741824 = G := ⟨_, rfl⟩
    rw [hG] at h1
    have hG4 : 4 ≤ G.natAbs := by omega
    have h2 := Int.natAbs_tdiv (x * G) (L : Int)
    rw [h1, Int.natAbs_mul, Int.natAbs_natCast] at h2
    have h3 : x.natAbs * G.natAbs < L := by
      rcases Nat.lt_or_ge (x.natAbs * G.natAbs) L with h | h
      · exact h
      · have h9 := Nat.div_pos h hL1
        have h8 : (0 : Int).natAbs = x.natAbs * G.natAbs / L := h2
        rw [← h8] at h9
        exact absurd h9 (by decide)
    have h4 : x.natAbs * 4 ≤ x.natAbs * G.natAbs := Nat.mul_le_mul_left _ hG4
    omega
  obtain ⟨m, hm⟩ : ∃ m, (L - 1) / 4 = m := ⟨_, rfl⟩
  rw [hm] at hz
  have hq := sq_le y ((m : Int) * (m : Int)) (fun x hx => by
    have h1 := hz x hx
    have h2 : (x.natAbs * x.natAbs : Nat) ≤ m * m := Nat.mul_le_mul h1 h1
    have h3 : ((x.natAbs * x.natAbs : Nat) : Int) = x * x := Int.natAbs_mul_self
    have h4 : ((m * m : Nat) : Int) = (m : Int) * (m : Int) := Int.natCast_mul m m
    omega)
  have h5 : (y.length : Int) * ((m : Int) * (m : Int)) ≤ 16 * ((m : Int) * (m : Int)) := Int.mul_le_mul_of_nonneg_right (by omega) (Int.mul_nonneg (by omega) (by omega))
  have h6 : (4 * m) * (4 * m) < L * L := Nat.mul_self_lt_mul_self (by omega)
  have h7 : ((4 * m) * (4 * m) : Nat) = 16 * (m * m) := by rw [Nat.mul_mul_mul_comm]
  have h8 : ((L * L : Nat) : Int) = (L : Int) * (L : Int) := Int.natCast_mul L L
  have h9 : ((m * m : Nat) : Int) = (m : Int) * (m : Int) := Int.natCast_mul m m
  omega
theorem pu1_in (x : Int) : -32768 ≤ pu1 x ∧ pu1 x ≤ 32768 := by unfold pu1; rw [mx_max, mn_min]; omega
theorem pu1_big {x : Int} (h : x ≠ 0) : 1048576 ≤ pu1 x * pu1 x := by
  have h1 : pu1 x ≤ -1024 ∨ 1024 ≤ pu1 x := by unfold pu1; rw [mx_max, mn_min]; omega
  rcases h1 with h1 | h1
  · have := Int.mul_le_mul (show 1024 ≤ -pu1 x by omega) (show 1024 ≤ -pu1 x by omega) (by decide) (by omega)
    rw [Int.neg_mul_neg] at this; omega
  · have := Int.mul_le_mul h1 h1 (by decide) (by omega)
    omega
theorem ga_map (p : Int → Int) (l : List Int) {t : Nat} (h : t < l.length) : ga (l.map p) t = p (ga l t) := by
  unfold ga; simp [List.getD_eq_getElem?_getD, h]
theorem xb_ga (f : Fr) (q b : Nat) {t : Nat} (h : t < bw b) : ga (xb f q b) t = ga f.L (28 + (q * 32 + (bfN b + t))) := by
  unfold xb
  show List.getD _ t 0 = _
  rw [List.getD_eq_getElem?_getD, List.getElem?_map, List.getElem?_range h]
  rfl
theorem band_big {f : Fr} {q b : Nat} (hb : b ≤ 4) (hx : XB f q b) (hk : 0 < ga f.L (23 + b)) (he : 8 < ga f.L (3 + (q * 5 + b))) (z : Sp) : ∃ t, t < bw b ∧ ga (sc (lo f q b) (shp f q b z).1) t ≠ 0 := by
  have hw := bfN_in hb
  unfold shp
  rw [if_pos hk]
  show ∃ t, t < bw b ∧ ga (sc (lo f q b) (sp (ga f.L 0) (pu (xb f q b)))) t ≠ 0
  have hlen : (pu (xb f q b)).length = bw b := by rw [pu_len, xb_len]
  have hsm : ∀ x ∈ pu (xb f q b), Sm x := by
    intro x hx
    obtain ⟨y, _, rfl⟩ := List.mem_map.1 hx
    have := pu1_in y
    unfold Sm; omega
  have hbig : 1048576 ≤ sq (pu (xb f q b)) := by
    obtain ⟨l, h1, h2, h3⟩ := hx
    obtain ⟨t, ht, hne⟩ := asum_some l (by omega)
    rw [h1] at ht
    have e1 : ga (pu (xb f q b)) t = pu1 (ga l t) := by
      unfold pu
      rw [ga_map _ _ (by rw [xb_len]; exact ht), xb_ga f q b ht, h3 t ht]
    have h4 := sq_one (pu (xb f q b)) t (by rw [hlen]; exact ht)
    rw [← ga_rd, e1] at h4
    have := pu1_big hne
    omega
  obtain ⟨g1, g2, g3, g4, g5⟩ := law_of (ga f.L 0) (pu (xb f q b)) (by rw [hlen]; omega) hsm
  have hy : (sp (ga f.L 0) (pu (xb f q b))).length = bw b := by rw [sp_len, hlen]
  generalize pu (xb f q b) = p at *
  generalize sp (ga f.L 0) p = y at *
  obtain ⟨a1, a2⟩ := len_sq p
  obtain ⟨b1, b2⟩ := len_sq y
  have hp : 1024 ≤ Sq.len p := by
    rcases Nat.lt_or_ge (Sq.len p) 1024 with h | h
    · have := Nat.mul_le_mul (show Sq.len p + 1 ≤ 1024 by omega) (show Sq.len p + 1 ≤ 1024 by omega)
      have e : (((Sq.len p + 1) * (Sq.len p + 1) : Nat) : Int) = ((Sq.len p : Int) + 1) * ((Sq.len p : Int) + 1) := by rw [Int.natCast_mul]; rfl
      omega
    · exact h
  have hly : 1 ≤ Sq.len y := by omega
  have hsy : 1 ≤ sq y := by
    have := Nat.mul_le_mul hly hly
    have e : ((Sq.len y * Sq.len y : Nat) : Int) = (Sq.len y : Int) * (Sq.len y : Int) := Int.natCast_mul _ _
    omega
  have hlo : 68 ≤ lo f q b := by
    unfold lo
    rw [if_neg (by omega)]
    exact lou_big (by omega)
  obtain ⟨t, ht, hne⟩ := part_big (g := ex (ld (lo f q b))) (ex_big _ (by have := ld_is (lo f q b); omega) (by have := ld_is (lo f q b); omega)) (by rw [hy]; omega) g1 hsy
  refine ⟨t, by rw [← hy]; exact ht, ?_⟩
  unfold sc
  rw [ga_map _ _ ht]
  exact hne
theorem spl_ga {O y : List Int} {o : Nat} (h : o + y.length ≤ O.length) (i : Nat) : ga (spl O o y) i = if o ≤ i ∧ i < o + y.length then ga y (i - o) else ga O i := by
  unfold ga spl
  simp only [List.getD_eq_getElem?_getD]
  by_cases h1 : i < o
  · rw [if_neg (by omega), List.getElem?_append_left (by rw [List.length_take]; omega), List.getElem?_take_of_lt h1]
  · rw [List.getElem?_append_right (by rw [List.length_take]; omega), List.length_take, show i - min o O.length = i - o by omega]
    by_cases h2 : i < o + y.length
    · rw [if_pos (by omega), List.getElem?_append_left (by omega)]
    · rw [if_neg (by omega), List.getElem?_append_right (by omega), List.getElem?_drop]
      congr 2
      omega
theorem sc_ga (e : Int) (l : List Int) (i : Nat) : -1048576 ≤ ga (sc e l) i ∧ ga (sc e l) i ≤ 1048576 := by
  by_cases h : i < (sc e l).length
  · have hm := ga_mem h
    obtain ⟨y, _, hy⟩ := List.mem_map.1 hm
    rw [← hy]; unfold pv; omega
  · unfold ga
    rw [List.getD_eq_getElem?_getD, List.getElem?_eq_none (by omega)]
    decide
structure LP (f : Fr) (c b q : Nat) (O : List Int) : Prop where
  n : O.length = 64
  bnd : ∀ i, -1048576 ≤ ga O i ∧ ga O i ≤ 1048576
  nil : ∀ q' j, q' ≤ 1 → j < 32 → (c ≤ q' ∨ bfN b ≤ j ∧ q ≤ q' ∨ bfN b + bw b ≤ j) → ga O (q' * 32 + j) = 0
  big : ∀ b' q', q' < c → (b' < b ∨ b' = b ∧ q' < q) → 0 < ga f.L (23 + b') → 8 < ga f.L (3 + (q' * 5 + b')) → ∃ t, t < bw b' ∧ ga O (q' * 32 + (bfN b' + t)) ≠ 0
theorem bfN_next {b : Nat} (hb : b ≤ 4) : bfN b + bw b = if b = 4 then 32 else bfN (b + 1) := by
  rcases (by omega : b = 0 ∨ b = 1 ∨ b = 2 ∨ b = 3 ∨ b = 4) with rfl | rfl | rfl | rfl | rfl <;> rfl
theorem bfN_far {b b' : Nat} (hb : b ≤ 4) (h : b' < b) : bfN b' + bw b' ≤ bfN b := by
  have : b' = 0 ∨ b' = 1 ∨ b' = 2 ∨ b' = 3 := by omega
  rcases (by omega : b = 0 ∨ b = 1 ∨ b = 2 ∨ b = 3 ∨ b = 4) with rfl | rfl | rfl | rfl | rfl <;> rcases this with rfl | rfl | rfl | rfl <;> first | omega | decide
theorem LP.step {f : Fr} {c b q : Nat} {z : Sp} (h : LP f c b q z.o) (hb : b ≤ 4) (hc : c ≤ 2) (hq : q < c) (hf : Fine z) (hx : XB f q b) : LP f c b (q + 1) (spStep f b q z).o := by
  obtain ⟨n, bnd, nil, big⟩ := h
  have hw := bfN_in hb
  have hl : (sc (lo f q b) (shp f q b z).1).length = bw b := by rw [sc_len]; exact (shp_fine hb hf).1
  have hfit : q * 32 + bfN b + (sc (lo f q b) (shp f q b z).1).length ≤ z.o.length := by rw [hl, n]; omega
  have hat : ∀ i, ga (spStep f b q z).o i = _ := spl_ga hfit
  rw [hl] at hat
  refine ⟨(step_fine hb (by omega) hf).o, fun i => ?_, fun q' j hq' hj hh => ?_, fun b' q' hq' hh hk he => ?_⟩
  · rw [hat]; split
    · exact sc_ga _ _ _
    · exact bnd i
  · rw [hat, if_neg ?_]
    · exact nil q' j hq' hj (by omega)
    · rcases (by omega : q' = 0 ∨ q' = 1) with rfl | rfl <;> rcases (by omega : q = 0 ∨ q = 1) with rfl | rfl <;> omega
  · by_cases hn : b' = b ∧ q' = q
    · obtain ⟨rfl, rfl⟩ := hn
      obtain ⟨t, ht, hne⟩ := band_big hb hx hk he z
      refine ⟨t, ht, ?_⟩
      rw [hat, if_pos (by omega), show q' * 32 + (bfN b' + t) - (q' * 32 + bfN b') = t by omega]
      exact hne
    · obtain ⟨t, ht, hne⟩ := big b' q' hq' (by omega) hk he
      refine ⟨t, ht, ?_⟩
      rw [hat, if_neg ?_]
      · exact hne
      · have hw' := bfN_in (b := b') (by omega)
        rcases (by omega : b' < b ∨ b' = b) with h1 | h1
        · have := bfN_far hb h1
          rcases (by omega : q' = 0 ∨ q' = 1) with rfl | rfl <;> rcases (by omega : q = 0 ∨ q = 1) with rfl | rfl <;> omega
        · subst h1
          rcases (by omega : q' = 0 ∨ q' = 1) with rfl | rfl <;> rcases (by omega : q = 0 ∨ q = 1) with rfl | rfl <;> omega
theorem LP.next {f : Fr} {c b : Nat} {O : List Int} (h : LP f c b c O) (hb : b ≤ 4) : LP f c (b + 1) 0 O ∨ b = 4 := by
  rcases Nat.lt_or_ge b 4 with h4 | h4
  · left
    obtain ⟨n, bnd, nil, big⟩ := h
    have e := bfN_next hb
    rw [if_neg (by omega)] at e
    exact ⟨n, bnd, fun q' j hq' hj hh => nil q' j hq' hj (by omega), fun b' q' hq' hh hk he => big b' q' hq' (by omega) hk he⟩
  · right; omega
theorem sp0_LP (f : Fr) (c : Nat) (sd : Int) : LP f c 0 0 (sp0 sd).o := by
  have h0 : ∀ i, ga (sp0 sd).o i = 0 := by
    intro i
    show List.getD (List.replicate 64 0) i 0 = 0
    rw [List.getD_eq_getElem?_getD, List.getElem?_replicate]
    split <;> rfl
  refine ⟨by simp [sp0], fun i => by rw [h0]; decide, fun _ _ _ _ _ => h0 _, fun b' q' _ hh => by omega⟩
theorem row_LP {f : Fr} {c b : Nat} (hb : b ≤ 4) (hc : c ≤ 2) {z : Sp} (hf : Fine z) (h : LP f c b 0 z.o) (hx : ∀ q, q < c → XB f q b) : ∀ q, q ≤ c → LP f c b q (spRow f b q z).o
  | 0, _ => h
  | q + 1, hq => (row_LP hb hc hf h hx q (by omega)).step hb hc (by omega) (row_fine hb hf q (by omega)) (hx q (by omega))
structure LQ (f : Fr) (c n : Nat) (O : List Int) : Prop where
  ol : O.length = 64
  bnd : ∀ i, -1048576 ≤ ga O i ∧ ga O i ≤ 1048576
  nil : ∀ q j, q ≤ 1 → j < 32 → (c ≤ q ∨ bfN (n - 1) + bw (n - 1) ≤ j) → ga O (q * 32 + j) = 0
  big : ∀ b q, q < c → b < n → 0 < ga f.L (23 + b) → 8 < ga f.L (3 + (q * 5 + b)) → ∃ t, t < bw b ∧ ga O (q * 32 + (bfN b + t)) ≠ 0
theorem all_LP {f : Fr} {c n : Nat} (hc : c ≤ 2) (hn : n ≤ 5) (hx : ∀ b, b < n → ∀ q, q < c → XB f q b) (sd : Int) : ∀ b, b < n → LP f c b 0 (spAll f c b (sp0 sd)).o
  | 0, _ => sp0_LP f c sd
  | b + 1, hb => ((row_LP (by omega) hc (all_fine hc sd b (by omega)) (all_LP hc hn hx sd b (by omega)) (hx b (by omega)) c (Nat.le_refl c)).next (by omega)).resolve_right (by omega)
theorem all_LQ {f : Fr} {s c : Nat} (hs : s ≤ 2) (hc : c ≤ 2) (hx : ∀ b, b < s + 3 → ∀ q, q < c → XB f q b) (sd : Int) : LQ f c (s + 3) (spAll f c (s + 3) (sp0 sd)).o := by
  have h := row_LP (f := f) (b := s + 2) (by omega) hc (all_fine hc sd (s + 2) (by omega)) (all_LP hc (by omega) hx sd (s + 2) (by omega)) (hx (s + 2) (by omega)) c (Nat.le_refl c)
  exact ⟨h.n, h.bnd, fun q j hq hj hh => h.nil q j hq hj (by
    rw [show s + 3 - 1 = s + 2 by omega] at hh; omega), fun b q hq hb hk he => h.big b q hq (by omega) hk he⟩
end Go.Proofs.YtjpnbdofbkoddaaDoor.Sh
namespace Go.Proofs.YtjpnbdofbkoddaaDoor.OShapeSeeds
open Go.RowKit Go.Proofs.YtjpnbdofbkoddaaDoorW.PrintWords Go.Proofs.YtjpnbdofbkoddaaDoorW.PrintLast Go.Proofs.YtjpnbdofbkoddaaDoorW.PrintMore
open Go.Proofs.YtjpnbdofbkoddaaDoor.OShapeSeeds
attribute [local go_sem] max2_int min2_int max_two min_two max_three min_three max_four min_four
set_option linter.unusedVariables false
set_option linter.unusedSimpArgs false
def mode_Mode_N.f (a0_0 : Int) (a0_1 : Int) : Option (Int) := (mode_Mode_Right.f a0_0 a0_1).bind fun t234 => (if t234 = true then (if 0 ≤ a0_0 then (some (shl .i64 8 a0_0)) else (none)) else (some 0))
set_option maxHeartbeats 8000000 in
set_option maxRecDepth 100000 in
theorem mode_Mode_N.calls (a0_0 : Int) (a0_1 : Int) (r : Int) (w : World) (h : mode_Mode_N.f a0_0 a0_1 = some r) :
    Calls Tryd.prog 26 #[.agg #[.int .i64 a0_0, .int .i64 a0_1]] w fun e w' => e = .returned (.int .i64 r) ∧ Below w.heap.size w w' := by
  have hu53 := Tryd.underlying53
  have HB := Aside0.mk (Below.refl w.heap.size w)
  have H : ((mode_Mode_Right.f a0_0 a0_1).bind fun t234 => (if t234 = true then (if 0 ≤ a0_0 then (some (shl .i64 8 a0_0)) else (none)) else (some 0))) = some r := h
  clear h
  replace H := Option.bind_eq_some_iff.mp H
  obtain ⟨t234, A20, H⟩ := H
  replace H : (if t234 = true then (if 0 ≤ a0_0 then (some (shl .i64 8 a0_0)) else (none)) else (some 0)) = some r := H
  have A2 := Aside0.mk A20
  clear A20
  by_cases c3 : t234 = true
  · subst c3
    have H1 : (if 0 ≤ a0_0 then (some (shl .i64 8 a0_0)) else (none)) = some r := by rw [if_pos rfl] at H; exact H
    clear H
    have H := H1
    clear H1
    by_cases c4 : 0 ≤ a0_0
    · rw [if_pos c4] at H
      have c4b0 := eq_true c4
      have c4b1 : decide (0 ≤ a0_0) = true := decide_eq_true c4
      clear c4
      obtain ⟨ji5, hji5⟩ : ∃ j_ : Int, (shl .i64 8 a0_0) = j_ := ⟨_, rfl⟩
      replace H : (some ji5) = some r := by first | (rw [hji5] at H; exact H) | (simp only [hji5] at H ⊢; exact H)
      (try rw [hji5] at A2)
      have hji5_ : (IntKind.i64.wrap (8 * 2 ^ min a0_0.toNat 64)) = ji5 := hji5
      have hji5z : a0_0 ≤ 64 → (IntKind.i64.wrap (8 * 2 ^ a0_0.toNat)) = ji5 := shl_small hji5
      have hji5y : (wrap64 (8 * 2 ^ min a0_0.toNat 64)) = ji5 := (i64_w _).symm.trans hji5_
      have hji5x : a0_0 ≤ 64 → (wrap64 (8 * 2 ^ a0_0.toNat)) = ji5 := fun h_ => (i64_w _).symm.trans (hji5z h_)
      obtain rfl := Option.some.inj H
      go_enter Tryd.func26, Tryd.ntmps26
      go_wp2_with (first | ((with_reducible refine gate_dst (N := 1) rfl ?_); refine box_event ?hg (N := 1) ?hd (cs := #[.int .i64 a0_0, .int .i64 a0_1]) (t := 53) ?hr ?_; (case hd => rfl); (case hg => rfl); (case hr => first | (go_simp; done) | (go_simp; rfl)); intro gb233 hg w6 hbox hb; have n0_ := Aside0.mk (below_step (by repeat (first | (with_reducible first | exact HB.out | apply below_alloc | apply pw_below_drewN | apply below_drew1) | exact HB.out)) hb); have n1_ := Aside0.mk (hbox); have n2_ := Aside0.mk ((by rw [hg]; exact (below_size (by repeat (first | (with_reducible first | exact HB.out | apply below_alloc | apply pw_below_drewN | apply below_drew1) | exact HB.out))) : w.heap.size ≤ gb233)); have n3_ := Aside0.mk ((by rw [hg]; exact (below_size (by repeat (first | (with_reducible first | exact HB.out | apply below_alloc | apply pw_below_drewN | apply below_drew1) | exact HB.out))) : w.heap.size ≤ gb233)); clear HB; have HB := n0_; have BK233 := n1_; have GW233 := n2_; have GE233 := n3_; clear n0_ n1_ n2_ n3_; clear hb hbox hg; have hcz7_0 : w6.cell? ⟨gb233, 0, none⟩ = some (.int .i64 a0_0) := (blk_cell BK233.out 0).trans rfl; have hcz7_1 : w6.cell? ⟨gb233, 1, none⟩ = some (.int .i64 a0_1) := (blk_cell BK233.out 1).trans rfl; have hfz7_0 := blk_frozen BK233.out 0; have hfz7_1 := blk_frozen BK233.out 1) | ((with_reducible refine gate_callee (f := 63) rfl ?_); refine goesL_ (some 4) rfl rfl Tryd.func63 (by kernel_rfl) rfl #[.agg #[.int .i64 a0_0, .int .i64 a0_1]] rfl (by (try simp only [List.map_toArray, List.map_cons, List.map_nil]); first | done | rfl | (simp only [List.length_drop, List.length_take]; rfl)) ?_; (with_reducible refine (mode_Mode_Right.calls a0_0 a0_1 true _ A2.out).mono ?_); rintro e w8 ⟨rfl, hb⟩; refine ⟨_, rfl, ?_⟩; have n0_ := Aside0.mk (blk_below (g := gb233) (o := .cells #[.int .i64 a0_0, .int .i64 a0_1] 53 (0, 0)) (by (with_reducible repeat (first | refine blk_drewN ?_ _ | refine blk_drew ?_ | refine blk_alloc ?_ _)); exact BK233.out) hb); have n1_ := Aside0.mk (below_step (by repeat (first | (with_reducible first | exact HB.out | apply below_alloc | apply pw_below_drewN | apply below_drew1 | refine below_set ?_ GE233.out) | exact HB.out)) hb); clear BK233; clear HB; have BK233 := n0_; have HB := n1_; clear n0_ n1_; (try clear hb); (try clear hb2); (try clear hk); (try clear hi); have hcz9_0 : w8.cell? ⟨gb233, 0, none⟩ = some (.int .i64 a0_0) := (blk_cell BK233.out 0).trans rfl; have hcz9_1 : w8.cell? ⟨gb233, 1, none⟩ = some (.int .i64 a0_1) := (blk_cell BK233.out 1).trans rfl; have hfz9_0 := blk_frozen BK233.out 0; have hfz9_1 := blk_frozen BK233.out 1))
      go_ret
      exact ⟨by first | rfl | (simp [errW_none, errW_some] <;> rfl) | (simp only [← hji5]; first | rfl | (simp [errW_none, errW_some] <;> rfl)) | (simp [*, errW_none, errW_some] <;> rfl), by repeat (first | (with_reducible first | exact HB.out | apply below_alloc | apply pw_below_drewN | apply below_drew1 | refine below_set ?_ GE233.out) | exact HB.out)⟩
    · rw [if_neg c4] at H
      exact absurd H (by simp)
  · replace c3 := Bool.eq_false_iff.mpr c3
    subst c3
    have H1 : (some 0) = some r := by rw [if_neg (show ¬ (false = true) by decide)] at H; exact H
    clear H
    have H := H1
    clear H1
    obtain rfl := Option.some.inj H
    go_enter Tryd.func26, Tryd.ntmps26
    go_wp2_with (first | ((with_reducible refine gate_dst (N := 1) rfl ?_); refine box_event ?hg (N := 1) ?hd (cs := #[.int .i64 a0_0, .int .i64 a0_1]) (t := 53) ?hr ?_; (case hd => rfl); (case hg => rfl); (case hr => first | (go_simp; done) | (go_simp; rfl)); intro gb233 hg w10 hbox hb; have n0_ := Aside0.mk (below_step (by repeat (first | (with_reducible first | exact HB.out | apply below_alloc | apply pw_below_drewN | apply below_drew1) | exact HB.out)) hb); have n1_ := Aside0.mk (hbox); have n2_ := Aside0.mk ((by rw [hg]; exact (below_size (by repeat (first | (with_reducible first | exact HB.out | apply below_alloc | apply pw_below_drewN | apply below_drew1) | exact HB.out))) : w.heap.size ≤ gb233)); have n3_ := Aside0.mk ((by rw [hg]; exact (below_size (by repeat (first | (with_reducible first | exact HB.out | apply below_alloc | apply pw_below_drewN | apply below_drew1) | exact HB.out))) : w.heap.size ≤ gb233)); clear HB; have HB := n0_; have BK233 := n1_; have GW233 := n2_; have GE233 := n3_; clear n0_ n1_ n2_ n3_; clear hb hbox hg; have hcz11_0 : w10.cell? ⟨gb233, 0, none⟩ = some (.int .i64 a0_0) := (blk_cell BK233.out 0).trans rfl; have hcz11_1 : w10.cell? ⟨gb233, 1, none⟩ = some (.int .i64 a0_1) := (blk_cell BK233.out 1).trans rfl; have hfz11_0 := blk_frozen BK233.out 0; have hfz11_1 := blk_frozen BK233.out 1) | ((with_reducible refine gate_callee (f := 63) rfl ?_); refine goesL_ (some 4) rfl rfl Tryd.func63 (by kernel_rfl) rfl #[.agg #[.int .i64 a0_0, .int .i64 a0_1]] rfl (by (try simp only [List.map_toArray, List.map_cons, List.map_nil]); first | done | rfl | (simp only [List.length_drop, List.length_take]; rfl)) ?_; (with_reducible refine (mode_Mode_Right.calls a0_0 a0_1 false _ A2.out).mono ?_); rintro e w12 ⟨rfl, hb⟩; refine ⟨_, rfl, ?_⟩; have n0_ := Aside0.mk (blk_below (g := gb233) (o := .cells #[.int .i64 a0_0, .int .i64 a0_1] 53 (0, 0)) (by (with_reducible repeat (first | refine blk_drewN ?_ _ | refine blk_drew ?_ | refine blk_alloc ?_ _)); exact BK233.out) hb); have n1_ := Aside0.mk (below_step (by repeat (first | (with_reducible first | exact HB.out | apply below_alloc | apply pw_below_drewN | apply below_drew1 | refine below_set ?_ GE233.out) | exact HB.out)) hb); clear BK233; clear HB; have BK233 := n0_; have HB := n1_; clear n0_ n1_; (try clear hb); (try clear hb2); (try clear hk); (try clear hi)))
    go_ret
    exact ⟨by first | rfl | (simp [errW_none, errW_some] <;> rfl) | (simp [*, errW_none, errW_some] <;> rfl), by repeat (first | (with_reducible first | exact HB.out | apply below_alloc | apply pw_below_drewN | apply below_drew1 | refine below_set ?_ GE233.out) | exact HB.out)⟩
end Go.Proofs.YtjpnbdofbkoddaaDoor.OShapeSeeds
namespace Go.Proofs.YtjpnbdofbkoddaaDoor.Sh
open Go.RowKit Go.Proofs.YtjpnbdofbkoddaaDoorW.PrintWords Go.Proofs.YtjpnbdofbkoddaaDoorW.PrintLast Go.Proofs.YtjpnbdofbkoddaaDoorW.PrintMore
open Go.Proofs.YtjpnbdofbkoddaaDoor.OShapeSeeds Go.Proofs.YtjpnbdofbkoddaaDoor.Sy Go.Proofs.YtjpnbdofbkoddaaDoor.SyWalk Go.Proofs.YtjpnbdofbkoddaaDoor.WrWalk
def mN (s : Nat) : Nat := bfN (s + 2) + bw (s + 2)
theorem mn_in {s : Nat} (hs : s ≤ 2) : mN s ≤ 32 := by
  have := bfN_in (b := s + 2) (by omega)
  unfold mN; omega
theorem mn_is {s c : Nat} (hs : s ≤ 2) (hc1 : 1 ≤ c) (hc2 : c ≤ 2) : mode_Mode_N.f (s : Int) (c : Int) = some (mN s : Int) := by
  unfold mode_Mode_N.f
  rw [right_is hs hc1 hc2, Option.bind_some, if_pos rfl, if_pos (by omega)]
  rcases (by omega : s = 0 ∨ s = 1 ∨ s = 2) with rfl | rfl | rfl <;> kernel_rfl
theorem mn_call {s c : Nat} (hs : s ≤ 2) (hc1 : 1 ≤ c) (hc2 : c ≤ 2) (w : World) : Calls Tryd.prog 26 #[.agg #[.int .i64 s, .int .i64 c]] w fun e w' => e = .returned (.int .i64 (mN s : Int)) ∧ Below w.heap.size w w' :=
  mode_Mode_N.calls _ _ _ w (mn_is hs hc1 hc2)
structure LO (w0 w : World) (cs : Array Value) (s c : Nat) (ps : List Int) (g5 g6 g7 : Nat) (f : Fr) (g8 : Nat) (O : List Int) : Prop where
  l : LF w0 w cs s c ps g5 g6 g7 f
  o : w.heap[g8]? = some (.cells (rowI O) 66 (0, 0))
theorem LO.below {w0 w w1 : World} {cs : Array Value} {s c : Nat} {ps : List Int} {g5 g6 g7 : Nat} {f : Fr} {g8 : Nat} {O : List Int} (h : LO w0 w cs s c ps g5 g6 g7 f g8 O) (hb : Below w.heap.size w w1) : LO w0 w1 cs s c ps g5 g6 g7 f g8 O :=
  ⟨h.l.below hb, blk_below h.o hb⟩
theorem row_cell {w : World} {g t : Nat} {O : List Int} (ho : w.heap[g]? = some (.cells (rowI O) t (0, 0))) (hl : O.length = 64) {j k : Nat} (hj : j < 64) (hk : k = j) : w.cell? ⟨g, k, none⟩ = some (.int .i32 (ga O j)) := by
  subst hk
  refine (blk_cell ho _).trans ?_
  unfold rowI ga
  simp [List.getD_eq_getElem?_getD, List.getElem?_eq_getElem (show k < O.length by omega)]
def nzs (O : List Int) (o : Nat) : Nat → Bool
  | 0 => false
  | t + 1 => nzs O o t || (ga O (o + t) != 0)
theorem nzs_of (O : List Int) (o : Nat) : ∀ n t, t < n → ga O (o + t) ≠ 0 → nzs O o n = true
  | 0, t, h, _ => by omega
  | n + 1, t, h, hne => by
    unfold nzs
    by_cases ht : t = n
    · subst ht
      have : (ga O (o + t) != 0) = true := by simpa using hne
      rw [this, Bool.or_true]
    · rw [nzs_of O o n t (by omega) hne, Bool.true_or]
theorem zero_equal (w : World) : (Op.equalIn 10000 66 (.agg (rowI zero64)) (.agg #[.int .i32 0, .int .i32 0, .int .i32 0, .int .i32 0, .int .i32 0, .int .i32 0, .int .i32 0, .int .i32 0, .int .i32 0, .int .i32 0, .int .i32 0, .int .i32 0, .int .i32 0, .int .i32 0, .int .i32 0, .int .i32 0, .int .i32 0, .int .i32 0, .int .i32 0, .int .i32 0, .int .i32 0, .int .i32 0, .int .i32 0, .int .i32 0, .int .i32 0, .int .i32 0, .int .i32 0, .int .i32 0, .int .i32 0, .int .i32 0, .int .i32 0, .int .i32 0, .int .i32 0, .int .i32 0, .int .i32 0, .int .i32 0, .int .i32 0, .int .i32 0, .int .i32 0, .int .i32 0, .int .i32 0, .int .i32 0, .int .i32 0, .int .i32 0, .int .i32 0, .int .i32 0, .int .i32 0, .int .i32 0, .int .i32 0, .int .i32 0, .int .i32 0, .int .i32 0, .int .i32 0, .int .i32 0, .int .i32 0, .int .i32 0, .int .i32 0, .int .i32 0, .int .i32 0, .int .i32 0, .int .i32 0, .int .i32 0, .int .i32 0, .int .i32 0])).run Tryd.prog w = .ok true w := by kernel_rfl
end Go.Proofs.YtjpnbdofbkoddaaDoor.Sh
namespace Go.Proofs.YtjpnbdofbkoddaaDoor.Sh
open Go.RowKit Go.Proofs.YtjpnbdofbkoddaaDoorW.PrintWords Go.Proofs.YtjpnbdofbkoddaaDoorW.PrintLast Go.Proofs.YtjpnbdofbkoddaaDoorW.PrintMore
open Go.Proofs.YtjpnbdofbkoddaaDoor.OShapeSeeds Go.Proofs.YtjpnbdofbkoddaaDoor.Sy Go.Proofs.YtjpnbdofbkoddaaDoor.SyWalk Go.Proofs.YtjpnbdofbkoddaaDoor.WrWalk
open Go.Proofs.YtjpnbdofbkoddaaDoor.ShapePlain (sc sc_len sc_in)
open Go.Proofs.YtjpnbdofbkoddaaDoor.NoisePlain (fo fo_len fo_in hd lcg nz fz fv em)
open Go.Proofs.YtjpnbdofbkoddaaDoor.Spread (sp sp_len)
set_option linter.unusedVariables false
set_option linter.unusedSimpArgs false
set_option maxHeartbeats 16000000 in
set_option maxRecDepth 100000 in
theorem louder_call (cs wc : Array Value) (x a b : Int) (ps : List Int) (si it : Bool) (sp tr sd : Int) (hask : Ask cs wc x a b ps si it sp tr) (hsd : NoisePlain.U32 sd) (w : World) (lm : Mode.Laid w) (lp : Shape.Laid w) (ls : Spread.Laid w) :
    Calls Tryd.prog 6 #[.agg cs, .int .u32 sd] w fun e w' => e = .returned (.bool true) ∧ Below w.heap.size w w' := by
  have h3 := laid_size ls
  have H3 := Aside0.mk h3
  have HASK := Aside0.mk hask
  have HSD := Aside0.mk hsd
  have HB0 : Aside0 (Below w.heap.size w (w.alloc (.cells cs 51))) := ⟨below_alloc (Below.refl _ _) _⟩
  have HA0 : Aside0 ((w.alloc (.cells cs 51)).heap[w.heap.size]? = some (.cells cs 51 (0, 0))) := ⟨blk_new _ _⟩
  have HL0 : Aside0 (Mode.Laid (w.alloc (.cells cs 51)) ∧ Shape.Laid (w.alloc (.cells cs 51)) ∧ Spread.Laid (w.alloc (.cells cs 51))) := ⟨lm.below HB0.out, lp.below HB0.out, ls.below HB0.out⟩
  have HCS : Aside0 ((Tryd.prog.info? 51).map (·.size) = some cs.size) := ⟨by rw [hask.sz]; kernel_rfl⟩
  clear lm lp ls hask hsd h3
  go_enter Tryd.func6, Tryd.ntmps6
  go_upto_region 4 with (first
    | (go_at_call 8; (with_reducible refine (Shape.awake_any _ HL0.out.2.1).mono ?_); rintro e w1 ⟨rfl, hb1⟩; have HB1 := Aside0.mk (below_step HB0.out hb1); have HA1 := Aside0.mk (blk_below HA0.out hb1); have HL1 := Aside0.mk (And.intro (HL0.out.1.below hb1) (And.intro (HL0.out.2.1.below hb1) (HL0.out.2.2.below hb1))); clear HB0 HA0 HL0 hb1)
    | (refine wpList_load_row rfl 51 (.tmp 2) rfl w.heap.size rfl 51 cs (0, 0) _ HA1.out Tryd.underlying51 rfl HCS.out ?_)
    | (go_at_call 18; (with_reducible refine (where_call cs _ _ _ HASK.out.pl HASK.out.ha HASK.out.hb HASK.out.pr HASK.out.c1 HASK.out.c2 HASK.out.c3 _).mono ?_); rintro e w2 ⟨s, c, qs, hs2, hc1, hc2, hql, hq31, rfl, hb2⟩; have HS2 := Aside0.mk (And.intro hs2 (And.intro hc1 hc2)); have HQL := Aside0.mk hql; have HB2 := Aside0.mk (below_step HB1.out hb2); have HA2 := Aside0.mk (blk_below HA1.out hb2); have HL2 := Aside0.mk (And.intro (HL1.out.1.below hb2) (And.intro (HL1.out.2.1.below hb2) (HL1.out.2.2.below hb2))); clear HB1 HA1 HL1 hb2 hs2 hc1 hc2 hql hq31)
    | ((with_reducible refine alloc_two rfl rfl rfl ?_); intro W h5 h6 hb3; obtain ⟨g5, hg5⟩ : ∃ g, w2.heap.size = g := ⟨_, rfl⟩; have hn5 : w.heap.size ≤ w2.heap.size := HB2.out.size; rw [hg5] at h5 h6 hn5 ⊢; have hb4 := below_step HB2.out hb3; have hla := And.intro (HL2.out.1.below hb3) (And.intro (HL2.out.2.1.below hb3) (HL2.out.2.2.below hb3)); have H5 := Aside0.mk h5; have H6 := Aside0.mk h6; have HN5 := Aside0.mk hn5; have HB4 := Aside0.mk hb4; have HL4 := Aside0.mk hla; have HA4 := Aside0.mk (blk_below HA2.out hb3); clear h5 h6 hn5 hb3 hb4 hla HB2 HA2 HL2 hg5)
    | (with_reducible refine alloc_to rfl 53 rfl _ z53 ?_)
    | ((refine store_rowG rfl 53 (.tmp 5) (.tmp 21) rfl g5 #[.int .i64 s, .int .i64 c] rfl rfl 53 _ H5.out (by kernel_rfl) rfl (row53 _ _) ?_); intro W3 hW3 hf3 hbf3; have H53 := Aside0.mk hW3; have H63 := Aside0.mk ((hf3 _ (by omega)).trans H6.out); have HB5 := Aside0.mk (hbf3 _ _ HB4.out HN5.out); have HL5 := Aside0.mk (far_laid (Nat.le_trans H3.out HN5.out) hf3 HL4.out); have HA5 := Aside0.mk ((hf3 w.heap.size (fun e => by have := blk_ne HA4.out H5.out (by decide); exact this e)).trans HA4.out); clear hW3 hf3 hbf3 H5 H6 HB4 HL4 HA4)
    | ((refine store_rowG rfl 55 (.tmp 6) (.tmp 22) rfl (g5 + 1) (qs.map (Value.int .i64)).toArray rfl rfl 55 _ H63.out (by rw [row_sz HQL.out]; kernel_rfl) (by rw [row_sz HQL.out]; rfl) (row_one _) ?_); intro W4 hW4 hf4 hbf4; have hla := far_laid (g := g5 + 1) (by have := H3.out; have := HN5.out; omega) hf4 HL5.out; have HI := Aside0.mk (LI.mk (w0 := w) (w := W4) (cs := cs) (s := s) (c := c) (ps := qs) (g5 := g5) (g6 := g5 + 1) (hbf4 _ _ HB5.out (by have := HN5.out; omega)) ((hf4 _ (fun e => by have := blk_ne HA5.out H63.out (by decide); exact this e)).trans HA5.out) ((hf4 _ (by omega)).trans H53.out) hW4 HN5.out (by have := HN5.out; omega) hla.1 hla.2.1 hla.2.2); clear hW4 hf4 hbf4 hla H53 H63 HB5 HL5 HA5))
  obtain ⟨g6, hg6⟩ : ∃ g, g5 + 1 = g := ⟨_, rfl⟩
  rw [hg6] at HI ⊢
  clear hg6 HN5
  (try simp only [Act.put, List.setIfInBounds_toArray, List.set_cons_zero, List.set_cons_succ])
  go_cut [7] from 23 (fun t7 wc => ∃ (g7 : Nat) (f : Fr), t7 = .pointer (some ⟨g7, 0, none⟩) ∧ Aside0 (LF w wc cs s c qs g5 g6 g7 f) ∧ Aside0 (f.L.length = 92 ∧ (f.si = true ∨ FX f s c (s + 3) 0)))
  case first =>
    refine wp_region_held_drew (S := (fun w1 => LI w w1 cs s c qs g5 g6)) (by kernel_rfl) ?hS0 (fun hHeld => ?_)
    case hS0 => exact HI.out.below (drew_self _)
    refine wpAnyH_take (i := 0) (oi := ⟨_, _, _, _, _, _⟩) (v := .agg cs) rfl (by kernel_rfl) (by kernel_rfl) (by kernel_rfl) (fun _ _ _ h => h) (yieldsIf_load_row (by rfl) 51 (.tmp 2) rfl w.heap.size rfl 51 cs (0, 0) _ (fun w1 h1 => h1.a) Tryd.underlying51 rfl HCS.out) hHeld ?_
    (try simp only [Act.put, List.setIfInBounds_toArray, List.set_cons_zero, List.set_cons_succ])
    refine wpAnyH_take (i := 2) (oi := ⟨_, _, _, _, _, _⟩) (v := ?_) rfl (by kernel_rfl) (by kernel_rfl) (by kernel_rfl) (fun _ _ _ h => h) (Or.inl ⟨by rfl, ?hy1⟩) hHeld ?rest1
    case hy1 => (intro w1 h1; go_simp; (try with_reducible rfl))
    (try simp only [Act.put, List.setIfInBounds_toArray, List.set_cons_zero, List.set_cons_succ])
    refine wpAnyH_take (i := 3) (oi := ⟨_, _, _, _, _, _⟩) (v := ?_) rfl (by kernel_rfl) (by kernel_rfl) (by kernel_rfl) (fun _ _ _ h => h) (Or.inl ⟨by rfl, ?hy2⟩) hHeld ?rest2
    case hy2 => (intro w1 h1; have h1a := (blk_cell h1.m 0).trans rfl; go_simp; (try with_reducible rfl))
    (try simp only [Act.put, List.setIfInBounds_toArray, List.set_cons_zero, List.set_cons_succ])
    refine wpAnyH_take (i := 4) (oi := ⟨_, _, _, _, _, _⟩) (v := ?_) rfl (by kernel_rfl) (by kernel_rfl) (by kernel_rfl) (fun _ _ _ h => h) (Or.inl ⟨by rfl, ?hy3⟩) hHeld ?rest3
    case hy3 => (intro w1 h1; go_simp; (try with_reducible rfl))
    (try simp only [Act.put, List.setIfInBounds_toArray, List.set_cons_zero, List.set_cons_succ])
    refine wpAnyH_take (i := 5) (oi := ⟨_, _, _, _, _, _⟩) (v := ?_) rfl (by kernel_rfl) (by kernel_rfl) (by kernel_rfl) (fun _ _ _ h => h) (Or.inl ⟨by rfl, ?hy4⟩) hHeld ?rest4
    case hy4 => (intro w1 h1; have h1a := (blk_cell h1.m 1).trans rfl; go_simp; (try with_reducible rfl))
    (try simp only [Act.put, List.setIfInBounds_toArray, List.set_cons_zero, List.set_cons_succ])
    refine wpAnyH_take (i := 6) (oi := ⟨_, _, _, _, _, _⟩) (v := .agg (qs.map (Value.int .i64)).toArray) rfl (by kernel_rfl) (by kernel_rfl) (by kernel_rfl) (fun _ _ _ h => h) (yieldsIf_load_row (by rfl) 55 (.tmp 6) rfl g6 rfl 55 (qs.map (Value.int .i64)).toArray (0, 0) _ (fun w1 h1 => h1.p) Tryd.underlying55 rfl (by rw [row_sz HQL.out]; kernel_rfl)) hHeld ?_
    (try simp only [Act.put, List.setIfInBounds_toArray, List.set_cons_zero, List.set_cons_succ])
    refine wpAnyH_take (i := 7) (oi := ⟨_, _, _, _, _, _⟩) (v := ?_) rfl (by kernel_rfl) (by kernel_rfl) (by kernel_rfl) (fun _ _ _ h => h) (Or.inl ⟨by rfl, ?hy5⟩) hHeld ?rest5
    case hy5 => (intro w1 h1; go_simp; (try with_reducible rfl))
    (try simp only [Act.put, List.setIfInBounds_toArray, List.set_cons_zero, List.set_cons_succ])
    refine wpAnyH_take (i := 8) (oi := ⟨_, _, _, _, _, _⟩) (v := .agg wc.toList.toArray) rfl (by kernel_rfl) (by kernel_rfl) (by kernel_rfl) (fun _ _ _ h => h) (yieldsIf_load_mid (by rfl) 49 (.tmp 30) rfl w.heap.size 13 rfl wc.toList _ (fun w1 h1 => wish_range HASK.out h1.a) Tryd.underlying49 rfl (by rw [Array.length_toList, HASK.out.wsz]; kernel_rfl)) hHeld ?_
    (try simp only [Act.put, List.setIfInBounds_toArray, List.set_cons_zero, List.set_cons_succ])
    rw [show wc.toList.toArray = wc from Array.toArray_toList]
    refine wpAnyH_ready (rs := [1, 10]) (by kernel_rfl) (by simp) ?_
    refine AllReadyH.cons (o := ⟨_, _, _, _, _, _⟩) rfl (fun K hK => ?_) ?_
    · refine goes_ (N := some 24) Tryd.func20 (by kernel_rfl) rfl #[.agg cs] (by rfl) rfl rfl (by first | rfl | (simp only [List.map_toArray, List.map_cons, List.map_nil]; rfl)) ?_
      (with_reducible refine (long_call cs _ HASK.out.hx HASK.out.c0 _).mono ?_); rintro e w5 ⟨rfl, hb5⟩
      refine ⟨_, rfl, ?_⟩
      refine hK.out _ _ ?hSn12 (fun hHeld => ?_)
      case hSn12 => exact hHeld.below hb5
      clear hK K
      (try simp only [Act.put, List.setIfInBounds_toArray, List.set_cons_zero, List.set_cons_succ])
      refine wpAnyH_ready (rs := [9, 10]) (by kernel_rfl) (by simp) ?_
      refine AllReadyH.cons (o := ⟨_, _, _, _, _, _⟩) rfl (fun K hK => ?_) ?_
      · refine goes_ (N := some 32) Tryd.func19 (by kernel_rfl) rfl #[.int .i64 (4 + x % 1272), .int .i64 s, .int .i64 c, .agg (qs.map (Value.int .i64)).toArray, .agg wc] (by rfl) rfl rfl (by first | rfl | (simp only [List.map_toArray, List.map_cons, List.map_nil]; rfl)) ?_
        (with_reducible refine (fit_call (4 + x % 1272) s c qs wc si it sp tr HASK.out.w (by have := HASK.out.hx; omega) HS2.out.1 HS2.out.2.1 HS2.out.2.2 HQL.out _).mono ?_); rintro e w6 ⟨f, hfl, hfx, rfl, hb6⟩
        refine ⟨_, rfl, ?_⟩
        refine hK.out _ _ ?hSn10 (fun hHeld => ?_)
        case hSn10 => exact hHeld.below hb6
        clear hK K
        (try simp only [Act.put, List.setIfInBounds_toArray, List.set_cons_zero, List.set_cons_succ])
        refine wpAnyH_ready (rs := [10]) (by kernel_rfl) (by simp) ?_
        refine AllReadyH.cons (o := ⟨_, _, _, _, _, _⟩) rfl (fun K hK => ?_) AllReadyH.nil
        rw [if_pos (by rfl)]
        refine wp_alloc_to 61 rfl _ z61 ?_
        obtain ⟨w7, h7, hb7, hn7⟩ : ∃ W, W = (w6).alloc (.cells F0.cells.toArray 61) ∧ W.heap[(w6).heap.size]? = some (.cells F0.cells.toArray 61 (0, 0)) ∧ Below (w6).heap.size (w6) W := ⟨_, rfl, blk_new _ _, below_alloc (Below.refl _ _) _⟩
        rw [← h7]
        obtain ⟨g7, hg7⟩ : ∃ g, (w6).heap.size = g := ⟨_, rfl⟩
        have hlt7 : w.heap.size < g7 := by rw [← hg7]; exact blk_lt hHeld.a
        rw [hg7] at hb7 ⊢
        clear h7 hg7
        have h7 := hb7
        have hb7 := hn7
        clear hn7
        refine hK.out _ _ ?hSn8 (fun hHeld => ?_)
        case hSn8 => exact hHeld.below hb7
        clear hK K
        (try simp only [Act.put, List.setIfInBounds_toArray, List.set_cons_zero, List.set_cons_succ])
        have hI7 := hHeld
        have hLF := LI.frame (f := f) hI7 H3.out h7 hlt7
        refine wpAnyH_ready (rs := [11]) (by kernel_rfl) (by simp) ?_
        refine AllReadyH.cons (o := ⟨_, _, _, _, _, _⟩) rfl (fun K hK => ?_) AllReadyH.nil
        rw [if_pos (by rfl)]
        refine wp_store_row 61 (.tmp 7) (.tmp 32) rfl g7 f.cells.toArray rfl rfl 61 _ h7 (fr_sz61 f hfl) (by simp [Fr.cells, F0, hfl]) (fr_one f) ?_
        refine hK.out _ _ ?hSn9 (fun hHeld => ?_)
        case hSn9 => exact hLF.l
        clear hK K
        (try simp only [Act.put, List.setIfInBounds_toArray, List.set_cons_zero, List.set_cons_succ])
        refine wpAnyH_done (by kernel_rfl) ?_ _
        go_wp2
        go_meet
        case rel => exact ⟨g7, f, rfl, ⟨hLF⟩, ⟨hfl, hfx⟩⟩
      refine AllReadyH.cons (o := ⟨_, _, _, _, _, _⟩) rfl (fun K hK => ?_) ?_
      · rw [if_pos (by rfl)]
        refine wp_alloc_to 61 rfl _ z61 ?_
        obtain ⟨w7, h7, hb7, hn7⟩ : ∃ W, W = (w5).alloc (.cells F0.cells.toArray 61) ∧ W.heap[(w5).heap.size]? = some (.cells F0.cells.toArray 61 (0, 0)) ∧ Below (w5).heap.size (w5) W := ⟨_, rfl, blk_new _ _, below_alloc (Below.refl _ _) _⟩
        rw [← h7]
        obtain ⟨g7, hg7⟩ : ∃ g, (w5).heap.size = g := ⟨_, rfl⟩
        have hlt7 : w.heap.size < g7 := by rw [← hg7]; exact blk_lt hHeld.a
        rw [hg7] at hb7 ⊢
        clear h7 hg7
        have h7 := hb7
        have hb7 := hn7
        clear hn7
        refine hK.out _ _ ?hSn11 (fun hHeld => ?_)
        case hSn11 => exact hHeld.below hb7
        clear hK K
        (try simp only [Act.put, List.setIfInBounds_toArray, List.set_cons_zero, List.set_cons_succ])
        refine wpAnyH_ready (rs := [9]) (by kernel_rfl) (by simp) ?_
        refine AllReadyH.cons (o := ⟨_, _, _, _, _, _⟩) rfl (fun K hK => ?_) AllReadyH.nil
        refine goes_ (N := some 32) Tryd.func19 (by kernel_rfl) rfl #[.int .i64 (4 + x % 1272), .int .i64 s, .int .i64 c, .agg (qs.map (Value.int .i64)).toArray, .agg wc] (by rfl) rfl rfl (by first | rfl | (simp only [List.map_toArray, List.map_cons, List.map_nil]; rfl)) ?_
        (with_reducible refine (fit_call (4 + x % 1272) s c qs wc si it sp tr HASK.out.w (by have := HASK.out.hx; omega) HS2.out.1 HS2.out.2.1 HS2.out.2.2 HQL.out _).mono ?_); rintro e w6 ⟨f, hfl, hfx, rfl, hb6⟩
        refine ⟨_, rfl, ?_⟩
        refine hK.out _ _ ?hSn6 (fun hHeld => ?_)
        case hSn6 => exact hHeld.below hb6
        clear hK K
        (try simp only [Act.put, List.setIfInBounds_toArray, List.set_cons_zero, List.set_cons_succ])
        have h7a := blk_below h7 hb6
        clear h7
        have h7 := h7a
        clear h7a
        have hI7 := hHeld
        have hLF := LI.frame (f := f) hI7 H3.out h7 hlt7
        refine wpAnyH_ready (rs := [11]) (by kernel_rfl) (by simp) ?_
        refine AllReadyH.cons (o := ⟨_, _, _, _, _, _⟩) rfl (fun K hK => ?_) AllReadyH.nil
        rw [if_pos (by rfl)]
        refine wp_store_row 61 (.tmp 7) (.tmp 32) rfl g7 f.cells.toArray rfl rfl 61 _ h7 (fr_sz61 f hfl) (by simp [Fr.cells, F0, hfl]) (fr_one f) ?_
        refine hK.out _ _ ?hSn7 (fun hHeld => ?_)
        case hSn7 => exact hLF.l
        clear hK K
        (try simp only [Act.put, List.setIfInBounds_toArray, List.set_cons_zero, List.set_cons_succ])
        refine wpAnyH_done (by kernel_rfl) ?_ _
        go_wp2
        go_meet
        case rel => exact ⟨g7, f, rfl, ⟨hLF⟩, ⟨hfl, hfx⟩⟩
      exact AllReadyH.nil
    refine AllReadyH.cons (o := ⟨_, _, _, _, _, _⟩) rfl (fun K hK => ?_) ?_
    · rw [if_pos (by rfl)]
      refine wp_alloc_to 61 rfl _ z61 ?_
      obtain ⟨w7, h7, hb7, hn7⟩ : ∃ W, W = (W4.drew).alloc (.cells F0.cells.toArray 61) ∧ W.heap[(W4.drew).heap.size]? = some (.cells F0.cells.toArray 61 (0, 0)) ∧ Below (W4.drew).heap.size (W4.drew) W := ⟨_, rfl, blk_new _ _, below_alloc (Below.refl _ _) _⟩
      rw [← h7]
      obtain ⟨g7, hg7⟩ : ∃ g, (W4.drew).heap.size = g := ⟨_, rfl⟩
      have hlt7 : w.heap.size < g7 := by rw [← hg7]; exact blk_lt hHeld.a
      rw [hg7] at hb7 ⊢
      clear h7 hg7
      have h7 := hb7
      have hb7 := hn7
      clear hn7
      refine hK.out _ _ ?hSn16 (fun hHeld => ?_)
      case hSn16 => exact hHeld.below hb7
      clear hK K
      (try simp only [Act.put, List.setIfInBounds_toArray, List.set_cons_zero, List.set_cons_succ])
      refine wpAnyH_ready (rs := [1]) (by kernel_rfl) (by simp) ?_
      refine AllReadyH.cons (o := ⟨_, _, _, _, _, _⟩) rfl (fun K hK => ?_) AllReadyH.nil
      refine goes_ (N := some 24) Tryd.func20 (by kernel_rfl) rfl #[.agg cs] (by rfl) rfl rfl (by first | rfl | (simp only [List.map_toArray, List.map_cons, List.map_nil]; rfl)) ?_
      (with_reducible refine (long_call cs _ HASK.out.hx HASK.out.c0 _).mono ?_); rintro e w5 ⟨rfl, hb5⟩
      refine ⟨_, rfl, ?_⟩
      refine hK.out _ _ ?hSn13 (fun hHeld => ?_)
      case hSn13 => exact hHeld.below hb5
      clear hK K
      (try simp only [Act.put, List.setIfInBounds_toArray, List.set_cons_zero, List.set_cons_succ])
      have h7a := blk_below h7 hb5
      clear h7
      have h7 := h7a
      clear h7a
      refine wpAnyH_ready (rs := [9]) (by kernel_rfl) (by simp) ?_
      refine AllReadyH.cons (o := ⟨_, _, _, _, _, _⟩) rfl (fun K hK => ?_) AllReadyH.nil
      refine goes_ (N := some 32) Tryd.func19 (by kernel_rfl) rfl #[.int .i64 (4 + x % 1272), .int .i64 s, .int .i64 c, .agg (qs.map (Value.int .i64)).toArray, .agg wc] (by rfl) rfl rfl (by first | rfl | (simp only [List.map_toArray, List.map_cons, List.map_nil]; rfl)) ?_
      (with_reducible refine (fit_call (4 + x % 1272) s c qs wc si it sp tr HASK.out.w (by have := HASK.out.hx; omega) HS2.out.1 HS2.out.2.1 HS2.out.2.2 HQL.out _).mono ?_); rintro e w6 ⟨f, hfl, hfx, rfl, hb6⟩
      refine ⟨_, rfl, ?_⟩
      refine hK.out _ _ ?hSn14 (fun hHeld => ?_)
      case hSn14 => exact hHeld.below hb6
      clear hK K
      (try simp only [Act.put, List.setIfInBounds_toArray, List.set_cons_zero, List.set_cons_succ])
      have h7a := blk_below h7 hb6
      clear h7
      have h7 := h7a
      clear h7a
      have hI7 := hHeld
      have hLF := LI.frame (f := f) hI7 H3.out h7 hlt7
      refine wpAnyH_ready (rs := [11]) (by kernel_rfl) (by simp) ?_
      refine AllReadyH.cons (o := ⟨_, _, _, _, _, _⟩) rfl (fun K hK => ?_) AllReadyH.nil
      rw [if_pos (by rfl)]
      refine wp_store_row 61 (.tmp 7) (.tmp 32) rfl g7 f.cells.toArray rfl rfl 61 _ h7 (fr_sz61 f hfl) (by simp [Fr.cells, F0, hfl]) (fr_one f) ?_
      refine hK.out _ _ ?hSn15 (fun hHeld => ?_)
      case hSn15 => exact hLF.l
      clear hK K
      (try simp only [Act.put, List.setIfInBounds_toArray, List.set_cons_zero, List.set_cons_succ])
      refine wpAnyH_done (by kernel_rfl) ?_ _
      go_wp2
      go_meet
      case rel => exact ⟨g7, f, rfl, ⟨hLF⟩, ⟨hfl, hfx⟩⟩
    exact AllReadyH.nil
  case rest =>
    obtain ⟨g7, f, rfl, HF, HFX⟩ := hcut
    clear HI
    have HFL := Aside0.mk HFX.out.1
    cases hsi : f.si
    · have HSI := Aside0.mk hsi
      obtain ⟨O, hO⟩ : ∃ O, (spAll f c (s + 3) (sp0 sd)).o = O := ⟨_, rfl⟩
      have HQ : Aside0 (LQ f c (s + 3) O) := ⟨by
        rw [← hO]
        rcases HFX.out.2 with h | h
        · rw [hsi] at h; cases h
        · exact all_LQ HS2.out.1 HS2.out.2.2 h.d sd⟩
      have HOL : Aside0 (O.length = 64) := ⟨HQ.out.ol⟩
      have HSPEC : Aside0 (∀ w, Mode.Laid w → Shape.Laid w → Spread.Laid w → Calls Tryd.prog 21 #[.agg #[.int .i64 s, .int .i64 c], .agg f.cells.toArray, .int .u32 sd] w fun e w' => (∃ z : Int, True ∧ e = .returned (.tuple #[.agg (rowI O), .int .u32 z])) ∧ Below w.heap.size w w') := ⟨fun w lm lp ls => by
        obtain ⟨si2, it2, L2⟩ := f
        have h2 : si2 = false := hsi
        subst h2
        rw [← hO]
        exact (spec_loud s c it2 L2 sd HS2.out.1 HS2.out.2.1 HS2.out.2.2 HFL.out w lm lp ls).mono (by rintro e w' ⟨he, hb⟩; exact ⟨⟨_, trivial, he⟩, hb⟩)⟩
      clear hsi hO
      go_upto_region 6 with (first
  | (refine wpList_load_row rfl 53 (.tmp 5) rfl g5 rfl 53 #[.int .i64 s, .int .i64 c] (0, 0) _ HF.out.l.m Tryd.underlying53 rfl (by kernel_rfl) ?_)
  | (refine wpList_load_row rfl 61 (.tmp 7) rfl g7 rfl 61 f.cells.toArray (0, 0) _ HF.out.f7 Tryd.underlying61 rfl (fr_sz61 f HFL.out) ?_)
  | (go_at_call 21; (with_reducible refine (HSPEC.out _ HF.out.l.lm HF.out.l.lp HF.out.l.ls).mono ?_); rintro e w7 ⟨⟨z, hz, rfl⟩, hb7⟩; have HZ := Aside0.mk hz; have HF1 := Aside0.mk (HF.out.below hb7); clear HF hb7 hz; have HF := HF1; clear HF1)
  | (with_reducible refine alloc_to rfl 66 rfl _ z66 ?_)
  | (refine store_fresh rfl 66 (.tmp 8) (.tmp 38) rfl _ (rowI O) _ rfl _ rfl rfl rfl (by rw [rowI_sz, HOL.out]; kernel_rfl) (by rw [rowI_sz, rowI_sz, HOL.out]; rfl) (rowI_one _) ?_))
      have HF2 := Aside0.mk (LO.mk (HF.out.below (below_alloc (Below.refl w7.heap.size w7) (.cells (rowI O) 66))) (blk_new w7 _))
      obtain ⟨wq, hwq⟩ : ∃ y, w7.alloc (.cells (rowI O) 66) = y := ⟨_, rfl⟩
      obtain ⟨g8, hg8⟩ : ∃ g, w7.heap.size = g := ⟨_, rfl⟩
      rw [hwq, hg8] at HF2
      rw [hwq, hg8]
      clear hwq HF HSPEC hg8
      have HF := HF2
      clear HF2
      (try simp only [Act.put, List.setIfInBounds_toArray, List.set_cons_zero, List.set_cons_succ])
      have hs0 : wq.cell? ⟨g7, 0, none⟩ = some (.bool false) := ((blk_cell HF.out.l.f7 0).trans f.cells_0).trans (by rw [HSI.out])
      go_wp2
      clear hs0
      go_loopw [10] (fun cv wr => ∃ q : Nat, q ≤ 2 ∧ cv = .int .i64 q ∧ Aside0 (LO w wr cs s c qs g5 g6 g7 f g8 O)) (fun cv _ => (((2 : Nat) : Int) - intOf cv).toNat)
      case atStart => exact ⟨0, by omega, rfl, HF⟩
      case round =>
        obtain ⟨q, hq, rfl, HF2⟩ := hrel
        clear HF
        have HF := HF2
        clear HF2
        by_cases ht : q < 2
        · have d0 : decide ((q : Int) < 2) = true := decide_eq_true (by omega)
          have HQQ : Aside0 (q + 1 ≤ 2 ∧ q ≤ 1) := ⟨by omega, by omega⟩
          have q1 : (0 : Int) ≤ (q : Int) := by omega
          have q2 : (q : Int) < 2 := by omega
          clear hq ht
          go_wp2
          clear d0
          go_loopw [11] (fun bv wr => ∃ b : Nat, b ≤ s + 3 ∧ bv = .int .i64 b ∧ Aside0 (LO w wr cs s c qs g5 g6 g7 f g8 O)) (fun bv _ => ((s : Int) + 3 - intOf bv).toNat)
          case atStart => exact ⟨0, by omega, rfl, HF⟩
          case round =>
            obtain ⟨b, hb, rfl, HF2⟩ := hrel
            clear HF
            have HF := HF2
            clear HF2
            by_cases ht : b < s + 3
            · have d1 : decide ((b : Int) < (s : Int) + 3) = true := decide_eq_true (by omega)
              have HBB : Aside0 (b + 1 ≤ s + 3 ∧ b ≤ 4 ∧ b < s + 3) := ⟨by omega, by have := HS2.out; omega, ht⟩
              have i3 : (0 : Int) ≤ (b : Int) := by omega
              have i4 : (b : Int) < 5 := by have := HBB.out; omega
              clear ht hb
              go_wp2_with (first
                | (refine wpList_load_row rfl 53 (.tmp 5) rfl g5 rfl 53 #[.int .i64 s, .int .i64 c] (0, 0) _ HF.out.l.l.m Tryd.underlying53 rfl (by kernel_rfl) ?_)
                | (go_at_call 22; (with_reducible refine (mbands_call HS2.out.1 HS2.out.2.1 HS2.out.2.2 _).mono ?_); rintro e w8 ⟨rfl, hb8⟩; have HF1 := Aside0.mk (HF.out.below hb8); clear HF hb8; have HF := HF1; clear HF1)
                | (go_at_call 25; (with_reducible refine (mfrom_call HS2.out.1 HS2.out.2.1 HS2.out.2.2 HBB.out.2.2 _ HF.out.l.l.lm).mono ?_); rintro e w8 ⟨rfl, hb8⟩; have HF1 := Aside0.mk (HF.out.below hb8); clear HF hb8; have HF := HF1; clear HF1))
              clear d1
              have HBW : Aside0 (bfN b + bw b ≤ 32) := ⟨(bfN_in HBB.out.2.1).1⟩
              obtain ⟨M, hM⟩ : ∃ M, bfN b + bw b = M := ⟨_, rfl⟩
              have HM := Aside0.mk hM
              clear hM
              go_loopw [12, 13] (fun sv jv wr => ∃ t j : Nat, bfN b + t = j ∧ t ≤ bw b ∧ sv = .bool (nzs O (q * 32 + bfN b) t) ∧ jv = .int .i64 j ∧ Aside0 (LO w wr cs s c qs g5 g6 g7 f g8 O)) (fun sv jv _ => ((M : Int) - intOf jv).toNat)
              case atStart => exact ⟨0, bfN b, rfl, Nat.zero_le _, rfl, rfl, HF⟩
              case round =>
                obtain ⟨t, j, hj, htb, rfl, rfl, HF2⟩ := hrel
                clear HF
                have HF := HF2
                clear HF2
                obtain ⟨S, hS⟩ : ∃ S, nzs O (q * 32 + bfN b) t = S := ⟨_, rfl⟩
                rw [hS]
                have HS := Aside0.mk hS
                clear hS
                have jm : IntKind.i64.wrap ((bfN b : Int) + (bw b : Int)) = (M : Int) := by have := HM.out; have := HBW.out; rw [i64_w]; rw [sw64 (by omega) (by omega)]; omega
                go_wp2
                refine wp_region_held_drew (S := (fun w1 => LO w w1 cs s c qs g5 g6 g7 f g8 O)) (by kernel_rfl) ?hS0 (fun hHeld => ?_)
                case hS0 => exact HF.out.below (drew_self _)
                refine wpAnyH_take (i := 0) (oi := ⟨_, _, _, _, _, _⟩) (v := ?_) rfl (by kernel_rfl) (by kernel_rfl) (by kernel_rfl) (fun _ _ _ h => h) (Or.inl ⟨by rfl, ?hy17⟩) hHeld ?rest17
                case hy17 => (intro w1 h1; go_simp; (try with_reducible rfl))
                (try simp only [Act.put, List.setIfInBounds_toArray, List.set_cons_zero, List.set_cons_succ])
                refine wpAnyH_take (i := 1) (oi := ⟨_, _, _, _, _, _⟩) (v := .agg #[.int .i64 s, .int .i64 c]) rfl (by kernel_rfl) (by kernel_rfl) (by kernel_rfl) (fun _ _ _ h => h) (yieldsIf_load_row (by rfl) 53 (.tmp 5) rfl g5 rfl 53 #[.int .i64 s, .int .i64 c] (0, 0) _ (fun w1 h1 => h1.l.l.m) Tryd.underlying53 rfl (by kernel_rfl)) hHeld ?_
                (try simp only [Act.put, List.setIfInBounds_toArray, List.set_cons_zero, List.set_cons_succ])
                refine wpAnyH_take (i := 2) (oi := ⟨_, _, _, _, _, _⟩) (v := ?_) rfl (by kernel_rfl) (by kernel_rfl) (by kernel_rfl) (fun _ _ _ h => h) (Or.inl ⟨by rfl, ?hy18⟩) hHeld ?rest18
                case hy18 => (intro w1 h1; go_simp; (try with_reducible rfl))
                (try simp only [Act.put, List.setIfInBounds_toArray, List.set_cons_zero, List.set_cons_succ])
                refine wpAnyH_take (i := 4) (oi := ⟨_, _, _, _, _, _⟩) (v := .agg #[.int .i64 s, .int .i64 c]) rfl (by kernel_rfl) (by kernel_rfl) (by kernel_rfl) (fun _ _ _ h => h) (yieldsIf_load_row (by rfl) 53 (.tmp 5) rfl g5 rfl 53 #[.int .i64 s, .int .i64 c] (0, 0) _ (fun w1 h1 => h1.l.l.m) Tryd.underlying53 rfl (by kernel_rfl)) hHeld ?_
                (try simp only [Act.put, List.setIfInBounds_toArray, List.set_cons_zero, List.set_cons_succ])
                refine wpAnyH_take (i := 5) (oi := ⟨_, _, _, _, _, _⟩) (v := ?_) rfl (by kernel_rfl) (by kernel_rfl) (by kernel_rfl) (fun _ _ _ h => h) (Or.inl ⟨by rfl, ?hy19⟩) hHeld ?rest19
                case hy19 => (intro w1 h1; go_simp; (try with_reducible rfl))
                (try simp only [Act.put, List.setIfInBounds_toArray, List.set_cons_zero, List.set_cons_succ])
                refine wpAnyH_ready (rs := [3]) (by kernel_rfl) (by simp) ?_
                refine AllReadyH.cons (o := ⟨_, _, _, _, _, _⟩) rfl (fun K hK => ?_) AllReadyH.nil
                refine goes_ (N := some 66) Tryd.func25 (by kernel_rfl) rfl #[.agg #[.int .i64 s, .int .i64 c], .int .i64 b] (by rfl) rfl rfl (by first | rfl | (simp only [List.map_toArray, List.map_cons, List.map_nil]; rfl)) ?_
                (with_reducible refine (mfrom_call HS2.out.1 HS2.out.2.1 HS2.out.2.2 HBB.out.2.2 _ hHeld.l.l.lm).mono ?_); rintro e w8 ⟨rfl, hb8⟩
                refine ⟨_, rfl, ?_⟩
                refine hK.out _ _ ?hSn20 (fun hHeld => ?_)
                case hSn20 => exact hHeld.below hb8
                clear hK K
                (try simp only [Act.put, List.setIfInBounds_toArray, List.set_cons_zero, List.set_cons_succ])
                refine wpAnyH_ready (rs := [6]) (by kernel_rfl) (by simp) ?_
                refine AllReadyH.cons (o := ⟨_, _, _, _, _, _⟩) rfl (fun K hK => ?_) AllReadyH.nil
                refine goes_ (N := some 69) Tryd.func23 (by kernel_rfl) rfl #[.agg #[.int .i64 s, .int .i64 c], .int .i64 b] (by rfl) rfl rfl (by first | rfl | (simp only [List.map_toArray, List.map_cons, List.map_nil]; rfl)) ?_
                (with_reducible refine (mwidth_call HS2.out.1 HS2.out.2.1 HS2.out.2.2 HBB.out.2.2 _ hHeld.l.l.lm).mono ?_); rintro e w9 ⟨rfl, hb9⟩
                refine ⟨_, rfl, ?_⟩
                refine hK.out _ _ ?hSn21 (fun hHeld => ?_)
                case hSn21 => exact hHeld.below hb9
                clear hK K
                (try simp only [Act.put, List.setIfInBounds_toArray, List.set_cons_zero, List.set_cons_succ])
                refine wpAnyH_take (i := 7) (oi := ⟨_, _, _, _, _, _⟩) (v := ?_) rfl (by kernel_rfl) (by kernel_rfl) (by kernel_rfl) (fun _ _ _ h => h) (Or.inl ⟨by rfl, ?hy22⟩) hHeld ?rest22
                case hy22 => (intro w1 h1; go_simp; (try with_reducible rfl))
                (try simp only [Act.put, List.setIfInBounds_toArray, List.set_cons_zero, List.set_cons_succ])
                refine wpAnyH_take (i := 8) (oi := ⟨_, _, _, _, _, _⟩) (v := ?_) rfl (by kernel_rfl) (by kernel_rfl) (by kernel_rfl) (fun _ _ _ h => h) (Or.inl ⟨by rfl, ?hy23⟩) hHeld ?rest23
                case hy23 => (intro w1 h1; go_simp; (try with_reducible rfl))
                (try simp only [Act.put, List.setIfInBounds_toArray, List.set_cons_zero, List.set_cons_succ])
                refine wpAnyH_done (by kernel_rfl) ?_ _
                have HF9 := Aside0.mk hHeld
                clear HF hb9 hHeld
                have HF := HF9
                clear HF9
                by_cases ht : t < bw b
                · have HTT : Aside0 (bfN b + (t + 1) = j + 1 ∧ t + 1 ≤ bw b ∧ j + 1 ≤ M ∧ bfN b + t = j) := ⟨by omega, by omega, by have := HM.out; omega, hj⟩
                  have k1 : (0 : Int) ≤ (j : Int) := by omega
                  have k2 : (j : Int) < 32 := by have := HBW.out; omega
                  have k3 : j < M := HTT.out.2.2.1
                  obtain ⟨X, hX⟩ : ∃ X, ga O (q * 32 + j) = X := ⟨_, rfl⟩
                  have HX := Aside0.mk hX
                  have hXb := HQ.out.bnd (q * 32 + j)
                  rw [hX] at hXb
                  have HNX : Aside0 (nzs O (q * 32 + bfN b) (t + 1) = (S || (X != 0))) := ⟨by show (nzs O _ t || (ga O (q * 32 + bfN b + t) != 0)) = _; rw [HS.out, show q * 32 + bfN b + t = q * 32 + j by omega, hX]⟩
                  have dx1 : decide (1048576 < X) = false := decide_eq_false (by omega)
                  have dt : decide ((j : Int) < (M : Int)) = true := decide_eq_true (by omega)
                  have dx2 : decide (X < -1048576) = false := decide_eq_false (by omega)
                  clear hX hXb htb hj ht
                  have hx := row_cell HF.out.o HOL.out (j := q * 32 + j) (k := q * 32 + j) (by have := HQQ.out; omega) rfl
                  rw [HX.out] at hx
                  have hc1 := (blk_cell HF.out.l.l.m 1).trans rfl
                  by_cases hqc : c ≤ q
                  · have hX0 : X = 0 := by rw [← HX.out]; exact HQ.out.nil q j HQQ.out.2 (by omega) (Or.inl hqc)
                    have dq : decide ((c : Int) ≤ (q : Int)) = true := decide_eq_true (by omega)
                    subst hX0
                    cases S
                    · go_wp2
                      go_roundw
                      case rel => repeat (first | exact ⟨⟨t + 1, j + 1, HTT.out.1, HTT.out.2.1, congrArg Value.bool (by rw [HNX.out]; simp_all), congrArg (Value.int .i64) (by omega), HF⟩, rfl⟩ | exact ⟨t + 1, j + 1, HTT.out.1, HTT.out.2.1, congrArg Value.bool (by rw [HNX.out]; simp_all), congrArg (Value.int .i64) (by omega), HF⟩ | apply Exists.intro)
                      case measure => exact meas_q HTT.out.2.2.1
                    · go_wp2
                      go_roundw
                      case rel => repeat (first | exact ⟨⟨t + 1, j + 1, HTT.out.1, HTT.out.2.1, congrArg Value.bool (by rw [HNX.out]; simp_all), congrArg (Value.int .i64) (by omega), HF⟩, rfl⟩ | exact ⟨t + 1, j + 1, HTT.out.1, HTT.out.2.1, congrArg Value.bool (by rw [HNX.out]; simp_all), congrArg (Value.int .i64) (by omega), HF⟩ | apply Exists.intro)
                      case measure => exact meas_q HTT.out.2.2.1
                  · have dq : decide ((c : Int) ≤ (q : Int)) = false := decide_eq_false (by omega)
                    cases S
                    · by_cases hX0 : X = 0
                      · subst hX0
                        go_wp2
                        go_roundw
                        case rel => repeat (first | exact ⟨⟨t + 1, j + 1, HTT.out.1, HTT.out.2.1, congrArg Value.bool (by rw [HNX.out]; simp_all), congrArg (Value.int .i64) (by omega), HF⟩, rfl⟩ | exact ⟨t + 1, j + 1, HTT.out.1, HTT.out.2.1, congrArg Value.bool (by rw [HNX.out]; simp_all), congrArg (Value.int .i64) (by omega), HF⟩ | apply Exists.intro)
                        case measure => exact meas_q HTT.out.2.2.1
                      · have e0 : (X != 0) = true := by simpa using hX0
                        have e1 : (X == 0) = false := by simpa using hX0
                        go_wp2
                        go_roundw
                        case rel => repeat (first | exact ⟨⟨t + 1, j + 1, HTT.out.1, HTT.out.2.1, congrArg Value.bool (by rw [HNX.out]; simp_all), congrArg (Value.int .i64) (by omega), HF⟩, rfl⟩ | exact ⟨t + 1, j + 1, HTT.out.1, HTT.out.2.1, congrArg Value.bool (by rw [HNX.out]; simp_all), congrArg (Value.int .i64) (by omega), HF⟩ | apply Exists.intro)
                        case measure => exact meas_q HTT.out.2.2.1
                    · go_wp2
                      go_roundw
                      case rel => repeat (first | exact ⟨⟨t + 1, j + 1, HTT.out.1, HTT.out.2.1, congrArg Value.bool (by rw [HNX.out]; simp_all), congrArg (Value.int .i64) (by omega), HF⟩, rfl⟩ | exact ⟨t + 1, j + 1, HTT.out.1, HTT.out.2.1, congrArg Value.bool (by rw [HNX.out]; simp_all), congrArg (Value.int .i64) (by omega), HF⟩ | apply Exists.intro)
                      case measure => exact meas_q HTT.out.2.2.1
                · obtain rfl : t = bw b := by omega
                  obtain rfl : j = M := by have := HM.out; omega
                  have dt : decide ((j : Int) < (j : Int)) = false := decide_eq_false (by omega)
                  clear ht htb hj
                  have hkc := frc HFL.out HF.out.l.f7 (j := 23 + b) (k := 25 + b) (by have := HBB.out; omega) (by omega)
                  have hec := frc HFL.out HF.out.l.f7 (j := 3 + (q * 5 + b)) (k := 5 + q * 5 + b) (by have := HBB.out; have := HQQ.out; omega) (by omega)
                  have hc1 := (blk_cell HF.out.l.l.m 1).trans rfl
                  have HBIG : Aside0 (q < c → 0 < ga f.L (23 + b) → 8 < ga f.L (3 + (q * 5 + b)) → S = true) := ⟨fun h1 h2 h3 => by
                    obtain ⟨t, ht, hne⟩ := HQ.out.big b q h1 HBB.out.2.2 h2 h3
                    rw [← HS.out]
                    exact nzs_of _ _ _ t ht (by rw [Nat.add_assoc]; exact hne)⟩
                  obtain ⟨KB, hKB⟩ : ∃ z, ga f.L (23 + b) = z := ⟨_, rfl⟩
                  obtain ⟨EB, hEB⟩ : ∃ z, ga f.L (3 + (q * 5 + b)) = z := ⟨_, rfl⟩
                  rw [hKB] at hkc HBIG
                  rw [hEB] at hec HBIG
                  clear hKB hEB
                  by_cases hqc : q < c
                  · have dq : decide ((q : Int) < (c : Int)) = true := decide_eq_true (by omega)
                    by_cases hk : 0 < KB
                    · have dk : decide (0 < KB) = true := decide_eq_true hk
                      by_cases he : 8 < EB
                      · have de : decide (8 < EB) = true := decide_eq_true he
                        have hst := HBIG.out hqc hk he
                        subst hst
                        go_wp2
                        go_roundw
                        case rel => repeat (first | exact ⟨⟨b + 1, HBB.out.1, congrArg (Value.int .i64) (by omega), HF⟩, rfl⟩ | exact ⟨b + 1, HBB.out.1, congrArg (Value.int .i64) (by omega), HF⟩ | apply Exists.intro)
                        case measure => exact meas_b HBB.out.1
                      · have de : decide (8 < EB) = false := decide_eq_false he
                        go_wp2
                        go_roundw
                        case rel => repeat (first | exact ⟨⟨b + 1, HBB.out.1, congrArg (Value.int .i64) (by omega), HF⟩, rfl⟩ | exact ⟨b + 1, HBB.out.1, congrArg (Value.int .i64) (by omega), HF⟩ | apply Exists.intro)
                        case measure => exact meas_b HBB.out.1
                    · have dk : decide (0 < KB) = false := decide_eq_false hk
                      go_wp2
                      go_roundw
                      case rel => repeat (first | exact ⟨⟨b + 1, HBB.out.1, congrArg (Value.int .i64) (by omega), HF⟩, rfl⟩ | exact ⟨b + 1, HBB.out.1, congrArg (Value.int .i64) (by omega), HF⟩ | apply Exists.intro)
                      case measure => exact meas_b HBB.out.1
                  · have dq : decide ((q : Int) < (c : Int)) = false := decide_eq_false (by omega)
                    go_wp2
                    go_roundw
                    case rel => repeat (first | exact ⟨⟨b + 1, HBB.out.1, congrArg (Value.int .i64) (by omega), HF⟩, rfl⟩ | exact ⟨b + 1, HBB.out.1, congrArg (Value.int .i64) (by omega), HF⟩ | apply Exists.intro)
                    case measure => exact meas_b HBB.out.1
            · obtain rfl : b = s + 3 := by omega
              have d1 : decide ((s : Int) + 3 < (s : Int) + 3) = false := decide_eq_false (by omega)
              clear ht hb
              go_wp2_with (first
                | (refine wpList_load_row rfl 53 (.tmp 5) rfl g5 rfl 53 #[.int .i64 s, .int .i64 c] (0, 0) _ HF.out.l.l.m Tryd.underlying53 rfl (by kernel_rfl) ?_)
                | (go_at_call 22; (with_reducible refine (mbands_call HS2.out.1 HS2.out.2.1 HS2.out.2.2 _).mono ?_); rintro e w8 ⟨rfl, hb8⟩; have HF1 := Aside0.mk (HF.out.below hb8); clear HF hb8; have HF := HF1; clear HF1)
                | (go_at_call 26; (with_reducible refine (mn_call HS2.out.1 HS2.out.2.1 HS2.out.2.2 _).mono ?_); rintro e w8 ⟨rfl, hb8⟩; have HF1 := Aside0.mk (HF.out.below hb8); clear HF hb8; have HF := HF1; clear HF1))
              clear d1
              go_loopw [15] (fun iv wr => ∃ i : Nat, mN s ≤ i ∧ i ≤ 32 ∧ iv = .int .i64 i ∧ Aside0 (LO w wr cs s c qs g5 g6 g7 f g8 O)) (fun iv _ => (((32 : Nat) : Int) - intOf iv).toNat)
              case atStart => exact ⟨mN s, Nat.le_refl _, mn_in HS2.out.1, rfl, HF⟩
              case round =>
                obtain ⟨i, hi0, hi, rfl, HF2⟩ := hrel
                clear HF
                have HF := HF2
                clear HF2
                by_cases ht : i < 32
                · have d2 : decide ((i : Int) < 32) = true := decide_eq_true (by omega)
                  have HII : Aside0 (mN s ≤ i + 1 ∧ i + 1 ≤ 32) := ⟨by omega, by omega⟩
                  have k1 : (0 : Int) ≤ (i : Int) := by omega
                  have k2 : (i : Int) < 32 := by omega
                  have hx := row_cell HF.out.o HOL.out (j := q * 32 + i) (k := q * 32 + i) (by have := HQQ.out; omega) rfl
                  rw [HQ.out.nil q i HQQ.out.2 ht (Or.inr hi0)] at hx
                  clear hi hi0 ht
                  go_wp2
                  go_roundw
                  case rel => repeat (first | exact ⟨⟨i + 1, HII.out.1, HII.out.2, congrArg (Value.int .i64) (by omega), HF⟩, rfl⟩ | exact ⟨i + 1, HII.out.1, HII.out.2, congrArg (Value.int .i64) (by omega), HF⟩ | apply Exists.intro)
                  case measure => exact meas_q HII.out.2
                · obtain rfl : i = 32 := by omega
                  clear ht hi hi0
                  go_wp2
                  go_roundw
                  case rel => repeat (first | exact ⟨⟨q + 1, HQQ.out.1, congrArg (Value.int .i64) (by omega), HF⟩, rfl⟩ | exact ⟨q + 1, HQQ.out.1, congrArg (Value.int .i64) (by omega), HF⟩ | apply Exists.intro)
                  case measure => exact meas_q HQQ.out.1
        · obtain rfl : q = 2 := by omega
          clear ht hq
          go_wp2
          go_ret
          exact ⟨rfl, HF.out.l.l.b⟩
    · have HSI := Aside0.mk hsi
      obtain ⟨O, hO⟩ : ∃ O, zero64 = O := ⟨_, rfl⟩
      have HOL : Aside0 (O.length = 64) := ⟨by rw [← hO]; simp [zero64]⟩
      have HSPEC : Aside0 (∀ w, Mode.Laid w → Shape.Laid w → Spread.Laid w → Calls Tryd.prog 21 #[.agg #[.int .i64 s, .int .i64 c], .agg f.cells.toArray, .int .u32 sd] w fun e w' => (∃ z : Int, z = sd ∧ e = .returned (.tuple #[.agg (rowI O), .int .u32 z])) ∧ Below w.heap.size w w') := ⟨fun w lm lp ls => by
        obtain ⟨si2, it2, L2⟩ := f
        have h2 : si2 = true := hsi
        subst h2
        rw [← hO]
        exact (spec_silent s c it2 L2 sd HS2.out.1 HS2.out.2.1 HS2.out.2.2 HFL.out w lm lp ls).mono (by rintro e w' ⟨he, hb⟩; exact ⟨⟨_, rfl, he⟩, hb⟩)⟩
      have HOZ := Aside0.mk hO
      clear hsi hO
      go_upto_region 6 with (first
  | (refine wpList_load_row rfl 53 (.tmp 5) rfl g5 rfl 53 #[.int .i64 s, .int .i64 c] (0, 0) _ HF.out.l.m Tryd.underlying53 rfl (by kernel_rfl) ?_)
  | (refine wpList_load_row rfl 61 (.tmp 7) rfl g7 rfl 61 f.cells.toArray (0, 0) _ HF.out.f7 Tryd.underlying61 rfl (fr_sz61 f HFL.out) ?_)
  | (go_at_call 21; (with_reducible refine (HSPEC.out _ HF.out.l.lm HF.out.l.lp HF.out.l.ls).mono ?_); rintro e w7 ⟨⟨z, hz, rfl⟩, hb7⟩; have HZ := Aside0.mk hz; have HF1 := Aside0.mk (HF.out.below hb7); clear HF hb7 hz; have HF := HF1; clear HF1)
  | (with_reducible refine alloc_to rfl 66 rfl _ z66 ?_)
  | (refine store_fresh rfl 66 (.tmp 8) (.tmp 38) rfl _ (rowI O) _ rfl _ rfl rfl rfl (by rw [rowI_sz, HOL.out]; kernel_rfl) (by rw [rowI_sz, rowI_sz, HOL.out]; rfl) (rowI_one _) ?_))
      have HF2 := Aside0.mk (LO.mk (HF.out.below (below_alloc (Below.refl w7.heap.size w7) (.cells (rowI O) 66))) (blk_new w7 _))
      obtain ⟨wq, hwq⟩ : ∃ y, w7.alloc (.cells (rowI O) 66) = y := ⟨_, rfl⟩
      obtain ⟨g8, hg8⟩ : ∃ g, w7.heap.size = g := ⟨_, rfl⟩
      rw [hwq, hg8] at HF2
      rw [hwq, hg8]
      clear hwq HF HSPEC hg8
      have HF := HF2
      clear HF2
      (try simp only [Act.put, List.setIfInBounds_toArray, List.set_cons_zero, List.set_cons_succ])
      have hs0 : wq.cell? ⟨g7, 0, none⟩ = some (.bool true) := ((blk_cell HF.out.l.f7 0).trans f.cells_0).trans (by rw [HSI.out])
      obtain rfl : z = sd := HZ.out
      clear HZ
      obtain rfl : zero64 = O := HOZ.out
      have hez := fun w => zero_equal w
      go_wp2_with (first
        | (refine wpList_load_row rfl 66 (.tmp 8) rfl g8 rfl 66 (rowI zero64) (0, 0) _ HF.out.o Tryd.underlying66 rfl (by kernel_rfl) ?_))
      go_ret
      exact ⟨rfl, HF.out.l.l.b⟩
end Go.Proofs.YtjpnbdofbkoddaaDoor.Sh
namespace Go.Proofs.YtjpnbdofbkoddaaDoor.Sh
open Go.RowKit Go.Proofs.YtjpnbdofbkoddaaDoorW.PrintWords Go.Proofs.YtjpnbdofbkoddaaDoorW.PrintLast Go.Proofs.YtjpnbdofbkoddaaDoorW.PrintMore
open Go.ChangeShapes Go.WideShapes Go.Deep
set_option linter.unusedVariables false
set_option linter.unusedSimpArgs false
section
variable {H : Type} {enc : TypeId × Value → H} {P : Program} {w : World} {base : Nat} {spare : Nat → Bool} {held : Bool}
theorem trod_arrs {t u e : TypeId} {m n : Nat} {k : IntKind} {fuel : Nat} {cs : List Value} {x : DataW H × List MemPlace} (ht : P.underlying t = some (.array m u)) (hu : P.underlying u = some (.array n e)) (he : P.underlying e = some (.int k)) (hce : P.cellsOf e = 1) (hcu : P.cellsOf u = n) (hct : P.cellsOf t = m * n)
    (h : DataW.trod enc P w base spare held fuel t cs = some x) : cs.length = m * n ∧ ∀ j, j < m * n → ∃ q : Int, cs[j]? = some (.int k q) ∧ (Lit.int k q).wf = true := by
  obtain ⟨ys, q, rfl, _, hl, hyl, hy⟩ := DataW.trod_array ht h
  refine ⟨by rw [hl, hct], fun j hj => ?_⟩
  have hn : 0 < n := by
    rcases Nat.eq_zero_or_pos n with h | h
    · subst h; omega
    · exact h
  have hi : j / n < m := by rw [Nat.div_lt_iff_lt_mul hn]; exact hj
  have h5 := hy (j / n) hi
  rw [List.getElem?_eq_getElem (by omega)] at h5
  obtain ⟨zs, hz, hc, hw⟩ := Arrs.trod_ints hu he hce hcu h5
  have hr := Nat.mod_lt j hn
  refine ⟨rd zs (j % n : Nat), ?_, hw _ ?_⟩
  · have h8 := congrArg (fun l : List Value => l[j % n]?) hc
    simp only [List.getElem?_take, List.getElem?_drop, Arrs.nums_at (k := k) (xs := zs) (j := j % n) (by omega), hcu, if_pos hr] at h8
    have e : j / n * n + j % n = j := by rw [Nat.mul_comm]; exact Nat.div_add_mod j n
    rw [e] at h8
    exact h8
  · unfold rd; rw [Int.toNat_natCast, List.getD_eq_getElem?_getD, List.getElem?_eq_getElem (by omega)]; exact List.getElem_mem _
theorem sub_at {cs l : List Value} {o n j : Nat} (h : (cs.drop o).take n = l) {v : Value} (hj : l[j]? = some v) : cs[o + j]? = some v := by
  subst h
  rw [List.getElem?_take] at hj
  split at hj
  · rwa [List.getElem?_drop] at hj
  · cases hj
theorem wf_u8 {n : Int} (h : (Lit.int .u8 n).wf = true) : 0 ≤ n ∧ n ≤ 255 := by
  have h2 : IntKind.u8.min ≤ n ∧ n ≤ IntKind.u8.max := by simpa [Lit.wf] using h
  rw [show IntKind.u8.min = 0 by decide, show IntKind.u8.max = 255 by decide] at h2
  first | exact h2 | (exact ⟨h2.1, by omega⟩)
theorem wf_u16 {n : Int} (h : (Lit.int .u16 n).wf = true) : 0 ≤ n ∧ n < 65536 := by
  have h2 : IntKind.u16.min ≤ n ∧ n ≤ IntKind.u16.max := by simpa [Lit.wf] using h
  rw [show IntKind.u16.min = 0 by decide, show IntKind.u16.max = 65535 by decide] at h2
  first | exact h2 | (exact ⟨h2.1, by omega⟩)
theorem wf_i8 {n : Int} (h : (Lit.int .i8 n).wf = true) : -128 ≤ n ∧ n ≤ 127 := by
  have h2 : IntKind.i8.min ≤ n ∧ n ≤ IntKind.i8.max := by simpa [Lit.wf] using h
  rw [show IntKind.i8.min = -128 by decide, show IntKind.i8.max = 127 by decide] at h2
  first | exact h2 | (exact ⟨h2.1, by omega⟩)
theorem wf_u64 {n : Int} (h : (Lit.int .u64 n).wf = true) : 0 ≤ n ∧ n < 18446744073709551616 := by
  have h2 : IntKind.u64.min ≤ n ∧ n ≤ IntKind.u64.max := by simpa [Lit.wf] using h
  rw [show IntKind.u64.min = 0 by decide, show IntKind.u64.max = 18446744073709551615 by decide] at h2
  first | exact h2 | (exact ⟨h2.1, by omega⟩)
theorem wf_u32' {n : Int} (h : (Lit.int .u32 n).wf = true) : NoisePlain.U32 n := by
  have h2 : IntKind.u32.min ≤ n ∧ n ≤ IntKind.u32.max := by simpa [Lit.wf] using h
  rw [show IntKind.u32.min = 0 by decide, show IntKind.u32.max = 4294967295 by decide] at h2
  first | exact h2 | (exact ⟨h2.1, by omega⟩)
end
section
variable {H : Type} {enc : TypeId × Value → H} {w : World} {base b0 : Nat} {spare : Nat → Bool} {held : Bool}
theorem field_at {fs : List Value} {xs : List (DataW H × List MemPlace)} {i : Nat} (hi : i < xs.length) {o : Option (DataW H × List MemPlace)} (h : o = xs[i]?) : ∃ x, o = some x := ⟨_, h.trans (List.getElem?_eq_getElem hi)⟩
theorem open_wish {fuel : Nat} {cs : List Value} {x : DataW H × List MemPlace} (h : DataW.trod enc Tryd.prog w base spare held fuel 49 cs = some x) : cs.length = 34 ∧ ∃ si it sp tr, Wish cs.toArray si it sp tr := by
  obtain ⟨xs, n, _, _, hl, hxl, hx⟩ := DataW.trod_struct Tryd.underlying49 h
  have hl34 : cs.length = 34 := by rw [hl]; kernel_rfl
  have hx7 : xs.length = 7 := hxl
  obtain ⟨y0, h0⟩ := field_at (fs := cs) (i := 0) (by omega) (hx 0 _ rfl)
  obtain ⟨y1, h1⟩ := field_at (fs := cs) (i := 1) (by omega) (hx 1 _ rfl)
  obtain ⟨y2, h2⟩ := field_at (fs := cs) (i := 2) (by omega) (hx 2 _ rfl)
  obtain ⟨y3, h3⟩ := field_at (fs := cs) (i := 3) (by omega) (hx 3 _ rfl)
  obtain ⟨y4, h4⟩ := field_at (fs := cs) (i := 4) (by omega) (hx 4 _ rfl)
  obtain ⟨y5, h5⟩ := field_at (fs := cs) (i := 5) (by omega) (hx 5 _ rfl)
  obtain ⟨y6, h6⟩ := field_at (fs := cs) (i := 6) (by omega) (hx 6 _ rfl)
  obtain ⟨si, e0, _⟩ := DataW.trod_bool Tryd.underlying4 h0
  obtain ⟨it, e1, _⟩ := DataW.trod_bool Tryd.underlying4 h1
  obtain ⟨sp, e2, _, w2⟩ := DataW.trod_int Tryd.underlying5 h2
  obtain ⟨tr, e3, _, w3⟩ := DataW.trod_int Tryd.underlying5 h3
  obtain ⟨l4, a4⟩ := trod_arrs Tryd.underlying44 Tryd.underlying43 Tryd.underlying42 (by kernel_rfl) (by kernel_rfl) (by kernel_rfl) h4
  obtain ⟨l5, a5⟩ := trod_arrs Tryd.underlying41 Tryd.underlying40 Tryd.underlying5 (by kernel_rfl) (by kernel_rfl) (by kernel_rfl) h5
  obtain ⟨l6, a6⟩ := trod_arrs Tryd.underlying47 Tryd.underlying46 Tryd.underlying45 (by kernel_rfl) (by kernel_rfl) (by kernel_rfl) h6
  refine ⟨hl34, si, it, sp, tr, ?_, ?_, ?_, ?_, wf_u8 w2, wf_u8 w3, fun j hj => ?_, fun j hj => ?_, fun j hj => ?_⟩
  · rw [List.getElem?_toArray]; exact sub_at (j := 0) e0 rfl
  · rw [List.getElem?_toArray]; exact sub_at (j := 0) e1 rfl
  · rw [List.getElem?_toArray]; exact sub_at (j := 0) e2 rfl
  · rw [List.getElem?_toArray]; exact sub_at (j := 0) e3 rfl
  · obtain ⟨q, hq, hw⟩ := a4 j hj
    exact ⟨q, by rw [List.getElem?_toArray]; exact sub_at rfl hq, wf_i8 hw⟩
  · obtain ⟨q, hq, hw⟩ := a5 j hj
    exact ⟨q, by rw [List.getElem?_toArray]; exact sub_at rfl hq, wf_u8 hw⟩
  · obtain ⟨q, hq, hw⟩ := a6 j hj
    exact ⟨q, by rw [List.getElem?_toArray]; exact sub_at rfl hq, wf_u64 hw⟩
set_option maxRecDepth 100000 in
theorem open_ask {r : Reach} {v : Value} {d : DataW H} {p : List MemPlace} (hv : Value.okWide Tryd.prog w r b0 51 v) (h : DataW.Trod enc Tryd.prog w base spare held 51 v d p) :
    ∃ (cs wc : Array Value) (x a b : Int) (ps : List Int) (si it : Bool) (sp tr : Int), v = .agg cs ∧ Ask cs wc x a b ps si it sp tr := by
  simp only [Value.okWide, Tryd.underlying51] at hv
  obtain ⟨cs, rfl, hsz, _⟩ := hv
  obtain ⟨fuel, hf⟩ := h
  have hcs : (Value.agg cs).cells.toList = cs.toList := rfl
  rw [hcs] at hf
  obtain ⟨xs, n, _, _, hl, hxl, hx⟩ := DataW.trod_struct Tryd.underlying51 hf
  have hl47 : cs.size = 47 := by rw [hsz]; kernel_rfl
  have hx5 : xs.length = 5 := hxl
  obtain ⟨y0, h0⟩ := field_at (fs := cs.toList) (i := 0) (by omega) (hx 0 _ rfl)
  obtain ⟨y1, h1⟩ := field_at (fs := cs.toList) (i := 1) (by omega) (hx 1 _ rfl)
  obtain ⟨y2, h2⟩ := field_at (fs := cs.toList) (i := 2) (by omega) (hx 2 _ rfl)
  obtain ⟨y3, h3⟩ := field_at (fs := cs.toList) (i := 3) (by omega) (hx 3 _ rfl)
  obtain ⟨y4, h4⟩ := field_at (fs := cs.toList) (i := 4) (by omega) (hx 4 _ rfl)
  obtain ⟨x, e0, _, w0⟩ := DataW.trod_int Tryd.underlying39 h0
  obtain ⟨a, e1, _, w1⟩ := DataW.trod_int Tryd.underlying5 h1
  obtain ⟨b, e2, _, w2⟩ := DataW.trod_int Tryd.underlying5 h2
  obtain ⟨l3, a3⟩ := trod_arrs Tryd.underlying41 Tryd.underlying40 Tryd.underlying5 (by kernel_rfl) (by kernel_rfl) (by kernel_rfl) h3
  obtain ⟨l4, si, it, sp, tr, hw⟩ := open_wish h4
  obtain ⟨F, hF⟩ := choose_lt a3
  refine ⟨cs, _, x, a, b, (List.range 10).map F, si, it, sp, tr, rfl, hl47, ?_, wf_u16 w0, ?_, ?_, wf_u8 w1, wf_u8 w2, by simp, ?_, ?_, by simpa using l4, ?_, hw⟩
  · rw [← Array.getElem?_toList]; exact sub_at (j := 0) e0 rfl
  · rw [← Array.getElem?_toList]; exact sub_at (j := 0) e1 rfl
  · rw [← Array.getElem?_toList]; exact sub_at (j := 0) e2 rfl
  · intro q hq
    obtain ⟨i, hi, rfl⟩ := List.mem_map.1 hq
    exact wf_u8 (hF i (by simpa using hi)).2
  · intro j v hv
    rw [List.getElem?_map] at hv
    obtain ⟨q, hq, rfl⟩ := Option.map_eq_some_iff.1 hv
    rw [List.getElem?_map] at hq
    obtain ⟨i, hi, rfl⟩ := Option.map_eq_some_iff.1 hq
    have hj : j < 10 := by
      have := (List.getElem?_eq_some_iff.1 hi).1
      simpa using this
    rw [List.getElem?_range hj] at hi
    rw [← Option.some.inj hi, ← Array.getElem?_toList]
    exact sub_at rfl (hF j (by omega)).1
  · intro j v hv
    have hv2 := hv
    rw [List.toList_toArray] at hv2
    rw [← Array.getElem?_toList]
    exact sub_at rfl hv2
end
end Go.Proofs.YtjpnbdofbkoddaaDoor.Sh
namespace Go.Proofs.YtjpnbdofbkoddaaDoor.Sh
open Go.RowKit Go.Proofs.YtjpnbdofbkoddaaDoorW.PrintWords Go.Proofs.YtjpnbdofbkoddaaDoorW.PrintLast Go.Proofs.YtjpnbdofbkoddaaDoorW.PrintMore
set_option linter.unusedVariables false
set_option linter.unusedSimpArgs false
theorem laid_tail {P : Program} {x : String × DataW Unit} {rest : List (String × DataW Unit)} {W : World} (h : laidMet P (x :: rest) W) : laidMet P rest W := by
  obtain ⟨ps, ⟨g', t', cs, fuel, p, q, hg', ht', hvar, hd, h1, h2⟩, hn, hm⟩ := h
  first
    | (subst h2; exact ⟨q, h1, (List.nodup_append.1 hn).2.1, fun b off hb => hm b off (List.mem_append_right _ hb)⟩)
    | (subst h1; exact ⟨q, h2, (List.nodup_append.1 hn).2.1, fun b off hb => hm b off (List.mem_append_right _ hb)⟩)
theorem laid_one {P : Program} {x : String × DataW Unit} {rest : List (String × DataW Unit)} {W : World} (h : laidMet P (x :: rest) W) : laidMet P [x] W := by
  obtain ⟨ps, ⟨g', t', cs, fuel, p, q, hg', ht', hvar, hd, h1, h2⟩, hn, hm⟩ := h
  subst h2
  exact ⟨_, ⟨g', t', cs, fuel, p, [], hg', ht', hvar, hd, rfl, rfl⟩, (by rw [List.append_nil]; exact (List.nodup_append.1 hn).1), fun b off hb => hm b off (List.mem_append_left _ (by rwa [List.append_nil] at hb))⟩
theorem laid3 {W : World} (h : laidMetH Tryd.prog [("spinet/mode.widths", Rows.laid_spinet_mode_widths), ("spinet/pow.steps", Rows.laid_spinet_pow_steps), ("spinet/spread.angles", Rows.laid_spinet_spread_angles)] W) : Mode.Laid W ∧ Shape.Laid W ∧ Spread.Laid W := by
  rw [MakeChecks.laidMetH_plain _ _ _ (by kernel_rfl)] at h
  refine ⟨Mode.of_laid ?_, Shape.of_laid ?_, Spread.of_laid ?_⟩
  · rw [MakeChecks.laidMetH_plain _ _ _ (by kernel_rfl)]
    exact laid_one h
  · rw [MakeChecks.laidMetH_plain _ _ _ (by kernel_rfl)]
    exact laid_one (laid_tail h)
  · rw [MakeChecks.laidMetH_plain _ _ _ (by kernel_rfl)]
    exact laid_one (laid_tail (laid_tail h))
theorem louder_row {cs wc : Array Value} {x a b : Int} {ps : List Int} {si it : Bool} {sp tr : Int} (hask : Ask cs wc x a b ps si it sp tr) {sd : Int} (hsd : (Lit.int .u32 sd).wf = true) (w : World) (h : Mode.Laid w ∧ Shape.Laid w ∧ Spread.Laid w) :
    Calls Tryd.prog 6 #[.agg cs, .int .u32 sd] w fun e w' => e = .returned (.bool true) ∧ Below w.heap.size w w' := louder_call cs wc x a b ps si it sp tr sd hask (wf_u32' hsd) w h.1 h.2.1 h.2.2
end Go.Proofs.YtjpnbdofbkoddaaDoor.Sh

