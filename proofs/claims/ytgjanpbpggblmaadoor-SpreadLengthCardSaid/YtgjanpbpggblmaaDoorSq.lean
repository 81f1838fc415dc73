import Derived.Test.YtgjanpbpggblmaaDoorMath
namespace Go.Proofs.YtgjanpbpggblmaaDoor.Sq
set_option linter.unusedVariables false
set_option linter.unusedSimpArgs false
theorem mmm (a b c d : Int) : a * b * (c * d) = a * c * (b * d) := by simp only [Int.mul_assoc, Int.mul_left_comm]
theorem sqnn (x : Int) : 0 ≤ x * x := by
  rcases Int.le_total 0 x with h | h
  · exact Int.mul_nonneg h h
  · exact Int.mul_nonneg_of_nonpos_of_nonpos h h
theorem le_of_sq {x y : Int} (hy : 0 ≤ y) (h : x * x ≤ y * y) : x ≤ y := by
  rcases Int.lt_or_le y x with hlt | hle
  · have h1 : y * y < x * x := by
      have a := Int.mul_lt_mul_of_pos_left hlt (show 0 < x by omega)
      have b := Int.mul_le_mul_of_nonneg_right (Int.le_of_lt hlt) hy
      omega
    omega
  · exact hle
theorem cauchy (e f u v : Int) : (e * u + f * v) * (e * u + f * v) ≤ (e * e + f * f) * (u * u + v * v) := by
  have h : (e * e + f * f) * (u * u + v * v) - (e * u + f * v) * (e * u + f * v) = (e * v - f * u) * (e * v - f * u) := by
    simp only [Int.sub_mul, Int.mul_sub, Int.add_mul, Int.mul_add]
    simp only [Int.mul_assoc, Int.mul_comm, Int.mul_left_comm]
    omega
  have h2 : 0 ≤ (e * v - f * u) * (e * v - f * u) := sqnn _
  omega
theorem rotated (c s a b : Int) : (c * a - s * b) * (c * a - s * b) + (s * a + c * b) * (s * a + c * b) = (c * c + s * s) * (a * a + b * b) := by
  simp only [Int.sub_mul, Int.mul_sub, Int.add_mul, Int.mul_add]
  simp only [Int.mul_assoc, Int.mul_comm, Int.mul_left_comm]
  omega
theorem expand (u e : Int) : (u + e) * (u + e) = u * u + 2 * (e * u) + e * e := by
  simp only [Int.add_mul, Int.mul_add]
  have := Int.mul_comm u e
  omega
/-- No longer than it was, but for a little. -/
theorem upper {N M D G E X L t : Int} (hL : 0 ≤ L) (h : 6400000000 * N ≤ L * L) (hD0 : 0 ≤ D) (hDN : D ≤ N) (hG0 : 0 ≤ G) (hG : G ≤ 1073766676) (hE0 : 0 ≤ E) (hE : E ≤ 536870912) (hX : X * X ≤ E * (G * D))
    (hM : 1073741824 * M = 1073741824 * (N - D) + G * D + 2 * X + E) (h1 : 24852 * L + 121481426240000 ≤ 2147483648 * t) (h2 : 60000 ≤ t) : 6400000000 * M ≤ (L + t) * (L + t) := by
  have hGD : G * D ≤ 1073766676 * D := Int.mul_le_mul_of_nonneg_right hG hD0
  have hGD0 : 0 ≤ G * D := Int.mul_nonneg hG0 hD0
  have hEG : E * (G * D) ≤ 536870912 * (G * D) := Int.mul_le_mul_of_nonneg_right hE hGD0
  have hY : 80000 * X ≤ 759258914 * L := by
    refine le_of_sq (by omega) ?_
    have a1 : 80000 * X * (80000 * X) = 6400000000 * (X * X) := by rw [mmm]; rfl
    have a2 : 759258914 * L * (759258914 * L) = 576474098488459396 * (L * L) := by rw [mmm]; rfl
    rw [a1, a2]
    omega
  have e1 : (L + t) * (L + t) = L * L + 2 * (t * L) + t * t := expand L t
  have e2 : 0 ≤ L * (2147483648 * t - (24852 * L + 121481426240000)) := Int.mul_nonneg hL (by omega)
  have e3 : L * (2147483648 * t - (24852 * L + 121481426240000)) = 2147483648 * (t * L) - 24852 * (L * L) - 121481426240000 * L := by
    rw [Int.mul_sub, Int.mul_add, Int.mul_left_comm, Int.mul_comm L t, Int.mul_left_comm L 24852 L, Int.mul_comm L 121481426240000]
    omega
  have e4 : 60000 * 60000 ≤ t * t := Int.mul_le_mul h2 h2 (by decide) (by omega)
  rw [e1]
  rw [e3] at e2
  omega
/-- No shorter than it was, but for a little. -/
theorem lower {N M D G E X L t a : Int} (hL : 0 ≤ L) (h : L * L ≤ 6400000000 * N) (hD0 : 0 ≤ D) (hDN : D ≤ N) (hG0 : 1073721493 ≤ G) (hG : G ≤ 1073766676) (hE0 : 0 ≤ E) (hE : E ≤ 536870912) (hX : X * X ≤ E * (G * D))
    (hM : 1073741824 * M = 1073741824 * (N - D) + G * D + 2 * X + E) (ha : 27 ≤ a) (hLa : L ≤ 80000 * a) (hLb : 79971 * a - 1914000 ≤ L) (ht : t = a + 66000) : (L - t) * (L - t) ≤ 6400000000 * M := by
  have hGD1 : 1073721493 * D ≤ G * D := Int.mul_le_mul_of_nonneg_right hG0 hD0
  have hGD : G * D ≤ 1073766676 * D := Int.mul_le_mul_of_nonneg_right hG hD0
  have hGD0 : 0 ≤ G * D := Int.mul_nonneg (by omega) hD0
  have hEG : E * (G * D) ≤ 536870912 * (G * D) := Int.mul_le_mul_of_nonneg_right hE hGD0
  obtain ⟨Y, hYe⟩ : ∃ Y, Y = 80000 * (-X) := ⟨_, rfl⟩
  have hY2 : Y * Y ≤ 576474098488459396 * (6400000000 * N) := by
    have a1 : Y * Y = 6400000000 * (X * X) := by
      rw [hYe, mmm, Int.neg_mul_neg]; rfl
    rw [a1]
    omega
  have key : L * (1073721493 * L - 121481426240000) ≤ 1073721493 * (6400000000 * N) - 160000 * Y := by
    have e0 : L * (1073721493 * L - 121481426240000) = 1073721493 * (L * L) - 121481426240000 * L := by
      rw [Int.mul_sub, Int.mul_left_comm, Int.mul_comm L 121481426240000]
    rcases Int.lt_or_le (759258914 * L) Y with hlt | hle
    · have hYL : 0 ≤ Y - 759258914 * L := by omega
      have f0 : 0 ≤ 1073721493 * (Y + 759258914 * L) - 92235855758153503360000 := by omega
      have f1 := Int.mul_nonneg hYL f0
      have f2 : (Y - 759258914 * L) * (1073721493 * (Y + 759258914 * L) - 92235855758153503360000) = 1073721493 * (Y * Y) - 618972629704857665942998228 * (L * L) - 92235855758153503360000 * Y + 70030895674796275606408951040000 * L := by
        have g1 : (Y - 759258914 * L) * (Y + 759258914 * L) = Y * Y - 576474098488459396 * (L * L) := by
          rw [Int.sub_mul, Int.mul_add, Int.mul_add, mmm, Int.mul_comm (759258914 * L) Y]
          omega
        rw [Int.mul_sub, Int.mul_left_comm, g1, Int.mul_comm (Y - 759258914 * L)]
        omega
      rw [f2] at f1
      rw [e0]
      omega
    · rw [e0]
      omega
  have e1 : (L - t) * (L - t) = L * L - 2 * (t * L) + t * t := by
    rw [Int.sub_mul, Int.mul_sub, Int.mul_sub, Int.mul_comm L t]; omega
  -- what is left: a number above the square of what is taken off
  have r0 : 500000000 * a + 20250000000000 ≤ 2147483648 * t - (20331 * L + 121481426240000) := by omega
  have r1 : L * (500000000 * a + 20250000000000) ≤ L * (2147483648 * t - (20331 * L + 121481426240000)) := Int.mul_le_mul_of_nonneg_left r0 hL
  have r2 : (79971 * a - 1914000) * (500000000 * a + 20250000000000) ≤ L * (500000000 * a + 20250000000000) := Int.mul_le_mul_of_nonneg_right hLb (by omega)
  have r3 : L * (2147483648 * t - (20331 * L + 121481426240000)) = 2147483648 * (t * L) - 20331 * (L * L) - 121481426240000 * L := by
    rw [Int.mul_sub, Int.mul_add, Int.mul_left_comm, Int.mul_comm L t, Int.mul_left_comm L 20331 L, Int.mul_comm L 121481426240000]
    omega
  have r4 : (79971 * a - 1914000) * (500000000 * a + 20250000000000) = 39985500000000 * (a * a) + 1618455750000000000 * a - 38758500000000000000 := by
    rw [Int.sub_mul, Int.mul_add, Int.mul_add, mmm]
    omega
  have r5 : t * t = a * a + 132000 * a + 4356000000 := by
    rw [ht, Int.add_mul, Int.mul_add, Int.mul_add]; omega
  have r6 : 27 * a ≤ a * a := Int.mul_le_mul_of_nonneg_right ha (by omega)
  have e5 : L * (1073721493 * L - 121481426240000) = 1073721493 * (L * L) - 121481426240000 * L := by
    rw [Int.mul_sub, Int.mul_left_comm, Int.mul_comm L 121481426240000]
  rw [e1]
  rw [r3] at r1
  rw [r4] at r2
  rw [e5] at key
  omega
end Go.Proofs.YtgjanpbpggblmaaDoor.Sq
