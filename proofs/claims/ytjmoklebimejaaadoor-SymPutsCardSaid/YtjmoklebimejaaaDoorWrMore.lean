import Derived.Test.YtjmoklebimejaaaDoorWrPlain
/-! The bytes of a number while one is carried. -/
namespace Go.Proofs.YtjmoklebimejaaaDoor.Wr
open Go.Proofs.YtjmoklebimejaaaDoor.Rd (ok rg part_is Part)
/-- The upper digits of a number, noughts behind them. -/
def crow (U : Int) (m j : Nat) : List Int := dig U (m - j) ++ List.replicate j 0
theorem crow_len {U : Int} {m j : Nat} (h : j ≤ m) : (crow U m j).length = m := by
  rw [crow, List.length_append, dig_len, List.length_replicate]; omega
theorem crow_zero0 (U : Int) (m : Nat) : crow U m 0 = dig U m := by simp [crow]
theorem crow_split {U : Int} {m j k : Nat} (h : k + j + 1 = m) : crow U m j = dig (U / 256) k ++ (U % 256 :: List.replicate j 0) := by
  rw [crow, show m - j = k + 1 by omega, dig, List.append_assoc]
  rfl
theorem crow_at {U : Int} {m j k : Nat} (h : k + j + 1 = m) : (crow U m j).getD k 0 = U % 256 := by
  rw [crow_split h, List.getD_eq_getElem?_getD, List.getElem?_append_right (by rw [dig_len]; exact Nat.le_refl _), dig_len, Nat.sub_self]
  rfl
theorem crow_set {U : Int} {m j k : Nat} (h : k + j + 1 = m) (x : Int) : (crow U m j).set k x = dig (U / 256) k ++ (x :: List.replicate j 0) := by
  rw [crow_split h, List.set_append_right _ _ (by rw [dig_len]; exact Nat.le_refl _), dig_len, Nat.sub_self]
  rfl
theorem crow_nil {U : Int} {m j k : Nat} (h : k + j + 1 = m) : (crow U m j).set k 0 = crow (U / 256) m (j + 1) := by
  rw [crow_set h, crow, show m - (j + 1) = k by omega, List.replicate_succ]
theorem crow_inc {U : Int} {m j k : Nat} (h : k + j + 1 = m) (hd : ¬ U % 256 = 255) : (crow U m j).set k (U % 256 + 1) = crow (U + 1) m j := by
  rw [crow_set h, crow_split h, show (U + 1) / 256 = U / 256 by omega, show (U + 1) % 256 = U % 256 + 1 by omega]
theorem crow_up {U : Int} {m j k : Nat} (h : k + j + 1 = m) (hd : U % 256 = 255) : crow (U + 1) m j = crow (U / 256 + 1) m (j + 1) := by
  rw [crow_split h, crow, show m - (j + 1) = k by omega, List.replicate_succ, show (U + 1) / 256 = U / 256 + 1 by omega, show (U + 1) % 256 = 0 by omega]
theorem crow_lt {U : Int} {m j : Nat} (h0 : 0 ≤ U) (h1 : U + 1 < 256 ^ (m - j)) (hj : j ≤ m) : j < m := by
  rcases Nat.lt_or_ge j m with h | h
  · exact h
  · rw [show m - j = 0 by omega] at h1
    simp at h1
    omega
theorem crow_lt2 {U : Int} {m j k : Nat} (h : k + j + 1 = m) (hd : U % 256 = 255) (h1 : U + 1 < 256 ^ (m - j)) : U / 256 + 1 < 256 ^ (m - (j + 1)) := by
  rw [show m - j = (m - (j + 1)) + 1 by omega, Int.pow_succ] at h1
  omega
end Go.Proofs.YtjmoklebimejaaaDoor.Wr
