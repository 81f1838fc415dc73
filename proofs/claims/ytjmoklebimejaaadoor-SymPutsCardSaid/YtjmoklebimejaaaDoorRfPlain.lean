import Derived.Test.YtjmoklebimejaaaDoorPackMore
/-! The document's writer, as plain numbers: its digits while something is added. -/
namespace Go.Proofs.YtjmoklebimejaaaDoor.Rf
open Go.Proofs.YtjmoklebimejaaaDoor.Wr (dig dig_len)
theorem dig_split : ∀ (j k : Nat) (V : Int), dig V (k + j) = dig (V / 256 ^ j) k ++ dig V j
  | 0, k, V => by simp [dig]
  | j + 1, k, V => by
    rw [← Nat.add_assoc, dig, dig_split j k (V / 256), dig, List.append_assoc, Int.ediv_ediv_of_nonneg (by decide), ← Int.pow_succ']
theorem dig_front (j : Nat) (X : Int) : dig X (j + 1) = (X / 256 ^ j % 256) :: dig X j := by
  rw [Nat.add_comm, dig_split j 1 X]
  rfl
/-- The digits while a number is added: the lower j are new. -/
def arow (V n : Int) (M j : Nat) : List Int := dig (V / 256 ^ j) (M - j) ++ dig (V + n) j
def car (V n : Int) (j : Nat) : Int := (V + n) / 256 ^ j - V / 256 ^ j
theorem arow_len {V n : Int} {M j : Nat} (h : j ≤ M) : (arow V n M j).length = M := by
  rw [arow, List.length_append, dig_len, dig_len]; omega
theorem arow_0 (V n : Int) (M : Nat) : arow V n M 0 = dig V M := by simp [arow, dig]
theorem arow_M (V n : Int) (M : Nat) : arow V n M M = dig (V + n) M := by simp [arow, dig]
theorem arow_split {V n : Int} {M j k : Nat} (h : k + j + 1 = M) : arow V n M j = dig (V / 256 ^ j / 256) k ++ (V / 256 ^ j % 256 :: dig (V + n) j) := by
  rw [arow, show M - j = k + 1 by omega, dig, List.append_assoc]
  rfl
theorem arow_at {V n : Int} {M j k : Nat} (h : k + j + 1 = M) : (arow V n M j).getD k 0 = V / 256 ^ j % 256 := by
  rw [arow_split h, List.getD_eq_getElem?_getD, List.getElem?_append_right (by rw [dig_len]; exact Nat.le_refl _), dig_len, Nat.sub_self]
  rfl
theorem arow_next {V n : Int} {M j k : Nat} (h : k + j + 1 = M) : (arow V n M j).set k ((V + n) / 256 ^ j % 256) = arow V n M (j + 1) := by
  rw [arow_split h, List.set_append_right _ _ (by rw [dig_len]; exact Nat.le_refl _), dig_len, Nat.sub_self, arow, dig_front, show M - (j + 1) = k by omega, Int.pow_succ, ← Int.ediv_ediv_of_nonneg (by have := Int.pow_pos (n := 256) (m := j) (by decide); omega)]
  rfl
theorem car_0 (V n : Int) : car V n 0 = n := by simp [car]; omega
theorem car_step (V n : Int) (j : Nat) : (car V n j + V / 256 ^ j % 256) % 256 = (V + n) / 256 ^ j % 256 ∧ (car V n j + V / 256 ^ j % 256) / 256 = car V n (j + 1) := by
  unfold car
  rw [Int.pow_succ, ← Int.ediv_ediv_of_nonneg (by have := Int.pow_pos (n := 256) (m := j) (by decide); omega), ← Int.ediv_ediv_of_nonneg (by have := Int.pow_pos (n := 256) (m := j) (by decide); omega)]
  obtain ⟨a, ha⟩ : ∃ a, (V + n) / 256 ^ j = a := ⟨_, rfl⟩
  obtain ⟨b, hb⟩ : ∃ b, V / 256 ^ j = b := ⟨_, rfl⟩
  rw [ha, hb]
  omega
theorem car_in {V n : Int} (h0 : 0 ≤ n) (h1 : n ≤ 16777216) : ∀ j, 0 ≤ car V n j ∧ car V n j ≤ 16777216
  | 0 => by rw [car_0]; omega
  | j + 1 => by
    have h := car_in (V := V) h0 h1 j
    have := (car_step V n j).2
    omega
def b2i (b : Bool) : Int := if b then 1 else 0
end Go.Proofs.YtjmoklebimejaaaDoor.Rf
