import Derived.Test.YtjmoklebimejaaaDoorRdPlain
/-! The writer, as plain numbers: how many bytes were written, the number of all that was put, the range, the raw bits. -/
namespace Go.Proofs.YtjmoklebimejaaaDoor.Wr
open Go.Proofs.YtjmoklebimejaaaDoor.Rd (ok rg part_is Part)
/-- A number's digits to the base 256. -/
def dig (V : Int) : Nat → List Int
  | 0 => []
  | k + 1 => dig (V / 256) k ++ [V % 256]
theorem dig_len : ∀ (k : Nat) (V : Int), (dig V k).length = k
  | 0, _ => rfl
  | k + 1, V => by rw [dig, List.length_append, dig_len]; rfl
theorem dig_in : ∀ (k : Nat) (V : Int) (x : Int), x ∈ dig V k → 0 ≤ x ∧ x ≤ 255
  | 0, _, _, h => by simp [dig] at h
  | k + 1, V, x, h => by
    rw [dig, List.mem_append] at h
    rcases h with h | h
    · exact dig_in k _ x h
    · rw [List.mem_singleton] at h; omega
theorem dig_app (V : Int) (m : Nat) (d : Int) (h0 : 0 ≤ d) (h1 : d ≤ 255) : dig V m ++ [d] = dig (V * 256 + d) (m + 1) := by
  rw [dig, show (V * 256 + d) / 256 = V by omega, show (V * 256 + d) % 256 = d by omega]
/-- A digit. -/
theorem dig_get : ∀ (k : Nat) (V : Int) (i : Nat), i < k → (dig V k).getD i 0 = V / 256 ^ (k - 1 - i) % 256
  | 0, _, _, h => by omega
  | k + 1, V, i, h => by
    rw [dig, List.getD_eq_getElem?_getD, List.getElem?_append, dig_len]
    split
    · rename_i hi
      rw [← List.getD_eq_getElem?_getD, dig_get k _ i hi, show k + 1 - 1 - i = (k - 1 - i) + 1 by omega, Int.pow_succ', Int.ediv_ediv_of_nonneg (by decide)]
    · rw [show i - k = 0 by omega, show k + 1 - 1 - i = 0 by omega]
      simp
structure St where
  m : Nat
  V : Int
  g : Int
def stp (s : St) : St := ⟨s.m + 1, s.V * 256, s.g * 256⟩
def step (s : St) : St := if s.g ≤ 65536 then stp s else s
def cut (s : St) (a b n : Int) : St := ⟨s.m, s.V + a * (s.g / n), rg s.g a b n⟩
def put (s : St) (a b n : Int) : St := if ok a b n then step (step (cut s a b n)) else s
/-- The number is within its digits, with its range. -/
structure Fair (s : St) (k : Int) : Prop where
  g0 : k ≤ s.g
  g1 : s.g ≤ 16777216
  v0 : 0 ≤ s.V
  v1 : s.V + s.g ≤ 16777216 * 256 ^ s.m
theorem cut_fair {s : St} (hs : Fair s 65537) {a b n : Int} (h : ok a b n) : Fair (cut s a b n) 16 := by
  have h1 := Rd.rg_in (by have := hs.g0; omega) hs.g1 h
  obtain ⟨p0, p1, o0, o1, s0, s1⟩ := part_is (by have := hs.g0; omega) hs.g1 h
  have := hs.v0
  have := hs.v1
  have := hs.g1
  refine ⟨h1.1, ?_, ?_, ?_⟩ <;> simp only [cut] <;> omega
theorem step_fair {s : St} {k : Int} (hk : k ≤ 256) (h : Fair s k) : Fair (step s) (k * 256) := by
  obtain ⟨g0, g1, v0, v1⟩ := h
  unfold step
  split
  · refine ⟨?_, ?_, ?_, ?_⟩ <;> simp only [stp]
    · omega
    · omega
    · omega
    · rw [Int.pow_succ]; omega
  · refine ⟨?_, ?_, ?_, ?_⟩ <;> omega
theorem step_fair2 {s : St} {k : Int} (hk : 4096 ≤ k) (h : Fair s k) : Fair (step s) 65537 := by
  obtain ⟨g0, g1, v0, v1⟩ := h
  unfold step
  split
  · refine ⟨?_, ?_, ?_, ?_⟩ <;> simp only [stp]
    · omega
    · omega
    · omega
    · rw [Int.pow_succ]; omega
  · refine ⟨?_, ?_, ?_, ?_⟩ <;> omega
theorem put_fair {s : St} (hs : Fair s 65537) (a b n : Int) : Fair (put s a b n) 65537 := by
  unfold put
  split
  · rename_i h
    exact step_fair2 (by decide) (step_fair (by decide) (cut_fair hs h))
  · exact hs
def new : St := ⟨0, 0, 16777216⟩
theorem new_fair : Fair new 65537 := by constructor <;> decide
theorem step_m (s : St) : s.m ≤ (step s).m ∧ (step s).m ≤ s.m + 1 := by unfold step; split <;> simp [stp]
theorem put_m (s : St) (a b n : Int) : s.m ≤ (put s a b n).m ∧ (put s a b n).m ≤ s.m + 2 := by
  unfold put
  split
  · have h1 := step_m (cut s a b n)
    have h2 := step_m (step (cut s a b n))
    simp only [cut] at h1 h2 ⊢
    omega
  · omega
/-- A symbol that is all of its total changes nothing. -/
theorem put_all {s : St} (hs : Fair s 65537) (n : Int) (h : ok 0 n n) : put s 0 n n = s := by
  have h0 := hs.g0
  have e : cut s 0 n n = s := by
    simp only [cut, rg, if_pos, Int.zero_mul, Int.add_zero, Int.sub_zero]
  unfold put
  rw [if_pos h, e]
  have e2 : step s = s := by unfold step; rw [if_neg (by omega)]
  rw [e2, e2]
/-- What is read of the last number at a state's digits. -/
def X (F : St) (s : St) : Int := F.V / 256 ^ (F.m - s.m)
/-- A later state is within an earlier one's range. -/
structure In (F s : St) : Prop where
  m : s.m ≤ F.m
  lo : s.V * 256 ^ (F.m - s.m) ≤ F.V
  hi : F.V + F.g ≤ (s.V + s.g) * 256 ^ (F.m - s.m)
theorem In.refl (s : St) : In s s := ⟨Nat.le_refl _, by simp, by simp⟩
theorem pow_pos (k : Nat) : (0 : Int) < 256 ^ k := Int.pow_pos (by decide)
theorem in_step {F s : St} (h : In F (step s)) : In F s := by
  unfold step at h
  split at h
  · obtain ⟨m, lo, hi⟩ := h
    simp only [stp] at m lo hi
    have e : F.m - s.m = (F.m - (s.m + 1)) + 1 := by omega
    refine ⟨by omega, ?_, ?_⟩ <;> rw [e, Int.pow_succ]
    · rw [show s.V * (256 ^ (F.m - (s.m + 1)) * 256) = s.V * 256 * 256 ^ (F.m - (s.m + 1)) by rw [Int.mul_comm (256 ^ _) 256, Int.mul_assoc]]; exact lo
    · rw [show (s.V + s.g) * (256 ^ (F.m - (s.m + 1)) * 256) = (s.V * 256 + s.g * 256) * 256 ^ (F.m - (s.m + 1)) by rw [Int.mul_comm (256 ^ _) 256, ← Int.mul_assoc, Int.add_mul s.V]]; exact hi
  · exact h
theorem in_cut {F s : St} (hs : Fair s 65537) {a b n : Int} (h : ok a b n) (hF : In F (cut s a b n)) : In F s := by
  have h1 := Rd.rg_in (by have := hs.g0; omega) hs.g1 h
  obtain ⟨p0, p1, o0, o1, s0, s1⟩ := part_is (by have := hs.g0; omega) hs.g1 h
  obtain ⟨m, lo, hi⟩ := hF
  simp only [cut] at m lo hi
  have hp := pow_pos (F.m - s.m)
  refine ⟨m, Int.le_trans (Int.mul_le_mul_of_nonneg_right (by omega) (by omega)) lo, Int.le_trans hi (Int.mul_le_mul_of_nonneg_right (by omega) (by omega))⟩
theorem in_put {F s : St} (hs : Fair s 65537) {a b n : Int} (hF : In F (put s a b n)) : In F s := by
  unfold put at hF
  split at hF
  · rename_i h
    exact in_cut hs h (in_step (in_step hF))
  · exact hF
/-- The last number at a state's digits is within its range. -/
theorem X_in {F s : St} (hF : In F s) (hg : 0 < F.g) : s.V ≤ X F s ∧ X F s < s.V + s.g := by
  have hp := pow_pos (F.m - s.m)
  refine ⟨(Int.le_ediv_iff_mul_le hp).mpr hF.lo, (Int.ediv_lt_iff_lt_mul hp).mpr (by have := hF.hi; omega)⟩
end Go.Proofs.YtjmoklebimejaaaDoor.Wr
