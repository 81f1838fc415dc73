import Derived.Test.YtjpnbdofbkoddaaDoorWMoreT
namespace Go.Proofs.YtjpnbdofbkoddaaDoor.Math
open Go.RowKit Go.Proofs.YtjpnbdofbkoddaaDoorW.PrintWords
theorem wf_i64 {a : Int} (h : (Lit.int .i64 a).wf = true) : -9223372036854775808 ≤ a ∧ a ≤ 9223372036854775807 := by
 simpa [Lit.wf, IntKind.min, IntKind.max, IntKind.signed, IntKind.bits] using h
theorem wf_u64 {a : Int} (h : (Lit.int .u64 a).wf = true) : 0 ≤ a ∧ a ≤ 18446744073709551615 := by
 simpa [Lit.wf, IntKind.min, IntKind.max, IntKind.signed, IntKind.bits] using h
theorem wf_u16 {a : Int} (h : (Lit.int .u16 a).wf = true) : 0 ≤ a ∧ a ≤ 65535 := by
 simpa [Lit.wf, IntKind.min, IntKind.max, IntKind.signed, IntKind.bits] using h
theorem wf_u8 {a : Int} (h : (Lit.int .u8 a).wf = true) : 0 ≤ a ∧ a ≤ 255 := by
 simpa [Lit.wf, IntKind.min, IntKind.max, IntKind.signed, IntKind.bits] using h
theorem w64 {n : Int} (h0 : -9223372036854775808 ≤ n) (h1 : n ≤ 9223372036854775807) : wrap64 n = n := by unfold wrap64; omega
theorem wrap_u64 (n : Int) : IntKind.u64.wrap n = n % 18446744073709551616 := by simp [IntKind.wrap, IntKind.bits, IntKind.signed]
theorem u64_in {n : Int} (h0 : 0 ≤ n) (h1 : n ≤ 18446744073709551615) : IntKind.u64.wrap n = n := by rw [wrap_u64]; omega
theorem wrap_i64 (n : Int) : IntKind.i64.wrap n = wrap64 n := by rw [IntKind.wrap_i64]; unfold wrap64; rfl
theorem mx_eq (a b : Int) : mx a b = max a b := by unfold mx; omega
theorem mn_eq (a b : Int) : mn a b = min a b := by unfold mn; omega
theorem and_i64 (x : Int) (i : Nat) (hi : i ≤ 62) : bits .and .i64 x (2 ^ i - 1) = x % 2 ^ i := by
 have hpos : 0 < 2 ^ i := Nat.two_pow_pos i
 have hle : 2 ^ i ≤ 2 ^ 62 := Nat.pow_le_pow_right (by decide) hi
 have hle' : 2 ^ i ≤ 4611686018427387904 := hle
 have hc : ((2 : Int) ^ i - 1) = ((2 ^ i - 1 : Nat) : Int) := by rw [Int.natCast_sub hpos, Int.natCast_pow]; rfl
 have hm : (2 ^ i - 1) % 18446744073709551616 = 2 ^ i - 1 := Nat.mod_eq_of_lt (by omega)
 have hx : (BitVec.ofInt 64 x).toNat = (x % 18446744073709551616).toNat := by rw [BitVec.toNat_ofInt]; rfl
 have key : ((BitVec.ofInt 64 x) &&& (BitVec.ofInt 64 ((2 : Int) ^ i - 1))).toNat = (x % 18446744073709551616).toNat % 2 ^ i := by
  rw [BitVec.toNat_and, hx, hc, BitVec.ofInt_natCast, BitVec.toNat_ofNat, hm, Nat.and_two_pow_sub_one_eq_mod]
 have hval : (((x % 18446744073709551616).toNat % 2 ^ i : Nat) : Int) = x % 2 ^ i := by
  rw [Int.natCast_emod, Int.toNat_of_nonneg (by omega)]
  have hd : ((2 : Int) ^ i) ∣ 18446744073709551616 := by
   have : (18446744073709551616 : Int) = 2 ^ i * 2 ^ (64 - i) := by rw [← Int.pow_add, show i + (64 - i) = 64 by omega]; rfl
   rw [this]; exact Int.dvd_mul_right _ _
  have : (((2 ^ i : Nat)) : Int) = 2 ^ i := by rw [Int.natCast_pow]; rfl
  rw [this, Int.emod_emod_of_dvd _ hd]
 show IntKind.i64.wrap (((BitVec.ofInt 64 x) &&& (BitVec.ofInt 64 ((2 : Int) ^ i - 1))).toNat) = x % 2 ^ i
 rw [key, hval, wrap_i64]
 have h0 : 0 ≤ x % 2 ^ i := Int.emod_nonneg _ (by have := Int.pow_pos (n := 2) (m := i) (by decide); omega)
 have h1 : x % 2 ^ i < 2 ^ i := Int.emod_lt_of_pos _ (Int.pow_pos (by decide))
 have h2 : (2 : Int) ^ i ≤ 4611686018427387904 := by have := Int.ofNat_le.mpr hle'; rw [Int.natCast_pow] at this; exact this
 exact w64 (by omega) (by omega)
theorem pow_le_62 {j : Nat} (h : j ≤ 62) : (2 : Int) ^ j ≤ 4611686018427387904 := by
 have : 2 ^ j ≤ 2 ^ 62 := Nat.pow_le_pow_right (by decide) h
 have h2 := Int.ofNat_le.mpr this
 rw [Int.natCast_pow] at h2
 exact h2
theorem div_le_self_abs (x p : Int) (hp : 0 < p) : -(if x < 0 then -x else x) ≤ x / p ∧ x / p ≤ (if x < 0 then -x else x) := by
 split
 ·have h1 : x / p < 0 := Int.ediv_neg_of_neg_of_pos (by assumption) hp
  have h2 := Int.le_ediv_iff_mul_le (a := x) (b := x) hp
  have h3 : x * p ≤ x := by
   have : x * p ≤ x * 1 := Int.mul_le_mul_of_nonpos_left (by omega) (by omega)
   omega
  have := h2.2 h3
  omega
 ·have h1 : 0 ≤ x / p := Int.ediv_nonneg (by omega) (by omega)
  have h2 : x / p ≤ x := Int.ediv_le_self p (by omega)
  omega
theorem mul_range {a b : Int} (ha0 : -2147483648 ≤ a) (ha1 : a ≤ 2147483647) (hb0 : -2147483648 ≤ b) (hb1 : b ≤ 2147483647) : -4611686018427387904 ≤ a * b ∧ a * b ≤ 4611686018427387904 := by
 have h : (a * b).natAbs ≤ 2147483648 * 2147483648 := by
  rw [Int.natAbs_mul]
  exact Nat.mul_le_mul (by omega) (by omega)
 omega
def rn (x : Int) (n : Nat) : Int := x / 2 ^ n + x / 2 ^ (n - 1) % 2
def rnd (x s : Int) : Int := if s ≤ 0 then x else rn x (min s 62).toNat
def st (x : Int) (m : Nat) : Int := min (max x (-(2 ^ (m - 1)))) (2 ^ (m - 1) - 1)
theorem half (x : Int) {n : Nat} (h1 : 1 ≤ n) : 2 ^ n = 2 * (2 : Int) ^ (n - 1) ∧ x / 2 ^ n = x / 2 ^ (n - 1) / 2 := by
 obtain ⟨j, rfl⟩ : ∃ j, n = j + 1 := ⟨n - 1, by omega⟩
 have hp : (0 : Int) < 2 ^ j := Int.pow_pos (by decide)
 rw [Nat.add_sub_cancel, Int.pow_succ]
 exact ⟨by omega, by rw [Int.ediv_ediv_of_nonneg (by omega)]⟩
theorem rn_range {x : Int} (h0 : -9223372036854775808 ≤ x) (h1 : x ≤ 9223372036854775807) {n : Nat} (hn : 1 ≤ n) : -4611686018427387904 ≤ x / 2 ^ n ∧ x / 2 ^ n ≤ 4611686018427387903 ∧ -9223372036854775808 ≤ rn x n ∧ rn x n ≤ 9223372036854775807 := by
 obtain ⟨_, e2⟩ := half x hn
 have hp : (0 : Int) < 2 ^ (n - 1) := Int.pow_pos (by decide)
 have hq := div_le_self_abs x (2 ^ (n - 1)) hp
 have hl : -9223372036854775808 ≤ x / 2 ^ (n - 1) := by split at hq <;> omega
 have hr : x / 2 ^ (n - 1) ≤ 9223372036854775807 := by
  have : x / 2 ^ (n - 1) ≤ max x 0 := by
   by_cases h : x < 0
   ·have := Int.ediv_neg_of_neg_of_pos h hp; omega
   ·have := Int.ediv_le_self (a := x) (2 ^ (n - 1)) (by omega); omega
  omega
 unfold rn
 rw [e2]
 omega
theorem rd_drop {xs : List Int} {i : Nat} (h : i < xs.length) : xs.drop i = rd xs i :: xs.drop (i + 1) := by
 rw [List.drop_eq_getElem_cons h]
 congr 1
 unfold rd
 rw [Int.toNat_natCast, List.getD_eq_getElem?_getD, List.getElem?_eq_getElem h]; rfl
theorem rd_mem {xs : List Int} {i : Nat} (h : i < xs.length) : rd xs i ∈ xs := by
 unfold rd
 rw [Int.toNat_natCast, List.getD_eq_getElem?_getD, List.getElem?_eq_getElem h]
 exact List.getElem_mem h
theorem step64 {i n : Nat} (h : i < n) (hn : n ≤ 9223372036854775807) : wrap64 ((i : Int) + 1) = ((i + 1 : Nat) : Int) := by unfold wrap64; omega
end Go.Proofs.YtjpnbdofbkoddaaDoor.Math
