/- For any number of 64 bits and any number of bits from 1 to 64: a number is signed by its low bits just as they are. Conditions: none but that each number fits its type. -/
import Derived.Test.YtdacjcbeclbfjaaOFixTwicex1
import Derived.Test.YtdacjcbeclbfjaaMath
namespace Go.Proofs.Ytdacjcbeclbfjaa.Pure
open Go.RowKit Go.Proofs.Ytdacjcbeclbfjaa.OFixTwice Go.Proofs.YtdacjcbeclbfjaaW.PrintWords Go.Proofs.YtdacjcbeclbfjaaW.PrintLast
open Go.Proofs.Ytdacjcbeclbfjaa.Math

theorem awake_twice : spinetlaw01_awake.f = some true := by decide +kernel

theorem low_is {x : Int} {n : Nat} (hn : n < 64) : fix_Low.f x n = some (x % 2 ^ n) := by
  unfold fix_Low.f
  rw [if_neg (by omega)]
  have hm : mx (n : Int) 0 = (n : Int) := by rw [mx_eq]; omega
  have hle : (2 : Int) ^ n ≤ 9223372036854775808 := pow_le_i64 (by omega)
  have hp : (0 : Int) < 2 ^ n := Int.pow_pos (by decide)
  have e : IntKind.u64.wrap (shl .u64 1 (n : Int) - 1) = 2 ^ n - 1 := by
    unfold shl
    have : min ((n : Int).toNat) IntKind.u64.bits = n := by simp [IntKind.bits]; omega
    rw [this, Int.one_mul, u64_in (n := 2 ^ n) (by omega) (by omega), u64_in (by omega) (by omega)]
  rw [hm, e, and_u64 x n (by omega)]
theorem low_64 (x : Int) : fix_Low.f x 64 = some x := by
  unfold fix_Low.f
  rw [if_pos (by omega)]

def sg (x : Int) (m : Nat) : Int := if x % 2 ^ m < 2 ^ (m - 1) then x % 2 ^ m else x % 2 ^ m - 2 ^ m

theorem sign_is {x : Int} {m : Nat} (h1 : 1 ≤ m) (h2 : m ≤ 64) : fix_Sign.f x m = some (sg x m) := by
  unfold fix_Sign.f
  rw [mx_eq, mn_eq]
  congr 1
  have hm : min (max (m : Int) 1) 64 = m := by omega
  rw [hm]
  have e : (64 - (m : Int)).toNat = 64 - m := by omega
  rw [e]
  exact sign_plain x m h1 h2

theorem pow_double {m : Nat} (h1 : 1 ≤ m) : (2 : Int) ^ m = 2 * 2 ^ (m - 1) := by
  obtain ⟨j, rfl⟩ : ∃ j, m = j + 1 := ⟨m - 1, by omega⟩
  rw [Nat.add_sub_cancel, Int.pow_succ]; omega

theorem sg_range (x : Int) {m : Nat} (h1 : 1 ≤ m) : -(2 ^ (m - 1)) ≤ sg x m ∧ sg x m ≤ 2 ^ (m - 1) - 1 := by
  have hd := pow_double h1
  have hp : (0 : Int) < 2 ^ (m - 1) := Int.pow_pos (by decide)
  have hv0 : 0 ≤ x % 2 ^ m := Int.emod_nonneg _ (by omega)
  have hv1 : x % 2 ^ m < 2 ^ m := Int.emod_lt_of_pos _ (by omega)
  unfold sg
  split <;> omega
theorem sg_mod (x : Int) {m : Nat} : sg x m % 2 ^ m = x % 2 ^ m := by
  unfold sg
  split
  · exact Int.emod_emod_of_dvd x (Int.dvd_refl _)
  · rw [Int.sub_emod_right]
    exact Int.emod_emod_of_dvd x (Int.dvd_refl _)
theorem sg_of_mod {x y : Int} {m : Nat} (h : x % 2 ^ m = y % 2 ^ m) : sg x m = sg y m := by unfold sg; rw [h]

theorem sat_in {y : Int} {m : Nat} (h1 : 1 ≤ m) (h2 : m ≤ 63) (hl : -(2 ^ (m - 1)) ≤ y) (hr : y ≤ 2 ^ (m - 1) - 1) : fix_Sat.f y m = some y := by
  unfold fix_Sat.f
  rw [mx_eq (m : Int), mn_eq (max (m : Int) 1)]
  have hm : min (max (m : Int) 1) 63 = m := by omega
  rw [hm]
  have e : ((m : Int) - 1).toNat = m - 1 := by omega
  have hle : (2 : Int) ^ (m - 1) ≤ 4611686018427387904 := pow_le_62 (by omega)
  have hp : (0 : Int) < 2 ^ (m - 1) := Int.pow_pos (by decide)
  rw [e, w64 (n := 2 ^ (m - 1)) (by omega) (by omega), w64 (by omega) (by omega), xor_i64_1' (by omega) (by omega), mx_eq, mn_eq]
  congr 1; omega

theorem FixTwice : spinetlaw01_FixTwice.Pure := by
  intro a0 a1 w0 w1
  obtain ⟨h0, h1⟩ := wf_u64 w0
  obtain ⟨g0, g1⟩ := wf_u8 w1
  obtain ⟨m, hm, m1, m2⟩ : ∃ m : Nat, wrap64 (Int.tmod (wrap64 a1) 64 + 1) = m ∧ 1 ≤ m ∧ m ≤ 64 := by
    rw [w64 (n := a1) (by omega) (by omega), Int.tmod_eq_emod_of_nonneg g0, w64 (by omega) (by omega)]
    exact ⟨(a1 % 64 + 1).toNat, by omega, by omega, by omega⟩
  unfold spinetlaw01_FixTwice.f
  rw [awake_twice, hm]
  simp only [Option.bind_some, if_true]
  rw [sign_is m1 m2]
  by_cases h64 : m = 64
  · subst h64
    have e64 : ((64 : Nat) : Int) = 64 := rfl
    rw [e64, low_64]
    simp only [Option.bind_some, low_64]
    have hs := sg_range a0 m1
    have hmod := sg_mod a0 (m := 64)
    have p64 : (2 : Int) ^ 64 = 18446744073709551616 := by decide +kernel
    have p63 : (2 : Int) ^ (64 - 1) = 9223372036854775808 := by decide +kernel
    rw [p63] at hs
    rw [p64] at hmod
    have e1 : IntKind.u64.wrap (sg a0 64) = a0 := by rw [wrap_u64]; omega
    rw [e1, if_pos rfl, ← e64, sign_is m1 m2]
    simp only [Option.bind_some, if_true]
    have e2 : wrap64 a0 = sg a0 64 := by unfold wrap64; omega
    rw [e2]
    unfold fix_Sat.f
    simp only [Option.bind_some]
    split <;> simp
  · have m3 : m < 64 := by omega
    rw [low_is m3]
    simp only [Option.bind_some]
    have hs := sg_range a0 m1
    have e1 : IntKind.u64.wrap (sg a0 m) % 2 ^ m = a0 % 2 ^ m := by
      rw [wrap_u64]
      have hd : ((2 : Int) ^ m) ∣ 18446744073709551616 := by
        have : (18446744073709551616 : Int) = 2 ^ m * 2 ^ (64 - m) := by rw [← Int.pow_add, show m + (64 - m) = 64 by omega]; rfl
        rw [this]; exact Int.dvd_mul_right _ _
      rw [Int.emod_emod_of_dvd _ hd, sg_mod]
    rw [low_is m3, e1]
    simp only [Option.bind_some, if_true]
    rw [sign_is m1 m2, sg_of_mod (Int.emod_emod_of_dvd a0 (Int.dvd_refl _))]
    simp only [Option.bind_some, if_true]
    have e3 : mn (m : Int) 63 = m := by rw [mn_eq]; omega
    rw [e3, sat_in m1 (by omega) hs.1 hs.2]
    simp

end Go.Proofs.Ytdacjcbeclbfjaa.Pure
