/- For any number of 64 bits and any number of bits, the low bits, with and without a sign, are what the document says. Conditions: none but that each number fits its type. -/
import Derived.Test.YtdacjcbeclbfjaaPFixBitsx1
import Derived.Test.YtdacjcbeclbfjaaMath
namespace Go.Proofs.Ytdacjcbeclbfjaa.Pure
open Go.RowKit Go.Proofs.Ytdacjcbeclbfjaa.PFixBits Go.Proofs.YtdacjcbeclbfjaaW.PrintWords Go.Proofs.YtdacjcbeclbfjaaW.PrintLast
open Go.Proofs.Ytdacjcbeclbfjaa.Math

theorem awake_bits : spinetlaw01_awake.f = some true := by decide +kernel

/-- The reference's loop: from round j on the power of two is 2^n behind it. -/
theorem low_loop (x : Int) (n : Nat) (hn : n ≤ 63) (d : Nat) : ∀ (k : Nat) (j : Nat), j + d = n → d < k →
    spinetref01_Low.l0 k x n (2 ^ j) j = some (Int.tmod x (2 ^ n)) := by
  induction d with
  | zero =>
    intro k j hj hk
    obtain ⟨k, rfl⟩ : ∃ m, k = m + 1 := ⟨k - 1, by omega⟩
    obtain rfl : j = n := by omega
    have hp : (0 : Int) < 2 ^ j := Int.pow_pos (by decide)
    simp only [spinetref01_Low.l0]
    rw [if_neg (by omega), if_neg (by omega)]
  | succ d ih =>
    intro k j hj hk
    obtain ⟨k, rfl⟩ : ∃ m, k = m + 1 := ⟨k - 1, by omega⟩
    simp only [spinetref01_Low.l0]
    have e1 : wrap64 ((j : Int) + 1) = ((j + 1 : Nat) : Int) := by rw [w64 (by omega) (by omega)]; omega
    have hle : (2 : Int) ^ (j + 1) ≤ 9223372036854775808 := pow_le_i64 (by omega)
    have hp : (0 : Int) < 2 ^ (j + 1) := Int.pow_pos (by decide)
    have e2 : IntKind.u64.wrap ((2 : Int) ^ j * 2) = 2 ^ (j + 1) := by rw [← Int.pow_succ, u64_in (by omega) (by omega)]
    rw [if_pos (by omega), e1, e2]
    exact ih k (j + 1) (by omega) (by omega)

theorem ref_low {x n : Int} (h0 : 0 ≤ x) (hn : n < 64) (k : Nat) (hk : 64 < k) : spinetref01_Low.f k x n = some (x % 2 ^ n.toNat) := by
  unfold spinetref01_Low.f
  rw [if_neg (by omega)]
  by_cases h : 0 ≤ n
  · have := low_loop x n.toNat (by omega) n.toNat k 0 (by omega) (by omega)
    rw [Int.toNat_of_nonneg h] at this
    rw [Int.tmod_eq_emod_of_nonneg h0] at this
    exact this
  · obtain ⟨k, rfl⟩ : ∃ m, k = m + 1 := ⟨k - 1, by omega⟩
    simp only [spinetref01_Low.l0]
    rw [if_neg (by omega), if_neg (by omega), Int.tmod_eq_emod_of_nonneg h0]
    have : n.toNat = 0 := by omega
    rw [this]; rfl
theorem ref_low64 (x : Int) {n : Int} (hn : 64 ≤ n) (k : Nat) : spinetref01_Low.f k x n = some x := by
  unfold spinetref01_Low.f
  rw [if_pos (by omega)]

theorem low_is {x n : Int} (hn : n < 64) : fix_Low.f x n = some (x % 2 ^ n.toNat) := by
  unfold fix_Low.f
  rw [if_neg (by omega)]
  have hm : mx n 0 = (n.toNat : Int) := by rw [mx_eq]; omega
  have hle : (2 : Int) ^ n.toNat ≤ 9223372036854775808 := pow_le_i64 (by omega)
  have hp : (0 : Int) < 2 ^ n.toNat := Int.pow_pos (by decide)
  have e : IntKind.u64.wrap (shl .u64 1 (n.toNat : Int) - 1) = 2 ^ n.toNat - 1 := by
    unfold shl
    have : min ((n.toNat : Int).toNat) IntKind.u64.bits = n.toNat := by simp [IntKind.bits]; omega
    rw [this, Int.one_mul, u64_in (n := 2 ^ n.toNat) (by omega) (by omega), u64_in (by omega) (by omega)]
  rw [hm, e, and_u64 x n.toNat (by omega)]
theorem low_64 (x : Int) {n : Int} (hn : 64 ≤ n) : fix_Low.f x n = some x := by
  unfold fix_Low.f
  rw [if_pos (by omega)]

/-- The sign's number: the low m bits of x, the highest of which is a sign. -/
def sg (x : Int) (m : Nat) : Int := if x % 2 ^ m < 2 ^ (m - 1) then x % 2 ^ m else x % 2 ^ m - 2 ^ m

theorem sign_is {x n : Int} : fix_Sign.f x n = some (sg x (min (max n 1) 64).toNat) := by
  unfold fix_Sign.f
  rw [mx_eq, mn_eq]
  congr 1
  obtain ⟨m, hm⟩ : ∃ m : Nat, min (max n 1) 64 = m := ⟨(min (max n 1) 64).toNat, by omega⟩
  have h1 : 1 ≤ m := by omega
  have h2 : m ≤ 64 := by omega
  rw [hm]
  have e : (64 - (m : Int)).toNat = 64 - m := by omega
  rw [e, Int.toNat_natCast]
  exact sign_plain x m h1 h2

theorem ref_sign {x n : Int} (h0 : 0 ≤ x) (h1 : x ≤ 18446744073709551615) (k : Nat) (hk : 65 < k) : spinetref01_Sign.f k x n = some (sg x (min (max n 1) 64).toNat) := by
  unfold spinetref01_Sign.f spinetref01_Bits.f spinetref01_Held.f
  obtain ⟨m, hm⟩ : ∃ m : Nat, min (max n 1) 64 = m := ⟨(min (max n 1) 64).toNat, by omega⟩
  have e : (if n < 1 then some (1 : Int) else if n > 64 then some 64 else some n) = some (m : Int) := by
    rw [← hm]
    (repeat' split) <;> (congr 1; omega)
  rw [e]
  simp only [Option.bind_some]
  have hm1 : 1 ≤ m := by omega
  have hm2 : m ≤ 64 := by omega
  have ew : wrap64 ((m : Int) - 1) = ((m - 1 : Nat) : Int) := by rw [w64 (by omega) (by omega)]; omega
  have el : spinetref01_Low.f k x m = some (x % 2 ^ m) := by
    by_cases h : m = 64
    · subst h
      rw [ref_low64 x (by decide) k]
      congr 1
      have : (2 : Int) ^ 64 = 18446744073709551616 := by decide
      omega
    · rw [ref_low h0 (by omega) k (by omega), Int.toNat_natCast]
  have hp : (0 : Int) < 2 ^ (m - 1) := Int.pow_pos (by decide)
  have hle : (2 : Int) ^ (m - 1) ≤ 9223372036854775808 := pow_le_i64 (by omega)
  have eh : (18446744073709551615 : Int) % 2 ^ (m - 1) = 2 ^ (m - 1) - 1 := by
    have hd : ((2 : Int) ^ (m - 1)) * 2 ^ (64 - (m - 1)) = 18446744073709551616 := by
      rw [← Int.pow_add, show (m - 1) + (64 - (m - 1)) = 64 by omega]; decide
    have : (18446744073709551615 : Int) = (2 ^ (m - 1) - 1) + 2 ^ (m - 1) * (2 ^ (64 - (m - 1)) - 1) := by
      rw [Int.mul_sub, hd]; omega
    rw [this, Int.add_mul_emod_self_left, Int.emod_eq_of_lt (by omega) (by omega)]
  rw [ew, el, ref_low (by decide) (by omega) k (by omega), Int.toNat_natCast, eh]
  simp only [Option.bind_some]
  rw [hm, Int.toNat_natCast]
  have e3 : IntKind.u64.wrap ((2 : Int) ^ (m - 1) - 1 + 1) = 2 ^ (m - 1) := by rw [u64_in (by omega) (by omega)]; omega
  rw [e3]
  have hv0 : 0 ≤ x % 2 ^ m := Int.emod_nonneg _ (by have := Int.pow_pos (n := 2) (m := m) (by decide); omega)
  have hpp : (2 : Int) ^ m = 2 * 2 ^ (m - 1) := by
    obtain ⟨j, rfl⟩ : ∃ j, m = j + 1 := ⟨m - 1, by omega⟩
    rw [Nat.add_sub_cancel, Int.pow_succ]; omega
  have hv1 : x % 2 ^ m < 2 ^ m := Int.emod_lt_of_pos _ (by omega)
  unfold sg
  generalize hV : x % 2 ^ m = v at *
  generalize hP : (2 : Int) ^ (m - 1) = p at *
  by_cases hlt : v < p
  · rw [if_pos hlt, if_pos hlt, w64 (by omega) (by omega)]
  · rw [if_neg hlt, if_neg hlt]
    congr 1
    simp only [wrap_u64]
    unfold wrap64
    omega

theorem FixBits : spinetlaw01_FixBits.Pure := by
  intro a0 a1 w0 w1
  obtain ⟨h0, h1⟩ := wf_u64 w0
  refine ⟨66, ?_⟩
  unfold spinetlaw01_FixBits.f
  rw [awake_bits]
  simp only [Option.bind_some, if_true]
  have hl : ∃ v, fix_Low.f a0 a1 = some v ∧ spinetref01_Low.f 66 a0 a1 = some v := by
    by_cases h : a1 < 64
    · exact ⟨_, low_is h, ref_low h0 h 66 (by decide)⟩
    · exact ⟨_, low_64 a0 (by omega), ref_low64 a0 (by omega) 66⟩
  obtain ⟨v, e1, e2⟩ := hl
  rw [e1, e2]
  simp only [Option.bind_some, if_true]
  rw [sign_is, ref_sign h0 h1 66 (by decide)]
  simp

end Go.Proofs.Ytdacjcbeclbfjaa.Pure
