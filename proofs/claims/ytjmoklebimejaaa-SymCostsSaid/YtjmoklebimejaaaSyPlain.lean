import Derived.Test.YtjmoklebimejaaaWrRaw
import Derived.Test.YtjmoklebimejaaaOSymCostsx1
namespace Go.Proofs.Ytjmoklebimejaaa.Sy
open Go.RowKit Go.Proofs.YtjmoklebimejaaaW.PrintWords Go.Proofs.YtjmoklebimejaaaW.PrintLast Go.Proofs.YtjmoklebimejaaaW.PrintMore
open Go.Proofs.Ytjmoklebimejaaa.Wr (St)
open Go.Proofs.Ytjmoklebimejaaa.WrWalk Go.Proofs.Ytjmoklebimejaaa.OSymCosts
set_option linter.unusedVariables false
set_option linter.unusedSimpArgs false
/-- How many raw bits, and the symbol's total. -/
def sl (n : Int) : Nat := if n ≤ 256 then 0 else Lib.bitLen (n - 1).toNat - 8
def sh (n : Int) : Int := if n ≤ 256 then n else (n - 1) / 2 ^ sl n + 1
theorem bitLen_two : ∀ (f x : Nat), x < 2 ^ f → x < 2 ^ Lib.bitLenAux f x ∧ (0 < x → 2 ^ Lib.bitLenAux f x ≤ 2 * x)
  | 0, x, h => ⟨by simpa [Lib.bitLenAux] using h, by simp [Lib.bitLenAux]; omega⟩
  | f + 1, x, h => by
    unfold Lib.bitLenAux
    split
    · rename_i hz; subst hz; simp
    · have hp : 2 ^ (f + 1) = 2 * 2 ^ f := by rw [Nat.pow_succ]; omega
      obtain ⟨h1, h2⟩ := bitLen_two f (x / 2) (by omega)
      rw [Nat.add_comm 1, Nat.pow_succ]
      refine ⟨by omega, fun _ => ?_⟩
      by_cases hx : x / 2 = 0
      · have e : Lib.bitLenAux f (x / 2) = 0 := by
          rw [hx]; cases f <;> simp [Lib.bitLenAux]
        rw [e]; omega
      · have := h2 (by omega); omega
theorem bitLen_in {x : Nat} (h0 : 256 ≤ x) (h1 : x < 16777216) : ∃ k, Lib.bitLen x = k + 8 ∧ 1 ≤ k ∧ k ≤ 16 ∧ x / 2 ^ k ≤ 255 ∧ 128 ≤ x / 2 ^ k := by
  obtain ⟨a, b⟩ := bitLen_two 64 x (Nat.lt_trans h1 (by decide))
  have b := b (by omega)
  change x < 2 ^ Lib.bitLen x at a
  change 2 ^ Lib.bitLen x ≤ 2 * x at b
  generalize Lib.bitLen x = L at a b ⊢
  have hl : 8 < L := by
    refine Nat.lt_of_not_le fun hc => ?_
    have : 2 ^ L ≤ 2 ^ 8 := Nat.pow_le_pow_right (by decide) hc
    have e : 2 ^ 8 = 256 := by decide
    omega
  have hu : L ≤ 24 := by
    refine Nat.le_of_not_lt fun hc => ?_
    have : 2 ^ 25 ≤ 2 ^ L := Nat.pow_le_pow_right (by decide) hc
    have e : 2 ^ 25 = 33554432 := by decide
    omega
  refine ⟨L - 8, by omega, by omega, by omega, ?_, ?_⟩
  · have e : 2 ^ L = 256 * 2 ^ (L - 8) := by rw [show 256 = 2 ^ 8 by decide, ← Nat.pow_add]; congr 1; omega
    have : x / 2 ^ (L - 8) < 256 := Nat.div_lt_of_lt_mul (by rw [Nat.mul_comm, ← e]; exact a)
    omega
  · have e : 2 ^ L = 256 * 2 ^ (L - 8) := by rw [show 256 = 2 ^ 8 by decide, ← Nat.pow_add]; congr 1; omega
    rw [Nat.le_div_iff_mul_le (Nat.two_pow_pos _)]
    omega
theorem sl_big {n : Int} (h0 : 256 < n) (h1 : n ≤ 16777216) : ∃ k : Nat, sl n = k ∧ Lib.bitLen (n - 1).toNat = k + 8 ∧ 1 ≤ k ∧ k ≤ 16 ∧ (n - 1) / 2 ^ k ≤ 255 ∧ 128 ≤ (n - 1) / 2 ^ k := by
  obtain ⟨k, hk, a, b, c, d⟩ := bitLen_in (x := (n - 1).toNat) (by omega) (by omega)
  have e : (((n - 1).toNat / 2 ^ k : Nat) : Int) = (n - 1) / 2 ^ k := by rw [Int.natCast_ediv, Int.toNat_of_nonneg (by omega), Int.natCast_pow]; rfl
  refine ⟨k, ?_, hk, a, b, by omega, by omega⟩
  unfold sl
  rw [if_neg (by omega), hk]; omega
theorem sl_is {n : Int} (h0 : 1 ≤ n) (h1 : n ≤ 16777216) : sl n ≤ 16 ∧ 1 ≤ sh n ∧ sh n ≤ 256 ∧ sh n = (n - 1) / 2 ^ sl n + 1 ∧ (256 < n → 129 ≤ sh n) := by
  by_cases h : n ≤ 256
  · have e : sl n = 0 := by unfold sl; rw [if_pos h]
    have e2 : sh n = n := by unfold sh; rw [if_pos h]
    rw [e, e2, Int.pow_zero, Int.ediv_one]
    omega
  · obtain ⟨k, hk, _, b, b2, c, d⟩ := sl_big (n := n) (by omega) h1
    have e2 : sh n = (n - 1) / 2 ^ sl n + 1 := by unfold sh; rw [if_neg h]
    refine ⟨by omega, ?_, ?_, e2, fun _ => ?_⟩ <;> rw [e2, hk] <;> omega
theorem sw64 {x : Int} (h0 : -9223372036854775808 ≤ x) (h1 : x < 9223372036854775808) : wrap64 x = x := w64n h0 h1
theorem shr_64 (x : Int) (k : Nat) (hk : k ≤ 16) : shr .i64 x (k : Int) = x / 2 ^ k := by
  unfold shr
  rw [Int.toNat_natCast, Nat.min_eq_left (by show k ≤ 64; omega)]
/-- What parts computes. -/
theorem parts_is {n : Int} (h0 : 1 ≤ n) (h1 : n ≤ 16777216) (k : Nat) : sym_parts.f k n = some (sh n, (sl n : Int)) := by
  unfold sym_parts.f
  by_cases h : n ≤ 256
  · rw [if_pos h]; unfold sh sl; rw [if_pos h, if_pos h]; rfl
  · obtain ⟨j, hj, hL, a, b, c, d⟩ := sl_big (n := n) (by omega) h1
    have e1 : wrap64 (n - 1) = n - 1 := sw64 (by omega) (by omega)
    have e2 : IntKind.u64.wrap (n - 1) = n - 1 := by rw [show IntKind.u64.wrap (n - 1) = (n - 1) % 18446744073709551616 by simp [IntKind.wrap, IntKind.bits, IntKind.signed]]; omega
    rw [if_neg h, e1, e2]
    have e3 : bits_Len.f k (n - 1) = some ((j + 8 : Nat) : Int) := by
      unfold bits_Len.f bits_Len64.f
      rw [if_pos (by omega), hL]; rfl
    rw [e3, Option.bind_some]
    have e4 : wrap64 (((j + 8 : Nat) : Int) - 8) = (j : Int) := by rw [sw64 (by omega) (by omega)]; omega
    rw [e4, if_pos (by omega), shr_64 _ _ b, sw64 (by omega) (by omega)]
    unfold sh
    rw [if_neg h, hj]
theorem u64s {x : Int} (h0 : 0 ≤ x) (h1 : x < 18446744073709551616) : IntKind.u64.wrap x = x := by
  rw [show IntKind.u64.wrap x = x % 18446744073709551616 by simp [IntKind.wrap, IntKind.bits, IntKind.signed]]; omega
theorem pow_16 {k : Nat} (h : k ≤ 16) : (1 : Int) ≤ 2 ^ k ∧ (2 : Int) ^ k ≤ 65536 := by
  have h1 : (0 : Int) < 2 ^ k := Int.pow_pos (by decide)
  have h2 : 2 ^ k ≤ 2 ^ 16 := Nat.pow_le_pow_right (by decide) h
  have h3 : 2 ^ k ≤ 65536 := h2
  have e : ((2 ^ k : Nat) : Int) = 2 ^ k := by rw [Int.natCast_pow]; rfl
  omega
theorem and_u64 (x : Int) (i : Nat) (hi : i ≤ 16) (h0 : 0 ≤ x) (h1 : x < 4294967296) : bits .and .u64 x (2 ^ i - 1) = x % 2 ^ i := by
  have hpos : 0 < 2 ^ i := Nat.two_pow_pos i
  have hle : 2 ^ i ≤ 2 ^ 16 := Nat.pow_le_pow_right (by decide) hi
  have hle' : 2 ^ i ≤ 65536 := hle
  obtain ⟨a, rfl⟩ := Int.eq_ofNat_of_zero_le h0
  have hc : ((2 : Int) ^ i - 1) = ((2 ^ i - 1 : Nat) : Int) := by rw [Int.natCast_sub hpos, Int.natCast_pow]; rfl
  have key : ((BitVec.ofInt 64 (a : Int)) &&& (BitVec.ofInt 64 ((2 : Int) ^ i - 1))).toNat = a % 2 ^ i := by
    rw [BitVec.toNat_and, hc, BitVec.ofInt_natCast, BitVec.ofInt_natCast, BitVec.toNat_ofNat, BitVec.toNat_ofNat, Nat.mod_eq_of_lt (by omega), Nat.mod_eq_of_lt (by omega), Nat.and_two_pow_sub_one_eq_mod]
  show IntKind.u64.wrap (((BitVec.ofInt 64 (a : Int)) &&& (BitVec.ofInt 64 ((2 : Int) ^ i - 1))).toNat) = _
  have h2 : a % 2 ^ i ≤ a := Nat.mod_le _ _
  rw [key, u64s (by omega) (by omega), Int.natCast_emod, Int.natCast_pow]; rfl
/-- What Low computes. -/
theorem low_is {v : Int} (h0 : 0 ≤ v) (h1 : v < 4294967296) {k : Nat} (hk : k ≤ 16) : fix_Low.f v (k : Int) = some (v % 2 ^ k) := by
  have hp := pow_16 hk
  unfold fix_Low.f
  rw [if_neg (by omega)]
  have e1 : mx (k : Int) 0 = (k : Int) := by unfold mx; split <;> omega
  have e2 : shl .u64 1 (k : Int) = 2 ^ k := by
    unfold shl
    rw [Int.toNat_natCast, Nat.min_eq_left (by show k ≤ 64; omega), Int.one_mul, u64s (by omega) (by omega)]
  rw [e1, e2, u64s (by omega) (by omega), and_u64 v k hk h0 h1]
/-- A number that may be put. -/
abbrev okU (v n : Int) : Prop := 1 ≤ n ∧ n ≤ 16777216 ∧ 0 ≤ v ∧ v < n
def uput (s : St) (v n : Int) : St := if okU v n then Wr.put s (v / 2 ^ sl n) (v / 2 ^ sl n + 1) (sh n) else s
def uraw (v n : Int) : List Bool := if okU v n then rawN (v % 2 ^ sl n) (sl n : Int) else []
theorem okU_is {v n : Int} (h : okU v n) : Rd.ok (v / 2 ^ sl n) (v / 2 ^ sl n + 1) (sh n) ∧ Rw (v % 2 ^ sl n) (sl n : Int) ∧ sl n ≤ 16 ∧ 0 ≤ v % 2 ^ sl n ∧ v % 2 ^ sl n < 65536 ∧ 0 ≤ v / 2 ^ sl n ∧ v / 2 ^ sl n ≤ 255 := by
  obtain ⟨h0, h1, h2, h3⟩ := h
  obtain ⟨a, b, c, d, _⟩ := sl_is h0 h1
  have hp := pow_16 a
  have m0 : 0 ≤ v % 2 ^ sl n := Int.emod_nonneg _ (by omega)
  have m1 : v % 2 ^ sl n < 2 ^ sl n := Int.emod_lt_of_pos _ (by omega)
  have e0 : 0 ≤ v / 2 ^ sl n := Int.ediv_nonneg h2 (by omega)
  have e1 : v / 2 ^ sl n ≤ (n - 1) / 2 ^ sl n := Int.ediv_le_ediv (by omega) (by omega)
  exact ⟨⟨e0, by omega, by omega, by omega⟩, ⟨by omega, by omega, by rw [Int.toNat_natCast]; exact m1⟩, a, m0, by omega, e0, by omega⟩
end Go.Proofs.Ytjmoklebimejaaa.Sy
