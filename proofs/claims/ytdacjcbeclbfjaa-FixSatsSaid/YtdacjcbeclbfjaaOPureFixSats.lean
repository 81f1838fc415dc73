/- For any number and any number of bits, the number held in so many bits is what the document says, in 16 and in 32 bits, too. Conditions: none but that each number fits its type. -/
import Derived.Test.YtdacjcbeclbfjaaOFixSatsx1
import Derived.Test.YtdacjcbeclbfjaaMath
namespace Go.Proofs.Ytdacjcbeclbfjaa.Pure
open Go.RowKit Go.Proofs.Ytdacjcbeclbfjaa.OFixSats Go.Proofs.YtdacjcbeclbfjaaW.PrintWords Go.Proofs.YtdacjcbeclbfjaaW.PrintLast
open Go.Proofs.Ytdacjcbeclbfjaa.Math

theorem awake_sats : spinetlaw01_awake.f = some true := by decide +kernel

/-- A number held in m bits. -/
def st (x : Int) (m : Nat) : Int := min (max x (-(2 ^ (m - 1)))) (2 ^ (m - 1) - 1)

theorem sat_is {x n : Int} : fix_Sat.f x n = some (st x (min (max n 1) 63).toNat) := by
  unfold fix_Sat.f
  rw [mx_eq n, mn_eq (max n 1)]
  obtain ⟨m, hm⟩ : ∃ m : Nat, min (max n 1) 63 = m := ⟨(min (max n 1) 63).toNat, by omega⟩
  rw [hm, Int.toNat_natCast]
  have e : ((m : Int) - 1).toNat = m - 1 := by omega
  have hle : (2 : Int) ^ (m - 1) ≤ 4611686018427387904 := pow_le_62 (by omega)
  have hp : (0 : Int) < 2 ^ (m - 1) := Int.pow_pos (by decide)
  rw [e, w64 (n := 2 ^ (m - 1)) (by omega) (by omega), w64 (by omega) (by omega), xor_i64_1' (by omega) (by omega), mx_eq, mn_eq]
  unfold st
  congr 1; omega

theorem pow_loop (n : Nat) (hn : n ≤ 62) (d : Nat) : ∀ (k : Nat) (j : Nat), j + d = n → d < k → spinetref01_Pow.l0 k n (2 ^ j) j = some (2 ^ n) := by
  induction d with
  | zero =>
    intro k j hj hk
    obtain ⟨k, rfl⟩ : ∃ m, k = m + 1 := ⟨k - 1, by omega⟩
    obtain rfl : j = n := by omega
    simp only [spinetref01_Pow.l0]
    rw [if_neg (by omega)]
  | succ d ih =>
    intro k j hj hk
    obtain ⟨k, rfl⟩ : ∃ m, k = m + 1 := ⟨k - 1, by omega⟩
    simp only [spinetref01_Pow.l0]
    have e1 : wrap64 ((j : Int) + 1) = ((j + 1 : Nat) : Int) := by rw [w64 (by omega) (by omega)]; omega
    have hle : (2 : Int) ^ (j + 1) ≤ 4611686018427387904 := pow_le_62 (by omega)
    have hp : (0 : Int) < 2 ^ (j + 1) := Int.pow_pos (by decide)
    have e2 : wrap64 ((2 : Int) ^ j * 2) = 2 ^ (j + 1) := by rw [← Int.pow_succ, w64 (by omega) (by omega)]
    rw [if_pos (by omega), e1, e2]
    exact ih k (j + 1) (by omega) (by omega)
theorem pow_is (n : Nat) (hn : n ≤ 62) (k : Nat) (hk : 63 < k) : spinetref01_Pow.f k n = some (2 ^ n) :=
  pow_loop n hn n k 0 (by omega) (by omega)

theorem ref_sat {x n : Int} (k : Nat) (hk : 63 < k) : spinetref01_Sat.f k x n = some (st x (min (max n 1) 63).toNat) := by
  unfold spinetref01_Sat.f spinetref01_Bits.f
  obtain ⟨m, hm⟩ : ∃ m : Nat, min (max n 1) 63 = m := ⟨(min (max n 1) 63).toNat, by omega⟩
  have e : spinetref01_Held.f n 1 63 = some (m : Int) := by
    unfold spinetref01_Held.f
    rw [← hm]
    (repeat' split) <;> (congr 1; omega)
  rw [e, hm, Int.toNat_natCast]
  simp only [Option.bind_some]
  have e1 : wrap64 ((m : Int) - 1) = ((m - 1 : Nat) : Int) := by rw [w64 (by omega) (by omega)]; omega
  rw [e1, pow_is (m - 1) (by omega) k hk]
  simp only [Option.bind_some]
  have hle : (2 : Int) ^ (m - 1) ≤ 4611686018427387904 := pow_le_62 (by omega)
  have hp : (0 : Int) < 2 ^ (m - 1) := Int.pow_pos (by decide)
  rw [w64 (n := -(2 ^ (m - 1))) (by omega) (by omega), w64 (by omega) (by omega)]
  unfold spinetref01_Held.f st
  (repeat' split) <;> (simp only [Option.bind_some]; congr 1; omega)

theorem FixSats : spinetlaw01_FixSats.Pure := by
  intro a0 a1 w0 w1
  obtain ⟨h0, h1⟩ := wf_i64 w0
  refine ⟨64, ?_⟩
  unfold spinetlaw01_FixSats.f
  rw [awake_sats, sat_is, ref_sat 64 (by decide), ref_sat 64 (by decide), ref_sat 64 (by decide)]
  simp only [Option.bind_some, if_true]
  unfold fix_Sat16.f fix_Sat32.f
  simp only [Option.bind_some, mx_eq, mn_eq]
  have e16 : st a0 (min (max 16 1) 63 : Int).toNat = min (max a0 (-32768)) 32767 := rfl
  have e32 : st a0 (min (max 32 1) 63 : Int).toNat = min (max a0 (-2147483648)) 2147483647 := rfl
  rw [e16, e32, w64 (by omega) (by omega), w64 (by omega) (by omega)]
  simp

end Go.Proofs.Ytdacjcbeclbfjaa.Pure
