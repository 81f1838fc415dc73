/- Any numbers behind any memory have the sound that the document says, and leave that memory; they stay as they were. Conditions: none but that each number fits its type. -/
import Derived.Test.YtcmkejlkcfhklaaOEmphTellsx2
import Derived.Test.YtcmkejlkcfhklaaMath
namespace Go.Proofs.Ytcmkejlkcfhklaa.Pure
open Go.RowKit Go.Proofs.Ytcmkejlkcfhklaa.OEmphTells Go.Proofs.YtcmkejlkcfhklaaW.PrintWords Go.Proofs.YtcmkejlkcfhklaaW.PrintLast Go.Proofs.YtcmkejlkcfhklaaW.PrintMore
open Go.Proofs.Ytcmkejlkcfhklaa.Math
set_option linter.unusedVariables false
theorem sat_is {x n : Int} : fix_Sat.f x n = some (st x (min (max n 1) 63).toNat) := by
  unfold fix_Sat.f
  rw [mx_eq n, mn_eq (max n 1)]
  obtain ⟨m, hm⟩ : ∃ m : Nat, min (max n 1) 63 = m := ⟨(min (max n 1) 63).toNat, by omega⟩
  rw [hm, Int.toNat_natCast]
  have e : ((m : Int) - 1).toNat = m - 1 := by omega
  have hle : (2 : Int) ^ (m - 1) ≤ 4611686018427387904 := pow_le_62 (by omega)
  have hp : (0 : Int) < 2 ^ (m - 1) := Int.pow_pos (by decide)
  rw [e, w64 (n := 2 ^ (m - 1)) (by omega) (by omega), w64 (by omega) (by omega), xor_i64_1' (by omega) (by omega), mx_eq, mn_eq]
  unfold st
  congr 1; omega
theorem round_is {x s : Int} (h0 : -9223372036854775808 ≤ x) (h1 : x ≤ 9223372036854775807) : fix_Round.f x s = some (rnd x s) := by
  unfold fix_Round.f rnd
  by_cases hs : s ≤ 0
  · rw [if_pos hs, if_pos hs]
  rw [if_neg hs, if_neg hs, mn_eq]
  obtain ⟨n, hn⟩ : ∃ n : Nat, min s 62 = n := ⟨(min s 62).toNat, by omega⟩
  rw [hn]
  have e1 : wrap64 ((n : Int) - 1) = ((n - 1 : Nat) : Int) := by rw [w64 (by omega) (by omega)]; omega
  rw [if_pos (by omega), e1, if_pos (by omega), Int.toNat_natCast]
  have e2 : shr .i64 x ((n - 1 : Nat) : Int) = x / 2 ^ (n - 1) := by
    unfold shr
    have : min ((n - 1 : Nat) : Int).toNat IntKind.i64.bits = n - 1 := by simp [IntKind.bits]; omega
    rw [this]
  have e3 : bits .and .i64 (x / 2 ^ (n - 1)) 1 = x / 2 ^ (n - 1) % 2 := and_i64 _ 1 (by decide)
  rw [e2, e3]
  have hr := rn_range h0 h1 (n := n) (by omega)
  unfold rn at hr
  rw [w64 hr.2.2.1 hr.2.2.2]
  rfl
theorem pow_loop (n : Nat) (hn : n ≤ 62) (d : Nat) : ∀ (k : Nat) (j : Nat), j + d = n → d < k → spinetref01_Pow.l0 k n (2 ^ j) j = some (2 ^ n) := by
  induction d with
  | zero =>
    intro k j hj hk
    obtain ⟨k, rfl⟩ : ∃ m, k = m + 1 := ⟨k - 1, by omega⟩
    obtain rfl : j = n := by omega
    simp only [spinetref01_Pow.l0]
    rw [if_neg (by omega)]
  | succ d ih =>
    intro k j hj hk
    obtain ⟨k, rfl⟩ : ∃ m, k = m + 1 := ⟨k - 1, by omega⟩
    simp only [spinetref01_Pow.l0]
    have e1 : wrap64 ((j : Int) + 1) = ((j + 1 : Nat) : Int) := by rw [w64 (by omega) (by omega)]; omega
    have hle : (2 : Int) ^ (j + 1) ≤ 4611686018427387904 := pow_le_62 (by omega)
    have hp : (0 : Int) < 2 ^ (j + 1) := Int.pow_pos (by decide)
    have e2 : wrap64 ((2 : Int) ^ j * 2) = 2 ^ (j + 1) := by rw [← Int.pow_succ, w64 (by omega) (by omega)]
    rw [if_pos (by omega), e1, e2]
    exact ih k (j + 1) (by omega) (by omega)
theorem pow_is (n : Nat) (hn : n ≤ 62) (k : Nat) (hk : 63 < k) : spinetref01_Pow.f k n = some (2 ^ n) :=
  pow_loop n hn n k 0 (by omega) (by omega)
theorem ref_sat {x n : Int} (k : Nat) (hk : 63 < k) : spinetref01_Sat.f k x n = some (st x (min (max n 1) 63).toNat) := by
  unfold spinetref01_Sat.f spinetref01_Bits.f
  obtain ⟨m, hm⟩ : ∃ m : Nat, min (max n 1) 63 = m := ⟨(min (max n 1) 63).toNat, by omega⟩
  have e : spinetref01_Held.f n 1 63 = some (m : Int) := by
    unfold spinetref01_Held.f
    rw [← hm]
    (repeat' split) <;> (congr 1; omega)
  rw [e, hm, Int.toNat_natCast]
  simp only [Option.bind_some]
  have e1 : wrap64 ((m : Int) - 1) = ((m - 1 : Nat) : Int) := by rw [w64 (by omega) (by omega)]; omega
  rw [e1, pow_is (m - 1) (by omega) k hk]
  simp only [Option.bind_some]
  have hle : (2 : Int) ^ (m - 1) ≤ 4611686018427387904 := pow_le_62 (by omega)
  have hp : (0 : Int) < 2 ^ (m - 1) := Int.pow_pos (by decide)
  rw [w64 (n := -(2 ^ (m - 1))) (by omega) (by omega), w64 (by omega) (by omega)]
  unfold spinetref01_Held.f st
  (repeat' split) <;> (simp only [Option.bind_some]; congr 1; omega)
theorem floor_is (x p : Int) (hp : 0 < p) (h0 : -9223372036854775808 ≤ x / p) (h1 : x / p ≤ 9223372036854775807) : spinetref01_Floor.f x p = some (x / p) := by
  unfold spinetref01_Floor.f
  rw [if_neg (by omega)]
  by_cases hx : 0 ≤ x
  · rw [Int.tmod_eq_emod_of_nonneg hx, Int.tdiv_eq_ediv_of_nonneg hx, if_neg (by have := Int.emod_nonneg x (by omega : p ≠ 0); omega), w64 h0 h1]
  · have e1 := Int.tdiv_eq_ediv (a := x) (b := p)
    have e2 := Int.tmod_eq_emod (a := x) (b := p)
    have hs : Int.sign p = 1 := Int.sign_eq_one_of_pos hp
    have hm := Int.emod_nonneg x (by omega : p ≠ 0)
    have hm2 := Int.emod_lt_of_pos x hp
    by_cases hd : p ∣ x
    · rw [if_pos (Or.inr hd)] at e1 e2
      have hz := Int.emod_eq_zero_of_dvd hd
      rw [if_neg (by omega), e1, Int.add_zero, w64 h0 h1]
    · have hn : ¬(0 ≤ x ∨ p ∣ x) := fun h => h.elim hx hd
      rw [if_neg hn] at e1 e2
      have hz : x % p ≠ 0 := fun h => hd (Int.dvd_of_emod_eq_zero h)
      have ha : (p.natAbs : Int) = p := by omega
      rw [if_pos (by omega), e1, hs]
      congr 1
      have hneg : x / p < 0 := Int.ediv_neg_of_neg_of_pos (by omega) hp
      rw [w64 (n := x / p + 1) (by omega) (by omega), w64 (by omega) (by omega)]
      omega
theorem ref_round {x s : Int} (h0 : -9223372036854775808 ≤ x) (h1 : x ≤ 9223372036854775807) (k : Nat) (hk : 63 < k) : spinetref01_Round.f k x s = some (rnd x s) := by
  unfold spinetref01_Round.f spinetref01_Bits.f
  obtain ⟨n, hn⟩ : ∃ n : Nat, min (max s 0) 62 = n := ⟨(min (max s 0) 62).toNat, by omega⟩
  have e : spinetref01_Held.f s 0 62 = some (n : Int) := by
    unfold spinetref01_Held.f
    rw [← hn]
    (repeat' split) <;> (congr 1; omega)
  rw [e]
  simp only [Option.bind_some]
  unfold rnd
  by_cases hs : s ≤ 0
  · rw [if_pos hs, if_pos (by omega)]
  rw [if_neg hs, if_neg (by omega), pow_is n (by omega) k hk]
  simp only [Option.bind_some]
  have hp : (0 : Int) < 2 ^ n := Int.pow_pos (by decide)
  have hle : (2 : Int) ^ n ≤ 4611686018427387904 := pow_le_62 (by omega)
  have hr := rn_range h0 h1 (n := n) (by omega)
  rw [floor_is x _ hp (by omega) (by omega)]
  simp only [Option.bind_some]
  have en : (min s 62).toNat = n := by omega
  rw [en]
  obtain ⟨d1, d2⟩ := half x (n := n) (by omega)
  have hm := Int.mul_ediv_add_emod x (2 ^ n)
  have hm0 := Int.emod_nonneg x (by omega : (2 : Int) ^ n ≠ 0)
  have hm1 := Int.emod_lt_of_pos x hp
  have et : Int.tdiv (2 ^ n) 2 = 2 ^ (n - 1) := by rw [Int.tdiv_eq_ediv_of_nonneg (by omega)]; omega
  have hp1 : (0 : Int) < 2 ^ (n - 1) := Int.pow_pos (by decide)
  rw [et, w64 (n := 2 ^ (n - 1)) (by omega) (by omega)]
  have e4 : wrap64 (x - wrap64 (x / 2 ^ n * 2 ^ n)) = x % 2 ^ n := by
    rw [Int.mul_comm]
    generalize 2 ^ n * (x / 2 ^ n) = y at *
    unfold wrap64; omega
  rw [e4]
  have hbit : (x / 2 ^ (n - 1)) % 2 = if x % 2 ^ n ≥ 2 ^ (n - 1) then 1 else 0 := by
    have k1 := Int.mul_ediv_add_emod x (2 ^ (n - 1))
    have k2 := Int.emod_nonneg x (by omega : (2 : Int) ^ (n - 1) ≠ 0)
    have k3 := Int.emod_lt_of_pos x hp1
    have k4 : x % 2 ^ n = 2 ^ (n - 1) * (x / 2 ^ (n - 1) % 2) + x % 2 ^ (n - 1) := by
      have : 2 ^ n * (x / 2 ^ n) = 2 ^ (n - 1) * (2 * (x / 2 ^ (n - 1) / 2)) := by
        rw [d2, d1, Int.mul_comm 2, Int.mul_assoc]
      have k5 : x / 2 ^ (n - 1) = 2 * (x / 2 ^ (n - 1) / 2) + x / 2 ^ (n - 1) % 2 := by omega
      rw [k5, Int.mul_add] at k1
      rw [this] at hm
      have k6 : (2 * (x / 2 ^ (n - 1) / 2) + x / 2 ^ (n - 1) % 2) / 2 = x / 2 ^ (n - 1) / 2 := by omega
      have k7 : (2 * (x / 2 ^ (n - 1) / 2) + x / 2 ^ (n - 1) % 2) % 2 = x / 2 ^ (n - 1) % 2 := by omega
      omega
    rcases (by omega : x / 2 ^ (n - 1) % 2 = 0 ∨ x / 2 ^ (n - 1) % 2 = 1) with h | h
    · rw [h] at k4 ⊢
      rw [if_neg (by omega)]
    · rw [h] at k4 ⊢
      rw [if_pos (by omega)]
  unfold rn
  rw [hbit]
  split
  · rw [w64 (by omega) (by omega)]
  · rw [Int.add_zero]
/-- Numbers, as wide ones: themselves. -/
theorem wide_loop (xs : List Int) (hn : xs.length ≤ 17592186044416) (hw : ∀ x ∈ xs, -2147483648 ≤ x ∧ x ≤ 2147483647) (d : Nat) : ∀ (k i : Nat) (acc : List Int), i + d = xs.length → d < k → acc.length = i →
    spinetlaw18_Wide.l0 k acc xs xs.length i = some (acc ++ xs.drop i) := by
  induction d with
  | zero =>
    intro k i acc hi hk ha
    obtain ⟨k, rfl⟩ : ∃ m, k = m + 1 := ⟨k - 1, by omega⟩
    simp only [spinetlaw18_Wide.l0]
    rw [if_neg (by omega), List.drop_of_length_le (by omega), List.append_nil]
  | succ d ih =>
    intro k i acc hi hk ha
    obtain ⟨k, rfl⟩ : ∃ m, k = m + 1 := ⟨k - 1, by omega⟩
    simp only [spinetlaw18_Wide.l0]
    have hlt : i < xs.length := by omega
    obtain ⟨x0, x1⟩ := hw _ (rd_mem hlt)
    rw [if_pos (by omega), if_pos (by omega), if_pos (by omega), if_pos (by omega), step64 hlt (by omega), w64 (by omega) (by omega)]
    rw [ih k (i + 1) _ (by omega) (by omega) (by simp; omega), rd_drop hlt, List.append_assoc]; rfl
theorem wide_is (xs : List Int) (hn : xs.length ≤ 17592186044416) (hw : ∀ x ∈ xs, -2147483648 ≤ x ∧ x ≤ 2147483647) (k : Nat) (hk : xs.length < k) : spinetlaw18_Wide.f k xs = some xs := by
  have := wide_loop xs hn hw xs.length k 0 [] (by omega) hk rfl
  simp only [List.drop, List.nil_append] at this
  exact this
/-- A list is the same as itself. -/
theorem same18_loop (xs : List Int) (hn : xs.length ≤ 9223372036854775807) (hw : ∀ x ∈ xs, -2147483648 ≤ x ∧ x ≤ 2147483647) (d : Nat) : ∀ (k i : Nat), i + d = xs.length → d < k → spinetlaw18_Same.l0 k xs xs xs.length i = some true := by
  induction d with
  | zero =>
    intro k i hi hk
    obtain ⟨k, rfl⟩ : ∃ m, k = m + 1 := ⟨k - 1, by omega⟩
    simp only [spinetlaw18_Same.l0]
    rw [if_neg (by omega)]
  | succ d ih =>
    intro k i hi hk
    obtain ⟨k, rfl⟩ : ∃ m, k = m + 1 := ⟨k - 1, by omega⟩
    simp only [spinetlaw18_Same.l0]
    have hlt : i < xs.length := by omega
    obtain ⟨x0, x1⟩ := hw _ (rd_mem hlt)
    rw [if_pos (by omega), if_pos (by omega), if_pos (by omega), if_pos (by omega), if_pos (w64 (by omega) (by omega)), step64 hlt hn]
    exact ih k (i + 1) (by omega) (by omega)
theorem same18_is (xs : List Int) (hn : xs.length ≤ 9223372036854775807) (hw : ∀ x ∈ xs, -2147483648 ≤ x ∧ x ≤ 2147483647) (k : Nat) (hk : xs.length < k) : spinetlaw18_Same.f k xs xs = some true := by
  unfold spinetlaw18_Same.f
  rw [if_pos rfl]
  exact same18_loop xs hn hw xs.length k 0 (by omega) hk
/-- A list is the same as itself. -/
theorem same24_loop (xs : List Int) (hn : xs.length ≤ 9223372036854775807) (hw : ∀ x ∈ xs, -2147483648 ≤ x ∧ x ≤ 2147483647) (d : Nat) : ∀ (k i : Nat), i + d = xs.length → d < k → spinetlaw24_Same.l0 k xs xs xs.length i = some true := by
  induction d with
  | zero =>
    intro k i hi hk
    obtain ⟨k, rfl⟩ : ∃ m, k = m + 1 := ⟨k - 1, by omega⟩
    simp only [spinetlaw24_Same.l0]
    rw [if_neg (by omega)]
  | succ d ih =>
    intro k i hi hk
    obtain ⟨k, rfl⟩ : ∃ m, k = m + 1 := ⟨k - 1, by omega⟩
    simp only [spinetlaw24_Same.l0]
    have hlt : i < xs.length := by omega
    obtain ⟨x0, x1⟩ := hw _ (rd_mem hlt)
    rw [if_pos (by omega), if_pos (by omega), if_pos (by omega), if_pos (by omega), if_pos (w64 (by omega) (by omega)), step64 hlt hn]
    exact ih k (i + 1) (by omega) (by omega)
theorem same24_is (xs : List Int) (hn : xs.length ≤ 9223372036854775807) (hw : ∀ x ∈ xs, -2147483648 ≤ x ∧ x ≤ 2147483647) (k : Nat) (hk : xs.length < k) : spinetlaw24_Same.f k xs xs = some true := by
  unfold spinetlaw24_Same.f
  rw [if_pos rfl]
  exact same24_loop xs hn hw xs.length k 0 (by omega) hk
/-- The memory behind a number. -/
def nx (x m : Int) : Int := st (x + rnd (27853 * m) 15) 28
def I32 (x : Int) : Prop := -2147483648 ≤ x ∧ x ≤ 2147483647
theorem st_range (x : Int) (m : Nat) : -(2 ^ (m - 1)) ≤ st x m ∧ st x m ≤ 2 ^ (m - 1) - 1 := by
  have hp : (0 : Int) < 2 ^ (m - 1) := Int.pow_pos (by decide)
  unfold st; omega
theorem nx_range (x m : Int) : -134217728 ≤ nx x m ∧ nx x m ≤ 134217727 := st_range _ 28
theorem nx_i32 (x m : Int) : I32 (nx x m) := by have := nx_range x m; unfold I32; omega
theorem rnd_small {m : Int} (hm : I32 m) : -2147483648 ≤ rnd (27853 * m) 15 ∧ rnd (27853 * m) 15 ≤ 2147483648 := by
  rw [rnd15]; obtain ⟨h0, h1⟩ := hm; omega
theorem next_is {x m : Int} (hx : I32 x) (hm : I32 m) : emph_next.f x m = some (nx x m) := by
  obtain ⟨x0, x1⟩ := hx
  have hr := rnd_small hm
  obtain ⟨m0, m1⟩ := hm
  unfold emph_next.f
  rw [w64 (n := m) (by omega) (by omega), w64 (n := 27853 * m) (by omega) (by omega), w64 (n := x) (by omega) (by omega), round_is (by omega) (by omega)]
  simp only [Option.bind_some]
  rw [w64 (by omega) (by omega), sat_is]
  simp only [Option.bind_some]
  have e : (min (max (28 : Int) 1) 63).toNat = 28 := rfl
  rw [e]
  have hn := nx_range x m
  unfold nx at hn ⊢
  congr 1
  unfold wrap32; omega
/-- The sound of a memory. -/
def c16 (m : Int) : Int := min (max m (-32768)) 32767
/-- The sound of numbers behind a memory, and the last memory. -/
def so : List Int → Int → List Int
  | [], _ => []
  | x :: r, m => c16 (nx x m) :: so r (nx x m)
def la : List Int → Int → Int
  | [], m => m
  | x :: r, m => la r (nx x m)
theorem so_length : ∀ (xs : List Int) (m : Int), (so xs m).length = xs.length
  | [], _ => rfl
  | x :: r, m => by unfold so; rw [List.length_cons, List.length_cons, so_length r]
theorem so_i32 : ∀ (xs : List Int) (m : Int), ∀ y ∈ so xs m, -2147483648 ≤ y ∧ y ≤ 2147483647
  | [], _ => fun y h => by cases h
  | x :: r, m => fun y h => by
    unfold so at h
    rcases List.mem_cons.1 h with h | h
    · subst h; unfold c16; omega
    · exact so_i32 r _ y h
theorem la_i32 : ∀ (xs : List Int) (m : Int), I32 m → I32 (la xs m)
  | [], m => fun h => h
  | x :: r, m => fun _ => la_i32 r _ (nx_i32 x m)
theorem plain_loop (xs : List Int) (hn : xs.length ≤ 70368744177664) (hw : ∀ x ∈ xs, I32 x) (d : Nat) : ∀ (k i : Nat) (m : Int) (acc : List Int), i + d = xs.length → d < k → acc.length = i → I32 m →
    emph_Plain.l0 k m acc xs xs.length i = some (acc ++ so (xs.drop i) m, la (xs.drop i) m) := by
  induction d with
  | zero =>
    intro k i m acc hi hk ha hm
    obtain ⟨k, rfl⟩ : ∃ m, k = m + 1 := ⟨k - 1, by omega⟩
    simp only [emph_Plain.l0]
    rw [if_neg (by omega), List.drop_of_length_le (by omega)]
    simp [so, la]
  | succ d ih =>
    intro k i m acc hi hk ha hm
    obtain ⟨k, rfl⟩ : ∃ m, k = m + 1 := ⟨k - 1, by omega⟩
    simp only [emph_Plain.l0]
    have hlt : i < xs.length := by omega
    have hx := hw _ (rd_mem hlt)
    have hr := nx_range (rd xs i) m
    rw [if_pos (by omega), if_pos (by omega), if_pos (by omega), next_is hx hm]
    simp only [Option.bind_some]
    have e16 : fix_Sat16.f (wrap64 (nx (rd xs i) m)) = some (c16 (nx (rd xs i) m)) := by
      unfold fix_Sat16.f c16; rw [mx_eq, mn_eq, w64 (by omega) (by omega)]
    rw [e16]
    simp only [Option.bind_some]
    rw [if_pos (by omega), step64 hlt (by omega), ih k (i + 1) _ _ (by omega) (by omega) (by simp; omega) (nx_i32 _ _), rd_drop hlt, List.append_assoc]
    rfl
theorem plain_is (xs : List Int) (hn : xs.length ≤ 70368744177664) (hw : ∀ x ∈ xs, I32 x) (m : Int) (hm : I32 m) (k : Nat) (hk : xs.length < k) : emph_Plain.f k xs m = some (so xs m, la xs m) := by
  have := plain_loop xs hn hw xs.length k 0 m [] (by omega) hk rfl hm
  simp only [List.drop, List.nil_append] at this
  exact this
theorem ref_next {x m : Int} (hx : I32 x) (hm : I32 m) (k : Nat) (hk : 63 < k) : spinetref24_Next.f k x m = some (nx x m) := by
  obtain ⟨x0, x1⟩ := hx
  have hr := rnd_small hm
  obtain ⟨m0, m1⟩ := hm
  unfold spinetref24_Next.f
  rw [w64 (n := 27853 * m) (by omega) (by omega), ref_round (by omega) (by omega) k hk]
  simp only [Option.bind_some]
  rw [w64 (by omega) (by omega), ref_sat k hk]
  rfl
theorem sound_loop (xs : List Int) (hn : xs.length ≤ 17592186044416) (hw : ∀ x ∈ xs, I32 x) (d : Nat) : ∀ (k i : Nat) (m : Int) (acc : List Int), i + d = xs.length → d + 64 < k → acc.length = i → I32 m →
    spinetref24_Sound.l0 k xs m acc i = some (acc ++ so (xs.drop i) m, la (xs.drop i) m) := by
  induction d with
  | zero =>
    intro k i m acc hi hk ha hm
    obtain ⟨k, rfl⟩ : ∃ m, k = m + 1 := ⟨k - 1, by omega⟩
    simp only [spinetref24_Sound.l0]
    rw [if_neg (by omega), List.drop_of_length_le (by omega)]
    simp [so, la]
  | succ d ih =>
    intro k i m acc hi hk ha hm
    obtain ⟨k, rfl⟩ : ∃ m, k = m + 1 := ⟨k - 1, by omega⟩
    simp only [spinetref24_Sound.l0]
    have hlt : i < xs.length := by omega
    have hx := hw _ (rd_mem hlt)
    have hr := nx_range (rd xs i) m
    rw [if_pos (by omega), if_pos (by omega), ref_next hx hm k (by omega)]
    simp only [Option.bind_some]
    rw [ref_sat k (by omega)]
    simp only [Option.bind_some]
    rw [if_pos (by omega), step64 hlt (by omega), ih k (i + 1) _ _ (by omega) (by omega) (by simp; omega) (nx_i32 _ _), rd_drop hlt, List.append_assoc]
    have e16 : st (nx (rd xs i) m) (min (max (16 : Int) 1) 63).toNat = c16 (nx (rd xs i) m) := rfl
    rw [e16]
    rfl
theorem sound_is (xs : List Int) (hn : xs.length ≤ 17592186044416) (hw : ∀ x ∈ xs, I32 x) (m : Int) (hm : I32 m) (k : Nat) (hk : xs.length + 64 < k) : spinetref24_Sound.f k xs m = some (so xs m, la xs m) := by
  have := sound_loop xs hn hw xs.length k 0 m [] (by omega) hk rfl hm
  simp only [List.drop, List.nil_append] at this
  exact this

theorem awake_tells (k : Nat) (hk : 2 < k) : spinetlaw24_awake.f k = some true := by
  have h : spinetlaw24_awake.f 3 = some true := by decide +kernel
  exact at_rounds (g := fun k => spinetlaw24_awake.f k) (fun k => spinetlaw24_awake.mono k) (by omega) h
theorem EmphTells : spinetlaw24_EmphTells.Pure := by
  intro xs m hmax hlen hw hm
  have hm' : I32 m := wf_i32 hm
  have hw' : ∀ x ∈ xs, I32 x := fun x h => wf_i32 (hw x h)
  refine ⟨300, ?_⟩
  unfold spinetlaw24_EmphTells.f
  rw [awake_tells 300 (by decide)]
  simp only [Option.bind_some, if_true]
  by_cases h : (xs.length : Int) > 200
  · rw [if_pos h]
  rw [if_neg h, wide_is xs (by omega) hw' 300 (by omega)]
  simp only [Option.bind_some]
  rw [plain_is xs (by omega) hw' m hm' 300 (by omega)]
  simp only [Option.bind_some]
  rw [w64 (by obtain ⟨a, b⟩ := hm'; omega) (by obtain ⟨a, b⟩ := hm'; omega), sound_is xs (by omega) hw' m hm' 300 (by omega)]
  simp only [Option.bind_some]
  rw [same24_is _ (by rw [so_length]; omega) (so_i32 xs m) 300 (by rw [so_length]; omega)]
  simp only [Option.bind_some, if_true]
  have hl := la_i32 xs m hm'
  rw [if_pos (w64 (by obtain ⟨a, b⟩ := hl; omega) (by obtain ⟨a, b⟩ := hl; omega)), same18_is xs (by omega) hw' 300 (by omega)]
  rfl

end Go.Proofs.Ytcmkejlkcfhklaa.Pure
