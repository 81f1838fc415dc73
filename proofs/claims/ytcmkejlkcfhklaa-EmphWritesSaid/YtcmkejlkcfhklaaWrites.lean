/- Written at every so many places, each sound stands at its own, and nothing else is written; the last memory is told. Conditions: none but that each number fits its type. -/
import Derived.Test.YtcmkejlkcfhklaaOEmphWritesx2
import Derived.Test.YtcmkejlkcfhklaaMath
import Derived.LoopTactic
namespace Go.Proofs.Ytcmkejlkcfhklaa.Writes
open Go.RowKit Go.Proofs.Ytcmkejlkcfhklaa.OEmphWrites Go.Proofs.YtcmkejlkcfhklaaW.PrintWords Go.Proofs.YtcmkejlkcfhklaaW.PrintLast Go.Proofs.YtcmkejlkcfhklaaW.PrintMore
open Go.Proofs.Ytcmkejlkcfhklaa.Math
attribute [local go_sem] max2_int min2_int max_two min_two max_three min_three max_four min_four   -- for this text's walks alone
set_option linter.unusedVariables false
set_option linter.unusedSimpArgs false
theorem sat_is {x n : Int} : fix_Sat.f x n = some (st x (min (max n 1) 63).toNat) := by
  unfold fix_Sat.f
  rw [mx_eq n, mn_eq (max n 1)]
  obtain ⟨m, hm⟩ : ∃ m : Nat, min (max n 1) 63 = m := ⟨(min (max n 1) 63).toNat, by omega⟩
  rw [hm, Int.toNat_natCast]
  have e : ((m : Int) - 1).toNat = m - 1 := by omega
  have hle : (2 : Int) ^ (m - 1) ≤ 4611686018427387904 := pow_le_62 (by omega)
  have hp : (0 : Int) < 2 ^ (m - 1) := Int.pow_pos (by decide)
  rw [e, w64 (n := 2 ^ (m - 1)) (by omega) (by omega), w64 (by omega) (by omega), xor_i64_1' (by omega) (by omega), mx_eq, mn_eq]
  unfold st
  congr 1; omega
theorem round_is {x s : Int} (h0 : -9223372036854775808 ≤ x) (h1 : x ≤ 9223372036854775807) : fix_Round.f x s = some (rnd x s) := by
  unfold fix_Round.f rnd
  by_cases hs : s ≤ 0
  · rw [if_pos hs, if_pos hs]
  rw [if_neg hs, if_neg hs, mn_eq]
  obtain ⟨n, hn⟩ : ∃ n : Nat, min s 62 = n := ⟨(min s 62).toNat, by omega⟩
  rw [hn]
  have e1 : wrap64 ((n : Int) - 1) = ((n - 1 : Nat) : Int) := by rw [w64 (by omega) (by omega)]; omega
  rw [if_pos (by omega), e1, if_pos (by omega), Int.toNat_natCast]
  have e2 : shr .i64 x ((n - 1 : Nat) : Int) = x / 2 ^ (n - 1) := by
    unfold shr
    have : min ((n - 1 : Nat) : Int).toNat IntKind.i64.bits = n - 1 := by simp [IntKind.bits]; omega
    rw [this]
  have e3 : bits .and .i64 (x / 2 ^ (n - 1)) 1 = x / 2 ^ (n - 1) % 2 := and_i64 _ 1 (by decide)
  rw [e2, e3]
  have hr := rn_range h0 h1 (n := n) (by omega)
  unfold rn at hr
  rw [w64 hr.2.2.1 hr.2.2.2]
  rfl
theorem pow_loop (n : Nat) (hn : n ≤ 62) (d : Nat) : ∀ (k : Nat) (j : Nat), j + d = n → d < k → spinetref01_Pow.l0 k n (2 ^ j) j = some (2 ^ n) := by
  induction d with
  | zero =>
    intro k j hj hk
    obtain ⟨k, rfl⟩ : ∃ m, k = m + 1 := ⟨k - 1, by omega⟩
    obtain rfl : j = n := by omega
    simp only [spinetref01_Pow.l0]
    rw [if_neg (by omega)]
  | succ d ih =>
    intro k j hj hk
    obtain ⟨k, rfl⟩ : ∃ m, k = m + 1 := ⟨k - 1, by omega⟩
    simp only [spinetref01_Pow.l0]
    have e1 : wrap64 ((j : Int) + 1) = ((j + 1 : Nat) : Int) := by rw [w64 (by omega) (by omega)]; omega
    have hle : (2 : Int) ^ (j + 1) ≤ 4611686018427387904 := pow_le_62 (by omega)
    have hp : (0 : Int) < 2 ^ (j + 1) := Int.pow_pos (by decide)
    have e2 : wrap64 ((2 : Int) ^ j * 2) = 2 ^ (j + 1) := by rw [← Int.pow_succ, w64 (by omega) (by omega)]
    rw [if_pos (by omega), e1, e2]
    exact ih k (j + 1) (by omega) (by omega)
theorem pow_is (n : Nat) (hn : n ≤ 62) (k : Nat) (hk : 63 < k) : spinetref01_Pow.f k n = some (2 ^ n) :=
  pow_loop n hn n k 0 (by omega) (by omega)
theorem ref_sat {x n : Int} (k : Nat) (hk : 63 < k) : spinetref01_Sat.f k x n = some (st x (min (max n 1) 63).toNat) := by
  unfold spinetref01_Sat.f spinetref01_Bits.f
  obtain ⟨m, hm⟩ : ∃ m : Nat, min (max n 1) 63 = m := ⟨(min (max n 1) 63).toNat, by omega⟩
  have e : spinetref01_Held.f n 1 63 = some (m : Int) := by
    unfold spinetref01_Held.f
    rw [← hm]
    (repeat' split) <;> (congr 1; omega)
  rw [e, hm, Int.toNat_natCast]
  simp only [Option.bind_some]
  have e1 : wrap64 ((m : Int) - 1) = ((m - 1 : Nat) : Int) := by rw [w64 (by omega) (by omega)]; omega
  rw [e1, pow_is (m - 1) (by omega) k hk]
  simp only [Option.bind_some]
  have hle : (2 : Int) ^ (m - 1) ≤ 4611686018427387904 := pow_le_62 (by omega)
  have hp : (0 : Int) < 2 ^ (m - 1) := Int.pow_pos (by decide)
  rw [w64 (n := -(2 ^ (m - 1))) (by omega) (by omega), w64 (by omega) (by omega)]
  unfold spinetref01_Held.f st
  (repeat' split) <;> (simp only [Option.bind_some]; congr 1; omega)
theorem floor_is (x p : Int) (hp : 0 < p) (h0 : -9223372036854775808 ≤ x / p) (h1 : x / p ≤ 9223372036854775807) : spinetref01_Floor.f x p = some (x / p) := by
  unfold spinetref01_Floor.f
  rw [if_neg (by omega)]
  by_cases hx : 0 ≤ x
  · rw [Int.tmod_eq_emod_of_nonneg hx, Int.tdiv_eq_ediv_of_nonneg hx, if_neg (by have := Int.emod_nonneg x (by omega : p ≠ 0); omega), w64 h0 h1]
  · have e1 := Int.tdiv_eq_ediv (a := x) (b := p)
    have e2 := Int.tmod_eq_emod (a := x) (b := p)
    have hs : Int.sign p = 1 := Int.sign_eq_one_of_pos hp
    have hm := Int.emod_nonneg x (by omega : p ≠ 0)
    have hm2 := Int.emod_lt_of_pos x hp
    by_cases hd : p ∣ x
    · rw [if_pos (Or.inr hd)] at e1 e2
      have hz := Int.emod_eq_zero_of_dvd hd
      rw [if_neg (by omega), e1, Int.add_zero, w64 h0 h1]
    · have hn : ¬(0 ≤ x ∨ p ∣ x) := fun h => h.elim hx hd
      rw [if_neg hn] at e1 e2
      have hz : x % p ≠ 0 := fun h => hd (Int.dvd_of_emod_eq_zero h)
      have ha : (p.natAbs : Int) = p := by omega
      rw [if_pos (by omega), e1, hs]
      congr 1
      have hneg : x / p < 0 := Int.ediv_neg_of_neg_of_pos (by omega) hp
      rw [w64 (n := x / p + 1) (by omega) (by omega), w64 (by omega) (by omega)]
      omega
theorem ref_round {x s : Int} (h0 : -9223372036854775808 ≤ x) (h1 : x ≤ 9223372036854775807) (k : Nat) (hk : 63 < k) : spinetref01_Round.f k x s = some (rnd x s) := by
  unfold spinetref01_Round.f spinetref01_Bits.f
  obtain ⟨n, hn⟩ : ∃ n : Nat, min (max s 0) 62 = n := ⟨(min (max s 0) 62).toNat, by omega⟩
  have e : spinetref01_Held.f s 0 62 = some (n : Int) := by
    unfold spinetref01_Held.f
    rw [← hn]
    (repeat' split) <;> (congr 1; omega)
  rw [e]
  simp only [Option.bind_some]
  unfold rnd
  by_cases hs : s ≤ 0
  · rw [if_pos hs, if_pos (by omega)]
  rw [if_neg hs, if_neg (by omega), pow_is n (by omega) k hk]
  simp only [Option.bind_some]
  have hp : (0 : Int) < 2 ^ n := Int.pow_pos (by decide)
  have hle : (2 : Int) ^ n ≤ 4611686018427387904 := pow_le_62 (by omega)
  have hr := rn_range h0 h1 (n := n) (by omega)
  rw [floor_is x _ hp (by omega) (by omega)]
  simp only [Option.bind_some]
  have en : (min s 62).toNat = n := by omega
  rw [en]
  obtain ⟨d1, d2⟩ := half x (n := n) (by omega)
  have hm := Int.mul_ediv_add_emod x (2 ^ n)
  have hm0 := Int.emod_nonneg x (by omega : (2 : Int) ^ n ≠ 0)
  have hm1 := Int.emod_lt_of_pos x hp
  have et : Int.tdiv (2 ^ n) 2 = 2 ^ (n - 1) := by rw [Int.tdiv_eq_ediv_of_nonneg (by omega)]; omega
  have hp1 : (0 : Int) < 2 ^ (n - 1) := Int.pow_pos (by decide)
  rw [et, w64 (n := 2 ^ (n - 1)) (by omega) (by omega)]
  have e4 : wrap64 (x - wrap64 (x / 2 ^ n * 2 ^ n)) = x % 2 ^ n := by
    rw [Int.mul_comm]
    generalize 2 ^ n * (x / 2 ^ n) = y at *
    unfold wrap64; omega
  rw [e4]
  have hbit : (x / 2 ^ (n - 1)) % 2 = if x % 2 ^ n ≥ 2 ^ (n - 1) then 1 else 0 := by
    have k1 := Int.mul_ediv_add_emod x (2 ^ (n - 1))
    have k2 := Int.emod_nonneg x (by omega : (2 : Int) ^ (n - 1) ≠ 0)
    have k3 := Int.emod_lt_of_pos x hp1
    have k4 : x % 2 ^ n = 2 ^ (n - 1) * (x / 2 ^ (n - 1) % 2) + x % 2 ^ (n - 1) := by
      have : 2 ^ n * (x / 2 ^ n) = 2 ^ (n - 1) * (2 * (x / 2 ^ (n - 1) / 2)) := by
        rw [d2, d1, Int.mul_comm 2, Int.mul_assoc]
      have k5 : x / 2 ^ (n - 1) = 2 * (x / 2 ^ (n - 1) / 2) + x / 2 ^ (n - 1) % 2 := by omega
      rw [k5, Int.mul_add] at k1
      rw [this] at hm
      have k6 : (2 * (x / 2 ^ (n - 1) / 2) + x / 2 ^ (n - 1) % 2) / 2 = x / 2 ^ (n - 1) / 2 := by omega
      have k7 : (2 * (x / 2 ^ (n - 1) / 2) + x / 2 ^ (n - 1) % 2) % 2 = x / 2 ^ (n - 1) % 2 := by omega
      omega
    rcases (by omega : x / 2 ^ (n - 1) % 2 = 0 ∨ x / 2 ^ (n - 1) % 2 = 1) with h | h
    · rw [h] at k4 ⊢
      rw [if_neg (by omega)]
    · rw [h] at k4 ⊢
      rw [if_pos (by omega)]
  unfold rn
  rw [hbit]
  split
  · rw [w64 (by omega) (by omega)]
  · rw [Int.add_zero]
/-- Numbers, as wide ones: themselves. -/
theorem wide_loop (xs : List Int) (hn : xs.length ≤ 17592186044416) (hw : ∀ x ∈ xs, -2147483648 ≤ x ∧ x ≤ 2147483647) (d : Nat) : ∀ (k i : Nat) (acc : List Int), i + d = xs.length → d < k → acc.length = i →
    spinetlaw18_Wide.l0 k acc xs xs.length i = some (acc ++ xs.drop i) := by
  induction d with
  | zero =>
    intro k i acc hi hk ha
    obtain ⟨k, rfl⟩ : ∃ m, k = m + 1 := ⟨k - 1, by omega⟩
    simp only [spinetlaw18_Wide.l0]
    rw [if_neg (by omega), List.drop_of_length_le (by omega), List.append_nil]
  | succ d ih =>
    intro k i acc hi hk ha
    obtain ⟨k, rfl⟩ : ∃ m, k = m + 1 := ⟨k - 1, by omega⟩
    simp only [spinetlaw18_Wide.l0]
    have hlt : i < xs.length := by omega
    obtain ⟨x0, x1⟩ := hw _ (rd_mem hlt)
    rw [if_pos (by omega), if_pos (by omega), if_pos (by omega), if_pos (by omega), step64 hlt (by omega), w64 (by omega) (by omega)]
    rw [ih k (i + 1) _ (by omega) (by omega) (by simp; omega), rd_drop hlt, List.append_assoc]; rfl
theorem wide_is (xs : List Int) (hn : xs.length ≤ 17592186044416) (hw : ∀ x ∈ xs, -2147483648 ≤ x ∧ x ≤ 2147483647) (k : Nat) (hk : xs.length < k) : spinetlaw18_Wide.f k xs = some xs := by
  have := wide_loop xs hn hw xs.length k 0 [] (by omega) hk rfl
  simp only [List.drop, List.nil_append] at this
  exact this
/-- The memory behind a number. -/
def nx (x m : Int) : Int := st (x + rnd (27853 * m) 15) 28
def I32 (x : Int) : Prop := -2147483648 ≤ x ∧ x ≤ 2147483647
theorem st_range (x : Int) (m : Nat) : -(2 ^ (m - 1)) ≤ st x m ∧ st x m ≤ 2 ^ (m - 1) - 1 := by
  have hp : (0 : Int) < 2 ^ (m - 1) := Int.pow_pos (by decide)
  unfold st; omega
theorem nx_range (x m : Int) : -134217728 ≤ nx x m ∧ nx x m ≤ 134217727 := st_range _ 28
theorem nx_i32 (x m : Int) : I32 (nx x m) := by have := nx_range x m; unfold I32; omega
theorem rnd_small {m : Int} (hm : I32 m) : -2147483648 ≤ rnd (27853 * m) 15 ∧ rnd (27853 * m) 15 ≤ 2147483648 := by
  rw [rnd15]; obtain ⟨h0, h1⟩ := hm; omega
theorem next_is {x m : Int} (hx : I32 x) (hm : I32 m) : emph_next.f x m = some (nx x m) := by
  obtain ⟨x0, x1⟩ := hx
  have hr := rnd_small hm
  obtain ⟨m0, m1⟩ := hm
  unfold emph_next.f
  rw [w64 (n := m) (by omega) (by omega), w64 (n := 27853 * m) (by omega) (by omega), w64 (n := x) (by omega) (by omega), round_is (by omega) (by omega)]
  simp only [Option.bind_some]
  rw [w64 (by omega) (by omega), sat_is]
  simp only [Option.bind_some]
  have e : (min (max (28 : Int) 1) 63).toNat = 28 := rfl
  rw [e]
  have hn := nx_range x m
  unfold nx at hn ⊢
  congr 1
  unfold wrap32; omega
/-- The sound of a memory. -/
def c16 (m : Int) : Int := min (max m (-32768)) 32767
/-- The sound of numbers behind a memory, and the last memory. -/
def so : List Int → Int → List Int
  | [], _ => []
  | x :: r, m => c16 (nx x m) :: so r (nx x m)
def la : List Int → Int → Int
  | [], m => m
  | x :: r, m => la r (nx x m)
theorem so_length : ∀ (xs : List Int) (m : Int), (so xs m).length = xs.length
  | [], _ => rfl
  | x :: r, m => by unfold so; rw [List.length_cons, List.length_cons, so_length r]
theorem so_i32 : ∀ (xs : List Int) (m : Int), ∀ y ∈ so xs m, -2147483648 ≤ y ∧ y ≤ 2147483647
  | [], _ => fun y h => by cases h
  | x :: r, m => fun y h => by
    unfold so at h
    rcases List.mem_cons.1 h with h | h
    · subst h; unfold c16; omega
    · exact so_i32 r _ y h
theorem la_i32 : ∀ (xs : List Int) (m : Int), I32 m → I32 (la xs m)
  | [], m => fun h => h
  | x :: r, m => fun _ => la_i32 r _ (nx_i32 x m)
theorem plain_loop (xs : List Int) (hn : xs.length ≤ 70368744177664) (hw : ∀ x ∈ xs, I32 x) (d : Nat) : ∀ (k i : Nat) (m : Int) (acc : List Int), i + d = xs.length → d < k → acc.length = i → I32 m →
    emph_Plain.l0 k m acc xs xs.length i = some (acc ++ so (xs.drop i) m, la (xs.drop i) m) := by
  induction d with
  | zero =>
    intro k i m acc hi hk ha hm
    obtain ⟨k, rfl⟩ : ∃ m, k = m + 1 := ⟨k - 1, by omega⟩
    simp only [emph_Plain.l0]
    rw [if_neg (by omega), List.drop_of_length_le (by omega)]
    simp [so, la]
  | succ d ih =>
    intro k i m acc hi hk ha hm
    obtain ⟨k, rfl⟩ : ∃ m, k = m + 1 := ⟨k - 1, by omega⟩
    simp only [emph_Plain.l0]
    have hlt : i < xs.length := by omega
    have hx := hw _ (rd_mem hlt)
    have hr := nx_range (rd xs i) m
    rw [if_pos (by omega), if_pos (by omega), if_pos (by omega), next_is hx hm]
    simp only [Option.bind_some]
    have e16 : fix_Sat16.f (wrap64 (nx (rd xs i) m)) = some (c16 (nx (rd xs i) m)) := by
      unfold fix_Sat16.f c16; rw [mx_eq, mn_eq, w64 (by omega) (by omega)]
    rw [e16]
    simp only [Option.bind_some]
    rw [if_pos (by omega), step64 hlt (by omega), ih k (i + 1) _ _ (by omega) (by omega) (by simp; omega) (nx_i32 _ _), rd_drop hlt, List.append_assoc]
    rfl
theorem plain_is (xs : List Int) (hn : xs.length ≤ 70368744177664) (hw : ∀ x ∈ xs, I32 x) (m : Int) (hm : I32 m) (k : Nat) (hk : xs.length < k) : emph_Plain.f k xs m = some (so xs m, la xs m) := by
  have := plain_loop xs hn hw xs.length k 0 m [] (by omega) hk rfl hm
  simp only [List.drop, List.nil_append] at this
  exact this
theorem ref_next {x m : Int} (hx : I32 x) (hm : I32 m) (k : Nat) (hk : 63 < k) : spinetref24_Next.f k x m = some (nx x m) := by
  obtain ⟨x0, x1⟩ := hx
  have hr := rnd_small hm
  obtain ⟨m0, m1⟩ := hm
  unfold spinetref24_Next.f
  rw [w64 (n := 27853 * m) (by omega) (by omega), ref_round (by omega) (by omega) k hk]
  simp only [Option.bind_some]
  rw [w64 (by omega) (by omega), ref_sat k hk]
  rfl
theorem sound_loop (xs : List Int) (hn : xs.length ≤ 17592186044416) (hw : ∀ x ∈ xs, I32 x) (d : Nat) : ∀ (k i : Nat) (m : Int) (acc : List Int), i + d = xs.length → d + 64 < k → acc.length = i → I32 m →
    spinetref24_Sound.l0 k xs m acc i = some (acc ++ so (xs.drop i) m, la (xs.drop i) m) := by
  induction d with
  | zero =>
    intro k i m acc hi hk ha hm
    obtain ⟨k, rfl⟩ : ∃ m, k = m + 1 := ⟨k - 1, by omega⟩
    simp only [spinetref24_Sound.l0]
    rw [if_neg (by omega), List.drop_of_length_le (by omega)]
    simp [so, la]
  | succ d ih =>
    intro k i m acc hi hk ha hm
    obtain ⟨k, rfl⟩ : ∃ m, k = m + 1 := ⟨k - 1, by omega⟩
    simp only [spinetref24_Sound.l0]
    have hlt : i < xs.length := by omega
    have hx := hw _ (rd_mem hlt)
    have hr := nx_range (rd xs i) m
    rw [if_pos (by omega), if_pos (by omega), ref_next hx hm k (by omega)]
    simp only [Option.bind_some]
    rw [ref_sat k (by omega)]
    simp only [Option.bind_some]
    rw [if_pos (by omega), step64 hlt (by omega), ih k (i + 1) _ _ (by omega) (by omega) (by simp; omega) (nx_i32 _ _), rd_drop hlt, List.append_assoc]
    have e16 : st (nx (rd xs i) m) (min (max (16 : Int) 1) 63).toNat = c16 (nx (rd xs i) m) := rfl
    rw [e16]
    rfl
theorem sound_is (xs : List Int) (hn : xs.length ≤ 17592186044416) (hw : ∀ x ∈ xs, I32 x) (m : Int) (hm : I32 m) (k : Nat) (hk : xs.length + 64 < k) : spinetref24_Sound.f k xs m = some (so xs m, la xs m) := by
  have := sound_loop xs hn hw xs.length k 0 m [] (by omega) hk rfl hm
  simp only [List.drop, List.nil_append] at this
  exact this

theorem set_here (j n : Nat) (h : j < n) : (List.replicate j (7 : Int) ++ List.replicate (n - j) 0).set j 7 = List.replicate (j + 1) 7 ++ List.replicate (n - (j + 1)) 0 := by
  obtain ⟨d, rfl⟩ : ∃ d, n = j + 1 + d := ⟨n - (j + 1), by omega⟩
  rw [show j + 1 + d - j = d + 1 by omega, show j + 1 + d - (j + 1) = d by omega, List.set_append_right _ _ (by simp), List.length_replicate, Nat.sub_self, List.replicate_succ (n := d), List.replicate_succ' (n := j), List.append_assoc]
  rfl
theorem awake_any (w : World) : Calls Try.prog 8 #[] w fun e w' => e = .returned (.bool true) ∧ Below w.heap.size w w' :=
  spinetlaw24_awake.calls 3 true w (by decide +kernel)
set_option maxHeartbeats 4000000 in
set_option maxRecDepth 100000 in
theorem writes_walk (A0 : Option Addr) (c0 : Nat) (xs : List Int) (m a s : Int) (w : World) (hr : Kd.C (Kd.int .i32) w A0 xs.length xs) (hc : xs.length ≤ c0) (hn : xs.length ≤ 200) 
    (n : Nat) (hn3 : n < 300) (hN : (wrap64 (a.tmod 300 + 300)).tmod 300 = (n : Int)) (e : Nat) (he : (if s < 1 then 1 else s) = (e : Int)) (he1 : 1 ≤ (e : Int)) (k : Nat) (so_ O : List Int) (la_ : Int) (hm : I32 la_)
    (hO : O.length = n) (hI : emph_Into.f k (List.replicate n 7) s xs m = some (la_, O)) (hW : spinetlaw18_Wide.f k xs = some xs) (hS : spinetref24_Sound.f k xs m = some (so_, la_))
    (hm0 : -2147483648 ≤ m) (hm1 : m ≤ 2147483647) (hso : so_.length = xs.length) (h16 : ∀ y ∈ O, -32768 ≤ y ∧ y ≤ 32767) (hY : ∀ i : Nat, i < n → (i % e = 0 → i / e < so_.length → rd O i = rd so_ (i / e : Nat)) ∧ (¬(i % e = 0 ∧ i / e < so_.length) → rd O i = 7)) :
    Calls Try.prog 7 #[.slice A0 xs.length c0, .int .i32 m, .agg #[.int .i64 a, .int .i64 s]] w fun e w' => e = .returned (.bool true) ∧ Below w.heap.size w w' := by
  have HR := Aside0.mk hr
  have HC := Aside0.mk hc
  have HB := Aside0.mk (below_alloc (Below.refl w.heap.size w) (Obj.cells #[Value.int IntKind.i64 a, Value.int IntKind.i64 s] 39))
  have hn' : (xs.length : Int) ≤ 200 := by omega
  have hc0 : (w.alloc (Obj.cells #[Value.int IntKind.i64 a, Value.int IntKind.i64 s] 39)).cell? ⟨w.heap.size, 0, none⟩ = some (.int .i64 a) := by simp
  have hc1 : (w.alloc (Obj.cells #[Value.int IntKind.i64 a, Value.int IntKind.i64 s] 39)).cell? ⟨w.heap.size, 1, none⟩ = some (.int .i64 s) := by simp
  clear hr
  go_enter Try.func7, Try.ntmps7
  go_wp2_with (first | (go_at_call 8; (with_reducible refine (awake_any _).mono ?_); rintro e w1 ⟨rfl, hb⟩; have n0 := Aside0.mk (below_step HB.out hb); clear HB; have HB := n0; clear n0; have m0 := pw_cell_below hb hc0; have m1 := pw_cell_below hb hc1; clear hc0 hc1 hb; have hc0 := m0; have hc1 := m1; clear m0 m1))
  have hmk := print_make (P := Try.prog) 26 34 .i16 2 Try.underlying26 (by kernel_rfl) (by decide) n (by omega)
  have HI := Aside0.mk hI
  have HW := Aside0.mk hW
  have HS := Aside0.mk hS
  have HO := Aside0.mk hO
  have HSO := Aside0.mk hso
  have H16 := Aside0.mk h16
  have HY := Aside0.mk hY
  have HM := Aside0.mk hm
  have hn0 : (n : Int) < 300 := by omega
  obtain ⟨hl0, hl1⟩ := HM.out
  clear hI hW hS hO hso h16 hY hm
  go_quiet (fail)
  go_wp2_with fail
  have hg : w.heap.size < w1.heap.size := World.block_lt_of_cell? w1 _ hc0
  have HR9 := Aside0.mk (show Kd.R (Kd.int .i16) 34 ((w1.drewN nq).alloc (Obj.cells (madeCells #[Value.int .i16 0] n) 34)) w.heap.size (fun k => k = w1.heap.size) (.slice (some ⟨w1.heap.size, 0, none⟩) n n) (List.replicate n 0) from Kd.R_of_own (enc := Value.int .i16) (h1 := fun _ => rfl) (e := 34) (base := w.heap.size) (ok := fun k => k = w1.heap.size) (xs := List.replicate n 0) (by have := own_made (w1.drewN nq) w.heap.size 34 .i16 n (by simp; omega) (by omega); simpa [encs, nums] using this) (by simp [Value.ownBlock]))
  have HBn := Aside0.mk (below_alloc (pw_below_drewN HB.out nq) (Obj.cells (madeCells #[Value.int .i16 0] n) 34))
  clear HB hmk hc0 hc1
  go_loopw [33] (fun i wr => ∃ j : Nat, j ≤ n ∧ i = .int .i64 j ∧ Aside0 (Kd.R (Kd.int .i16) 34 wr w.heap.size (fun k => k = w1.heap.size) (.slice (some ⟨w1.heap.size, 0, none⟩) n n) (List.replicate j 7 ++ List.replicate (n - j) 0)) ∧ Aside0 (Below w.heap.size w wr)) (fun i _ => n - (intOf i).toNat)
  case atStart => exact ⟨0, by omega, rfl, ⟨by simpa using HR9.out⟩, HBn⟩
  case round =>
    obtain ⟨j, hj, rfl, HRj, HBj⟩ := hrel
    clear HR9 HBn
    by_cases hlt : j < n
    · have hlen : (List.replicate j (7 : Int) ++ List.replicate (n - j) 0).length = n := by simp; omega
      have hown := Kd.own_of_R HRj.out
      rw [hlen] at hown
      obtain ⟨hcell, hfz⟩ := own_at (k := .i16) (xs := List.replicate j (7 : Int) ++ List.replicate (n - j) 0) hown (j : Int) (by omega) (by omega)
      rw [Int.toNat_natCast] at hcell hfz
      have hp := Kd.R_putg (enc := Value.int .i16) (h1 := fun _ => rfl) HRj.out (j : Int) 7
      rw [Int.toNat_natCast, set_here j n hlt] at hp
      have HRn := Aside0.mk hp.1
      have HBk := Aside0.mk (HBj.out.setCell (p := ⟨w1.heap.size, j, none⟩) (by show w.heap.size ≤ w1.heap.size; omega) (.int .i16 7))
      have hj0 : (0 : Int) ≤ j := by omega
      have hj1 : (j : Int) < n := by omega
      clear hp hown hlen HRj HBj
      go_wp2
      go_roundw
      case rel => exact ⟨j + 1, by omega, by go_num, HRn, HBk⟩
      case measure => simp [intOf]; omega
    · obtain rfl : j = n := by omega
      have HRf := Aside0.mk (show Kd.R (Kd.int .i16) 34 wr w.heap.size (fun k => k = w1.heap.size) (.slice (some ⟨w1.heap.size, 0, none⟩) j j) (List.replicate j 7) by simpa using HRj.out)
      clear HRj hj hlt
      have hRW : ∀ W', Kept wr W' (fun k => k = w1.heap.size) → Kd.C (Kd.int .i32) W' A0 xs.length xs := Kd.C_kept_came (Kd.heap_int .i32) HR.out HBj.out (fun k hk => by rw [hk]; omega)
      have HRW := Aside0.mk hRW
      clear hRW
      go_wp2_with (first | (go_at_call 16; (with_reducible refine (emph_Into.calls k (fun k => k = w1.heap.size) _ _ _ _ _ _ _ _ _ w _ HBj.out HRf.out HRW.out HC.out HI.out).mono ?_); rintro e w2 ⟨rfl, hR2, hB2, hK2⟩; have HO2 := Aside0.mk hR2; have HB2 := Aside0.mk hB2; clear hR2 hB2 hK2 HRf HBj HRW) | (go_at_call 9; (with_reducible refine (spinetlaw18_Wide.calls k A0 c0 xs xs _ (Kd.C_below HR.out HB2.out) HC.out HW.out).mono ?_); rintro e w3 ⟨vw, rfl, hw3, hb⟩; obtain ⟨Aw, cw, ew⟩ := Kd.R_slice hw3; subst ew; have HW3 := Aside0.mk (Kd.R_reads' hw3).2; have n0 := Aside0.mk (Kd.R_below HO2.out hb); have n1 := Aside0.mk (below_step HB2.out hb); clear HO2 HB2 hb hw3; have HO2 := n0; have HB2 := n1; clear n0 n1) | (go_at_call 11; (with_reducible refine (spinetref24_Sound.calls k Aw cw xs m so_ la_ _ HW3.out.2 HW3.out.1 HS.out).mono ?_); rintro e w4 ⟨vs, rfl, hs4, hb⟩; obtain ⟨As, cs_, es⟩ := Kd.R_slice hs4; subst es; have HS4 := Aside0.mk (Kd.R_reads' hs4).2; have n0 := Aside0.mk (Kd.R_below HO2.out hb); have n1 := Aside0.mk (below_step HB2.out hb); clear HO2 HB2 hb hs4 HW3; have HO2 := n0; have HB2 := n1; clear n0 n1))
      go_loop [61] (fun i => ∃ q : Nat, q ≤ j ∧ i = .int .i64 q) (fun i => j - (intOf i).toNat)
      case atStart => exact ⟨0, by omega, rfl⟩
      case round =>
        obtain ⟨q, hq, rfl⟩ := hrel
        by_cases hlt : q < j
        · have hlenO := HO.out
          have hown := Kd.own_of_R HO2.out
          obtain ⟨hcell, _⟩ := own_at (k := .i16) (xs := O) (by rw [hlenO] at hown; exact hown) (q : Int) (by omega) (by omega)
          rw [Int.toNat_natCast] at hcell
          have hmem := H16.out (rd O q) (rd_mem (by omega))
          obtain ⟨y1, y2⟩ := HY.out q hlt
          have hq0 : (0 : Int) ≤ q := by omega
          have hq1 : (q : Int) < j := by omega
          have hr : (q : Int) % (e : Int) = ((q % e : Nat) : Int) := by simp
          have ht : (q : Int) / (e : Int) = ((q / e : Nat) : Int) := by simp
          obtain ⟨V, hV⟩ : ∃ V : Int, rd O q = V := ⟨_, rfl⟩
          rw [hV] at hcell hmem y1 y2
          obtain ⟨v0, v1⟩ := hmem
          by_cases hz : q % e = 0
          · by_cases hs : q / e < so_.length
            · have hVe := y1 hz hs
              have hdle := Nat.div_le_self q e
              obtain ⟨d, hd⟩ : ∃ d : Nat, q / e = d := ⟨_, rfl⟩
              rw [hd] at ht hVe hs hdle
              obtain ⟨ad, hAs, hc2⟩ := Kd.at_int HS4.out.2 (d : Int) (by omega) (by omega)
              cases hAs
              rw [Int.toNat_natCast, ← hVe] at hc2
              rw [hz] at hr
              have hd0 : (0 : Int) ≤ d := by omega
              have hd1 : (d : Int) < so_.length := by omega
              have hd2 : (d : Int) ≤ 300 := by omega
              clear y1 y2 hVe hV hown hlenO hz hd
              go_wp2
              go_round
              case rel => exact ⟨q + 1, by omega, by go_num⟩
              case measure => simp [intOf]; omega
            · have hVe := y2 (fun h => hs h.2)
              subst hVe
              rw [hz] at hr
              have hdle := Nat.div_le_self q e
              obtain ⟨d, hd⟩ : ∃ d : Nat, q / e = d := ⟨_, rfl⟩
              rw [hd] at ht hs hdle
              have hd0 : (0 : Int) ≤ d := by omega
              have hd1 : (so_.length : Int) ≤ d := by omega
              have hd2 : (d : Int) ≤ 300 := by omega
              clear y1 y2 hV hown hlenO hz hd
              go_wp2
              go_round
              case rel => exact ⟨q + 1, by omega, by go_num⟩
              case measure => simp [intOf]; omega
          · have hVe := y2 (fun h => hz h.1)
            subst hVe
            obtain ⟨d, hd⟩ : ∃ d : Nat, q % e = d := ⟨_, rfl⟩
            rw [hd] at hr hz
            have hdz : ((d : Int) == 0) = false := by simp; omega
            clear y1 y2 hV hown hlenO ht hz hd
            go_wp2
            go_round
            case rel => exact ⟨q + 1, by omega, by go_num⟩
            case measure => simp [intOf]; omega
        · obtain rfl : q = j := by omega
          go_wp2
          go_ret
          exact ⟨rfl, HB2.out⟩
theorem so_append : ∀ (xs ys : List Int) (m : Int), so (xs ++ ys) m = so xs m ++ so ys (la xs m)
  | [], _, _ => rfl
  | x :: r, ys, m => by rw [List.cons_append, so, so, so_append r, la]; rfl
theorem la_append : ∀ (xs ys : List Int) (m : Int), la (xs ++ ys) m = la ys (la xs m)
  | [], _, _ => rfl
  | x :: r, ys, m => by rw [List.cons_append, la, la_append r, la]
theorem la_step (xs : List Int) (m : Int) (i : Nat) (h : i < xs.length) : la (xs.take (i + 1)) m = nx (rd xs i) (la (xs.take i) m) := by
  rw [List.take_succ_eq_append_getElem h, la_append]
  have : rd xs i = xs[i] := by unfold rd; rw [Int.toNat_natCast, List.getD_eq_getElem?_getD, List.getElem?_eq_getElem h]; rfl
  rw [this]; rfl
theorem so_step (xs : List Int) (m : Int) (i : Nat) (h : i < xs.length) : rd (so xs m) i = c16 (nx (rd xs i) (la (xs.take i) m)) := by
  have e : so xs m = so (xs.take i) m ++ so (xs.drop i) (la (xs.take i) m) := by rw [← so_append, List.take_append_drop]
  have hl : (so (xs.take i) m).length = i := by rw [so_length, List.length_take]; omega
  rw [e, rd_drop h]
  unfold rd
  rw [Int.toNat_natCast, List.getD_eq_getElem?_getD, List.getElem?_append_right (by omega), hl, Nat.sub_self]
  rfl
theorem rd_set (O : List Int) (A q : Nat) (y : Int) (hA : A < O.length) : rd (O.set A y) q = if q = A then y else rd O q := by
  unfold rd
  rw [Int.toNat_natCast, List.getD_eq_getElem?_getD, List.getD_eq_getElem?_getD, List.getElem?_set]
  by_cases h : A = q
  · subst h; simp [hA]
  · rw [if_neg h, if_neg (fun e => h e.symm)]
/-- What stands at place q, when i sounds are written at every e-th place. -/
def Stands (S O : List Int) (n e i : Nat) : Prop := ∀ q : Nat, q < n → (q % e = 0 ∧ q / e < i → rd O q = rd S (q / e : Nat)) ∧ (¬(q % e = 0 ∧ q / e < i) → rd O q = 7)
theorem into_loop (xs : List Int) (m : Int) (hn : xs.length ≤ 200) (hw : ∀ x ∈ xs, I32 x) (n e : Nat) (hn3 : n < 300) (he : 1 ≤ e) (d : Nat) : ∀ (k i A : Nat) (O : List Int), i + d = xs.length → d < k → O.length = n → A ≤ 600 → I32 (la (xs.take i) m) → (∀ y ∈ O, -32768 ≤ y ∧ y ≤ 32767) →
    Stands (so xs m) O n e i → (A = i * min e n ∨ (n ≤ A ∧ n ≤ i * min e n)) →
    ∃ O', emph_Into.l0 k O e (la (xs.take i) m) A xs xs.length i = some (la xs m, O') ∧ O'.length = n ∧ (∀ y ∈ O', -32768 ≤ y ∧ y ≤ 32767) ∧ Stands (so xs m) O' n e xs.length := by
  induction d with
  | zero =>
    intro k i A O hi hk hO hA hM h16 hS hAt
    obtain ⟨k, rfl⟩ : ∃ m, k = m + 1 := ⟨k - 1, by omega⟩
    obtain rfl : i = xs.length := by omega
    refine ⟨O, ?_, hO, h16, hS⟩
    simp only [emph_Into.l0]
    rw [if_neg (by omega), List.take_length]
  | succ d ih =>
    intro k i A O hi hk hO hA hM h16 hS hAt
    obtain ⟨k, rfl⟩ : ∃ m, k = m + 1 := ⟨k - 1, by omega⟩
    have hlt : i < xs.length := by omega
    have hx := hw _ (rd_mem hlt)
    have hr := nx_range (rd xs i) (la (xs.take i) m)
    have hM' : I32 (la (xs.take (i + 1)) m) := by rw [la_step xs m i hlt]; exact nx_i32 _ _
    have hmul : (i + 1) * min e n = i * min e n + min e n := Nat.succ_mul _ _
    simp only [emph_Into.l0]
    rw [if_pos (by omega), if_pos (by omega), if_pos (by omega), next_is hx hM]
    simp only [Option.bind_some]
    rw [hO, step64 hlt (by omega), ← la_step xs m i hlt]
    by_cases hlo : A < n
    · have hAi : A = i * min e n := by rcases hAt with h | h <;> omega
      have e16 : fix_Sat16.f (wrap64 (la (xs.take (i + 1)) m)) = some (rd (so xs m) i) := by
        unfold I32 at hM'
        rw [so_step xs m i hlt, ← la_step xs m i hlt]
        unfold fix_Sat16.f c16; rw [mx_eq, mn_eq, w64 (by omega) (by omega)]
      have ew : wrap64 ((A : Int) + mn e n) = ((A + min e n : Nat) : Int) := by rw [mn_eq, w64 (by omega) (by omega)]; omega
      rw [if_pos (by omega), e16]
      simp only [Option.bind_some]
      rw [if_pos (by omega), ew, Int.toNat_natCast]
      have hkey : ∀ q : Nat, q < n → (q % e = 0 ∧ q / e = i ↔ q = A) := by
        intro q hq
        have hde := Nat.div_add_mod q e
        by_cases hen : e ≤ n
        · have hmin : min e n = e := by omega
          rw [hmin] at hAi
          constructor
          · rintro ⟨h1, h2⟩
            rw [h1, h2, Nat.mul_comm] at hde
            omega
          · intro h
            rw [h, hAi]
            exact ⟨Nat.mul_mod_left _ _, Nat.mul_div_cancel _ (by omega)⟩
        · have hmin : min e n = n := by omega
          rw [hmin] at hAi
          have hi0 : i = 0 := by
            rcases Nat.eq_zero_or_pos i with h | h
            · exact h
            · have := Nat.le_mul_of_pos_left n h
              omega
          have hqe : q / e = 0 := Nat.div_eq_of_lt (by omega)
          have hqm : q % e = q := Nat.mod_eq_of_lt (by omega)
          rw [hqe, hqm, hi0]
          rw [hi0] at hAi
          omega
      refine ih k (i + 1) (A + min e n) _ (by omega) (by omega) (by simp [hO]) (by omega) hM' ?_ ?_ ?_
      · intro y hy
        rcases List.mem_or_eq_of_mem_set hy with h | h
        · exact h16 y h
        · rw [h, so_step xs m i hlt]; unfold c16; omega
      · intro q hq
        obtain ⟨s1, s2⟩ := hS q hq
        have hk2 := hkey q hq
        rw [rd_set O A q _ (by omega)]
        by_cases hqA : q = A
        · obtain ⟨h1, h2⟩ := hk2.2 hqA
          rw [if_pos hqA]
          exact ⟨fun _ => by rw [h2], fun h => absurd ⟨h1, by omega⟩ h⟩
        · rw [if_neg hqA]
          have hne : ¬(q % e = 0 ∧ q / e = i) := fun h => hqA (hk2.1 h)
          exact ⟨fun h => s1 ⟨h.1, by omega⟩, fun h => s2 (fun h2 => h ⟨h2.1, by omega⟩)⟩
      · left; rw [hmul, hAi]
    · rw [if_neg (by omega)]
      have hge : n ≤ i * min e n := by rcases hAt with h | h <;> omega
      refine ih k (i + 1) A O (by omega) (by omega) hO hA hM' h16 ?_ ?_
      · intro q hq
        obtain ⟨s1, s2⟩ := hS q hq
        have hne : ¬(q % e = 0 ∧ q / e = i) := by
          rintro ⟨h1, h2⟩
          have hde := Nat.div_add_mod q e
          rw [h1, h2, Nat.mul_comm] at hde
          have := Nat.mul_le_mul_left i (Nat.min_le_left e n)
          omega
        exact ⟨fun h => s1 ⟨h.1, by omega⟩, fun h => s2 (fun h2 => h ⟨h2.1, by omega⟩)⟩
      · right; omega
theorem into_is (xs : List Int) (m s : Int) (hn : xs.length ≤ 200) (hw : ∀ x ∈ xs, I32 x) (hm : I32 m) (n e : Nat) (hn3 : n < 300) (he1 : 1 ≤ e) (he : (if s < 1 then 1 else s) = (e : Int)) :
    ∃ O', emph_Into.f 300 (List.replicate n 7) s xs m = some (la xs m, O') ∧ O'.length = n ∧ (∀ y ∈ O', -32768 ≤ y ∧ y ≤ 32767) ∧ Stands (so xs m) O' n e xs.length := by
  unfold emph_Into.f
  have hmx : mx s 1 = (e : Int) := he
  rw [hmx]
  have h7 : ∀ q : Nat, q < n → rd (List.replicate n (7 : Int)) q = 7 := by
    intro q hq
    unfold rd
    rw [Int.toNat_natCast, List.getD_eq_getElem?_getD, List.getElem?_replicate, if_pos hq]; rfl
  exact into_loop xs m hn hw n e hn3 he1 xs.length 300 0 0 (List.replicate n 7) (by omega) (by omega) (by simp) (by omega) (by simpa [la] using hm)
    (fun y hy => by rw [(List.mem_replicate.1 hy).2]; omega) (fun q hq => ⟨fun h => absurd h.2 (Nat.not_lt_zero _), fun _ => h7 q hq⟩) (.inl (by simp))
theorem writes_any (A0 : Option Addr) (c0 : Nat) (xs : List Int) (m a s : Int) (w : World) (hr : Kd.C (Kd.int .i32) w A0 xs.length xs) (hc : xs.length ≤ c0) (hmax : xs.length ≤ maxLen) (hw : ∀ x ∈ xs, I32 x) (hm : I32 m) (ha0 : -9223372036854775808 ≤ a) (ha1 : a ≤ 9223372036854775807) :
    Calls Try.prog 7 #[.slice A0 xs.length c0, .int .i32 m, .agg #[.int .i64 a, .int .i64 s]] w fun e w' => e = .returned (.bool true) ∧ Below w.heap.size w w' := by
  by_cases hn : xs.length ≤ 200
  · have t1 : a.tmod 300 < 300 := Int.tmod_lt_of_pos a (by decide)
    have t2 : -300 < a.tmod 300 := Int.lt_tmod_of_pos a (by decide)
    obtain ⟨n, hN, hn3⟩ : ∃ n : Nat, (wrap64 (a.tmod 300 + 300)).tmod 300 = (n : Int) ∧ n < 300 := by
      rw [w64 (by omega) (by omega), Int.tmod_eq_emod_of_nonneg (by omega)]
      exact ⟨((a.tmod 300 + 300) % 300).toNat, by omega, by omega⟩
    obtain ⟨e, he, he1⟩ : ∃ e : Nat, (if s < 1 then 1 else s) = (e : Int) ∧ 1 ≤ (e : Int) := ⟨(if s < 1 then 1 else s).toNat, by split <;> omega, by split <;> omega⟩
    obtain ⟨O, hI, hO, h16, hY⟩ := into_is xs m s hn hw hm n e hn3 (by omega) he
    have hm' := hm
    obtain ⟨hm0, hm1⟩ := hm'
    refine writes_walk A0 c0 xs m a s w hr hc hn n hn3 hN e he he1 300 (so xs m) O (la xs m) (la_i32 xs m hm) hO hI (wide_is xs (by omega) hw 300 (by omega)) (sound_is xs (by omega) hw m hm 300 (by omega)) hm0 hm1 (so_length xs m) h16 ?_
    intro i hi
    obtain ⟨y1, y2⟩ := hY i hi
    rw [so_length]
    exact ⟨fun h1 h2 => y1 ⟨h1, h2⟩, y2⟩
  · have hn' : (200 : Int) < (xs.length : Int) := by omega
    unfold maxLen at hmax
    have HB := Aside0.mk (below_alloc (Below.refl w.heap.size w) (Obj.cells #[Value.int IntKind.i64 a, Value.int IntKind.i64 s] 39))
    clear hr hw hm hn
    go_enter Try.func7, Try.ntmps7
    go_wp2_with (first | (go_at_call 8; (with_reducible refine (awake_any _).mono ?_); rintro e w1 ⟨rfl, hb⟩; have n0 := Aside0.mk (below_step HB.out hb); clear HB hb; have HB := n0; clear n0))
    go_ret
    exact ⟨rfl, HB.out⟩
theorem writes_row (a0 : Option Addr) (len0 cap0 : Nat) (z0 : List Int) (a1 x0 x1 : Int) (w : World) (w0 : (a0 = none ∧ len0 = 0 ∧ cap0 = 0 ∧ z0 = []) ∨ ∃ x, a0 = some x ∧ len0 ≤ cap0 ∧ cap0 ≤ maxLen ∧ z0.length = cap0 ∧ (∀ i, i < z0.length → w.cell? (x.add i) = some (.int .i32 (z0.getD i 0))) ∧ ∀ n ∈ z0, (Lit.int .i32 n).wf = true)
    (w1 : (Lit.int .i32 a1).wf = true) (w2 : (Lit.int .i64 x0).wf = true) :
    Calls Try.prog 7 #[.slice a0 len0 cap0, .int .i32 a1, .agg #[.int .i64 x0, .int .i64 x1]] w fun e w' => e = .returned (.bool true) ∧ Below w.heap.size w w' := by
  obtain ⟨l0, rfl, hr0, hm0, hw0, hc0⟩ := ReadsInt.ofRowC w0
  exact writes_any a0 cap0 l0 a1 x0 x1 w (Kd.C_of_reads (d := (0 : Int)) (h1 := fun _ => rfl) hr0) hc0 hm0 (fun x h => wf_i32 (hw0 x h)) (wf_i32 w1) (wf_i64 w2).1 (wf_i64 w2).2
end Go.Proofs.Ytcmkejlkcfhklaa.Writes
