import Derived.Test.YtgjanpbpggblmaaDoorSpreadIn
import Derived.Test.YtgjanpbpggblmaaDoorPSpreadTellsx3
import Derived.Test.YtgjanpbpggblmaaDoorMath
namespace Go.Proofs.YtgjanpbpggblmaaDoor.SpreadPlain
open Go.RowKit Go.Proofs.YtgjanpbpggblmaaDoor.PSpreadTells Go.Proofs.YtgjanpbpggblmaaDoorW.PrintWords Go.Proofs.YtgjanpbpggblmaaDoorW.PrintLast Go.Proofs.YtgjanpbpggblmaaDoorW.PrintMore
open Go.Proofs.YtgjanpbpggblmaaDoor.Math
open Go.Proofs.YtgjanpbpggblmaaDoor.Spread (tn ta tb s32 rnd_is tn_len upw dnw upw_len dnw_len sp sp_len co si row)
set_option linter.unusedVariables false
set_option linter.unusedSimpArgs false
theorem round_is {x s : Int} (h0 : -9223372036854775808 ≤ x) (h1 : x ≤ 9223372036854775807) : fix_Round.f x s = some (rnd x s) := by
  unfold fix_Round.f rnd
  by_cases hs : s ≤ 0
  · rw [if_pos hs, if_pos hs]
  rw [if_neg hs, if_neg hs, mn_eq]
  obtain ⟨n, hn⟩ : ∃ n : Nat, min s 62 = n := ⟨(min s 62).toNat, by omega⟩
  rw [hn]
  have e1 : wrap64 ((n : Int) - 1) = ((n - 1 : Nat) : Int) := by rw [w64 (by omega) (by omega)]; omega
  rw [if_pos (by omega), e1, if_pos (by omega), Int.toNat_natCast]
  have e2 : shr .i64 x ((n - 1 : Nat) : Int) = x / 2 ^ (n - 1) := by
    unfold shr
    have : min ((n - 1 : Nat) : Int).toNat IntKind.i64.bits = n - 1 := by simp [IntKind.bits]; omega
    rw [this]
  have e3 : bits .and .i64 (x / 2 ^ (n - 1)) 1 = x / 2 ^ (n - 1) % 2 := and_i64 _ 1 (by decide)
  rw [e2, e3]
  have hr := rn_range h0 h1 (n := n) (by omega)
  unfold rn at hr
  rw [w64 hr.2.2.1 hr.2.2.2]
  rfl
theorem pow_loop (n : Nat) (hn : n ≤ 62) (d : Nat) : ∀ (k : Nat) (j : Nat), j + d = n → d < k → spinetref01_Pow.l0 k n (2 ^ j) j = some (2 ^ n) := by
  induction d with
  | zero =>
    intro k j hj hk
    obtain ⟨k, rfl⟩ : ∃ m, k = m + 1 := ⟨k - 1, by omega⟩
    obtain rfl : j = n := by omega
    simp only [spinetref01_Pow.l0]
    rw [if_neg (by omega)]
  | succ d ih =>
    intro k j hj hk
    obtain ⟨k, rfl⟩ : ∃ m, k = m + 1 := ⟨k - 1, by omega⟩
    simp only [spinetref01_Pow.l0]
    have e1 : wrap64 ((j : Int) + 1) = ((j + 1 : Nat) : Int) := by rw [w64 (by omega) (by omega)]; omega
    have hle : (2 : Int) ^ (j + 1) ≤ 4611686018427387904 := pow_le_62 (by omega)
    have hp : (0 : Int) < 2 ^ (j + 1) := Int.pow_pos (by decide)
    have e2 : wrap64 ((2 : Int) ^ j * 2) = 2 ^ (j + 1) := by rw [← Int.pow_succ, w64 (by omega) (by omega)]
    rw [if_pos (by omega), e1, e2]
    exact ih k (j + 1) (by omega) (by omega)
theorem pow_is (n : Nat) (hn : n ≤ 62) (k : Nat) (hk : 63 < k) : spinetref01_Pow.f k n = some (2 ^ n) :=
  pow_loop n hn n k 0 (by omega) (by omega)
theorem ref_sat {x n : Int} (k : Nat) (hk : 63 < k) : spinetref01_Sat.f k x n = some (st x (min (max n 1) 63).toNat) := by
  unfold spinetref01_Sat.f spinetref01_Bits.f
  obtain ⟨m, hm⟩ : ∃ m : Nat, min (max n 1) 63 = m := ⟨(min (max n 1) 63).toNat, by omega⟩
  have e : spinetref01_Held.f n 1 63 = some (m : Int) := by
    unfold spinetref01_Held.f
    rw [← hm]
    (repeat' split) <;> (congr 1; omega)
  rw [e, hm, Int.toNat_natCast]
  simp only [Option.bind_some]
  have e1 : wrap64 ((m : Int) - 1) = ((m - 1 : Nat) : Int) := by rw [w64 (by omega) (by omega)]; omega
  rw [e1, pow_is (m - 1) (by omega) k hk]
  simp only [Option.bind_some]
  have hle : (2 : Int) ^ (m - 1) ≤ 4611686018427387904 := pow_le_62 (by omega)
  have hp : (0 : Int) < 2 ^ (m - 1) := Int.pow_pos (by decide)
  rw [w64 (n := -(2 ^ (m - 1))) (by omega) (by omega), w64 (by omega) (by omega)]
  unfold spinetref01_Held.f st
  (repeat' split) <;> (simp only [Option.bind_some]; congr 1; omega)
theorem floor_is (x p : Int) (hp : 0 < p) (h0 : -9223372036854775808 ≤ x / p) (h1 : x / p ≤ 9223372036854775807) : spinetref01_Floor.f x p = some (x / p) := by
  unfold spinetref01_Floor.f
  rw [if_neg (by omega)]
  by_cases hx : 0 ≤ x
  · rw [Int.tmod_eq_emod_of_nonneg hx, Int.tdiv_eq_ediv_of_nonneg hx, if_neg (by have := Int.emod_nonneg x (by omega : p ≠ 0); omega), w64 h0 h1]
  · have e1 := Int.tdiv_eq_ediv (a := x) (b := p)
    have e2 := Int.tmod_eq_emod (a := x) (b := p)
    have hs : Int.sign p = 1 := Int.sign_eq_one_of_pos hp
    have hm := Int.emod_nonneg x (by omega : p ≠ 0)
    have hm2 := Int.emod_lt_of_pos x hp
    by_cases hd : p ∣ x
    · rw [if_pos (Or.inr hd)] at e1 e2
      have hz := Int.emod_eq_zero_of_dvd hd
      rw [if_neg (by omega), e1, Int.add_zero, w64 h0 h1]
    · have hn : ¬(0 ≤ x ∨ p ∣ x) := fun h => h.elim hx hd
      rw [if_neg hn] at e1 e2
      have hz : x % p ≠ 0 := fun h => hd (Int.dvd_of_emod_eq_zero h)
      have ha : (p.natAbs : Int) = p := by omega
      rw [if_pos (by omega), e1, hs]
      congr 1
      have hneg : x / p < 0 := Int.ediv_neg_of_neg_of_pos (by omega) hp
      rw [w64 (n := x / p + 1) (by omega) (by omega), w64 (by omega) (by omega)]
      omega
theorem ref_round {x s : Int} (h0 : -9223372036854775808 ≤ x) (h1 : x ≤ 9223372036854775807) (k : Nat) (hk : 63 < k) : spinetref01_Round.f k x s = some (rnd x s) := by
  unfold spinetref01_Round.f spinetref01_Bits.f
  obtain ⟨n, hn⟩ : ∃ n : Nat, min (max s 0) 62 = n := ⟨(min (max s 0) 62).toNat, by omega⟩
  have e : spinetref01_Held.f s 0 62 = some (n : Int) := by
    unfold spinetref01_Held.f
    rw [← hn]
    (repeat' split) <;> (congr 1; omega)
  rw [e]
  simp only [Option.bind_some]
  unfold rnd
  by_cases hs : s ≤ 0
  · rw [if_pos hs, if_pos (by omega)]
  rw [if_neg hs, if_neg (by omega), pow_is n (by omega) k hk]
  simp only [Option.bind_some]
  have hp : (0 : Int) < 2 ^ n := Int.pow_pos (by decide)
  have hle : (2 : Int) ^ n ≤ 4611686018427387904 := pow_le_62 (by omega)
  have hr := rn_range h0 h1 (n := n) (by omega)
  rw [floor_is x _ hp (by omega) (by omega)]
  simp only [Option.bind_some]
  have en : (min s 62).toNat = n := by omega
  rw [en]
  obtain ⟨d1, d2⟩ := half x (n := n) (by omega)
  have hm := Int.mul_ediv_add_emod x (2 ^ n)
  have hm0 := Int.emod_nonneg x (by omega : (2 : Int) ^ n ≠ 0)
  have hm1 := Int.emod_lt_of_pos x hp
  have et : Int.tdiv (2 ^ n) 2 = 2 ^ (n - 1) := by rw [Int.tdiv_eq_ediv_of_nonneg (by omega)]; omega
  have hp1 : (0 : Int) < 2 ^ (n - 1) := Int.pow_pos (by decide)
  rw [et, w64 (n := 2 ^ (n - 1)) (by omega) (by omega)]
  have e4 : wrap64 (x - wrap64 (x / 2 ^ n * 2 ^ n)) = x % 2 ^ n := by
    rw [Int.mul_comm]
    generalize 2 ^ n * (x / 2 ^ n) = y at *
    unfold wrap64; omega
  rw [e4]
  have hbit : (x / 2 ^ (n - 1)) % 2 = if x % 2 ^ n ≥ 2 ^ (n - 1) then 1 else 0 := by
    have k1 := Int.mul_ediv_add_emod x (2 ^ (n - 1))
    have k2 := Int.emod_nonneg x (by omega : (2 : Int) ^ (n - 1) ≠ 0)
    have k3 := Int.emod_lt_of_pos x hp1
    have k4 : x % 2 ^ n = 2 ^ (n - 1) * (x / 2 ^ (n - 1) % 2) + x % 2 ^ (n - 1) := by
      have : 2 ^ n * (x / 2 ^ n) = 2 ^ (n - 1) * (2 * (x / 2 ^ (n - 1) / 2)) := by
        rw [d2, d1, Int.mul_comm 2, Int.mul_assoc]
      have k5 : x / 2 ^ (n - 1) = 2 * (x / 2 ^ (n - 1) / 2) + x / 2 ^ (n - 1) % 2 := by omega
      rw [k5, Int.mul_add] at k1
      rw [this] at hm
      have k6 : (2 * (x / 2 ^ (n - 1) / 2) + x / 2 ^ (n - 1) % 2) / 2 = x / 2 ^ (n - 1) / 2 := by omega
      have k7 : (2 * (x / 2 ^ (n - 1) / 2) + x / 2 ^ (n - 1) % 2) % 2 = x / 2 ^ (n - 1) % 2 := by omega
      omega
    rcases (by omega : x / 2 ^ (n - 1) % 2 = 0 ∨ x / 2 ^ (n - 1) % 2 = 1) with h | h
    · rw [h] at k4 ⊢
      rw [if_neg (by omega)]
    · rw [h] at k4 ⊢
      rw [if_pos (by omega)]
  unfold rn
  rw [hbit]
  split
  · rw [w64 (by omega) (by omega)]
  · rw [Int.add_zero]
/-- Numbers, as wide ones: themselves. -/
theorem wide_loop (xs : List Int) (hn : xs.length ≤ 17592186044416) (hw : ∀ x ∈ xs, -2147483648 ≤ x ∧ x ≤ 2147483647) (d : Nat) : ∀ (k i : Nat) (acc : List Int), i + d = xs.length → d < k → acc.length = i →
    spinetlaw18_Wide.l0 k acc xs xs.length i = some (acc ++ xs.drop i) := by
  induction d with
  | zero =>
    intro k i acc hi hk ha
    obtain ⟨k, rfl⟩ : ∃ m, k = m + 1 := ⟨k - 1, by omega⟩
    simp only [spinetlaw18_Wide.l0]
    rw [if_neg (by omega), List.drop_of_length_le (by omega), List.append_nil]
  | succ d ih =>
    intro k i acc hi hk ha
    obtain ⟨k, rfl⟩ : ∃ m, k = m + 1 := ⟨k - 1, by omega⟩
    simp only [spinetlaw18_Wide.l0]
    have hlt : i < xs.length := by omega
    obtain ⟨x0, x1⟩ := hw _ (rd_mem hlt)
    rw [if_pos (by omega), if_pos (by omega), if_pos (by omega), if_pos (by omega), step64 hlt (by omega), w64 (by omega) (by omega)]
    rw [ih k (i + 1) _ (by omega) (by omega) (by simp; omega), rd_drop hlt, List.append_assoc]; rfl
theorem wide_is (xs : List Int) (hn : xs.length ≤ 17592186044416) (hw : ∀ x ∈ xs, -2147483648 ≤ x ∧ x ≤ 2147483647) (k : Nat) (hk : xs.length < k) : spinetlaw18_Wide.f k xs = some xs := by
  have := wide_loop xs hn hw xs.length k 0 [] (by omega) hk rfl
  simp only [List.drop, List.nil_append] at this
  exact this
/-- A list is the same as itself. -/
theorem same18_loop (xs : List Int) (hn : xs.length ≤ 9223372036854775807) (hw : ∀ x ∈ xs, -2147483648 ≤ x ∧ x ≤ 2147483647) (d : Nat) : ∀ (k i : Nat), i + d = xs.length → d < k → spinetlaw18_Same.l0 k xs xs xs.length i = some true := by
  induction d with
  | zero =>
    intro k i hi hk
    obtain ⟨k, rfl⟩ : ∃ m, k = m + 1 := ⟨k - 1, by omega⟩
    simp only [spinetlaw18_Same.l0]
    rw [if_neg (by omega)]
  | succ d ih =>
    intro k i hi hk
    obtain ⟨k, rfl⟩ : ∃ m, k = m + 1 := ⟨k - 1, by omega⟩
    simp only [spinetlaw18_Same.l0]
    have hlt : i < xs.length := by omega
    obtain ⟨x0, x1⟩ := hw _ (rd_mem hlt)
    rw [if_pos (by omega), if_pos (by omega), if_pos (by omega), if_pos (by omega), if_pos (w64 (by omega) (by omega)), step64 hlt hn]
    exact ih k (i + 1) (by omega) (by omega)
theorem same18_is (xs : List Int) (hn : xs.length ≤ 9223372036854775807) (hw : ∀ x ∈ xs, -2147483648 ≤ x ∧ x ≤ 2147483647) (k : Nat) (hk : xs.length < k) : spinetlaw18_Same.f k xs xs = some true := by
  unfold spinetlaw18_Same.f
  rw [if_pos rfl]
  exact same18_loop xs hn hw xs.length k 0 (by omega) hk

def I32 (x : Int) : Prop := -2147483648 ≤ x ∧ x ≤ 2147483647
theorem s32_is (x : Int) : s32 x = st x 32 := by
  unfold s32 st
  rw [mn_eq, mx_eq]
  have e : (2 : Int) ^ (32 - 1) = 2147483648 := by decide
  rw [e]
  rfl
theorem s32_in (x : Int) : I32 (s32 x) := by
  unfold s32 I32
  rw [mn_eq, mx_eq]
  omega
theorem wrap_in (x : Int) : -9223372036854775808 ≤ wrap64 x ∧ wrap64 x ≤ 9223372036854775807 := by unfold wrap64; omega
theorem w32 {x : Int} (h : I32 x) : wrap64 x = x := w64 (by have := h.1; omega) (by have := h.2; omega)
theorem rnd_same (x : Int) : Spread.rnd (wrap64 x) = Math.rnd (wrap64 x) 15 := by
  have h := rnd_is (wrap64 x)
  rw [round_is (wrap_in x).1 (wrap_in x).2] at h
  exact (Option.some.inj h).symm
theorem ref_ta (k : Nat) (hk : 63 < k) (c s a b : Int) (ha : I32 a) (hb : I32 b) : (spinetref01_Round.f k (wrap64 ((wrap64 (c * a)) - (wrap64 (s * b)))) 15).bind (fun t => spinetref01_Sat.f k t 32) = some (ta c s a b) := by
  rw [ref_round (wrap_in _).1 (wrap_in _).2 k hk, Option.bind_some, ref_sat k hk]
  unfold ta
  rw [w32 ha, w32 hb, rnd_same, s32_is]
  rfl
theorem ref_tb (k : Nat) (hk : 63 < k) (c s a b : Int) (ha : I32 a) (hb : I32 b) : (spinetref01_Round.f k (wrap64 ((wrap64 (s * a)) + (wrap64 (c * b)))) 15).bind (fun t => spinetref01_Sat.f k t 32) = some (tb c s a b) := by
  rw [ref_round (wrap_in _).1 (wrap_in _).2 k hk, Option.bind_some, ref_sat k hk]
  unfold tb
  rw [w32 ha, w32 hb, rnd_same, s32_is]
  rfl
theorem bind_two {α β γ : Type} {x : Option α} {f : α → Option β} {g : β → Option γ} {r : β} (h : x.bind f = some r) : (x.bind fun t => (f t).bind g) = g r := by
  cases x with
  | none => cases h
  | some t => rw [Option.bind_some] at h ⊢; rw [h, Option.bind_some]
theorem rd_nat (xs : List Int) (j : Nat) : rd xs (j : Int) = xs.getD j 0 := by unfold rd; rw [Int.toNat_natCast]
theorem tn_at (c s : Int) (i : Nat) (xs : List Int) (hi : i + 1 < xs.length) (j : Nat) (hj : j < xs.length) :
    rd (tn c s i xs) (j : Int) = if j = i then ta c s (rd xs i) (rd xs ((i : Int) + 1)) else if j = i + 1 then tb c s (rd xs i) (rd xs ((i : Int) + 1)) else rd xs j := by
  rw [rd_nat (tn c s i xs)]
  unfold tn
  generalize ta c s (rd xs i) (rd xs ((i : Int) + 1)) = x
  generalize tb c s (rd xs i) (rd xs ((i : Int) + 1)) = y
  rw [rd_nat xs j]
  by_cases h1 : j = i
  · subst h1
    rw [if_pos rfl]
    simp [List.getD, List.getElem?_set, hj]
  · rw [if_neg h1]
    by_cases h2 : j = i + 1
    · subst h2
      rw [if_pos rfl]
      simp [List.getD, List.getElem?_set, hj]
    · rw [if_neg h2]
      simp [List.getD, List.getElem?_set, Ne.symm h1, Ne.symm h2]
theorem take_more (l : List Int) (j : Nat) (h : j < l.length) : l.take j ++ [rd l j] = l.take (j + 1) := by
  rw [List.take_add_one, rd_nat]
  congr 1
  simp [List.getD, h]
theorem turn_loop (c s : Int) (i : Nat) (xs : List Int) (hi : i + 1 < xs.length) (hl : xs.length ≤ 1000) (hw : ∀ x ∈ xs, I32 x) (d : Nat) : ∀ (k j : Nat), j + d = xs.length → d + 70 < k → spinetref18_Turn.l0 k xs i c s ((tn c s i xs).take j) j = some (tn c s i xs) := by
  have e1 : wrap64 ((i : Int) + 1) = (i : Int) + 1 := w64 (by omega) (by omega)
  have hlen : (tn c s i xs).length = xs.length := tn_len c s i xs
  have h32 : ∀ j : Nat, j < xs.length → I32 (rd xs j) := fun j hj => hw _ (rd_mem hj)
  have hb : I32 (rd xs ((i : Int) + 1)) := by have := h32 (i + 1) hi; rwa [show (((i + 1 : Nat)) : Int) = (i : Int) + 1 by omega] at this
  induction d with
  | zero =>
    intro k j hj hk
    obtain ⟨k, rfl⟩ : ∃ m, k = m + 1 := ⟨k - 1, by omega⟩
    simp only [spinetref18_Turn.l0]
    rw [if_neg (by omega), List.take_of_length_le (by omega)]
  | succ d ih =>
    intro k j hj hk
    obtain ⟨k, rfl⟩ : ∃ m, k = m + 1 := ⟨k - 1, by omega⟩
    have HAT := Aside0.mk (tn_at c s i xs hi j (by omega))
    have htl : ((tn c s i xs).take j).length < 17592186044416 := by rw [List.length_take]; omega
    have hmore := take_more (tn c s i xs) j (by omega)
    have hst : wrap64 ((j : Int) + 1) = ((j + 1 : Nat) : Int) := step64 (n := xs.length) (by omega) (by omega)
    have hih := ih k (j + 1) (by omega) (by omega)
    simp only [spinetref18_Turn.l0]
    rw [if_pos (by omega), e1, hst]
    by_cases h1 : j = i
    · rw [if_pos (by omega), if_pos (by omega), if_pos (by omega), if_pos (by omega), if_pos (by omega), bind_two (ref_ta k (by omega) c s _ _ (h32 i (by omega)) hb)]
      have hat := HAT.out
      rw [if_pos h1] at hat
      rw [if_pos htl, ← hat, hmore]
      exact hih
    · rw [if_neg (by omega)]
      by_cases h2 : j = i + 1
      · rw [if_pos (by omega), if_pos (by omega), if_pos (by omega), if_pos (by omega), if_pos (by omega), bind_two (ref_tb k (by omega) c s _ _ (h32 i (by omega)) hb)]
        have hat := HAT.out
        rw [if_neg h1, if_pos h2] at hat
        rw [if_pos htl, ← hat, hmore]
        exact hih
      · rw [if_neg (by omega), if_pos (by omega)]
        have hat := HAT.out
        rw [if_neg h1, if_neg h2] at hat
        rw [if_pos htl, ← hat, hmore]
        exact hih
theorem turn_ref (c s : Int) (i : Nat) (xs : List Int) (hi : i + 1 < xs.length) (hl : xs.length ≤ 1000) (hw : ∀ x ∈ xs, I32 x) (k : Nat) (hk : xs.length + 70 < k) : spinetref18_Turn.f k xs i c s = some (tn c s i xs) :=
  turn_loop c s i xs hi hl hw xs.length k 0 (by omega) hk
theorem tn_in (c s : Int) (i : Nat) (xs : List Int) (hw : ∀ x ∈ xs, I32 x) : ∀ x ∈ tn c s i xs, I32 x := by
  intro x hx
  unfold tn at hx
  rcases List.mem_or_eq_of_mem_set hx with h | h
  · rcases List.mem_or_eq_of_mem_set h with h | h
    · exact hw x h
    · rw [h]; exact s32_in _
  · rw [h]; exact s32_in _
theorem upw_in (c s : Int) : ∀ (d i : Nat) (xs : List Int), (∀ x ∈ xs, I32 x) → ∀ x ∈ upw c s d i xs, I32 x
  | 0, _, _, h => h
  | d + 1, i, xs, h => upw_in c s d (i + 1) _ (tn_in c s i xs h)
theorem dnw_in (c s : Int) : ∀ (m : Nat) (xs : List Int), (∀ x ∈ xs, I32 x) → ∀ x ∈ dnw c s m xs, I32 x
  | 0, _, h => h
  | m + 1, xs, h => dnw_in c s m _ (tn_in c s m xs h)
theorem sp_in (a : Int) (xs : List Int) (h : ∀ x ∈ xs, I32 x) : ∀ x ∈ sp a xs, I32 x := by
  unfold sp; split
  · exact h
  · exact dnw_in _ _ _ _ (upw_in _ _ _ _ _ h)
theorem down_loop (c s : Int) (n : Nat) (hn : n ≤ 1000) : ∀ (m k : Nat) (xs : List Int), xs.length = n → m + 1 < n ∨ m = 0 → (∀ x ∈ xs, I32 x) → m + n + 72 < k → spinetref18_Spread.l1 k xs c s ((m : Int) - 1) = some (dnw c s m xs)
  | 0, k, xs, hl, _, hw, hk => by
    obtain ⟨k, rfl⟩ : ∃ m, k = m + 1 := ⟨k - 1, by omega⟩
    simp only [spinetref18_Spread.l1]
    rw [if_neg (by omega)]
    rfl
  | m + 1, k, xs, hl, hm, hw, hk => by
    obtain ⟨k, rfl⟩ : ∃ m, k = m + 1 := ⟨k - 1, by omega⟩
    simp only [spinetref18_Spread.l1]
    have e : (((m + 1 : Nat)) : Int) - 1 = (m : Int) := by omega
    rw [e, if_pos (by omega), turn_ref c s m xs (by omega) (by omega) hw k (by omega), Option.bind_some, w64 (n := (m : Int) - 1) (by omega) (by omega)]
    exact down_loop c s n hn m k _ (by rw [tn_len]; exact hl) (by omega) (tn_in c s m xs hw) (by omega)
theorem down_none (c s : Int) (xs : List Int) (k : Nat) (j : Int) (hj : j < 0) (hk : 0 < k) : spinetref18_Spread.l1 k xs c s j = some xs := by
  obtain ⟨k, rfl⟩ : ∃ m, k = m + 1 := ⟨k - 1, by omega⟩
  simp only [spinetref18_Spread.l1]
  rw [if_neg (by omega)]
theorem up_loop (c s : Int) (n : Nat) (hn : n ≤ 1000) : ∀ (d k i : Nat) (xs : List Int), xs.length = n → i + d + 1 = n ∨ n = 0 ∧ d = 0 ∧ i = 0 → (∀ x ∈ xs, I32 x) → d + n + n + 80 < k → spinetref18_Spread.l0 k xs c s i = some (dnw c s (n - 2) (upw c s d i xs))
  | 0, k, i, xs, hl, hd, hw, hk => by
    obtain ⟨k, rfl⟩ : ∃ m, k = m + 1 := ⟨k - 1, by omega⟩
    simp only [spinetref18_Spread.l0]
    rw [w64 (n := (xs.length : Int) - 1) (by omega) (by omega), if_neg (by omega), w64 (n := (xs.length : Int) - 3) (by omega) (by omega)]
    show _ = some (dnw c s (n - 2) xs)
    by_cases h3 : 3 ≤ n
    · rw [show (xs.length : Int) - 3 = ((n - 2 : Nat) : Int) - 1 by omega]
      exact down_loop c s n hn (n - 2) k xs hl (by omega) hw (by omega)
    · rw [down_none c s xs k _ (by omega) (by omega), show n - 2 = 0 by omega]
      rfl
  | d + 1, k, i, xs, hl, hd, hw, hk => by
    obtain ⟨k, rfl⟩ : ∃ m, k = m + 1 := ⟨k - 1, by omega⟩
    simp only [spinetref18_Spread.l0]
    rw [w64 (n := (xs.length : Int) - 1) (by omega) (by omega), if_pos (by omega), turn_ref c s i xs (by omega) (by omega) hw k (by omega), Option.bind_some, w64 (n := (i : Int) + 1) (by omega) (by omega)]
    exact up_loop c s n hn d k (i + 1) _ (by rw [tn_len]; exact hl) (by omega) (tn_in c s i xs hw) (by omega)
theorem angle_ref (a : Int) : spinetref18_Angle.f a = some (co a, si a) := by
  unfold spinetref18_Angle.f co si row
  by_cases h0 : a ≤ 0
  · rw [if_pos h0, if_pos h0]; rfl
  rw [if_neg h0, if_neg h0]
  by_cases h1 : a = 1
  · rw [if_pos h1, if_pos h1]; rfl
  rw [if_neg h1, if_neg h1]
  by_cases h2 : a = 2
  · rw [if_pos h2, if_pos h2]; rfl
  rw [if_neg h2, if_neg h2]; rfl
theorem spread_ref (a : Int) (xs : List Int) (hl : xs.length ≤ 200) (hw : ∀ x ∈ xs, I32 x) : spinetref18_Spread.f 1000 xs a = some (sp a xs) := by
  unfold spinetref18_Spread.f sp
  rw [angle_ref, Option.bind_some]
  by_cases h : si a = 0
  · rw [if_pos h, if_pos h]
  · rw [if_neg h, if_neg h]
    show spinetref18_Spread.l0 1000 xs (co a) (si a) ((0 : Nat) : Int) = _
    exact up_loop (co a) (si a) xs.length (by omega) (xs.length - 1) 1000 0 xs rfl (by omega) hw (by omega)
end Go.Proofs.YtgjanpbpggblmaaDoor.SpreadPlain
