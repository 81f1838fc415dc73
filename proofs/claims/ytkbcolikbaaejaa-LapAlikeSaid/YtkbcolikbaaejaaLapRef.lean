import Derived.Test.YtkbcolikbaaejaaLapPlain2
namespace Go.Proofs.Ytkbcolikbaaejaa.LapPlain
open Go.RowKit Go.Proofs.Ytkbcolikbaaejaa.OLapTells Go.Proofs.YtkbcolikbaaejaaW.PrintWords Go.Proofs.YtkbcolikbaaejaaW.PrintLast Go.Proofs.YtkbcolikbaaejaaW.PrintMore
open Go.Proofs.Ytkbcolikbaaejaa.Math
set_option linter.unusedVariables false
set_option linter.unusedSimpArgs false
theorem pow_loop (n : Nat) (hn : n ≤ 62) (d : Nat) : ∀ (k : Nat) (j : Nat), j + d = n → d < k → spinetref01_Pow.l0 k n (2 ^ j) j = some (2 ^ n) := by
  induction d with
  | zero =>
    intro k j hj hk
    obtain ⟨k, rfl⟩ : ∃ m, k = m + 1 := ⟨k - 1, by omega⟩
    obtain rfl : j = n := by omega
    simp only [spinetref01_Pow.l0]
    rw [if_neg (by omega)]
  | succ d ih =>
    intro k j hj hk
    obtain ⟨k, rfl⟩ : ∃ m, k = m + 1 := ⟨k - 1, by omega⟩
    simp only [spinetref01_Pow.l0]
    have e1 : wrap64 ((j : Int) + 1) = ((j + 1 : Nat) : Int) := by rw [w64 (by omega) (by omega)]; omega
    have hle : (2 : Int) ^ (j + 1) ≤ 4611686018427387904 := pow_le_62 (by omega)
    have hp : (0 : Int) < 2 ^ (j + 1) := Int.pow_pos (by decide)
    have e2 : wrap64 ((2 : Int) ^ j * 2) = 2 ^ (j + 1) := by rw [← Int.pow_succ, w64 (by omega) (by omega)]
    rw [if_pos (by omega), e1, e2]
    exact ih k (j + 1) (by omega) (by omega)
theorem pow_is (n : Nat) (hn : n ≤ 62) (k : Nat) (hk : 63 < k) : spinetref01_Pow.f k n = some (2 ^ n) :=
  pow_loop n hn n k 0 (by omega) (by omega)
theorem ref_sat {x n : Int} (k : Nat) (hk : 63 < k) : spinetref01_Sat.f k x n = some (st x (min (max n 1) 63).toNat) := by
  unfold spinetref01_Sat.f spinetref01_Bits.f
  obtain ⟨m, hm⟩ : ∃ m : Nat, min (max n 1) 63 = m := ⟨(min (max n 1) 63).toNat, by omega⟩
  have e : spinetref01_Held.f n 1 63 = some (m : Int) := by
    unfold spinetref01_Held.f
    rw [← hm]
    (repeat' split) <;> (congr 1; omega)
  rw [e, hm, Int.toNat_natCast]
  simp only [Option.bind_some]
  have e1 : wrap64 ((m : Int) - 1) = ((m - 1 : Nat) : Int) := by rw [w64 (by omega) (by omega)]; omega
  rw [e1, pow_is (m - 1) (by omega) k hk]
  simp only [Option.bind_some]
  have hle : (2 : Int) ^ (m - 1) ≤ 4611686018427387904 := pow_le_62 (by omega)
  have hp : (0 : Int) < 2 ^ (m - 1) := Int.pow_pos (by decide)
  rw [w64 (n := -(2 ^ (m - 1))) (by omega) (by omega), w64 (by omega) (by omega)]
  unfold spinetref01_Held.f st
  (repeat' split) <;> (simp only [Option.bind_some]; congr 1; omega)
theorem floor_is (x p : Int) (hp : 0 < p) (h0 : -9223372036854775808 ≤ x / p) (h1 : x / p ≤ 9223372036854775807) : spinetref01_Floor.f x p = some (x / p) := by
  unfold spinetref01_Floor.f
  rw [if_neg (by omega)]
  by_cases hx : 0 ≤ x
  · rw [Int.tmod_eq_emod_of_nonneg hx, Int.tdiv_eq_ediv_of_nonneg hx, if_neg (by have := Int.emod_nonneg x (by omega : p ≠ 0); omega), w64 h0 h1]
  · have e1 := Int.tdiv_eq_ediv (a := x) (b := p)
    have e2 := Int.tmod_eq_emod (a := x) (b := p)
    have hs : Int.sign p = 1 := Int.sign_eq_one_of_pos hp
    have hm := Int.emod_nonneg x (by omega : p ≠ 0)
    have hm2 := Int.emod_lt_of_pos x hp
    by_cases hd : p ∣ x
    · rw [if_pos (Or.inr hd)] at e1 e2
      have hz := Int.emod_eq_zero_of_dvd hd
      rw [if_neg (by omega), e1, Int.add_zero, w64 h0 h1]
    · have hn : ¬(0 ≤ x ∨ p ∣ x) := fun h => h.elim hx hd
      rw [if_neg hn] at e1 e2
      have hz : x % p ≠ 0 := fun h => hd (Int.dvd_of_emod_eq_zero h)
      have ha : (p.natAbs : Int) = p := by omega
      rw [if_pos (by omega), e1, hs]
      congr 1
      have hneg : x / p < 0 := Int.ediv_neg_of_neg_of_pos (by omega) hp
      rw [w64 (n := x / p + 1) (by omega) (by omega), w64 (by omega) (by omega)]
      omega
theorem ref_round {x s : Int} (h0 : -9223372036854775808 ≤ x) (h1 : x ≤ 9223372036854775807) (k : Nat) (hk : 63 < k) : spinetref01_Round.f k x s = some (rnd x s) := by
  unfold spinetref01_Round.f spinetref01_Bits.f
  obtain ⟨n, hn⟩ : ∃ n : Nat, min (max s 0) 62 = n := ⟨(min (max s 0) 62).toNat, by omega⟩
  have e : spinetref01_Held.f s 0 62 = some (n : Int) := by
    unfold spinetref01_Held.f
    rw [← hn]
    (repeat' split) <;> (congr 1; omega)
  rw [e]
  simp only [Option.bind_some]
  unfold rnd
  by_cases hs : s ≤ 0
  · rw [if_pos hs, if_pos (by omega)]
  rw [if_neg hs, if_neg (by omega), pow_is n (by omega) k hk]
  simp only [Option.bind_some]
  have hp : (0 : Int) < 2 ^ n := Int.pow_pos (by decide)
  have hle : (2 : Int) ^ n ≤ 4611686018427387904 := pow_le_62 (by omega)
  have hr := rn_range h0 h1 (n := n) (by omega)
  rw [floor_is x _ hp (by omega) (by omega)]
  simp only [Option.bind_some]
  have en : (min s 62).toNat = n := by omega
  rw [en]
  obtain ⟨d1, d2⟩ := half x (n := n) (by omega)
  have hm := Int.mul_ediv_add_emod x (2 ^ n)
  have hm0 := Int.emod_nonneg x (by omega : (2 : Int) ^ n ≠ 0)
  have hm1 := Int.emod_lt_of_pos x hp
  have et : Int.tdiv (2 ^ n) 2 = 2 ^ (n - 1) := by rw [Int.tdiv_eq_ediv_of_nonneg (by omega)]; omega
  have hp1 : (0 : Int) < 2 ^ (n - 1) := Int.pow_pos (by decide)
  rw [et, w64 (n := 2 ^ (n - 1)) (by omega) (by omega)]
  have e4 : wrap64 (x - wrap64 (x / 2 ^ n * 2 ^ n)) = x % 2 ^ n := by
    rw [Int.mul_comm]
    generalize 2 ^ n * (x / 2 ^ n) = y at *
    unfold wrap64; omega
  rw [e4]
  have hbit : (x / 2 ^ (n - 1)) % 2 = if x % 2 ^ n ≥ 2 ^ (n - 1) then 1 else 0 := by
    have k1 := Int.mul_ediv_add_emod x (2 ^ (n - 1))
    have k2 := Int.emod_nonneg x (by omega : (2 : Int) ^ (n - 1) ≠ 0)
    have k3 := Int.emod_lt_of_pos x hp1
    have k4 : x % 2 ^ n = 2 ^ (n - 1) * (x / 2 ^ (n - 1) % 2) + x % 2 ^ (n - 1) := by
      have : 2 ^ n * (x / 2 ^ n) = 2 ^ (n - 1) * (2 * (x / 2 ^ (n - 1) / 2)) := by
        rw [d2, d1, Int.mul_comm 2, Int.mul_assoc]
      have k5 : x / 2 ^ (n - 1) = 2 * (x / 2 ^ (n - 1) / 2) + x / 2 ^ (n - 1) % 2 := by omega
      rw [k5, Int.mul_add] at k1
      rw [this] at hm
      have k6 : (2 * (x / 2 ^ (n - 1) / 2) + x / 2 ^ (n - 1) % 2) / 2 = x / 2 ^ (n - 1) / 2 := by omega
      have k7 : (2 * (x / 2 ^ (n - 1) / 2) + x / 2 ^ (n - 1) % 2) % 2 = x / 2 ^ (n - 1) % 2 := by omega
      omega
    rcases (by omega : x / 2 ^ (n - 1) % 2 = 0 ∨ x / 2 ^ (n - 1) % 2 = 1) with h | h
    · rw [h] at k4 ⊢
      rw [if_neg (by omega)]
    · rw [h] at k4 ⊢
      rw [if_pos (by omega)]
  unfold rn
  rw [hbit]
  split
  · rw [w64 (by omega) (by omega)]
  · rw [Int.add_zero]

theorem wide_loop (l : List Int) (hl : l.length ≤ 1000) (hw : ∀ x ∈ l, I32 x) : ∀ (d k i : Nat), i + d = l.length → d < k → spinetlaw18_Wide.l0 k (l.take i) l l.length i = some l
  | 0, k, i, hi, hk => by
    obtain ⟨k, rfl⟩ : ∃ m, k = m + 1 := ⟨k - 1, by omega⟩
    simp only [spinetlaw18_Wide.l0]
    rw [if_neg (by omega), List.take_of_length_le (by omega)]
  | d + 1, k, i, hi, hk => by
    obtain ⟨k, rfl⟩ : ∃ m, k = m + 1 := ⟨k - 1, by omega⟩
    have ih := wide_loop l hl hw d k (i + 1) (by omega) (by omega)
    have hx := hw _ (rd_mem (xs := l) (i := i) (by omega))
    unfold I32 at hx
    have ht : (l.take i).length < 17592186044416 := by rw [List.length_take]; omega
    have e : l.take (i + 1) = l.take i ++ [rd l i] := by
      rw [List.take_add_one, rd_nat, List.getD_eq_getElem?_getD, List.getElem?_eq_getElem (by omega)]; rfl
    simp only [spinetlaw18_Wide.l0]
    rw [if_pos (by omega), if_pos (by omega), if_pos (by omega), if_pos ht, w64 (n := rd l i) (by omega) (by omega), step64 (n := l.length) (by omega) (by omega), ← e]
    exact ih
theorem wide_fn (l : List Int) (hl : l.length ≤ 1000) (hw : ∀ x ∈ l, I32 x) : spinetlaw18_Wide.f 1001 l = some l := wide_loop l hl hw l.length 1001 0 (by omega) (by omega)
theorem same_loop (l : List Int) (hl : l.length ≤ 1000) (hw : ∀ x ∈ l, I32 x) : ∀ (d k i : Nat), i + d = l.length → d < k → spinetlaw18_Same.l0 k l l l.length i = some true
  | 0, k, i, hi, hk => by
    obtain ⟨k, rfl⟩ : ∃ m, k = m + 1 := ⟨k - 1, by omega⟩
    simp only [spinetlaw18_Same.l0]
    rw [if_neg (by omega)]
  | d + 1, k, i, hi, hk => by
    obtain ⟨k, rfl⟩ : ∃ m, k = m + 1 := ⟨k - 1, by omega⟩
    have ih := same_loop l hl hw d k (i + 1) (by omega) (by omega)
    have hx := hw _ (rd_mem (xs := l) (i := i) (by omega))
    unfold I32 at hx
    simp only [spinetlaw18_Same.l0]
    rw [if_pos (by omega), if_pos (by omega), if_pos (by omega), if_pos (by omega), w64 (n := rd l i) (by omega) (by omega), if_pos rfl, step64 (n := l.length) (by omega) (by omega)]
    exact ih
theorem same_fn (l : List Int) (hl : l.length ≤ 1000) (hw : ∀ x ∈ l, I32 x) : spinetlaw18_Same.f 1001 l l = some true := by
  unfold spinetlaw18_Same.f
  rw [if_pos rfl]
  exact same_loop l hl hw l.length 1001 0 (by omega) (by omega)
theorem u_ref (y : List Int) (ht : Th y.length) (hw : ∀ x ∈ y, I32 x) (i : Nat) (hi : i < 2 * y.length) : spinetref23_U.f y (i : Int) = some (uu y i) := by
  unfold spinetref23_U.f uu
  obtain ⟨h, hh⟩ : ∃ h, y.length = 2 * h := ⟨y.length / 2, by unfold Th at ht; omega⟩
  have hb : h ≤ 16 := by unfold Th at ht; omega
  have e1 : wrap64 ((y.length : Int) / 2) = (h : Int) := by rw [w64 (by omega) (by omega)]; omega
  rw [e1, hh, show 2 * h / 2 = h by omega, show 3 * (2 * h) / 2 = 3 * h by omega]
  have e2 : wrap64 (((2 * h : Nat) : Int) + (h : Int)) = ((3 * h : Nat) : Int) := by rw [w64 (by omega) (by omega)]; omega
  rw [e2]
  by_cases h1 : i < h
  · have e3 : wrap64 ((h : Int) + (i : Int)) = ((h + i : Nat) : Int) := by rw [w64 (by omega) (by omega)]; omega
    rw [if_pos (by omega), if_pos h1, e3, if_pos (by omega), if_pos (by omega)]
  · rw [if_neg (by omega), if_neg h1]
    by_cases h2 : i < 3 * h
    · have e3 : wrap64 (wrap64 (((3 * h : Nat) : Int) - 1) - (i : Int)) = ((3 * h - 1 - i : Nat) : Int) := by rw [w64 (n := ((3 * h : Nat) : Int) - 1) (by omega) (by omega), w64 (by omega) (by omega)]; omega
      have hx := rd_in hw (3 * h - 1 - i)
      unfold I32 at hx
      rw [if_pos (by omega), if_pos h2, e3, if_pos (by omega), if_pos (by omega), w64 (by omega) (by omega)]
    · have e3 : wrap64 (wrap64 ((i : Int) - ((2 * h : Nat) : Int)) - (h : Int)) = ((i - 3 * h : Nat) : Int) := by rw [w64 (n := (i : Int) - ((2 * h : Nat) : Int)) (by omega) (by omega), w64 (by omega) (by omega)]; omega
      have hx := rd_in hw (i - 3 * h)
      unfold I32 at hx
      rw [if_neg (by omega), if_neg h2, e3, if_pos (by omega), if_pos (by omega), w64 (by omega) (by omega)]
theorem rwin8 : ∀ i : Nat, i < 8 → spinetref23_Window.f 102 (8 : Nat) i = some (wn 8 i) := by decide +kernel
theorem rwin16 : ∀ i : Nat, i < 16 → spinetref23_Window.f 102 (16 : Nat) i = some (wn 16 i) := by decide +kernel
theorem rwin32 : ∀ i : Nat, i < 32 → spinetref23_Window.f 102 (32 : Nat) i = some (wn 32 i) := by decide +kernel
theorem rwin_ex (n i : Nat) (h : Th n) (hi : i < n) (k : Nat) (hk : 102 ≤ k) : ∃ W : Int, wn n i = W ∧ spinetref23_Window.f k (n : Int) i = some W ∧ 0 ≤ W ∧ W ≤ 32767 := by
  have h1 : spinetref23_Window.f 102 (n : Int) i = some (wn n i) := by
    rcases h with rfl | rfl | rfl
    · exact rwin8 i hi
    · exact rwin16 i hi
    · exact rwin32 i hi
  exact ⟨_, rfl, at_rounds (g := fun k => spinetref23_Window.f k n i) (fun k => spinetref23_Window.mono n i k) hk h1, (win n i h hi 100 (by omega)).2⟩
theorem rround {u w : Int} (hu : U u) (h0 : 0 ≤ w) (h1 : w ≤ 32767) (k : Nat) (hk : 63 < k) : spinetref01_Round.f k (wrap64 (u * w)) 15 = some (we u w) := by
  have hm := mul_w hu h0 h1
  rw [w64 (n := u * w) (by omega) (by omega), ref_round (by omega) (by omega) k hk, rnd15]
  rfl
theorem rs24 (x : Int) (k : Nat) (hk : 63 < k) : spinetref01_Sat.f k x 24 = some (s24 x) := by rw [ref_sat k hk]; rfl
theorem rs32 (x : Int) (k : Nat) (hk : 63 < k) : spinetref01_Sat.f k x 32 = some (s32 x) := by rw [ref_sat k hk]; rfl
theorem ref_loop (y t : List Int) (n : Nat) (hy : y.length = n) (ht : Th n) (hl : t.length = n) (hw : ∀ x ∈ y, I32 x) (hv : ∀ x ∈ t, I32 x) : ∀ (d k i : Nat), i + d = n → d + 110 < k → spinetref23_Lap.l0 k y t ((List.range i).map (ov y t)) ((List.range i).map (bv y)) n i = some ((List.range n).map (ov y t), (List.range n).map (bv y))
  | 0, k, i, hi, hk => by
    obtain ⟨k, rfl⟩ : ∃ m, k = m + 1 := ⟨k - 1, by omega⟩
    simp only [spinetref23_Lap.l0]
    rw [if_neg (by omega), show i = n by omega]
  | d + 1, k, i, hi, hk => by
    obtain ⟨k, rfl⟩ : ∃ m, k = m + 1 := ⟨k - 1, by omega⟩
    have hb : n ≤ 32 := by unfold Th at ht; omega
    have ih := ref_loop y t n hy ht hl hw hv d k (i + 1) (by omega) (by omega)
    rw [snoc, snoc] at ih
    simp only [spinetref23_Lap.l0]
    obtain ⟨W, hW, w1, w2, w3⟩ := rwin_ex n i ht (by omega) k (by omega)
    have eo : ov y t i = s24 (rd t i + we (uu y i) W) := by unfold ov; rw [hy, hW]
    clear hW
    obtain ⟨V, hV, v1, v2, v3⟩ := rwin_ex n (n - 1 - i) ht (by omega) k (by omega)
    have eb : bv y i = s32 (we (uu y (n + i)) V) := by unfold bv; rw [hy, hV]
    clear hV
    rw [eo, eb] at ih
    clear eo eb
    have hr := rd_in hv i
    unfold I32 at hr
    have hu := uu_in y hw i
    have hu2 := uu_in y hw (n + i)
    have hi1 := we_in hu w2 w3
    have l1 : ((List.range i).map (ov y t)).length < 17592186044416 := by simp; omega
    have l2 : ((List.range i).map (bv y)).length < 17592186044416 := by simp; omega
    have U1 := Aside0.mk (u_ref y (by rw [hy]; exact ht) hw i (by omega))
    have U2 := Aside0.mk (u_ref y (by rw [hy]; exact ht) hw (n + i) (by omega))
    rw [if_pos (by omega), if_pos (by omega), if_pos (by omega), U1.out, Option.bind_some, w1, Option.bind_some, rround hu w2 w3 k (by omega), Option.bind_some,
      w64 (n := rd t i + we (uu y i) W) (by omega) (by omega), rs24 _ k (by omega), Option.bind_some, if_pos l1, add_is n i (by omega) (by omega), U2.out, Option.bind_some, sub_is n i (by omega) (by omega), v1, Option.bind_some,
      rround hu2 v2 v3 k (by omega), Option.bind_some, rs32 _ k (by omega), Option.bind_some, if_pos l2, step64 (n := n) (by omega) (by omega)]
    exact ih
theorem ref_is (y t : List Int) (ht : Th y.length) (hl : t.length = y.length) (hw : ∀ x ∈ y, I32 x) (hv : ∀ x ∈ t, I32 x) : spinetref23_Lap.f 201 y t = some ((List.range y.length).map (ov y t), (List.range y.length).map (bv y)) :=
  ref_loop y t y.length rfl ht hl hw hv y.length 201 0 (by omega) (by unfold Th at ht; omega)
theorem there_ref (n : Nat) : spinetref23_There.f (n : Int) = some (decide (n = 8 ∨ n = 16 ∨ n = 32)) := by
  unfold spinetref23_There.f
  by_cases h : n = 8
  · rw [if_pos (by omega), decide_eq_true (by omega)]
  rw [if_neg (by omega)]
  by_cases h1 : n = 16
  · rw [if_pos (by omega), decide_eq_true (by omega)]
  rw [if_neg (by omega)]
  by_cases h2 : n = 32
  · subst h2; decide
  · rw [decide_eq_false (by omega), beq_eq_false_iff_ne.mpr (by omega)]
end Go.Proofs.Ytkbcolikbaaejaa.LapPlain
