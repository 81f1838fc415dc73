import Derived.Test.YtkbcolikbaaejaaOLapTellsx4
import Derived.Test.YtkbcolikbaaejaaMath
namespace Go.Proofs.Ytkbcolikbaaejaa.LapPlain
open Go.RowKit Go.Proofs.Ytkbcolikbaaejaa.OLapTells Go.Proofs.YtkbcolikbaaejaaW.PrintWords Go.Proofs.YtkbcolikbaaejaaW.PrintLast Go.Proofs.YtkbcolikbaaejaaW.PrintMore
open Go.Proofs.Ytkbcolikbaaejaa.Math
set_option linter.unusedVariables false
set_option linter.unusedSimpArgs false
theorem sat_is {x n : Int} : fix_Sat.f x n = some (st x (min (max n 1) 63).toNat) := by
  unfold fix_Sat.f
  rw [mx_eq n, mn_eq (max n 1)]
  obtain ⟨m, hm⟩ : ∃ m : Nat, min (max n 1) 63 = m := ⟨(min (max n 1) 63).toNat, by omega⟩
  rw [hm, Int.toNat_natCast]
  have e : ((m : Int) - 1).toNat = m - 1 := by omega
  have hle : (2 : Int) ^ (m - 1) ≤ 4611686018427387904 := pow_le_62 (by omega)
  have hp : (0 : Int) < 2 ^ (m - 1) := Int.pow_pos (by decide)
  rw [e, w64 (n := 2 ^ (m - 1)) (by omega) (by omega), w64 (by omega) (by omega), xor_i64_1' (by omega) (by omega), mx_eq, mn_eq]
  unfold st
  congr 1; omega
theorem round_is {x s : Int} (h0 : -9223372036854775808 ≤ x) (h1 : x ≤ 9223372036854775807) : fix_Round.f x s = some (rnd x s) := by
  unfold fix_Round.f rnd
  by_cases hs : s ≤ 0
  · rw [if_pos hs, if_pos hs]
  rw [if_neg hs, if_neg hs, mn_eq]
  obtain ⟨n, hn⟩ : ∃ n : Nat, min s 62 = n := ⟨(min s 62).toNat, by omega⟩
  rw [hn]
  have e1 : wrap64 ((n : Int) - 1) = ((n - 1 : Nat) : Int) := by rw [w64 (by omega) (by omega)]; omega
  rw [if_pos (by omega), e1, if_pos (by omega), Int.toNat_natCast]
  have e2 : shr .i64 x ((n - 1 : Nat) : Int) = x / 2 ^ (n - 1) := by
    unfold shr
    have : min ((n - 1 : Nat) : Int).toNat IntKind.i64.bits = n - 1 := by simp [IntKind.bits]; omega
    rw [this]
  have e3 : bits .and .i64 (x / 2 ^ (n - 1)) 1 = x / 2 ^ (n - 1) % 2 := and_i64 _ 1 (by decide)
  rw [e2, e3]
  have hr := rn_range h0 h1 (n := n) (by omega)
  unfold rn at hr
  rw [w64 hr.2.2.1 hr.2.2.2]
  rfl

def I32 (x : Int) : Prop := -2147483648 ≤ x ∧ x ≤ 2147483647
/-- There is such a length. -/
def Th (n : Nat) : Prop := n = 8 ∨ n = 16 ∨ n = 32
theorem there_yes (n : Nat) (h : Th n) : lap_there.f n = some true := by
  rcases h with rfl | rfl | rfl <;> decide +kernel
theorem there_no (a : Int) (h0 : a ≠ 8) (h1 : a ≠ 16) (h2 : a ≠ 32) : lap_there.f a = some false := by
  unfold lap_there.f
  split
  · split
    · have : ∀ n : Nat, n < 33 → n ≠ 8 → n ≠ 16 → n ≠ 32 → 8 ≤ n → ((Go.bits .and .i64 (n : Int) (wrap64 ((n : Int) - 1))) == 0) = false := by decide +kernel
      obtain ⟨n, rfl⟩ := Int.eq_ofNat_of_zero_le (show 0 ≤ a by omega)
      rw [this n (by omega) (by omega) (by omega) (by omega) (by omega)]
    · rfl
  · rfl
/-- A window's number. -/
def wn (n i : Nat) : Int := (lap_Window.f 100 n i).getD 0
theorem win8 : ∀ i : Nat, i < 8 → lap_Window.f 100 (8 : Nat) i = some (wn 8 i) ∧ 0 ≤ wn 8 i ∧ wn 8 i ≤ 32767 := by decide +kernel
theorem win16 : ∀ i : Nat, i < 16 → lap_Window.f 100 (16 : Nat) i = some (wn 16 i) ∧ 0 ≤ wn 16 i ∧ wn 16 i ≤ 32767 := by decide +kernel
theorem win32 : ∀ i : Nat, i < 32 → lap_Window.f 100 (32 : Nat) i = some (wn 32 i) ∧ 0 ≤ wn 32 i ∧ wn 32 i ≤ 32767 := by decide +kernel
theorem win (n i : Nat) (h : Th n) (hi : i < n) (k : Nat) (hk : 100 ≤ k) : lap_Window.f k (n : Int) i = some (wn n i) ∧ 0 ≤ wn n i ∧ wn n i ≤ 32767 := by
  have h1 : lap_Window.f 100 (n : Int) i = some (wn n i) ∧ 0 ≤ wn n i ∧ wn n i ≤ 32767 := by
    rcases h with rfl | rfl | rfl
    · exact win8 i hi
    · exact win16 i hi
    · exact win32 i hi
  exact ⟨at_rounds (g := fun k => lap_Window.f k n i) (fun k => lap_Window.mono n i k) hk h1.1, h1.2⟩
theorem win_ex (n i : Nat) (h : Th n) (hi : i < n) (k : Nat) (hk : 100 ≤ k) : ∃ W : Int, wn n i = W ∧ lap_Window.f k (n : Int) i = some W ∧ 0 ≤ W ∧ W ≤ 32767 := ⟨_, rfl, win n i h hi k hk⟩
theorem rd_nat (xs : List Int) (j : Nat) : rd xs (j : Int) = xs.getD j 0 := by unfold rd; rw [Int.toNat_natCast]
theorem rd_in {xs : List Int} (hw : ∀ x ∈ xs, I32 x) (j : Nat) : I32 (rd xs (j : Int)) := by
  by_cases h : j < xs.length
  · exact hw _ (rd_mem h)
  · rw [rd_nat, List.getD_eq_getElem?_getD, List.getElem?_eq_none (by omega)]; exact ⟨by decide, by decide⟩
/-- One of twice as many numbers as there are samples. -/
def uu (y : List Int) (i : Nat) : Int := if i < y.length / 2 then rd y ((y.length / 2 + i : Nat) : Int) else if i < 3 * y.length / 2 then -(rd y ((3 * y.length / 2 - 1 - i : Nat) : Int)) else -(rd y ((i - 3 * y.length / 2 : Nat) : Int))
def U (x : Int) : Prop := -2147483648 ≤ x ∧ x ≤ 2147483648
theorem uu_in (y : List Int) (hw : ∀ x ∈ y, I32 x) (i : Nat) : U (uu y i) := by
  unfold uu U
  split
  · have h := rd_in hw (y.length / 2 + i); unfold I32 at h; omega
  · split
    · have h := rd_in hw (3 * y.length / 2 - 1 - i); unfold I32 at h; omega
    · have h := rd_in hw (i - 3 * y.length / 2); unfold I32 at h; omega
theorem snoc (f : Nat → Int) (i : Nat) : (List.range (i + 1)).map f = (List.range i).map f ++ [f i] := by rw [List.range_succ, List.map_append]; rfl
theorem half_is (n : Nat) (h : n ≤ 1000) : wrap64 (Int.tdiv (n : Int) 2) = ((n / 2 : Nat) : Int) := by
  have e : Int.tdiv (n : Int) 2 = (n : Int) / 2 := Int.tdiv_eq_ediv_of_nonneg (by omega)
  rw [e]; unfold wrap64; omega
theorem half3_is (n : Nat) (h : n ≤ 1000) : wrap64 (Int.tdiv (wrap64 (3 * (n : Int))) 2) = ((3 * n / 2 : Nat) : Int) := by
  have e : Int.tdiv (3 * (n : Int)) 2 = 3 * (n : Int) / 2 := Int.tdiv_eq_ediv_of_nonneg (by omega)
  rw [w64 (n := 3 * (n : Int)) (by omega) (by omega), e, show ((3 * n / 2 : Nat) : Int) = 3 * (n : Int) / 2 by rw [Int.natCast_ediv, Int.natCast_mul]; rfl]; unfold wrap64; omega
theorem long_loop (y : List Int) (hn : y.length ≤ 40) (he : y.length % 2 = 0) (hw : ∀ x ∈ y, I32 x) : ∀ (d k i : Nat), i + d = 2 * y.length → d < k → lap_long.l0 k y y.length ((List.range i).map (uu y)) ((2 * y.length : Nat) : Int) i = some ((List.range (2 * y.length)).map (uu y))
  | 0, k, i, hi, hk => by
    obtain ⟨k, rfl⟩ : ∃ m, k = m + 1 := ⟨k - 1, by omega⟩
    simp only [lap_long.l0]
    rw [if_neg (by omega), show i = 2 * y.length by omega]
  | d + 1, k, i, hi, hk => by
    obtain ⟨k, rfl⟩ : ∃ m, k = m + 1 := ⟨k - 1, by omega⟩
    have ih := long_loop y hn he hw d k (i + 1) (by omega) (by omega)
    rw [snoc] at ih
    simp only [lap_long.l0]
    rw [if_pos (by omega), half_is y.length (by omega), half3_is y.length (by omega), step64 (n := 2 * y.length) (by omega) (by omega)]
    have hlen : ((List.range i).map (uu y)).length < 17592186044416 := by simp; omega
    by_cases h1 : i < y.length / 2
    · have e : wrap64 (((y.length / 2 : Nat) : Int) + (i : Int)) = ((y.length / 2 + i : Nat) : Int) := by rw [w64 (by omega) (by omega)]; omega
      have hu : uu y i = rd y ((y.length / 2 + i : Nat) : Int) := by unfold uu; rw [if_pos h1]
      have hb := rd_in hw (y.length / 2 + i)
      unfold I32 at hb
      rw [if_pos (by omega), e, if_pos (by omega), if_pos (by omega), if_pos hlen, w64 (n := rd y ((y.length / 2 + i : Nat) : Int)) (by omega) (by omega), ← hu]
      exact ih
    · rw [if_neg (by omega)]
      by_cases h2 : i < 3 * y.length / 2
      · have e : wrap64 (wrap64 (((3 * y.length / 2 : Nat) : Int) - 1) - (i : Int)) = ((3 * y.length / 2 - 1 - i : Nat) : Int) := by
          rw [w64 (n := ((3 * y.length / 2 : Nat) : Int) - 1) (by omega) (by omega), w64 (by omega) (by omega)]; omega
        have hu : uu y i = -(rd y ((3 * y.length / 2 - 1 - i : Nat) : Int)) := by unfold uu; rw [if_neg h1, if_pos h2]
        have hb := rd_in hw (3 * y.length / 2 - 1 - i)
        unfold I32 at hb
        rw [if_pos (by omega), e, if_pos (by omega), if_pos (by omega), if_pos hlen, w64 (n := rd y ((3 * y.length / 2 - 1 - i : Nat) : Int)) (by omega) (by omega), w64 (n := -rd y ((3 * y.length / 2 - 1 - i : Nat) : Int)) (by omega) (by omega), ← hu]
        exact ih
      · have e : wrap64 ((i : Int) - ((3 * y.length / 2 : Nat) : Int)) = ((i - 3 * y.length / 2 : Nat) : Int) := by
          rw [w64 (by omega) (by omega)]; omega
        have hu : uu y i = -(rd y ((i - 3 * y.length / 2 : Nat) : Int)) := by unfold uu; rw [if_neg h1, if_neg h2]
        have hb := rd_in hw (i - 3 * y.length / 2)
        unfold I32 at hb
        rw [if_neg (by omega), e, if_pos (by omega), if_pos (by omega), if_pos hlen, w64 (n := rd y ((i - 3 * y.length / 2 : Nat) : Int)) (by omega) (by omega), w64 (n := -rd y ((i - 3 * y.length / 2 : Nat) : Int)) (by omega) (by omega), ← hu]
        exact ih
theorem long_fn (y : List Int) (hn : y.length ≤ 40) (he : y.length % 2 = 0) (hw : ∀ x ∈ y, I32 x) (k : Nat) (hk : 80 < k) : lap_long.f k y = some ((List.range (2 * y.length)).map (uu y)) := by
  unfold lap_long.f
  have e : wrap64 (2 * (y.length : Int)) = ((2 * y.length : Nat) : Int) := by rw [w64 (by omega) (by omega)]; omega
  rw [e]
  exact long_loop y hn he hw (2 * y.length) k 0 (by omega) (by omega)
theorem rd_range (f : Nat → Int) (n i : Nat) (h : i < n) : rd ((List.range n).map f) (i : Int) = f i := by
  rw [rd_nat, List.getD_eq_getElem?_getD, List.getElem?_map, List.getElem?_range h]; rfl
theorem mul_w {u w : Int} (hu : U u) (h0 : 0 ≤ w) (h1 : w ≤ 32767) : -70366596694016 ≤ u * w ∧ u * w ≤ 70366596694016 := by
  obtain ⟨a, b⟩ := hu
  have e1 := Int.mul_le_mul_of_nonneg_right b h0
  have e2 := Int.mul_le_mul_of_nonneg_right a h0
  constructor <;> omega
/-- A number times a window's, rounded. -/
def we (u w : Int) : Int := (u * w + 16384) / 32768
theorem we_in {u w : Int} (hu : U u) (h0 : 0 ≤ w) (h1 : w ≤ 32767) : -2147483648 ≤ we u w ∧ we u w ≤ 2147483648 := by
  have := mul_w hu h0 h1
  unfold we
  generalize u * w = p at *
  omega
theorem weighed_fn {u w : Int} (hu : U u) (h0 : 0 ≤ w) (h1 : w ≤ 32767) : lap_weighed.f u w = some (we u w) := by
  have := mul_w hu h0 h1
  unfold lap_weighed.f
  rw [w64 (n := w) (by omega) (by omega), w64 (n := u * w) (by omega) (by omega), round_is (by omega) (by omega), rnd15]
  rfl
def s24 (x : Int) : Int := min (max x (-8388608)) 8388607
def s32 (x : Int) : Int := min (max x (-2147483648)) 2147483647
theorem s24_is (x : Int) : fix_Sat.f x 24 = some (s24 x) := by
  rw [sat_is]; rfl
theorem s32_is (x : Int) : fix_Sat32.f x = some (s32 x) := by
  unfold fix_Sat32.f s32; rw [mx_eq, mn_eq]
/-- A frame's numbers, and the tail behind it. -/
def ov (y t : List Int) (i : Nat) : Int := s24 (rd t i + we (uu y i) (wn y.length i))
def bv (y : List Int) (i : Nat) : Int := s32 (we (uu y (y.length + i)) (wn y.length (y.length - 1 - i)))
theorem add_is (n i : Nat) (h : n ≤ 1000) (h2 : i ≤ 1000) : wrap64 ((n : Int) + (i : Int)) = ((n + i : Nat) : Int) := by rw [w64 (by omega) (by omega)]; omega
theorem sub_is (n i : Nat) (h : n ≤ 1000) (h2 : i < n) : wrap64 (wrap64 ((n : Int) - 1) - (i : Int)) = ((n - 1 - i : Nat) : Int) := by
  rw [w64 (n := (n : Int) - 1) (by omega) (by omega), w64 (by omega) (by omega)]; omega
theorem plain_loop (y t : List Int) (n : Nat) (hy : y.length = n) (ht : Th n) (hl : t.length = n) (hw : ∀ x ∈ y, I32 x) (hv : ∀ x ∈ t, I32 x) : ∀ (d k i : Nat), i + d = n → d + 100 < k → lap_Plain.l0 k t n ((List.range (2 * n)).map (uu y)) ((List.range i).map (ov y t)) ((List.range i).map (bv y)) n i = some ((List.range n).map (ov y t), (List.range n).map (bv y))
  | 0, k, i, hi, hk => by
    obtain ⟨k, rfl⟩ : ∃ m, k = m + 1 := ⟨k - 1, by omega⟩
    simp only [lap_Plain.l0]
    rw [if_neg (by omega), show i = n by omega]
  | d + 1, k, i, hi, hk => by
    obtain ⟨k, rfl⟩ : ∃ m, k = m + 1 := ⟨k - 1, by omega⟩
    have hb : n ≤ 32 := by unfold Th at ht; omega
    have ih := plain_loop y t n hy ht hl hw hv d k (i + 1) (by omega) (by omega)
    rw [snoc, snoc] at ih
    simp only [lap_Plain.l0]
    obtain ⟨W, hW, w1, w2, w3⟩ := win_ex n i ht (by omega) k (by omega)
    have eo : ov y t i = s24 (rd t i + we (uu y i) W) := by unfold ov; rw [hy, hW]
    clear hW
    obtain ⟨V, hV, v1, v2, v3⟩ := win_ex n (n - 1 - i) ht (by omega) k (by omega)
    have eb : bv y i = s32 (we (uu y (n + i)) V) := by unfold bv; rw [hy, hV]
    clear hV
    have hr := rd_in hv i
    have hu := uu_in y hw i
    have hu2 := uu_in y hw (n + i)
    have hi1 := we_in hu w2 w3
    obtain ⟨p, hp⟩ : ∃ p, uu y i = p := ⟨_, rfl⟩
    obtain ⟨q, hq⟩ : ∃ q, uu y (n + i) = q := ⟨_, rfl⟩
    have R1 := Aside0.mk ((rd_range (uu y) (2 * n) i (by omega)).trans hp)
    have R2 := Aside0.mk ((rd_range (uu y) (2 * n) (n + i) (by omega)).trans hq)
    rw [hp] at hu hi1 eo
    rw [hq] at hu2 eb
    clear hp hq
    have eo2 : wrap32 (s24 (rd t i + we p W)) = s24 (rd t i + we p W) := by unfold s24 wrap32; omega
    rw [eo, eb] at ih
    clear eo eb
    unfold I32 at hr
    have l1 : ((List.range i).map (ov y t)).length < 35184372088832 := by simp; omega
    have l2 : ((List.range i).map (bv y)).length < 35184372088832 := by simp; omega
    have l3 : ((List.range (2 * n)).map (uu y)).length = 2 * n := by simp
    rw [if_pos (by omega), if_pos (by omega), if_pos (by omega), if_pos (by omega), w1, Option.bind_some, R1.out, weighed_fn hu w2 w3, Option.bind_some,
      w64 (n := rd t i) (by omega) (by omega), w64 (n := rd t i + we p W) (by omega) (by omega), s24_is, Option.bind_some, if_pos l1, add_is n i (by omega) (by omega), if_pos (by omega), if_pos (by omega), sub_is n i (by omega) (by omega), v1, Option.bind_some,
      R2.out, weighed_fn hu2 v2 v3, Option.bind_some, s32_is, Option.bind_some, if_pos l2, eo2, step64 (n := n) (by omega) (by omega)]
    exact ih
theorem plain_is (y t : List Int) (ht : Th y.length) (hl : t.length = y.length) (hw : ∀ x ∈ y, I32 x) (hv : ∀ x ∈ t, I32 x) (k : Nat) (hk : 200 < k) : lap_Plain.f k y t = some ((List.range y.length).map (ov y t), (List.range y.length).map (bv y)) := by
  have hb : y.length ≤ 32 ∧ y.length % 2 = 0 := by unfold Th at ht; omega
  obtain ⟨k, rfl⟩ : ∃ m, k = m + 1 := ⟨k - 1, by omega⟩
  unfold lap_Plain.f
  rw [there_yes _ ht, Option.bind_some, if_pos rfl]
  simp only [lap_Plain.j0]
  have e : ((t.length : Int) != (y.length : Int)) = false := by rw [bne_eq_false_iff_eq]; omega
  rw [e, if_neg (by decide), long_fn y (by omega) hb.2 hw k (by omega), Option.bind_some]
  exact plain_loop y t y.length rfl ht hl hw hv y.length k 0 (by omega) (by omega)
theorem plain_no (y t : List Int) (h : ¬ Th y.length ∨ t.length ≠ y.length) (k : Nat) (hk : 1 < k) : lap_Plain.f k y t = some ([], []) := by
  obtain ⟨k, rfl⟩ : ∃ m, k = m + 1 := ⟨k - 1, by omega⟩
  unfold lap_Plain.f
  by_cases ht : Th y.length
  · rw [there_yes _ ht, Option.bind_some, if_pos rfl]
    have e : ((t.length : Int) != (y.length : Int)) = true := by rw [bne_iff_ne]; rcases h with h | h; exact absurd ht h; omega
    rw [e]
    simp only [lap_Plain.j0]
    rw [if_pos trivial]
  · unfold Th at ht
    rw [there_no _ (by omega) (by omega) (by omega), Option.bind_some, if_neg (by decide)]
    simp only [lap_Plain.j0]
    rw [if_pos trivial]
theorem ov_in (y t : List Int) (i : Nat) : I32 (ov y t i) := by unfold ov s24 I32; omega
theorem bv_in (y : List Int) (i : Nat) : I32 (bv y i) := by unfold bv s32 I32; omega
/-- Small numbers: a frame's numbers hang on the tail but by adding it up. -/
theorem mul_s {u w : Int} (a : -1048576 ≤ u) (b : u ≤ 1048576) (h0 : 0 ≤ w) (h1 : w ≤ 32767) : -34358689792 ≤ u * w ∧ u * w ≤ 34358689792 := by
  have e1 := Int.mul_le_mul_of_nonneg_right b h0
  have e2 := Int.mul_le_mul_of_nonneg_right a h0
  constructor <;> omega
def Sm (x : Int) : Prop := -1048576 ≤ x ∧ x ≤ 1048576
theorem rd_sm {xs : List Int} (hw : ∀ x ∈ xs, Sm x) (j : Nat) : Sm (rd xs (j : Int)) := by
  by_cases h : j < xs.length
  · exact hw _ (rd_mem h)
  · rw [rd_nat, List.getD_eq_getElem?_getD, List.getElem?_eq_none (by omega)]; exact ⟨by decide, by decide⟩
theorem uu_sm (y : List Int) (hw : ∀ x ∈ y, Sm x) (i : Nat) : Sm (uu y i) := by
  unfold uu Sm
  split
  · have h := rd_sm hw (y.length / 2 + i); unfold Sm at h; omega
  · split
    · have h := rd_sm hw (3 * y.length / 2 - 1 - i); unfold Sm at h; omega
    · have h := rd_sm hw (i - 3 * y.length / 2); unfold Sm at h; omega
theorem ov_small (y t : List Int) (ht : Th y.length) (hw : ∀ x ∈ y, Sm x) (hv : ∀ x ∈ t, Sm x) (i : Nat) (hi : i < y.length) : ov y t i = rd t i + we (uu y i) (wn y.length i) := by
  obtain ⟨W, hW, w1, w2, w3⟩ := win_ex y.length i ht hi 100 (by omega)
  have hr := rd_sm hv i
  have hu := uu_sm y hw i
  unfold Sm at hr hu
  have := mul_s hu.1 hu.2 w2 w3
  unfold ov s24 we
  rw [hW]
  clear hW w1
  generalize uu y i = q at *
  generalize q * W = p at *
  omega
end Go.Proofs.Ytkbcolikbaaejaa.LapPlain
