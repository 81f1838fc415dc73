import Derived.Test.YtjpnbdofbkoddaaDoorOShapeScalesx2T
import Derived.Test.YtjpnbdofbkoddaaDoorOShapeScalesx3T
import Derived.Test.YtjpnbdofbkoddaaDoorShapeExpT
import Derived.Test.YtjpnbdofbkoddaaDoorMathT
set_option linter.unusedVariables false
set_option linter.unusedSimpArgs false
namespace Go.Proofs.YtjpnbdofbkoddaaDoor.ShapePlain
open Go.RowKit Go.Proofs.YtjpnbdofbkoddaaDoor.OShapeScales Go.Proofs.YtjpnbdofbkoddaaDoorW.PrintWords Go.Proofs.YtjpnbdofbkoddaaDoorW.PrintLast Go.Proofs.YtjpnbdofbkoddaaDoorW.PrintMore
open Go.Proofs.YtjpnbdofbkoddaaDoor.Math
open Go.Proofs.YtjpnbdofbkoddaaDoor.Shape (ex ld ld_is)
def isq : Nat → Nat
 | 0 => 0
 | n + 1 => if (isq n + 1) * (isq n + 1) ≤ n + 1 then isq n + 1 else isq n
theorem isq_is : ∀ n, isq n * isq n ≤ n ∧ n < (isq n + 1) * (isq n + 1)
 | 0 => by decide
 | n + 1 => by
  obtain ⟨h1, h2⟩ := isq_is n
  unfold isq
  split
  ·rename_i h
   refine ⟨h, ?_⟩
   generalize isq n = s at *
   have : (s + 1 + 1) * (s + 1 + 1) = (s + 1) * (s + 1) + 2 * s + 3 := by simp only [Nat.add_mul, Nat.mul_add]; omega
   omega
  ·omega
theorem sq_lt {a b : Nat} (h : a < b) : (a + 1) * (a + 1) ≤ b * b := Nat.mul_le_mul h h
theorem sq_one {x r s : Nat} (h1 : r * r ≤ x) (h2 : x < (r + 1) * (r + 1)) (h3 : s * s ≤ x) (h4 : x < (s + 1) * (s + 1)) : r = s := by
 rcases Nat.lt_trichotomy r s with h | h | h
 ·have := sq_lt h; omega
 ·exact h
 ·have := sq_lt h; omega
theorem isq_of {x r : Nat} (h1 : r * r ≤ x) (h2 : x < (r + 1) * (r + 1)) : isq x = r := sq_one (isq_is x).1 (isq_is x).2 h1 h2
theorem isq_le {x r : Nat} (h : x < r * r) : isq x < r := by
 rcases Nat.lt_or_ge (isq x) r with h1 | h1
 ·exact h1
 ·have := Nat.mul_le_mul h1 h1
  have := (isq_is x).1
  omega
theorem isq_32 {x : Nat} (h : x < 18446744073709551616) : isq x < 4294967296 := isq_le h
theorem near_step {x r : Nat} (h0 : 0 < r) (hr : isq x ≤ r) : isq x ≤ (r + x / r) / 2 ∧ x / r ≤ r + 2 ∧ (r ≤ (r + x / r) / 2 → r = isq x) := by
 obtain ⟨h1, h2⟩ := isq_is x
 have hq1 : r * (x / r) ≤ x := Nat.mul_div_le x r
 have hq2 : x < r * (x / r + 1) := Nat.lt_mul_div_succ x h0
 generalize isq x = s at *
 generalize x / r = q at *
 have a1 : s ≤ (r + q) / 2 := by
  rcases Nat.lt_or_ge (r + q) (2 * s) with h | h
  ·exfalso
   obtain ⟨d, hd⟩ : ∃ d, r = s + d := ⟨r - s, by omega⟩
   have hd2 : q + 1 + d ≤ s := by omega
   have h3 : r * (q + 1) ≤ (s + d) * (s - d) := by rw [hd]; exact Nat.mul_le_mul_left _ (by omega)
   have h4 : (s + d) * (s - d) + d * d = s * s := by
    obtain ⟨e, he⟩ : ∃ e, s = d + e := ⟨s - d, by omega⟩
    rw [he, show d + e - d = e by omega]
    simp only [Nat.add_mul, Nat.mul_add, Nat.mul_comm e d]
    omega
   omega
  ·omega
 refine ⟨a1, ?_, ?_⟩
 ·rcases Nat.lt_or_ge (r + 2) q with h | h
  ·exfalso
   have h3 : r * (r + 3) ≤ r * q := Nat.mul_le_mul_left _ h
   have h4 : (s + 1) * (s + 1) ≤ (r + 1) * (r + 1) := Nat.mul_le_mul (by omega) (by omega)
   have h5 : (r + 1) * (r + 1) = r * r + 2 * r + 1 := by simp only [Nat.add_mul, Nat.mul_add]; omega
   have h6 : r * (r + 3) = r * r + 3 * r := by rw [Nat.mul_add]; omega
   omega
  ·exact h
 ·intro h
  have hq : r ≤ q := by omega
  have h3 : r * r ≤ r * q := Nat.mul_le_mul_left _ hq
  rcases Nat.lt_or_ge s r with h4 | h4
  ·have := sq_lt h4; omega
  ·omega
theorem tdiv_nat (a b : Nat) : Int.tdiv (a : Int) (b : Int) = ((a / b : Nat) : Int) := by
 rw [Int.tdiv_eq_ediv_of_nonneg (by omega)]; rfl
theorem sqrt_loop {x : Nat} (hx : x < 18446744073709551616) (hx0 : 0 < x) (d : Nat) : ∀ (k r : Nat), r ≤ d → d < k → 0 < r → isq x ≤ r → r ≤ 4294967296 → root_Sqrt.l0 k x r = some ((isq x : Nat) : Int) := by
 induction d with
 | zero => intro k r hd hk h0; omega
 | succ d ih =>
  intro k r hd hk h0 hs h32
  obtain ⟨k, rfl⟩ : ∃ m, k = m + 1 := ⟨k - 1, by omega⟩
  obtain ⟨a1, a2, a3⟩ := near_step h0 hs
  simp only [root_Sqrt.l0]
  have hz0 : x / r = 0 → r ≠ 1 := fun h h1 => by rw [h1, Nat.div_one] at h; omega
  rw [tdiv_nat]
  generalize x / r = q at *
  have e1 : IntKind.u64.wrap (q : Int) = (q : Int) := by rw [u64_in (by omega) (by omega)]
  have e2 : IntKind.u64.wrap ((r : Int) + (q : Int)) = ((r + q : Nat) : Int) := by rw [u64_in (by omega) (by omega)]; omega
  have e3 : IntKind.u64.wrap (Int.tdiv ((r + q : Nat) : Int) 2) = (((r + q) / 2 : Nat) : Int) := by
   have := tdiv_nat (r + q) 2
   rw [show ((2 : Nat) : Int) = 2 from rfl] at this
   rw [this, u64_in (by omega) (by omega)]
  rw [if_neg (by omega), e1, e2, e3]
  by_cases h : r ≤ (r + q) / 2
  ·rw [if_pos (by omega), a3 h]
  ·rw [if_neg (by omega)]
   have hpos : 0 < (r + q) / 2 := by
    by_cases hq : q = 0
    ·have := hz0 hq; omega
    ·omega
   exact ih k _ (by omega) (by omega) hpos a1 (by omega)
theorem bitLen_top : ∀ (f x : Nat), x < 2 ^ f → x < 2 ^ Lib.bitLenAux f x ∧ Lib.bitLenAux f x ≤ f
 | 0, x, h => ⟨by simpa [Lib.bitLenAux] using h, by simp [Lib.bitLenAux]⟩
 | f + 1, x, h => by
  unfold Lib.bitLenAux
  split
  ·rename_i hz; subst hz; simp
  ·have hp : 2 ^ (f + 1) = 2 * 2 ^ f := by rw [Nat.pow_succ]; omega
   obtain ⟨h1, h2⟩ := bitLen_top f (x / 2) (by omega)
   rw [Nat.add_comm 1, Nat.pow_succ]
   exact ⟨by omega, by omega⟩
theorem two_64 : 2 ^ 64 = 18446744073709551616 := by decide
theorem bitLen_64 {x : Nat} (hx : x < 18446744073709551616) : x < 2 ^ Lib.bitLen x ∧ Lib.bitLen x ≤ 64 := by
 unfold Lib.bitLen
 exact bitLen_top 64 x (by rw [two_64]; exact hx)
theorem len_is {x : Nat} (hx : x < 18446744073709551616) (k : Nat) : bits_Len64.f k x = some ((Lib.bitLen x : Nat) : Int) := by
 unfold bits_Len64.f
 rw [if_pos (by omega), Int.toNat_natCast]
theorem sqrt_is {x : Nat} (hx : x < 18446744073709551616) (k : Nat) (hk : 4294967297 < k) : root_Sqrt.f k x = some ((isq x : Nat) : Int) := by
 unfold root_Sqrt.f
 by_cases h0 : x = 0
 ·subst h0; rw [if_pos (by omega)]; rfl
 rw [if_neg (by omega), len_is hx k, Option.bind_some]
 obtain ⟨b1, b2⟩ := bitLen_64 hx
 obtain ⟨L, hL⟩ : ∃ L, Lib.bitLen x = L := ⟨_, rfl⟩
 rw [hL] at b1 b2 ⊢
 obtain ⟨j, hj⟩ : ∃ j, (L + 1) / 2 = j := ⟨_, rfl⟩
 have e1 : wrap64 (Int.tdiv (wrap64 ((L : Int) + 1)) 2) = (j : Int) := by
  rw [w64 (n := (L : Int) + 1) (by omega) (by omega), Int.tdiv_eq_ediv_of_nonneg (by omega), w64 (by omega) (by omega)]; omega
 rw [e1, if_pos (by omega)]
 have hj32 : j ≤ 32 := by omega
 have hle : 2 ^ j ≤ 2 ^ 32 := Nat.pow_le_pow_right (by decide) hj32
 have hle' : 2 ^ j ≤ 4294967296 := hle
 have hp : 0 < 2 ^ j := Nat.two_pow_pos j
 have e2 : shl .u64 1 (j : Int) = ((2 ^ j : Nat) : Int) := by
  unfold shl
  have : min ((j : Int)).toNat IntKind.u64.bits = j := by simp [IntKind.bits]; omega
  rw [this, Int.one_mul, show ((2 : Int) ^ j) = ((2 ^ j : Nat) : Int) from (Int.natCast_pow 2 j).symm, u64_in (by omega) (by omega)]
 rw [e2]
 refine sqrt_loop hx (by omega) (2 ^ j) k (2 ^ j) (Nat.le_refl _) (by omega) hp ?_ hle'
 have hsq : x < 2 ^ j * 2 ^ j := by
  rw [← Nat.pow_add]
  exact Nat.lt_of_lt_of_le b1 (Nat.pow_le_pow_right (by decide) (by omega))
 exact Nat.le_of_lt (isq_le hsq)
theorem fits_is (r x : Nat) (hr : r < 18446744073709551616) (hx : x < 18446744073709551616) : spinetref03_Fits.f r x = some (decide (r * r ≤ x)) := by
 unfold spinetref03_Fits.f
 by_cases h0 : r = 0
 ·subst h0; rw [if_pos (by omega)]; simp
 have hdl := Nat.div_le_self x r
 have := Nat.le_div_iff_mul_le (x := r) (y := x) (by omega : 0 < r)
 rw [if_neg (by omega), tdiv_nat]
 generalize x / r = q at *
 rw [u64_in (by omega) (by omega)]
 congr 1
 by_cases h : r * r ≤ x
 ·rw [decide_eq_true h, decide_eq_true (by have := this.2 h; omega)]
 ·rw [decide_eq_false h, decide_eq_false (fun h2 => h (this.1 (by omega)))]
theorem ref_sqrt_loop {x : Nat} (hx : x < 18446744073709551616) (j : Nat) : ∀ (k r : Nat), j < 33 → j < k → r + 2 ^ j ≤ 4294967296 → r * r ≤ x → x < (r + 2 ^ j) * (r + 2 ^ j) →
 spinetref03_Sqrt.l0 k x r ((2 ^ j / 2 : Nat) : Int) = some ((isq x : Nat) : Int) := by
 induction j with
 | zero =>
  intro k r hj hk hr h1 h2
  obtain ⟨k, rfl⟩ : ∃ m, k = m + 1 := ⟨k - 1, by omega⟩
  simp only [spinetref03_Sqrt.l0]
  rw [if_neg (by decide), isq_of h1 h2]
 | succ j ih =>
  intro k r hj hk hr h1 h2
  obtain ⟨k, rfl⟩ : ∃ m, k = m + 1 := ⟨k - 1, by omega⟩
  have hp : 0 < 2 ^ j := Nat.two_pow_pos j
  have hpp : 2 ^ (j + 1) = 2 * 2 ^ j := by rw [Nat.pow_succ]; omega
  have hh : 2 ^ (j + 1) / 2 = 2 ^ j := by omega
  rw [hh]
  rw [hpp] at hr h2
  simp only [spinetref03_Sqrt.l0]
  have ea : IntKind.u64.wrap ((r : Int) + ((2 ^ j : Nat) : Int)) = ((r + 2 ^ j : Nat) : Int) := by rw [u64_in (by omega) (by omega)]; omega
  have eb : IntKind.u64.wrap (Int.tdiv ((2 ^ j : Nat) : Int) 2) = ((2 ^ j / 2 : Nat) : Int) := by
   have := tdiv_nat (2 ^ j) 2
   rw [show ((2 : Nat) : Int) = 2 from rfl] at this
   rw [this, u64_in (by omega) (by omega)]
  rw [if_pos (by omega), ea, eb, fits_is _ _ (by omega) hx]
  simp only [Option.bind_some]
  by_cases h : (r + 2 ^ j) * (r + 2 ^ j) ≤ x
  ·rw [decide_eq_true h]
   simp only [if_true]
   exact ih k (r + 2 ^ j) (by omega) (by omega) (by omega) h (by rw [show r + 2 ^ j + 2 ^ j = r + 2 * 2 ^ j by omega]; exact h2)
  ·rw [decide_eq_false h]
   rw [if_neg (by decide)]
   exact ih k r (by omega) (by omega) (by omega) h1 (by omega)
theorem ref_sqrt {x : Nat} (hx : x < 18446744073709551616) (k : Nat) (hk : 40 < k) : spinetref03_Sqrt.f k x = some ((isq x : Nat) : Int) := by
 unfold spinetref03_Sqrt.f
 have := ref_sqrt_loop hx 32 k 0 (by decide) (by omega) (by decide) (by omega) (by simpa using hx)
 exact this
theorem yv_is (x : Int) : yv x = min (max x (-134217728)) 134217728 := by unfold yv; rw [mx_eq, mn_eq]
theorem yv_sq (x : Int) : 0 ≤ yv x * yv x ∧ yv x * yv x ≤ 18014398509481984 := by
 have h : -134217728 ≤ yv x ∧ yv x ≤ 134217728 := by rw [yv_is]; omega
 have h1 : (yv x * yv x).natAbs ≤ 134217728 * 134217728 := by
  rw [Int.natAbs_mul]
  exact Nat.mul_le_mul (by omega) (by omega)
 have h2 : 0 ≤ yv x * yv x := by
  rcases Int.le_total 0 (yv x) with h3 | h3
  ·exact Int.mul_nonneg h3 h3
  ·exact Int.mul_nonneg_of_nonpos_of_nonpos h3 h3
 exact ⟨h2, by omega⟩
theorem yv_step (x s : Int) : IntKind.u64.wrap (s + IntKind.u64.wrap (wrap64 (yv x * yv x))) = IntKind.u64.wrap (s + yv x * yv x) := by
 have h := yv_sq x
 rw [w64 (by omega) (by omega), u64_in (n := yv x * yv x) (by omega) (by omega)]
theorem nsum_range : ∀ (l : List Int) (s : Int), 0 ≤ s ∧ s < 18446744073709551616 → 0 ≤ nsum l s ∧ nsum l s < 18446744073709551616
 | [], _ => fun h => h
 | x :: r, s => fun _ => nsum_range r _ (by rw [wrap_u64]; omega)
theorem length_is (xs : List Int) (k : Nat) (hk : 4294967297 < k) : ∃ n : Nat, nsum (xs.take 512) 0 = n ∧ n < 18446744073709551616 ∧ root_Norm.f k xs = some ((n : Nat) : Int) ∧ root_Length.f k xs = some ((isq n : Nat) : Int) := by
 obtain ⟨h0, h1⟩ := nsum_range (xs.take 512) 0 (by omega)
 obtain ⟨n, hn⟩ := Int.eq_ofNat_of_zero_le h0
 refine ⟨n, hn, by omega, by unfold root_Norm.f; rw [hn], ?_⟩
 unfold root_Length.f root_Norm.f
 rw [hn, Option.bind_some, sqrt_is (by omega) k hk, Option.bind_some]
theorem take_step (xs : List Int) (i : Nat) (h : i < xs.length) (h2 : i < 512) : (xs.take 512).drop i = rd xs i :: (xs.take 512).drop (i + 1) := by
 have hl : i < (xs.take 512).length := by rw [List.length_take]; omega
 rw [rd_drop hl]
 congr 1
 unfold rd
 rw [Int.toNat_natCast, List.getD_eq_getElem?_getD, List.getD_eq_getElem?_getD, List.getElem?_take_of_lt h2]
theorem ref_norm_loop (xs : List Int) (hn : xs.length ≤ 600) (hw : ∀ x ∈ xs, -2147483648 ≤ x ∧ x ≤ 2147483647) (d : Nat) : ∀ (k i : Nat) (s : Int), i + d = min xs.length 512 → 2 * d + 2 < k → spinetref03_Norm.l0 k xs s i = some (nsum ((xs.take 512).drop i) s) := by
 induction d with
 | zero =>
  intro k i s hi hk
  obtain ⟨k, rfl⟩ : ∃ m, k = m + 2 := ⟨k - 2, by omega⟩
  have hdrop : (xs.take 512).drop i = [] := List.drop_of_length_le (by rw [List.length_take]; omega)
  rw [hdrop, nsum, spinetref03_Norm.l0]
  by_cases h : i < xs.length
  ·rw [if_pos (by omega), decide_eq_false (by omega), spinetref03_Norm.j1, if_neg (by decide)]
  ·rw [if_neg (by omega), spinetref03_Norm.j1, if_neg (by decide)]
 | succ d ih =>
  intro k i s hi hk
  obtain ⟨k, rfl⟩ : ∃ m, k = m + 2 := ⟨k - 2, by omega⟩
  have hlt : i < xs.length := by omega
  obtain ⟨x0, x1⟩ := hw _ (rd_mem hlt)
  rw [take_step xs i hlt (by omega), nsum, yv_step, spinetref03_Norm.l0, if_pos (by omega), decide_eq_true (by omega), spinetref03_Norm.j1, if_pos rfl, if_pos (by omega), if_pos (by omega), step64 hlt (by omega)]
  have hi' := fun s => ih k (i + 1) s (by omega) (by omega)
  generalize rd xs i = x at *
  have hyv := yv_is x
  rw [w64 (n := x) (by omega) (by omega)]
  by_cases hneg : x < 0
  ·rw [if_pos hneg, w64 (n := -x) (by omega) (by omega)]
   by_cases hbig : -x > 134217728
   ·have e : yv x = -134217728 := by rw [hyv]; omega
    rw [if_pos hbig, hi', e]; rfl
   ·have e : yv x = x := by rw [hyv]; omega
    have h1 : (x * x).natAbs ≤ 134217728 * 134217728 := by
     rw [Int.natAbs_mul]
     exact Nat.mul_le_mul (by omega) (by omega)
    have h2 : 0 ≤ x * x := Int.mul_nonneg_of_nonpos_of_nonpos (by omega) (by omega)
    rw [if_neg hbig, u64_in (n := -x) (by omega) (by omega), Int.neg_mul_neg, u64_in (n := x * x) (by omega) (by omega), hi', e]
  ·rw [if_neg hneg]
   by_cases hbig : x > 134217728
   ·have e : yv x = 134217728 := by rw [hyv]; omega
    rw [if_pos hbig, hi', e]
   ·have e : yv x = x := by rw [hyv]; omega
    have h1 : (x * x).natAbs ≤ 134217728 * 134217728 := by
     rw [Int.natAbs_mul]
     exact Nat.mul_le_mul (by omega) (by omega)
    have h2 : 0 ≤ x * x := Int.mul_nonneg (by omega) (by omega)
    rw [if_neg hbig, u64_in (n := x) (by omega) (by omega), u64_in (n := x * x) (by omega) (by omega), hi', e]
theorem part_none (x g L : Int) (h : L = 0 ∨ 4611686018427387904 < L) : root_Part.f x g L = some 0 := by
 unfold root_Part.f
 rcases h with rfl | h
 ·rw [if_pos rfl]
 ·rw [if_neg (by omega), if_pos (by omega)]
theorem part_some (x g L : Int) (hL0 : 1 ≤ L) (hL1 : L ≤ 4611686018427387904) (hx0 : -2147483648 ≤ x) (hx1 : x ≤ 2147483647) :
 root_Part.f x g L = some (Int.tdiv (x * min (max g (-1073741824)) 1073741824) L) := by
 unfold root_Part.f
 rw [if_neg (by omega), if_neg (by omega), w64 (n := L) (by omega) (by omega), if_neg (by omega), w64 (n := x) (by omega) (by omega), mx_eq, mn_eq]
 obtain ⟨G, hG⟩ : ∃ G, min (max g (-1073741824)) 1073741824 = G := ⟨_, rfl⟩
 rw [hG]
 have hb := mul_range (a := x) (b := G) (by omega) (by omega) (by omega) (by omega)
 have hd := Int.natAbs_tdiv (x * G) L
 have hle : (x * G).natAbs / L.natAbs ≤ (x * G).natAbs := Nat.div_le_self _ _
 have hd2 : (Int.tdiv (x * G) L).natAbs ≤ (x * G).natAbs := by rw [hd]; exact hle
 rw [w64 (n := x * G) (by omega) (by omega), w64 (by omega) (by omega)]
theorem ref_exp_nat : ∀ n : Nat, n < 321 → spinetref04_Exp.f 30 n = some (ex n) := by decide +kernel
theorem ref_exp {e : Int} {n : Nat} (hn : min (max e 0) 320 = (n : Int)) : spinetref04_Exp.f 30 e = some (ex n) := by
 by_cases h0 : e < 0
 ·have : n = 0 := by omega
  subst this
  rw [← ref_exp_nat 0 (by decide)]
  unfold spinetref04_Exp.f
  rw [if_pos h0]; rfl
 by_cases h1 : e > 320
 ·have : n = 320 := by omega
  subst this
  rw [← ref_exp_nat 320 (by decide)]
  unfold spinetref04_Exp.f
  rw [if_neg h0, if_neg (by decide)]
  simp only [spinetref04_Exp.j0]
  rw [if_pos h1, if_neg (by decide)]; rfl
 have : e = (n : Int) := by omega
 subst this
 exact ref_exp_nat n (by omega)
theorem same18_loop (xs : List Int) (hn : xs.length ≤ 9223372036854775807) (hw : ∀ x ∈ xs, -2147483648 ≤ x ∧ x ≤ 2147483647) (d : Nat) : ∀ (k i : Nat), i + d = xs.length → d < k → spinetlaw18_Same.l0 k xs xs xs.length i = some true := by
 induction d with
 | zero =>
  intro k i hi hk
  obtain ⟨k, rfl⟩ : ∃ m, k = m + 1 := ⟨k - 1, by omega⟩
  simp only [spinetlaw18_Same.l0]
  rw [if_neg (by omega)]
 | succ d ih =>
  intro k i hi hk
  obtain ⟨k, rfl⟩ : ∃ m, k = m + 1 := ⟨k - 1, by omega⟩
  simp only [spinetlaw18_Same.l0]
  have hlt : i < xs.length := by omega
  obtain ⟨x0, x1⟩ := hw _ (rd_mem hlt)
  rw [if_pos (by omega), if_pos (by omega), if_pos (by omega), if_pos (by omega), if_pos (w64 (by omega) (by omega)), step64 hlt hn]
  exact ih k (i + 1) (by omega) (by omega)
theorem same18_is (xs : List Int) (hn : xs.length ≤ 9223372036854775807) (hw : ∀ x ∈ xs, -2147483648 ≤ x ∧ x ≤ 2147483647) (k : Nat) (hk : xs.length < k) : spinetlaw18_Same.f k xs xs = some true := by
 unfold spinetlaw18_Same.f
 rw [if_pos rfl]
 exact same18_loop xs hn hw xs.length k 0 (by omega) hk
def I32 (x : Int) : Prop := -2147483648 ≤ x ∧ x ≤ 2147483647
def len (xs : List Int) : Int := ((isq (nsum (xs.take 512) 0).toNat : Nat) : Int)
theorem len_in (xs : List Int) : 0 ≤ len xs ∧ len xs < 4294967296 := by
 unfold len
 obtain ⟨h0, h1⟩ := nsum_range (xs.take 512) 0 (by omega)
 have := isq_32 (x := (nsum (xs.take 512) 0).toNat) (by omega)
 omega
theorem length_fn (xs : List Int) : root_Length.f 4294967300 xs = some (len xs) := by
 obtain ⟨n, h1, h2, h3, h4⟩ := length_is xs 4294967300 (by decide)
 unfold len
 rw [h1, Int.toNat_natCast]
 exact h4
def pv (g L x : Int) : Int := min (max (ptv x g L) (-1048576)) 1048576
theorem pv_in (g L x : Int) : I32 (pv g L x) := by unfold pv I32; omega
theorem part_fn (g L x : Int) (hx : I32 x) (hL : 0 ≤ L ∧ L < 4294967296) : shape_part.f x g L = some (pv g L x) := by
 unfold shape_part.f
 have h : root_Part.f x g L = some (ptv x g L) := by
  unfold ptv
  by_cases h0 : L = 0 ∨ 4611686018427387904 < L
  ·rw [if_pos h0, part_none x g L h0]
  ·rw [if_neg h0, part_some x g L (by omega) (by omega) hx.1 hx.2]
 rw [h, Option.bind_some, mx_eq, mn_eq]
 rfl
theorem held_fn (x : Int) : spinetref01_Held.f x (-1048576) 1048576 = some (min (max x (-1048576)) 1048576) := by
 unfold spinetref01_Held.f
 by_cases h1 : x < -1048576
 ·rw [if_pos h1]; congr 1; omega
 ·rw [if_neg h1]
  by_cases h2 : x > 1048576
  ·rw [if_pos h2]; congr 1; omega
  ·rw [if_neg h2]; congr 1; omega
def sc (e : Int) (xs : List Int) : List Int := xs.map (pv (ex (ld e)) (len xs))
theorem sc_len (e : Int) (xs : List Int) : (sc e xs).length = xs.length := by simp [sc]
theorem sc_in (e : Int) (xs : List Int) : ∀ x ∈ sc e xs, I32 x := by
 intro x hx
 obtain ⟨y, _, rfl⟩ := List.mem_map.mp hx
 exact pv_in _ _ _
theorem take_map (p : Int → Int) (xs : List Int) (j : Nat) (h : j < xs.length) : (xs.take j).map p ++ [p (rd xs j)] = (xs.take (j + 1)).map p := by
 rw [List.take_add_one, List.map_append]
 congr 1
 unfold rd
 rw [Int.toNat_natCast]
 simp [List.getD, h]
theorem take_rd (xs : List Int) (j : Nat) (h : j < xs.length) : xs.take j ++ [rd xs j] = xs.take (j + 1) := by
 rw [List.take_add_one]
 congr 1
 unfold rd
 rw [Int.toNat_natCast]
 simp [List.getD, h]
theorem wrap32_in {x : Int} (h : I32 x) : wrap32 x = x := by unfold wrap32; have := h.1; have := h.2; omega
theorem exp_fn (e : Int) (k : Nat) (hk : 30 ≤ k) : spinetref04_Exp.f k e = some (ex (ld e)) :=
 at_rounds (g := fun k => spinetref04_Exp.f k e) (fun k => spinetref04_Exp.mono e k) hk (ref_exp (ld_is e).1)
theorem norm_fn (xs : List Int) (hn : xs.length ≤ 600) (hw : ∀ x ∈ xs, I32 x) (k : Nat) (hk : 1100 < k) : (spinetref03_Norm.f k xs).bind (fun t => spinetref03_Sqrt.f k t) = some (len xs) := by
 obtain ⟨h0, h1⟩ := nsum_range (xs.take 512) 0 (by omega)
 obtain ⟨n, h⟩ := Int.eq_ofNat_of_zero_le h0
 have hf : spinetref03_Norm.f k xs = some ((n : Nat) : Int) := by
  rw [← h]
  exact ref_norm_loop xs hn hw (min xs.length 512) k 0 0 (by omega) (by omega)
 rw [hf, Option.bind_some, ref_sqrt (by omega) k (by omega)]
 unfold len
 rw [h, Int.toNat_natCast]
theorem bind_two {α β γ : Type} {x : Option α} {f : α → Option β} {g : β → Option γ} {r : β} (h : x.bind f = some r) : (x.bind fun t => (f t).bind g) = g r := by
 cases x with
 | none => cases h
 | some t => rw [Option.bind_some] at h ⊢; rw [h, Option.bind_some]
theorem ref_two (e : Int) (xs : List Int) (hn : xs.length ≤ 200) (hw : ∀ x ∈ xs, I32 x) (d : Nat) : ∀ (k j : Nat), j + d = xs.length → d + 40 < k → spinetref19_Scale.l1 k xs e xs (len xs) ((xs.take j).map (pv (ex (ld e)) (len xs))) j = some (sc e xs) := by
 have hL := len_in xs
 induction d with
 | zero =>
  intro k j hj hk
  obtain ⟨k, rfl⟩ : ∃ m, k = m + 1 := ⟨k - 1, by omega⟩
  simp only [spinetref19_Scale.l1]
  rw [if_neg (by omega), List.take_of_length_le (by omega)]
  rfl
 | succ d ih =>
  intro k j hj hk
  obtain ⟨k, rfl⟩ : ∃ m, k = m + 1 := ⟨k - 1, by omega⟩
  have hx : I32 (rd xs j) := hw _ (rd_mem (by omega))
  have htl : ((xs.take j).map (pv (ex (ld e)) (len xs))).length < 17592186044416 := by rw [List.length_map, List.length_take]; omega
  have hmore := take_map (pv (ex (ld e)) (len xs)) xs j (by omega)
  have hst : wrap64 ((j : Int) + 1) = ((j + 1 : Nat) : Int) := step64 (n := xs.length) (by omega) (by omega)
  have hih := ih k (j + 1) (by omega) (by omega)
  have hp : spinetref03_Part.f k (rd xs j) (ex (ld e)) (len xs) = some (ptv (rd xs j) (ex (ld e)) (len xs)) := by
   unfold spinetref03_Part.f
   rw [if_pos ⟨hx.1, hx.2, by omega, by omega⟩]
  simp only [spinetref19_Scale.l1]
  rw [if_pos (by omega), if_pos (by omega), if_pos (by omega), exp_fn e k (by omega), Option.bind_some, hp, Option.bind_some, held_fn, Option.bind_some, if_pos htl, hst]
  rw [← hmore] at hih
  exact hih
theorem ref_one (e : Int) (xs : List Int) (hn : xs.length ≤ 200) (hw : ∀ x ∈ xs, I32 x) (d : Nat) : ∀ (k j : Nat), j + d = xs.length → d + 1500 < k → spinetref19_Scale.l0 k xs e (xs.take j) j = some (sc e xs) := by
 induction d with
 | zero =>
  intro k j hj hk
  obtain ⟨k, rfl⟩ : ∃ m, k = m + 1 := ⟨k - 1, by omega⟩
  simp only [spinetref19_Scale.l0]
  rw [if_neg (by omega), List.take_of_length_le (by omega), bind_two (norm_fn xs (by omega) hw k (by omega))]
  have h := ref_two e xs hn hw xs.length k 0 (by omega) (by omega)
  rw [List.take_zero, List.map_nil] at h
  exact h
 | succ d ih =>
  intro k j hj hk
  obtain ⟨k, rfl⟩ : ∃ m, k = m + 1 := ⟨k - 1, by omega⟩
  have hx : I32 (rd xs j) := hw _ (rd_mem (by omega))
  have htl : (xs.take j).length < 35184372088832 := by rw [List.length_take]; omega
  have hmore := take_rd xs j (by omega)
  have hst : wrap64 ((j : Int) + 1) = ((j + 1 : Nat) : Int) := step64 (n := xs.length) (by omega) (by omega)
  have hih := ih k (j + 1) (by omega) (by omega)
  simp only [spinetref19_Scale.l0]
  rw [if_pos (by omega), if_pos (by omega), if_pos htl, wrap32_in hx, hst, hmore]
  exact hih
theorem scale_ref (e : Int) (xs : List Int) (hn : xs.length ≤ 200) (hw : ∀ x ∈ xs, I32 x) : spinetref19_Scale.f 2000 xs e = some (sc e xs) := by
 have h := ref_one e xs hn hw xs.length 2000 0 (by omega) (by omega)
 rw [List.take_zero] at h
 exact h
end Go.Proofs.YtjpnbdofbkoddaaDoor.ShapePlain
