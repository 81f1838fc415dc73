/- The sum of squares, and the length, of any list are what the document says, up to 600 numbers. Conditions: none but that each number fits its type. -/
import Derived.Test.YtiejkgapifpchaaORootNormsx2
import Derived.Test.YtiejkgapifpchaaMath
namespace Go.Proofs.Ytiejkgapifpchaa.Pure
open Go.RowKit Go.Proofs.Ytiejkgapifpchaa.ORootNorms Go.Proofs.YtiejkgapifpchaaW.PrintWords Go.Proofs.YtiejkgapifpchaaW.PrintLast Go.Proofs.YtiejkgapifpchaaW.PrintMore
open Go.Proofs.Ytiejkgapifpchaa.Math
set_option linter.unusedVariables false
/-- The whole root, by counting. -/
def isq : Nat → Nat
  | 0 => 0
  | n + 1 => if (isq n + 1) * (isq n + 1) ≤ n + 1 then isq n + 1 else isq n
theorem isq_is : ∀ n, isq n * isq n ≤ n ∧ n < (isq n + 1) * (isq n + 1)
  | 0 => by decide
  | n + 1 => by
    obtain ⟨h1, h2⟩ := isq_is n
    unfold isq
    split
    · rename_i h
      refine ⟨h, ?_⟩
      generalize isq n = s at *
      have : (s + 1 + 1) * (s + 1 + 1) = (s + 1) * (s + 1) + 2 * s + 3 := by simp only [Nat.add_mul, Nat.mul_add]; omega
      omega
    · omega
theorem sq_lt {a b : Nat} (h : a < b) : (a + 1) * (a + 1) ≤ b * b := Nat.mul_le_mul h h
theorem sq_one {x r s : Nat} (h1 : r * r ≤ x) (h2 : x < (r + 1) * (r + 1)) (h3 : s * s ≤ x) (h4 : x < (s + 1) * (s + 1)) : r = s := by
  rcases Nat.lt_trichotomy r s with h | h | h
  · have := sq_lt h; omega
  · exact h
  · have := sq_lt h; omega
theorem isq_of {x r : Nat} (h1 : r * r ≤ x) (h2 : x < (r + 1) * (r + 1)) : isq x = r := sq_one (isq_is x).1 (isq_is x).2 h1 h2
theorem isq_le {x r : Nat} (h : x < r * r) : isq x < r := by
  rcases Nat.lt_or_ge (isq x) r with h1 | h1
  · exact h1
  · have := Nat.mul_le_mul h1 h1
    have := (isq_is x).1
    omega
theorem isq_ge {x r : Nat} (h : r * r ≤ x) : r ≤ isq x := by
  rcases Nat.lt_or_ge (isq x) r with h1 | h1
  · have := sq_lt h1
    have := (isq_is x).2
    omega
  · exact h1
theorem isq_32 {x : Nat} (h : x < 18446744073709551616) : isq x < 4294967296 := isq_le h
theorem isq_mono {x y : Nat} (h : x ≤ y) : isq x ≤ isq y := isq_ge (Nat.le_trans (isq_is x).1 h)
/-- One step of the root's nearing: it is never below the root; where it doesn't go down, the root is reached. -/
theorem near_step {x r : Nat} (h0 : 0 < r) (hr : isq x ≤ r) : isq x ≤ (r + x / r) / 2 ∧ x / r ≤ r + 2 ∧ (r ≤ (r + x / r) / 2 → r = isq x) := by
  obtain ⟨h1, h2⟩ := isq_is x
  have hq1 : r * (x / r) ≤ x := Nat.mul_div_le x r
  have hq2 : x < r * (x / r + 1) := Nat.lt_mul_div_succ x h0
  generalize isq x = s at *
  generalize x / r = q at *
  have a1 : s ≤ (r + q) / 2 := by
    rcases Nat.lt_or_ge (r + q) (2 * s) with h | h
    · exfalso
      obtain ⟨d, hd⟩ : ∃ d, r = s + d := ⟨r - s, by omega⟩
      have hd2 : q + 1 + d ≤ s := by omega
      have h3 : r * (q + 1) ≤ (s + d) * (s - d) := by rw [hd]; exact Nat.mul_le_mul_left _ (by omega)
      have h4 : (s + d) * (s - d) + d * d = s * s := by
        obtain ⟨e, he⟩ : ∃ e, s = d + e := ⟨s - d, by omega⟩
        rw [he, show d + e - d = e by omega]
        simp only [Nat.add_mul, Nat.mul_add, Nat.mul_comm e d]
        omega
      omega
    · omega
  refine ⟨a1, ?_, ?_⟩
  · rcases Nat.lt_or_ge (r + 2) q with h | h
    · exfalso
      have h3 : r * (r + 3) ≤ r * q := Nat.mul_le_mul_left _ h
      have h4 : (s + 1) * (s + 1) ≤ (r + 1) * (r + 1) := Nat.mul_le_mul (by omega) (by omega)
      have h5 : (r + 1) * (r + 1) = r * r + 2 * r + 1 := by simp only [Nat.add_mul, Nat.mul_add]; omega
      have h6 : r * (r + 3) = r * r + 3 * r := by rw [Nat.mul_add]; omega
      omega
    · exact h
  · intro h
    have hq : r ≤ q := by omega
    have h3 : r * r ≤ r * q := Nat.mul_le_mul_left _ hq
    rcases Nat.lt_or_ge s r with h4 | h4
    · have := sq_lt h4; omega
    · omega
theorem tdiv_nat (a b : Nat) : Int.tdiv (a : Int) (b : Int) = ((a / b : Nat) : Int) := by
  rw [Int.tdiv_eq_ediv_of_nonneg (by omega)]; rfl
theorem sqrt_loop {x : Nat} (hx : x < 18446744073709551616) (hx0 : 0 < x) (d : Nat) : ∀ (k r : Nat), r ≤ d → d < k → 0 < r → isq x ≤ r → r ≤ 4294967296 → root_Sqrt.l0 k x r = some ((isq x : Nat) : Int) := by
  induction d with
  | zero => intro k r hd hk h0; omega
  | succ d ih =>
    intro k r hd hk h0 hs h32
    obtain ⟨k, rfl⟩ : ∃ m, k = m + 1 := ⟨k - 1, by omega⟩
    obtain ⟨a1, a2, a3⟩ := near_step h0 hs
    simp only [root_Sqrt.l0]
    have hz0 : x / r = 0 → r ≠ 1 := fun h h1 => by rw [h1, Nat.div_one] at h; omega
    rw [tdiv_nat]
    generalize x / r = q at *
    have e1 : IntKind.u64.wrap (q : Int) = (q : Int) := by rw [u64_in (by omega) (by omega)]
    have e2 : IntKind.u64.wrap ((r : Int) + (q : Int)) = ((r + q : Nat) : Int) := by rw [u64_in (by omega) (by omega)]; omega
    have e3 : IntKind.u64.wrap (Int.tdiv ((r + q : Nat) : Int) 2) = (((r + q) / 2 : Nat) : Int) := by
      have := tdiv_nat (r + q) 2
      rw [show ((2 : Nat) : Int) = 2 from rfl] at this
      rw [this, u64_in (by omega) (by omega)]
    rw [if_neg (by omega), e1, e2, e3]
    by_cases h : r ≤ (r + q) / 2
    · rw [if_pos (by omega), a3 h]
    · rw [if_neg (by omega)]
      have hpos : 0 < (r + q) / 2 := by
        by_cases hq : q = 0
        · have := hz0 hq; omega
        · omega
      exact ih k _ (by omega) (by omega) hpos a1 (by omega)
theorem bitLen_top : ∀ (f x : Nat), x < 2 ^ f → x < 2 ^ Lib.bitLenAux f x ∧ Lib.bitLenAux f x ≤ f
  | 0, x, h => ⟨by simpa [Lib.bitLenAux] using h, by simp [Lib.bitLenAux]⟩
  | f + 1, x, h => by
    unfold Lib.bitLenAux
    split
    · rename_i hz; subst hz; simp
    · have hp : 2 ^ (f + 1) = 2 * 2 ^ f := by rw [Nat.pow_succ]; omega
      obtain ⟨h1, h2⟩ := bitLen_top f (x / 2) (by omega)
      rw [Nat.add_comm 1, Nat.pow_succ]
      exact ⟨by omega, by omega⟩
theorem two_64 : 2 ^ 64 = 18446744073709551616 := by decide
theorem bitLen_64 {x : Nat} (hx : x < 18446744073709551616) : x < 2 ^ Lib.bitLen x ∧ Lib.bitLen x ≤ 64 := by
  unfold Lib.bitLen
  exact bitLen_top 64 x (by rw [two_64]; exact hx)
theorem len_is {x : Nat} (hx : x < 18446744073709551616) (k : Nat) : bits_Len64.f k x = some ((Lib.bitLen x : Nat) : Int) := by
  unfold bits_Len64.f
  rw [if_pos (by omega), Int.toNat_natCast]
theorem sqrt_is {x : Nat} (hx : x < 18446744073709551616) (k : Nat) (hk : 4294967297 < k) : root_Sqrt.f k x = some ((isq x : Nat) : Int) := by
  unfold root_Sqrt.f
  by_cases h0 : x = 0
  · subst h0; rw [if_pos (by omega)]; rfl
  rw [if_neg (by omega), len_is hx k, Option.bind_some]
  obtain ⟨b1, b2⟩ := bitLen_64 hx
  obtain ⟨L, hL⟩ : ∃ L, Lib.bitLen x = L := ⟨_, rfl⟩
  rw [hL] at b1 b2 ⊢
  obtain ⟨j, hj⟩ : ∃ j, (L + 1) / 2 = j := ⟨_, rfl⟩
  have e1 : wrap64 (Int.tdiv (wrap64 ((L : Int) + 1)) 2) = (j : Int) := by
    rw [w64 (n := (L : Int) + 1) (by omega) (by omega), Int.tdiv_eq_ediv_of_nonneg (by omega), w64 (by omega) (by omega)]; omega
  rw [e1, if_pos (by omega)]
  have hj32 : j ≤ 32 := by omega
  have hle : 2 ^ j ≤ 2 ^ 32 := Nat.pow_le_pow_right (by decide) hj32
  have hle' : 2 ^ j ≤ 4294967296 := hle
  have hp : 0 < 2 ^ j := Nat.two_pow_pos j
  have e2 : shl .u64 1 (j : Int) = ((2 ^ j : Nat) : Int) := by
    unfold shl
    have : min ((j : Int)).toNat IntKind.u64.bits = j := by simp [IntKind.bits]; omega
    rw [this, Int.one_mul, show ((2 : Int) ^ j) = ((2 ^ j : Nat) : Int) from (Int.natCast_pow 2 j).symm, u64_in (by omega) (by omega)]
  rw [e2]
  refine sqrt_loop hx (by omega) (2 ^ j) k (2 ^ j) (Nat.le_refl _) (by omega) hp ?_ hle'
  have hsq : x < 2 ^ j * 2 ^ j := by
    rw [← Nat.pow_add]
    exact Nat.lt_of_lt_of_le b1 (Nat.pow_le_pow_right (by decide) (by omega))
  exact Nat.le_of_lt (isq_le hsq)
theorem fits_is (r x : Nat) (hr : r < 18446744073709551616) (hx : x < 18446744073709551616) : spinetref03_Fits.f r x = some (decide (r * r ≤ x)) := by
  unfold spinetref03_Fits.f
  by_cases h0 : r = 0
  · subst h0; rw [if_pos (by omega)]; simp
  have hdl := Nat.div_le_self x r
  have := Nat.le_div_iff_mul_le (x := r) (y := x) (by omega : 0 < r)
  rw [if_neg (by omega), tdiv_nat]
  generalize x / r = q at *
  rw [u64_in (by omega) (by omega)]
  congr 1
  by_cases h : r * r ≤ x
  · rw [decide_eq_true h, decide_eq_true (by have := this.2 h; omega)]
  · rw [decide_eq_false h, decide_eq_false (fun h2 => h (this.1 (by omega)))]
theorem ref_sqrt_loop {x : Nat} (hx : x < 18446744073709551616) (j : Nat) : ∀ (k r : Nat), j < 33 → j < k → r + 2 ^ j ≤ 4294967296 → r * r ≤ x → x < (r + 2 ^ j) * (r + 2 ^ j) →
    spinetref03_Sqrt.l0 k x r ((2 ^ j / 2 : Nat) : Int) = some ((isq x : Nat) : Int) := by
  induction j with
  | zero =>
    intro k r hj hk hr h1 h2
    obtain ⟨k, rfl⟩ : ∃ m, k = m + 1 := ⟨k - 1, by omega⟩
    simp only [spinetref03_Sqrt.l0]
    rw [if_neg (by decide), isq_of h1 h2]
  | succ j ih =>
    intro k r hj hk hr h1 h2
    obtain ⟨k, rfl⟩ : ∃ m, k = m + 1 := ⟨k - 1, by omega⟩
    have hp : 0 < 2 ^ j := Nat.two_pow_pos j
    have hpp : 2 ^ (j + 1) = 2 * 2 ^ j := by rw [Nat.pow_succ]; omega
    have hh : 2 ^ (j + 1) / 2 = 2 ^ j := by omega
    rw [hh]
    rw [hpp] at hr h2
    simp only [spinetref03_Sqrt.l0]
    have ea : IntKind.u64.wrap ((r : Int) + ((2 ^ j : Nat) : Int)) = ((r + 2 ^ j : Nat) : Int) := by rw [u64_in (by omega) (by omega)]; omega
    have eb : IntKind.u64.wrap (Int.tdiv ((2 ^ j : Nat) : Int) 2) = ((2 ^ j / 2 : Nat) : Int) := by
      have := tdiv_nat (2 ^ j) 2
      rw [show ((2 : Nat) : Int) = 2 from rfl] at this
      rw [this, u64_in (by omega) (by omega)]
    rw [if_pos (by omega), ea, eb, fits_is _ _ (by omega) hx]
    simp only [Option.bind_some]
    by_cases h : (r + 2 ^ j) * (r + 2 ^ j) ≤ x
    · rw [decide_eq_true h]
      simp only [if_true]
      exact ih k (r + 2 ^ j) (by omega) (by omega) (by omega) h (by rw [show r + 2 ^ j + 2 ^ j = r + 2 * 2 ^ j by omega]; exact h2)
    · rw [decide_eq_false h]
      rw [if_neg (by decide)]
      exact ih k r (by omega) (by omega) (by omega) h1 (by omega)
theorem ref_sqrt {x : Nat} (hx : x < 18446744073709551616) (k : Nat) (hk : 40 < k) : spinetref03_Sqrt.f k x = some ((isq x : Nat) : Int) := by
  unfold spinetref03_Sqrt.f
  have := ref_sqrt_loop hx 32 k 0 (by decide) (by omega) (by decide) (by omega) (by simpa using hx)
  exact this
theorem awake_3 (k : Nat) (hk : 40 ≤ k) : spinetlaw03_awake.f k = some true := by
  have h : spinetlaw03_awake.f 40 = some true := by decide +kernel
  exact at_rounds (g := fun k => spinetlaw03_awake.f k) (fun k => spinetlaw03_awake.mono k) hk h
theorem yv_is (x : Int) : yv x = min (max x (-134217728)) 134217728 := by unfold yv; rw [mx_eq, mn_eq]
theorem yv_sq (x : Int) : 0 ≤ yv x * yv x ∧ yv x * yv x ≤ 18014398509481984 := by
  have h : -134217728 ≤ yv x ∧ yv x ≤ 134217728 := by rw [yv_is]; omega
  have h1 : (yv x * yv x).natAbs ≤ 134217728 * 134217728 := by
    rw [Int.natAbs_mul]
    exact Nat.mul_le_mul (by omega) (by omega)
  have h2 : 0 ≤ yv x * yv x := by
    rcases Int.le_total 0 (yv x) with h3 | h3
    · exact Int.mul_nonneg h3 h3
    · exact Int.mul_nonneg_of_nonpos_of_nonpos h3 h3
  exact ⟨h2, by omega⟩
theorem yv_step (x s : Int) : IntKind.u64.wrap (s + IntKind.u64.wrap (wrap64 (yv x * yv x))) = IntKind.u64.wrap (s + yv x * yv x) := by
  have h := yv_sq x
  rw [w64 (by omega) (by omega), u64_in (n := yv x * yv x) (by omega) (by omega)]
theorem nsum_range : ∀ (l : List Int) (s : Int), 0 ≤ s ∧ s < 18446744073709551616 → 0 ≤ nsum l s ∧ nsum l s < 18446744073709551616
  | [], _ => fun h => h
  | x :: r, s => fun _ => nsum_range r _ (by rw [wrap_u64]; omega)
theorem length_is (xs : List Int) (k : Nat) (hk : 4294967297 < k) : ∃ n : Nat, nsum (xs.take 512) 0 = n ∧ n < 18446744073709551616 ∧ root_Norm.f k xs = some ((n : Nat) : Int) ∧ root_Length.f k xs = some ((isq n : Nat) : Int) := by
  obtain ⟨h0, h1⟩ := nsum_range (xs.take 512) 0 (by omega)
  obtain ⟨n, hn⟩ := Int.eq_ofNat_of_zero_le h0
  refine ⟨n, hn, by omega, by unfold root_Norm.f; rw [hn], ?_⟩
  unfold root_Length.f root_Norm.f
  rw [hn, Option.bind_some, sqrt_is (by omega) k hk, Option.bind_some]

theorem take_step (xs : List Int) (i : Nat) (h : i < xs.length) (h2 : i < 512) : (xs.take 512).drop i = rd xs i :: (xs.take 512).drop (i + 1) := by
  have hl : i < (xs.take 512).length := by rw [List.length_take]; omega
  rw [rd_drop hl]
  congr 1
  unfold rd
  rw [Int.toNat_natCast, List.getD_eq_getElem?_getD, List.getD_eq_getElem?_getD, List.getElem?_take_of_lt h2]
theorem ref_norm_loop (xs : List Int) (hn : xs.length ≤ 600) (hw : ∀ x ∈ xs, -2147483648 ≤ x ∧ x ≤ 2147483647) (d : Nat) : ∀ (k i : Nat) (s : Int), i + d = min xs.length 512 → 2 * d + 2 < k → spinetref03_Norm.l0 k xs s i = some (nsum ((xs.take 512).drop i) s) := by
  induction d with
  | zero =>
    intro k i s hi hk
    obtain ⟨k, rfl⟩ : ∃ m, k = m + 2 := ⟨k - 2, by omega⟩
    have hdrop : (xs.take 512).drop i = [] := List.drop_of_length_le (by rw [List.length_take]; omega)
    rw [hdrop, nsum, spinetref03_Norm.l0]
    by_cases h : i < xs.length
    · rw [if_pos (by omega), decide_eq_false (by omega), spinetref03_Norm.j1, if_neg (by decide)]
    · rw [if_neg (by omega), spinetref03_Norm.j1, if_neg (by decide)]
  | succ d ih =>
    intro k i s hi hk
    obtain ⟨k, rfl⟩ : ∃ m, k = m + 2 := ⟨k - 2, by omega⟩
    have hlt : i < xs.length := by omega
    obtain ⟨x0, x1⟩ := hw _ (rd_mem hlt)
    rw [take_step xs i hlt (by omega), nsum, yv_step, spinetref03_Norm.l0, if_pos (by omega), decide_eq_true (by omega), spinetref03_Norm.j1, if_pos rfl, if_pos (by omega), if_pos (by omega), step64 hlt (by omega)]
    have hi' := fun s => ih k (i + 1) s (by omega) (by omega)
    generalize rd xs i = x at *
    have hyv := yv_is x
    rw [w64 (n := x) (by omega) (by omega)]
    by_cases hneg : x < 0
    · rw [if_pos hneg, w64 (n := -x) (by omega) (by omega)]
      by_cases hbig : -x > 134217728
      · have e : yv x = -134217728 := by rw [hyv]; omega
        rw [if_pos hbig, hi', e]; rfl
      · have e : yv x = x := by rw [hyv]; omega
        have h1 : (x * x).natAbs ≤ 134217728 * 134217728 := by
          rw [Int.natAbs_mul]
          exact Nat.mul_le_mul (by omega) (by omega)
        have h2 : 0 ≤ x * x := Int.mul_nonneg_of_nonpos_of_nonpos (by omega) (by omega)
        rw [if_neg hbig, u64_in (n := -x) (by omega) (by omega), Int.neg_mul_neg, u64_in (n := x * x) (by omega) (by omega), hi', e]
    · rw [if_neg hneg]
      by_cases hbig : x > 134217728
      · have e : yv x = 134217728 := by rw [hyv]; omega
        rw [if_pos hbig, hi', e]
      · have e : yv x = x := by rw [hyv]; omega
        have h1 : (x * x).natAbs ≤ 134217728 * 134217728 := by
          rw [Int.natAbs_mul]
          exact Nat.mul_le_mul (by omega) (by omega)
        have h2 : 0 ≤ x * x := Int.mul_nonneg (by omega) (by omega)
        rw [if_neg hbig, u64_in (n := x) (by omega) (by omega), u64_in (n := x * x) (by omega) (by omega), hi', e]
theorem RootNorms : spinetlaw03_RootNorms.Pure := by
  intro xs hmax hlen hw
  have hw' : ∀ x ∈ xs, -2147483648 ≤ x ∧ x ≤ 2147483647 := fun x h => wf_i32 (hw x h)
  refine ⟨4294968000, ?_⟩
  rw [spinetlaw03_RootNorms.f, awake_3 4294968000 (by decide), Option.bind_some, if_pos rfl]
  by_cases hl : (xs.length : Int) > 600
  · rw [if_pos hl]
  rw [if_neg hl]
  obtain ⟨n, h1, h2, h3, h4⟩ := length_is xs 4294968000 (by decide)
  have hr : spinetref03_Norm.f 4294968000 xs = some ((n : Nat) : Int) := by
    rw [← h1]
    exact ref_norm_loop xs (by omega) hw' (min xs.length 512) 4294968000 0 0 (by omega) (by omega)
  rw [hr, Option.bind_some, h3, Option.bind_some, if_pos rfl, h4, Option.bind_some, ref_sqrt h2 4294968000 (by decide), Option.bind_some, beq_self_eq_true]

end Go.Proofs.Ytiejkgapifpchaa.Pure
