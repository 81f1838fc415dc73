/- No number of a list is longer than the list; as a part of its length it isn't more than the gain, up to 60 numbers from -2^20 to 2^20, gains from 0 to 2^20. Conditions: none but that each number fits its type. -/
import Derived.Test.YtiejkgapifpchaaORootWithinx2
import Derived.Test.YtiejkgapifpchaaMath
namespace Go.Proofs.Ytiejkgapifpchaa.Pure
open Go.RowKit Go.Proofs.Ytiejkgapifpchaa.ORootWithin Go.Proofs.YtiejkgapifpchaaW.PrintWords Go.Proofs.YtiejkgapifpchaaW.PrintLast Go.Proofs.YtiejkgapifpchaaW.PrintMore
open Go.Proofs.Ytiejkgapifpchaa.Math
set_option linter.unusedVariables false
/-- The whole root, by counting. -/
def isq : Nat → Nat
  | 0 => 0
  | n + 1 => if (isq n + 1) * (isq n + 1) ≤ n + 1 then isq n + 1 else isq n
theorem isq_is : ∀ n, isq n * isq n ≤ n ∧ n < (isq n + 1) * (isq n + 1)
  | 0 => by decide
  | n + 1 => by
    obtain ⟨h1, h2⟩ := isq_is n
    unfold isq
    split
    · rename_i h
      refine ⟨h, ?_⟩
      generalize isq n = s at *
      have : (s + 1 + 1) * (s + 1 + 1) = (s + 1) * (s + 1) + 2 * s + 3 := by simp only [Nat.add_mul, Nat.mul_add]; omega
      omega
    · omega
theorem sq_lt {a b : Nat} (h : a < b) : (a + 1) * (a + 1) ≤ b * b := Nat.mul_le_mul h h
theorem sq_one {x r s : Nat} (h1 : r * r ≤ x) (h2 : x < (r + 1) * (r + 1)) (h3 : s * s ≤ x) (h4 : x < (s + 1) * (s + 1)) : r = s := by
  rcases Nat.lt_trichotomy r s with h | h | h
  · have := sq_lt h; omega
  · exact h
  · have := sq_lt h; omega
theorem isq_of {x r : Nat} (h1 : r * r ≤ x) (h2 : x < (r + 1) * (r + 1)) : isq x = r := sq_one (isq_is x).1 (isq_is x).2 h1 h2
theorem isq_le {x r : Nat} (h : x < r * r) : isq x < r := by
  rcases Nat.lt_or_ge (isq x) r with h1 | h1
  · exact h1
  · have := Nat.mul_le_mul h1 h1
    have := (isq_is x).1
    omega
theorem isq_ge {x r : Nat} (h : r * r ≤ x) : r ≤ isq x := by
  rcases Nat.lt_or_ge (isq x) r with h1 | h1
  · have := sq_lt h1
    have := (isq_is x).2
    omega
  · exact h1
theorem isq_32 {x : Nat} (h : x < 18446744073709551616) : isq x < 4294967296 := isq_le h
theorem isq_mono {x y : Nat} (h : x ≤ y) : isq x ≤ isq y := isq_ge (Nat.le_trans (isq_is x).1 h)
/-- One step of the root's nearing: it is never below the root; where it doesn't go down, the root is reached. -/
theorem near_step {x r : Nat} (h0 : 0 < r) (hr : isq x ≤ r) : isq x ≤ (r + x / r) / 2 ∧ x / r ≤ r + 2 ∧ (r ≤ (r + x / r) / 2 → r = isq x) := by
  obtain ⟨h1, h2⟩ := isq_is x
  have hq1 : r * (x / r) ≤ x := Nat.mul_div_le x r
  have hq2 : x < r * (x / r + 1) := Nat.lt_mul_div_succ x h0
  generalize isq x = s at *
  generalize x / r = q at *
  have a1 : s ≤ (r + q) / 2 := by
    rcases Nat.lt_or_ge (r + q) (2 * s) with h | h
    · exfalso
      obtain ⟨d, hd⟩ : ∃ d, r = s + d := ⟨r - s, by omega⟩
      have hd2 : q + 1 + d ≤ s := by omega
      have h3 : r * (q + 1) ≤ (s + d) * (s - d) := by rw [hd]; exact Nat.mul_le_mul_left _ (by omega)
      have h4 : (s + d) * (s - d) + d * d = s * s := by
        obtain ⟨e, he⟩ : ∃ e, s = d + e := ⟨s - d, by omega⟩
        rw [he, show d + e - d = e by omega]
        simp only [Nat.add_mul, Nat.mul_add, Nat.mul_comm e d]
        omega
      omega
    · omega
  refine ⟨a1, ?_, ?_⟩
  · rcases Nat.lt_or_ge (r + 2) q with h | h
    · exfalso
      have h3 : r * (r + 3) ≤ r * q := Nat.mul_le_mul_left _ h
      have h4 : (s + 1) * (s + 1) ≤ (r + 1) * (r + 1) := Nat.mul_le_mul (by omega) (by omega)
      have h5 : (r + 1) * (r + 1) = r * r + 2 * r + 1 := by simp only [Nat.add_mul, Nat.mul_add]; omega
      have h6 : r * (r + 3) = r * r + 3 * r := by rw [Nat.mul_add]; omega
      omega
    · exact h
  · intro h
    have hq : r ≤ q := by omega
    have h3 : r * r ≤ r * q := Nat.mul_le_mul_left _ hq
    rcases Nat.lt_or_ge s r with h4 | h4
    · have := sq_lt h4; omega
    · omega
theorem tdiv_nat (a b : Nat) : Int.tdiv (a : Int) (b : Int) = ((a / b : Nat) : Int) := by
  rw [Int.tdiv_eq_ediv_of_nonneg (by omega)]; rfl
theorem sqrt_loop {x : Nat} (hx : x < 18446744073709551616) (hx0 : 0 < x) (d : Nat) : ∀ (k r : Nat), r ≤ d → d < k → 0 < r → isq x ≤ r → r ≤ 4294967296 → root_Sqrt.l0 k x r = some ((isq x : Nat) : Int) := by
  induction d with
  | zero => intro k r hd hk h0; omega
  | succ d ih =>
    intro k r hd hk h0 hs h32
    obtain ⟨k, rfl⟩ : ∃ m, k = m + 1 := ⟨k - 1, by omega⟩
    obtain ⟨a1, a2, a3⟩ := near_step h0 hs
    simp only [root_Sqrt.l0]
    have hz0 : x / r = 0 → r ≠ 1 := fun h h1 => by rw [h1, Nat.div_one] at h; omega
    rw [tdiv_nat]
    generalize x / r = q at *
    have e1 : IntKind.u64.wrap (q : Int) = (q : Int) := by rw [u64_in (by omega) (by omega)]
    have e2 : IntKind.u64.wrap ((r : Int) + (q : Int)) = ((r + q : Nat) : Int) := by rw [u64_in (by omega) (by omega)]; omega
    have e3 : IntKind.u64.wrap (Int.tdiv ((r + q : Nat) : Int) 2) = (((r + q) / 2 : Nat) : Int) := by
      have := tdiv_nat (r + q) 2
      rw [show ((2 : Nat) : Int) = 2 from rfl] at this
      rw [this, u64_in (by omega) (by omega)]
    rw [if_neg (by omega), e1, e2, e3]
    by_cases h : r ≤ (r + q) / 2
    · rw [if_pos (by omega), a3 h]
    · rw [if_neg (by omega)]
      have hpos : 0 < (r + q) / 2 := by
        by_cases hq : q = 0
        · have := hz0 hq; omega
        · omega
      exact ih k _ (by omega) (by omega) hpos a1 (by omega)
theorem bitLen_top : ∀ (f x : Nat), x < 2 ^ f → x < 2 ^ Lib.bitLenAux f x ∧ Lib.bitLenAux f x ≤ f
  | 0, x, h => ⟨by simpa [Lib.bitLenAux] using h, by simp [Lib.bitLenAux]⟩
  | f + 1, x, h => by
    unfold Lib.bitLenAux
    split
    · rename_i hz; subst hz; simp
    · have hp : 2 ^ (f + 1) = 2 * 2 ^ f := by rw [Nat.pow_succ]; omega
      obtain ⟨h1, h2⟩ := bitLen_top f (x / 2) (by omega)
      rw [Nat.add_comm 1, Nat.pow_succ]
      exact ⟨by omega, by omega⟩
theorem two_64 : 2 ^ 64 = 18446744073709551616 := by decide
theorem bitLen_64 {x : Nat} (hx : x < 18446744073709551616) : x < 2 ^ Lib.bitLen x ∧ Lib.bitLen x ≤ 64 := by
  unfold Lib.bitLen
  exact bitLen_top 64 x (by rw [two_64]; exact hx)
theorem len_is {x : Nat} (hx : x < 18446744073709551616) (k : Nat) : bits_Len64.f k x = some ((Lib.bitLen x : Nat) : Int) := by
  unfold bits_Len64.f
  rw [if_pos (by omega), Int.toNat_natCast]
theorem sqrt_is {x : Nat} (hx : x < 18446744073709551616) (k : Nat) (hk : 4294967297 < k) : root_Sqrt.f k x = some ((isq x : Nat) : Int) := by
  unfold root_Sqrt.f
  by_cases h0 : x = 0
  · subst h0; rw [if_pos (by omega)]; rfl
  rw [if_neg (by omega), len_is hx k, Option.bind_some]
  obtain ⟨b1, b2⟩ := bitLen_64 hx
  obtain ⟨L, hL⟩ : ∃ L, Lib.bitLen x = L := ⟨_, rfl⟩
  rw [hL] at b1 b2 ⊢
  obtain ⟨j, hj⟩ : ∃ j, (L + 1) / 2 = j := ⟨_, rfl⟩
  have e1 : wrap64 (Int.tdiv (wrap64 ((L : Int) + 1)) 2) = (j : Int) := by
    rw [w64 (n := (L : Int) + 1) (by omega) (by omega), Int.tdiv_eq_ediv_of_nonneg (by omega), w64 (by omega) (by omega)]; omega
  rw [e1, if_pos (by omega)]
  have hj32 : j ≤ 32 := by omega
  have hle : 2 ^ j ≤ 2 ^ 32 := Nat.pow_le_pow_right (by decide) hj32
  have hle' : 2 ^ j ≤ 4294967296 := hle
  have hp : 0 < 2 ^ j := Nat.two_pow_pos j
  have e2 : shl .u64 1 (j : Int) = ((2 ^ j : Nat) : Int) := by
    unfold shl
    have : min ((j : Int)).toNat IntKind.u64.bits = j := by simp [IntKind.bits]; omega
    rw [this, Int.one_mul, show ((2 : Int) ^ j) = ((2 ^ j : Nat) : Int) from (Int.natCast_pow 2 j).symm, u64_in (by omega) (by omega)]
  rw [e2]
  refine sqrt_loop hx (by omega) (2 ^ j) k (2 ^ j) (Nat.le_refl _) (by omega) hp ?_ hle'
  have hsq : x < 2 ^ j * 2 ^ j := by
    rw [← Nat.pow_add]
    exact Nat.lt_of_lt_of_le b1 (Nat.pow_le_pow_right (by decide) (by omega))
  exact Nat.le_of_lt (isq_le hsq)
theorem awake_3 (k : Nat) (hk : 40 ≤ k) : spinetlaw03_awake.f k = some true := by
  have h : spinetlaw03_awake.f 40 = some true := by decide +kernel
  exact at_rounds (g := fun k => spinetlaw03_awake.f k) (fun k => spinetlaw03_awake.mono k) hk h
theorem yv_is (x : Int) : yv x = min (max x (-134217728)) 134217728 := by unfold yv; rw [mx_eq, mn_eq]
theorem yv_sq (x : Int) : 0 ≤ yv x * yv x ∧ yv x * yv x ≤ 18014398509481984 := by
  have h : -134217728 ≤ yv x ∧ yv x ≤ 134217728 := by rw [yv_is]; omega
  have h1 : (yv x * yv x).natAbs ≤ 134217728 * 134217728 := by
    rw [Int.natAbs_mul]
    exact Nat.mul_le_mul (by omega) (by omega)
  have h2 : 0 ≤ yv x * yv x := by
    rcases Int.le_total 0 (yv x) with h3 | h3
    · exact Int.mul_nonneg h3 h3
    · exact Int.mul_nonneg_of_nonpos_of_nonpos h3 h3
  exact ⟨h2, by omega⟩
theorem yv_step (x s : Int) : IntKind.u64.wrap (s + IntKind.u64.wrap (wrap64 (yv x * yv x))) = IntKind.u64.wrap (s + yv x * yv x) := by
  have h := yv_sq x
  rw [w64 (by omega) (by omega), u64_in (n := yv x * yv x) (by omega) (by omega)]
theorem nsum_range : ∀ (l : List Int) (s : Int), 0 ≤ s ∧ s < 18446744073709551616 → 0 ≤ nsum l s ∧ nsum l s < 18446744073709551616
  | [], _ => fun h => h
  | x :: r, s => fun _ => nsum_range r _ (by rw [wrap_u64]; omega)
theorem length_is (xs : List Int) (k : Nat) (hk : 4294967297 < k) : ∃ n : Nat, nsum (xs.take 512) 0 = n ∧ n < 18446744073709551616 ∧ root_Norm.f k xs = some ((n : Nat) : Int) ∧ root_Length.f k xs = some ((isq n : Nat) : Int) := by
  obtain ⟨h0, h1⟩ := nsum_range (xs.take 512) 0 (by omega)
  obtain ⟨n, hn⟩ := Int.eq_ofNat_of_zero_le h0
  refine ⟨n, hn, by omega, by unfold root_Norm.f; rw [hn], ?_⟩
  unfold root_Length.f root_Norm.f
  rw [hn, Option.bind_some, sqrt_is (by omega) k hk, Option.bind_some]

def sqs : List Int → Nat
  | [] => 0
  | x :: r => x.natAbs * x.natAbs + sqs r
theorem sqs_mem : ∀ (l : List Int) (x : Int), x ∈ l → x.natAbs * x.natAbs ≤ sqs l
  | [], _, h => by cases h
  | y :: r, x, h => by
    unfold sqs
    rcases List.mem_cons.1 h with h | h
    · subst h; omega
    · have := sqs_mem r x h; omega
theorem sqs_le : ∀ (l : List Int), (∀ x ∈ l, -1048576 ≤ x ∧ x ≤ 1048576) → sqs l ≤ l.length * 1099511627776
  | [], _ => by simp [sqs]
  | x :: r, h => by
    obtain ⟨h0, h1⟩ := h x (List.mem_cons_self ..)
    have h2 := sqs_le r (fun y hy => h y (List.mem_cons_of_mem _ hy))
    have h3 : x.natAbs * x.natAbs ≤ 1048576 * 1048576 := Nat.mul_le_mul (by omega) (by omega)
    unfold sqs
    rw [List.length_cons, Nat.succ_mul]; omega
theorem nsum_sqs : ∀ (l : List Int) (s : Nat), (∀ x ∈ l, -1048576 ≤ x ∧ x ≤ 1048576) → s + sqs l < 18446744073709551616 → nsum l s = ((s + sqs l : Nat) : Int)
  | [], s, _, _ => by simp [nsum, sqs]
  | x :: r, s, h, hs => by
    obtain ⟨h0, h1⟩ := h x (List.mem_cons_self ..)
    unfold sqs at hs ⊢
    have hy : yv x = x := by rw [yv_is]; omega
    have hm : x * x = ((x.natAbs * x.natAbs : Nat) : Int) := by rw [Int.natCast_mul]; exact (Int.natAbs_mul_self' x).symm
    rw [nsum, yv_step, hy, hm]
    have e : IntKind.u64.wrap ((s : Int) + ((x.natAbs * x.natAbs : Nat) : Int)) = ((s + x.natAbs * x.natAbs : Nat) : Int) := by rw [u64_in (by omega) (by omega)]; omega
    rw [e, nsum_sqs r _ (fun y hy => h y (List.mem_cons_of_mem _ hy)) (by omega)]
    congr 1; omega
theorem part_is (x g : Int) (n : Nat) (hx0 : -1048576 ≤ x) (hx1 : x ≤ 1048576) (hg0 : 0 ≤ g) (hg1 : g ≤ 1048576) (hn : n < 4294967296) (hxn : x.natAbs ≤ n) :
    ∃ p, root_Part.f x g n = some p ∧ p ≤ g ∧ -g ≤ p ∧ (n = 0 → p = 0) := by
  unfold root_Part.f
  by_cases h0 : n = 0
  · subst h0; rw [if_pos (by omega)]; exact ⟨0, rfl, hg0, by omega, fun _ => rfl⟩
  rw [if_neg (by omega), if_neg (by omega), w64 (n := (n : Int)) (by omega) (by omega), if_neg (by omega), w64 (n := x) (by omega) (by omega), mx_eq, mn_eq]
  have hgc : min (max g (-1073741824)) 1073741824 = g := by omega
  rw [hgc]
  have hxg : (x * g).natAbs = x.natAbs * g.natAbs := Int.natAbs_mul x g
  have hb : x.natAbs * g.natAbs ≤ 1048576 * 1048576 := Nat.mul_le_mul (by omega) (by omega)
  rw [w64 (n := x * g) (by omega) (by omega)]
  have hd : (Int.tdiv (x * g) n).natAbs = (x.natAbs * g.natAbs) / n := by rw [Int.natAbs_tdiv, hxg]; rfl
  have hle : (x.natAbs * g.natAbs) / n ≤ g.natAbs := by
    refine Nat.div_le_of_le_mul ?_
    exact Nat.mul_le_mul_right _ hxn
  rw [w64 (by omega) (by omega)]
  exact ⟨_, rfl, by omega, by omega, fun h => absurd h h0⟩
theorem within_l1 (xs : List Int) (hn : xs.length ≤ 60) (hw : ∀ x ∈ xs, -1048576 ≤ x ∧ x ≤ 1048576) (g : Int) (hg0 : 0 ≤ g) (hg1 : g ≤ 1048576) (n : Nat) (hn32 : n < 4294967296) (hm : ∀ x ∈ xs, x.natAbs ≤ n) (d : Nat) :
    ∀ (k i : Nat), i + d = xs.length → d < k → spinetlaw03_RootWithin.l1 k n g xs xs.length i = some true := by
  induction d with
  | zero =>
    intro k i hi hk
    obtain ⟨k, rfl⟩ : ∃ m, k = m + 1 := ⟨k - 1, by omega⟩
    rw [spinetlaw03_RootWithin.l1, if_neg (by omega)]
  | succ d ih =>
    intro k i hi hk
    obtain ⟨k, rfl⟩ : ∃ m, k = m + 1 := ⟨k - 1, by omega⟩
    have hlt : i < xs.length := by omega
    obtain ⟨x0, x1⟩ := hw _ (rd_mem hlt)
    have hxn := hm _ (rd_mem hlt)
    obtain ⟨p, hp, p1, p2, p3⟩ := part_is (rd xs i) g n x0 x1 hg0 hg1 hn32 hxn
    have hnx := ih k (i + 1) (by omega) (by omega)
    have e1 : IntKind.u64.wrap (n : Int) = (n : Int) := u64_in (by omega) (by omega)
    rw [spinetlaw03_RootWithin.l1, if_pos (by omega), if_pos (by omega), if_pos (by omega), e1, hp, Option.bind_some, step64 hlt (by omega), hnx]
    generalize rd xs i = x at *
    have e2 : wrap64 (wrap32 (-x)) = -x := by unfold wrap32; rw [w64 (by omega) (by omega)]; omega
    rw [w64 (n := x) (by omega) (by omega), e2, w64 (n := -g) (by omega) (by omega), if_neg (by omega), if_neg (by omega), if_neg (by omega), if_neg (by omega)]
    by_cases hz : n = 0
    · rw [if_pos (by omega), if_pos (p3 hz)]
    · rw [if_neg (by omega)]
theorem within_l0 (xs : List Int) (hn : xs.length ≤ 60) (hw : ∀ x ∈ xs, -2147483648 ≤ x ∧ x ≤ 2147483647) (g : Int) (hg0 : 0 ≤ g) (hg1 : g ≤ 1048576) (d : Nat) :
    ∀ (k i : Nat), i + d = xs.length → d + 4294967400 < k → (∀ j : Nat, j < i → -1048576 ≤ rd xs j ∧ rd xs j ≤ 1048576) → spinetlaw03_RootWithin.l0 k xs g xs xs.length i = some true := by
  induction d with
  | zero =>
    intro k i hi hk hall
    obtain ⟨k, rfl⟩ : ∃ m, k = m + 1 := ⟨k - 1, by omega⟩
    have hw2 : ∀ x ∈ xs, -1048576 ≤ x ∧ x ≤ 1048576 := by
      intro x hx
      obtain ⟨j, hj, he⟩ := List.mem_iff_getElem.1 hx
      have h := hall j (by omega)
      have hr : rd xs j = x := by unfold rd; rw [Int.toNat_natCast, List.getD_eq_getElem?_getD, List.getElem?_eq_getElem hj, ← he]; rfl
      rw [hr] at h
      exact h
    obtain ⟨n, h1, h2, _, h4⟩ := length_is xs k (by omega)
    have htk : xs.take 512 = xs := List.take_of_length_le (by omega)
    have hsq := sqs_le xs hw2
    have hlen : xs.length * 1099511627776 ≤ 60 * 1099511627776 := Nat.mul_le_mul_right _ hn
    have hsum := nsum_sqs xs 0 hw2 (by omega)
    rw [htk] at h1
    have hns : n = sqs xs := by
      have h5 : ((n : Nat) : Int) = ((0 + sqs xs : Nat) : Int) := by rw [← h1]; exact hsum
      omega
    have hi32 := isq_32 h2
    rw [spinetlaw03_RootWithin.l0, if_neg (by omega), h4, Option.bind_some, w64 (n := ((isq n : Nat) : Int)) (by omega) (by omega), w64 (n := g) (by omega) (by omega)]
    refine within_l1 xs hn hw2 g hg0 hg1 (isq n) hi32 ?_ xs.length k 0 (by omega) (by omega)
    intro x hx
    exact isq_ge (by rw [hns]; exact sqs_mem xs x hx)
  | succ d ih =>
    intro k i hi hk hall
    obtain ⟨k, rfl⟩ : ∃ m, k = m + 1 := ⟨k - 1, by omega⟩
    have hlt : i < xs.length := by omega
    rw [spinetlaw03_RootWithin.l0, if_pos (by omega), if_pos (by omega), if_pos (by omega)]
    by_cases h1 : rd xs i > 1048576
    · rw [if_pos h1]
    rw [if_neg h1]
    by_cases h2 : rd xs i < -1048576
    · rw [if_pos h2]
    rw [if_neg h2, step64 hlt (by omega)]
    refine ih k (i + 1) (by omega) (by omega) ?_
    intro j hj
    by_cases e : j = i
    · subst e; omega
    · exact hall j (by omega)
theorem RootWithin : spinetlaw03_RootWithin.Pure := by
  intro xs g hmax hlen hw hg
  obtain ⟨g0, g1⟩ := wf_u32 hg
  have hw' : ∀ x ∈ xs, -2147483648 ≤ x ∧ x ≤ 2147483647 := fun x h => wf_i32 (hw x h)
  refine ⟨4294968000, ?_⟩
  rw [spinetlaw03_RootWithin.f, awake_3 4294968000 (by decide), Option.bind_some, if_pos rfl]
  by_cases hl : (xs.length : Int) > 60
  · rw [if_pos hl]; rfl
  rw [if_neg hl]
  show spinetlaw03_RootWithin.j0 (4294967999 + 1) _ _ _ = some true
  rw [spinetlaw03_RootWithin.j0]
  by_cases hg2 : g > 1048576
  · rw [decide_eq_true hg2, if_pos rfl]
  rw [decide_eq_false hg2, if_neg (by decide)]
  exact within_l0 xs (by omega) hw' g g0 (by omega) xs.length 4294967999 0 (by omega) (by omega) (fun j hj => by omega)

end Go.Proofs.Ytiejkgapifpchaa.Pure
