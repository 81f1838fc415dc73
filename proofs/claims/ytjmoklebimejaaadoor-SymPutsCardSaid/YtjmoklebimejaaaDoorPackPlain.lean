import Derived.Test.YtjmoklebimejaaaDoorBackPlain
/-! The packet, as plain numbers: the digits from the front, the raw bits from behind. -/
namespace Go.Proofs.YtjmoklebimejaaaDoor.Pack
open Go.Proofs.YtjmoklebimejaaaDoor.Rd (by_)
open Go.Proofs.YtjmoklebimejaaaDoor.Wr (dig)
/-- A raw bit. -/
def bi (l : List Bool) (k : Nat) : Int := if l.getD k false then 1 else 0
theorem bi_in (l : List Bool) (k : Nat) : 0 ≤ bi l k ∧ bi l k ≤ 1 := by unfold bi; split <;> omega
theorem bi_out (l : List Bool) (k : Nat) (h : l.length ≤ k) : bi l k = 0 := by
  unfold bi; rw [List.getD_eq_getElem?_getD, List.getElem?_eq_none h]; rfl
/-- Eight of them as a byte. -/
def rb (l : List Bool) (q : Nat) : Int := bi l (q * 8) + bi l (q * 8 + 1) * 2 + bi l (q * 8 + 2) * 4 + bi l (q * 8 + 3) * 8 + bi l (q * 8 + 4) * 16 + bi l (q * 8 + 5) * 32 + bi l (q * 8 + 6) * 64 + bi l (q * 8 + 7) * 128
theorem rb_in (l : List Bool) (q : Nat) : 0 ≤ rb l q ∧ rb l q ≤ 255 := by
  have := bi_in l (q * 8); have := bi_in l (q * 8 + 1); have := bi_in l (q * 8 + 2); have := bi_in l (q * 8 + 3)
  have := bi_in l (q * 8 + 4); have := bi_in l (q * 8 + 5); have := bi_in l (q * 8 + 6); have := bi_in l (q * 8 + 7)
  unfold rb; omega
theorem rb_out (l : List Bool) (q : Nat) (h : l.length ≤ q * 8) : rb l q = 0 := by
  unfold rb
  rw [bi_out l _ h, bi_out l _ (by omega), bi_out l _ (by omega), bi_out l _ (by omega), bi_out l _ (by omega), bi_out l _ (by omega), bi_out l _ (by omega), bi_out l _ (by omega)]
  rfl
theorem rb_bit (l : List Bool) (q k : Nat) (hk : k < 8) : rb l q / 2 ^ k % 2 = bi l (q * 8 + k) := by
  have := bi_in l (q * 8); have := bi_in l (q * 8 + 1); have := bi_in l (q * 8 + 2); have := bi_in l (q * 8 + 3)
  have := bi_in l (q * 8 + 4); have := bi_in l (q * 8 + 5); have := bi_in l (q * 8 + 6); have := bi_in l (q * 8 + 7)
  unfold rb
  rcases (by omega : k = 0 ∨ k = 1 ∨ k = 2 ∨ k = 3 ∨ k = 4 ∨ k = 5 ∨ k = 6 ∨ k = 7) with rfl | rfl | rfl | rfl | rfl | rfl | rfl | rfl <;> simp only [Int.reducePow, Nat.add_zero] <;> omega
theorem bi_take (l : List Bool) (j k : Nat) : bi (l.take j) k = if k < j then bi l k else 0 := by
  unfold bi
  rw [List.getD_eq_getElem?_getD, List.getElem?_take]
  split
  · rw [List.getD_eq_getElem?_getD]
  · rfl
/-- One bit more. -/
theorem rb_more (l : List Bool) (j q : Nat) : rb (l.take (j + 1)) q = rb (l.take j) q + if j / 8 = q then bi l j * 2 ^ (j % 8) else 0 := by
  obtain ⟨a, b, hb, rfl⟩ : ∃ a b, b < 8 ∧ j = a * 8 + b := ⟨j / 8, j % 8, by omega, by omega⟩
  rw [show (a * 8 + b) / 8 = a by omega, show (a * 8 + b) % 8 = b by omega]
  unfold rb
  simp only [bi_take]
  by_cases hq : a = q
  · subst hq
    rw [if_pos rfl]
    rcases (by omega : b = 0 ∨ b = 1 ∨ b = 2 ∨ b = 3 ∨ b = 4 ∨ b = 5 ∨ b = 6 ∨ b = 7) with rfl | rfl | rfl | rfl | rfl | rfl | rfl | rfl <;> simp <;> omega
  · rw [if_neg hq]
    rcases (by omega : q < a ∨ a < q) with h | h
    · rw [if_pos (by omega), if_pos (by omega), if_pos (by omega), if_pos (by omega), if_pos (by omega), if_pos (by omega), if_pos (by omega), if_pos (by omega)]
      rw [if_pos (by omega), if_pos (by omega), if_pos (by omega), if_pos (by omega), if_pos (by omega), if_pos (by omega), if_pos (by omega), if_pos (by omega)]
      omega
    · rw [if_neg (by omega), if_neg (by omega), if_neg (by omega), if_neg (by omega), if_neg (by omega), if_neg (by omega), if_neg (by omega), if_neg (by omega)]
      rw [if_neg (by omega), if_neg (by omega), if_neg (by omega), if_neg (by omega), if_neg (by omega), if_neg (by omega), if_neg (by omega), if_neg (by omega)]
      omega
/-- A byte of the packet. -/
def pb (n m : Nat) (V : Int) (l : List Bool) (i : Nat) : Int := (if i < m + 3 then (dig V (m + 3)).getD i 0 else 0) + rb l (n - 1 - i)
def pk (n m : Nat) (V : Int) (l : List Bool) : List Int := (List.range n).map (pb n m V l)
theorem pk_len (n m : Nat) (V : Int) (l : List Bool) : (pk n m V l).length = n := by simp [pk]
theorem pk_get (n m : Nat) (V : Int) (l : List Bool) (i : Nat) (h : i < n) : (pk n m V l).getD i 0 = pb n m V l i := by
  unfold pk
  rw [List.getD_eq_getElem?_getD, List.getElem?_map, List.getElem?_range h]
  rfl
/-- It fits: no raw bit stands in a digit's byte. -/
theorem pb_digit {n m : Nat} {V : Int} {l : List Bool} (hf : l.length + 8 * (m + 3) ≤ 8 * n) {i : Nat} (h : i < m + 3) : pb n m V l i = V / 256 ^ (m + 2 - i) % 256 := by
  unfold pb
  rw [if_pos h, rb_out l _ (by omega), Wr.dig_get _ _ _ h, Int.add_zero]
  rfl
theorem pb_raw {n m : Nat} {V : Int} {l : List Bool} {i : Nat} (h : m + 3 ≤ i) : pb n m V l i = rb l (n - 1 - i) := by
  unfold pb
  rw [if_neg (by omega), Int.zero_add]
theorem pk_in {n m : Nat} {V : Int} {l : List Bool} (hf : l.length + 8 * (m + 3) ≤ 8 * n) : Rd.Bytes (pk n m V l) := by
  intro x hx
  unfold pk at hx
  obtain ⟨i, hi, rfl⟩ := List.mem_map.mp hx
  by_cases h : i < m + 3
  · rw [pb_digit hf h]; omega
  · rw [pb_raw (by omega)]; exact rb_in _ _
theorem pk_digits {n : Nat} {F : Wr.St} {l : List Bool} (hf : l.length + 8 * (F.m + 3) ≤ 8 * n) : Back.Digits (pk n F.m F.V l) F := by
  intro i hi
  unfold by_
  rw [pk_get _ _ _ _ _ (by omega), pb_digit hf hi]
theorem pk_bit {n m : Nat} {V : Int} {l : List Bool} (hf : l.length + 8 * (m + 3) ≤ 8 * n) (k : Nat) (hk : k < l.length) : Rd.bit (pk n m V l) k = bi l k := by
  unfold Rd.bit by_
  rw [pk_len, if_pos (by omega), pk_get _ _ _ _ _ (by omega), pb_raw (by omega), rb_bit _ _ _ (by omega), show (n - 1 - (n - 1 - k / 8)) * 8 + k % 8 = k by omega]
/-- A number's low bits, as put. -/
def lo (x : Int) (i : Nat) : Bool := x / 2 ^ i % 2 == 1
def bitsOf (x : Int) (n : Nat) : List Bool := (List.range n).map (lo x)
theorem bitsOf_len (x : Int) (n : Nat) : (bitsOf x n).length = n := by simp [bitsOf]
theorem bitsOf_more (x : Int) (n : Nat) : bitsOf x (n + 1) = bitsOf x n ++ [lo x n] := by simp [bitsOf, List.range_succ]
theorem bi_bitsOf (l r : List Bool) (x : Int) (n i : Nat) (h : i < n) : bi (l ++ bitsOf x n ++ r) (l.length + i) = x / 2 ^ i % 2 := by
  unfold bi
  rw [List.getD_eq_getElem?_getD, List.append_assoc, List.getElem?_append_right (by omega), show l.length + i - l.length = i by omega, List.getElem?_append_left (by rw [bitsOf_len]; exact h)]
  unfold bitsOf
  rw [List.getElem?_map, List.getElem?_range h]
  simp only [Option.map_some, Option.getD_some, lo, beq_iff_eq]
  split <;> omega
/-- Raw bits that are put are got. -/
theorem raw_back {n m : Nat} {V : Int} (l r : List Bool) (x : Int) (j : Nat) (h0 : 0 ≤ x) (h1 : x < 2 ^ j) (hf : (l ++ bitsOf x j ++ r).length + 8 * (m + 3) ≤ 8 * n) : Rd.raw (pk n m V (l ++ bitsOf x j ++ r)) l.length j = x := by
  have key : ∀ i, i ≤ j → Rd.raw (pk n m V (l ++ bitsOf x j ++ r)) l.length i = x % 2 ^ i := by
    intro i
    induction i with
    | zero => intro _; simp [Rd.raw]
    | succ i ih =>
      intro hi
      rw [Rd.raw, ih (by omega), pk_bit hf _ (by simp only [List.length_append, bitsOf_len]; omega), bi_bitsOf _ _ _ _ _ (by omega), Int.pow_succ]
      have hp : (0 : Int) < 2 ^ i := Int.pow_pos (by decide)
      obtain ⟨p, hp'⟩ : ∃ p : Int, 2 ^ i = p := ⟨_, rfl⟩
      rw [hp'] at hp ⊢
      have e1 := Int.emod_add_mul_ediv x p
      have e2 := Int.emod_add_mul_ediv (x / p) 2
      have e3 : x = (x % p + x / p % 2 * p) + p * 2 * (x / p / 2) := by
        rw [Int.mul_assoc, show x % p + x / p % 2 * p + p * (2 * (x / p / 2)) = x % p + p * (x / p % 2 + 2 * (x / p / 2)) by rw [Int.mul_add, Int.mul_comm (x / p % 2) p]; omega, e2]; omega
      have h2 : 0 ≤ x % p := Int.emod_nonneg _ (by omega)
      have h3 : x % p < p := Int.emod_lt_of_pos _ hp
      have h4 : 0 ≤ x % p + x / p % 2 * p ∧ x % p + x / p % 2 * p < p * 2 := by
        rcases (by omega : x / p % 2 = 0 ∨ x / p % 2 = 1) with e | e <;> rw [e] <;> omega
      have h5 := Int.add_mul_emod_self_left (x % p + x / p % 2 * p) (p * 2) (x / p / 2)
      rw [← e3, Int.emod_eq_of_lt h4.1 h4.2] at h5
      exact h5.symm
  rw [key j (Nat.le_refl _)]
  exact Int.emod_eq_of_lt h0 h1
end Go.Proofs.YtjmoklebimejaaaDoor.Pack
