import Derived.Test.YtjmoklebimejaaaDoorPackPlain
/-! The packet's bytes while the raw bits are laid in. -/
namespace Go.Proofs.YtjmoklebimejaaaDoor.Pack
open Go.Proofs.YtjmoklebimejaaaDoor.Wr (dig)
theorem bi_nil (k : Nat) : bi [] k = 0 := bi_out [] k (Nat.zero_le _)
theorem rb_nil (q : Nat) : rb [] q = 0 := rb_out [] q (Nat.zero_le _)
theorem pk_zero {n m : Nat} {V : Int} (h : m + 3 ≤ n) : pk n m V [] = dig V (m + 3) ++ List.replicate (n - (m + 3)) 0 := by
  apply List.ext_getElem
  · rw [pk_len, List.length_append, Wr.dig_len, List.length_replicate]; omega
  · intro i h1 h2
    rw [pk_len] at h1
    have e := pk_get n m V [] i h1
    rw [List.getD_eq_getElem?_getD, List.getElem?_eq_getElem (by rw [pk_len]; exact h1), Option.getD_some] at e
    rw [e, pb, rb_nil, Int.add_zero]
    by_cases hi : i < m + 3
    · rw [if_pos hi, List.getElem_append_left (by rw [Wr.dig_len]; exact hi), List.getD_eq_getElem?_getD, List.getElem?_eq_getElem (by rw [Wr.dig_len]; exact hi), Option.getD_some]
    · rw [if_neg hi, List.getElem_append_right (by rw [Wr.dig_len]; omega), List.getElem_replicate]
theorem rb_lt (l : List Bool) (j : Nat) : rb (l.take j) (j / 8) < 2 ^ (j % 8) := by
  obtain ⟨a, b, hb, rfl⟩ : ∃ a b, b < 8 ∧ j = a * 8 + b := ⟨j / 8, j % 8, by omega, by omega⟩
  rw [show (a * 8 + b) / 8 = a by omega, show (a * 8 + b) % 8 = b by omega]
  have := bi_in l (a * 8); have := bi_in l (a * 8 + 1); have := bi_in l (a * 8 + 2); have := bi_in l (a * 8 + 3)
  have := bi_in l (a * 8 + 4); have := bi_in l (a * 8 + 5); have := bi_in l (a * 8 + 6); have := bi_in l (a * 8 + 7)
  unfold rb
  simp only [bi_take]
  rcases (by omega : b = 0 ∨ b = 1 ∨ b = 2 ∨ b = 3 ∨ b = 4 ∨ b = 5 ∨ b = 6 ∨ b = 7) with rfl | rfl | rfl | rfl | rfl | rfl | rfl | rfl <;> simp <;> omega
theorem pk_false {n m : Nat} {V : Int} {l : List Bool} {j : Nat} (h : l.getD j false = false) : pk n m V (l.take (j + 1)) = pk n m V (l.take j) := by
  unfold pk
  apply List.map_congr_left
  intro i hi
  have e : bi l j = 0 := by unfold bi; rw [h]; rfl
  unfold pb
  rw [rb_more, e]
  split <;> split <;> omega
theorem pk_true {n m : Nat} {V : Int} {l : List Bool} {j : Nat} (hj : j < l.length) (hf : l.length + 8 * (m + 3) ≤ 8 * n) (h : l.getD j false = true) :
    (pk n m V (l.take j)).set (n - 1 - j / 8) (rb (l.take j) (j / 8) + 2 ^ (j % 8)) = pk n m V (l.take (j + 1)) ∧ (pk n m V (l.take j)).getD (n - 1 - j / 8) 0 = rb (l.take j) (j / 8) := by
  have e : bi l j = 1 := by unfold bi; rw [h]; rfl
  have hjn : j / 8 < n := by omega
  have hat : (pk n m V (l.take j)).getD (n - 1 - j / 8) 0 = rb (l.take j) (j / 8) := by
    rw [pk_get _ _ _ _ _ (by omega), pb_raw (by omega), show n - 1 - (n - 1 - j / 8) = j / 8 by omega]
  refine ⟨?_, hat⟩
  apply List.ext_getElem
  · rw [List.length_set, pk_len, pk_len]
  · intro i h1 h2
    rw [List.length_set, pk_len] at h1
    have e1 := pk_get n m V (l.take (j + 1)) i h1
    rw [List.getD_eq_getElem?_getD, List.getElem?_eq_getElem (by rw [pk_len]; exact h1), Option.getD_some] at e1
    have e2 := pk_get n m V (l.take j) i h1
    rw [List.getD_eq_getElem?_getD, List.getElem?_eq_getElem (by rw [pk_len]; exact h1), Option.getD_some] at e2
    rw [List.getElem_set, e1, e2]
    unfold pb
    rw [rb_more, e, Int.one_mul]
    by_cases hi : n - 1 - j / 8 = i
    · rw [if_pos hi, if_neg (by omega), if_pos (by omega), show n - 1 - i = j / 8 by omega]
      omega
    · rw [if_neg hi, if_neg (c := j / 8 = n - 1 - i) (by omega)]
      omega
end Go.Proofs.YtjmoklebimejaaaDoor.Pack
namespace Go.Proofs.YtjmoklebimejaaaDoor.Pack
open Go.Proofs.YtjmoklebimejaaaDoor.Wr (dig)
theorem pk_at {n m : Nat} {V : Int} {l : List Bool} {i : Nat} (h : i < (pk n m V l).length) : (pk n m V l)[i] = pb n m V l i := by
  simp [pk]
theorem cut_front {n k m r : Nat} {V : Int} {l : List Bool} (hf : l.length + 8 * (m + 3) ≤ 8 * n) (hnk : n ≤ k) (hr : (l.length + 7) / 8 = r) : (pk k m V l).take (n - r) = (pk n m V l).take (n - r) := by
  apply List.ext_getElem
  · rw [List.length_take, List.length_take, pk_len, pk_len]; omega
  · intro i h1 h2
    rw [List.length_take, pk_len] at h2
    rw [List.getElem_take, List.getElem_take, pk_at, pk_at]
    unfold pb
    rw [rb_out l _ (by omega), rb_out l _ (by omega)]
theorem cut_back {n k m r : Nat} {V : Int} {l : List Bool} (hf : l.length + 8 * (m + 3) ≤ 8 * n) (hnk : n ≤ k) (hr : (l.length + 7) / 8 = r) : (pk k m V l).drop (k - r) = (pk n m V l).drop (n - r) := by
  apply List.ext_getElem
  · rw [List.length_drop, List.length_drop, pk_len, pk_len]; omega
  · intro i h1 h2
    rw [List.length_drop, pk_len] at h2
    rw [List.getElem_drop, List.getElem_drop, pk_at, pk_at, pb_raw (by omega), pb_raw (by omega)]
    congr 1
    omega
end Go.Proofs.YtjmoklebimejaaaDoor.Pack
