import Derived.Test.YtjpnbdofbkoddaaDoorMathU
namespace Go.Proofs.YtjpnbdofbkoddaaDoor.Rd
structure St where
  t : Nat
  r : Nat
  g : Int
  v : Int
def by_ (B : List Int) (i : Nat) : Int := B.getD i 0
abbrev Bytes (B : List Int) : Prop := ∀ x ∈ B, 0 ≤ x ∧ x ≤ 255
theorem by_in {B : List Int} (h : Bytes B) (i : Nat) : 0 ≤ by_ B i ∧ by_ B i ≤ 255 := by
  unfold by_
  by_cases hi : i < B.length
  · rw [List.getD_eq_getElem?_getD, List.getElem?_eq_getElem hi, Option.getD_some]; exact h _ (List.getElem_mem hi)
  · rw [List.getD_eq_getElem?_getD, List.getElem?_eq_none (by omega), Option.getD_none]; omega
def stp (B : List Int) (s : St) : St := ⟨s.t + 1, s.r, s.g * 256, s.v * 256 + by_ B s.t⟩
def step (B : List Int) (s : St) : St := if s.g ≤ 65536 then stp B s else s
def rg (g a b n : Int) : Int := if b = n then g - a * (g / n) else (b - a) * (g / n)
def cut (s : St) (a b n : Int) : St := ⟨s.t, s.r, rg s.g a b n, min (s.v - min (a * (s.g / n)) s.v) (rg s.g a b n - 1)⟩
abbrev ok (a b n : Int) : Prop := 0 ≤ a ∧ a < b ∧ b ≤ n ∧ n ≤ 4096
def take (B : List Int) (s : St) (a b n : Int) : St := if ok a b n then step B (step B (cut s a b n)) else s
structure Good (s : St) : Prop where
  g0 : 65536 < s.g
  g1 : s.g ≤ 16777216
  v0 : 0 ≤ s.v
  v1 : s.v < s.g
structure Part (g p a b n : Int) : Prop where
  p0 : 16 ≤ p
  p1 : p ≤ 16777216
  o0 : 0 ≤ a * p
  o1 : a * p ≤ g - p
  s0 : p ≤ (b - a) * p
  s1 : (b - a) * p ≤ g - a * p
theorem part_is {g a b n : Int} (h0 : 65536 < g) (h1 : g ≤ 16777216) (h : ok a b n) : Part g (g / n) a b n := by
  obtain ⟨ha, hab, hbn, hn⟩ := h
  have hn0 : 0 < n := by omega
  have hp : 16 ≤ g / n := by
    have := Int.ediv_le_ediv (a := 65536) (b := g) hn0 (by omega)
    have h2 : (16 : Int) ≤ 65536 / n := (Int.le_ediv_iff_mul_le hn0).mpr (by omega)
    omega
  have hm : g / n * n ≤ g := Int.ediv_mul_le g (by omega)
  have hle : g / n ≤ g := Int.ediv_le_self n (by omega)
  obtain ⟨p, hp'⟩ : ∃ p, g / n = p := ⟨_, rfl⟩
  rw [hp'] at hp hm hle ⊢
  have e1 : a * p ≤ (n - 1) * p := Int.mul_le_mul_of_nonneg_right (by omega) (by omega)
  have e2 : (b - a) * p ≤ (n - a) * p := Int.mul_le_mul_of_nonneg_right (by omega) (by omega)
  have e3 : 1 * p ≤ (b - a) * p := Int.mul_le_mul_of_nonneg_right (by omega) (by omega)
  have e4 : 0 ≤ a * p := Int.mul_nonneg ha (by omega)
  rw [Int.sub_mul] at e1 e2 e3
  rw [Int.sub_mul] at e2
  rw [Int.mul_comm n p] at e1 e2
  rw [Int.mul_comm p n] at e1 e2
  rw [Int.mul_comm p n] at hm
  constructor <;> (try rw [Int.sub_mul]) <;> omega
theorem rg_in {g a b n : Int} (h0 : 65536 < g) (h1 : g ≤ 16777216) (h : ok a b n) : 16 ≤ rg g a b n ∧ rg g a b n ≤ g - a * (g / n) := by
  obtain ⟨p0, p1, o0, o1, s0, s1⟩ := part_is h0 h1 h
  unfold rg
  split <;> omega
structure Fair (s : St) (k : Int) : Prop where
  g0 : k ≤ s.g
  g1 : s.g ≤ 16777216
  v0 : 0 ≤ s.v
  v1 : s.v < s.g
theorem cut_fair {s : St} (hs : Good s) {a b n : Int} (h : ok a b n) : Fair (cut s a b n) 16 := by
  have h1 := rg_in hs.g0 hs.g1 h
  obtain ⟨p0, p1, o0, o1, s0, s1⟩ := part_is hs.g0 hs.g1 h
  have := hs.v0
  have := hs.v1
  have := hs.g1
  refine ⟨h1.1, ?_, ?_, ?_⟩ <;> simp only [cut] <;> omega
theorem step_fair {B : List Int} (hB : Bytes B) {s : St} {k : Int} (hk : k ≤ 256) (h : Fair s k) : Fair (step B s) (k * 256) := by
  obtain ⟨g0, g1, v0, v1⟩ := h
  have := by_in hB s.t
  unfold step
  split
  · refine ⟨?_, ?_, ?_, ?_⟩ <;> simp only [stp] <;> omega
  · refine ⟨?_, ?_, ?_, ?_⟩ <;> omega
theorem step_fair2 {B : List Int} (hB : Bytes B) {s : St} {k : Int} (hk : 4096 ≤ k) (h : Fair s k) : Fair (step B s) 65537 := by
  obtain ⟨g0, g1, v0, v1⟩ := h
  have := by_in hB s.t
  unfold step
  split
  · refine ⟨?_, ?_, ?_, ?_⟩ <;> simp only [stp] <;> omega
  · refine ⟨?_, ?_, ?_, ?_⟩ <;> omega
def new (B : List Int) : St := ⟨3, 0, 16777216, by_ B 0 * 65536 + by_ B 1 * 256 + by_ B 2⟩
def bit (B : List Int) (k : Nat) : Int := if k / 8 < B.length then by_ B (B.length - 1 - k / 8) / 2 ^ (k % 8) % 2 else 0
def raw (B : List Int) (r : Nat) : Nat → Int
  | 0 => 0
  | i + 1 => raw B r i + bit B (r + i) * 2 ^ i
end Go.Proofs.YtjpnbdofbkoddaaDoor.Rd
namespace Go.Proofs.YtjpnbdofbkoddaaDoor.Wr
open Go.Proofs.YtjpnbdofbkoddaaDoor.Rd (ok rg part_is Part)
def dig (V : Int) : Nat → List Int
  | 0 => []
  | k + 1 => dig (V / 256) k ++ [V % 256]
theorem dig_len : ∀ (k : Nat) (V : Int), (dig V k).length = k
  | 0, _ => rfl
  | k + 1, V => by rw [dig, List.length_append, dig_len]; rfl
theorem dig_app (V : Int) (m : Nat) (d : Int) (h0 : 0 ≤ d) (h1 : d ≤ 255) : dig V m ++ [d] = dig (V * 256 + d) (m + 1) := by
  rw [dig, show (V * 256 + d) / 256 = V by omega, show (V * 256 + d) % 256 = d by omega]
structure St where
  m : Nat
  V : Int
  g : Int
def stp (s : St) : St := ⟨s.m + 1, s.V * 256, s.g * 256⟩
def step (s : St) : St := if s.g ≤ 65536 then stp s else s
def cut (s : St) (a b n : Int) : St := ⟨s.m, s.V + a * (s.g / n), rg s.g a b n⟩
def put (s : St) (a b n : Int) : St := if ok a b n then step (step (cut s a b n)) else s
structure Fair (s : St) (k : Int) : Prop where
  g0 : k ≤ s.g
  g1 : s.g ≤ 16777216
  v0 : 0 ≤ s.V
  v1 : s.V + s.g ≤ 16777216 * 256 ^ s.m
theorem cut_fair {s : St} (hs : Fair s 65537) {a b n : Int} (h : ok a b n) : Fair (cut s a b n) 16 := by
  have h1 := Rd.rg_in (by have := hs.g0; omega) hs.g1 h
  obtain ⟨p0, p1, o0, o1, s0, s1⟩ := part_is (by have := hs.g0; omega) hs.g1 h
  have := hs.v0
  have := hs.v1
  have := hs.g1
  refine ⟨h1.1, ?_, ?_, ?_⟩ <;> simp only [cut] <;> omega
theorem step_fair {s : St} {k : Int} (hk : k ≤ 256) (h : Fair s k) : Fair (step s) (k * 256) := by
  obtain ⟨g0, g1, v0, v1⟩ := h
  unfold step
  split
  · refine ⟨?_, ?_, ?_, ?_⟩ <;> simp only [stp]
    · omega
    · omega
    · omega
    · rw [Int.pow_succ]; omega
  · refine ⟨?_, ?_, ?_, ?_⟩ <;> omega
theorem step_fair2 {s : St} {k : Int} (hk : 4096 ≤ k) (h : Fair s k) : Fair (step s) 65537 := by
  obtain ⟨g0, g1, v0, v1⟩ := h
  unfold step
  split
  · refine ⟨?_, ?_, ?_, ?_⟩ <;> simp only [stp]
    · omega
    · omega
    · omega
    · rw [Int.pow_succ]; omega
  · refine ⟨?_, ?_, ?_, ?_⟩ <;> omega
theorem put_fair {s : St} (hs : Fair s 65537) (a b n : Int) : Fair (put s a b n) 65537 := by
  unfold put
  split
  · rename_i h
    exact step_fair2 (by decide) (step_fair (by decide) (cut_fair hs h))
  · exact hs
def new : St := ⟨0, 0, 16777216⟩
theorem new_fair : Fair new 65537 := by constructor <;> decide
theorem step_m (s : St) : s.m ≤ (step s).m ∧ (step s).m ≤ s.m + 1 := by unfold step; split <;> simp [stp]
theorem put_m (s : St) (a b n : Int) : s.m ≤ (put s a b n).m ∧ (put s a b n).m ≤ s.m + 2 := by
  unfold put
  split
  · have h1 := step_m (cut s a b n)
    have h2 := step_m (step (cut s a b n))
    simp only [cut] at h1 h2 ⊢
    omega
  · omega
def X (F : St) (s : St) : Int := F.V / 256 ^ (F.m - s.m)
structure In (F s : St) : Prop where
  m : s.m ≤ F.m
  lo : s.V * 256 ^ (F.m - s.m) ≤ F.V
  hi : F.V + F.g ≤ (s.V + s.g) * 256 ^ (F.m - s.m)
theorem In.refl (s : St) : In s s := ⟨Nat.le_refl _, by simp, by simp⟩
theorem pow_pos (k : Nat) : (0 : Int) < 256 ^ k := Int.pow_pos (by decide)
end Go.Proofs.YtjpnbdofbkoddaaDoor.Wr
namespace Go.Proofs.YtjpnbdofbkoddaaDoor.Wr
open Go.Proofs.YtjpnbdofbkoddaaDoor.Rd (ok rg part_is Part)
def crow (U : Int) (m j : Nat) : List Int := dig U (m - j) ++ List.replicate j 0
end Go.Proofs.YtjpnbdofbkoddaaDoor.Wr
namespace Go.Proofs.YtjpnbdofbkoddaaDoor.Back
open Go.Proofs.YtjpnbdofbkoddaaDoor.Rd (ok rg part_is Part by_)
open Go.Proofs.YtjpnbdofbkoddaaDoor.Wr (X In)
end Go.Proofs.YtjpnbdofbkoddaaDoor.Back
namespace Go.Proofs.YtjpnbdofbkoddaaDoor.Pack
open Go.Proofs.YtjpnbdofbkoddaaDoor.Rd (by_)
open Go.Proofs.YtjpnbdofbkoddaaDoor.Wr (dig)
def lo (x : Int) (i : Nat) : Bool := x / 2 ^ i % 2 == 1
def bitsOf (x : Int) (n : Nat) : List Bool := (List.range n).map (lo x)
theorem bitsOf_len (x : Int) (n : Nat) : (bitsOf x n).length = n := by simp [bitsOf]
theorem bitsOf_more (x : Int) (n : Nat) : bitsOf x (n + 1) = bitsOf x n ++ [lo x n] := by simp [bitsOf, List.range_succ]
end Go.Proofs.YtjpnbdofbkoddaaDoor.Pack
namespace Go.Proofs.YtjpnbdofbkoddaaDoor.Pack
open Go.Proofs.YtjpnbdofbkoddaaDoor.Wr (dig)
end Go.Proofs.YtjpnbdofbkoddaaDoor.Pack
namespace Go.Proofs.YtjpnbdofbkoddaaDoor.Pack
open Go.Proofs.YtjpnbdofbkoddaaDoor.Wr (dig)
end Go.Proofs.YtjpnbdofbkoddaaDoor.Pack
namespace Go.Proofs.YtjpnbdofbkoddaaDoor.Rf
open Go.Proofs.YtjpnbdofbkoddaaDoor.Wr (dig dig_len)
theorem dig_split : ∀ (j k : Nat) (V : Int), dig V (k + j) = dig (V / 256 ^ j) k ++ dig V j
  | 0, k, V => by simp [dig]
  | j + 1, k, V => by
    rw [← Nat.add_assoc, dig, dig_split j k (V / 256), dig, List.append_assoc, Int.ediv_ediv_of_nonneg (by decide), ← Int.pow_succ']
theorem dig_front (j : Nat) (X : Int) : dig X (j + 1) = (X / 256 ^ j % 256) :: dig X j := by
  rw [Nat.add_comm, dig_split j 1 X]
  rfl
def arow (V n : Int) (M j : Nat) : List Int := dig (V / 256 ^ j) (M - j) ++ dig (V + n) j
def car (V n : Int) (j : Nat) : Int := (V + n) / 256 ^ j - V / 256 ^ j
theorem arow_len {V n : Int} {M j : Nat} (h : j ≤ M) : (arow V n M j).length = M := by
  rw [arow, List.length_append, dig_len, dig_len]; omega
theorem arow_0 (V n : Int) (M : Nat) : arow V n M 0 = dig V M := by simp [arow, dig]
theorem arow_M (V n : Int) (M : Nat) : arow V n M M = dig (V + n) M := by simp [arow, dig]
theorem arow_split {V n : Int} {M j k : Nat} (h : k + j + 1 = M) : arow V n M j = dig (V / 256 ^ j / 256) k ++ (V / 256 ^ j % 256 :: dig (V + n) j) := by
  rw [arow, show M - j = k + 1 by omega, dig, List.append_assoc]
  rfl
theorem arow_at {V n : Int} {M j k : Nat} (h : k + j + 1 = M) : (arow V n M j).getD k 0 = V / 256 ^ j % 256 := by
  rw [arow_split h, List.getD_eq_getElem?_getD, List.getElem?_append_right (by rw [dig_len]; exact Nat.le_refl _), dig_len, Nat.sub_self]
  rfl
theorem arow_next {V n : Int} {M j k : Nat} (h : k + j + 1 = M) : (arow V n M j).set k ((V + n) / 256 ^ j % 256) = arow V n M (j + 1) := by
  rw [arow_split h, List.set_append_right _ _ (by rw [dig_len]; exact Nat.le_refl _), dig_len, Nat.sub_self, arow, dig_front, show M - (j + 1) = k by omega, Int.pow_succ, ← Int.ediv_ediv_of_nonneg (by have := Int.pow_pos (n := 256) (m := j) (by decide); omega)]
  rfl
theorem car_0 (V n : Int) : car V n 0 = n := by simp [car]; omega
theorem car_step (V n : Int) (j : Nat) : (car V n j + V / 256 ^ j % 256) % 256 = (V + n) / 256 ^ j % 256 ∧ (car V n j + V / 256 ^ j % 256) / 256 = car V n (j + 1) := by
  unfold car
  rw [Int.pow_succ, ← Int.ediv_ediv_of_nonneg (by have := Int.pow_pos (n := 256) (m := j) (by decide); omega), ← Int.ediv_ediv_of_nonneg (by have := Int.pow_pos (n := 256) (m := j) (by decide); omega)]
  obtain ⟨a, ha⟩ : ∃ a, (V + n) / 256 ^ j = a := ⟨_, rfl⟩
  obtain ⟨b, hb⟩ : ∃ b, V / 256 ^ j = b := ⟨_, rfl⟩
  rw [ha, hb]
  omega
theorem car_in {V n : Int} (h0 : 0 ≤ n) (h1 : n ≤ 16777216) : ∀ j, 0 ≤ car V n j ∧ car V n j ≤ 16777216
  | 0 => by rw [car_0]; omega
  | j + 1 => by
    have h := car_in (V := V) h0 h1 j
    have := (car_step V n j).2
    omega
def b2i (b : Bool) : Int := if b then 1 else 0
end Go.Proofs.YtjpnbdofbkoddaaDoor.Rf

