import Derived.Test.YtjmoklebimejaaaDoorMath
/-! The reader, as plain numbers: bytes taken, raw bits taken, range, value. -/
namespace Go.Proofs.YtjmoklebimejaaaDoor.Rd
structure St where
  t : Nat
  r : Nat
  g : Int
  v : Int
/-- A byte, and noughts behind the end. -/
def by_ (B : List Int) (i : Nat) : Int := B.getD i 0
abbrev Bytes (B : List Int) : Prop := ∀ x ∈ B, 0 ≤ x ∧ x ≤ 255
theorem by_in {B : List Int} (h : Bytes B) (i : Nat) : 0 ≤ by_ B i ∧ by_ B i ≤ 255 := by
  unfold by_
  by_cases hi : i < B.length
  · rw [List.getD_eq_getElem?_getD, List.getElem?_eq_getElem hi, Option.getD_some]; exact h _ (List.getElem_mem hi)
  · rw [List.getD_eq_getElem?_getD, List.getElem?_eq_none (by omega), Option.getD_none]; omega
def stp (B : List Int) (s : St) : St := ⟨s.t + 1, s.r, s.g * 256, s.v * 256 + by_ B s.t⟩
def step (B : List Int) (s : St) : St := if s.g ≤ 65536 then stp B s else s
def rg (g a b n : Int) : Int := if b = n then g - a * (g / n) else (b - a) * (g / n)
def cut (s : St) (a b n : Int) : St := ⟨s.t, s.r, rg s.g a b n, min (s.v - min (a * (s.g / n)) s.v) (rg s.g a b n - 1)⟩
abbrev ok (a b n : Int) : Prop := 0 ≤ a ∧ a < b ∧ b ≤ n ∧ n ≤ 4096
def take (B : List Int) (s : St) (a b n : Int) : St := if ok a b n then step B (step B (cut s a b n)) else s
def get (s : St) (n : Int) : Int := if 1 ≤ n ∧ n ≤ 4096 then min (s.v / (s.g / n)) (n - 1) else 0
structure Good (s : St) : Prop where
  g0 : 65536 < s.g
  g1 : s.g ≤ 16777216
  v0 : 0 ≤ s.v
  v1 : s.v < s.g
/-- A range's part. -/
structure Part (g p a b n : Int) : Prop where
  p0 : 16 ≤ p
  p1 : p ≤ 16777216
  o0 : 0 ≤ a * p
  o1 : a * p ≤ g - p
  s0 : p ≤ (b - a) * p
  s1 : (b - a) * p ≤ g - a * p
theorem part_is {g a b n : Int} (h0 : 65536 < g) (h1 : g ≤ 16777216) (h : ok a b n) : Part g (g / n) a b n := by
  obtain ⟨ha, hab, hbn, hn⟩ := h
  have hn0 : 0 < n := by omega
  have hp : 16 ≤ g / n := by
    have := Int.ediv_le_ediv (a := 65536) (b := g) hn0 (by omega)
    have h2 : (16 : Int) ≤ 65536 / n := (Int.le_ediv_iff_mul_le hn0).mpr (by omega)
    omega
  have hm : g / n * n ≤ g := Int.ediv_mul_le g (by omega)
  have hle : g / n ≤ g := Int.ediv_le_self n (by omega)
  obtain ⟨p, hp'⟩ : ∃ p, g / n = p := ⟨_, rfl⟩
  rw [hp'] at hp hm hle ⊢
  have e1 : a * p ≤ (n - 1) * p := Int.mul_le_mul_of_nonneg_right (by omega) (by omega)
  have e2 : (b - a) * p ≤ (n - a) * p := Int.mul_le_mul_of_nonneg_right (by omega) (by omega)
  have e3 : 1 * p ≤ (b - a) * p := Int.mul_le_mul_of_nonneg_right (by omega) (by omega)
  have e4 : 0 ≤ a * p := Int.mul_nonneg ha (by omega)
  rw [Int.sub_mul] at e1 e2 e3
  rw [Int.sub_mul] at e2
  rw [Int.mul_comm n p] at e1 e2
  rw [Int.mul_comm p n] at e1 e2
  rw [Int.mul_comm p n] at hm
  constructor <;> (try rw [Int.sub_mul]) <;> omega
theorem rg_in {g a b n : Int} (h0 : 65536 < g) (h1 : g ≤ 16777216) (h : ok a b n) : 16 ≤ rg g a b n ∧ rg g a b n ≤ g - a * (g / n) := by
  obtain ⟨p0, p1, o0, o1, s0, s1⟩ := part_is h0 h1 h
  unfold rg
  split <;> omega
structure Fair (s : St) (k : Int) : Prop where
  g0 : k ≤ s.g
  g1 : s.g ≤ 16777216
  v0 : 0 ≤ s.v
  v1 : s.v < s.g
theorem cut_fair {s : St} (hs : Good s) {a b n : Int} (h : ok a b n) : Fair (cut s a b n) 16 := by
  have h1 := rg_in hs.g0 hs.g1 h
  obtain ⟨p0, p1, o0, o1, s0, s1⟩ := part_is hs.g0 hs.g1 h
  have := hs.v0
  have := hs.v1
  have := hs.g1
  refine ⟨h1.1, ?_, ?_, ?_⟩ <;> simp only [cut] <;> omega
theorem step_fair {B : List Int} (hB : Bytes B) {s : St} {k : Int} (hk : k ≤ 256) (h : Fair s k) : Fair (step B s) (k * 256) := by
  obtain ⟨g0, g1, v0, v1⟩ := h
  have := by_in hB s.t
  unfold step
  split
  · refine ⟨?_, ?_, ?_, ?_⟩ <;> simp only [stp] <;> omega
  · refine ⟨?_, ?_, ?_, ?_⟩ <;> omega
theorem step_fair2 {B : List Int} (hB : Bytes B) {s : St} {k : Int} (hk : 4096 ≤ k) (h : Fair s k) : Fair (step B s) 65537 := by
  obtain ⟨g0, g1, v0, v1⟩ := h
  have := by_in hB s.t
  unfold step
  split
  · refine ⟨?_, ?_, ?_, ?_⟩ <;> simp only [stp] <;> omega
  · refine ⟨?_, ?_, ?_, ?_⟩ <;> omega
theorem step_still {B : List Int} {s : St} (h : Fair s 65537) : step B s = s := by
  have := h.g0
  unfold step
  rw [if_neg (by omega)]
theorem take_good {B : List Int} (hB : Bytes B) {s : St} (hs : Good s) (a b n : Int) : Good (take B s a b n) := by
  unfold take
  split
  · rename_i h
    have f1 := step_fair hB (by decide) (cut_fair hs h)
    obtain ⟨s1, e1⟩ : ∃ s1, step B (cut s a b n) = s1 := ⟨_, rfl⟩
    rw [e1] at f1 ⊢
    obtain ⟨g0, g1, v0, v1⟩ := f1
    have := by_in hB s1.t
    unfold step
    split
    · refine ⟨?_, ?_, ?_, ?_⟩ <;> simp only [stp] <;> omega
    · refine ⟨?_, ?_, ?_, ?_⟩ <;> omega
  · exact hs
theorem step_r (B : List Int) (s : St) : (step B s).r = s.r := by unfold step; split <;> rfl
theorem step_t (B : List Int) (s : St) : s.t ≤ (step B s).t ∧ (step B s).t ≤ s.t + 1 := by unfold step; split <;> simp [stp]
theorem take_r (B : List Int) (s : St) (a b n : Int) : (take B s a b n).r = s.r := by unfold take; split; rw [step_r, step_r]; rfl; rfl
theorem take_t (B : List Int) (s : St) (a b n : Int) : s.t ≤ (take B s a b n).t ∧ (take B s a b n).t ≤ s.t + 2 := by
  unfold take
  split
  · have h1 := step_t B (cut s a b n)
    have h2 := step_t B (step B (cut s a b n))
    simp only [cut] at h1 h2 ⊢
    omega
  · omega
/-- A new one. -/
def new (B : List Int) : St := ⟨3, 0, 16777216, by_ B 0 * 65536 + by_ B 1 * 256 + by_ B 2⟩
theorem new_good {B : List Int} (hB : Bytes B) : Good (new B) := by
  have h0 := by_in hB 0
  have h1 := by_in hB 1
  have h2 := by_in hB 2
  refine ⟨?_, ?_, ?_, ?_⟩ <;> simp only [new] <;> omega
theorem get_in {s : St} (hs : Good s) (n : Int) : 0 ≤ get s n ∧ get s n ≤ 4095 := by
  unfold get
  split
  · have : 0 ≤ s.v / (s.g / n) := Int.ediv_nonneg hs.v0 (Int.ediv_nonneg (by have := hs.g0; omega) (by omega))
    omega
  · omega
/-- Raw bits: one of them, counted from behind. -/
def bit (B : List Int) (k : Nat) : Int := if k / 8 < B.length then by_ B (B.length - 1 - k / 8) / 2 ^ (k % 8) % 2 else 0
theorem bit_in (B : List Int) (k : Nat) : 0 ≤ bit B k ∧ bit B k ≤ 1 := by unfold bit; split <;> omega
def raw (B : List Int) (r : Nat) : Nat → Int
  | 0 => 0
  | i + 1 => raw B r i + bit B (r + i) * 2 ^ i
theorem raw_in (B : List Int) (r : Nat) : ∀ i, 0 ≤ raw B r i ∧ raw B r i < 2 ^ i
  | 0 => by simp [raw]
  | i + 1 => by
    have h := raw_in B r i
    have hb := bit_in B (r + i)
    have hp : (0 : Int) < 2 ^ i := Int.pow_pos (by decide)
    rw [raw, Int.pow_succ]
    rcases (by omega : bit B (r + i) = 0 ∨ bit B (r + i) = 1) with e | e <;> rw [e] <;> omega
def cl (n : Int) : Nat := (min (max n 0) 16).toNat
theorem cl_le (n : Int) : cl n ≤ 16 := by unfold cl; omega
/-- Noughts behind the bytes change none. -/
theorem by_zeros (B : List Int) (m i : Nat) : by_ (B ++ List.replicate m 0) i = by_ B i := by
  unfold by_
  rw [List.getD_eq_getElem?_getD, List.getD_eq_getElem?_getD, List.getElem?_append]
  split
  · rfl
  · rw [List.getElem?_eq_none (l := B) (by omega), List.getElem?_replicate]
    split <;> rfl
theorem step_zeros (B : List Int) (m : Nat) (s : St) : step (B ++ List.replicate m 0) s = step B s := by unfold step stp; rw [by_zeros]
theorem take_zeros (B : List Int) (m : Nat) (s : St) (a b n : Int) : take (B ++ List.replicate m 0) s a b n = take B s a b n := by unfold take; rw [step_zeros, step_zeros]
theorem new_zeros (B : List Int) (m : Nat) : new (B ++ List.replicate m 0) = new B := by unfold new; rw [by_zeros, by_zeros, by_zeros]
end Go.Proofs.YtjmoklebimejaaaDoor.Rd
