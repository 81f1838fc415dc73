import Derived.Test.YtjmoklebimejaaaDoorWrPlain
/-! What is put is read: the writer's states and the reader's, side by side. -/
namespace Go.Proofs.YtjmoklebimejaaaDoor.Back
open Go.Proofs.YtjmoklebimejaaaDoor.Rd (ok rg part_is Part by_)
open Go.Proofs.YtjmoklebimejaaaDoor.Wr (X In)
/-- The packet's first bytes are the last number's digits. -/
abbrev Digits (B : List Int) (F : Wr.St) : Prop := ∀ i, i < F.m + 3 → by_ B i = F.V / 256 ^ (F.m + 2 - i) % 256
structure Rel (F : Wr.St) (r : Rd.St) (s : Wr.St) : Prop where
  t : r.t = s.m + 3
  g : r.g = s.g
  v : r.v = X F s - s.V
theorem rel_step {B : List Int} {F : Wr.St} (hB : Digits B F) {r : Rd.St} {s : Wr.St} (h : Rel F r s) (hF : In F (Wr.step s)) : Rel F (Rd.step B r) (Wr.step s) := by
  obtain ⟨t, g, v⟩ := h
  unfold Rd.step Wr.step at *
  rw [g]
  split
  · rename_i h0
    rw [if_pos h0] at hF
    have hm := hF.m
    simp only [Wr.stp] at hm
    refine ⟨by simp only [Rd.stp, Wr.stp]; omega, by simp only [Rd.stp, Wr.stp]; rw [g], ?_⟩
    simp only [Rd.stp, Wr.stp, X]
    rw [v, t, hB (s.m + 3) (by omega), X, show F.m - s.m = (F.m - (s.m + 1)) + 1 by omega, show F.m + 2 - (s.m + 3) = F.m - (s.m + 1) by omega, Int.pow_succ, ← Int.ediv_ediv_of_nonneg (by have := Wr.pow_pos (F.m - (s.m + 1)); omega)]
    omega
  · exact ⟨t, g, v⟩
theorem rel_cut {F : Wr.St} (hg : 0 < F.g) {r : Rd.St} {s : Wr.St} (hs : Wr.Fair s 65537) (h : Rel F r s) {a b n : Int} (hk : ok a b n) (hF : In F (Wr.cut s a b n)) :
    Rel F (Rd.cut r a b n) (Wr.cut s a b n) ∧ a ≤ Rd.get r n ∧ Rd.get r n < b := by
  have hX := Wr.X_in hF hg
  obtain ⟨t, g, v⟩ := h
  have hp := part_is (by have := hs.g0; omega) hs.g1 hk
  have hr := Rd.rg_in (by have := hs.g0; omega) hs.g1 hk
  obtain ⟨p, hp'⟩ : ∃ p, s.g / n = p := ⟨_, rfl⟩
  have hXe : X F (Wr.cut s a b n) = X F s := rfl
  rw [hXe] at hX
  simp only [Wr.cut] at hX
  rw [hp'] at hX hp hr
  obtain ⟨p0, p1, o0, o1, s0, s1⟩ := hp
  obtain ⟨k0, k1, k2, k3⟩ := hk
  refine ⟨⟨t, by simp only [Rd.cut, Wr.cut]; rw [g], ?_⟩, ?_⟩
  · show min (r.v - min (a * (r.g / n)) r.v) (rg r.g a b n - 1) = X F s - (s.V + a * (s.g / n))
    rw [g, v, hp']
    omega
  · unfold Rd.get
    rw [if_pos (by omega), g, hp', v]
    have hrg : rg s.g a b n = if b = n then s.g - a * p else (b - a) * p := by unfold rg; rw [hp']
    have h1 : a ≤ (X F s - s.V) / p := (Int.le_ediv_iff_mul_le (by omega)).mpr (by omega)
    by_cases hb : b = n
    · omega
    · rw [hrg, if_neg hb, Int.sub_mul] at hX
      have h2 : (X F s - s.V) / p < b := (Int.ediv_lt_iff_lt_mul (by omega)).mpr (by omega)
      omega
theorem in_unput {F s : Wr.St} {a b n : Int} (hk : ok a b n) (hF : In F (Wr.put s a b n)) : In F (Wr.step (Wr.cut s a b n)) ∧ In F (Wr.cut s a b n) := by
  unfold Wr.put at hF
  rw [if_pos hk] at hF
  exact ⟨Wr.in_step hF, Wr.in_step (Wr.in_step hF)⟩
/-- What is put is got, and both go on alike. -/
theorem rel_put {B : List Int} {F : Wr.St} (hB : Digits B F) (hg : 0 < F.g) {r : Rd.St} {s : Wr.St} (hs : Wr.Fair s 65537) (h : Rel F r s) {a b n : Int} (hk : ok a b n) (hF : In F (Wr.put s a b n)) :
    Rel F (Rd.take B r a b n) (Wr.put s a b n) ∧ a ≤ Rd.get r n ∧ Rd.get r n < b := by
  obtain ⟨h1, h2⟩ := in_unput hk hF
  obtain ⟨c1, c2⟩ := rel_cut hg hs h hk h2
  refine ⟨?_, c2⟩
  unfold Wr.put at hF
  rw [if_pos hk] at hF
  unfold Rd.take Wr.put
  rw [if_pos hk, if_pos hk]
  exact rel_step hB (rel_step hB c1 h1) hF
/-- A new reader of the packet, and a writer that has put nothing. -/
theorem rel_new {B : List Int} {F : Wr.St} (hB : Digits B F) (hg : 0 < F.g) (h0 : 0 ≤ F.V) (hF : In F Wr.new) : Rel F (Rd.new B) Wr.new := by
  refine ⟨rfl, rfl, ?_⟩
  simp only [Rd.new, Wr.new, X]
  have hh := hF.hi
  rw [hB 0 (by omega), hB 1 (by omega), hB 2 (by omega)]
  have e2 : F.V / 256 ^ (F.m + 2 - 0) = F.V / 256 ^ F.m / 256 / 256 := by
    rw [Nat.sub_zero, Int.pow_succ, Int.pow_succ, ← Int.ediv_ediv_of_nonneg (by have := Wr.pow_pos (F.m); omega), ← Int.ediv_ediv_of_nonneg (by have := Wr.pow_pos (F.m); omega)]
  have e1 : F.V / 256 ^ (F.m + 2 - 1) = F.V / 256 ^ F.m / 256 := by
    rw [show F.m + 2 - 1 = F.m + 1 by omega, Int.pow_succ, ← Int.ediv_ediv_of_nonneg (by have := Wr.pow_pos (F.m); omega)]
  have e0 : F.V / 256 ^ (F.m + 2 - 2) = F.V / 256 ^ F.m := by rw [show F.m + 2 - 2 = F.m by omega]
  rw [e2, e1, e0, show F.m - 0 = F.m by omega]
  simp only [Wr.new] at hh
  have hp := Wr.pow_pos F.m
  have hq : 0 ≤ F.V / 256 ^ F.m := Int.ediv_nonneg h0 (by omega)
  have hq2 : F.V / 256 ^ F.m < 16777216 := (Int.ediv_lt_iff_lt_mul hp).mpr (by rw [show F.m - 0 = F.m by omega] at hh; omega)
  omega
end Go.Proofs.YtjmoklebimejaaaDoor.Back
