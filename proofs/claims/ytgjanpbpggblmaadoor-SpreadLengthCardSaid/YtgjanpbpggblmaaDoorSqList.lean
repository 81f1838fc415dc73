import Derived.Test.YtgjanpbpggblmaaDoorSpreadPlain
import Derived.Test.YtgjanpbpggblmaaDoorSq
namespace Go.Proofs.YtgjanpbpggblmaaDoor.Sq
open Go.RowKit Go.Proofs.YtgjanpbpggblmaaDoorW.PrintWords Go.Proofs.YtgjanpbpggblmaaDoorW.PrintLast Go.Proofs.YtgjanpbpggblmaaDoorW.PrintMore
open Go.Proofs.YtgjanpbpggblmaaDoor.Spread (tn ta tb s32 rnd_is tn_len upw dnw upw_len dnw_len sp sp_len co si row)
open Go.Proofs.YtgjanpbpggblmaaDoor.Math (w64 rd_mem rd_drop rnd15 mn_eq mx_eq)
set_option linter.unusedVariables false
set_option linter.unusedSimpArgs false
/-- The sum of squares. -/
def sq : List Int → Int
  | [] => 0
  | x :: r => x * x + sq r
theorem sq_nn : ∀ l : List Int, 0 ≤ sq l
  | [] => by decide
  | x :: r => by have := sqnn x; have := sq_nn r; unfold sq; omega
theorem rd_zero (x : Int) (r : List Int) : rd (x :: r) 0 = x := rfl
theorem rd_next (x : Int) (r : List Int) (i : Nat) : rd (x :: r) ((i + 1 : Nat) : Int) = rd r (i : Int) := by
  unfold rd; rw [Int.toNat_natCast, Int.toNat_natCast]; rfl
theorem sq_set : ∀ (l : List Int) (i : Nat) (p : Int), i < l.length → sq (l.set i p) = sq l - rd l (i : Int) * rd l (i : Int) + p * p
  | [], _, _, h => by cases h
  | x :: r, 0, p, _ => by
    rw [List.set_cons_zero]; unfold sq
    rw [show ((0 : Nat) : Int) = 0 from rfl, rd_zero]; omega
  | x :: r, i + 1, p, h => by
    rw [List.set_cons_succ]; unfold sq
    rw [rd_next, sq_set r i p (by simpa using h)]; omega
theorem sq_two (l : List Int) (i : Nat) (h : i + 1 < l.length) : rd l (i : Int) * rd l (i : Int) + rd l ((i + 1 : Nat) : Int) * rd l ((i + 1 : Nat) : Int) ≤ sq l := by
  have h1 := sq_set l i 0 (by omega)
  have h2 := sq_set (l.set i 0) (i + 1) 0 (by rw [List.length_set]; exact h)
  have h3 := sq_nn ((l.set i 0).set (i + 1) 0)
  have e : rd (l.set i 0) ((i + 1 : Nat) : Int) = rd l ((i + 1 : Nat) : Int) := by
    unfold rd; rw [Int.toNat_natCast, List.getD_eq_getElem?_getD, List.getD_eq_getElem?_getD, List.getElem?_set_ne (by omega)]
  rw [e] at h2
  omega
theorem sq_one (l : List Int) (i : Nat) (h : i < l.length) : rd l (i : Int) * rd l (i : Int) ≤ sq l := by
  have h1 := sq_set l i 0 h
  have h3 := sq_nn (l.set i 0)
  omega
theorem sq_turn (c s : Int) (i : Nat) (l : List Int) (h : i + 1 < l.length) : sq (tn c s i l) = sq l - (rd l i * rd l i + rd l ((i : Int) + 1) * rd l ((i : Int) + 1)) + (ta c s (rd l i) (rd l ((i : Int) + 1)) * ta c s (rd l i) (rd l ((i : Int) + 1)) + tb c s (rd l i) (rd l ((i : Int) + 1)) * tb c s (rd l i) (rd l ((i : Int) + 1))) := by
  unfold tn
  have e : rd (l.set i (ta c s (rd l i) (rd l ((i : Int) + 1)))) ((i + 1 : Nat) : Int) = rd l ((i : Int) + 1) := by
    unfold rd
    rw [show ((i : Int) + 1).toNat = i + 1 by omega, Int.toNat_natCast i, Int.toNat_natCast (i + 1), List.getD_eq_getElem?_getD, List.getElem?_set_ne (by omega), List.getD_eq_getElem?_getD]
  rw [sq_set _ (i + 1) _ (by rw [List.length_set]; exact h), sq_set l i _ (by omega), e]
  omega
theorem rnd_in (x : Int) (h0 : -9223372036854775808 ≤ x) (h1 : x ≤ 9223372036854775807) : Spread.rnd x = (x + 16384) / 32768 := by
  have e1 := rnd_is x
  have e2 := SpreadPlain.round_is (x := x) (s := 15) h0 h1
  rw [rnd15] at e2
  exact Option.some.inj (e1.symm.trans e2)
theorem mul_small {c a : Int} (hc0 : 0 ≤ c) (hc : c ≤ 32768) (h0 : -8388608 ≤ a) (h1 : a ≤ 8388608) : -274877906944 ≤ c * a ∧ c * a ≤ 274877906944 := by
  have e1 := Int.mul_le_mul_of_nonneg_left h1 hc0
  have e2 := Int.mul_le_mul_of_nonneg_left h0 hc0
  constructor <;> omega
theorem ta_in {c s a b : Int} (hc0 : 0 ≤ c) (hc : c ≤ 32768) (hs0 : 0 ≤ s) (hs : s ≤ 32768) (ha0 : -8388608 ≤ a) (ha : a ≤ 8388608) (hb0 : -8388608 ≤ b) (hb : b ≤ 8388608) : ta c s a b = (c * a - s * b + 16384) / 32768 := by
  obtain ⟨p0, p1⟩ := mul_small hc0 hc ha0 ha
  obtain ⟨q0, q1⟩ := mul_small hs0 hs hb0 hb
  unfold ta s32
  rw [w64 (n := a) (by omega) (by omega), w64 (n := b) (by omega) (by omega), w64 (n := c * a) (by omega) (by omega), w64 (n := s * b) (by omega) (by omega), w64 (n := c * a - s * b) (by omega) (by omega), rnd_in _ (by omega) (by omega), mx_eq, mn_eq]
  omega
theorem tb_in {c s a b : Int} (hc0 : 0 ≤ c) (hc : c ≤ 32768) (hs0 : 0 ≤ s) (hs : s ≤ 32768) (ha0 : -8388608 ≤ a) (ha : a ≤ 8388608) (hb0 : -8388608 ≤ b) (hb : b ≤ 8388608) : tb c s a b = (s * a + c * b + 16384) / 32768 := by
  obtain ⟨p0, p1⟩ := mul_small hs0 hs ha0 ha
  obtain ⟨q0, q1⟩ := mul_small hc0 hc hb0 hb
  unfold tb s32
  rw [w64 (n := a) (by omega) (by omega), w64 (n := b) (by omega) (by omega), w64 (n := s * a) (by omega) (by omega), w64 (n := c * b) (by omega) (by omega), w64 (n := s * a + c * b) (by omega) (by omega), rnd_in _ (by omega) (by omega), mx_eq, mn_eq]
  omega
/-- A spread's angle: its squares' sum is nearly what it should be. -/
def Ang (c s : Int) : Prop := 0 ≤ c ∧ c ≤ 32768 ∧ 0 ≤ s ∧ s ≤ 32768 ∧ 1073721493 ≤ c * c + s * s ∧ c * c + s * s ≤ 1073766676
/-- How long at most, and at least, behind k turns. -/
def hi (a : Int) (k : Nat) : Int := 80000 * (a + 1) + (k : Int) * (a + 60001)
def lo (a : Int) (k : Nat) : Int := 80000 * a - (k : Int) * (a + 66000)
theorem hi_next (a : Int) (k : Nat) : hi a (k + 1) = hi a k + (a + 60001) := by
  unfold hi; rw [show ((k + 1 : Nat) : Int) = (k : Int) + 1 by omega, Int.add_mul]; omega
theorem lo_next (a : Int) (k : Nat) : lo a (k + 1) = lo a k - (a + 66000) := by
  unfold lo; rw [show ((k + 1 : Nat) : Int) = (k : Int) + 1 by omega, Int.add_mul]; omega
theorem hi_in (a : Int) (k : Nat) (h0 : 0 ≤ a) (hk : k ≤ 29) : 0 ≤ hi a k ∧ hi a k ≤ 80029 * a + 1820029 := by
  have h1 : (k : Int) * (a + 60001) ≤ 29 * (a + 60001) := Int.mul_le_mul_of_nonneg_right (by omega) (by omega)
  have h2 : 0 ≤ (k : Int) * (a + 60001) := Int.mul_nonneg (by omega) (by omega)
  unfold hi; omega
theorem lo_in (a : Int) (k : Nat) (h0 : 27 ≤ a) (hk : k ≤ 29) : 0 ≤ lo a k ∧ lo a k ≤ 80000 * a ∧ 79971 * a - 1914000 ≤ lo a k := by
  have h1 : (k : Int) * (a + 66000) ≤ 29 * (a + 66000) := Int.mul_le_mul_of_nonneg_right (by omega) (by omega)
  have h2 : 0 ≤ (k : Int) * (a + 66000) := Int.mul_nonneg (by omega) (by omega)
  unfold lo; omega
/-- How long a list is, a the whole part of how long it was. -/
structure Inv (a : Int) (k : Nat) (l : List Int) : Prop where
  up : 6400000000 * sq l ≤ hi a k * hi a k
  dn : 27 ≤ a → lo a k * lo a k ≤ 6400000000 * sq l
theorem Inv.small {a : Int} {k : Nat} {l : List Int} (h : Inv a k l) (h0 : 0 ≤ a) (ha : a ≤ 4194304) (hk : k ≤ 29) (i : Nat) (hi' : i < l.length) : -8388608 ≤ rd l (i : Int) ∧ rd l (i : Int) ≤ 8388608 := by
  have h1 := sq_one l i hi'
  have h2 := h.up
  obtain ⟨b0, b1⟩ := hi_in a k h0 hk
  have e : 80000 * rd l (i : Int) * (80000 * rd l (i : Int)) = 6400000000 * (rd l (i : Int) * rd l (i : Int)) := by rw [mmm]; rfl
  have e2 : 80000 * (-rd l (i : Int)) * (80000 * (-rd l (i : Int))) = 6400000000 * (rd l (i : Int) * rd l (i : Int)) := by rw [mmm, Int.neg_mul_neg]; rfl
  have g1 := le_of_sq (x := 80000 * rd l (i : Int)) b0 (by rw [e]; omega)
  have g2 := le_of_sq (x := 80000 * (-rd l (i : Int))) b0 (by rw [e2]; omega)
  omega
theorem Inv.turn {a c s : Int} {k : Nat} {l : List Int} (h : Inv a k l) (hA : Ang c s) (h0 : 0 ≤ a) (ha : a ≤ 4194304) (hk : k < 29) (i : Nat) (hi' : i + 1 < l.length) : Inv a (k + 1) (tn c s i l) := by
  obtain ⟨hc0, hc, hs0, hs, hG0, hG⟩ := hA
  have s1 := h.small h0 ha (by omega) i (by omega)
  have s2 := h.small h0 ha (by omega) (i + 1) hi'
  have h2 := sq_two l i hi'
  have ht := sq_turn c s i l hi'
  rw [show ((i + 1 : Nat) : Int) = (i : Int) + 1 by omega] at s2 h2
  obtain ⟨x, hx⟩ : ∃ x, rd l (i : Int) = x := ⟨_, rfl⟩
  obtain ⟨y, hy⟩ : ∃ y, rd l ((i : Int) + 1) = y := ⟨_, rfl⟩
  rw [hx] at s1 h2 ht
  rw [hy] at s2 h2 ht
  have ea := ta_in (c := c) (s := s) (a := x) (b := y) hc0 hc hs0 hs s1.1 s1.2 s2.1 s2.2
  have eb := tb_in (c := c) (s := s) (a := x) (b := y) hc0 hc hs0 hs s1.1 s1.2 s2.1 s2.2
  obtain ⟨p, hp⟩ : ∃ p, ta c s x y = p := ⟨_, rfl⟩
  obtain ⟨q, hq⟩ : ∃ q, tb c s x y = q := ⟨_, rfl⟩
  rw [hp] at ea ht
  rw [hq] at eb ht
  have hrot := rotated c s x y
  have hD0 : 0 ≤ x * x + y * y := by have := sqnn x; have := sqnn y; omega
  obtain ⟨u, hu⟩ : ∃ u, c * x - s * y = u := ⟨_, rfl⟩
  obtain ⟨v, hv⟩ : ∃ v, s * x + c * y = v := ⟨_, rfl⟩
  rw [hu] at ea hrot
  rw [hv] at eb hrot
  obtain ⟨e, he⟩ : ∃ e, e = 32768 * p - u := ⟨_, rfl⟩
  obtain ⟨f, hf⟩ : ∃ f, f = 32768 * q - v := ⟨_, rfl⟩
  have he2 : -16384 ≤ e ∧ e ≤ 16384 := by omega
  have hf2 : -16384 ≤ f ∧ f ≤ 16384 := by omega
  have hE1 : e * e ≤ 268435456 := by
    rcases Int.le_total 0 e with h | h
    · have := Int.mul_le_mul he2.2 he2.2 h (by decide); omega
    · have := Int.mul_le_mul (show -e ≤ 16384 by omega) (show -e ≤ 16384 by omega) (by omega) (by decide); rw [Int.neg_mul_neg] at this; omega
  have hF1 : f * f ≤ 268435456 := by
    rcases Int.le_total 0 f with h | h
    · have := Int.mul_le_mul hf2.2 hf2.2 h (by decide); omega
    · have := Int.mul_le_mul (show -f ≤ 16384 by omega) (show -f ≤ 16384 by omega) (by omega) (by decide); rw [Int.neg_mul_neg] at this; omega
  have hE0 : 0 ≤ e * e + f * f := by have := sqnn e; have := sqnn f; omega
  have hX := cauchy e f u v
  rw [hrot] at hX
  have hp2 : 1073741824 * (p * p) = u * u + 2 * (e * u) + e * e := by
    have e1 : (u + e) * (u + e) = 1073741824 * (p * p) := by rw [show u + e = 32768 * p by omega, mmm]; rfl
    rw [← e1, expand]
  have hq2 : 1073741824 * (q * q) = v * v + 2 * (f * v) + f * f := by
    have e1 : (v + f) * (v + f) = 1073741824 * (q * q) := by rw [show v + f = 32768 * q by omega, mmm]; rfl
    rw [← e1, expand]
  have hM : 1073741824 * sq (tn c s i l) = 1073741824 * (sq l - (x * x + y * y)) + (c * c + s * s) * (x * x + y * y) + 2 * (e * u + f * v) + (e * e + f * f) := by
    rw [← hrot, ht]; omega
  have HX := hX
  clear hX hrot
  constructor
  · rw [hi_next]
    obtain ⟨b0, b1⟩ := hi_in a k h0 (by omega)
    exact upper b0 h.up hD0 h2 (by omega) hG hE0 (by omega) HX hM (by omega) (by omega)
  · intro h27
    rw [lo_next]
    obtain ⟨b0, b1, b2⟩ := lo_in a k h27 (by omega)
    exact lower b0 (h.dn h27) hD0 h2 hG0 hG hE0 (by omega) HX hM h27 b1 b2 rfl
theorem Inv.up_ {a c s : Int} (hA : Ang c s) (h0 : 0 ≤ a) (ha : a ≤ 4194304) : ∀ (d i k : Nat) (l : List Int), Inv a k l → i + d + 1 ≤ l.length → k + d ≤ 29 → Inv a (k + d) (upw c s d i l)
  | 0, i, k, l, h, _, _ => h
  | d + 1, i, k, l, h, hl, hk => by
    rw [upw, show k + (d + 1) = k + 1 + d by omega]
    exact Inv.up_ hA h0 ha d (i + 1) (k + 1) _ (h.turn hA h0 ha (by omega) i (by omega)) (by rw [tn_len]; omega) (by omega)
theorem Inv.dn_ {a c s : Int} (hA : Ang c s) (h0 : 0 ≤ a) (ha : a ≤ 4194304) : ∀ (m k : Nat) (l : List Int), Inv a k l → m + 1 ≤ l.length → k + m ≤ 29 → Inv a (k + m) (dnw c s m l)
  | 0, k, l, h, _, _ => h
  | m + 1, k, l, h, hl, hk => by
    rw [dnw, show k + (m + 1) = k + 1 + m by omega]
    exact Inv.dn_ hA h0 ha m (k + 1) _ (h.turn hA h0 ha (by omega) m (by omega)) (by rw [tn_len]; omega) (by omega)
theorem ang_of (b : Int) (h : si b ≠ 0) : Ang (co b) (si b) := by
  unfold co si at *
  unfold row at *
  by_cases h0 : b ≤ 0
  · rw [if_pos h0] at h; exact absurd rfl h
  · rw [if_neg h0] at h ⊢
    by_cases h1 : b = 1
    · rw [if_pos h1]; unfold Ang; decide
    · rw [if_neg h1]
      by_cases h2 : b = 2
      · rw [if_pos h2]; unfold Ang; decide
      · rw [if_neg h2]; unfold Ang; decide
/-- A list spread out: how long it is. -/
theorem spread_inv (b a : Int) (l : List Int) (hl : l.length ≤ 16) (h0 : 0 ≤ a) (ha : a ≤ 4194304) (h1 : a * a ≤ sq l) (h2 : sq l < (a + 1) * (a + 1)) : ∃ k, k ≤ 29 ∧ Inv a k (sp b l) := by
  have hI : Inv a 0 l := by
    have e1 : hi a 0 * hi a 0 = 6400000000 * ((a + 1) * (a + 1)) := by unfold hi; rw [show ((0 : Nat) : Int) = 0 from rfl, Int.zero_mul, Int.add_zero, mmm]; rfl
    have e2 : lo a 0 * lo a 0 = 6400000000 * (a * a) := by unfold lo; rw [show ((0 : Nat) : Int) = 0 from rfl, Int.zero_mul, Int.sub_zero, mmm]; rfl
    exact ⟨by rw [e1]; omega, fun _ => by rw [e2]; omega⟩
  unfold sp
  by_cases hs : si b = 0
  · rw [if_pos hs]; exact ⟨0, by omega, hI⟩
  · rw [if_neg hs]
    have hA := ang_of b hs
    by_cases hz : l.length = 0
    · rw [hz]; exact ⟨0, by omega, hI⟩
    · have g1 := Inv.up_ hA h0 ha (l.length - 1) 0 0 l hI (by omega) (by omega)
      have g2 := Inv.dn_ hA h0 ha (l.length - 2) _ _ g1 (by rw [upw_len]; omega) (by omega)
      exact ⟨_, by omega, g2⟩
/-- The law in plain numbers: the whole parts of both lengths. -/
theorem length_law (a b k : Int) (l : List Int) (K : Nat) (hK : K ≤ 29) (h0 : 0 ≤ a) (hb : 0 ≤ b) (h : Inv a K l) (h1 : b * b ≤ sq l) (h2 : sq l < (b + 1) * (b + 1)) : b ≤ a + (a / 1000 + 26) ∧ a - (a / 1000 + 26) ≤ b := by
  obtain ⟨b0, b1⟩ := hi_in a K h0 hK
  have e1 : 80000 * b * (80000 * b) = 6400000000 * (b * b) := by rw [mmm]; rfl
  have g1 := le_of_sq (x := 80000 * b) b0 (by rw [e1]; have := h.up; omega)
  refine ⟨by omega, ?_⟩
  by_cases h27 : 27 ≤ a
  · obtain ⟨c0, c1, c2⟩ := lo_in a K h27 hK
    have e2 : 80000 * (b + 1) * (80000 * (b + 1)) = 6400000000 * ((b + 1) * (b + 1)) := by rw [mmm]; rfl
    have g2 := le_of_sq (x := lo a K) (y := 80000 * (b + 1)) (by omega) (by rw [e2]; have := h.dn h27; omega)
    omega
  · omega
end Go.Proofs.YtgjanpbpggblmaaDoor.Sq
