/- What is spread out is as long as it was, but for a thousandth, and 26. Conditions: none but that each number fits its type. -/
import Derived.Test.YtgjanpbpggblmaaDoorSqList
import Derived.Test.YtgjanpbpggblmaaDoorOSpreadLengthx1
import Derived.Test.YtgjanpbpggblmaaDoorSpreadTells
namespace Go.Proofs.YtgjanpbpggblmaaDoor.SpreadLength
open Go.RowKit Go.Proofs.YtgjanpbpggblmaaDoor.OSpreadLength Go.Proofs.YtgjanpbpggblmaaDoorW.PrintWords Go.Proofs.YtgjanpbpggblmaaDoorW.PrintLast Go.Proofs.YtgjanpbpggblmaaDoorW.PrintMore
open Go.Proofs.YtgjanpbpggblmaaDoor.Math (w64 u64_in wrap_u64 rd_mem mn_eq mx_eq)
open Go.Proofs.YtgjanpbpggblmaaDoor.Sq
open Go.Proofs.YtgjanpbpggblmaaDoor.Spread (sp sp_len Laid Laid.below copy_read awake_any)
set_option linter.unusedVariables false
set_option linter.unusedSimpArgs false
namespace Rt
/-- The whole root, by counting. -/
def isq : Nat → Nat
  | 0 => 0
  | n + 1 => if (isq n + 1) * (isq n + 1) ≤ n + 1 then isq n + 1 else isq n
theorem isq_is : ∀ n, isq n * isq n ≤ n ∧ n < (isq n + 1) * (isq n + 1)
  | 0 => by decide
  | n + 1 => by
    obtain ⟨h1, h2⟩ := isq_is n
    unfold isq
    split
    · rename_i h
      refine ⟨h, ?_⟩
      generalize isq n = s at *
      have : (s + 1 + 1) * (s + 1 + 1) = (s + 1) * (s + 1) + 2 * s + 3 := by simp only [Nat.add_mul, Nat.mul_add]; omega
      omega
    · omega
theorem sq_lt {a b : Nat} (h : a < b) : (a + 1) * (a + 1) ≤ b * b := Nat.mul_le_mul h h
theorem sq_one {x r s : Nat} (h1 : r * r ≤ x) (h2 : x < (r + 1) * (r + 1)) (h3 : s * s ≤ x) (h4 : x < (s + 1) * (s + 1)) : r = s := by
  rcases Nat.lt_trichotomy r s with h | h | h
  · have := sq_lt h; omega
  · exact h
  · have := sq_lt h; omega
theorem isq_of {x r : Nat} (h1 : r * r ≤ x) (h2 : x < (r + 1) * (r + 1)) : isq x = r := sq_one (isq_is x).1 (isq_is x).2 h1 h2
theorem isq_le {x r : Nat} (h : x < r * r) : isq x < r := by
  rcases Nat.lt_or_ge (isq x) r with h1 | h1
  · exact h1
  · have := Nat.mul_le_mul h1 h1
    have := (isq_is x).1
    omega
theorem isq_ge {x r : Nat} (h : r * r ≤ x) : r ≤ isq x := by
  rcases Nat.lt_or_ge (isq x) r with h1 | h1
  · have := sq_lt h1
    have := (isq_is x).2
    omega
  · exact h1
theorem isq_32 {x : Nat} (h : x < 18446744073709551616) : isq x < 4294967296 := isq_le h
theorem isq_mono {x y : Nat} (h : x ≤ y) : isq x ≤ isq y := isq_ge (Nat.le_trans (isq_is x).1 h)
/-- One step of the root's nearing: it is never below the root; where it doesn't go down, the root is reached. -/
theorem near_step {x r : Nat} (h0 : 0 < r) (hr : isq x ≤ r) : isq x ≤ (r + x / r) / 2 ∧ x / r ≤ r + 2 ∧ (r ≤ (r + x / r) / 2 → r = isq x) := by
  obtain ⟨h1, h2⟩ := isq_is x
  have hq1 : r * (x / r) ≤ x := Nat.mul_div_le x r
  have hq2 : x < r * (x / r + 1) := Nat.lt_mul_div_succ x h0
  generalize isq x = s at *
  generalize x / r = q at *
  have a1 : s ≤ (r + q) / 2 := by
    rcases Nat.lt_or_ge (r + q) (2 * s) with h | h
    · exfalso
      obtain ⟨d, hd⟩ : ∃ d, r = s + d := ⟨r - s, by omega⟩
      have hd2 : q + 1 + d ≤ s := by omega
      have h3 : r * (q + 1) ≤ (s + d) * (s - d) := by rw [hd]; exact Nat.mul_le_mul_left _ (by omega)
      have h4 : (s + d) * (s - d) + d * d = s * s := by
        obtain ⟨e, he⟩ : ∃ e, s = d + e := ⟨s - d, by omega⟩
        rw [he, show d + e - d = e by omega]
        simp only [Nat.add_mul, Nat.mul_add, Nat.mul_comm e d]
        omega
      omega
    · omega
  refine ⟨a1, ?_, ?_⟩
  · rcases Nat.lt_or_ge (r + 2) q with h | h
    · exfalso
      have h3 : r * (r + 3) ≤ r * q := Nat.mul_le_mul_left _ h
      have h4 : (s + 1) * (s + 1) ≤ (r + 1) * (r + 1) := Nat.mul_le_mul (by omega) (by omega)
      have h5 : (r + 1) * (r + 1) = r * r + 2 * r + 1 := by simp only [Nat.add_mul, Nat.mul_add]; omega
      have h6 : r * (r + 3) = r * r + 3 * r := by rw [Nat.mul_add]; omega
      omega
    · exact h
  · intro h
    have hq : r ≤ q := by omega
    have h3 : r * r ≤ r * q := Nat.mul_le_mul_left _ hq
    rcases Nat.lt_or_ge s r with h4 | h4
    · have := sq_lt h4; omega
    · omega
theorem tdiv_nat (a b : Nat) : Int.tdiv (a : Int) (b : Int) = ((a / b : Nat) : Int) := by
  rw [Int.tdiv_eq_ediv_of_nonneg (by omega)]; rfl
theorem sqrt_loop {x : Nat} (hx : x < 18446744073709551616) (hx0 : 0 < x) (d : Nat) : ∀ (k r : Nat), r ≤ d → d < k → 0 < r → isq x ≤ r → r ≤ 4294967296 → root_Sqrt.l0 k x r = some ((isq x : Nat) : Int) := by
  induction d with
  | zero => intro k r hd hk h0; omega
  | succ d ih =>
    intro k r hd hk h0 hs h32
    obtain ⟨k, rfl⟩ : ∃ m, k = m + 1 := ⟨k - 1, by omega⟩
    obtain ⟨a1, a2, a3⟩ := near_step h0 hs
    simp only [root_Sqrt.l0]
    have hz0 : x / r = 0 → r ≠ 1 := fun h h1 => by rw [h1, Nat.div_one] at h; omega
    rw [tdiv_nat]
    generalize x / r = q at *
    have e1 : IntKind.u64.wrap (q : Int) = (q : Int) := by rw [u64_in (by omega) (by omega)]
    have e2 : IntKind.u64.wrap ((r : Int) + (q : Int)) = ((r + q : Nat) : Int) := by rw [u64_in (by omega) (by omega)]; omega
    have e3 : IntKind.u64.wrap (Int.tdiv ((r + q : Nat) : Int) 2) = (((r + q) / 2 : Nat) : Int) := by
      have := tdiv_nat (r + q) 2
      rw [show ((2 : Nat) : Int) = 2 from rfl] at this
      rw [this, u64_in (by omega) (by omega)]
    rw [if_neg (by omega), e1, e2, e3]
    by_cases h : r ≤ (r + q) / 2
    · rw [if_pos (by omega), a3 h]
    · rw [if_neg (by omega)]
      have hpos : 0 < (r + q) / 2 := by
        by_cases hq : q = 0
        · have := hz0 hq; omega
        · omega
      exact ih k _ (by omega) (by omega) hpos a1 (by omega)
theorem bitLen_top : ∀ (f x : Nat), x < 2 ^ f → x < 2 ^ Lib.bitLenAux f x ∧ Lib.bitLenAux f x ≤ f
  | 0, x, h => ⟨by simpa [Lib.bitLenAux] using h, by simp [Lib.bitLenAux]⟩
  | f + 1, x, h => by
    unfold Lib.bitLenAux
    split
    · rename_i hz; subst hz; simp
    · have hp : 2 ^ (f + 1) = 2 * 2 ^ f := by rw [Nat.pow_succ]; omega
      obtain ⟨h1, h2⟩ := bitLen_top f (x / 2) (by omega)
      rw [Nat.add_comm 1, Nat.pow_succ]
      exact ⟨by omega, by omega⟩
theorem two_64 : 2 ^ 64 = 18446744073709551616 := by decide
theorem bitLen_64 {x : Nat} (hx : x < 18446744073709551616) : x < 2 ^ Lib.bitLen x ∧ Lib.bitLen x ≤ 64 := by
  unfold Lib.bitLen
  exact bitLen_top 64 x (by rw [two_64]; exact hx)
theorem len_is {x : Nat} (hx : x < 18446744073709551616) (k : Nat) : bits_Len64.f k x = some ((Lib.bitLen x : Nat) : Int) := by
  unfold bits_Len64.f
  rw [if_pos (by omega), Int.toNat_natCast]
theorem sqrt_is {x : Nat} (hx : x < 18446744073709551616) (k : Nat) (hk : 4294967297 < k) : root_Sqrt.f k x = some ((isq x : Nat) : Int) := by
  unfold root_Sqrt.f
  by_cases h0 : x = 0
  · subst h0; rw [if_pos (by omega)]; rfl
  rw [if_neg (by omega), len_is hx k, Option.bind_some]
  obtain ⟨b1, b2⟩ := bitLen_64 hx
  obtain ⟨L, hL⟩ : ∃ L, Lib.bitLen x = L := ⟨_, rfl⟩
  rw [hL] at b1 b2 ⊢
  obtain ⟨j, hj⟩ : ∃ j, (L + 1) / 2 = j := ⟨_, rfl⟩
  have e1 : wrap64 (Int.tdiv (wrap64 ((L : Int) + 1)) 2) = (j : Int) := by
    rw [w64 (n := (L : Int) + 1) (by omega) (by omega), Int.tdiv_eq_ediv_of_nonneg (by omega), w64 (by omega) (by omega)]; omega
  rw [e1, if_pos (by omega)]
  have hj32 : j ≤ 32 := by omega
  have hle : 2 ^ j ≤ 2 ^ 32 := Nat.pow_le_pow_right (by decide) hj32
  have hle' : 2 ^ j ≤ 4294967296 := hle
  have hp : 0 < 2 ^ j := Nat.two_pow_pos j
  have e2 : shl .u64 1 (j : Int) = ((2 ^ j : Nat) : Int) := by
    unfold shl
    have : min ((j : Int)).toNat IntKind.u64.bits = j := by simp [IntKind.bits]; omega
    rw [this, Int.one_mul, show ((2 : Int) ^ j) = ((2 ^ j : Nat) : Int) from (Int.natCast_pow 2 j).symm, u64_in (by omega) (by omega)]
  rw [e2]
  refine sqrt_loop hx (by omega) (2 ^ j) k (2 ^ j) (Nat.le_refl _) (by omega) hp ?_ hle'
  have hsq : x < 2 ^ j * 2 ^ j := by
    rw [← Nat.pow_add]
    exact Nat.lt_of_lt_of_le b1 (Nat.pow_le_pow_right (by decide) (by omega))
  exact Nat.le_of_lt (isq_le hsq)
end Rt
def Sm (x : Int) : Prop := -1048576 ≤ x ∧ x ≤ 1048576
def Md (x : Int) : Prop := -8388608 ≤ x ∧ x ≤ 8388608
theorem md_sq {x : Int} (h : Md x) : 0 ≤ x * x ∧ x * x ≤ 70368744177664 := by
  refine ⟨sqnn x, ?_⟩
  rcases Int.le_total 0 x with h1 | h1
  · have := Int.mul_le_mul h.2 h.2 h1 (by decide); omega
  · have := Int.mul_le_mul (show -x ≤ 8388608 by have := h.1; omega) (show -x ≤ 8388608 by have := h.1; omega) (by omega) (by decide); rw [Int.neg_mul_neg] at this; omega
theorem sm_sq {x : Int} (h : Sm x) : 0 ≤ x * x ∧ x * x ≤ 1099511627776 := by
  refine ⟨sqnn x, ?_⟩
  rcases Int.le_total 0 x with h1 | h1
  · have := Int.mul_le_mul h.2 h.2 h1 (by decide); omega
  · have := Int.mul_le_mul (show -x ≤ 1048576 by have := h.1; omega) (show -x ≤ 1048576 by have := h.1; omega) (by omega) (by decide); rw [Int.neg_mul_neg] at this; omega
theorem sq_le : ∀ (l : List Int) (c : Int), (∀ x ∈ l, x * x ≤ c) → sq l ≤ (l.length : Int) * c
  | [], c, _ => by simp [sq]
  | x :: r, c, h => by
    have h1 := h x (by simp)
    have h2 := sq_le r c (fun y hy => h y (by simp [hy]))
    unfold sq
    rw [List.length_cons, show ((r.length + 1 : Nat) : Int) = (r.length : Int) + 1 by omega, Int.add_mul]
    omega
theorem nsum_is : ∀ (l : List Int) (s : Int), (∀ x ∈ l, Md x) → 0 ≤ s → s + (l.length : Int) * 70368744177664 ≤ 9223372036854775807 → nsum l s = s + sq l
  | [], s, _, _, _ => by simp [nsum, sq]
  | x :: r, s, h, h0, hs => by
    have hx := h x (by simp)
    have hq := md_sq hx
    rw [List.length_cons, show ((r.length + 1 : Nat) : Int) = (r.length : Int) + 1 by omega, Int.add_mul] at hs
    have hr : 0 ≤ (r.length : Int) * 70368744177664 := by omega
    have hy : yv x = x := by unfold yv; rw [mx_eq, mn_eq]; unfold Md at hx; omega
    unfold nsum sq
    rw [hy, w64 (n := x * x) (by omega) (by omega), u64_in (n := x * x) (by omega) (by omega), u64_in (n := s + x * x) (by omega) (by omega), nsum_is r (s + x * x) (fun y hy => h y (by simp [hy])) (by omega) (by omega)]
    omega
theorem norm_is (l : List Int) (hl : l.length ≤ 16) (h : ∀ x ∈ l, Md x) (k : Nat) : root_Norm.f k l = some (sq l) := by
  unfold root_Norm.f
  rw [List.take_of_length_le (by omega), nsum_is l 0 h (by decide) (by omega), Int.zero_add]
/-- The whole part of a list's length. -/
def len (l : List Int) : Nat := Rt.isq (sq l).toNat
theorem len_sq (l : List Int) : (len l : Int) * (len l : Int) ≤ sq l ∧ sq l < ((len l : Int) + 1) * ((len l : Int) + 1) := by
  obtain ⟨h1, h2⟩ := Rt.isq_is (sq l).toNat
  have h0 := sq_nn l
  unfold len
  generalize Rt.isq (sq l).toNat = s at *
  have e1 : ((s * s : Nat) : Int) = (s : Int) * (s : Int) := Int.natCast_mul s s
  have e2 : (((s + 1) * (s + 1) : Nat) : Int) = ((s : Int) + 1) * ((s : Int) + 1) := by rw [Int.natCast_mul]; rfl
  generalize (s : Int) * (s : Int) = p at *
  generalize ((s : Int) + 1) * ((s : Int) + 1) = q at *
  omega
theorem length_fn (l : List Int) (hl : l.length ≤ 16) (h : ∀ x ∈ l, Md x) : root_Length.f 4294967300 l = some (len l : Int) := by
  have hq := sq_le l 70368744177664 (fun x hx => (md_sq (h x hx)).2)
  have h0 := sq_nn l
  obtain ⟨s, hs⟩ : ∃ s : Nat, sq l = s := ⟨(sq l).toNat, by omega⟩
  have hb : s < 18446744073709551616 := by
    have : (l.length : Int) * 70368744177664 ≤ 16 * 70368744177664 := Int.mul_le_mul_of_nonneg_right (by omega) (by decide)
    omega
  unfold root_Length.f len
  rw [norm_is l hl h, Option.bind_some, hs, Rt.sqrt_is hb 4294967300 (by omega), Option.bind_some, Int.toNat_natCast]
theorem length_any (l : List Int) (n : Nat) (hn : l.length = n) (hl : n ≤ 16) (h : ∀ x ∈ l, Md x) (A : Option Addr) (c : Nat) (hc : n ≤ c) (w : World) (C : Kd.C (Kd.int .i32) w A n l) :
    Calls Tryd.prog 15 #[.slice A n c] w fun e w' => e = .returned (.int .u64 (len l : Int)) ∧ Below w.heap.size w w' := by
  subst hn
  exact root_Length.calls 4294967300 A c l _ w C hc (length_fn l hl h)
/-- The law's numbers. -/
theorem law_of (b : Int) (l : List Int) (hl : l.length ≤ 16) (h : ∀ x ∈ l, Sm x) : (∀ x ∈ sp b l, Md x) ∧ (len l : Int) ≤ 4194304 ∧ (len (sp b l) : Int) ≤ 8388608 ∧ (len (sp b l) : Int) ≤ (len l : Int) + ((len l : Int) / 1000 + 26) ∧ (len l : Int) - ((len l : Int) / 1000 + 26) ≤ (len (sp b l) : Int) := by
  obtain ⟨h1, h2⟩ := len_sq l
  have hq := sq_le l 1099511627776 (fun x hx => (sm_sq (h x hx)).2)
  have hle : (l.length : Int) * 1099511627776 ≤ 16 * 1099511627776 := Int.mul_le_mul_of_nonneg_right (by omega) (by decide)
  have ha : (len l : Int) ≤ 4194304 := le_of_sq (by decide) (by omega)
  obtain ⟨K, hK, hI⟩ := spread_inv b (len l) l hl (by omega) ha h1 h2
  have hsp := sp_len b l
  obtain ⟨g1, g2⟩ := len_sq (sp b l)
  have hlaw := length_law (len l) (len (sp b l)) 0 (sp b l) K hK (by omega) (by omega) hI g1 g2
  refine ⟨fun x hx => ?_, ha, by omega, hlaw⟩
  obtain ⟨i, hi, rfl⟩ := List.getElem_of_mem hx
  have := hI.small (by omega) ha hK i hi
  unfold rd at this
  rw [Int.toNat_natCast, List.getD_eq_getElem?_getD, List.getElem?_eq_getElem hi] at this
  exact this
set_option maxHeartbeats 4000000 in
set_option maxRecDepth 100000 in
theorem length_at (b : Int) (hb0 : 0 ≤ b) (hb1 : b ≤ 255) (l : List Int) (n : Nat) (hn : l.length = n) (hl : n ≤ 16) (A0 : Option Addr) (c0 : Nat) (hc : n ≤ c0) (hw : ∀ x ∈ l, -2147483648 ≤ x ∧ x ≤ 2147483647) (w : World) (hL : Laid w) (hC : Kd.C (Kd.int .i32) w A0 n l) :
    Calls Tryd.prog 6 #[.slice A0 n c0, .int .u8 b] w fun e w' => e = .returned (.bool true) ∧ Below w.heap.size w w' := by
  have HB := Aside0.mk (Below.refl w.heap.size w)
  have HN := Aside0.mk hn
  have HL := Aside0.mk hL
  have HX := Aside0.mk hC
  clear hn hL hC
  go_enter Tryd.func6, Tryd.ntmps6
  go_wp2_with (go_at_call 7; (with_reducible refine (awake_any _ HL.out).mono ?_); rintro e w1 ⟨rfl, hb⟩; have m0 := Aside0.mk (below_step HB.out hb); have m1 := Aside0.mk (HL.out.below hb); have m2 := Aside0.mk (Kd.C_below HX.out hb); clear HB HL HX hb; have HB := m0; have HL := m1; have HX := m2; clear m0 m1 m2)
  go_loop [17] (fun i => ∃ q : Nat, q ≤ n ∧ i = .int .i64 q ∧ Aside0 (∀ j : Nat, j < q → Sm (rd l j))) (fun i => (n - intOf i).toNat)
  case atStart => exact ⟨0, by omega, rfl, ⟨fun j hj => by omega⟩⟩
  case round =>
    obtain ⟨q, hq, rfl, HS⟩ := hrel
    by_cases hqt : q < n
    · obtain ⟨ad, eA, hcell⟩ := Kd.at_int HX.out (q : Int) (by omega) (by omega)
      subst eA
      rw [Int.toNat_natCast] at hcell
      have hq' : (q : Int) < (n : Int) := by omega
      by_cases hx : Sm (rd l q)
      · have h1 : decide (1048576 < rd l (q : Int)) = false := decide_eq_false (by have := hx.2; omega)
        have h2 : decide (rd l (q : Int) < -1048576) = false := decide_eq_false (by have := hx.1; omega)
        have HXQ := Aside0.mk hx
        clear hx
        go_wp2
        go_round
        case rel => exact ⟨q + 1, by omega, by simp, ⟨fun j hj => by
          rcases Nat.lt_or_ge j q with h | h
          · exact HS.out j h
          · obtain rfl : j = q := by omega
            exact HXQ.out⟩⟩
        case measure => simp [intOf]; omega
      · have hd : decide (1048576 < rd l (q : Int)) = true ∨ (decide (1048576 < rd l (q : Int)) = false ∧ decide (rd l (q : Int) < -1048576) = true) := by
          unfold Sm at hx
          simp only [decide_eq_true_eq, decide_eq_false_iff_not]
          omega
        clear hx
        rcases hd with h1 | ⟨h1, h2⟩
        · go_wp2
          go_ret
          exact ⟨rfl, HB.out⟩
        · go_wp2
          go_ret
          exact ⟨rfl, HB.out⟩
    · have HSM : Aside0 (∀ x ∈ l, Sm x) := ⟨fun x hx => by
        obtain ⟨i, hi, rfl⟩ := List.getElem_of_mem hx
        have h := HS.out i (by have := HN.out; omega)
        unfold rd at h
        rw [Int.toNat_natCast, List.getD_eq_getElem?_getD, List.getElem?_eq_getElem hi] at h
        exact h⟩
      obtain ⟨r, hr⟩ : ∃ r, r = b % 4 := ⟨_, rfl⟩
      have HLAW := Aside0.mk (law_of r l (by have := HN.out; omega) HSM.out)
      obtain ⟨m1, m2, m3, m4, m5⟩ := HLAW.out
      have HM := Aside0.mk m1
      have HMX : Aside0 (∀ x ∈ l, Md x) := ⟨fun x hx => by have := HSM.out x hx; unfold Sm at this; unfold Md; omega⟩
      have C1 := Aside0.mk (fun w C => length_any l n HN.out hl HMX.out A0 c0 hc w C)
      have C2 := Aside0.mk (fun A c w hc C => length_any (sp r l) n (by rw [sp_len, HN.out]) hl HM.out A c hc w C)
      obtain ⟨a, ha⟩ : ∃ a, len l = a := ⟨_, rfl⟩
      obtain ⟨b', hb'⟩ : ∃ a, len (sp r l) = a := ⟨_, rfl⟩
      rw [ha] at m2 m4 m5 C1
      rw [hb'] at m3 m4 m5 C2
      have d1 : decide ((b' : Int) ≤ (a : Int) + ((a : Int) / 1000 + 26)) = true := decide_eq_true m4
      have d2 : decide ((a : Int) - ((a : Int) / 1000 + 26) ≤ (b' : Int)) = true := decide_eq_true m5
      have hq' : ¬ (q : Int) < (n : Int) := by omega
      have hr2 : b % 4 = r := hr.symm
      clear HLAW m1 m4 m5 ha hb' hr HS
      go_wp2_with (first
        | (go_at_call 15; (with_reducible refine (C1.out _ HX.out).mono ?_); rintro e w2 ⟨rfl, hb⟩; have m0 := Aside0.mk (below_step HB.out hb); have m1 := Aside0.mk (HL.out.below hb); have m2' := Aside0.mk (Kd.C_below HX.out hb); clear HB HL HX hb; have HB := m0; have HL := m1; have HX := m2'; clear m0 m1 m2')
        | (go_at_call 10; (with_reducible refine (copy_read r l n HN.out (by omega) A0 c0 _ HX.out hc HL.out).mono ?_); rintro e w3 ⟨A1, c1, rfl, hC1, hc1, hb⟩; have m0 := Aside0.mk (below_step HB.out hb); clear HB hb HX; have HB := m0; have HY := Aside0.mk hC1; clear m0 hC1)
        | (go_at_call 15; (with_reducible refine (C2.out _ _ _ hc1 HY.out).mono ?_); rintro e w4 ⟨rfl, hb⟩; have m0 := Aside0.mk (below_step HB.out hb); clear HB hb; have HB := m0; clear m0))
      go_ret
      exact ⟨congrArg Ending.returned (congrArg Value.bool (by simp [*])), HB.out⟩
set_option maxHeartbeats 1000000 in
theorem length_long (b : Int) (A0 : Option Addr) (n c0 : Nat) (d : decide ((16 : Int) < (n : Int)) = true) (w : World) (hL : Laid w) :
    Calls Tryd.prog 6 #[.slice A0 n c0, .int .u8 b] w fun e w' => e = .returned (.bool true) ∧ Below w.heap.size w w' := by
  have HB := Aside0.mk (Below.refl w.heap.size w)
  have HL := Aside0.mk hL
  clear hL
  go_enter Tryd.func6, Tryd.ntmps6
  go_wp2_with (go_at_call 7; (with_reducible refine (awake_any _ HL.out).mono ?_); rintro e w1 ⟨rfl, hb⟩; have m0 := Aside0.mk (below_step HB.out hb); clear HB hb; have HB := m0; clear m0)
  go_ret
  exact ⟨rfl, HB.out⟩
theorem length_row (a0 : Option Addr) (len0 cap0 : Nat) (z0 : List Int) (b : Int) (w : World) (hL : Laid w) (wf : (Lit.int .u8 b).wf = true) (w0 : (a0 = none ∧ len0 = 0 ∧ cap0 = 0 ∧ z0 = []) ∨ ∃ x, a0 = some x ∧ len0 ≤ cap0 ∧ cap0 ≤ maxLen ∧ z0.length = cap0 ∧ (∀ i, i < z0.length → w.cell? (x.add i) = some (.int .i32 (z0.getD i 0))) ∧ ∀ n ∈ z0, (Lit.int .i32 n).wf = true) :
    Calls Tryd.prog 6 #[.slice a0 len0 cap0, .int .u8 b] w fun e w' => e = .returned (.bool true) ∧ Below w.heap.size w w' := by
  obtain ⟨l0, rfl, hr0, hm0, hw0, hc0⟩ := ReadsInt.ofRowC w0
  obtain ⟨h0, h1⟩ := Math.wf_u8 wf
  by_cases hl : l0.length ≤ 16
  · exact length_at b h0 h1 l0 _ rfl hl a0 cap0 hc0 (fun x h => Math.wf_i32 (hw0 x h)) w hL (Kd.C_of_reads (d := (0 : Int)) (h1 := fun _ => rfl) hr0)
  · exact length_long b a0 _ cap0 (decide_eq_true (by omega)) w hL
end Go.Proofs.YtgjanpbpggblmaaDoor.SpreadLength
