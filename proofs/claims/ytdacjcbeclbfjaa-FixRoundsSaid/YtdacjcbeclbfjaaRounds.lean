/- Any number is rounded by any number of bits as the document says; the product of any two numbers of 32 bits, too. Conditions: none but that each number fits its type. -/
import Derived.Test.YtdacjcbeclbfjaaPFixRoundsx1
import Derived.Test.YtdacjcbeclbfjaaMath
import Derived.IntWalk
import Derived.Deep.RegionHeld3
import Derived.Deep.DrawnRows
namespace Go.Proofs.Ytdacjcbeclbfjaa.Rounds
open Go.RowKit Go.Proofs.YtdacjcbeclbfjaaW.PrintWords Go.Proofs.YtdacjcbeclbfjaaW.PrintLast Go.Proofs.YtdacjcbeclbfjaaW.PrintMore
open Go.Proofs.Ytdacjcbeclbfjaa.PFixRounds Go.Proofs.Ytdacjcbeclbfjaa.Math
set_option linter.unusedVariables false
set_option linter.unusedSimpArgs false

theorem awake_any (w : World) : Calls Try.prog 10 #[] w fun e w' => e = .returned (.bool true) ∧ Below w.heap.size w w' :=
  spinetlaw01_awake.calls true w (by decide +kernel)
set_option maxHeartbeats 1000000 in
set_option maxRecDepth 100000 in
theorem rounds_in (r m x s a b : Int) (hR : ∀ w, Calls Try.prog 16 #[.int .i64 x, .int .i64 s] w fun e w' => e = .returned (.int .i64 r) ∧ Below w.heap.size w w')
    (hR' : ∀ w, Calls Try.prog 17 #[.int .i64 x, .int .i64 s] w fun e w' => e = .returned (.int .i64 r) ∧ Below w.heap.size w w')
    (hM : ∀ w, Calls Try.prog 18 #[.int .i32 a, .int .i32 b] w fun e w' => e = .returned (.int .i32 m) ∧ Below w.heap.size w w')
    (hM' : ∀ w, Calls Try.prog 19 #[.int .i64 (IntKind.i64.wrap a), .int .i64 (IntKind.i64.wrap b)] w fun e w' => e = .returned (.int .i64 m) ∧ Below w.heap.size w w')
    (w : World) (ha0 : -2147483648 ≤ a) (ha1 : a ≤ 2147483647) (hb0 : -2147483648 ≤ b) (hb1 : b ≤ 2147483647) (hm0 : -2147483648 ≤ m) (hm1 : m ≤ 2147483647) :
    Calls Try.prog 5 #[.int .i64 x, .int .i64 s, .agg #[.int .i32 a, .int .i32 b]] w fun e w' => e = .returned (.bool true) ∧ Below w.heap.size w w' := by
  have HR := Aside0.mk hR
  have HR' := Aside0.mk hR'
  have HM := Aside0.mk hM
  have HM' := Aside0.mk hM'
  have HB := Aside0.mk (Below.refl w.heap.size w)
  clear hR hR' hM hM'
  have c0 : (w.alloc (Obj.cells #[Value.int IntKind.i32 a, Value.int IntKind.i32 b] 30)).cell? ⟨w.heap.size, 0, none⟩ = some (.int .i32 a) := by simp
  have c1 : (w.alloc (Obj.cells #[Value.int IntKind.i32 a, Value.int IntKind.i32 b] 30)).cell? ⟨w.heap.size, 1, none⟩ = some (.int .i32 b) := by simp
  go_enter Try.func5, Try.ntmps5
  go_wp2_with (first | (go_at_call 10; refine (awake_any _).mono ?_; rintro e w1 ⟨rfl, hb⟩; have n0 := Aside0.mk (below_step (by first | exact HB.out | exact below_alloc HB.out _) hb); clear HB; have HB := n0; clear n0; have m0 := pw_cell_below hb c0; have m1 := pw_cell_below hb c1; clear c0 c1 hb; have c0 := m0; have c1 := m1; clear m0 m1) | (go_at_call 16; refine (HR.out _).mono ?_; rintro e w1 ⟨rfl, hb⟩; have n0 := Aside0.mk (below_step (by first | exact HB.out | exact below_alloc HB.out _) hb); clear HB; have HB := n0; clear n0; have m0 := pw_cell_below hb c0; have m1 := pw_cell_below hb c1; clear c0 c1 hb; have c0 := m0; have c1 := m1; clear m0 m1) | (go_at_call 17; refine (HR'.out _).mono ?_; rintro e w1 ⟨rfl, hb⟩; have n0 := Aside0.mk (below_step (by first | exact HB.out | exact below_alloc HB.out _) hb); clear HB; have HB := n0; clear n0; have m0 := pw_cell_below hb c0; have m1 := pw_cell_below hb c1; clear c0 c1 hb; have c0 := m0; have c1 := m1; clear m0 m1) | (go_at_call 18; refine (HM.out _).mono ?_; rintro e w1 ⟨rfl, hb⟩; have n0 := Aside0.mk (below_step (by first | exact HB.out | exact below_alloc HB.out _) hb); clear HB; have HB := n0; clear n0; have m0 := pw_cell_below hb c0; have m1 := pw_cell_below hb c1; clear c0 c1 hb; have c0 := m0; have c1 := m1; clear m0 m1) | (go_at_call 19; refine (HM'.out _).mono ?_; rintro e w1 ⟨rfl, hb⟩; have n0 := Aside0.mk (below_step (by first | exact HB.out | exact below_alloc HB.out _) hb); clear HB; have HB := n0; clear n0; have m0 := pw_cell_below hb c0; have m1 := pw_cell_below hb c1; clear c0 c1 hb; have c0 := m0; have c1 := m1; clear m0 m1))
  go_region_held3 (fun w' => w'.cell? ⟨w.heap.size, 0, none⟩ = some (.int .i32 a) ∧ w'.cell? ⟨w.heap.size, 1, none⟩ = some (.int .i32 b) ∧ Aside0 (Below w.heap.size w w'))
    (first | exact ⟨(World.cell?_drew _ _).trans c0, (World.cell?_drew _ _).trans c1, ⟨below_drew HB.out⟩⟩ | (go_split_ands; refine ⟨pw_cell_below hb (by assumption), pw_cell_below hb (by assumption), ⟨below_step (Aside0.out (by assumption)) hb⟩⟩))
    (first | (go_at_call 16; refine (HR.out _).mono ?_; rintro e w1 ⟨rfl, hb⟩) | (go_at_call 17; refine (HR'.out _).mono ?_; rintro e w1 ⟨rfl, hb⟩) | (go_at_call 18; refine (HM.out _).mono ?_; rintro e w1 ⟨rfl, hb⟩) | (go_at_call 19; refine (HM'.out _).mono ?_; rintro e w1 ⟨rfl, hb⟩))
  rename_i hH
  have HB2 := hH.2.2
  clear hH
  go_wp2
  go_ret
  exact ⟨congrArg _ (congrArg Value.bool (by rw [IntWalk.i64_in m (by omega)]; simp)), HB2.out⟩

theorem pow_loop (n : Nat) (hn : n ≤ 62) (d : Nat) : ∀ (k : Nat) (j : Nat), j + d = n → d < k → spinetref01_Pow.l0 k n (2 ^ j) j = some (2 ^ n) := by
  induction d with
  | zero =>
    intro k j hj hk
    obtain ⟨k, rfl⟩ : ∃ m, k = m + 1 := ⟨k - 1, by omega⟩
    obtain rfl : j = n := by omega
    simp only [spinetref01_Pow.l0]
    rw [if_neg (by omega)]
  | succ d ih =>
    intro k j hj hk
    obtain ⟨k, rfl⟩ : ∃ m, k = m + 1 := ⟨k - 1, by omega⟩
    simp only [spinetref01_Pow.l0]
    have e1 : wrap64 ((j : Int) + 1) = ((j + 1 : Nat) : Int) := by rw [w64 (by omega) (by omega)]; omega
    have hle : (2 : Int) ^ (j + 1) ≤ 4611686018427387904 := pow_le_62 (by omega)
    have hp : (0 : Int) < 2 ^ (j + 1) := Int.pow_pos (by decide)
    have e2 : wrap64 ((2 : Int) ^ j * 2) = 2 ^ (j + 1) := by rw [← Int.pow_succ, w64 (by omega) (by omega)]
    rw [if_pos (by omega), e1, e2]
    exact ih k (j + 1) (by omega) (by omega)
theorem pow_is (n : Nat) (hn : n ≤ 62) : spinetref01_Pow.f 64 n = some (2 ^ n) :=
  pow_loop n hn n 64 0 (by omega) (by omega)

/-- A number rounded by n bits, n from 1 to 62. -/
def rn (x : Int) (n : Nat) : Int := x / 2 ^ n + x / 2 ^ (n - 1) % 2
def rnd (x s : Int) : Int := if s ≤ 0 then x else rn x (min s 62).toNat

theorem half (x : Int) {n : Nat} (h1 : 1 ≤ n) : 2 ^ n = 2 * (2 : Int) ^ (n - 1) ∧ x / 2 ^ n = x / 2 ^ (n - 1) / 2 := by
  obtain ⟨j, rfl⟩ : ∃ j, n = j + 1 := ⟨n - 1, by omega⟩
  have hp : (0 : Int) < 2 ^ j := Int.pow_pos (by decide)
  rw [Nat.add_sub_cancel, Int.pow_succ]
  exact ⟨by omega, by rw [Int.ediv_ediv_of_nonneg (by omega)]⟩

theorem rn_range {x : Int} (h0 : -9223372036854775808 ≤ x) (h1 : x ≤ 9223372036854775807) {n : Nat} (hn : 1 ≤ n) : -4611686018427387904 ≤ x / 2 ^ n ∧ x / 2 ^ n ≤ 4611686018427387903 ∧ -9223372036854775808 ≤ rn x n ∧ rn x n ≤ 9223372036854775807 := by
  obtain ⟨_, e2⟩ := half x hn
  have hp : (0 : Int) < 2 ^ (n - 1) := Int.pow_pos (by decide)
  have hq := div_le_self_abs x (2 ^ (n - 1)) hp
  have hl : -9223372036854775808 ≤ x / 2 ^ (n - 1) := by split at hq <;> omega
  have hr : x / 2 ^ (n - 1) ≤ 9223372036854775807 := by
    have : x / 2 ^ (n - 1) ≤ max x 0 := by
      by_cases h : x < 0
      · have := Int.ediv_neg_of_neg_of_pos h hp; omega
      · have := Int.ediv_le_self (a := x) (2 ^ (n - 1)) (by omega); omega
    omega
  unfold rn
  rw [e2]
  omega

theorem round_is {x s : Int} (h0 : -9223372036854775808 ≤ x) (h1 : x ≤ 9223372036854775807) : fix_Round.f x s = some (rnd x s) := by
  unfold fix_Round.f rnd
  by_cases hs : s ≤ 0
  · rw [if_pos hs, if_pos hs]
  rw [if_neg hs, if_neg hs, mn_eq]
  obtain ⟨n, hn⟩ : ∃ n : Nat, min s 62 = n := ⟨(min s 62).toNat, by omega⟩
  rw [hn]
  have e1 : wrap64 ((n : Int) - 1) = ((n - 1 : Nat) : Int) := by rw [w64 (by omega) (by omega)]; omega
  rw [if_pos (by omega), e1, if_pos (by omega), Int.toNat_natCast]
  have e2 : shr .i64 x ((n - 1 : Nat) : Int) = x / 2 ^ (n - 1) := by
    unfold shr
    have : min ((n - 1 : Nat) : Int).toNat IntKind.i64.bits = n - 1 := by simp [IntKind.bits]; omega
    rw [this]
  have e3 : bits .and .i64 (x / 2 ^ (n - 1)) 1 = x / 2 ^ (n - 1) % 2 := and_i64 _ 1 (by decide)
  rw [e2, e3]
  have hr := rn_range h0 h1 (n := n) (by omega)
  unfold rn at hr
  rw [w64 hr.2.2.1 hr.2.2.2]
  rfl

theorem floor_is (x p : Int) (hp : 0 < p) (h0 : -9223372036854775808 ≤ x / p) (h1 : x / p ≤ 9223372036854775807) : spinetref01_Floor.f x p = some (x / p) := by
  unfold spinetref01_Floor.f
  rw [if_neg (by omega)]
  by_cases hx : 0 ≤ x
  · rw [Int.tmod_eq_emod_of_nonneg hx, Int.tdiv_eq_ediv_of_nonneg hx, if_neg (by have := Int.emod_nonneg x (by omega : p ≠ 0); omega), w64 h0 h1]
  · have e1 := Int.tdiv_eq_ediv (a := x) (b := p)
    have e2 := Int.tmod_eq_emod (a := x) (b := p)
    have hs : Int.sign p = 1 := Int.sign_eq_one_of_pos hp
    have hm := Int.emod_nonneg x (by omega : p ≠ 0)
    have hm2 := Int.emod_lt_of_pos x hp
    by_cases hd : p ∣ x
    · rw [if_pos (Or.inr hd)] at e1 e2
      have hz := Int.emod_eq_zero_of_dvd hd
      rw [if_neg (by omega), e1, Int.add_zero, w64 h0 h1]
    · have hn : ¬(0 ≤ x ∨ p ∣ x) := fun h => h.elim hx hd
      rw [if_neg hn] at e1 e2
      have hz : x % p ≠ 0 := fun h => hd (Int.dvd_of_emod_eq_zero h)
      have ha : (p.natAbs : Int) = p := by omega
      rw [if_pos (by omega), e1, hs]
      congr 1
      have hneg : x / p < 0 := Int.ediv_neg_of_neg_of_pos (by omega) hp
      rw [w64 (n := x / p + 1) (by omega) (by omega), w64 (by omega) (by omega)]
      omega

theorem ref_round_is {x s : Int} (h0 : -9223372036854775808 ≤ x) (h1 : x ≤ 9223372036854775807) : spinetref01_Round.f 64 x s = some (rnd x s) := by
  unfold spinetref01_Round.f spinetref01_Bits.f
  obtain ⟨n, hn⟩ : ∃ n : Nat, min (max s 0) 62 = n := ⟨(min (max s 0) 62).toNat, by omega⟩
  have e : spinetref01_Held.f s 0 62 = some (n : Int) := by
    unfold spinetref01_Held.f
    rw [← hn]
    (repeat' split) <;> (congr 1; omega)
  rw [e]
  simp only [Option.bind_some]
  unfold rnd
  by_cases hs : s ≤ 0
  · rw [if_pos hs, if_pos (by omega)]
  rw [if_neg hs, if_neg (by omega), pow_is n (by omega)]
  simp only [Option.bind_some]
  have hp : (0 : Int) < 2 ^ n := Int.pow_pos (by decide)
  have hle : (2 : Int) ^ n ≤ 4611686018427387904 := pow_le_62 (by omega)
  have hr := rn_range h0 h1 (n := n) (by omega)
  rw [floor_is x _ hp (by omega) (by omega)]
  simp only [Option.bind_some]
  have en : (min s 62).toNat = n := by omega
  rw [en]
  obtain ⟨d1, d2⟩ := half x (n := n) (by omega)
  have hm := Int.mul_ediv_add_emod x (2 ^ n)
  have hm0 := Int.emod_nonneg x (by omega : (2 : Int) ^ n ≠ 0)
  have hm1 := Int.emod_lt_of_pos x hp
  have et : Int.tdiv (2 ^ n) 2 = 2 ^ (n - 1) := by rw [Int.tdiv_eq_ediv_of_nonneg (by omega)]; omega
  have hp1 : (0 : Int) < 2 ^ (n - 1) := Int.pow_pos (by decide)
  rw [et, w64 (n := 2 ^ (n - 1)) (by omega) (by omega)]
  have e4 : wrap64 (x - wrap64 (x / 2 ^ n * 2 ^ n)) = x % 2 ^ n := by
    rw [Int.mul_comm]
    generalize 2 ^ n * (x / 2 ^ n) = y at *
    unfold wrap64; omega
  rw [e4]
  have hbit : (x / 2 ^ (n - 1)) % 2 = if x % 2 ^ n ≥ 2 ^ (n - 1) then 1 else 0 := by
    have k1 := Int.mul_ediv_add_emod x (2 ^ (n - 1))
    have k2 := Int.emod_nonneg x (by omega : (2 : Int) ^ (n - 1) ≠ 0)
    have k3 := Int.emod_lt_of_pos x hp1
    have k4 : x % 2 ^ n = 2 ^ (n - 1) * (x / 2 ^ (n - 1) % 2) + x % 2 ^ (n - 1) := by
      have : 2 ^ n * (x / 2 ^ n) = 2 ^ (n - 1) * (2 * (x / 2 ^ (n - 1) / 2)) := by
        rw [d2, d1, Int.mul_comm 2, Int.mul_assoc]
      have k5 : x / 2 ^ (n - 1) = 2 * (x / 2 ^ (n - 1) / 2) + x / 2 ^ (n - 1) % 2 := by omega
      rw [k5, Int.mul_add] at k1
      rw [this] at hm
      have k6 : (2 * (x / 2 ^ (n - 1) / 2) + x / 2 ^ (n - 1) % 2) / 2 = x / 2 ^ (n - 1) / 2 := by omega
      have k7 : (2 * (x / 2 ^ (n - 1) / 2) + x / 2 ^ (n - 1) % 2) % 2 = x / 2 ^ (n - 1) % 2 := by omega
      omega
    rcases (by omega : x / 2 ^ (n - 1) % 2 = 0 ∨ x / 2 ^ (n - 1) % 2 = 1) with h | h
    · rw [h] at k4 ⊢
      rw [if_neg (by omega)]
    · rw [h] at k4 ⊢
      rw [if_pos (by omega)]
  unfold rn
  rw [hbit]
  split
  · rw [w64 (by omega) (by omega)]
  · rw [Int.add_zero]

theorem mul15_is {a b : Int} (ha0 : -2147483648 ≤ a) (ha1 : a ≤ 2147483647) (hb0 : -2147483648 ≤ b) (hb1 : b ≤ 2147483647) :
    ∃ m, fix_Mul15.f a b = some m ∧ spinetref01_Mul15.f 64 a b = some m ∧ -2147483648 ≤ m ∧ m ≤ 2147483647 := by
  have hab : -4611686018427387904 ≤ a * b ∧ a * b ≤ 4611686018427387904 := mul_range ha0 ha1 hb0 hb1
  unfold fix_Mul15.f spinetref01_Mul15.f
  rw [w64 (n := a) (by omega) (by omega), w64 (n := b) (by omega) (by omega), w64 (n := a * b) (by omega) (by omega), round_is (by omega) (by omega), ref_round_is (by omega) (by omega)]
  simp only [Option.bind_some]
  unfold fix_Sat32.f spinetref01_Sat.f
  have e : spinetref01_Bits.f 32 1 63 = some 32 := by decide +kernel
  have e1 : wrap64 (32 - 1) = ((31 : Nat) : Int) := by decide +kernel
  have e2 : (2 : Int) ^ 31 = 2147483648 := by decide +kernel
  rw [e]
  simp only [Option.bind_some]
  rw [e1, pow_is 31 (by decide), e2]
  simp only [Option.bind_some]
  have e3 : wrap64 (-2147483648) = -2147483648 := by decide +kernel
  have e4 : wrap64 (2147483648 - 1) = 2147483647 := by decide +kernel
  rw [e3, e4, mx_eq, mn_eq]
  generalize rnd (a * b) 15 = y
  refine ⟨min (max y (-2147483648)) 2147483647, rfl, ?_, by omega, by omega⟩
  unfold spinetref01_Held.f
  (repeat' split) <;> (simp only [Option.bind_some]; congr 1; omega)

theorem rounds_any (x s a b : Int) (w : World) (w0 : (Lit.int .i64 x).wf = true) (wa : (Lit.int .i32 a).wf = true) (wb : (Lit.int .i32 b).wf = true) :
    Calls Try.prog 5 #[.int .i64 x, .int .i64 s, .agg #[.int .i32 a, .int .i32 b]] w fun e w' => e = .returned (.bool true) ∧ Below w.heap.size w w' := by
  obtain ⟨h0, h1⟩ := wf_i64 w0
  obtain ⟨a0, a1⟩ := wf_i32 wa
  obtain ⟨b0, b1⟩ := wf_i32 wb
  obtain ⟨m, e1, e2, m0, m1⟩ := mul15_is a0 a1 b0 b1
  refine rounds_in (rnd x s) m x s a b (fun w => fix_Round.calls _ _ _ w (round_is h0 h1)) (fun w => (spinetref01_Round.calls 64 _ _ _ w (ref_round_is h0 h1)).mono fun _ _ h => ⟨h.1, h.2.below⟩) (fun w => fix_Mul15.calls _ _ _ w e1) (fun w => ?_) w a0 a1 b0 b1 m0 m1
  rw [IntWalk.i64_in a (by omega), IntWalk.i64_in b (by omega)]
  exact (spinetref01_Mul15.calls 64 _ _ _ w e2).mono fun _ _ h => ⟨h.1, h.2.below⟩
end Go.Proofs.Ytdacjcbeclbfjaa.Rounds
