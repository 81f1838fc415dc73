/- What is louder has no less gain; an octave more is twice the gain, or one more than that, loudnesses from 0 to 304. Conditions: none but that each number fits its type; the table of steps lies as the program's text lays it (the card ties it). -/
import Derived.Test.YtilmnlipamhpkaaDoorTells
namespace Go.Proofs.YtilmnlipamhpkaaDoor.Pow
open Go.RowKit Go.Proofs.YtilmnlipamhpkaaDoorW.PrintWords Go.Proofs.YtilmnlipamhpkaaDoorW.PrintLast Go.Proofs.YtilmnlipamhpkaaDoorW.PrintMore
attribute [local go_sem] max2_int min2_int max_two min_two max_three min_three max_four min_four   -- for this text's walks alone
set_option linter.unusedVariables false
set_option linter.unusedSimpArgs false

abbrev Exps (e p : Int) : Prop := ∀ w, Laid w → Calls Tryd.prog 9 #[.int .i64 e] w fun e w' => e = .returned (.int .i64 p) ∧ Below w.heap.size w w'
set_option maxHeartbeats 1000000 in
set_option maxRecDepth 100000 in
theorem rises_up (a b p q r : Int) (x y : Nat) (ha0 : 0 ≤ a) (ha1 : a ≤ 65535) (hb0 : 0 ≤ b) (hb1 : b ≤ 65535) (ha : a % 305 = x) (hb : b % 305 = y) (hxy : (x : Int) ≤ y) (hy : (y : Int) ≤ 304) (h1 : Exps x p) (h2 : Exps (x + 16) q) (h3 : Exps y r)
    (hp1 : 1 ≤ p) (hp2 : p ≤ 2097152) (hpr : p ≤ r) (hq : q = 2 * p ∨ q = 2 * p + 1) (w : World) (hL : Laid w) :
    Calls Tryd.prog 4 #[.int .u16 a, .int .u16 b] w fun e w' => e = .returned (.bool true) ∧ Below w.heap.size w w' := by
  have HL := Aside0.mk hL
  have HB := Aside0.mk (Below.refl w.heap.size w)
  clear hL
  have H1 := Aside0.mk h1
  have H2 := Aside0.mk h2
  have H3 := Aside0.mk h3
  clear h1 h2 h3
  rcases hq with rfl | rfl
  all_goals
    go_enter Tryd.func4, Tryd.ntmps4
    go_wp2_with (first | (go_at_call 8; (with_reducible refine (awake_any _ HL.out).mono ?_); rintro e w1 ⟨rfl, hb⟩; have n0 := Aside0.mk (below_step HB.out hb); clear HB; have HB := n0; clear n0; have n1 := Aside0.mk (HL.out.below hb); clear HL; have HL := n1; clear n1 hb) | (go_at_call 9; (with_reducible refine (H1.out _ HL.out).mono ?_); rintro e w1 ⟨rfl, hb⟩; have n0 := Aside0.mk (below_step HB.out hb); clear HB; have HB := n0; clear n0; have n1 := Aside0.mk (HL.out.below hb); clear HL; have HL := n1; clear n1 hb) | (go_at_call 9; (with_reducible refine (H2.out _ HL.out).mono ?_); rintro e w1 ⟨rfl, hb⟩; have n0 := Aside0.mk (below_step HB.out hb); clear HB; have HB := n0; clear n0; have n1 := Aside0.mk (HL.out.below hb); clear HL; have HL := n1; clear n1 hb) | (go_at_call 9; (with_reducible refine (H3.out _ HL.out).mono ?_); rintro e w1 ⟨rfl, hb⟩; have n0 := Aside0.mk (below_step HB.out hb); clear HB; have HB := n0; clear n0; have n1 := Aside0.mk (HL.out.below hb); clear HL; have HL := n1; clear n1 hb))
    go_ret
    exact ⟨rfl, HB.out⟩
set_option maxHeartbeats 1000000 in
set_option maxRecDepth 100000 in
theorem rises_down (a b p q r : Int) (x y : Nat) (ha0 : 0 ≤ a) (ha1 : a ≤ 65535) (hb0 : 0 ≤ b) (hb1 : b ≤ 65535) (ha : a % 305 = y) (hb : b % 305 = x) (hxy : (x : Int) < y) (hy : (y : Int) ≤ 304) (h1 : Exps x p) (h2 : Exps (x + 16) q) (h3 : Exps y r)
    (hp1 : 1 ≤ p) (hp2 : p ≤ 2097152) (hpr : p ≤ r) (hq : q = 2 * p ∨ q = 2 * p + 1) (w : World) (hL : Laid w) :
    Calls Tryd.prog 4 #[.int .u16 a, .int .u16 b] w fun e w' => e = .returned (.bool true) ∧ Below w.heap.size w w' := by
  have HL := Aside0.mk hL
  have HB := Aside0.mk (Below.refl w.heap.size w)
  clear hL
  have H1 := Aside0.mk h1
  have H2 := Aside0.mk h2
  have H3 := Aside0.mk h3
  clear h1 h2 h3
  rcases hq with rfl | rfl
  all_goals
    go_enter Tryd.func4, Tryd.ntmps4
    go_wp2_with (first | (go_at_call 8; (with_reducible refine (awake_any _ HL.out).mono ?_); rintro e w1 ⟨rfl, hb⟩; have n0 := Aside0.mk (below_step HB.out hb); clear HB; have HB := n0; clear n0; have n1 := Aside0.mk (HL.out.below hb); clear HL; have HL := n1; clear n1 hb) | (go_at_call 9; (with_reducible refine (H1.out _ HL.out).mono ?_); rintro e w1 ⟨rfl, hb⟩; have n0 := Aside0.mk (below_step HB.out hb); clear HB; have HB := n0; clear n0; have n1 := Aside0.mk (HL.out.below hb); clear HL; have HL := n1; clear n1 hb) | (go_at_call 9; (with_reducible refine (H2.out _ HL.out).mono ?_); rintro e w1 ⟨rfl, hb⟩; have n0 := Aside0.mk (below_step HB.out hb); clear HB; have HB := n0; clear n0; have n1 := Aside0.mk (HL.out.below hb); clear HL; have HL := n1; clear n1 hb) | (go_at_call 9; (with_reducible refine (H3.out _ HL.out).mono ?_); rintro e w1 ⟨rfl, hb⟩; have n0 := Aside0.mk (below_step HB.out hb); clear HB; have HB := n0; clear n0; have n1 := Aside0.mk (HL.out.below hb); clear HL; have HL := n1; clear n1 hb))
    go_ret
    exact ⟨rfl, HB.out⟩
theorem ex_octave : ∀ n : Nat, n < 305 → 1 ≤ ex n ∧ (ex (n + 16) = 2 * ex n ∨ ex (n + 16) = 2 * ex n + 1) := by decide +kernel
theorem exps_of (n : Nat) (hn : n ≤ 320) : Exps n (ex n) := fun w hL => exp_any n n (by omega) w hL
theorem rises_any (a b : Int) (ha0 : 0 ≤ a) (ha1 : a ≤ 65535) (hb0 : 0 ≤ b) (hb1 : b ≤ 65535) (w : World) (hL : Laid w) :
    Calls Tryd.prog 4 #[.int .u16 a, .int .u16 b] w fun e w' => e = .returned (.bool true) ∧ Below w.heap.size w w' := by
  obtain ⟨m, hm⟩ : ∃ m : Nat, a % 305 = m := ⟨(a % 305).toNat, by omega⟩
  obtain ⟨n, hn⟩ : ∃ n : Nat, b % 305 = n := ⟨(b % 305).toNat, by omega⟩
  have hcast : ∀ x : Nat, ((x + 16 : Nat) : Int) = (x : Int) + 16 := fun x => by omega
  by_cases h : m ≤ n
  · have o := ex_octave m (by omega)
    exact rises_up a b (ex m) (ex (m + 16)) (ex n) m n ha0 ha1 hb0 hb1 hm hn (by omega) (by omega) (exps_of m (by omega)) (hcast m ▸ exps_of (m + 16) (by omega)) (exps_of n (by omega)) o.1 (ex_fits m (by omega)).2.2 (ex_rises h (by omega)) o.2 w hL
  · have o := ex_octave n (by omega)
    exact rises_down a b (ex n) (ex (n + 16)) (ex m) n m ha0 ha1 hb0 hb1 hm hn (by omega) (by omega) (exps_of n (by omega)) (hcast n ▸ exps_of (n + 16) (by omega)) (exps_of m (by omega)) o.1 (ex_fits n (by omega)).2.2 (ex_rises (by omega) (by omega)) o.2 w hL
end Go.Proofs.YtilmnlipamhpkaaDoor.Pow
