/- A gain's loudness has no more than that gain, the next one more; each loudness is that of its gain, or there is a louder one of the same gain, gains from 1 to 2^20. Conditions: none but that each number fits its type; the table of steps lies as the program's text lays it (the card ties it). -/
import Derived.Test.YtilmnlipamhpkaaDoorRises
namespace Go.Proofs.YtilmnlipamhpkaaDoor.Pow
open Go.RowKit Go.Proofs.YtilmnlipamhpkaaDoorW.PrintWords Go.Proofs.YtilmnlipamhpkaaDoorW.PrintLast Go.Proofs.YtilmnlipamhpkaaDoorW.PrintMore
attribute [local go_sem] max2_int min2_int max_two min_two max_three min_three max_four min_four   -- for this text's walks alone
set_option linter.unusedVariables false
set_option linter.unusedSimpArgs false

abbrev Logs (v l : Int) : Prop := ∀ w, Laid w → Calls Tryd.prog 11 #[.int .i64 v] w fun e w' => e = .returned (.int .i64 l) ∧ Below w.heap.size w w'
set_option maxHeartbeats 1000000 in
set_option maxRecDepth 100000 in
theorem meets_top (v e p s : Int) (k m : Nat) (hv0 : 0 ≤ v) (hv1 : v ≤ 4294967295) (he0 : 0 ≤ e) (he1 : e ≤ 65535) (hk : e % 321 = k) (hk1 : (k : Int) ≤ 320) (hm1 : (m : Int) ≤ 320) (hkm : (k : Int) ≤ m)
    (l1 : Logs (v % 1048576 + 1) 320) (h1 : Exps 320 p) (h2 : Exps k s) (l2 : Logs s m) (h3 : Exps m s) (hp : p ≤ v % 1048576 + 1) (w : World) (hL : Laid w) :
    Calls Tryd.prog 5 #[.int .u32 v, .int .u16 e] w fun e w' => e = .returned (.bool true) ∧ Below w.heap.size w w' := by
  have HL := Aside0.mk hL
  have HB := Aside0.mk (Below.refl w.heap.size w)
  clear hL
  have H1 := Aside0.mk h1
  have H2 := Aside0.mk h2
  have H3 := Aside0.mk h3
  have L1 := Aside0.mk l1
  have L2 := Aside0.mk l2
  clear h1 h2 h3 l1 l2
  go_enter Tryd.func5, Tryd.ntmps5
  go_wp2_with (first | (go_at_call 8; (with_reducible refine (awake_any _ HL.out).mono ?_); rintro e w1 ⟨rfl, hb⟩; have n0 := Aside0.mk (below_step HB.out hb); clear HB; have HB := n0; clear n0; have n1 := Aside0.mk (HL.out.below hb); clear HL; have HL := n1; clear n1 hb) | (go_at_call 9; (with_reducible refine (H1.out _ HL.out).mono ?_); rintro e w1 ⟨rfl, hb⟩; have n0 := Aside0.mk (below_step HB.out hb); clear HB; have HB := n0; clear n0; have n1 := Aside0.mk (HL.out.below hb); clear HL; have HL := n1; clear n1 hb) | (go_at_call 9; (with_reducible refine (H2.out _ HL.out).mono ?_); rintro e w1 ⟨rfl, hb⟩; have n0 := Aside0.mk (below_step HB.out hb); clear HB; have HB := n0; clear n0; have n1 := Aside0.mk (HL.out.below hb); clear HL; have HL := n1; clear n1 hb) | (go_at_call 9; (with_reducible refine (H3.out _ HL.out).mono ?_); rintro e w1 ⟨rfl, hb⟩; have n0 := Aside0.mk (below_step HB.out hb); clear HB; have HB := n0; clear n0; have n1 := Aside0.mk (HL.out.below hb); clear HL; have HL := n1; clear n1 hb) | (go_at_call 11; (with_reducible refine (L1.out _ HL.out).mono ?_); rintro e w1 ⟨rfl, hb⟩; have n0 := Aside0.mk (below_step HB.out hb); clear HB; have HB := n0; clear n0; have n1 := Aside0.mk (HL.out.below hb); clear HL; have HL := n1; clear n1 hb) | (go_at_call 11; (with_reducible refine (L2.out _ HL.out).mono ?_); rintro e w1 ⟨rfl, hb⟩; have n0 := Aside0.mk (below_step HB.out hb); clear HB; have HB := n0; clear n0; have n1 := Aside0.mk (HL.out.below hb); clear HL; have HL := n1; clear n1 hb))
  go_ret
  exact ⟨congrArg _ (congrArg Value.bool (by simp)), HB.out⟩
set_option maxHeartbeats 1000000 in
set_option maxRecDepth 100000 in
theorem meets_low (v e p q s : Int) (n k m : Nat) (hv0 : 0 ≤ v) (hv1 : v ≤ 4294967295) (he0 : 0 ≤ e) (he1 : e ≤ 65535) (hk : e % 321 = k) (hk1 : (k : Int) ≤ 320) (hm1 : (m : Int) ≤ 320) (hkm : (k : Int) ≤ m) (hn : (n : Int) < 320)
    (l1 : Logs (v % 1048576 + 1) n) (h1 : Exps n p) (h4 : Exps (n + 1) q) (h2 : Exps k s) (l2 : Logs s m) (h3 : Exps m s) (hp : p ≤ v % 1048576 + 1) (hq : v % 1048576 + 1 < q) (w : World) (hL : Laid w) :
    Calls Tryd.prog 5 #[.int .u32 v, .int .u16 e] w fun e w' => e = .returned (.bool true) ∧ Below w.heap.size w w' := by
  have HL := Aside0.mk hL
  have HB := Aside0.mk (Below.refl w.heap.size w)
  clear hL
  have H1 := Aside0.mk h1
  have H2 := Aside0.mk h2
  have H3 := Aside0.mk h3
  have H4 := Aside0.mk h4
  have L1 := Aside0.mk l1
  have L2 := Aside0.mk l2
  have hz : ((n : Int) == 320) = false := by simp; omega
  clear h1 h2 h3 h4 l1 l2
  go_enter Tryd.func5, Tryd.ntmps5
  go_wp2_with (first | (go_at_call 8; (with_reducible refine (awake_any _ HL.out).mono ?_); rintro e w1 ⟨rfl, hb⟩; have n0 := Aside0.mk (below_step HB.out hb); clear HB; have HB := n0; clear n0; have n1 := Aside0.mk (HL.out.below hb); clear HL; have HL := n1; clear n1 hb) | (go_at_call 9; (with_reducible refine (H1.out _ HL.out).mono ?_); rintro e w1 ⟨rfl, hb⟩; have n0 := Aside0.mk (below_step HB.out hb); clear HB; have HB := n0; clear n0; have n1 := Aside0.mk (HL.out.below hb); clear HL; have HL := n1; clear n1 hb) | (go_at_call 9; (with_reducible refine (H2.out _ HL.out).mono ?_); rintro e w1 ⟨rfl, hb⟩; have n0 := Aside0.mk (below_step HB.out hb); clear HB; have HB := n0; clear n0; have n1 := Aside0.mk (HL.out.below hb); clear HL; have HL := n1; clear n1 hb) | (go_at_call 9; (with_reducible refine (H3.out _ HL.out).mono ?_); rintro e w1 ⟨rfl, hb⟩; have n0 := Aside0.mk (below_step HB.out hb); clear HB; have HB := n0; clear n0; have n1 := Aside0.mk (HL.out.below hb); clear HL; have HL := n1; clear n1 hb) | (go_at_call 9; (with_reducible refine (H4.out _ HL.out).mono ?_); rintro e w1 ⟨rfl, hb⟩; have n0 := Aside0.mk (below_step HB.out hb); clear HB; have HB := n0; clear n0; have n1 := Aside0.mk (HL.out.below hb); clear HL; have HL := n1; clear n1 hb) | (go_at_call 11; (with_reducible refine (L1.out _ HL.out).mono ?_); rintro e w1 ⟨rfl, hb⟩; have n0 := Aside0.mk (below_step HB.out hb); clear HB; have HB := n0; clear n0; have n1 := Aside0.mk (HL.out.below hb); clear HL; have HL := n1; clear n1 hb) | (go_at_call 11; (with_reducible refine (L2.out _ HL.out).mono ?_); rintro e w1 ⟨rfl, hb⟩; have n0 := Aside0.mk (below_step HB.out hb); clear HB; have HB := n0; clear n0; have n1 := Aside0.mk (HL.out.below hb); clear HL; have HL := n1; clear n1 hb))
  go_ret
  exact ⟨congrArg _ (congrArg Value.bool (by simp)), HB.out⟩
theorem logs_of (v : Int) : Logs v (lg v 320 : Nat) := fun w hL => log_any v w hL
/-- A loudness is that of its gain, or there is a louder one of the same gain. -/
theorem lg_ex : ∀ k : Nat, k < 321 → k ≤ lg (ex k) 320 ∧ ex (lg (ex k) 320) = ex k := by decide +kernel
theorem meets_any (v e : Int) (hv0 : 0 ≤ v) (hv1 : v ≤ 4294967295) (he0 : 0 ≤ e) (he1 : e ≤ 65535) (w : World) (hL : Laid w) :
    Calls Tryd.prog 5 #[.int .u32 v, .int .u16 e] w fun e w' => e = .returned (.bool true) ∧ Below w.heap.size w w' := by
  obtain ⟨k, hk⟩ : ∃ k : Nat, e % 321 = k := ⟨(e % 321).toNat, by omega⟩
  obtain ⟨g1, g2⟩ := lg_ex k (by omega)
  have hm := lg_le (ex k) 320
  have h3 : Exps (lg (ex k) 320 : Nat) (ex k) := by
    have := exps_of (lg (ex k) 320) hm
    rw [g2] at this
    exact this
  obtain ⟨x, hx⟩ : ∃ x : Int, v % 1048576 + 1 = x := ⟨_, rfl⟩
  have hn := lg_le x 320
  have hfit : ex (lg x 320) ≤ x := by
    rcases lg_fits x 320 with h | h
    · rw [h]
      have : ex 0 = 1 := by decide +kernel
      omega
    · exact h
  have l1 := logs_of x
  by_cases ht : lg x 320 = 320
  · rw [ht] at l1 hfit
    rw [← hx] at l1 hfit
    exact meets_top v e (ex 320) (ex k) k (lg (ex k) 320) hv0 hv1 he0 he1 hk (by omega) (by omega) (by omega) l1 (exps_of 320 (by decide)) (exps_of k (by omega)) (logs_of (ex k)) h3 hfit w hL
  · have hab := lg_above x 320 (lg x 320 + 1) (by omega) (by omega)
    have h4 : Exps ((lg x 320 : Nat) + 1) (ex (lg x 320 + 1)) := by
      have := exps_of (lg x 320 + 1) (by omega)
      rw [show ((lg x 320 + 1 : Nat) : Int) = ((lg x 320 : Nat) : Int) + 1 by omega] at this
      exact this
    have h1 := exps_of (lg x 320) hn
    generalize lg x 320 = n at *
    rw [← hx] at l1 hfit hab
    exact meets_low v e (ex n) (ex (n + 1)) (ex k) n k (lg (ex k) 320) hv0 hv1 he0 he1 hk (by omega) (by omega) (by omega) (by omega) l1 h1 h4 (exps_of k (by omega)) (logs_of (ex k)) h3 hfit hab w hL
end Go.Proofs.YtilmnlipamhpkaaDoor.Pow
