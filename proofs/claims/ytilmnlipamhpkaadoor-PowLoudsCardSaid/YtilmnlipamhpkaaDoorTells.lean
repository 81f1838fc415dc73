/- Any loudness has the gain that the document says, any gain its greatest loudness. Conditions: none but that each number fits its type; the table of steps lies as the program's text lays it (the card ties it). -/
import Derived.Test.YtilmnlipamhpkaaDoorExp
namespace Go.Proofs.YtilmnlipamhpkaaDoor.Pow
open Go.RowKit Go.Proofs.YtilmnlipamhpkaaDoorW.PrintWords Go.Proofs.YtilmnlipamhpkaaDoorW.PrintLast Go.Proofs.YtilmnlipamhpkaaDoorW.PrintMore
set_option linter.unusedVariables false
set_option linter.unusedSimpArgs false

theorem fine_any (q f r : Int) (h : PPowTells.pow_Fine.f q f = some r) (w : World) : Calls Tryd.prog 13 #[.int .i64 q, .int .i64 f] w fun e w' => e = .returned (.int .i64 r) ∧ Below w.heap.size w w' :=
  PPowTells.pow_Fine.calls q f r w h

theorem exp24_any (w : World) (hL : Laid w) : Calls Tryd.prog 9 #[.int .i64 24] w fun e w' => e = .returned (.int .i64 2) ∧ Below w.heap.size w w' := by
  have h := exp_any 24 24 (by decide) w hL
  rw [show ex 24 = 2 by decide +kernel] at h
  exact h
theorem log3_any (w : World) (hL : Laid w) : Calls Tryd.prog 11 #[.int .i64 3] w fun e w' => e = .returned (.int .i64 31) ∧ Below w.heap.size w w' := by
  have h := log_any 3 w hL
  rw [show lg 3 320 = 31 by decide +kernel] at h
  exact h
set_option maxHeartbeats 1000000 in
set_option maxRecDepth 100000 in
theorem awake_any (w : World) (hL : Laid w) : Calls Tryd.prog 8 #[] w fun e w' => e = .returned (.bool true) ∧ Below w.heap.size w w' := by
  have HL := Aside0.mk hL
  have HB := Aside0.mk (Below.refl w.heap.size w)
  clear hL
  go_enter Tryd.func8, Tryd.ntmps8
  go_wp2_with (first | (go_at_call 9; (with_reducible refine (exp24_any _ HL.out).mono ?_); rintro e w1 ⟨rfl, hb⟩; have n0 := Aside0.mk (below_step HB.out hb); clear HB; have HB := n0; clear n0; have n1 := Aside0.mk (HL.out.below hb); clear HL; have HL := n1; clear n1 hb) | (go_at_call 11; (with_reducible refine (log3_any _ HL.out).mono ?_); rintro e w1 ⟨rfl, hb⟩; have n0 := Aside0.mk (below_step HB.out hb); clear HB; have HB := n0; clear n0; have n1 := Aside0.mk (HL.out.below hb); clear HL; have HL := n1; clear n1 hb) | (go_at_call 13; (with_reducible refine (fine_any 0 0 0 (by decide +kernel) _).mono ?_); rintro e w1 ⟨rfl, hb⟩; have n0 := Aside0.mk (below_step HB.out hb); clear HB; have HB := n0; clear n0; have n1 := Aside0.mk (HL.out.below hb); clear HL; have HL := n1; clear n1 hb) | (go_at_call 13; (with_reducible refine (fine_any 1 1 2 (by decide +kernel) _).mono ?_); rintro e w1 ⟨rfl, hb⟩; have n0 := Aside0.mk (below_step HB.out hb); clear HB; have HB := n0; clear n0; have n1 := Aside0.mk (HL.out.below hb); clear HL; have HL := n1; clear n1 hb))
  go_ret
  exact ⟨rfl, HB.out⟩

open Go.Proofs.YtilmnlipamhpkaaDoor.PPowTells
theorem ref_exp_nat : ∀ n : Nat, n < 321 → spinetref04_Exp.f 30 n = some (ex n) := by decide +kernel
theorem ref_exp {e : Int} {n : Nat} (hn : min (max e 0) 320 = (n : Int)) : spinetref04_Exp.f 30 e = some (ex n) := by
  by_cases h0 : e < 0
  · have : n = 0 := by omega
    subst this
    rw [← ref_exp_nat 0 (by decide)]
    unfold spinetref04_Exp.f
    rw [if_pos h0]; rfl
  by_cases h1 : e > 320
  · have : n = 320 := by omega
    subst this
    rw [← ref_exp_nat 320 (by decide)]
    unfold spinetref04_Exp.f
    rw [if_neg h0, if_neg (by decide)]
    simp only [spinetref04_Exp.j0]
    rw [if_pos h1, if_neg (by decide)]; rfl
  have : e = (n : Int) := by omega
  subst this
  exact ref_exp_nat n (by omega)
theorem ref_exp_k (k n : Nat) (hk : 30 ≤ k) (hn : n ≤ 320) : spinetref04_Exp.f k n = some (ex n) :=
  at_rounds (g := fun k => spinetref04_Exp.f k n) (fun k => spinetref04_Exp.mono n k) hk (ref_exp_nat n (by omega))

theorem ref_log_loop (v : Int) (d : Nat) : ∀ (k j : Nat) (o : Nat), j + d = 321 → d + 31 < k → (∀ i, j = i + 1 → o = lg v i) → (j = 0 → o = 0) → spinetref04_Log.l0 k v o j = some ((lg v 320 : Nat) : Int) := by
  induction d with
  | zero =>
    intro k j o hj hk ho _
    obtain ⟨k, rfl⟩ : ∃ m, k = m + 1 := ⟨k - 1, by omega⟩
    simp only [spinetref04_Log.l0]
    rw [if_neg (by omega), ho 320 (by omega)]
  | succ d ih =>
    intro k j o hj hk ho h0
    obtain ⟨k, rfl⟩ : ∃ m, k = m + 1 := ⟨k - 1, by omega⟩
    simp only [spinetref04_Log.l0]
    rw [if_pos (by omega), ref_exp_k k j (by omega) (by omega)]
    simp only [Option.bind_some]
    have e1 : wrap64 ((j : Int) + 1) = ((j + 1 : Nat) : Int) := by unfold wrap64; omega
    rw [e1]
    by_cases hx : ex j ≤ v
    · rw [if_pos hx]
      refine ih k (j + 1) j (by omega) (by omega) (fun i hi => ?_) (fun h => by omega)
      obtain rfl : i = j := by omega
      cases i with
      | zero => rfl
      | succ i => unfold lg; rw [if_pos hx]
    · rw [if_neg hx]
      refine ih k (j + 1) o (by omega) (by omega) (fun i hi => ?_) (fun h => by omega)
      obtain rfl : i = j := by omega
      cases i with
      | zero => rw [h0 rfl]; rfl
      | succ i => unfold lg; rw [if_neg hx]; exact ho i rfl
theorem ref_log (v : Int) : spinetref04_Log.f 400 v = some ((lg v 320 : Nat) : Int) :=
  ref_log_loop v 321 400 0 0 (by decide) (by decide) (fun i h => by omega) (fun _ => rfl)

set_option maxHeartbeats 1000000 in
set_option maxRecDepth 100000 in
theorem tells_any (e v : Int) (w : World) (hL : Laid w) : Calls Tryd.prog 3 #[.int .i64 e, .int .i64 v] w fun e w' => e = .returned (.bool true) ∧ Below w.heap.size w w' := by
  obtain ⟨n, hn⟩ : ∃ n : Nat, min (max e 0) 320 = (n : Int) := ⟨(min (max e 0) 320).toNat, by omega⟩
  have HN := Aside0.mk hn
  have HL := Aside0.mk hL
  have HB := Aside0.mk (Below.refl w.heap.size w)
  clear hL hn
  go_enter Tryd.func3, Tryd.ntmps3
  go_wp2_with (first | (go_at_call 8; (with_reducible refine (awake_any _ HL.out).mono ?_); rintro e w1 ⟨rfl, hb⟩; have n0 := Aside0.mk (below_step HB.out hb); clear HB; have HB := n0; clear n0; have n1 := Aside0.mk (HL.out.below hb); clear HL; have HL := n1; clear n1 hb) | (go_at_call 9; (with_reducible refine (exp_any _ n HN.out _ HL.out).mono ?_); rintro e w1 ⟨rfl, hb⟩; have n0 := Aside0.mk (below_step HB.out hb); clear HB; have HB := n0; clear n0; have n1 := Aside0.mk (HL.out.below hb); clear HL; have HL := n1; clear n1 hb) | (go_at_call 11; (with_reducible refine (log_any _ _ HL.out).mono ?_); rintro e w1 ⟨rfl, hb⟩; have n0 := Aside0.mk (below_step HB.out hb); clear HB; have HB := n0; clear n0; have n1 := Aside0.mk (HL.out.below hb); clear HL; have HL := n1; clear n1 hb) | (go_at_call 10; (with_reducible refine (spinetref04_Exp.calls 30 _ _ _ (ref_exp HN.out)).mono ?_); rintro e w1 ⟨rfl, hb⟩; have n0 := Aside0.mk (below_step HB.out hb); clear HB; have HB := n0; clear n0; have n1 := Aside0.mk (HL.out.below hb); clear HL; have HL := n1; clear n1 hb) | (go_at_call 12; (with_reducible refine (spinetref04_Log.calls 400 _ _ _ (ref_log _)).mono ?_); rintro e w1 ⟨rfl, hb⟩; have n0 := Aside0.mk (below_step HB.out hb); clear HB; have HB := n0; clear n0; have n1 := Aside0.mk (HL.out.below hb); clear HL; have HL := n1; clear n1 hb))
  go_ret
  exact ⟨congrArg _ (congrArg Value.bool (by simp)), HB.out⟩
end Go.Proofs.YtilmnlipamhpkaaDoor.Pow
