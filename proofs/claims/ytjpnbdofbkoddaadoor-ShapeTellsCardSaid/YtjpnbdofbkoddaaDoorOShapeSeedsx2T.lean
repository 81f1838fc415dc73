import Derived.Test.YtjpnbdofbkoddaaDoorOShapeSeedsx0T
import Derived.Test.YtjpnbdofbkoddaaDoorShoT
set_option linter.unusedVariables false
set_option linter.unusedSimpArgs false
namespace Go.Proofs.YtjpnbdofbkoddaaDoor.OShapeSeeds
open Go.RowKit Go.Proofs.YtjpnbdofbkoddaaDoorW.PrintWords Go.Proofs.YtjpnbdofbkoddaaDoorW.PrintLast Go.Proofs.YtjpnbdofbkoddaaDoorW.PrintMore
attribute [local go_sem] max2_int min2_int max_two min_two max_three min_three max_four min_four
mutual
def spinetref09_Place.j0 : Nat → Int → List Int → Int → Option (Int × Int)
 | 0, _, _, _ => none
 | k + 1, x0, x4, x6 => if x6 = 0 then (some (0, 20)) else (spinetref09_Place.l0 k x0 x4 20 x6 1)
def spinetref09_Place.l0 : Nat → Int → List Int → Int → Int → Int → Option (Int × Int)
 | 0, _, _, _, _, _ => none
 | k + 1, x0, x4, x5, x6, x7 => if x7 < x6 then (if 0 ≤ x7 then (if x7 < (x4.length : Int) then (spinetref09_Place.l0 k x0 x4 (wrap64 (x5 + (wrap64 (2 * (rd x4 x7))))) x6 (wrap64 (x7 + 1))) else (none)) else (none)) else (if x0 < 0 then (if 0 ≤ x6 then (if x6 < (x4.length : Int) then (some (wrap64 (x5 + (rd x4 x6)), wrap64 ((wrap64 (x5 + (rd x4 x6))) + (rd x4 x6)))) else (none)) else (none)) else (if 0 ≤ x6 then (if x6 < (x4.length : Int) then (some (x5, wrap64 (x5 + (rd x4 x6)))) else (none)) else (none)))
end
def spinetref09_Place.f (k : Nat) (a0 : Int) : Option (Int × Int) := (some (([20, 9, 5, 3, 2, 1, 1, 1] : List Int) : List Int)).bind fun y119 => (if a0 < 0 then (spinetref09_Place.j0 k a0 y119 (wrap64 (-a0))) else (spinetref09_Place.j0 k a0 y119 a0))
set_option maxHeartbeats 8000000 in
set_option maxRecDepth 100000 in
theorem spinetref09_Place.calls (k : Nat) (a0 : Int) (r1 : Int) (r2 : Int) (w : World) (h : spinetref09_Place.f k a0 = some (r1, r2)) :
 Calls Tryd.prog 94 #[.int .i64 a0] w fun e w' => e = .returned (.tuple #[.int .i64 r1, .int .i64 r2]) ∧ Below w.heap.size w w' := by
 have HB := Aside0.mk (Below.refl w.heap.size w)
 have H : ((some (([20, 9, 5, 3, 2, 1, 1, 1] : List Int) : List Int)).bind fun y119 => (if a0 < 0 then (spinetref09_Place.j0 k a0 y119 (wrap64 (-a0))) else (spinetref09_Place.j0 k a0 y119 a0))) = some (r1, r2) := h
 clear h
 obtain ⟨y119, hy119⟩ : ∃ y_ : List Int, y_ = (([20, 9, 5, 3, 2, 1, 1, 1] : List Int)) := ⟨_, rfl⟩
 replace H : (if a0 < 0 then (spinetref09_Place.j0 k a0 y119 (wrap64 (-a0))) else (spinetref09_Place.j0 k a0 y119 a0)) = some (r1, r2) := by first | (rw [hy119]; with_reducible exact H) | (have H2_ := (Option.bind_some _ _).symm.trans H; rw [hy119]; with_reducible exact H2_) | (have H2_ := (Option.bind_some _ _).symm.trans H; with_reducible exact H2_) | with_reducible exact H | (rw [hy119]; exact H) | exact H
 have Ny119 := Aside0.mk hy119
 clear hy119
 have HC2 := Aside0.mk H
 clear H
 go_enter Tryd.func94, Tryd.ntmps94
 go_upto_if 11 with (first | ((with_reducible refine gate_dst (N := 8) rfl ?_); refine Kd.R_lit (Kd.int .i64) _ 3 ?hg (N := 8) ?hd (xs := ([20, 9, 5, 3, 2, 1, 1, 1] : List Int)) (inner := [.int .i64 20, .int .i64 9, .int .i64 5, .int .i64 3, .int .i64 2, .int .i64 1, .int .i64 1, .int .i64 1]) (ok := fun _ => True) (okp := fun _ => True) ?hr ?hp (fun _ hk => hk) trivial (Below.refl _ _) (Nat.le_refl _) (by simp) ?_; (case hd => rfl); (case hg => rfl); (case hr => first | (go_simp; done) | (go_simp; rfl)); (case hp => exact (Reps.one (show Kd.M (Kd.int .i64) _ _ _ 20 [.int .i64 20] from rfl) (Reps.one (show Kd.M (Kd.int .i64) _ _ _ 9 [.int .i64 9] from rfl) (Reps.one (show Kd.M (Kd.int .i64) _ _ _ 5 [.int .i64 5] from rfl) (Reps.one (show Kd.M (Kd.int .i64) _ _ _ 3 [.int .i64 3] from rfl) (Reps.one (show Kd.M (Kd.int .i64) _ _ _ 2 [.int .i64 2] from rfl) (Reps.one (show Kd.M (Kd.int .i64) _ _ _ 1 [.int .i64 1] from rfl) (Reps.one (show Kd.M (Kd.int .i64) _ _ _ 1 [.int .i64 1] from rfl) (Reps.one (show Kd.M (Kd.int .i64) _ _ _ 1 [.int .i64 1] from rfl) (Reps.none _ _)))))))))); intro v120 w3 ho4 hb hg_ hnew_; clear hg_ hnew_; (first | rw [← Ny119.out] at ho4 | (simp only [Int.reduceToNat] at ho4; rw [← Ny119.out] at ho4)); have n0_ := Aside0.mk (Kd.R_lower ho4 (below_size (by repeat (first | (with_reducible first | exact HB.out | apply below_alloc | apply pw_below_drewN | apply below_drew1) | exact HB.out)))); have n1_ := Aside0.mk (below_step (by repeat (first | (with_reducible first | exact HB.out | apply below_alloc | apply pw_below_drewN | apply below_drew1) | exact HB.out)) hb); clear HB; have HO121 := n0_; have HB := n1_; clear n0_ n1_; clear hb ho4))
 repeat (go_quiet (first | ((with_reducible refine gate_dst (N := 8) rfl ?_); refine Kd.R_lit (Kd.int .i64) _ 3 ?hg (N := 8) ?hd (xs := ([20, 9, 5, 3, 2, 1, 1, 1] : List Int)) (inner := [.int .i64 20, .int .i64 9, .int .i64 5, .int .i64 3, .int .i64 2, .int .i64 1, .int .i64 1, .int .i64 1]) (ok := fun _ => True) (okp := fun _ => True) ?hr ?hp (fun _ hk => hk) trivial (Below.refl _ _) (Nat.le_refl _) (by simp) ?_; (case hd => rfl); (case hg => rfl); (case hr => first | (go_simp; done) | (go_simp; rfl)); (case hp => exact (Reps.one (show Kd.M (Kd.int .i64) _ _ _ 20 [.int .i64 20] from rfl) (Reps.one (show Kd.M (Kd.int .i64) _ _ _ 9 [.int .i64 9] from rfl) (Reps.one (show Kd.M (Kd.int .i64) _ _ _ 5 [.int .i64 5] from rfl) (Reps.one (show Kd.M (Kd.int .i64) _ _ _ 3 [.int .i64 3] from rfl) (Reps.one (show Kd.M (Kd.int .i64) _ _ _ 2 [.int .i64 2] from rfl) (Reps.one (show Kd.M (Kd.int .i64) _ _ _ 1 [.int .i64 1] from rfl) (Reps.one (show Kd.M (Kd.int .i64) _ _ _ 1 [.int .i64 1] from rfl) (Reps.one (show Kd.M (Kd.int .i64) _ _ _ 1 [.int .i64 1] from rfl) (Reps.none _ _)))))))))); intro v120 w3 ho4 hb hg_ hnew_; clear hg_ hnew_; (first | rw [← Ny119.out] at ho4 | (simp only [Int.reduceToNat] at ho4; rw [← Ny119.out] at ho4)); have n0_ := Aside0.mk (Kd.R_lower ho4 (below_size (by repeat (first | (with_reducible first | exact HB.out | apply below_alloc | apply pw_below_drewN | apply below_drew1) | exact HB.out)))); have n1_ := Aside0.mk (below_step (by repeat (first | (with_reducible first | exact HB.out | apply below_alloc | apply pw_below_drewN | apply below_drew1) | exact HB.out)) hb); clear HB; have HO121 := n0_; have HB := n1_; clear n0_ n1_; clear hb ho4)); go_upto_if 11 with (first | ((with_reducible refine gate_dst (N := 8) rfl ?_); refine Kd.R_lit (Kd.int .i64) _ 3 ?hg (N := 8) ?hd (xs := ([20, 9, 5, 3, 2, 1, 1, 1] : List Int)) (inner := [.int .i64 20, .int .i64 9, .int .i64 5, .int .i64 3, .int .i64 2, .int .i64 1, .int .i64 1, .int .i64 1]) (ok := fun _ => True) (okp := fun _ => True) ?hr ?hp (fun _ hk => hk) trivial (Below.refl _ _) (Nat.le_refl _) (by simp) ?_; (case hd => rfl); (case hg => rfl); (case hr => first | (go_simp; done) | (go_simp; rfl)); (case hp => exact (Reps.one (show Kd.M (Kd.int .i64) _ _ _ 20 [.int .i64 20] from rfl) (Reps.one (show Kd.M (Kd.int .i64) _ _ _ 9 [.int .i64 9] from rfl) (Reps.one (show Kd.M (Kd.int .i64) _ _ _ 5 [.int .i64 5] from rfl) (Reps.one (show Kd.M (Kd.int .i64) _ _ _ 3 [.int .i64 3] from rfl) (Reps.one (show Kd.M (Kd.int .i64) _ _ _ 2 [.int .i64 2] from rfl) (Reps.one (show Kd.M (Kd.int .i64) _ _ _ 1 [.int .i64 1] from rfl) (Reps.one (show Kd.M (Kd.int .i64) _ _ _ 1 [.int .i64 1] from rfl) (Reps.one (show Kd.M (Kd.int .i64) _ _ _ 1 [.int .i64 1] from rfl) (Reps.none _ _)))))))))); intro v120 w3 ho4 hb hg_ hnew_; clear hg_ hnew_; (first | rw [← Ny119.out] at ho4 | (simp only [Int.reduceToNat] at ho4; rw [← Ny119.out] at ho4)); have n0_ := Aside0.mk (Kd.R_lower ho4 (below_size (by repeat (first | (with_reducible first | exact HB.out | apply below_alloc | apply pw_below_drewN | apply below_drew1) | exact HB.out)))); have n1_ := Aside0.mk (below_step (by repeat (first | (with_reducible first | exact HB.out | apply below_alloc | apply pw_below_drewN | apply below_drew1) | exact HB.out)) hb); clear HB; have HO121 := n0_; have HB := n1_; clear n0_ n1_; clear hb ho4)))
 (try simp only [Act.put, zA1, zA2, zA3])
 go_cut [6] (fun v6 wc => ∃ (kq : Nat) (x6_1 : Int), v6 = .int .i64 x6_1 ∧ Aside0 (spinetref09_Place.j0 kq a0 y119 x6_1 = some (r1, r2)) ∧ Aside0 (kq ≤ k) ∧ Aside0 (Kd.R (Kd.int .i64) 3 wc w.heap.size (fun _ => True) v120 y119) ∧ Aside0 (Below w.heap.size w wc))
 case first =>
  have H := HC2.out
  clear HC2
  by_cases c5 : a0 < 0
  ·rw [if_pos c5] at H
   have c5b0 : decide (a0 < 0) = true := decide_eq_true c5
   clear c5
   (first | rw [c5b0] | (simp only [i64_w, i32_w]; rw [c5b0]) | skip)
   have H' := Aside0.mk H
   clear H
   go_wp2
   repeat (go_quiet (fail); try go_wp2)
   go_meet
   case rel => exact ⟨_, (wrap64 (-a0)), (by first | rfl | (simp; done) | (simp [*]; done)), H', ⟨by first | omega | exact Nat.le_refl _⟩, ⟨by (with_reducible repeat (first | apply Kd.R_alloc | apply Kd.R_drewN | apply Kd.R_drew)); exact HO121.out⟩, ⟨by repeat (first | (with_reducible first | exact HB.out | apply below_alloc | apply pw_below_drewN | apply below_drew1) | exact HB.out)⟩⟩
  ·rw [if_neg c5] at H
   have c5b0 : decide (a0 < 0) = false := decide_eq_false c5
   clear c5
   (first | rw [c5b0] | (simp only [i64_w, i32_w]; rw [c5b0]) | skip)
   have H' := Aside0.mk H
   clear H
   go_wp2
   repeat (go_quiet (fail); try go_wp2)
   go_meet
   case rel => exact ⟨_, (a0), (by first | rfl | (simp; done) | (simp [*]; done)), H', ⟨by first | omega | exact Nat.le_refl _⟩, ⟨by (with_reducible repeat (first | apply Kd.R_alloc | apply Kd.R_drewN | apply Kd.R_drew)); exact HO121.out⟩, ⟨by repeat (first | (with_reducible first | exact HB.out | apply below_alloc | apply pw_below_drewN | apply below_drew1) | exact HB.out)⟩⟩
 case rest =>
  clear HC2
  try clear p2
  try clear c5
  try clear c5b0
  obtain ⟨kq, x6_1, rfl, HA, HJ1, HO_4, HB⟩ := hcut
  cases kq with
  | zero => exact absurd HA.out (by simp [spinetref09_Place.j0])
  | succ kj1 =>
   have H := HA.out
   clear HA
   simp only [spinetref09_Place.j0] at H
   by_cases c6 : x6_1 = 0
   ·rw [if_pos c6] at H
    have c6b0 : (x6_1 == 0) = true := beq_iff_eq.mpr c6
    have c6b1 : (x6_1 != 0) = false := bne_eq_false_iff_eq.mpr c6
    clear c6
    simp only [Option.some.injEq, Prod.mk.injEq] at H
    obtain ⟨rfl, rfl⟩ := H
    go_wp2
    repeat (go_quiet (fail); try go_wp2)
    go_ret2
    exact ⟨by first | rfl | (simp [errW_none, errW_some] <;> rfl) | (simp [*, errW_none, errW_some] <;> rfl), by repeat (first | (with_reducible first | exact HB.out | apply below_alloc | apply pw_below_drewN | apply below_drew1) | exact HB.out)⟩
   ·rw [if_neg c6] at H
    have c6b0 : (x6_1 == 0) = false := beq_eq_false_iff_ne.mpr c6
    have c6b1 : (x6_1 != 0) = true := bne_iff_ne.mpr c6
    have H' := Aside0.mk H
    clear H
    go_wp2
    repeat (go_quiet (fail); try go_wp2)
    go_loopg [5, 7] kj1 (fun kq v5 v7 w' => ∃ (x5_2 : Int) (x7_2 : Int), v5 = .int .i64 x5_2 ∧ v7 = .int .i64 x7_2 ∧ Aside0 (spinetref09_Place.l0 kq a0 y119 x5_2 x6_1 x7_2 = some (r1, r2)) ∧ Aside0 (kq ≤ kj1) ∧ Aside0 (Kd.R (Kd.int .i64) 3 w' w.heap.size (fun _ => True) v120 y119) ∧ Aside0 (Below w.heap.size w w'))
    case atStart => exact ⟨(20), (1), (by first | rfl | (simp; done) | (simp [*]; done)), (by first | rfl | (simp; done) | (simp [*]; done)), H', ⟨Nat.le_refl _⟩, ⟨by (with_reducible repeat (first | apply Kd.R_alloc | apply Kd.R_drewN | apply Kd.R_drew)); exact HO_4.out⟩, ⟨by repeat (first | (with_reducible first | exact HB.out | apply below_alloc | apply pw_below_drewN | apply below_drew1) | exact HB.out)⟩⟩
    case round =>
     clear H'
     try clear p2
     try clear c5
     try clear c5b0
     try clear c6
     try clear c6b0
     try clear c6b1
     try clear p6
     try clear p2
     obtain ⟨x5_2, x7_2, rfl, rfl, HA, HK2, HO_4, HB⟩ := hrel
     cases gk with
     | zero => exact absurd HA.out (by simp [spinetref09_Place.l0])
     | succ k2 =>
      have H := HA.out
      clear HA
      simp only [spinetref09_Place.l0] at H
      by_cases c7 : x7_2 < x6_1
      ·rw [if_pos c7] at H
       have c7b0 : decide (x7_2 < x6_1) = true := decide_eq_true c7
       clear c7
       by_cases c8 : 0 ≤ x7_2
       ·rw [if_pos c8] at H
        have c8b0 : decide (0 ≤ x7_2) = true := decide_eq_true c8
        clear c8
        by_cases c9 : x7_2 < (y119.length : Int)
        ·rw [if_pos c9] at H
         have c9b0 : decide (x7_2 < (y119.length : Int)) = true := decide_eq_true c9
         clear c9
         have H' := Aside0.mk H
         clear H
         obtain ⟨Ao10, co10, eo10⟩ := Kd.R_slice HO_4.out
         subst eo10
         have p122 : 0 ≤ (x7_2 : Int) := of_decide_eq_true (by first | (with_reducible assumption) | assumption)
         have q122 : x7_2 < (y119.length : Int) := of_decide_eq_true (by first | (with_reducible assumption) | assumption)
         obtain ⟨ad122, e122, hx122_0⟩ := Kd.at_int (Kd.R_reads' HO_4.out).2.2 x7_2 p122 q122
         cases e122
         replace p122 := eq_true p122
         replace q122 := eq_true q122
         go_wp2
         repeat (go_quiet (fail); try go_wp2)
         go_roundg k2
         case measure => have := HJ1.out; have := HK2.out; omega
         case rel => exact ⟨(wrap64 (x5_2 + (wrap64 (2 * (rd y119 x7_2))))), (wrap64 (x7_2 + 1)), (by first | rfl | (simp; done) | (simp [*]; done)), (by first | rfl | (simp; done) | (simp [*]; done)), H', ⟨by have := HJ1.out; have := HK2.out; omega⟩, ⟨by (with_reducible repeat (first | apply Kd.R_alloc | apply Kd.R_drewN | apply Kd.R_drew)); exact HO_4.out⟩, ⟨by repeat (first | (with_reducible first | exact HB.out | apply below_alloc | apply pw_below_drewN | apply below_drew1) | exact HB.out)⟩⟩
        ·rw [if_neg c9] at H
         exact absurd H (by simp)
       ·rw [if_neg c8] at H
        exact absurd H (by simp)
      ·rw [if_neg c7] at H
       have c7b0 : decide (x7_2 < x6_1) = false := decide_eq_false c7
       clear c7
       by_cases c11 : a0 < 0
       ·rw [if_pos c11] at H
        have c11b0 : decide (a0 < 0) = true := decide_eq_true c11
        clear c11
        by_cases c12 : 0 ≤ x6_1
        ·rw [if_pos c12] at H
         have c12b0 : decide (0 ≤ x6_1) = true := decide_eq_true c12
         clear c12
         by_cases c13 : x6_1 < (y119.length : Int)
         ·rw [if_pos c13] at H
          have c13b0 : decide (x6_1 < (y119.length : Int)) = true := decide_eq_true c13
          clear c13
          simp only [Option.some.injEq, Prod.mk.injEq] at H
          obtain ⟨rfl, rfl⟩ := H
          obtain ⟨Ao14, co14, eo14⟩ := Kd.R_slice HO_4.out
          subst eo14
          have p123 : 0 ≤ (x6_1 : Int) := of_decide_eq_true (by first | (with_reducible assumption) | assumption)
          have q123 : x6_1 < (y119.length : Int) := of_decide_eq_true (by first | (with_reducible assumption) | assumption)
          obtain ⟨ad123, e123, hx123_0⟩ := Kd.at_int (Kd.R_reads' HO_4.out).2.2 x6_1 p123 q123
          cases e123
          replace p123 := eq_true p123
          replace q123 := eq_true q123
          have p124 : 0 ≤ (x6_1 : Int) := of_decide_eq_true (by first | (with_reducible assumption) | assumption)
          have q124 : x6_1 < (y119.length : Int) := of_decide_eq_true (by first | (with_reducible assumption) | assumption)
          obtain ⟨ad124, e124, hx124_0⟩ := Kd.at_int (Kd.R_reads' HO_4.out).2.2 x6_1 p124 q124
          obtain rfl : ad123 = ad124 := (by injection e124)
          replace p124 := eq_true p124
          replace q124 := eq_true q124
          go_wp2
          repeat (go_quiet (fail); try go_wp2)
          go_ret2
          exact ⟨by first | rfl | (simp [errW_none, errW_some] <;> rfl) | (simp [*, errW_none, errW_some] <;> rfl), by repeat (first | (with_reducible first | exact HB.out | apply below_alloc | apply pw_below_drewN | apply below_drew1) | exact HB.out)⟩
         ·rw [if_neg c13] at H
          exact absurd H (by simp)
        ·rw [if_neg c12] at H
         exact absurd H (by simp)
       ·rw [if_neg c11] at H
        have c11b0 : decide (a0 < 0) = false := decide_eq_false c11
        clear c11
        by_cases c15 : 0 ≤ x6_1
        ·rw [if_pos c15] at H
         have c15b0 : decide (0 ≤ x6_1) = true := decide_eq_true c15
         clear c15
         by_cases c16 : x6_1 < (y119.length : Int)
         ·rw [if_pos c16] at H
          have c16b0 : decide (x6_1 < (y119.length : Int)) = true := decide_eq_true c16
          clear c16
          simp only [Option.some.injEq, Prod.mk.injEq] at H
          obtain ⟨rfl, rfl⟩ := H
          obtain ⟨Ao17, co17, eo17⟩ := Kd.R_slice HO_4.out
          subst eo17
          have p125 : 0 ≤ (x6_1 : Int) := of_decide_eq_true (by first | (with_reducible assumption) | assumption)
          have q125 : x6_1 < (y119.length : Int) := of_decide_eq_true (by first | (with_reducible assumption) | assumption)
          obtain ⟨ad125, e125, hx125_0⟩ := Kd.at_int (Kd.R_reads' HO_4.out).2.2 x6_1 p125 q125
          cases e125
          replace p125 := eq_true p125
          replace q125 := eq_true q125
          go_wp2
          repeat (go_quiet (fail); try go_wp2)
          go_ret2
          exact ⟨by first | rfl | (simp [errW_none, errW_some] <;> rfl) | (simp [*, errW_none, errW_some] <;> rfl), by repeat (first | (with_reducible first | exact HB.out | apply below_alloc | apply pw_below_drewN | apply below_drew1) | exact HB.out)⟩
         ·rw [if_neg c16] at H
          exact absurd H (by simp)
        ·rw [if_neg c15] at H
         exact absurd H (by simp)
def spinetref16_Fines.j0 : Nat → Int → Int → Bool → Option (Int)
 | 0, _, _, _ => none
 | k + 1, x0, x1, x11 => if x11 = true then (some 0) else (if x1 = 0 then (none) else (if (wrap64 (Int.tdiv (wrap64 (Int.tdiv x0 64)) x1)) > 3 then (some 3) else (some (wrap64 (Int.tdiv (wrap64 (Int.tdiv x0 64)) x1)))))
def spinetref16_Fines.f (k : Nat) (a0 : Int) (a1 : Int) : Option (Int) := if a0 ≤ 0 then (spinetref16_Fines.j0 k a0 a1 true) else (spinetref16_Fines.j0 k a0 a1 (decide (a1 < 1)))
set_option maxHeartbeats 8000000 in
set_option maxRecDepth 100000 in
theorem spinetref16_Fines.calls (k : Nat) (a0 : Int) (a1 : Int) (r : Int) (w : World) (h : spinetref16_Fines.f k a0 a1 = some r) :
 Calls Tryd.prog 54 #[.int .i64 a0, .int .i64 a1] w fun e w' => e = .returned (.int .i64 r) ∧ Drawn0 w w' := by
 have H : (if a0 ≤ 0 then (spinetref16_Fines.j0 k a0 a1 true) else (spinetref16_Fines.j0 k a0 a1 (decide (a1 < 1)))) = some r := h
 clear h
 have HC3 := Aside0.mk H
 clear H
 go_enter Tryd.func54, Tryd.ntmps54
 go_upto_region 1 with (fail)
 go_cut [11] (fun v11 wc => ∃ (kq : Nat) (x11_2 : Bool), v11 = .bool x11_2 ∧ Aside0 (spinetref16_Fines.j0 kq a0 a1 x11_2 = some r) ∧ Aside0 (kq ≤ k) ∧ Drawn0 w wc)
 case first =>
  have H := HC3.out
  clear HC3
  by_cases c4 : a0 ≤ 0
  ·rw [if_pos c4] at H
   have c4b0 : decide (a0 ≤ 0) = true := decide_eq_true c4
   clear c4
   (first | rw [c4b0] | (simp only [i64_w, i32_w]; rw [c4b0]) | skip)
   have H' := Aside0.mk H
   clear H
   go_wp2
   go_meet
   case rel => exact ⟨_, (true), (by first | rfl | (simp; done) | (simp [*]; done)), H', ⟨by first | omega | exact Nat.le_refl _⟩, by repeat (first | exact Drawn0.refl _ | apply Drawn0.step)⟩
  ·rw [if_neg c4] at H
   have c4b0 : decide (a0 ≤ 0) = false := decide_eq_false c4
   clear c4
   (first | rw [c4b0] | (simp only [i64_w, i32_w]; rw [c4b0]) | skip)
   have H' := Aside0.mk H
   clear H
   go_wp2
   go_meet
   case rel => exact ⟨_, (decide (a1 < 1)), (by first | rfl | (simp; done) | (simp [*]; done)), H', ⟨by first | omega | exact Nat.le_refl _⟩, by repeat (first | exact Drawn0.refl _ | apply Drawn0.step)⟩
 case rest =>
  clear HC3
  try clear p2
  try clear c4
  try clear c4b0
  obtain ⟨kq, x11_2, rfl, HA, HJ2, ⟨mc2, rfl⟩⟩ := hcut
  cases kq with
  | zero => exact absurd HA.out (by simp [spinetref16_Fines.j0])
  | succ kj2 =>
   have H := HA.out
   clear HA
   simp only [spinetref16_Fines.j0] at H
   by_cases c5 : x11_2 = true
   ·subst c5
    have H1 : (some 0) = some r := by rw [if_pos rfl] at H; exact H
    clear H
    have H := H1
    clear H1
    obtain rfl := Option.some.inj H
    go_wp2
    go_ret
    exact ⟨by first | rfl | (simp; done) | (simp [*]; done), by repeat (first | exact Drawn0.refl _ | apply Drawn0.step)⟩
   ·replace c5 := Bool.eq_false_iff.mpr c5
    subst c5
    have H1 : (if a1 = 0 then (none) else (if (wrap64 (Int.tdiv (wrap64 (Int.tdiv a0 64)) a1)) > 3 then (some 3) else (some (wrap64 (Int.tdiv (wrap64 (Int.tdiv a0 64)) a1))))) = some r := by rw [if_neg (show ¬ (false = true) by decide)] at H; exact H
    clear H
    have H := H1
    clear H1
    by_cases c6 : a1 = 0
    ·rw [if_pos c6] at H
     exact absurd H (by simp)
    ·rw [if_neg c6] at H
     have c6b0 : (a1 == 0) = false := beq_eq_false_iff_ne.mpr c6
     have c6b1 : (a1 != 0) = true := bne_iff_ne.mpr c6
     by_cases c7 : (wrap64 (Int.tdiv (wrap64 (Int.tdiv a0 64)) a1)) > 3
     ·rw [if_pos c7] at H
      have c7b0 : decide (3 < (wrap64 (Int.tdiv (wrap64 (Int.tdiv a0 64)) a1))) = true := decide_eq_true c7
      clear c7
      obtain rfl := Option.some.inj H
      go_wp2
      go_ret
      exact ⟨by first | rfl | (simp; done) | (simp [*]; done), by repeat (first | exact Drawn0.refl _ | apply Drawn0.step)⟩
     ·rw [if_neg c7] at H
      have c7b0 : decide (3 < (wrap64 (Int.tdiv (wrap64 (Int.tdiv a0 64)) a1))) = false := decide_eq_false c7
      clear c7
      obtain rfl := Option.some.inj H
      go_wp2
      go_ret
      exact ⟨by first | rfl | (simp; done) | (simp [*]; done), by repeat (first | exact Drawn0.refl _ | apply Drawn0.step)⟩
def IsS129 (w0 W : World) (g : Nat) (f0 : Int) (f1 : Int) (f2 : List Int) (f3 : List Int) : Prop := ∃ A2 c2, ∃ A3 c3, W.heap[g]? = some (.cells #[.int .i64 f0, .int .i64 f1, .slice A2 f2.length c2, .slice A3 f3.length c3] 129 (0, 0)) ∧ w0.heap.size ≤ g ∧ Kd.C (Kd.int .i64) w0 A2 f2.length f2 ∧ Kd.C (Kd.int .i64) w0 A3 f3.length f3
theorem IsS129.grown {w0 W : World} {g : Nat} {f0 : Int} {f1 : Int} {f2 : List Int} {f3 : List Int} {W1 : World} {row : Option Nat} (h : IsS129 w0 W g f0 f1 f2 f3) (hw : W.grownBy W1 row) (hne : some g ≠ row) : IsS129 w0 W1 g f0 f1 f2 f3 := by
 obtain ⟨A2, c2, A3, c3, hb, hg, hr2, hr3⟩ := h
 exact ⟨A2, c2, A3, c3, blk_grown hb hw hne, hg, hr2, hr3⟩
theorem IsS129.kept {w0 W : World} {g : Nat} {f0 : Int} {f1 : Int} {f2 : List Int} {f3 : List Int} {W1 : World} {S : Nat → Prop} (h : IsS129 w0 W g f0 f1 f2 f3) (hk : Kept W W1 S) (hne : ¬ S g) : IsS129 w0 W1 g f0 f1 f2 f3 := by
 obtain ⟨A2, c2, A3, c3, hb, hg, hr2, hr3⟩ := h
 exact ⟨A2, c2, A3, c3, blk_kept hb hk hne, hg, hr2, hr3⟩
theorem IsS129.below {w0 W : World} {g : Nat} {f0 : Int} {f1 : Int} {f2 : List Int} {f3 : List Int} {W1 : World} (h : IsS129 w0 W g f0 f1 f2 f3) (hw : Below W.heap.size W W1) : IsS129 w0 W1 g f0 f1 f2 f3 := h.grown (grown_of_below hw none) (by simp)
theorem IsS129.alloc {w0 W : World} {g : Nat} {f0 : Int} {f1 : Int} {f2 : List Int} {f3 : List Int} (h : IsS129 w0 W g f0 f1 f2 f3) (o : Obj) : IsS129 w0 (W.alloc o) g f0 f1 f2 f3 := h.below (below_alloc (Below.refl _ _) o)
theorem IsS129.drewN {w0 W : World} {g : Nat} {f0 : Int} {f1 : Int} {f2 : List Int} {f3 : List Int} (h : IsS129 w0 W g f0 f1 f2 f3) (m : Nat) : IsS129 w0 (W.drewN m) g f0 f1 f2 f3 := h
theorem IsS129.drew {w0 W : World} {g : Nat} {f0 : Int} {f1 : Int} {f2 : List Int} {f3 : List Int} (h : IsS129 w0 W g f0 f1 f2 f3) : IsS129 w0 W.drew g f0 f1 f2 f3 := h
theorem IsS129.at_ {w0 W : World} {g : Nat} {f0 : Int} {f1 : Int} {f2 : List Int} {f3 : List Int} {w' : World} {m : Nat} (hq : W.drewN m = w') (h : IsS129 w0 W g f0 f1 f2 f3) : IsS129 w0 w' g f0 f1 f2 f3 := by subst hq; exact IsS129.drewN h m
theorem IsS129.apart {w0 W : World} {g : Nat} {f0 : Int} {f1 : Int} {f2 : List Int} {f3 : List Int} {α : Type} {d : Kd α} {e : Nat} {base : Nat} {ok : Nat → Prop} {v : Value} {xs : List α} (h : IsS129 w0 W g f0 f1 f2 f3) (ho : d.R e W base ok v xs) (ht : ∀ q, q ∈ e :: d.E → q ≠ 129) : d.R e W base (fun k => ok k ∧ k ≠ g) v xs := by
 obtain ⟨A2, c2, A3, c3, hb, hg, hr2, hr3⟩ := h
 exact Kd.R_types ho hb ht
theorem IsS129.own_ne {w0 W : World} {g : Nat} {f0 : Int} {f1 : Int} {f2 : List Int} {f3 : List Int} {α : Type} {d : Kd α} {e : Nat} {base : Nat} {ok : Nat → Prop} {v : Value} {xs : List α} (h : IsS129 w0 W g f0 f1 f2 f3) (ho : d.R e W base ok v xs) (ht : e ≠ 129) : some g ≠ v.ownBlock := by
 obtain ⟨A2, c2, A3, c3, hb, hg, hr2, hr3⟩ := h
 exact Kd.R_ne ho hb ht
theorem IsS129.far {w0 W : World} {g : Nat} {f0 : Int} {f1 : Int} {f2 : List Int} {f3 : List Int} {p : Addr} (h : IsS129 w0 W g f0 f1 f2 f3) (hne : g ≠ p.block) (u : Value) : IsS129 w0 (W.setCell p u) g f0 f1 f2 f3 := by
 obtain ⟨A2, c2, A3, c3, hb, hg, hr2, hr3⟩ := h
 exact ⟨A2, c2, A3, c3, blk_far hb hne u, hg, hr2, hr3⟩
theorem IsS129.new (w0 W : World) (A2 : Option Addr) (c2 : Nat) (A3 : Option Addr) (c3 : Nat) (f0 : Int) (f1 : Int) (f2 : List Int) (f3 : List Int) (hB : Below w0.heap.size w0 W) (hr2 : Kd.C (Kd.int .i64) w0 A2 f2.length f2) (hr3 : Kd.C (Kd.int .i64) w0 A3 f3.length f3) : IsS129 w0 (W.alloc (.cells #[.int .i64 f0, .int .i64 f1, .slice A2 f2.length c2, .slice A3 f3.length c3] 129)) W.heap.size f0 f1 f2 f3 := ⟨A2, c2, A3, c3, by simpa using heap_alloc_new W _, hB.size, hr2, hr3⟩
def spinetref05_Band.l0 : Nat → Int → Int → Int → Option (Int × Int)
 | 0, _, _, _ => none
 | k + 1, x0, x4, x5 => if x5 < x0 then (spinetref05_Band.l0 k x0 (wrap64 (x4 * 2)) (wrap64 (x5 + 1))) else (some (x4, x4))
def spinetref05_Band.f (k : Nat) (a0 : Int) : Option (Int × Int) := if a0 = 0 then (some (0, 2)) else (spinetref05_Band.l0 k a0 2 1)
set_option maxHeartbeats 8000000 in
set_option maxRecDepth 100000 in
theorem spinetref05_Band.calls (k : Nat) (a0 : Int) (r1 : Int) (r2 : Int) (w : World) (h : spinetref05_Band.f k a0 = some (r1, r2)) :
 Calls Tryd.prog 58 #[.int .i64 a0] w fun e w' => e = .returned (.tuple #[.int .i64 r1, .int .i64 r2]) ∧ Drawn0 w w' := by
 have H : (if a0 = 0 then (some (0, 2)) else (spinetref05_Band.l0 k a0 2 1)) = some (r1, r2) := h
 clear h
 by_cases c2 : a0 = 0
 ·rw [if_pos c2] at H
  have c2b0 : (a0 == 0) = true := beq_iff_eq.mpr c2
  have c2b1 : (a0 != 0) = false := bne_eq_false_iff_eq.mpr c2
  clear c2
  simp only [Option.some.injEq, Prod.mk.injEq] at H
  obtain ⟨rfl, rfl⟩ := H
  go_enter Tryd.func58, Tryd.ntmps58
  go_wp2
  go_ret2
  exact ⟨by first | rfl | (simp; done) | (simp [*]; done), by repeat (first | exact Drawn0.refl _ | apply Drawn0.step)⟩
 ·rw [if_neg c2] at H
  have c2b0 : (a0 == 0) = false := beq_eq_false_iff_ne.mpr c2
  have c2b1 : (a0 != 0) = true := bne_iff_ne.mpr c2
  have H' := Aside0.mk H
  clear H
  go_enter Tryd.func58, Tryd.ntmps58
  go_wp2
  go_loopg [4, 5] k (fun kq v4 v5 w' => ∃ (x4_1 : Int) (x5_1 : Int), v4 = .int .i64 x4_1 ∧ v5 = .int .i64 x5_1 ∧ Aside0 (spinetref05_Band.l0 kq a0 x4_1 x5_1 = some (r1, r2)) ∧ Aside0 (kq ≤ k) ∧ Drawn0 w w')
  case atStart => exact ⟨(2), (1), (by first | rfl | (simp; done) | (simp [*]; done)), (by first | rfl | (simp; done) | (simp [*]; done)), H', ⟨Nat.le_refl _⟩, by repeat (first | exact Drawn0.refl _ | apply Drawn0.step)⟩
  case round =>
   clear H'
   try clear c2
   try clear c2b0
   try clear c2b1
   try clear p2
   obtain ⟨x4_1, x5_1, rfl, rfl, HA, HK1, ⟨m1, rfl⟩⟩ := hrel
   cases gk with
   | zero => exact absurd HA.out (by simp [spinetref05_Band.l0])
   | succ k1 =>
    have H := HA.out
    clear HA
    simp only [spinetref05_Band.l0] at H
    by_cases c3 : x5_1 < a0
    ·rw [if_pos c3] at H
     have c3b0 : decide (x5_1 < a0) = true := decide_eq_true c3
     clear c3
     have H' := Aside0.mk H
     clear H
     go_wp2
     go_roundg k1
     case measure => have := HK1.out; omega
     case rel => exact ⟨(wrap64 (x4_1 * 2)), (wrap64 (x5_1 + 1)), (by first | rfl | (simp; done) | (simp [*]; done)), (by first | rfl | (simp; done) | (simp [*]; done)), H', ⟨by have := HK1.out; omega⟩, by repeat (first | exact Drawn0.refl _ | apply Drawn0.step)⟩
    ·rw [if_neg c3] at H
     have c3b0 : decide (x5_1 < a0) = false := decide_eq_false c3
     clear c3
     simp only [Option.some.injEq, Prod.mk.injEq] at H
     obtain ⟨rfl, rfl⟩ := H
     go_wp2
     go_ret2
     exact ⟨by first | rfl | (simp; done) | (simp [*]; done), by repeat (first | exact Drawn0.refl _ | apply Drawn0.step)⟩
mutual
def spinetref10_Choose.j0 : Nat → Int → Int → Bool → Option (Int)
 | 0, _, _, _ => none
 | k + 1, x0, x1, x13 => if x13 = true then (some 0) else (spinetref10_Choose.l0 k x0 x1 1 0)
def spinetref10_Choose.l0 : Nat → Int → Int → Int → Int → Option (Int)
 | 0, _, _, _, _ => none
 | k + 1, x0, x1, x5, x6 => if x6 < x1 then (if (IntKind.u64.wrap (wrap64 (x6 + 1))) = 0 then (none) else (spinetref10_Choose.l0 k x0 x1 (IntKind.u64.wrap (Int.tdiv (IntKind.u64.wrap (x5 * (IntKind.u64.wrap (wrap64 (x0 - x6))))) (IntKind.u64.wrap (wrap64 (x6 + 1))))) (wrap64 (x6 + 1)))) else (some x5)
end
def spinetref10_Choose.f (k : Nat) (a0 : Int) (a1 : Int) : Option (Int) := if a1 < 0 then (spinetref10_Choose.j0 k a0 a1 true) else (spinetref10_Choose.j0 k a0 a1 (decide (a1 > a0)))
theorem spinetref10_Choose.mono_l : ∀ k, (∀ y0 y1 y2, LeO (spinetref10_Choose.j0 k y0 y1 y2) (spinetref10_Choose.j0 (k + 1) y0 y1 y2)) ∧ (∀ y0 y1 y2 y3, LeO (spinetref10_Choose.l0 k y0 y1 y2 y3) (spinetref10_Choose.l0 (k + 1) y0 y1 y2 y3))
 | 0 => ⟨fun _ _ _ r h => by simp [spinetref10_Choose.j0] at h, fun _ _ _ _ r h => by simp [spinetref10_Choose.l0] at h⟩
 | k + 1 => by
  obtain ⟨ih0, ih1⟩ := spinetref10_Choose.mono_l k
  refine ⟨?_, ?_⟩
  ·intro y0 y1 y2
   unfold spinetref10_Choose.j0
   repeat' first
   | (with_reducible exact ih0 _ _ _)
   | (with_reducible exact ih1 _ _ _ _)
   | (with_reducible exact LeO.refl _)
   | (with_reducible exact LeO.none _)
   | (with_reducible refine LeO.ite ?_ ?_)
   | (with_reducible refine LeO.bind ?_ (fun _ => ?_))
   | exact ih0 _ _ _
   | exact ih1 _ _ _ _
   | exact LeO.none _
   | refine LeO.ite ?_ ?_
   | refine LeO.bind ?_ (fun _ => ?_)
  ·intro y0 y1 y2 y3
   unfold spinetref10_Choose.l0
   repeat' first
   | (with_reducible exact ih0 _ _ _)
   | (with_reducible exact ih1 _ _ _ _)
   | (with_reducible exact LeO.refl _)
   | (with_reducible exact LeO.none _)
   | (with_reducible refine LeO.ite ?_ ?_)
   | (with_reducible refine LeO.bind ?_ (fun _ => ?_))
   | exact ih0 _ _ _
   | exact ih1 _ _ _ _
   | exact LeO.none _
   | refine LeO.ite ?_ ?_
   | refine LeO.bind ?_ (fun _ => ?_)
theorem spinetref10_Choose.mono : ∀ a0 a1 k, LeO (spinetref10_Choose.f k a0 a1) (spinetref10_Choose.f (k + 1) a0 a1) := by
 intro a0 a1 k
 obtain ⟨ih0, ih1⟩ := spinetref10_Choose.mono_l k
 unfold spinetref10_Choose.f
 repeat' first
  | (with_reducible exact ih0 _ _ _)
  | (with_reducible exact ih1 _ _ _ _)
  | (with_reducible exact LeO.refl _)
  | (with_reducible exact LeO.none _)
  | (with_reducible refine LeO.ite ?_ ?_)
  | (with_reducible refine LeO.bind ?_ (fun _ => ?_))
  | exact ih0 _ _ _
  | exact ih1 _ _ _ _
  | exact LeO.none _
  | refine LeO.ite ?_ ?_
  | refine LeO.bind ?_ (fun _ => ?_)
set_option maxHeartbeats 8000000 in
set_option maxRecDepth 100000 in
theorem spinetref10_Choose.calls (k : Nat) (a0 : Int) (a1 : Int) (r : Int) (w : World) (h : spinetref10_Choose.f k a0 a1 = some r) :
 Calls Tryd.prog 97 #[.int .i64 a0, .int .i64 a1] w fun e w' => e = .returned (.int .u64 r) ∧ Drawn0 w w' := by
 have H : (if a1 < 0 then (spinetref10_Choose.j0 k a0 a1 true) else (spinetref10_Choose.j0 k a0 a1 (decide (a1 > a0)))) = some r := h
 clear h
 have HC3 := Aside0.mk H
 clear H
 go_enter Tryd.func97, Tryd.ntmps97
 go_upto_region 1 with (fail)
 go_cut [13] (fun v13 wc => ∃ (kq : Nat) (x13_2 : Bool), v13 = .bool x13_2 ∧ Aside0 (spinetref10_Choose.j0 kq a0 a1 x13_2 = some r) ∧ Aside0 (kq ≤ k) ∧ Drawn0 w wc)
 case first =>
  have H := HC3.out
  clear HC3
  by_cases c4 : a1 < 0
  ·rw [if_pos c4] at H
   have c4b0 : decide (a1 < 0) = true := decide_eq_true c4
   clear c4
   (first | rw [c4b0] | (simp only [i64_w, i32_w]; rw [c4b0]) | skip)
   have H' := Aside0.mk H
   clear H
   go_wp2
   go_meet
   case rel => exact ⟨_, (true), (by first | rfl | (simp; done) | (simp [*]; done)), H', ⟨by first | omega | exact Nat.le_refl _⟩, by repeat (first | exact Drawn0.refl _ | apply Drawn0.step)⟩
  ·rw [if_neg c4] at H
   have c4b0 : decide (a1 < 0) = false := decide_eq_false c4
   clear c4
   (first | rw [c4b0] | (simp only [i64_w, i32_w]; rw [c4b0]) | skip)
   have H' := Aside0.mk H
   clear H
   go_wp2
   go_meet
   case rel => exact ⟨_, (decide (a1 > a0)), (by first | rfl | (simp; done) | (simp [*]; done)), H', ⟨by first | omega | exact Nat.le_refl _⟩, by repeat (first | exact Drawn0.refl _ | apply Drawn0.step)⟩
 case rest =>
  clear HC3
  try clear p2
  try clear c4
  try clear c4b0
  obtain ⟨kq, x13_2, rfl, HA, HJ2, ⟨mc2, rfl⟩⟩ := hcut
  cases kq with
  | zero => exact absurd HA.out (by simp [spinetref10_Choose.j0])
  | succ kj2 =>
   have H := HA.out
   clear HA
   simp only [spinetref10_Choose.j0] at H
   by_cases c5 : x13_2 = true
   ·subst c5
    have H1 : (some 0) = some r := by rw [if_pos rfl] at H; exact H
    clear H
    have H := H1
    clear H1
    obtain rfl := Option.some.inj H
    go_wp2
    go_ret
    exact ⟨by first | rfl | (simp; done) | (simp [*]; done), by repeat (first | exact Drawn0.refl _ | apply Drawn0.step)⟩
   ·replace c5 := Bool.eq_false_iff.mpr c5
    subst c5
    have H1 : (spinetref10_Choose.l0 kj2 a0 a1 1 0) = some r := by rw [if_neg (show ¬ (false = true) by decide)] at H; exact H
    clear H
    have H := H1
    clear H1
    have H' := Aside0.mk H
    clear H
    go_wp2
    go_loopg [5, 6] kj2 (fun kq v5 v6 w' => ∃ (x5_2 : Int) (x6_2 : Int), v5 = .int .u64 x5_2 ∧ v6 = .int .i64 x6_2 ∧ Aside0 (spinetref10_Choose.l0 kq a0 a1 x5_2 x6_2 = some r) ∧ Aside0 (kq ≤ kj2) ∧ Drawn0 w w')
    case atStart => exact ⟨(1), (0), (by first | rfl | (simp; done) | (simp [*]; done)), (by first | rfl | (simp; done) | (simp [*]; done)), H', ⟨Nat.le_refl _⟩, by repeat (first | exact Drawn0.refl _ | apply Drawn0.step)⟩
    case round =>
     clear H'
     try clear c2
     try clear p2
     try clear c4
     try clear c4b0
     try clear c5
     try clear p2
     obtain ⟨x5_2, x6_2, rfl, rfl, HA, HK2, ⟨m2, rfl⟩⟩ := hrel
     cases gk with
     | zero => exact absurd HA.out (by simp [spinetref10_Choose.l0])
     | succ k2 =>
      have H := HA.out
      clear HA
      simp only [spinetref10_Choose.l0] at H
      by_cases c6 : x6_2 < a1
      ·rw [if_pos c6] at H
       have c6b0 : decide (x6_2 < a1) = true := decide_eq_true c6
       clear c6
       by_cases c7 : (IntKind.u64.wrap (wrap64 (x6_2 + 1))) = 0
       ·rw [if_pos c7] at H
        exact absurd H (by simp)
       ·rw [if_neg c7] at H
        have c7b0 : ((IntKind.u64.wrap (wrap64 (x6_2 + 1))) == 0) = false := beq_eq_false_iff_ne.mpr c7
        have c7b1 : ((IntKind.u64.wrap (wrap64 (x6_2 + 1))) != 0) = true := bne_iff_ne.mpr c7
        have H' := Aside0.mk H
        clear H
        go_wp2
        go_roundg k2
        case measure => have := HJ2.out; have := HK2.out; omega
        case rel => exact ⟨(IntKind.u64.wrap (Int.tdiv (IntKind.u64.wrap (x5_2 * (IntKind.u64.wrap (wrap64 (a0 - x6_2))))) (IntKind.u64.wrap (wrap64 (x6_2 + 1))))), (wrap64 (x6_2 + 1)), (by first | rfl | (simp; done) | (simp [*]; done)), (by first | rfl | (simp; done) | (simp [*]; done)), H', ⟨by have := HJ2.out; have := HK2.out; omega⟩, by repeat (first | exact Drawn0.refl _ | apply Drawn0.step)⟩
      ·rw [if_neg c6] at H
       have c6b0 : decide (x6_2 < a1) = false := decide_eq_false c6
       clear c6
       obtain rfl := Option.some.inj H
       go_wp2
       go_ret
       exact ⟨by first | rfl | (simp; done) | (simp [*]; done), by repeat (first | exact Drawn0.refl _ | apply Drawn0.step)⟩
end Go.Proofs.YtjpnbdofbkoddaaDoor.OShapeSeeds
