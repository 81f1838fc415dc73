import Derived.Test.YtjpnbdofbkoddaaDoorOShapeSeedsx0T
import Derived.Test.YtjpnbdofbkoddaaDoorLen64T
import Derived.LoopTactic
set_option linter.unusedVariables false
set_option linter.unusedSimpArgs false
namespace Go.Proofs.YtjpnbdofbkoddaaDoor.OShapeSeeds
open Go.RowKit Go.Proofs.YtjpnbdofbkoddaaDoorW.PrintWords Go.Proofs.YtjpnbdofbkoddaaDoorW.PrintLast Go.Proofs.YtjpnbdofbkoddaaDoorW.PrintMore
attribute [local go_sem] max2_int min2_int max_two min_two max_three min_three max_four min_four
def pow_held.f (a0 : Int) (a1 : Int) (a2 : Int) : Option (Int) := some (mn (mx a0 a1) a2)
set_option maxHeartbeats 8000000 in
set_option maxRecDepth 100000 in
theorem pow_held.calls (a0 : Int) (a1 : Int) (a2 : Int) (r : Int) (w : World) (h : pow_held.f a0 a1 a2 = some r) :
 Calls Tryd.prog 70 #[.int .i64 a0, .int .i64 a1, .int .i64 a2] w fun e w' => e = .returned (.int .i64 r) ∧ Below w.heap.size w w' := by
 have HB := Aside0.mk (Below.refl w.heap.size w)
 have H : (some (mn (mx a0 a1) a2)) = some r := h
 clear h
 obtain ⟨ji4, hji4⟩ : ∃ j_ : Int, (mx a0 a1) = j_ := ⟨_, rfl⟩
 replace H : (some (mn (ji4) a2)) = some r := by first | (rw [hji4] at H; exact H) | (simp only [hji4] at H ⊢; exact H)
 have hji4_ : (if a0 < a1 then a1 else a0) = ji4 := hji4
 obtain ⟨ji5, hji5⟩ : ∃ j_ : Int, (mn (ji4) a2) = j_ := ⟨_, rfl⟩
 replace H : (some ji5) = some r := by first | (rw [hji5] at H; exact H) | (simp only [hji5] at H ⊢; exact H)
 have hji5_ : (if a2 < (ji4) then a2 else (ji4)) = ji5 := hji5
 obtain rfl := Option.some.inj H
 go_enter Tryd.func70, Tryd.ntmps70
 go_wp2
 go_ret
 exact ⟨by first | rfl | (simp [errW_none, errW_some] <;> rfl) | (simp only [← hji4, ← hji5]; first | rfl | (simp [errW_none, errW_some] <;> rfl)) | (simp [*, errW_none, errW_some] <;> rfl), by repeat (first | (with_reducible first | exact HB.out | apply below_alloc | apply pw_below_drewN | apply below_drew1) | exact HB.out)⟩
def yv (x : Int) : Int := mn (mx x (-134217728)) 134217728
def nsum : List Int → Int → Int
 | [], s => s
 | x :: r, s => nsum r (IntKind.u64.wrap (s + IntKind.u64.wrap (wrap64 (yv x * yv x))))
theorem nrd_drop {xs : List Int} {i : Nat} (h : i < xs.length) : xs.drop i = rd xs i :: xs.drop (i + 1) := by
 rw [List.drop_eq_getElem_cons h]
 congr 1
 unfold rd
 rw [Int.toNat_natCast, List.getD_eq_getElem?_getD, List.getElem?_eq_getElem h]; rfl
def spinetref05_Bands.f (a0 : Int) : Option (Int) := some (wrap64 (a0 + 3))
set_option maxHeartbeats 8000000 in
set_option maxRecDepth 100000 in
theorem spinetref05_Bands.calls (a0 : Int) (r : Int) (w : World) (h : spinetref05_Bands.f a0 = some r) :
 Calls Tryd.prog 47 #[.int .i64 a0] w fun e w' => e = .returned (.int .i64 r) ∧ Drawn0 w w' := by
 have H : (some (wrap64 (a0 + 3))) = some r := h
 clear h
 obtain rfl := Option.some.inj H
 go_enter Tryd.func47, Tryd.ntmps47
 go_wp2
 go_ret
 exact ⟨by first | rfl | (simp; done) | (simp [*]; done), by repeat (first | exact Drawn0.refl _ | apply Drawn0.step)⟩
def spinetref16_Held.f (a0 : Int) : Option (Int) := if a0 < 0 then (some 0) else (if a0 > 31 then (some 31) else (some a0))
set_option maxHeartbeats 8000000 in
set_option maxRecDepth 100000 in
theorem spinetref16_Held.calls (a0 : Int) (r : Int) (w : World) (h : spinetref16_Held.f a0 = some r) :
 Calls Tryd.prog 48 #[.int .i64 a0] w fun e w' => e = .returned (.int .i64 r) ∧ Drawn0 w w' := by
 have H : (if a0 < 0 then (some 0) else (if a0 > 31 then (some 31) else (some a0))) = some r := h
 clear h
 by_cases c2 : a0 < 0
 ·rw [if_pos c2] at H
  have c2b0 : decide (a0 < 0) = true := decide_eq_true c2
  clear c2
  obtain rfl := Option.some.inj H
  go_enter Tryd.func48, Tryd.ntmps48
  go_wp2
  go_ret
  exact ⟨by first | rfl | (simp; done) | (simp [*]; done), by repeat (first | exact Drawn0.refl _ | apply Drawn0.step)⟩
 ·rw [if_neg c2] at H
  have c2b0 : decide (a0 < 0) = false := decide_eq_false c2
  clear c2
  by_cases c3 : a0 > 31
  ·rw [if_pos c3] at H
   have c3b0 : decide (31 < a0) = true := decide_eq_true c3
   clear c3
   obtain rfl := Option.some.inj H
   go_enter Tryd.func48, Tryd.ntmps48
   go_wp2
   go_ret
   exact ⟨by first | rfl | (simp; done) | (simp [*]; done), by repeat (first | exact Drawn0.refl _ | apply Drawn0.step)⟩
  ·rw [if_neg c3] at H
   have c3b0 : decide (31 < a0) = false := decide_eq_false c3
   clear c3
   obtain rfl := Option.some.inj H
   go_enter Tryd.func48, Tryd.ntmps48
   go_wp2
   go_ret
   exact ⟨by first | rfl | (simp; done) | (simp [*]; done), by repeat (first | exact Drawn0.refl _ | apply Drawn0.step)⟩
def spinetref09_Parts.l0 : Nat → Int → Int → Int → Option (Int × Int × Int)
 | 0, _, _, _ => none
 | k + 1, x0, x5, x6 => if x5 = 0 then (none) else (if (wrap64 (Int.tdiv (wrap64 (x0 - 1)) x5)) > 255 then (spinetref09_Parts.l0 k x0 (wrap64 (x5 * 2)) (wrap64 (x6 + 1))) else (some (wrap64 ((wrap64 (Int.tdiv (wrap64 (x0 - 1)) x5)) + 1), x5, x6)))
def spinetref09_Parts.f (k : Nat) (a0 : Int) : Option (Int × Int × Int) := if a0 ≤ 256 then (some (a0, 1, 0)) else (spinetref09_Parts.l0 k a0 1 0)
set_option maxHeartbeats 8000000 in
set_option maxRecDepth 100000 in
theorem spinetref09_Parts.calls (k : Nat) (a0 : Int) (r1 : Int) (r2 : Int) (r3 : Int) (w : World) (h : spinetref09_Parts.f k a0 = some (r1, r2, r3)) :
 Calls Tryd.prog 78 #[.int .i64 a0] w fun e w' => e = .returned (.tuple #[.int .i64 r1, .int .i64 r2, .int .i64 r3]) ∧ Drawn0 w w' := by
 have H : (if a0 ≤ 256 then (some (a0, 1, 0)) else (spinetref09_Parts.l0 k a0 1 0)) = some (r1, r2, r3) := h
 clear h
 by_cases c2 : a0 ≤ 256
 ·rw [if_pos c2] at H
  have c2b0 : decide (a0 ≤ 256) = true := decide_eq_true c2
  clear c2
  simp only [Option.some.injEq, Prod.mk.injEq] at H
  obtain ⟨rfl, rfl, rfl⟩ := H
  go_enter Tryd.func78, Tryd.ntmps78
  go_wp2
  go_ret3
  exact ⟨by first | rfl | (simp; done) | (simp [*]; done), by repeat (first | exact Drawn0.refl _ | apply Drawn0.step)⟩
 ·rw [if_neg c2] at H
  have c2b0 : decide (a0 ≤ 256) = false := decide_eq_false c2
  clear c2
  have H' := Aside0.mk H
  clear H
  go_enter Tryd.func78, Tryd.ntmps78
  go_wp2
  go_loopg [5, 6] k (fun kq v5 v6 w' => ∃ (x5_1 : Int) (x6_1 : Int), v5 = .int .i64 x5_1 ∧ v6 = .int .i64 x6_1 ∧ Aside0 (spinetref09_Parts.l0 kq a0 x5_1 x6_1 = some (r1, r2, r3)) ∧ Aside0 (kq ≤ k) ∧ Drawn0 w w')
  case atStart => exact ⟨(1), (0), (by first | rfl | (simp; done) | (simp [*]; done)), (by first | rfl | (simp; done) | (simp [*]; done)), H', ⟨Nat.le_refl _⟩, by repeat (first | exact Drawn0.refl _ | apply Drawn0.step)⟩
  case round =>
   clear H'
   try clear c2
   try clear c2b0
   try clear p2
   obtain ⟨x5_1, x6_1, rfl, rfl, HA, HK1, ⟨m1, rfl⟩⟩ := hrel
   cases gk with
   | zero => exact absurd HA.out (by simp [spinetref09_Parts.l0])
   | succ k1 =>
    have H := HA.out
    clear HA
    simp only [spinetref09_Parts.l0] at H
    by_cases c3 : x5_1 = 0
    ·rw [if_pos c3] at H
     exact absurd H (by simp)
    ·rw [if_neg c3] at H
     have c3b0 : (x5_1 == 0) = false := beq_eq_false_iff_ne.mpr c3
     have c3b1 : (x5_1 != 0) = true := bne_iff_ne.mpr c3
     by_cases c4 : (wrap64 (Int.tdiv (wrap64 (a0 - 1)) x5_1)) > 255
     ·rw [if_pos c4] at H
      have c4b0 : decide (255 < (wrap64 (Int.tdiv (wrap64 (a0 - 1)) x5_1))) = true := decide_eq_true c4
      clear c4
      have H' := Aside0.mk H
      clear H
      go_wp2
      go_roundg k1
      case measure => have := HK1.out; omega
      case rel => exact ⟨(wrap64 (x5_1 * 2)), (wrap64 (x6_1 + 1)), (by first | rfl | (simp; done) | (simp [*]; done)), (by first | rfl | (simp; done) | (simp [*]; done)), H', ⟨by have := HK1.out; omega⟩, by repeat (first | exact Drawn0.refl _ | apply Drawn0.step)⟩
     ·rw [if_neg c4] at H
      have c4b0 : decide (255 < (wrap64 (Int.tdiv (wrap64 (a0 - 1)) x5_1))) = false := decide_eq_false c4
      clear c4
      simp only [Option.some.injEq, Prod.mk.injEq] at H
      obtain ⟨rfl, rfl, rfl⟩ := H
      go_wp2
      go_ret3
      exact ⟨by first | rfl | (simp; done) | (simp [*]; done), by repeat (first | exact Drawn0.refl _ | apply Drawn0.step)⟩
end Go.Proofs.YtjpnbdofbkoddaaDoor.OShapeSeeds
