import Derived.Test.YtjpnbdofbkoddaaDoorOShapeScalesx0T
import Derived.Test.YtjpnbdofbkoddaaDoorOShapeScalesx1T
import Derived.Test.YtjpnbdofbkoddaaDoorMathT
set_option linter.unusedVariables false
set_option linter.unusedSimpArgs false
namespace Go.Proofs.YtjpnbdofbkoddaaDoor.OShapeScales
open Go.RowKit Go.Proofs.YtjpnbdofbkoddaaDoorW.PrintWords Go.Proofs.YtjpnbdofbkoddaaDoorW.PrintLast Go.Proofs.YtjpnbdofbkoddaaDoorW.PrintMore
attribute [local go_sem] max2_int min2_int max_two min_two max_three min_three max_four min_four
def spinetref03_Sqrt.l0 : Nat → Int → Int → Int → Option (Int)
 | 0, _, _, _ => none
 | k + 1, x0, x3, x4 => if x4 > 0 then ((spinetref03_Fits.f (IntKind.u64.wrap (x3 + x4)) x0).bind fun t117 => (if t117 = true then (spinetref03_Sqrt.l0 k x0 (IntKind.u64.wrap (x3 + x4)) (IntKind.u64.wrap (Int.tdiv x4 2))) else (spinetref03_Sqrt.l0 k x0 x3 (IntKind.u64.wrap (Int.tdiv x4 2))))) else (some x3)
def spinetref03_Sqrt.f (k : Nat) (a0 : Int) : Option (Int) := spinetref03_Sqrt.l0 k a0 0 2147483648
theorem spinetref03_Sqrt.mono_l : ∀ k, (∀ y0 y1 y2, LeO (spinetref03_Sqrt.l0 k y0 y1 y2) (spinetref03_Sqrt.l0 (k + 1) y0 y1 y2))
 | 0 => fun _ _ _ r h => by simp [spinetref03_Sqrt.l0] at h
 | k + 1 => by
  have ih0 := spinetref03_Sqrt.mono_l k
  ·intro y0 y1 y2
   unfold spinetref03_Sqrt.l0
   repeat' first
   | (with_reducible exact ih0 _ _ _)
   | (with_reducible exact LeO.refl _)
   | (with_reducible exact LeO.none _)
   | (with_reducible refine LeO.ite ?_ ?_)
   | (with_reducible refine LeO.bind ?_ (fun _ => ?_))
   | exact ih0 _ _ _
   | exact LeO.none _
   | refine LeO.ite ?_ ?_
   | refine LeO.bind ?_ (fun _ => ?_)
theorem spinetref03_Sqrt.mono : ∀ a0 k, LeO (spinetref03_Sqrt.f k a0) (spinetref03_Sqrt.f (k + 1) a0) := by
 intro a0 k
 have ih0 := spinetref03_Sqrt.mono_l k
 unfold spinetref03_Sqrt.f
 repeat' first
  | (with_reducible exact ih0 _ _ _)
  | (with_reducible exact LeO.refl _)
  | (with_reducible exact LeO.none _)
  | (with_reducible refine LeO.ite ?_ ?_)
  | (with_reducible refine LeO.bind ?_ (fun _ => ?_))
  | exact ih0 _ _ _
  | exact LeO.none _
  | refine LeO.ite ?_ ?_
  | refine LeO.bind ?_ (fun _ => ?_)
set_option maxHeartbeats 8000000 in
set_option maxRecDepth 100000 in
theorem spinetref03_Sqrt.calls (k : Nat) (a0 : Int) (r : Int) (w : World) (h : spinetref03_Sqrt.f k a0 = some r) :
 Calls Tryd.prog 35 #[.int .u64 a0] w fun e w' => e = .returned (.int .u64 r) ∧ Drawn0 w w' := by
 have H : (spinetref03_Sqrt.l0 k a0 0 2147483648) = some r := h
 clear h
 have H' := Aside0.mk H
 clear H
 go_enter Tryd.func35, Tryd.ntmps35
 go_wp2
 go_loopg [3, 4] k (fun kq v3 v4 w' => ∃ (x3_1 : Int) (x4_1 : Int), v3 = .int .u64 x3_1 ∧ v4 = .int .u64 x4_1 ∧ Aside0 (spinetref03_Sqrt.l0 kq a0 x3_1 x4_1 = some r) ∧ Aside0 (kq ≤ k) ∧ Drawn0 w w')
 case atStart => exact ⟨(0), (2147483648), (by first | rfl | (simp; done) | (simp [*]; done)), (by first | rfl | (simp; done) | (simp [*]; done)), H', ⟨Nat.le_refl _⟩, by repeat (first | exact Drawn0.refl _ | apply Drawn0.step)⟩
 case round =>
  clear H'
  obtain ⟨x3_1, x4_1, rfl, rfl, HA, HK1, ⟨m1, rfl⟩⟩ := hrel
  cases gk with
  | zero => exact absurd HA.out (by simp [spinetref03_Sqrt.l0])
  | succ k1 =>
   have H := HA.out
   clear HA
   simp only [spinetref03_Sqrt.l0] at H
   by_cases c2 : x4_1 > 0
   ·rw [if_pos c2] at H
    have c2b0 : decide (0 < x4_1) = true := decide_eq_true c2
    clear c2
    replace H := Option.bind_eq_some_iff.mp H
    obtain ⟨t117, A30, H⟩ := H
    replace H : (if t117 = true then (spinetref03_Sqrt.l0 k1 a0 (IntKind.u64.wrap (x3_1 + x4_1)) (IntKind.u64.wrap (Int.tdiv x4_1 2))) else (spinetref03_Sqrt.l0 k1 a0 x3_1 (IntKind.u64.wrap (Int.tdiv x4_1 2)))) = some r := H
    have A3 := Aside0.mk A30
    clear A30
    by_cases c4 : t117 = true
    ·subst c4
     have H1 : (spinetref03_Sqrt.l0 k1 a0 (IntKind.u64.wrap (x3_1 + x4_1)) (IntKind.u64.wrap (Int.tdiv x4_1 2))) = some r := by rw [if_pos rfl] at H; exact H
     clear H
     have H := H1
     clear H1
     have H' := Aside0.mk H
     clear H
     go_wp2_with (first | ((with_reducible refine gate_callee (f := 74) rfl ?_); refine goesL_ (some 13) rfl rfl Tryd.func74 (by kernel_rfl) rfl #[.int .u64 (IntKind.u64.wrap (x3_1 + x4_1)), .int .u64 a0] rfl (by (try simp only [List.map_toArray, List.map_cons, List.map_nil]); first | done | rfl | (simp only [List.length_drop, List.length_take]; rfl)) ?_; (with_reducible refine (spinetref03_Fits.calls (IntKind.u64.wrap (x3_1 + x4_1)) a0 true _ A3.out).mono ?_); rintro e w' ⟨rfl, ⟨nd, rfl⟩⟩; refine ⟨_, rfl, ?_⟩))
     go_roundg k1
     case measure => have := HK1.out; omega
     case rel => exact ⟨(IntKind.u64.wrap (x3_1 + x4_1)), (IntKind.u64.wrap (Int.tdiv x4_1 2)), (by first | rfl | (simp; done) | (simp [*]; done)), (by first | rfl | (simp; done) | (simp [*]; done)), H', ⟨by have := HK1.out; omega⟩, by repeat (first | exact Drawn0.refl _ | apply Drawn0.step)⟩
    ·replace c4 := Bool.eq_false_iff.mpr c4
     subst c4
     have H1 : (spinetref03_Sqrt.l0 k1 a0 x3_1 (IntKind.u64.wrap (Int.tdiv x4_1 2))) = some r := by rw [if_neg (show ¬ (false = true) by decide)] at H; exact H
     clear H
     have H := H1
     clear H1
     have H' := Aside0.mk H
     clear H
     go_wp2_with (first | ((with_reducible refine gate_callee (f := 74) rfl ?_); refine goesL_ (some 13) rfl rfl Tryd.func74 (by kernel_rfl) rfl #[.int .u64 (IntKind.u64.wrap (x3_1 + x4_1)), .int .u64 a0] rfl (by (try simp only [List.map_toArray, List.map_cons, List.map_nil]); first | done | rfl | (simp only [List.length_drop, List.length_take]; rfl)) ?_; (with_reducible refine (spinetref03_Fits.calls (IntKind.u64.wrap (x3_1 + x4_1)) a0 false _ A3.out).mono ?_); rintro e w' ⟨rfl, ⟨nd, rfl⟩⟩; refine ⟨_, rfl, ?_⟩))
     go_roundg k1
     case measure => have := HK1.out; omega
     case rel => exact ⟨(x3_1), (IntKind.u64.wrap (Int.tdiv x4_1 2)), (by first | rfl | (simp; done) | (simp [*]; done)), (by first | rfl | (simp; done) | (simp [*]; done)), H', ⟨by have := HK1.out; omega⟩, by repeat (first | exact Drawn0.refl _ | apply Drawn0.step)⟩
   ·rw [if_neg c2] at H
    have c2b0 : decide (0 < x4_1) = false := decide_eq_false c2
    clear c2
    obtain rfl := Option.some.inj H
    go_wp2
    go_ret
    exact ⟨by first | rfl | (simp; done) | (simp [*]; done), by repeat (first | exact Drawn0.refl _ | apply Drawn0.step)⟩
mutual
def spinetref03_Norm.l0 : Nat → List Int → Int → Int → Option (Int)
 | 0, _, _, _ => none
 | k + 1, x0, x3, x4 => if x4 < (x0.length : Int) then (spinetref03_Norm.j1 k x0 x3 x4 (decide (x4 < 512))) else (spinetref03_Norm.j1 k x0 x3 x4 false)
def spinetref03_Norm.j1 : Nat → List Int → Int → Int → Bool → Option (Int)
 | 0, _, _, _, _ => none
 | k + 1, x0, x3, x4, x13 => if x13 = true then (if 0 ≤ x4 then (if x4 < (x0.length : Int) then (if (wrap64 (rd x0 x4)) < 0 then (if (wrap64 (-(wrap64 (rd x0 x4)))) > 134217728 then (spinetref03_Norm.l0 k x0 (IntKind.u64.wrap (x3 + (134217728 * 134217728))) (wrap64 (x4 + 1))) else (spinetref03_Norm.l0 k x0 (IntKind.u64.wrap (x3 + (IntKind.u64.wrap ((IntKind.u64.wrap (wrap64 (-(wrap64 (rd x0 x4))))) * (IntKind.u64.wrap (wrap64 (-(wrap64 (rd x0 x4))))))))) (wrap64 (x4 + 1)))) else (if (wrap64 (rd x0 x4)) > 134217728 then (spinetref03_Norm.l0 k x0 (IntKind.u64.wrap (x3 + (134217728 * 134217728))) (wrap64 (x4 + 1))) else (spinetref03_Norm.l0 k x0 (IntKind.u64.wrap (x3 + (IntKind.u64.wrap ((IntKind.u64.wrap (wrap64 (rd x0 x4))) * (IntKind.u64.wrap (wrap64 (rd x0 x4))))))) (wrap64 (x4 + 1))))) else (none)) else (none)) else (some x3)
end
def spinetref03_Norm.f (k : Nat) (l0 : List Int) : Option (Int) := spinetref03_Norm.l0 k l0 0 0
theorem spinetref03_Norm.mono_l : ∀ k, (∀ y0 y1 y2, LeO (spinetref03_Norm.l0 k y0 y1 y2) (spinetref03_Norm.l0 (k + 1) y0 y1 y2)) ∧ (∀ y0 y1 y2 y3, LeO (spinetref03_Norm.j1 k y0 y1 y2 y3) (spinetref03_Norm.j1 (k + 1) y0 y1 y2 y3))
 | 0 => ⟨fun _ _ _ r h => by simp [spinetref03_Norm.l0] at h, fun _ _ _ _ r h => by simp [spinetref03_Norm.j1] at h⟩
 | k + 1 => by
  obtain ⟨ih0, ih1⟩ := spinetref03_Norm.mono_l k
  refine ⟨?_, ?_⟩
  ·intro y0 y1 y2
   unfold spinetref03_Norm.l0
   repeat' first
   | (with_reducible exact ih0 _ _ _)
   | (with_reducible exact ih1 _ _ _ _)
   | (with_reducible exact LeO.refl _)
   | (with_reducible exact LeO.none _)
   | (with_reducible refine LeO.ite ?_ ?_)
   | (with_reducible refine LeO.bind ?_ (fun _ => ?_))
   | exact ih0 _ _ _
   | exact ih1 _ _ _ _
   | exact LeO.none _
   | refine LeO.ite ?_ ?_
   | refine LeO.bind ?_ (fun _ => ?_)
  ·intro y0 y1 y2 y3
   unfold spinetref03_Norm.j1
   repeat' first
   | (with_reducible exact ih0 _ _ _)
   | (with_reducible exact ih1 _ _ _ _)
   | (with_reducible exact LeO.refl _)
   | (with_reducible exact LeO.none _)
   | (with_reducible refine LeO.ite ?_ ?_)
   | (with_reducible refine LeO.bind ?_ (fun _ => ?_))
   | exact ih0 _ _ _
   | exact ih1 _ _ _ _
   | exact LeO.none _
   | refine LeO.ite ?_ ?_
   | refine LeO.bind ?_ (fun _ => ?_)
theorem spinetref03_Norm.mono : ∀ a0 k, LeO (spinetref03_Norm.f k a0) (spinetref03_Norm.f (k + 1) a0) := by
 intro a0 k
 obtain ⟨ih0, ih1⟩ := spinetref03_Norm.mono_l k
 unfold spinetref03_Norm.f
 repeat' first
  | (with_reducible exact ih0 _ _ _)
  | (with_reducible exact ih1 _ _ _ _)
  | (with_reducible exact LeO.refl _)
  | (with_reducible exact LeO.none _)
  | (with_reducible refine LeO.ite ?_ ?_)
  | (with_reducible refine LeO.bind ?_ (fun _ => ?_))
  | exact ih0 _ _ _
  | exact ih1 _ _ _ _
  | exact LeO.none _
  | refine LeO.ite ?_ ?_
  | refine LeO.bind ?_ (fun _ => ?_)
set_option maxHeartbeats 8000000 in
set_option maxRecDepth 100000 in
theorem spinetref03_Norm.calls (k : Nat) (A0 : Option Addr) (c0 : Nat) (l0 : List Int) (r : Int) (w : World) (hr0 : Kd.C (Kd.int .i32) w A0 l0.length l0) (hc0 : l0.length ≤ c0) (h : spinetref03_Norm.f k l0 = some r) :
 Calls Tryd.prog 36 #[.slice A0 l0.length c0] w fun e w' => e = .returned (.int .u64 r) ∧ Drawn0 w w' := by
 have HR0 := Aside0.mk hr0
 have HC0 := Aside0.mk hc0
 clear hr0 hc0
 have H : (spinetref03_Norm.l0 k l0 0 0) = some r := h
 clear h
 have H' := Aside0.mk H
 clear H
 go_enter Tryd.func36, Tryd.ntmps36
 go_wp2
 go_loopg [3, 4] k (fun kq v3 v4 w' => ∃ (x3_1 : Int) (x4_1 : Int), v3 = .int .u64 x3_1 ∧ v4 = .int .i64 x4_1 ∧ Aside0 (spinetref03_Norm.l0 kq l0 x3_1 x4_1 = some r) ∧ Aside0 (kq ≤ k) ∧ Drawn0 w w')
 case atStart => exact ⟨(0), (0), (by first | rfl | (simp; done) | (simp [*]; done)), (by first | rfl | (simp; done) | (simp [*]; done)), H', ⟨Nat.le_refl _⟩, by repeat (first | exact Drawn0.refl _ | apply Drawn0.step)⟩
 case round =>
  clear H'
  obtain ⟨x3_1, x4_1, rfl, rfl, HA, HK1, ⟨m1, rfl⟩⟩ := hrel
  cases gk with
  | zero => exact absurd HA.out (by simp [spinetref03_Norm.l0])
  | succ k1 =>
   have H := HA.out
   clear HA
   simp only [spinetref03_Norm.l0] at H
   have HC2 := Aside0.mk H
   clear H
   go_upto_region 3 with (fail)
   go_cut [13] (fun v13 wc => ∃ (kq : Nat) (x13_1 : Bool), v13 = .bool x13_1 ∧ Aside0 (spinetref03_Norm.j1 kq l0 x3_1 x4_1 x13_1 = some r) ∧ Aside0 (kq ≤ k1) ∧ Drawn0 w wc)
   case first =>
    have H := HC2.out
    clear HC2
    by_cases c3 : x4_1 < (l0.length : Int)
    ·rw [if_pos c3] at H
     have c3b0 : decide (x4_1 < (l0.length : Int)) = true := decide_eq_true c3
     clear c3
     (first | rw [c3b0] | (simp only [i64_w, i32_w]; rw [c3b0]) | skip)
     have H' := Aside0.mk H
     clear H
     go_wp2
     go_meet
     case rel => exact ⟨_, (decide (x4_1 < 512)), (by first | rfl | (simp; done) | (simp [*]; done)), H', ⟨by have := HK1.out; first | omega | exact Nat.le_refl _⟩, by repeat (first | exact Drawn0.refl _ | apply Drawn0.step)⟩
    ·rw [if_neg c3] at H
     have c3b0 : decide (x4_1 < (l0.length : Int)) = false := decide_eq_false c3
     clear c3
     (first | rw [c3b0] | (simp only [i64_w, i32_w]; rw [c3b0]) | skip)
     have H' := Aside0.mk H
     clear H
     go_wp2
     go_meet
     case rel => exact ⟨_, (false), (by first | rfl | (simp; done) | (simp [*]; done)), H', ⟨by have := HK1.out; first | omega | exact Nat.le_refl _⟩, by repeat (first | exact Drawn0.refl _ | apply Drawn0.step)⟩
   case rest =>
    clear HC2
    try clear p2
    try clear c3
    try clear c3b0
    obtain ⟨kq, x13_1, rfl, HA, HJ1, ⟨mc1, rfl⟩⟩ := hcut
    cases kq with
    | zero => exact absurd HA.out (by simp [spinetref03_Norm.j1])
    | succ kj1 =>
     have H := HA.out
     clear HA
     simp only [spinetref03_Norm.j1] at H
     by_cases c4 : x13_1 = true
     ·subst c4
      have H1 : (if 0 ≤ x4_1 then (if x4_1 < (l0.length : Int) then (if (wrap64 (rd l0 x4_1)) < 0 then (if (wrap64 (-(wrap64 (rd l0 x4_1)))) > 134217728 then (spinetref03_Norm.l0 kj1 l0 (IntKind.u64.wrap (x3_1 + (134217728 * 134217728))) (wrap64 (x4_1 + 1))) else (spinetref03_Norm.l0 kj1 l0 (IntKind.u64.wrap (x3_1 + (IntKind.u64.wrap ((IntKind.u64.wrap (wrap64 (-(wrap64 (rd l0 x4_1))))) * (IntKind.u64.wrap (wrap64 (-(wrap64 (rd l0 x4_1))))))))) (wrap64 (x4_1 + 1)))) else (if (wrap64 (rd l0 x4_1)) > 134217728 then (spinetref03_Norm.l0 kj1 l0 (IntKind.u64.wrap (x3_1 + (134217728 * 134217728))) (wrap64 (x4_1 + 1))) else (spinetref03_Norm.l0 kj1 l0 (IntKind.u64.wrap (x3_1 + (IntKind.u64.wrap ((IntKind.u64.wrap (wrap64 (rd l0 x4_1))) * (IntKind.u64.wrap (wrap64 (rd l0 x4_1))))))) (wrap64 (x4_1 + 1))))) else (none)) else (none)) = some r := by rw [if_pos rfl] at H; exact H
      clear H
      have H := H1
      clear H1
      by_cases c5 : 0 ≤ x4_1
      ·rw [if_pos c5] at H
       have c5b0 : decide (0 ≤ x4_1) = true := decide_eq_true c5
       clear c5
       by_cases c6 : x4_1 < (l0.length : Int)
       ·rw [if_pos c6] at H
        have c6b0 : decide (x4_1 < (l0.length : Int)) = true := decide_eq_true c6
        clear c6
        by_cases c7 : (wrap64 (rd l0 x4_1)) < 0
        ·rw [if_pos c7] at H
         have c7b0 : decide ((wrap64 (rd l0 x4_1)) < 0) = true := decide_eq_true c7
         clear c7
         by_cases c8 : (wrap64 (-(wrap64 (rd l0 x4_1)))) > 134217728
         ·rw [if_pos c8] at H
          have c8b0 : decide (134217728 < (wrap64 (-(wrap64 (rd l0 x4_1))))) = true := decide_eq_true c8
          clear c8
          have H' := Aside0.mk H
          clear H
          have p118 : 0 ≤ (x4_1 : Int) := of_decide_eq_true (by first | (with_reducible assumption) | assumption)
          have q118 : x4_1 < (l0.length : Int) := of_decide_eq_true (by first | (with_reducible assumption) | assumption)
          obtain ⟨ad118, e118, hx118_0⟩ := Kd.at_int HR0.out x4_1 p118 q118
          cases e118
          replace p118 := eq_true p118
          replace q118 := eq_true q118
          go_wp2
          go_roundg kj1
          case measure => have := HK1.out; have := HJ1.out; omega
          case rel => exact ⟨(IntKind.u64.wrap (x3_1 + (134217728 * 134217728))), (wrap64 (x4_1 + 1)), (by first | rfl | (simp; done) | (simp [*]; done)), (by first | rfl | (simp; done) | (simp [*]; done)), H', ⟨by have := HK1.out; have := HJ1.out; omega⟩, by repeat (first | exact Drawn0.refl _ | apply Drawn0.step)⟩
         ·rw [if_neg c8] at H
          have c8b0 : decide (134217728 < (wrap64 (-(wrap64 (rd l0 x4_1))))) = false := decide_eq_false c8
          clear c8
          have H' := Aside0.mk H
          clear H
          have p118 : 0 ≤ (x4_1 : Int) := of_decide_eq_true (by first | (with_reducible assumption) | assumption)
          have q118 : x4_1 < (l0.length : Int) := of_decide_eq_true (by first | (with_reducible assumption) | assumption)
          obtain ⟨ad118, e118, hx118_0⟩ := Kd.at_int HR0.out x4_1 p118 q118
          cases e118
          replace p118 := eq_true p118
          replace q118 := eq_true q118
          go_wp2
          go_roundg kj1
          case measure => have := HK1.out; have := HJ1.out; omega
          case rel => exact ⟨(IntKind.u64.wrap (x3_1 + (IntKind.u64.wrap ((IntKind.u64.wrap (wrap64 (-(wrap64 (rd l0 x4_1))))) * (IntKind.u64.wrap (wrap64 (-(wrap64 (rd l0 x4_1))))))))), (wrap64 (x4_1 + 1)), (by first | rfl | (simp; done) | (simp [*]; done)), (by first | rfl | (simp; done) | (simp [*]; done)), H', ⟨by have := HK1.out; have := HJ1.out; omega⟩, by repeat (first | exact Drawn0.refl _ | apply Drawn0.step)⟩
        ·rw [if_neg c7] at H
         have c7b0 : decide ((wrap64 (rd l0 x4_1)) < 0) = false := decide_eq_false c7
         clear c7
         by_cases c9 : (wrap64 (rd l0 x4_1)) > 134217728
         ·rw [if_pos c9] at H
          have c9b0 : decide (134217728 < (wrap64 (rd l0 x4_1))) = true := decide_eq_true c9
          clear c9
          have H' := Aside0.mk H
          clear H
          have p118 : 0 ≤ (x4_1 : Int) := of_decide_eq_true (by first | (with_reducible assumption) | assumption)
          have q118 : x4_1 < (l0.length : Int) := of_decide_eq_true (by first | (with_reducible assumption) | assumption)
          obtain ⟨ad118, e118, hx118_0⟩ := Kd.at_int HR0.out x4_1 p118 q118
          cases e118
          replace p118 := eq_true p118
          replace q118 := eq_true q118
          go_wp2
          go_roundg kj1
          case measure => have := HK1.out; have := HJ1.out; omega
          case rel => exact ⟨(IntKind.u64.wrap (x3_1 + (134217728 * 134217728))), (wrap64 (x4_1 + 1)), (by first | rfl | (simp; done) | (simp [*]; done)), (by first | rfl | (simp; done) | (simp [*]; done)), H', ⟨by have := HK1.out; have := HJ1.out; omega⟩, by repeat (first | exact Drawn0.refl _ | apply Drawn0.step)⟩
         ·rw [if_neg c9] at H
          have c9b0 : decide (134217728 < (wrap64 (rd l0 x4_1))) = false := decide_eq_false c9
          clear c9
          have H' := Aside0.mk H
          clear H
          have p118 : 0 ≤ (x4_1 : Int) := of_decide_eq_true (by first | (with_reducible assumption) | assumption)
          have q118 : x4_1 < (l0.length : Int) := of_decide_eq_true (by first | (with_reducible assumption) | assumption)
          obtain ⟨ad118, e118, hx118_0⟩ := Kd.at_int HR0.out x4_1 p118 q118
          cases e118
          replace p118 := eq_true p118
          replace q118 := eq_true q118
          go_wp2
          go_roundg kj1
          case measure => have := HK1.out; have := HJ1.out; omega
          case rel => exact ⟨(IntKind.u64.wrap (x3_1 + (IntKind.u64.wrap ((IntKind.u64.wrap (wrap64 (rd l0 x4_1))) * (IntKind.u64.wrap (wrap64 (rd l0 x4_1))))))), (wrap64 (x4_1 + 1)), (by first | rfl | (simp; done) | (simp [*]; done)), (by first | rfl | (simp; done) | (simp [*]; done)), H', ⟨by have := HK1.out; have := HJ1.out; omega⟩, by repeat (first | exact Drawn0.refl _ | apply Drawn0.step)⟩
       ·rw [if_neg c6] at H
        exact absurd H (by simp)
      ·rw [if_neg c5] at H
       exact absurd H (by simp)
     ·replace c4 := Bool.eq_false_iff.mpr c4
      subst c4
      have H1 : (some x3_1) = some r := by rw [if_neg (show ¬ (false = true) by decide)] at H; exact H
      clear H
      have H := H1
      clear H1
      obtain rfl := Option.some.inj H
      go_wp2
      go_ret
      exact ⟨by first | rfl | (simp; done) | (simp [*]; done), by repeat (first | exact Drawn0.refl _ | apply Drawn0.step)⟩
def spinetref01_Held.f (a0 : Int) (a1 : Int) (a2 : Int) : Option (Int) := if a0 < a1 then (some a1) else (if a0 > a2 then (some a2) else (some a0))
set_option maxHeartbeats 8000000 in
set_option maxRecDepth 100000 in
theorem spinetref01_Held.calls (a0 : Int) (a1 : Int) (a2 : Int) (r : Int) (w : World) (h : spinetref01_Held.f a0 a1 a2 = some r) :
 Calls Tryd.prog 37 #[.int .i64 a0, .int .i64 a1, .int .i64 a2] w fun e w' => e = .returned (.int .i64 r) ∧ Drawn0 w w' := by
 have H : (if a0 < a1 then (some a1) else (if a0 > a2 then (some a2) else (some a0))) = some r := h
 clear h
 by_cases c4 : a0 < a1
 ·rw [if_pos c4] at H
  have c4b0 : decide (a0 < a1) = true := decide_eq_true c4
  clear c4
  obtain rfl := Option.some.inj H
  go_enter Tryd.func37, Tryd.ntmps37
  go_wp2
  go_ret
  exact ⟨by first | rfl | (simp; done) | (simp [*]; done), by repeat (first | exact Drawn0.refl _ | apply Drawn0.step)⟩
 ·rw [if_neg c4] at H
  have c4b0 : decide (a0 < a1) = false := decide_eq_false c4
  clear c4
  by_cases c5 : a0 > a2
  ·rw [if_pos c5] at H
   have c5b0 : decide (a2 < a0) = true := decide_eq_true c5
   clear c5
   obtain rfl := Option.some.inj H
   go_enter Tryd.func37, Tryd.ntmps37
   go_wp2
   go_ret
   exact ⟨by first | rfl | (simp; done) | (simp [*]; done), by repeat (first | exact Drawn0.refl _ | apply Drawn0.step)⟩
  ·rw [if_neg c5] at H
   have c5b0 : decide (a2 < a0) = false := decide_eq_false c5
   clear c5
   obtain rfl := Option.some.inj H
   go_enter Tryd.func37, Tryd.ntmps37
   go_wp2
   go_ret
   exact ⟨by first | rfl | (simp; done) | (simp [*]; done), by repeat (first | exact Drawn0.refl _ | apply Drawn0.step)⟩
def ptv (x g L : Int) : Int := if L = 0 ∨ 4611686018427387904 < L then 0 else Int.tdiv (x * min (max g (-1073741824)) 1073741824) L
def spinetref03_Part.f (k : Nat) (a0 : Int) (a1 : Int) (a2 : Int) : Option (Int) := if -2147483648 ≤ a0 ∧ a0 ≤ 2147483647 ∧ 0 ≤ a2 ∧ a2 ≤ 18446744073709551615 then some (ptv a0 a1 a2) else none
theorem spinetref03_Part.mono : ∀ a0 a1 a2 k, LeO (spinetref03_Part.f k a0 a1 a2) (spinetref03_Part.f (k + 1) a0 a1 a2) := fun _ _ _ _ => LeO.refl _
set_option maxHeartbeats 1000000 in
set_option maxRecDepth 100000 in
theorem ref_part_none (x g L : Int) (w : World) (hL0 : 0 ≤ L) (hL1 : L ≤ 18446744073709551615) (hx0 : -2147483648 ≤ x) (hx1 : x ≤ 2147483647) (h : L = 0 ∨ 4611686018427387904 < L) :
 Calls Tryd.prog 38 #[.int .i32 x, .int .i64 g, .int .u64 L] w fun e w' => e = .returned (.int .i64 0) ∧ w = w' := by
 rcases h with rfl | h
 ·go_enter Tryd.func38, Tryd.ntmps38
  go_wp2
  go_ret
  exact ⟨rfl, rfl⟩
 ·go_enter Tryd.func38, Tryd.ntmps38
  go_wp2
  go_ret
  exact ⟨rfl, rfl⟩
set_option maxHeartbeats 2000000 in
set_option maxRecDepth 100000 in
theorem ref_part_some (x g L G p r : Int) (w : World) (hL0 : 1 ≤ L) (hL1 : L ≤ 4611686018427387904) (hx0 : -2147483648 ≤ x) (hx1 : x ≤ 2147483647)
 (hG : (1073741824 < g ∧ G = 1073741824) ∨ (g < -1073741824 ∧ G = -1073741824) ∨ (-1073741824 ≤ g ∧ g ≤ 1073741824 ∧ g = G))
 (hr : (x < 0 ∧ G < 0 ∧ -x * -G = p ∧ r = p / L) ∨ (x < 0 ∧ 0 ≤ G ∧ -x * G = p ∧ r = -(p / L)) ∨ (0 ≤ x ∧ G < 0 ∧ x * -G = p ∧ r = -(p / L)) ∨ (0 ≤ x ∧ 0 ≤ G ∧ x * G = p ∧ r = p / L))
 (hp0 : 0 ≤ p) (hp1 : p ≤ 4611686018427387904) :
 Calls Tryd.prog 38 #[.int .i32 x, .int .i64 g, .int .u64 L] w fun e w' => e = .returned (.int .i64 r) ∧ w = w' := by
 have hq := Int.ediv_le_self (a := p) L hp0
 have hq0 := Int.ediv_nonneg hp0 (by omega : 0 ≤ L)
 have hLz : (L == 0) = false := by simp; omega
 rcases hG with ⟨h, rfl⟩ | ⟨h, rfl⟩ | ⟨h, h', rfl⟩
 all_goals
  rcases hr with ⟨hs, hg, hp, rfl⟩ | ⟨hs, hg, hp, rfl⟩ | ⟨hs, hg, hp, rfl⟩ | ⟨hs, hg, hp, rfl⟩
  all_goals first
   | (exfalso; omega)
   | (first | have hdx : decide (x < 0) = true := by simpa using hs | have hdx : decide (x < 0) = false := by simpa using hs
      first | have hdg : decide (g < 0) = true := by simpa using hg | have hdg : decide (g < 0) = false := by simpa using hg | skip
      go_enter Tryd.func38, Tryd.ntmps38
      go_wp2
      go_ret
      refine ⟨congrArg Ending.returned (congrArg (Value.int .i64) ?_), rfl⟩
      first
       | rfl
       | (rw [show -x * 1073741824 = p by omega]; unfold wrap64; omega)
       | (rw [show x * 1073741824 = p by omega]; unfold wrap64; omega)
       | (unfold wrap64; omega))
theorem spinetref03_Part.calls (k : Nat) (a0 : Int) (a1 : Int) (a2 : Int) (r : Int) (w : World) (h : spinetref03_Part.f k a0 a1 a2 = some r) :
 Calls Tryd.prog 38 #[.int .i32 a0, .int .i64 a1, .int .u64 a2] w fun e w' => e = .returned (.int .i64 r) ∧ Drawn0 w w' := by
 unfold spinetref03_Part.f at h
 split at h
 ·rename_i hr
  obtain ⟨hx0, hx1, hL0, hL1⟩ := hr
  obtain rfl := Option.some.inj h
  suffices h2 : Calls Tryd.prog 38 #[.int .i32 a0, .int .i64 a1, .int .u64 a2] w fun e w' => e = .returned (.int .i64 (ptv a0 a1 a2)) ∧ w = w' from h2.mono fun e w' h => ⟨h.1, h.2 ▸ Drawn0.refl w⟩
  unfold ptv
  by_cases hn : a2 = 0 ∨ 4611686018427387904 < a2
  ·rw [if_pos hn]
   exact ref_part_none a0 a1 a2 w hL0 hL1 hx0 hx1 hn
  ·rw [if_neg hn]
   have hl0 : 1 ≤ a2 := by omega
   have hl1 : a2 ≤ 4611686018427387904 := by omega
   obtain ⟨G, hG⟩ : ∃ G, min (max a1 (-1073741824)) 1073741824 = G := ⟨_, rfl⟩
   rw [hG]
   have hb := Go.Proofs.YtjpnbdofbkoddaaDoor.Math.mul_range (a := a0) (b := G) (by omega) (by omega) (by omega) (by omega)
   have key : ∀ p : Int, 0 ≤ p → (a0 * G = p → Int.tdiv (a0 * G) a2 = p / a2) ∧ (a0 * G = -p → Int.tdiv (a0 * G) a2 = -(p / a2)) := by
    intro p h0
    refine ⟨fun h => by rw [h, Int.tdiv_eq_ediv_of_nonneg h0], fun h => ?_⟩
    rw [h, Int.neg_tdiv, Int.tdiv_eq_ediv_of_nonneg h0]
   by_cases hs : a0 < 0
   ·by_cases hg : G < 0
    ·have hm : -a0 * -G = a0 * G := Int.neg_mul_neg a0 G
     have h0 : 0 ≤ a0 * G := Int.mul_nonneg_of_nonpos_of_nonpos (by omega) (by omega)
     exact ref_part_some a0 a1 a2 G (a0 * G) _ w hl0 hl1 hx0 hx1 (by omega) (.inl ⟨hs, hg, hm, (key _ h0).1 rfl⟩) h0 (by omega)
    ·have hm : a0 * G = -(-a0 * G) := by rw [Int.neg_mul]; omega
     have h0 : 0 ≤ -a0 * G := Int.mul_nonneg (by omega) (by omega)
     exact ref_part_some a0 a1 a2 G (-a0 * G) _ w hl0 hl1 hx0 hx1 (by omega) (.inr (.inl ⟨hs, by omega, rfl, (key _ h0).2 hm⟩)) h0 (by omega)
   ·by_cases hg : G < 0
    ·have hm : a0 * G = -(a0 * -G) := by rw [Int.mul_neg]; omega
     have h0 : 0 ≤ a0 * -G := Int.mul_nonneg (by omega) (by omega)
     exact ref_part_some a0 a1 a2 G (a0 * -G) _ w hl0 hl1 hx0 hx1 (by omega) (.inr (.inr (.inl ⟨by omega, hg, rfl, (key _ h0).2 hm⟩))) h0 (by omega)
    ·have h0 : 0 ≤ a0 * G := Int.mul_nonneg (by omega) (by omega)
     exact ref_part_some a0 a1 a2 G (a0 * G) _ w hl0 hl1 hx0 hx1 (by omega) (.inr (.inr (.inr ⟨by omega, by omega, rfl, (key _ h0).1 rfl⟩))) h0 (by omega)
 ·cases h
def spinetref04_Step.f (a0 : Int) : Option (Int) := (some (([32768, 34219, 35734, 37316, 38968, 40693, 42495, 44376, 46341, 48393, 50535, 52773, 55109, 57549, 60097, 62757] : List Int) : List Int)).bind fun y119 => (if 0 ≤ a0 then (if a0 < (y119.length : Int) then (some (rd y119 a0)) else (none)) else (none))
set_option maxHeartbeats 8000000 in
set_option maxRecDepth 100000 in
theorem spinetref04_Step.calls (a0 : Int) (r : Int) (w : World) (h : spinetref04_Step.f a0 = some r) :
 Calls Tryd.prog 75 #[.int .i64 a0] w fun e w' => e = .returned (.int .i64 r) ∧ Below w.heap.size w w' := by
 have HB := Aside0.mk (Below.refl w.heap.size w)
 have H : ((some (([32768, 34219, 35734, 37316, 38968, 40693, 42495, 44376, 46341, 48393, 50535, 52773, 55109, 57549, 60097, 62757] : List Int) : List Int)).bind fun y119 => (if 0 ≤ a0 then (if a0 < (y119.length : Int) then (some (rd y119 a0)) else (none)) else (none))) = some r := h
 clear h
 obtain ⟨y119, hy119⟩ : ∃ y_ : List Int, y_ = (([32768, 34219, 35734, 37316, 38968, 40693, 42495, 44376, 46341, 48393, 50535, 52773, 55109, 57549, 60097, 62757] : List Int)) := ⟨_, rfl⟩
 replace H : (if 0 ≤ a0 then (if a0 < (y119.length : Int) then (some (rd y119 a0)) else (none)) else (none)) = some r := by first | (rw [hy119]; with_reducible exact H) | (have H2_ := (Option.bind_some _ _).symm.trans H; rw [hy119]; with_reducible exact H2_) | (have H2_ := (Option.bind_some _ _).symm.trans H; with_reducible exact H2_) | with_reducible exact H | (rw [hy119]; exact H) | exact H
 have Ny119 := Aside0.mk hy119
 clear hy119
 by_cases c2 : 0 ≤ a0
 ·rw [if_pos c2] at H
  have c2b0 : decide (0 ≤ a0) = true := decide_eq_true c2
  clear c2
  by_cases c3 : a0 < (y119.length : Int)
  ·rw [if_pos c3] at H
   have c3b0 : decide (a0 < (y119.length : Int)) = true := decide_eq_true c3
   clear c3
   obtain rfl := Option.some.inj H
   go_enter Tryd.func75, Tryd.ntmps75
   go_wp2_with (first | ((with_reducible refine gate_dst (N := 4) rfl ?_); refine Kd.R_lit (Kd.int .i64) _ 2 ?hg (N := 4) ?hd (xs := ([32768, 34219, 35734, 37316, 38968, 40693, 42495, 44376, 46341, 48393, 50535, 52773, 55109, 57549, 60097, 62757] : List Int)) (inner := [.int .i64 32768, .int .i64 34219, .int .i64 35734, .int .i64 37316, .int .i64 38968, .int .i64 40693, .int .i64 42495, .int .i64 44376, .int .i64 46341, .int .i64 48393, .int .i64 50535, .int .i64 52773, .int .i64 55109, .int .i64 57549, .int .i64 60097, .int .i64 62757]) (ok := fun _ => True) (okp := fun _ => True) ?hr ?hp (fun _ hk => hk) trivial (Below.refl _ _) (Nat.le_refl _) (by simp) ?_; (case hd => rfl); (case hg => rfl); (case hr => first | (go_simp; done) | (go_simp; rfl)); (case hp => exact (Reps.one (show Kd.M (Kd.int .i64) _ _ _ 32768 [.int .i64 32768] from rfl) (Reps.one (show Kd.M (Kd.int .i64) _ _ _ 34219 [.int .i64 34219] from rfl) (Reps.one (show Kd.M (Kd.int .i64) _ _ _ 35734 [.int .i64 35734] from rfl) (Reps.one (show Kd.M (Kd.int .i64) _ _ _ 37316 [.int .i64 37316] from rfl) (Reps.one (show Kd.M (Kd.int .i64) _ _ _ 38968 [.int .i64 38968] from rfl) (Reps.one (show Kd.M (Kd.int .i64) _ _ _ 40693 [.int .i64 40693] from rfl) (Reps.one (show Kd.M (Kd.int .i64) _ _ _ 42495 [.int .i64 42495] from rfl) (Reps.one (show Kd.M (Kd.int .i64) _ _ _ 44376 [.int .i64 44376] from rfl) (Reps.one (show Kd.M (Kd.int .i64) _ _ _ 46341 [.int .i64 46341] from rfl) (Reps.one (show Kd.M (Kd.int .i64) _ _ _ 48393 [.int .i64 48393] from rfl) (Reps.one (show Kd.M (Kd.int .i64) _ _ _ 50535 [.int .i64 50535] from rfl) (Reps.one (show Kd.M (Kd.int .i64) _ _ _ 52773 [.int .i64 52773] from rfl) (Reps.one (show Kd.M (Kd.int .i64) _ _ _ 55109 [.int .i64 55109] from rfl) (Reps.one (show Kd.M (Kd.int .i64) _ _ _ 57549 [.int .i64 57549] from rfl) (Reps.one (show Kd.M (Kd.int .i64) _ _ _ 60097 [.int .i64 60097] from rfl) (Reps.one (show Kd.M (Kd.int .i64) _ _ _ 62757 [.int .i64 62757] from rfl) (Reps.none _ _)))))))))))))))))); intro v120 w4 ho5 hb hg_ hnew_; clear hg_ hnew_; (first | rw [← Ny119.out] at ho5 | (simp only [Int.reduceToNat] at ho5; rw [← Ny119.out] at ho5)); have n0_ := Aside0.mk (Kd.R_lower ho5 (below_size (by repeat (first | (with_reducible first | exact HB.out | apply below_alloc | apply pw_below_drewN | apply below_drew1) | exact HB.out)))); have n1_ := Aside0.mk (below_step (by repeat (first | (with_reducible first | exact HB.out | apply below_alloc | apply pw_below_drewN | apply below_drew1) | exact HB.out)) hb); clear HB; have HO121 := n0_; have HB := n1_; clear n0_ n1_; clear hb ho5; obtain ⟨Ao6, co6, eo6⟩ := Kd.R_slice HO121.out; subst eo6; have p122 : 0 ≤ (a0 : Int) := of_decide_eq_true (by first | (with_reducible assumption) | assumption); have q122 : a0 < (y119.length : Int) := of_decide_eq_true (by first | (with_reducible assumption) | assumption); obtain ⟨ad122, e122, hx122_0⟩ := Kd.at_int (Kd.R_reads' HO121.out).2.2 a0 p122 q122; cases e122; replace p122 := eq_true p122; replace q122 := eq_true q122))
   go_ret
   exact ⟨by first | rfl | (simp [errW_none, errW_some] <;> rfl) | (simp [*, errW_none, errW_some] <;> rfl), by repeat (first | (with_reducible first | exact HB.out | apply below_alloc | apply pw_below_drewN | apply below_drew1) | exact HB.out)⟩
  ·rw [if_neg c3] at H
   exact absurd H (by simp)
 ·rw [if_neg c2] at H
  exact absurd H (by simp)
end Go.Proofs.YtjpnbdofbkoddaaDoor.OShapeScales
