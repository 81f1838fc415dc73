import Derived.Test.YtjpnbdofbkoddaaDoorOShapeScalesx0T
import Derived.Test.YtjpnbdofbkoddaaDoorLen64T
import Derived.LoopTactic
set_option linter.unusedVariables false
set_option linter.unusedSimpArgs false
namespace Go.Proofs.YtjpnbdofbkoddaaDoor.OShapeScales
open Go.RowKit Go.Proofs.YtjpnbdofbkoddaaDoorW.PrintWords Go.Proofs.YtjpnbdofbkoddaaDoorW.PrintLast Go.Proofs.YtjpnbdofbkoddaaDoorW.PrintMore
attribute [local go_sem] max2_int min2_int max_two min_two max_three min_three max_four min_four
def pow_held.f (a0 : Int) (a1 : Int) (a2 : Int) : Option (Int) := some (mn (mx a0 a1) a2)
set_option maxHeartbeats 8000000 in
set_option maxRecDepth 100000 in
theorem pow_held.calls (a0 : Int) (a1 : Int) (a2 : Int) (r : Int) (w : World) (h : pow_held.f a0 a1 a2 = some r) :
 Calls Tryd.prog 70 #[.int .i64 a0, .int .i64 a1, .int .i64 a2] w fun e w' => e = .returned (.int .i64 r) ∧ Below w.heap.size w w' := by
 have HB := Aside0.mk (Below.refl w.heap.size w)
 have H : (some (mn (mx a0 a1) a2)) = some r := h
 clear h
 obtain ⟨ji4, hji4⟩ : ∃ j_ : Int, (mx a0 a1) = j_ := ⟨_, rfl⟩
 replace H : (some (mn (ji4) a2)) = some r := by first | (rw [hji4] at H; exact H) | (simp only [hji4] at H ⊢; exact H)
 have hji4_ : (if a0 < a1 then a1 else a0) = ji4 := hji4
 obtain ⟨ji5, hji5⟩ : ∃ j_ : Int, (mn (ji4) a2) = j_ := ⟨_, rfl⟩
 replace H : (some ji5) = some r := by first | (rw [hji5] at H; exact H) | (simp only [hji5] at H ⊢; exact H)
 have hji5_ : (if a2 < (ji4) then a2 else (ji4)) = ji5 := hji5
 obtain rfl := Option.some.inj H
 go_enter Tryd.func70, Tryd.ntmps70
 go_wp2
 go_ret
 exact ⟨by first | rfl | (simp [errW_none, errW_some] <;> rfl) | (simp only [← hji4, ← hji5]; first | rfl | (simp [errW_none, errW_some] <;> rfl)) | (simp [*, errW_none, errW_some] <;> rfl), by repeat (first | (with_reducible first | exact HB.out | apply below_alloc | apply pw_below_drewN | apply below_drew1) | exact HB.out)⟩
def bits_Len64.f (k : Nat) (a0 : Int) : Option (Int) := if 0 ≤ a0 ∧ a0 ≤ 18446744073709551615 then some ((Lib.bitLen a0.toNat : Nat) : Int) else none
theorem bits_Len64.mono : ∀ a0 k, LeO (bits_Len64.f k a0) (bits_Len64.f (k + 1) a0) := fun _ _ => LeO.refl _
theorem bits_Len64.calls (k : Nat) (a0 : Int) (r : Int) (w : World) (h : bits_Len64.f k a0 = some r) :
 Calls Tryd.prog 92 #[.int .u64 a0] w fun e w' => e = .returned (.int .i64 r) ∧ Drawn0 w w' := by
 unfold bits_Len64.f at h
 by_cases hb : 0 ≤ a0 ∧ a0 ≤ 18446744073709551615
 ·rw [if_pos hb] at h
  obtain rfl := Option.some.inj h
  exact (Len.bits_Len64 a0 w hb.1 hb.2).mono fun e w' hw => by
   obtain ⟨rfl, rfl⟩ := hw
   exact ⟨rfl, Drawn0.refl _⟩
 ·rw [if_neg hb] at h
  cases h
def root_Sqrt.l0 : Nat → Int → Int → Option (Int)
 | 0, _, _ => none
 | k + 1, x0, x3 => if x3 = 0 then (none) else (if (IntKind.u64.wrap (Int.tdiv (IntKind.u64.wrap (x3 + (IntKind.u64.wrap (Int.tdiv x0 x3)))) 2)) ≥ x3 then (some x3) else (root_Sqrt.l0 k x0 (IntKind.u64.wrap (Int.tdiv (IntKind.u64.wrap (x3 + (IntKind.u64.wrap (Int.tdiv x0 x3)))) 2))))
def root_Sqrt.f (k : Nat) (a0 : Int) : Option (Int) := if a0 = 0 then (some 0) else ((bits_Len64.f k a0).bind fun t102 => (if 0 ≤ (wrap64 (Int.tdiv (wrap64 (t102 + 1)) 2)) then (root_Sqrt.l0 k a0 (shl .u64 1 (wrap64 (Int.tdiv (wrap64 (t102 + 1)) 2)))) else (none)))
theorem root_Sqrt.mono_l : ∀ k, (∀ y0 y1, LeO (root_Sqrt.l0 k y0 y1) (root_Sqrt.l0 (k + 1) y0 y1))
 | 0 => fun _ _ r h => by simp [root_Sqrt.l0] at h
 | k + 1 => by
  have ih0 := root_Sqrt.mono_l k
  ·intro y0 y1
   unfold root_Sqrt.l0
   repeat' first
   | (with_reducible exact ih0 _ _)
   | (with_reducible exact bits_Len64.mono _ _)
   | (with_reducible exact LeO.refl _)
   | (with_reducible exact LeO.none _)
   | (with_reducible refine LeO.ite ?_ ?_)
   | (with_reducible refine LeO.bind ?_ (fun _ => ?_))
   | exact ih0 _ _
   | exact bits_Len64.mono _ _
   | exact LeO.none _
   | refine LeO.ite ?_ ?_
   | refine LeO.bind ?_ (fun _ => ?_)
theorem root_Sqrt.mono : ∀ a0 k, LeO (root_Sqrt.f k a0) (root_Sqrt.f (k + 1) a0) := by
 intro a0 k
 have ih0 := root_Sqrt.mono_l k
 unfold root_Sqrt.f
 repeat' first
  | (with_reducible exact ih0 _ _)
  | (with_reducible exact bits_Len64.mono _ _)
  | (with_reducible exact LeO.refl _)
  | (with_reducible exact LeO.none _)
  | (with_reducible refine LeO.ite ?_ ?_)
  | (with_reducible refine LeO.bind ?_ (fun _ => ?_))
  | exact ih0 _ _
  | exact bits_Len64.mono _ _
  | exact LeO.none _
  | refine LeO.ite ?_ ?_
  | refine LeO.bind ?_ (fun _ => ?_)
set_option maxHeartbeats 8000000 in
set_option maxRecDepth 100000 in
theorem root_Sqrt.calls (k : Nat) (a0 : Int) (r : Int) (w : World) (h : root_Sqrt.f k a0 = some r) :
 Calls Tryd.prog 71 #[.int .u64 a0] w fun e w' => e = .returned (.int .u64 r) ∧ Drawn0 w w' := by
 have H : (if a0 = 0 then (some 0) else ((bits_Len64.f k a0).bind fun t102 => (if 0 ≤ (wrap64 (Int.tdiv (wrap64 (t102 + 1)) 2)) then (root_Sqrt.l0 k a0 (shl .u64 1 (wrap64 (Int.tdiv (wrap64 (t102 + 1)) 2)))) else (none)))) = some r := h
 clear h
 by_cases c2 : a0 = 0
 ·rw [if_pos c2] at H
  have c2b0 : (a0 == 0) = true := beq_iff_eq.mpr c2
  have c2b1 : (a0 != 0) = false := bne_eq_false_iff_eq.mpr c2
  clear c2
  obtain rfl := Option.some.inj H
  go_enter Tryd.func71, Tryd.ntmps71
  go_wp2
  go_ret
  exact ⟨by first | rfl | (simp; done) | (simp [*]; done), by repeat (first | exact Drawn0.refl _ | apply Drawn0.step)⟩
 ·rw [if_neg c2] at H
  have c2b0 : (a0 == 0) = false := beq_eq_false_iff_ne.mpr c2
  have c2b1 : (a0 != 0) = true := bne_iff_ne.mpr c2
  replace H := Option.bind_eq_some_iff.mp H
  obtain ⟨t102, A30, H⟩ := H
  replace H : (if 0 ≤ (wrap64 (Int.tdiv (wrap64 (t102 + 1)) 2)) then (root_Sqrt.l0 k a0 (shl .u64 1 (wrap64 (Int.tdiv (wrap64 (t102 + 1)) 2)))) else (none)) = some r := H
  have A3 := Aside0.mk A30
  clear A30
  obtain ⟨ji4, hji4⟩ : ∃ j_ : Int, (wrap64 (Int.tdiv (wrap64 (t102 + 1)) 2)) = j_ := ⟨_, rfl⟩
  replace H : (if 0 ≤ (ji4) then (root_Sqrt.l0 k a0 (shl .u64 1 (ji4))) else (none)) = some r := by first | (rw [hji4] at H; exact H) | (simp only [hji4] at H ⊢; exact H)
  (try rw [hji4] at A3)
  have hji4w : (IntKind.i64.wrap (Int.tdiv (wrap64 (t102 + 1)) 2)) = ji4 := (i64_w _).trans hji4
  by_cases c5 : 0 ≤ (ji4)
  ·rw [if_pos c5] at H
   have c5b0 := eq_true c5
   have c5b1 : decide (0 ≤ (ji4)) = true := decide_eq_true c5
   clear c5
   obtain ⟨ji6, hji6⟩ : ∃ j_ : Int, (shl .u64 1 (ji4)) = j_ := ⟨_, rfl⟩
   replace H : (root_Sqrt.l0 k a0 ji6) = some r := by first | (rw [hji6] at H; exact H) | (simp only [hji6] at H ⊢; exact H)
   (try rw [hji6] at A3)
   have hji6_ : (IntKind.u64.wrap (1 * 2 ^ min (ji4).toNat 64)) = ji6 := hji6
   have hji6z : (ji4) ≤ 64 → (IntKind.u64.wrap (1 * 2 ^ (ji4).toNat)) = ji6 := shl_small hji6
   have hji6u : (IntKind.u64.wrap (2 ^ min (ji4).toNat 64)) = ji6 := by have h_ := hji6_; rw [Int.one_mul] at h_; exact h_
   have hji6v : (ji4) ≤ 64 → (IntKind.u64.wrap (2 ^ (ji4).toNat)) = ji6 := fun hle_ => by have h_ := hji6z hle_; rw [Int.one_mul] at h_; exact h_
   have H' := Aside0.mk H
   clear H
   go_enter Tryd.func71, Tryd.ntmps71
   go_wp2_with (first | ((with_reducible refine gate_callee (f := 92) rfl ?_); refine goesL_ (some 8) rfl rfl Tryd.func92 (by kernel_rfl) rfl #[.int .u64 a0] rfl (by (try simp only [List.map_toArray, List.map_cons, List.map_nil]); first | done | rfl | (simp only [List.length_drop, List.length_take]; rfl)) ?_; (with_reducible refine (bits_Len64.calls k a0 t102 _ A3.out).mono ?_); rintro e w' ⟨rfl, ⟨nd, rfl⟩⟩; refine ⟨_, rfl, ?_⟩))
   go_loopg [3] k (fun kq v3 w' => ∃ (x3_1 : Int), v3 = .int .u64 x3_1 ∧ Aside0 (root_Sqrt.l0 kq a0 x3_1 = some r) ∧ Aside0 (kq ≤ k) ∧ Drawn0 w w')
   case atStart => exact ⟨(ji6), (by first | rfl | (simp; done) | (simp only [← hji6] <;> (first | rfl | simp)) | (simp [*]; done)), H', ⟨Nat.le_refl _⟩, by repeat (first | exact Drawn0.refl _ | apply Drawn0.step)⟩
   case round =>
    clear H'
    try clear c2
    try clear c2b0
    try clear c2b1
    try clear p2
    try clear c5
    try clear c5b0
    try clear c5b1
    try clear p6
    obtain ⟨x3_1, rfl, HA, HK1, ⟨m1, rfl⟩⟩ := hrel
    cases gk with
    | zero => exact absurd HA.out (by simp [root_Sqrt.l0])
    | succ k1 =>
     have H := HA.out
     clear HA
     simp only [root_Sqrt.l0] at H
     by_cases c7 : x3_1 = 0
     ·rw [if_pos c7] at H
      exact absurd H (by simp)
     ·rw [if_neg c7] at H
      have c7b0 : (x3_1 == 0) = false := beq_eq_false_iff_ne.mpr c7
      have c7b1 : (x3_1 != 0) = true := bne_iff_ne.mpr c7
      by_cases c8 : (IntKind.u64.wrap (Int.tdiv (IntKind.u64.wrap (x3_1 + (IntKind.u64.wrap (Int.tdiv a0 x3_1)))) 2)) ≥ x3_1
      ·rw [if_pos c8] at H
       have c8b0 : decide (x3_1 ≤ (IntKind.u64.wrap (Int.tdiv (IntKind.u64.wrap (x3_1 + (IntKind.u64.wrap (Int.tdiv a0 x3_1)))) 2))) = true := decide_eq_true c8
       clear c8
       obtain rfl := Option.some.inj H
       go_wp2
       go_ret
       exact ⟨by first | rfl | (simp; done) | (simp only [← hji4, ← hji6] <;> (first | rfl | simp)) | (simp [*]; done), by repeat (first | exact Drawn0.refl _ | apply Drawn0.step)⟩
      ·rw [if_neg c8] at H
       have c8b0 : decide (x3_1 ≤ (IntKind.u64.wrap (Int.tdiv (IntKind.u64.wrap (x3_1 + (IntKind.u64.wrap (Int.tdiv a0 x3_1)))) 2))) = false := decide_eq_false c8
       clear c8
       have H' := Aside0.mk H
       clear H
       go_wp2
       go_roundg k1
       case measure => have := HK1.out; omega
       case rel => exact ⟨(IntKind.u64.wrap (Int.tdiv (IntKind.u64.wrap (x3_1 + (IntKind.u64.wrap (Int.tdiv a0 x3_1)))) 2)), (by first | rfl | (simp; done) | (simp [*]; done)), H', ⟨by have := HK1.out; omega⟩, by repeat (first | exact Drawn0.refl _ | apply Drawn0.step)⟩
  ·rw [if_neg c5] at H
   exact absurd H (by simp)
def yv (x : Int) : Int := mn (mx x (-134217728)) 134217728
def nsum : List Int → Int → Int
 | [], s => s
 | x :: r, s => nsum r (IntKind.u64.wrap (s + IntKind.u64.wrap (wrap64 (yv x * yv x))))
def root_Norm.f (k : Nat) (l0 : List Int) : Option (Int) := some (nsum (l0.take 512) 0)
theorem root_Norm.mono : ∀ a0 k, LeO (root_Norm.f k a0) (root_Norm.f (k + 1) a0) := fun _ _ => LeO.refl _
theorem nrd_drop {xs : List Int} {i : Nat} (h : i < xs.length) : xs.drop i = rd xs i :: xs.drop (i + 1) := by
 rw [List.drop_eq_getElem_cons h]
 congr 1
 unfold rd
 rw [Int.toNat_natCast, List.getD_eq_getElem?_getD, List.getElem?_eq_getElem h]; rfl
set_option maxHeartbeats 8000000 in
set_option maxRecDepth 100000 in
theorem root_Norm.calls (k : Nat) (A0 : Option Addr) (c0 : Nat) (l0 : List Int) (r : Int) (w : World) (hr0 : Kd.C (Kd.int .i32) w A0 l0.length l0) (hc0 : l0.length ≤ c0) (h : root_Norm.f k l0 = some r) :
 Calls Tryd.prog 72 #[.slice A0 l0.length c0] w fun e w' => e = .returned (.int .u64 r) ∧ Below w.heap.size w w' := by
 obtain rfl := Option.some.inj h
 clear h
 obtain ⟨m, hm, hm1, hm2⟩ : ∃ m : Nat, (if 512 < (l0.length : Int) then 512 else (l0.length : Int)) = (m : Int) ∧ m ≤ l0.length ∧ m ≤ 512 := ⟨min l0.length 512, by split <;> omega, by omega, by omega⟩
 have htk : l0.take 512 = l0.take m := by
  by_cases h : (512 : Int) < l0.length
  ·rw [if_pos h] at hm
   have : m = 512 := by omega
   rw [this]
  ·rw [if_neg h] at hm
   have : m = l0.length := by omega
   rw [this, List.take_length, List.take_of_length_le (by omega)]
 rw [htk]
 have hl : (l0.take m).length = m := by rw [List.length_take]; omega
 obtain ⟨i0, hi0, _, hsz, _⟩ := info_parts info21
 obtain ⟨hcut, hA, hC⟩ := print_take_of (P := Tryd.prog) (Value.int .i32) 0 22 21 .i64 Tryd.underlying22 hi0 hsz A0 c0 l0 (m : Int) (by omega) (by omega) hc0
 rw [Int.toNat_natCast] at hA hC hcut
 rw [hl] at hcut
 have HR := Aside0.mk (show Kd.C (Kd.int .i32) w A0 (l0.take m).length (l0.take m) from Kd.C_of_reads (h1 := fun _ => rfl) (hA w (Kd.reads_of_C hr0)))
 rw [hl] at HR
 obtain ⟨xs, hxs⟩ : ∃ xs, l0.take m = xs := ⟨_, rfl⟩
 rw [hxs] at HR hl
 rw [hxs]
 have HL := Aside0.mk hl
 have hm0 : (0 : Int) ≤ m := by omega
 have hm3 : (m : Int) ≤ 512 := by omega
 have hm4 : (m : Int) ≤ l0.length := by omega
 clear hA hC hr0 hi0 hsz htk hxs hl
 go_enter Tryd.func72, Tryd.ntmps72
 go_wp2
 go_loop [3, 13] (fun s i => ∃ (j : Nat) (t : Int), j ≤ m ∧ i = .int .i64 j ∧ s = .int .u64 t ∧ Aside0 (nsum (xs.drop j) t = nsum xs 0)) (fun _ i => m - (intOf i).toNat)
 case atStart => exact ⟨0, 0, by omega, rfl, rfl, ⟨rfl⟩⟩
 case round =>
  obtain ⟨j, t, hj, rfl, rfl, HS⟩ := hrel
  by_cases hlt : j < m
  ·obtain ⟨ad, rfl, hcell⟩ := Kd.at_int HR.out (j : Int) (by omega) (by omega)
   rw [Int.toNat_natCast] at hcell
   have hs := HS.out
   rw [nrd_drop (by have := HL.out; omega), nsum] at hs
   obtain ⟨x, hx⟩ : ∃ x, rd xs j = x := ⟨_, rfl⟩
   rw [hx] at hcell hs
   obtain ⟨y, hy⟩ : ∃ y, yv x = y := ⟨_, rfl⟩
   rw [hy] at hs
   have hy_ : (if 134217728 < (if x < -134217728 then -134217728 else x) then 134217728 else (if x < -134217728 then -134217728 else x)) = y := hy
   have hy1 : -134217728 ≤ y := by rw [← hy_]; (repeat' split) <;> omega
   have hy2 : y ≤ 134217728 := by rw [← hy_]; (repeat' split) <;> omega
   have HS2 := Aside0.mk hs
   have hj0 : (0 : Int) ≤ j := by omega
   have hj1 : (j : Int) < m := by omega
   clear hs hx hy HS
   go_wp2
   go_round
   case rel => exact ⟨j + 1, _, by omega, by go_num, rfl, HS2⟩
   case measure => simp [intOf]; omega
  ·obtain rfl : j = m := by omega
   have hs := HS.out
   rw [List.drop_of_length_le (by have := HL.out; omega), nsum] at hs
   have HS2 := Aside0.mk hs
   clear hs HS
   go_wp2
   go_ret
   exact ⟨by rw [← HS2.out]; rfl, Below.refl _ _⟩
def root_Length.f (k : Nat) (l0 : List Int) : Option (Int) := (root_Norm.f k l0).bind fun t105 => ((root_Sqrt.f k t105).bind fun t106 => (some t106))
theorem root_Length.mono : ∀ a0 k, LeO (root_Length.f k a0) (root_Length.f (k + 1) a0) := by
 intro a0 k
 unfold root_Length.f
 repeat' first
  | (with_reducible exact root_Norm.mono _ _)
  | (with_reducible exact root_Sqrt.mono _ _)
  | (with_reducible exact LeO.refl _)
  | (with_reducible exact LeO.none _)
  | (with_reducible refine LeO.ite ?_ ?_)
  | (with_reducible refine LeO.bind ?_ (fun _ => ?_))
  | exact root_Norm.mono _ _
  | exact root_Sqrt.mono _ _
  | exact LeO.none _
  | refine LeO.ite ?_ ?_
  | refine LeO.bind ?_ (fun _ => ?_)
set_option maxHeartbeats 8000000 in
set_option maxRecDepth 100000 in
theorem root_Length.calls (k : Nat) (A0 : Option Addr) (c0 : Nat) (l0 : List Int) (r : Int) (w : World) (hr0 : Kd.C (Kd.int .i32) w A0 l0.length l0) (hc0 : l0.length ≤ c0) (h : root_Length.f k l0 = some r) :
 Calls Tryd.prog 33 #[.slice A0 l0.length c0] w fun e w' => e = .returned (.int .u64 r) ∧ Below w.heap.size w w' := by
 have HR0 := Aside0.mk hr0
 have HC0 := Aside0.mk hc0
 clear hr0 hc0
 have HB := Aside0.mk (Below.refl w.heap.size w)
 have H : ((root_Norm.f k l0).bind fun t105 => ((root_Sqrt.f k t105).bind fun t106 => (some t106))) = some r := h
 clear h
 replace H := Option.bind_eq_some_iff.mp H
 obtain ⟨t105, A20, H⟩ := H
 replace H : ((root_Sqrt.f k t105).bind fun t106 => (some t106)) = some r := H
 have A2 := Aside0.mk A20
 clear A20
 replace H := Option.bind_eq_some_iff.mp H
 obtain ⟨t106, A30, H⟩ := H
 replace H : (some t106) = some r := H
 have A3 := Aside0.mk A30
 clear A30
 obtain rfl := Option.some.inj H
 go_enter Tryd.func33, Tryd.ntmps33
 go_wp2_with (first | ((with_reducible refine gate_callee (f := 72) rfl ?_); refine goesL_ (some 4) rfl rfl Tryd.func72 (by kernel_rfl) rfl #[.slice A0 l0.length c0] rfl (by (try simp only [List.map_toArray, List.map_cons, List.map_nil]); first | done | rfl | (simp only [List.length_drop, List.length_take]; rfl)) ?_; (with_reducible refine (root_Norm.calls k _ _ l0 t105 _ ?side1 ?side2 A2.out).mono ?_); (case side1 => repeat (first | exact HR0.out | (with_reducible refine Kd.C_alloc ?_ _) | (with_reducible refine Kd.C_drewN ?_ _) | (with_reducible refine Kd.C_drew ?_))); (case side2 => exact HC0.out); rintro e w4 ⟨rfl, hb⟩; refine ⟨_, rfl, ?_⟩; have n0_ := Aside0.mk (below_step (by repeat (first | (with_reducible first | exact HB.out | apply below_alloc | apply pw_below_drewN | apply below_drew1) | exact HB.out)) hb); clear HB; have HB := n0_; clear n0_; (try clear hb); (try clear hb2); (try clear hk); (try clear hi)) | ((with_reducible refine gate_callee (f := 71) rfl ?_); refine goesL_ (some 5) rfl rfl Tryd.func71 (by kernel_rfl) rfl #[.int .u64 t105] rfl (by (try simp only [List.map_toArray, List.map_cons, List.map_nil]); first | done | rfl | (simp only [List.length_drop, List.length_take]; rfl)) ?_; (with_reducible refine (root_Sqrt.calls k t105 t106 _ A3.out).mono ?_); rintro e w' ⟨rfl, ⟨nd, rfl⟩⟩; refine ⟨_, rfl, ?_⟩))
 go_ret
 exact ⟨by first | rfl | (simp [errW_none, errW_some] <;> rfl) | (simp [*, errW_none, errW_some] <;> rfl), by repeat (first | (with_reducible first | exact HB.out | apply below_alloc | apply pw_below_drewN | apply below_drew1) | exact HB.out)⟩
def root_Part.f (a0 : Int) (a1 : Int) (a2 : Int) : Option (Int) := if a2 = 0 then (some 0) else (if a2 > 4611686018427387904 then (some 0) else (if (wrap64 (a2)) = 0 then (none) else (some (wrap64 (Int.tdiv (wrap64 ((wrap64 (a0)) * (mn (mx a1 (-1073741824)) 1073741824))) (wrap64 (a2)))))))
set_option maxHeartbeats 8000000 in
set_option maxRecDepth 100000 in
theorem root_Part.calls (a0 : Int) (a1 : Int) (a2 : Int) (r : Int) (w : World) (h : root_Part.f a0 a1 a2 = some r) :
 Calls Tryd.prog 73 #[.int .i32 a0, .int .i64 a1, .int .u64 a2] w fun e w' => e = .returned (.int .i64 r) ∧ Below w.heap.size w w' := by
 have HB := Aside0.mk (Below.refl w.heap.size w)
 have H : (if a2 = 0 then (some 0) else (if a2 > 4611686018427387904 then (some 0) else (if (wrap64 (a2)) = 0 then (none) else (some (wrap64 (Int.tdiv (wrap64 ((wrap64 (a0)) * (mn (mx a1 (-1073741824)) 1073741824))) (wrap64 (a2)))))))) = some r := h
 clear h
 by_cases c4 : a2 = 0
 ·rw [if_pos c4] at H
  have c4b0 : (a2 == 0) = true := beq_iff_eq.mpr c4
  have c4b1 : (a2 != 0) = false := bne_eq_false_iff_eq.mpr c4
  clear c4
  obtain rfl := Option.some.inj H
  go_enter Tryd.func73, Tryd.ntmps73
  go_wp2
  go_ret
  exact ⟨by first | rfl | (simp [errW_none, errW_some] <;> rfl) | (simp [*, errW_none, errW_some] <;> rfl), by repeat (first | (with_reducible first | exact HB.out | apply below_alloc | apply pw_below_drewN | apply below_drew1) | exact HB.out)⟩
 ·rw [if_neg c4] at H
  have c4b0 : (a2 == 0) = false := beq_eq_false_iff_ne.mpr c4
  have c4b1 : (a2 != 0) = true := bne_iff_ne.mpr c4
  by_cases c5 : a2 > 4611686018427387904
  ·rw [if_pos c5] at H
   have c5b0 : decide (4611686018427387904 < a2) = true := decide_eq_true c5
   clear c5
   obtain rfl := Option.some.inj H
   go_enter Tryd.func73, Tryd.ntmps73
   go_wp2
   go_ret
   exact ⟨by first | rfl | (simp [errW_none, errW_some] <;> rfl) | (simp [*, errW_none, errW_some] <;> rfl), by repeat (first | (with_reducible first | exact HB.out | apply below_alloc | apply pw_below_drewN | apply below_drew1) | exact HB.out)⟩
  ·rw [if_neg c5] at H
   have c5b0 : decide (4611686018427387904 < a2) = false := decide_eq_false c5
   clear c5
   obtain ⟨ji6, hji6⟩ : ∃ j_ : Int, (mx a1 (-1073741824)) = j_ := ⟨_, rfl⟩
   replace H : (if (wrap64 (a2)) = 0 then (none) else (some (wrap64 (Int.tdiv (wrap64 ((wrap64 (a0)) * (mn (ji6) 1073741824))) (wrap64 (a2)))))) = some r := by first | (rw [hji6] at H; exact H) | (simp only [hji6] at H ⊢; exact H)
   have hji6_ : (if a1 < (-1073741824) then (-1073741824) else a1) = ji6 := hji6
   obtain ⟨ji7, hji7⟩ : ∃ j_ : Int, (mn (ji6) 1073741824) = j_ := ⟨_, rfl⟩
   replace H : (if (wrap64 (a2)) = 0 then (none) else (some (wrap64 (Int.tdiv (wrap64 ((wrap64 (a0)) * (ji7))) (wrap64 (a2)))))) = some r := by first | (rw [hji7] at H; exact H) | (simp only [hji7] at H ⊢; exact H)
   have hji7_ : (if 1073741824 < (ji6) then 1073741824 else (ji6)) = ji7 := hji7
   by_cases c8 : (wrap64 (a2)) = 0
   ·rw [if_pos c8] at H
    exact absurd H (by simp)
   ·rw [if_neg c8] at H
    have c8b0 : ((wrap64 (a2)) == 0) = false := beq_eq_false_iff_ne.mpr c8
    have c8b1 : ((wrap64 (a2)) != 0) = true := bne_iff_ne.mpr c8
    obtain rfl := Option.some.inj H
    go_enter Tryd.func73, Tryd.ntmps73
    go_wp2
    go_ret
    exact ⟨by first | rfl | (simp [errW_none, errW_some] <;> rfl) | (simp only [← hji6, ← hji7]; first | rfl | (simp [errW_none, errW_some] <;> rfl)) | (simp [*, errW_none, errW_some] <;> rfl), by repeat (first | (with_reducible first | exact HB.out | apply below_alloc | apply pw_below_drewN | apply below_drew1) | exact HB.out)⟩
def shape_part.f (a0 : Int) (a1 : Int) (a2 : Int) : Option (Int) := (root_Part.f a0 a1 a2).bind fun t107 => (some (mn (mx t107 (-1048576)) 1048576))
set_option maxHeartbeats 8000000 in
set_option maxRecDepth 100000 in
theorem shape_part.calls (a0 : Int) (a1 : Int) (a2 : Int) (r : Int) (w : World) (h : shape_part.f a0 a1 a2 = some r) :
 Calls Tryd.prog 34 #[.int .i32 a0, .int .i64 a1, .int .u64 a2] w fun e w' => e = .returned (.int .i32 r) ∧ Below w.heap.size w w' := by
 have HB := Aside0.mk (Below.refl w.heap.size w)
 have H : ((root_Part.f a0 a1 a2).bind fun t107 => (some (mn (mx t107 (-1048576)) 1048576))) = some r := h
 clear h
 replace H := Option.bind_eq_some_iff.mp H
 obtain ⟨t107, A40, H⟩ := H
 replace H : (some (mn (mx t107 (-1048576)) 1048576)) = some r := H
 have A4 := Aside0.mk A40
 clear A40
 obtain ⟨ji5, hji5⟩ : ∃ j_ : Int, (mx t107 (-1048576)) = j_ := ⟨_, rfl⟩
 replace H : (some (mn (ji5) 1048576)) = some r := by first | (rw [hji5] at H; exact H) | (simp only [hji5] at H ⊢; exact H)
 (try rw [hji5] at A4)
 have hji5_ : (if t107 < (-1048576) then (-1048576) else t107) = ji5 := hji5
 obtain ⟨ji6, hji6⟩ : ∃ j_ : Int, (mn (ji5) 1048576) = j_ := ⟨_, rfl⟩
 replace H : (some ji6) = some r := by first | (rw [hji6] at H; exact H) | (simp only [hji6] at H ⊢; exact H)
 (try rw [hji6] at A4)
 have hji6_ : (if 1048576 < (ji5) then 1048576 else (ji5)) = ji6 := hji6
 obtain rfl := Option.some.inj H
 go_enter Tryd.func34, Tryd.ntmps34
 go_wp2_with (first | ((with_reducible refine gate_callee (f := 73) rfl ?_); refine goesL_ (some 10) rfl rfl Tryd.func73 (by kernel_rfl) rfl #[.int .i32 a0, .int .i64 a1, .int .u64 a2] rfl (by (try simp only [List.map_toArray, List.map_cons, List.map_nil]); first | done | rfl | (simp only [List.length_drop, List.length_take]; rfl)) ?_; (with_reducible refine (root_Part.calls a0 a1 a2 t107 _ A4.out).mono ?_); rintro e w7 ⟨rfl, hb⟩; refine ⟨_, rfl, ?_⟩; have n0_ := Aside0.mk (below_step (by repeat (first | (with_reducible first | exact HB.out | apply below_alloc | apply pw_below_drewN | apply below_drew1) | exact HB.out)) hb); clear HB; have HB := n0_; clear n0_; (try clear hb); (try clear hb2); (try clear hk); (try clear hi)))
 go_ret
 exact ⟨by first | rfl | (simp [errW_none, errW_some] <;> rfl) | (simp only [← hji5, ← hji6]; first | rfl | (simp [errW_none, errW_some] <;> rfl)) | (simp [*, errW_none, errW_some] <;> rfl), by repeat (first | (with_reducible first | exact HB.out | apply below_alloc | apply pw_below_drewN | apply below_drew1) | exact HB.out)⟩
def spinetlaw18_Same.l0 : Nat → List Int → List Int → Int → Int → Option (Bool)
 | 0, _, _, _, _ => none
 | k + 1, x0, x1, x12, x13 => if x13 < x12 then (if 0 ≤ x13 then (if x13 < (x0.length : Int) then (if x13 < (x1.length : Int) then (if (wrap64 (rd x0 x13)) = (rd x1 x13) then (spinetlaw18_Same.l0 k x0 x1 x12 (wrap64 (x13 + 1))) else (some false)) else (none)) else (none)) else (none)) else (some true)
def spinetlaw18_Same.f (k : Nat) (l0 : List Int) (l1 : List Int) : Option (Bool) := if (l0.length : Int) = (l1.length : Int) then (spinetlaw18_Same.l0 k l0 l1 (l0.length : Int) 0) else (some false)
set_option maxHeartbeats 8000000 in
set_option maxRecDepth 100000 in
theorem spinetlaw18_Same.calls (k : Nat) (A0 : Option Addr) (c0 : Nat) (l0 : List Int) (A1 : Option Addr) (c1 : Nat) (l1 : List Int) (r : Bool) (w : World) (hr0 : Kd.C (Kd.int .i32) w A0 l0.length l0) (hc0 : l0.length ≤ c0) (hr1 : Kd.C (Kd.int .i64) w A1 l1.length l1) (hc1 : l1.length ≤ c1) (h : spinetlaw18_Same.f k l0 l1 = some r) :
 Calls Tryd.prog 10 #[.slice A0 l0.length c0, .slice A1 l1.length c1] w fun e w' => e = .returned (.bool r) ∧ Drawn0 w w' := by
 have HR0 := Aside0.mk hr0
 have HC0 := Aside0.mk hc0
 clear hr0 hc0
 have HR1 := Aside0.mk hr1
 have HC1 := Aside0.mk hc1
 clear hr1 hc1
 have H : (if (l0.length : Int) = (l1.length : Int) then (spinetlaw18_Same.l0 k l0 l1 (l0.length : Int) 0) else (some false)) = some r := h
 clear h
 by_cases c3 : (l0.length : Int) = (l1.length : Int)
 ·rw [if_pos c3] at H
  have c3b0 : ((l0.length : Int) == (l1.length : Int)) = true := beq_iff_eq.mpr c3
  have c3b1 : ((l0.length : Int) != (l1.length : Int)) = false := bne_eq_false_iff_eq.mpr c3
  have c3b2 : (l0.length == l1.length) = true := by first | simpa using c3 | (simp at c3 ⊢; omega)
  clear c3
  have H' := Aside0.mk H
  clear H
  go_enter Tryd.func10, Tryd.ntmps10
  go_wp2
  repeat (go_quiet (fail); try go_wp2)
  go_loopg [13] k (fun kq v13 w' => ∃ (x13_1 : Int), v13 = .int .i64 x13_1 ∧ Aside0 (spinetlaw18_Same.l0 kq l0 l1 (l0.length : Int) x13_1 = some r) ∧ Aside0 (kq ≤ k) ∧ Drawn0 w w')
  case atStart => exact ⟨(0), (by first | rfl | (simp; done) | (simp [*]; done)), H', ⟨Nat.le_refl _⟩, by repeat (first | exact Drawn0.refl _ | apply Drawn0.step)⟩
  case round =>
   clear H'
   try clear c1
   try clear p2
   try clear c3
   try clear c3b0
   try clear c3b1
   try clear c3b2
   obtain ⟨x13_1, rfl, HA, HK1, ⟨m1, rfl⟩⟩ := hrel
   cases gk with
   | zero => exact absurd HA.out (by simp [spinetlaw18_Same.l0])
   | succ k1 =>
    have H := HA.out
    clear HA
    simp only [spinetlaw18_Same.l0] at H
    by_cases c4 : x13_1 < (l0.length : Int)
    ·rw [if_pos c4] at H
     have c4b0 : decide (x13_1 < (l0.length : Int)) = true := decide_eq_true c4
     clear c4
     by_cases c5 : 0 ≤ x13_1
     ·rw [if_pos c5] at H
      have c5b0 : decide (0 ≤ x13_1) = true := decide_eq_true c5
      clear c5
      by_cases c6 : x13_1 < (l0.length : Int)
      ·rw [if_pos c6] at H
       have c6b0 : decide (x13_1 < (l0.length : Int)) = true := decide_eq_true c6
       clear c6
       by_cases c7 : x13_1 < (l1.length : Int)
       ·rw [if_pos c7] at H
        have c7b0 : decide (x13_1 < (l1.length : Int)) = true := decide_eq_true c7
        clear c7
        by_cases c8 : (wrap64 (rd l0 x13_1)) = (rd l1 x13_1)
        ·rw [if_pos c8] at H
         have c8b0 : ((wrap64 (rd l0 x13_1)) == (rd l1 x13_1)) = true := beq_iff_eq.mpr c8
         have c8b1 : ((wrap64 (rd l0 x13_1)) != (rd l1 x13_1)) = false := bne_eq_false_iff_eq.mpr c8
         clear c8
         have H' := Aside0.mk H
         clear H
         have p115 : 0 ≤ (x13_1 : Int) := of_decide_eq_true (by first | (with_reducible assumption) | assumption)
         have q115 : x13_1 < (l0.length : Int) := of_decide_eq_true (by first | (with_reducible assumption) | assumption)
         obtain ⟨ad115, e115, hx115_0⟩ := Kd.at_int HR0.out x13_1 p115 q115
         cases e115
         replace p115 := eq_true p115
         replace q115 := eq_true q115
         have p116 : 0 ≤ (x13_1 : Int) := of_decide_eq_true (by first | (with_reducible assumption) | assumption)
         have q116 : x13_1 < (l1.length : Int) := of_decide_eq_true (by first | (with_reducible assumption) | assumption)
         obtain ⟨ad116, e116, hx116_0⟩ := Kd.at_int HR1.out x13_1 p116 q116
         cases e116
         replace p116 := eq_true p116
         replace q116 := eq_true q116
         go_wp2
         repeat (go_quiet (fail); try go_wp2)
         go_roundg k1
         case measure => have := HK1.out; omega
         case rel => exact ⟨(wrap64 (x13_1 + 1)), (by first | rfl | (simp; done) | (simp [*]; done)), H', ⟨by have := HK1.out; omega⟩, by repeat (first | exact Drawn0.refl _ | apply Drawn0.step)⟩
        ·rw [if_neg c8] at H
         have c8b0 : ((wrap64 (rd l0 x13_1)) == (rd l1 x13_1)) = false := beq_eq_false_iff_ne.mpr c8
         have c8b1 : ((wrap64 (rd l0 x13_1)) != (rd l1 x13_1)) = true := bne_iff_ne.mpr c8
         obtain rfl := Option.some.inj H
         have p115 : 0 ≤ (x13_1 : Int) := of_decide_eq_true (by first | (with_reducible assumption) | assumption)
         have q115 : x13_1 < (l0.length : Int) := of_decide_eq_true (by first | (with_reducible assumption) | assumption)
         obtain ⟨ad115, e115, hx115_0⟩ := Kd.at_int HR0.out x13_1 p115 q115
         cases e115
         replace p115 := eq_true p115
         replace q115 := eq_true q115
         have p116 : 0 ≤ (x13_1 : Int) := of_decide_eq_true (by first | (with_reducible assumption) | assumption)
         have q116 : x13_1 < (l1.length : Int) := of_decide_eq_true (by first | (with_reducible assumption) | assumption)
         obtain ⟨ad116, e116, hx116_0⟩ := Kd.at_int HR1.out x13_1 p116 q116
         cases e116
         replace p116 := eq_true p116
         replace q116 := eq_true q116
         go_wp2
         repeat (go_quiet (fail); try go_wp2)
         go_ret
         exact ⟨by first | rfl | (simp; done) | (simp [*]; done), by repeat (first | exact Drawn0.refl _ | apply Drawn0.step)⟩
       ·rw [if_neg c7] at H
        exact absurd H (by simp)
      ·rw [if_neg c6] at H
       exact absurd H (by simp)
     ·rw [if_neg c5] at H
      exact absurd H (by simp)
    ·rw [if_neg c4] at H
     have c4b0 : decide (x13_1 < (l0.length : Int)) = false := decide_eq_false c4
     clear c4
     obtain rfl := Option.some.inj H
     go_wp2
     repeat (go_quiet (fail); try go_wp2)
     go_ret
     exact ⟨by first | rfl | (simp; done) | (simp [*]; done), by repeat (first | exact Drawn0.refl _ | apply Drawn0.step)⟩
 ·rw [if_neg c3] at H
  have c3b0 : ((l0.length : Int) == (l1.length : Int)) = false := beq_eq_false_iff_ne.mpr c3
  have c3b1 : ((l0.length : Int) != (l1.length : Int)) = true := bne_iff_ne.mpr c3
  have c3b2 : (l0.length == l1.length) = false := by first | simpa using c3 | (simp at c3 ⊢; omega)
  obtain rfl := Option.some.inj H
  go_enter Tryd.func10, Tryd.ntmps10
  go_wp2
  repeat (go_quiet (fail); try go_wp2)
  go_ret
  exact ⟨by first | rfl | (simp; done) | (simp [*]; done), by repeat (first | exact Drawn0.refl _ | apply Drawn0.step)⟩
def spinetref03_Fits.f (a0 : Int) (a1 : Int) : Option (Bool) := if a0 = 0 then (some true) else (some (decide (a0 ≤ (IntKind.u64.wrap (Int.tdiv a1 a0)))))
set_option maxHeartbeats 8000000 in
set_option maxRecDepth 100000 in
theorem spinetref03_Fits.calls (a0 : Int) (a1 : Int) (r : Bool) (w : World) (h : spinetref03_Fits.f a0 a1 = some r) :
 Calls Tryd.prog 74 #[.int .u64 a0, .int .u64 a1] w fun e w' => e = .returned (.bool r) ∧ Drawn0 w w' := by
 have H : (if a0 = 0 then (some true) else (some (decide (a0 ≤ (IntKind.u64.wrap (Int.tdiv a1 a0)))))) = some r := h
 clear h
 by_cases c3 : a0 = 0
 ·rw [if_pos c3] at H
  have c3b0 : (a0 == 0) = true := beq_iff_eq.mpr c3
  have c3b1 : (a0 != 0) = false := bne_eq_false_iff_eq.mpr c3
  clear c3
  obtain rfl := Option.some.inj H
  go_enter Tryd.func74, Tryd.ntmps74
  go_wp2
  go_ret
  exact ⟨by first | rfl | (simp; done) | (simp [*]; done), by repeat (first | exact Drawn0.refl _ | apply Drawn0.step)⟩
 ·rw [if_neg c3] at H
  have c3b0 : (a0 == 0) = false := beq_eq_false_iff_ne.mpr c3
  have c3b1 : (a0 != 0) = true := bne_iff_ne.mpr c3
  obtain rfl := Option.some.inj H
  go_enter Tryd.func74, Tryd.ntmps74
  go_wp2
  go_ret
  exact ⟨by first | rfl | (simp; done) | (simp [*]; done), by repeat (first | exact Drawn0.refl _ | apply Drawn0.step)⟩
end Go.Proofs.YtjpnbdofbkoddaaDoor.OShapeScales
