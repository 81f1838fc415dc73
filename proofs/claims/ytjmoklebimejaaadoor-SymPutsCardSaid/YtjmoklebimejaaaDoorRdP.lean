import Derived.Test.YtjmoklebimejaaaDoorOSymReadsx2
namespace Go.Proofs.YtjmoklebimejaaaDoor.OSymReads
open Go.RowKit Go.Proofs.YtjmoklebimejaaaDoorW.PrintWords Go.Proofs.YtjmoklebimejaaaDoorW.PrintLast Go.Proofs.YtjmoklebimejaaaDoorW.PrintMore
attribute [local go_sem] max2_int min2_int max_two min_two max_three min_three max_four min_four   -- for this text's walks alone
set_option linter.unusedVariables false
set_option linter.unusedSimpArgs false

/-! ### reader_right: function 73 -/
def reader_right.f (a0 : Int) : Option (Bool) := if a0 ≥ 1 then (some (decide (a0 ≤ 4096))) else (some false)
set_option maxHeartbeats 8000000 in
set_option maxRecDepth 100000 in
theorem reader_right.calls (a0 : Int) (r : Bool) (w : World) (h : reader_right.f a0 = some r) :
    Calls Tryd.prog 73 #[.int .i64 a0] w fun e w' => e = .returned (.bool r) ∧ Drawn0 w w' := by
  have H : (if a0 ≥ 1 then (some (decide (a0 ≤ 4096))) else (some false)) = some r := h
  clear h
  by_cases c2 : a0 ≥ 1
  · rw [if_pos c2] at H
    have c2b0 : decide (1 ≤ a0) = true := decide_eq_true c2
    clear c2
    obtain rfl := Option.some.inj H
    go_enter Tryd.func73, Tryd.ntmps73
    go_wp2
    go_ret
    exact ⟨by first | rfl | (simp; done) | (simp [*]; done), by repeat (first | exact Drawn0.refl _ | apply Drawn0.step)⟩
  · rw [if_neg c2] at H
    have c2b0 : decide (1 ≤ a0) = false := decide_eq_false c2
    clear c2
    obtain rfl := Option.some.inj H
    go_enter Tryd.func73, Tryd.ntmps73
    go_wp2
    go_ret
    exact ⟨by first | rfl | (simp; done) | (simp [*]; done), by repeat (first | exact Drawn0.refl _ | apply Drawn0.step)⟩

/-! ### reader_Reader_Get: function 70 -/
def reader_Reader_Get.f (s0_0 : List Int) (s0_1 : Int) (s0_2 : Int) (s0_3 : Int) (s0_4 : Int) (a1 : Int) : Option (Int × Int × Int × Int × Int) := (reader_right.f a1).bind fun t109 => (if t109 = true then (if ((a1) % 4294967296) = 0 then (none) else (if ((Int.tdiv s0_3 ((a1) % 4294967296)) % 4294967296) = 0 then (none) else (some (mn ((Int.tdiv s0_4 ((Int.tdiv s0_3 ((a1) % 4294967296)) % 4294967296)) % 4294967296) (wrap64 (a1 - 1)), s0_1, s0_2, s0_3, s0_4)))) else (some (0, s0_1, s0_2, s0_3, s0_4)))
set_option maxHeartbeats 8000000 in
set_option maxRecDepth 100000 in
theorem reader_Reader_Get.calls (g : Nat) (s0_0 : List Int) (s0_1 : Int) (s0_2 : Int) (s0_3 : Int) (s0_4 : Int) (a1 : Int) (r1 : Int) (r2 : Int) (r3 : Int) (r4 : Int) (r5 : Int) (w0 w : World) (hI : IsS81 w0 w g s0_0 s0_1 s0_2 s0_3 s0_4) (hB : Below w0.heap.size w0 w) (h : reader_Reader_Get.f s0_0 s0_1 s0_2 s0_3 s0_4 a1 = some (r1, r2, r3, r4, r5)) :
    Calls Tryd.prog 70 #[.pointer (some ⟨g, 0, none⟩), .int .i64 a1] w fun e w' => e = .returned (.int .i64 r1) ∧ IsS81 w0 w' g s0_0 r2 r3 r4 r5 ∧ Below w0.heap.size w0 w' ∧ KeepBut w w' g none := by
  have HI0 := Aside0.mk hI
  have HK := Aside0.mk (KeepBut.refl w g none)
  have HL := Aside0.mk hB.size
  clear hI
  have HW0 := Aside0.mk hB.size
  have HB := Aside0.mk hB
  clear hB
  have H : ((reader_right.f a1).bind fun t109 => (if t109 = true then (if ((a1) % 4294967296) = 0 then (none) else (if ((Int.tdiv s0_3 ((a1) % 4294967296)) % 4294967296) = 0 then (none) else (some (mn ((Int.tdiv s0_4 ((Int.tdiv s0_3 ((a1) % 4294967296)) % 4294967296)) % 4294967296) (wrap64 (a1 - 1)), s0_1, s0_2, s0_3, s0_4)))) else (some (0, s0_1, s0_2, s0_3, s0_4)))) = some (r1, r2, r3, r4, r5) := h
  clear h
  replace H := Option.bind_eq_some_iff.mp H
  obtain ⟨t109, A30, H⟩ := H
  replace H : (if t109 = true then (if ((a1) % 4294967296) = 0 then (none) else (if ((Int.tdiv s0_3 ((a1) % 4294967296)) % 4294967296) = 0 then (none) else (some (mn ((Int.tdiv s0_4 ((Int.tdiv s0_3 ((a1) % 4294967296)) % 4294967296)) % 4294967296) (wrap64 (a1 - 1)), s0_1, s0_2, s0_3, s0_4)))) else (some (0, s0_1, s0_2, s0_3, s0_4))) = some (r1, r2, r3, r4, r5) := H
  have A3 := Aside0.mk A30
  clear A30
  by_cases c4 : t109 = true
  · subst c4
    have H1 : (if ((a1) % 4294967296) = 0 then (none) else (if ((Int.tdiv s0_3 ((a1) % 4294967296)) % 4294967296) = 0 then (none) else (some (mn ((Int.tdiv s0_4 ((Int.tdiv s0_3 ((a1) % 4294967296)) % 4294967296)) % 4294967296) (wrap64 (a1 - 1)), s0_1, s0_2, s0_3, s0_4)))) = some (r1, r2, r3, r4, r5) := by rw [if_pos rfl] at H; exact H
    clear H
    have H := H1
    clear H1
    by_cases c5 : ((a1) % 4294967296) = 0
    · rw [if_pos c5] at H
      exact absurd H (by simp)
    · rw [if_neg c5] at H
      have c5b0 : (((a1) % 4294967296) == 0) = false := beq_eq_false_iff_ne.mpr c5
      have c5b1 : (((a1) % 4294967296) != 0) = true := bne_iff_ne.mpr c5
      by_cases c6 : ((Int.tdiv s0_3 ((a1) % 4294967296)) % 4294967296) = 0
      · rw [if_pos c6] at H
        exact absurd H (by simp)
      · rw [if_neg c6] at H
        have c6b0 : (((Int.tdiv s0_3 ((a1) % 4294967296)) % 4294967296) == 0) = false := beq_eq_false_iff_ne.mpr c6
        have c6b1 : (((Int.tdiv s0_3 ((a1) % 4294967296)) % 4294967296) != 0) = true := bne_iff_ne.mpr c6
        obtain ⟨ji7, hji7⟩ : ∃ j_ : Int, (mn ((Int.tdiv s0_4 ((Int.tdiv s0_3 ((a1) % 4294967296)) % 4294967296)) % 4294967296) (wrap64 (a1 - 1))) = j_ := ⟨_, rfl⟩
        replace H : (some (ji7, s0_1, s0_2, s0_3, s0_4)) = some (r1, r2, r3, r4, r5) := by first | (rw [hji7] at H; exact H) | (simp only [hji7] at H ⊢; exact H)
        (try rw [hji7] at A3)
        (try (have hji7h : ji7 ≤ 4294967295 := by (rw [← hji7]; unfold mn; (repeat' split) <;> omega)))
        (try (have hji7g : ji7 ≤ 64 := by omega))
        have hji7_ : (if (wrap64 (a1 - 1)) < ((Int.tdiv s0_4 ((Int.tdiv s0_3 ((a1) % 4294967296)) % 4294967296)) % 4294967296) then (wrap64 (a1 - 1)) else ((Int.tdiv s0_4 ((Int.tdiv s0_3 ((a1) % 4294967296)) % 4294967296)) % 4294967296)) = ji7 := hji7
        simp only [Option.some.injEq, Prod.mk.injEq] at H
        obtain ⟨rfl, rfl, rfl, rfl, rfl⟩ := H
        go_enter Tryd.func70, Tryd.ntmps70
        go_wp2_with (first | (go_at_call 73; (with_reducible refine (reader_right.calls a1 true _ A3.out).mono ?_); rintro e w' ⟨rfl, ⟨nd, rfl⟩⟩; (try first | exact ⟨rfl, _, World.drewN_drewN _ _ _⟩ | exact ⟨rfl, _, Eq.trans (World.drewN_drewN _ _ _) (congrArg (World.drewN _) (Nat.add_assoc _ _ _))⟩); obtain ⟨ASz8_0, cSz8_0, HGz8, hgz8, HSz8_0⟩ := HI0.out; have hcz8_0 := cellS81_0 HGz8; have hcz8_1 := cellS81_1 HGz8; have hcz8_2 := cellS81_2 HGz8; have hcz8_3 := cellS81_3 HGz8; have hcz8_4 := cellS81_4 HGz8; have hfz8_1 := blk_frozen HGz8 1; have hfz8_2 := blk_frozen HGz8 2; have hfz8_3 := blk_frozen HGz8 3; have hfz8_4 := blk_frozen HGz8 4; clear HGz8 hgz8))
        repeat (go_quiet (first | (go_at_call 73; (with_reducible refine (reader_right.calls a1 true _ A3.out).mono ?_); rintro e w' ⟨rfl, ⟨nd, rfl⟩⟩; (try first | exact ⟨rfl, _, World.drewN_drewN _ _ _⟩ | exact ⟨rfl, _, Eq.trans (World.drewN_drewN _ _ _) (congrArg (World.drewN _) (Nat.add_assoc _ _ _))⟩); obtain ⟨ASz8_0, cSz8_0, HGz8, hgz8, HSz8_0⟩ := HI0.out; have hcz8_0 := cellS81_0 HGz8; have hcz8_1 := cellS81_1 HGz8; have hcz8_2 := cellS81_2 HGz8; have hcz8_3 := cellS81_3 HGz8; have hcz8_4 := cellS81_4 HGz8; have hfz8_1 := blk_frozen HGz8 1; have hfz8_2 := blk_frozen HGz8 2; have hfz8_3 := blk_frozen HGz8 3; have hfz8_4 := blk_frozen HGz8 4; clear HGz8 hgz8)); try go_wp2_with (first | (go_at_call 73; (with_reducible refine (reader_right.calls a1 true _ A3.out).mono ?_); rintro e w' ⟨rfl, ⟨nd, rfl⟩⟩; (try first | exact ⟨rfl, _, World.drewN_drewN _ _ _⟩ | exact ⟨rfl, _, Eq.trans (World.drewN_drewN _ _ _) (congrArg (World.drewN _) (Nat.add_assoc _ _ _))⟩); obtain ⟨ASz8_0, cSz8_0, HGz8, hgz8, HSz8_0⟩ := HI0.out; have hcz8_0 := cellS81_0 HGz8; have hcz8_1 := cellS81_1 HGz8; have hcz8_2 := cellS81_2 HGz8; have hcz8_3 := cellS81_3 HGz8; have hcz8_4 := cellS81_4 HGz8; have hfz8_1 := blk_frozen HGz8 1; have hfz8_2 := blk_frozen HGz8 2; have hfz8_3 := blk_frozen HGz8 3; have hfz8_4 := blk_frozen HGz8 4; clear HGz8 hgz8)))
        go_ret
        exact ⟨by first | rfl | (simp [errW_none, errW_some] <;> rfl) | (simp only [← hji7]; first | rfl | (simp [errW_none, errW_some] <;> rfl)) | (simp [*, errW_none, errW_some] <;> rfl), by repeat (first | (with_reducible first | exact HI0.out | apply IsS81.alloc | apply IsS81.drewN | apply IsS81.drew | apply IsS81.set_1 | apply IsS81.set_2 | apply IsS81.set_3 | apply IsS81.set_4) | exact HI0.out), by repeat (first | (with_reducible first | exact HB.out | apply below_alloc | apply pw_below_drewN | apply below_drew1 | refine below_set ?_ (IsS81.ge HI0.out)) | exact HB.out), by repeat (first | (with_reducible first | exact HK.out | apply KeepBut.set_ | apply keep_drewN | apply keep_drew | apply keep_alloc) | exact HK.out)⟩
  · replace c4 := Bool.eq_false_iff.mpr c4
    subst c4
    have H1 : (some (0, s0_1, s0_2, s0_3, s0_4)) = some (r1, r2, r3, r4, r5) := by rw [if_neg (show ¬ (false = true) by decide)] at H; exact H
    clear H
    have H := H1
    clear H1
    simp only [Option.some.injEq, Prod.mk.injEq] at H
    obtain ⟨rfl, rfl, rfl, rfl, rfl⟩ := H
    go_enter Tryd.func70, Tryd.ntmps70
    go_wp2_with (first | (go_at_call 73; (with_reducible refine (reader_right.calls a1 false _ A3.out).mono ?_); rintro e w' ⟨rfl, ⟨nd, rfl⟩⟩; (try first | exact ⟨rfl, _, World.drewN_drewN _ _ _⟩ | exact ⟨rfl, _, Eq.trans (World.drewN_drewN _ _ _) (congrArg (World.drewN _) (Nat.add_assoc _ _ _))⟩)))
    repeat (go_quiet (first | (go_at_call 73; (with_reducible refine (reader_right.calls a1 false _ A3.out).mono ?_); rintro e w' ⟨rfl, ⟨nd, rfl⟩⟩; (try first | exact ⟨rfl, _, World.drewN_drewN _ _ _⟩ | exact ⟨rfl, _, Eq.trans (World.drewN_drewN _ _ _) (congrArg (World.drewN _) (Nat.add_assoc _ _ _))⟩))); try go_wp2_with (first | (go_at_call 73; (with_reducible refine (reader_right.calls a1 false _ A3.out).mono ?_); rintro e w' ⟨rfl, ⟨nd, rfl⟩⟩; (try first | exact ⟨rfl, _, World.drewN_drewN _ _ _⟩ | exact ⟨rfl, _, Eq.trans (World.drewN_drewN _ _ _) (congrArg (World.drewN _) (Nat.add_assoc _ _ _))⟩))))
    go_ret
    exact ⟨by first | rfl | (simp [errW_none, errW_some] <;> rfl) | (simp [*, errW_none, errW_some] <;> rfl), by repeat (first | (with_reducible first | exact HI0.out | apply IsS81.alloc | apply IsS81.drewN | apply IsS81.drew | apply IsS81.set_1 | apply IsS81.set_2 | apply IsS81.set_3 | apply IsS81.set_4) | exact HI0.out), by repeat (first | (with_reducible first | exact HB.out | apply below_alloc | apply pw_below_drewN | apply below_drew1 | refine below_set ?_ (IsS81.ge HI0.out)) | exact HB.out), by repeat (first | (with_reducible first | exact HK.out | apply KeepBut.set_ | apply keep_drewN | apply keep_drew | apply keep_alloc) | exact HK.out)⟩

/-! ### reader_Reader_Raw: function 71 -/
def reader_Reader_Raw.l0 : Nat → Int → Int → Int → List Int → Int → Int → Int → Int → Option (Int × Int × Int × Int × Int)
  | 0, _, _, _, _, _, _, _, _ => none
  | k + 1, x5, x10, x11, x1000, x1001, x1002, x1003, x1004 => if x11 < x10 then (if (wrap64 ((wrap64 ((x1000.length : Int) - 1)) - (wrap64 (Int.tdiv x1002 8)))) ≥ 0 then (if 0 ≤ (wrap64 ((wrap64 ((x1000.length : Int) - 1)) - (wrap64 (Int.tdiv x1002 8)))) then (if (wrap64 ((wrap64 ((x1000.length : Int) - 1)) - (wrap64 (Int.tdiv x1002 8)))) < (x1000.length : Int) then (if 0 ≤ (Int.tmod x1002 8) then (if 0 ≤ x11 then (reader_Reader_Raw.l0 k (Go.bits .or .u32 x5 (shl .u32 ((Go.bits .and .u8 (shr .u8 (rd x1000 (wrap64 ((wrap64 ((x1000.length : Int) - 1)) - (wrap64 (Int.tdiv x1002 8))))) (Int.tmod x1002 8)) 1) % 4294967296) x11)) x10 (wrap64 (x11 + 1)) x1000 x1001 (wrap64 (x1002 + 1)) x1003 x1004) else (none)) else (none)) else (none)) else (none)) else (reader_Reader_Raw.l0 k x5 x10 (wrap64 (x11 + 1)) x1000 x1001 (wrap64 (x1002 + 1)) x1003 x1004)) else (some (x5, x1001, x1002, x1003, x1004))
def reader_Reader_Raw.f (k : Nat) (s0_0 : List Int) (s0_1 : Int) (s0_2 : Int) (s0_3 : Int) (s0_4 : Int) (a1 : Int) : Option (Int × Int × Int × Int × Int) := reader_Reader_Raw.l0 k 0 (mn (mx a1 0) 16) 0 s0_0 s0_1 s0_2 s0_3 s0_4
theorem reader_Reader_Raw.mono_l : ∀ k, (∀ y0 y1 y2 y3 y4 y5 y6 y7, LeO (reader_Reader_Raw.l0 k y0 y1 y2 y3 y4 y5 y6 y7) (reader_Reader_Raw.l0 (k + 1) y0 y1 y2 y3 y4 y5 y6 y7))
  | 0 => fun _ _ _ _ _ _ _ _ r h => by simp [reader_Reader_Raw.l0] at h
  | k + 1 => by
    have ih0 := reader_Reader_Raw.mono_l k
    · intro y0 y1 y2 y3 y4 y5 y6 y7
      unfold reader_Reader_Raw.l0
      repeat' first
      | (with_reducible exact ih0 _ _ _ _ _ _ _ _)
      | (with_reducible exact LeO.refl _)
      | (with_reducible exact LeO.none _)
      | (with_reducible refine LeO.ite ?_ ?_)
      | (with_reducible refine LeO.bind ?_ (fun _ => ?_))
      | exact ih0 _ _ _ _ _ _ _ _
      | exact LeO.none _
      | refine LeO.ite ?_ ?_
      | refine LeO.bind ?_ (fun _ => ?_)
theorem reader_Reader_Raw.mono : ∀ a0 a1 a2 a3 a4 a5 k, LeO (reader_Reader_Raw.f k a0 a1 a2 a3 a4 a5) (reader_Reader_Raw.f (k + 1) a0 a1 a2 a3 a4 a5) := by
  intro a0 a1 a2 a3 a4 a5 k
  have ih0 := reader_Reader_Raw.mono_l k
  unfold reader_Reader_Raw.f
  repeat' first
      | (with_reducible exact ih0 _ _ _ _ _ _ _ _)
      | (with_reducible exact LeO.refl _)
      | (with_reducible exact LeO.none _)
      | (with_reducible refine LeO.ite ?_ ?_)
      | (with_reducible refine LeO.bind ?_ (fun _ => ?_))
      | exact ih0 _ _ _ _ _ _ _ _
      | exact LeO.none _
      | refine LeO.ite ?_ ?_
      | refine LeO.bind ?_ (fun _ => ?_)
set_option maxHeartbeats 8000000 in
set_option maxRecDepth 100000 in
theorem reader_Reader_Raw.calls (k : Nat) (g : Nat) (s0_0 : List Int) (s0_1 : Int) (s0_2 : Int) (s0_3 : Int) (s0_4 : Int) (a1 : Int) (r1 : Int) (r2 : Int) (r3 : Int) (r4 : Int) (r5 : Int) (w0 w : World) (hI : IsS81 w0 w g s0_0 s0_1 s0_2 s0_3 s0_4) (hB : Below w0.heap.size w0 w) (h : reader_Reader_Raw.f k s0_0 s0_1 s0_2 s0_3 s0_4 a1 = some (r1, r2, r3, r4, r5)) :
    Calls Tryd.prog 71 #[.pointer (some ⟨g, 0, none⟩), .int .i64 a1] w fun e w' => e = .returned (.int .u32 r1) ∧ IsS81 w0 w' g s0_0 r2 r3 r4 r5 ∧ Below w0.heap.size w0 w' ∧ KeepBut w w' g none := by
  have HI0 := Aside0.mk hI
  have HK := Aside0.mk (KeepBut.refl w g none)
  have HL := Aside0.mk hB.size
  clear hI
  have HW0 := Aside0.mk hB.size
  have HB := Aside0.mk hB
  clear hB
  have H : (reader_Reader_Raw.l0 k 0 (mn (mx a1 0) 16) 0 s0_0 s0_1 s0_2 s0_3 s0_4) = some (r1, r2, r3, r4, r5) := h
  clear h
  obtain ⟨ji3, hji3⟩ : ∃ j_ : Int, (mx a1 0) = j_ := ⟨_, rfl⟩
  replace H : (reader_Reader_Raw.l0 k 0 (mn (ji3) 16) 0 s0_0 s0_1 s0_2 s0_3 s0_4) = some (r1, r2, r3, r4, r5) := by first | (rw [hji3] at H; exact H) | (simp only [hji3] at H ⊢; exact H)
  (try (have hji3l : 0 ≤ ji3 := by (rw [← hji3]; unfold mx; (repeat' split) <;> omega)))
  (try (have hji3m : 0 ≤ ji3 := by omega))
  have hji3_ : (if a1 < 0 then 0 else a1) = ji3 := hji3
  obtain ⟨ji4, hji4⟩ : ∃ j_ : Int, (mn (ji3) 16) = j_ := ⟨_, rfl⟩
  replace H : (reader_Reader_Raw.l0 k 0 ji4 0 s0_0 s0_1 s0_2 s0_3 s0_4) = some (r1, r2, r3, r4, r5) := by first | (rw [hji4] at H; exact H) | (simp only [hji4] at H ⊢; exact H)
  have hji4_ : (if 16 < (ji3) then 16 else (ji3)) = ji4 := hji4
  have H' := Aside0.mk H
  clear H
  go_enter Tryd.func71, Tryd.ntmps71
  go_wp2
  repeat (go_quiet (fail); try go_wp2)
  go_loopg [5, 11] k (fun kq v5 v11 w' => ∃ (x5_1 : Int) (x11_1 : Int) (x1002_1 : Int), v5 = .int .u32 x5_1 ∧ v11 = .int .i64 x11_1 ∧ Aside0 (reader_Reader_Raw.l0 kq x5_1 ji4 x11_1 s0_0 s0_1 x1002_1 s0_3 s0_4 = some (r1, r2, r3, r4, r5)) ∧ Aside0 (kq ≤ k) ∧ Aside0 (IsS81 w0 w' g s0_0 s0_1 x1002_1 s0_3 s0_4) ∧ Aside0 (KeepBut w w' g none) ∧ Aside0 (Below w0.heap.size w0 w'))
  case atStart => exact ⟨(0), (0), (s0_2), (by first | rfl | (simp; done) | (simp [*]; done)), (by first | rfl | (simp; done) | (simp [*]; done)), H', ⟨Nat.le_refl _⟩, ⟨by repeat (first | (with_reducible first | exact HI0.out | apply IsS81.alloc | apply IsS81.drewN | apply IsS81.drew | apply IsS81.set_1 | apply IsS81.set_2 | apply IsS81.set_3 | apply IsS81.set_4) | exact HI0.out)⟩, ⟨by repeat (first | (with_reducible first | exact HK.out | apply KeepBut.set_ | apply keep_drewN | apply keep_drew | apply keep_alloc) | exact HK.out)⟩, ⟨by repeat (first | (with_reducible first | exact HB.out | apply below_alloc | apply pw_below_drewN | apply below_drew1 | refine below_set ?_ (IsS81.ge HI0.out)) | exact HB.out)⟩⟩
  case round =>
    clear H'
    try clear c2
    try clear p2
    obtain ⟨x5_1, x11_1, x1002_1, rfl, rfl, HA, HK1, HI0, HK, HB⟩ := hrel
    cases gk with
    | zero => exact absurd HA.out (by simp [reader_Reader_Raw.l0])
    | succ k1 =>
      have H := HA.out
      clear HA
      simp only [reader_Reader_Raw.l0] at H
      by_cases c5 : x11_1 < ji4
      · rw [if_pos c5] at H
        have c5b0 : decide (x11_1 < ji4) = true := decide_eq_true c5
        clear c5
        by_cases c6 : (wrap64 ((wrap64 ((s0_0.length : Int) - 1)) - (wrap64 (Int.tdiv x1002_1 8)))) ≥ 0
        · rw [if_pos c6] at H
          have c6b0 : decide (0 ≤ (wrap64 ((wrap64 ((s0_0.length : Int) - 1)) - (wrap64 (Int.tdiv x1002_1 8))))) = true := decide_eq_true c6
          clear c6
          obtain ⟨ji7, hji7⟩ : ∃ j_ : Int, (wrap64 ((wrap64 ((s0_0.length : Int) - 1)) - (wrap64 (Int.tdiv x1002_1 8)))) = j_ := ⟨_, rfl⟩
          replace H : (if 0 ≤ (ji7) then (if (ji7) < (s0_0.length : Int) then (if 0 ≤ (Int.tmod x1002_1 8) then (if 0 ≤ x11_1 then (reader_Reader_Raw.l0 k1 (Go.bits .or .u32 x5_1 (shl .u32 ((Go.bits .and .u8 (shr .u8 (rd s0_0 (ji7)) (Int.tmod x1002_1 8)) 1) % 4294967296) x11_1)) ji4 (wrap64 (x11_1 + 1)) s0_0 s0_1 (wrap64 (x1002_1 + 1)) s0_3 s0_4) else (none)) else (none)) else (none)) else (none)) = some (r1, r2, r3, r4, r5) := by first | (rw [hji7] at H; exact H) | (simp only [hji7] at H ⊢; exact H)
          (try rw [hji7] at c6b0)
          have hji7w : (IntKind.i64.wrap ((wrap64 ((s0_0.length : Int) - 1)) - (wrap64 (Int.tdiv x1002_1 8)))) = ji7 := (i64_w _).trans hji7
          by_cases c8 : 0 ≤ (ji7)
          · rw [if_pos c8] at H
            have c8b0 : decide (0 ≤ (ji7)) = true := decide_eq_true c8
            clear c8
            by_cases c9 : (ji7) < (s0_0.length : Int)
            · rw [if_pos c9] at H
              have c9b0 : decide ((ji7) < (s0_0.length : Int)) = true := decide_eq_true c9
              clear c9
              obtain ⟨ji10, hji10⟩ : ∃ j_ : Int, (Int.tmod x1002_1 8) = j_ := ⟨_, rfl⟩
              replace H : (if 0 ≤ (ji10) then (if 0 ≤ x11_1 then (reader_Reader_Raw.l0 k1 (Go.bits .or .u32 x5_1 (shl .u32 ((Go.bits .and .u8 (shr .u8 (rd s0_0 (ji7)) (ji10)) 1) % 4294967296) x11_1)) ji4 (wrap64 (x11_1 + 1)) s0_0 s0_1 (wrap64 (x1002_1 + 1)) s0_3 s0_4) else (none)) else (none)) = some (r1, r2, r3, r4, r5) := by first | (rw [hji10] at H; exact H) | (simp only [hji10] at H ⊢; exact H)
              by_cases c11 : 0 ≤ (ji10)
              · rw [if_pos c11] at H
                have c11b0 := eq_true c11
                have c11b1 : decide (0 ≤ (ji10)) = true := decide_eq_true c11
                clear c11
                obtain ⟨ji12, hji12⟩ : ∃ j_ : Int, (shr .u8 (rd s0_0 (ji7)) (ji10)) = j_ := ⟨_, rfl⟩
                replace H : (if 0 ≤ x11_1 then (reader_Reader_Raw.l0 k1 (Go.bits .or .u32 x5_1 (shl .u32 ((Go.bits .and .u8 (ji12) 1) % 4294967296) x11_1)) ji4 (wrap64 (x11_1 + 1)) s0_0 s0_1 (wrap64 (x1002_1 + 1)) s0_3 s0_4) else (none)) = some (r1, r2, r3, r4, r5) := by first | (rw [hji12] at H; exact H) | (simp only [hji12] at H ⊢; exact H)
                have hji12_ : ((rd s0_0 (ji7)) / 2 ^ min (ji10).toNat 8) = ji12 := hji12
                have hji12z : (ji10) ≤ 8 → ((rd s0_0 (ji7)) / 2 ^ (ji10).toNat) = ji12 := shr_small hji12
                by_cases c13 : 0 ≤ x11_1
                · rw [if_pos c13] at H
                  have c13b0 := eq_true c13
                  have c13b1 : decide (0 ≤ x11_1) = true := decide_eq_true c13
                  clear c13
                  obtain ⟨ji14, hji14⟩ : ∃ j_ : Int, (shl .u32 ((Go.bits .and .u8 (ji12) 1) % 4294967296) x11_1) = j_ := ⟨_, rfl⟩
                  replace H : (reader_Reader_Raw.l0 k1 (Go.bits .or .u32 x5_1 (ji14)) ji4 (wrap64 (x11_1 + 1)) s0_0 s0_1 (wrap64 (x1002_1 + 1)) s0_3 s0_4) = some (r1, r2, r3, r4, r5) := by first | (rw [hji14] at H; exact H) | (simp only [hji14] at H ⊢; exact H)
                  have hji14_ : (IntKind.u32.wrap (((Go.bits .and .u8 (ji12) 1) % 4294967296) * 2 ^ min x11_1.toNat 32)) = ji14 := hji14
                  have hji14z : x11_1 ≤ 32 → (IntKind.u32.wrap (((Go.bits .and .u8 (ji12) 1) % 4294967296) * 2 ^ x11_1.toNat)) = ji14 := shl_small hji14
                  have H' := Aside0.mk H
                  clear H
                  obtain ⟨ASz15_0, cSz15_0, HGz15, hgz15, HSz15_0⟩ := HI0.out
                  have hcz15_0 := cellS81_0 HGz15
                  have hcz15_1 := cellS81_1 HGz15
                  have hcz15_2 := cellS81_2 HGz15
                  have hcz15_3 := cellS81_3 HGz15
                  have hcz15_4 := cellS81_4 HGz15
                  have hfz15_1 := blk_frozen HGz15 1
                  have hfz15_2 := blk_frozen HGz15 2
                  have hfz15_3 := blk_frozen HGz15 3
                  have hfz15_4 := blk_frozen HGz15 4
                  clear HGz15 hgz15
                  have p110 : 0 ≤ ((ji7) : Int) := of_decide_eq_true (by first | (with_reducible assumption) | assumption)
                  have q110 : (ji7) < (s0_0.length : Int) := of_decide_eq_true (by first | (with_reducible assumption) | assumption)
                  obtain ⟨ad110, e110, hx110_0⟩ := Kd.at_int HSz15_0 (ji7) p110 q110
                  cases e110
                  replace hx110_0 := pw_cell_below HB.out hx110_0
                  replace p110 := eq_true p110
                  replace q110 := eq_true q110
                  go_wp2
                  repeat (go_quiet (fail); try go_wp2)
                  go_roundg k1
                  case measure => have := HK1.out; omega
                  case rel => exact ⟨(Go.bits .or .u32 x5_1 (ji14)), (wrap64 (x11_1 + 1)), (wrap64 (x1002_1 + 1)), (by first | rfl | (simp; done) | (simp only [← hji14] <;> (first | rfl | simp)) | (simp [*]; done)), (by first | rfl | (simp; done) | (simp [*]; done)), H', ⟨by have := HK1.out; omega⟩, ⟨by repeat (first | (with_reducible first | exact HI0.out | apply IsS81.alloc | apply IsS81.drewN | apply IsS81.drew | apply IsS81.set_1 | apply IsS81.set_2 | apply IsS81.set_3 | apply IsS81.set_4) | exact HI0.out)⟩, ⟨by repeat (first | (with_reducible first | exact HK.out | apply KeepBut.set_ | apply keep_drewN | apply keep_drew | apply keep_alloc) | exact HK.out)⟩, ⟨by repeat (first | (with_reducible first | exact HB.out | apply below_alloc | apply pw_below_drewN | apply below_drew1 | refine below_set ?_ (IsS81.ge HI0.out)) | exact HB.out)⟩⟩
                · rw [if_neg c13] at H
                  exact absurd H (by simp)
              · rw [if_neg c11] at H
                exact absurd H (by simp)
            · rw [if_neg c9] at H
              exact absurd H (by simp)
          · rw [if_neg c8] at H
            exact absurd H (by simp)
        · rw [if_neg c6] at H
          have c6b0 : decide (0 ≤ (wrap64 ((wrap64 ((s0_0.length : Int) - 1)) - (wrap64 (Int.tdiv x1002_1 8))))) = false := decide_eq_false c6
          clear c6
          have H' := Aside0.mk H
          clear H
          obtain ⟨ASz16_0, cSz16_0, HGz16, hgz16, HSz16_0⟩ := HI0.out
          have hcz16_0 := cellS81_0 HGz16
          have hcz16_1 := cellS81_1 HGz16
          have hcz16_2 := cellS81_2 HGz16
          have hcz16_3 := cellS81_3 HGz16
          have hcz16_4 := cellS81_4 HGz16
          have hfz16_1 := blk_frozen HGz16 1
          have hfz16_2 := blk_frozen HGz16 2
          have hfz16_3 := blk_frozen HGz16 3
          have hfz16_4 := blk_frozen HGz16 4
          clear HGz16 hgz16
          go_wp2
          repeat (go_quiet (fail); try go_wp2)
          go_roundg k1
          case measure => have := HK1.out; omega
          case rel => exact ⟨(x5_1), (wrap64 (x11_1 + 1)), (wrap64 (x1002_1 + 1)), (by first | rfl | (simp; done) | (simp [*]; done)), (by first | rfl | (simp; done) | (simp [*]; done)), H', ⟨by have := HK1.out; omega⟩, ⟨by repeat (first | (with_reducible first | exact HI0.out | apply IsS81.alloc | apply IsS81.drewN | apply IsS81.drew | apply IsS81.set_1 | apply IsS81.set_2 | apply IsS81.set_3 | apply IsS81.set_4) | exact HI0.out)⟩, ⟨by repeat (first | (with_reducible first | exact HK.out | apply KeepBut.set_ | apply keep_drewN | apply keep_drew | apply keep_alloc) | exact HK.out)⟩, ⟨by repeat (first | (with_reducible first | exact HB.out | apply below_alloc | apply pw_below_drewN | apply below_drew1 | refine below_set ?_ (IsS81.ge HI0.out)) | exact HB.out)⟩⟩
      · rw [if_neg c5] at H
        have c5b0 : decide (x11_1 < ji4) = false := decide_eq_false c5
        clear c5
        simp only [Option.some.injEq, Prod.mk.injEq] at H
        obtain ⟨rfl, rfl, rfl, rfl, rfl⟩ := H
        go_wp2
        repeat (go_quiet (fail); try go_wp2)
        go_ret
        exact ⟨by first | rfl | (simp [errW_none, errW_some] <;> rfl) | (simp only [← hji3, ← hji4]; first | rfl | (simp [errW_none, errW_some] <;> rfl)) | (simp [*, errW_none, errW_some] <;> rfl), by repeat (first | (with_reducible first | exact HI0.out | apply IsS81.alloc | apply IsS81.drewN | apply IsS81.drew | apply IsS81.set_1 | apply IsS81.set_2 | apply IsS81.set_3 | apply IsS81.set_4) | exact HI0.out), by repeat (first | (with_reducible first | exact HB.out | apply below_alloc | apply pw_below_drewN | apply below_drew1 | refine below_set ?_ (IsS81.ge HI0.out)) | exact HB.out), by repeat (first | (with_reducible first | exact HK.out | apply KeepBut.set_ | apply keep_drewN | apply keep_drew | apply keep_alloc) | exact HK.out)⟩



end Go.Proofs.YtjmoklebimejaaaDoor.OSymReads
