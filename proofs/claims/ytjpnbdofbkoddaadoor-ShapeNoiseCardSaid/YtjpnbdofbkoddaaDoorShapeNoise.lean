import Derived.Test.YtjpnbdofbkoddaaDoorShapeScales
import Derived.Test.YtjpnbdofbkoddaaDoorNoisePlain
namespace Go.Proofs.YtjpnbdofbkoddaaDoor.Shape
open Go.RowKit Go.Proofs.YtjpnbdofbkoddaaDoorW.PrintWords Go.Proofs.YtjpnbdofbkoddaaDoorW.PrintLast Go.Proofs.YtjpnbdofbkoddaaDoorW.PrintMore
open Go.Proofs.YtjpnbdofbkoddaaDoor.ShapePlain (I32)
open Go.Proofs.YtjpnbdofbkoddaaDoor.NoisePlain (hd nz fo U32)
set_option linter.unusedVariables false
set_option linter.unusedSimpArgs false
theorem noise_read (n s : Int) (w : World) :
    Calls Tryd.prog 13 #[.int .i64 n, .int .u32 s] w fun e w' => ∃ A c, e = .returned (.tuple #[.slice A (hd n) c, .int .u32 (nz (hd n) s).2]) ∧ Kd.C (Kd.int .i32) w' A (hd n) (nz (hd n) s).1 ∧ hd n ≤ c ∧ Below w.heap.size w w' := by
  refine (OShapeNoise.shape_Noise.calls 100 n s _ _ w (NoisePlain.noise_fn n s)).mono ?_
  rintro e w' ⟨v, rfl, hR, hb⟩
  obtain ⟨A, c, rfl⟩ := Kd.R_slice hR
  have h := Kd.R_reads' hR
  rw [NoisePlain.nz_len] at h ⊢
  exact ⟨A, c, rfl, h.2.2, h.2.1, hb⟩
theorem noise_ref_read (n s : Int) (hs : U32 s) (w : World) :
    Calls Tryd.prog 14 #[.int .i64 (hd n), .int .u32 s] w fun e w' => ∃ A c, e = .returned (.tuple #[.slice A (hd n) c, .int .u32 (nz (hd n) s).2]) ∧ Kd.C (Kd.int .i64) w' A (hd n) (nz (hd n) s).1 ∧ hd n ≤ c ∧ Below w.heap.size w w' := by
  refine (OShapeNoise.spinetref19_Noise.calls 100 (hd n) s _ _ w (NoisePlain.noise_ref (hd n) (NoisePlain.hd_is n).2 s hs 100 (by decide))).mono ?_
  rintro e w' ⟨v, rfl, hR, hb⟩
  obtain ⟨A, c, rfl⟩ := Kd.R_slice hR
  have h := Kd.R_reads' hR
  rw [NoisePlain.nz_len] at h ⊢
  exact ⟨A, c, rfl, h.2.2, h.2.1, hb⟩
theorem held_read (n : Int) (w : World) : Calls Tryd.prog 15 #[.int .i64 n] w fun e w' => e = .returned (.int .i64 (hd n)) ∧ Below w.heap.size w w' :=
  (OShapeNoise.spinetlaw19_held.calls n _ w (NoisePlain.held_fn n)).mono fun e w' h => ⟨h.1, h.2.below⟩
theorem fold_read (l : List Int) (m : Nat) (hn : l.length = m) (hl : m ≤ 200) (hw : ∀ x ∈ l, I32 x) (n s : Int) (A : Option Addr) (c : Nat) (w : World) (hC : Kd.C (Kd.int .i32) w A m l) (hc : m ≤ c) :
    Calls Tryd.prog 16 #[.slice A m c, .int .i64 n, .int .u32 s] w fun e w' => ∃ A c, e = .returned (.tuple #[.slice A (hd n) c, .int .u32 (fo l (hd n) s).2]) ∧ Kd.C (Kd.int .i32) w' A (hd n) (fo l (hd n) s).1 ∧ hd n ≤ c ∧ Below w.heap.size w w' := by
  subst hn
  refine (OShapeNoise.shape_Fold.calls 300 A c l n s (fo l (hd n) s).1 (fo l (hd n) s).2 w hC hc (NoisePlain.fold_fn l hl hw n s)).mono ?_
  rintro e w' ⟨v, rfl, hR, hb⟩
  obtain ⟨A', c', rfl⟩ := Kd.R_slice hR
  have h := Kd.R_reads' hR
  rw [NoisePlain.fo_len] at h ⊢
  exact ⟨A', c', rfl, h.2.2, h.2.1, hb⟩
theorem fold_ref_read (l : List Int) (m : Nat) (hn : l.length = m) (hl : m ≤ 200) (hw : ∀ x ∈ l, I32 x) (n s : Int) (hs : U32 s) (A : Option Addr) (c : Nat) (w : World) (hC : Kd.C (Kd.int .i64) w A m l) (hc : m ≤ c) :
    Calls Tryd.prog 17 #[.slice A m c, .int .i64 (hd n), .int .u32 s] w fun e w' => ∃ A c, e = .returned (.tuple #[.slice A (hd n) c, .int .u32 (fo l (hd n) s).2]) ∧ Kd.C (Kd.int .i64) w' A (hd n) (fo l (hd n) s).1 ∧ hd n ≤ c ∧ Below w.heap.size w w' := by
  subst hn
  refine (OShapeNoise.spinetref19_Fold.calls 500 A c l (hd n) s (fo l (hd n) s).1 (fo l (hd n) s).2 w hC hc (NoisePlain.fold_ref l hl hw (hd n) (NoisePlain.hd_is n).2 s hs)).mono ?_
  rintro e w' ⟨v, rfl, hR, hb⟩
  obtain ⟨A', c', rfl⟩ := Kd.R_slice hR
  have h := Kd.R_reads' hR
  rw [NoisePlain.fo_len] at h ⊢
  exact ⟨A', c', rfl, h.2.2, h.2.1, hb⟩
set_option maxHeartbeats 4000000 in
set_option maxRecDepth 100000 in
theorem noise_at (l : List Int) (m d : Nat) (n s S1 S2 : Int) (L1 L2 : List Int) (hn : l.length = m) (hl : m ≤ 200) (hw : ∀ x ∈ l, I32 x) (hd32 : d ≤ 32) (hl1 : L1.length = d) (hl2 : L2.length = d) (hw1 : ∀ x ∈ L1, I32 x) (hw2 : ∀ x ∈ L2, I32 x)
    (h13 : ∀ w, Calls Tryd.prog 13 #[.int .i64 n, .int .u32 s] w fun e w' => ∃ A c, e = .returned (.tuple #[.slice A d c, .int .u32 S1]) ∧ Kd.C (Kd.int .i32) w' A d L1 ∧ d ≤ c ∧ Below w.heap.size w w')
    (h14 : ∀ w, Calls Tryd.prog 14 #[.int .i64 d, .int .u32 s] w fun e w' => ∃ A c, e = .returned (.tuple #[.slice A d c, .int .u32 S1]) ∧ Kd.C (Kd.int .i64) w' A d L1 ∧ d ≤ c ∧ Below w.heap.size w w')
    (h15 : ∀ w, Calls Tryd.prog 15 #[.int .i64 n] w fun e w' => e = .returned (.int .i64 d) ∧ Below w.heap.size w w')
    (h16 : ∀ w (A : Option Addr) (c : Nat), Kd.C (Kd.int .i32) w A m l → m ≤ c → Calls Tryd.prog 16 #[.slice A m c, .int .i64 n, .int .u32 s] w fun e w' => ∃ A c, e = .returned (.tuple #[.slice A d c, .int .u32 S2]) ∧ Kd.C (Kd.int .i32) w' A d L2 ∧ d ≤ c ∧ Below w.heap.size w w')
    (h17 : ∀ w (A : Option Addr) (c : Nat), Kd.C (Kd.int .i64) w A m l → m ≤ c → Calls Tryd.prog 17 #[.slice A m c, .int .i64 d, .int .u32 s] w fun e w' => ∃ A c, e = .returned (.tuple #[.slice A d c, .int .u32 S2]) ∧ Kd.C (Kd.int .i64) w' A d L2 ∧ d ≤ c ∧ Below w.heap.size w w')
    (A0 : Option Addr) (c0 : Nat) (w : World) (hC : Kd.C (Kd.int .i32) w A0 m l) (hc : m ≤ c0) (hL : Laid w) :
    Calls Tryd.prog 4 #[.slice A0 m c0, .int .i64 n, .int .u32 s] w fun e w' => e = .returned (.bool true) ∧ Below w.heap.size w w' := by
  have HB := Aside0.mk (Below.refl w.heap.size w)
  have HN := Aside0.mk hn
  have HW := Aside0.mk hw
  have HN1 := Aside0.mk hl1
  have HN2 := Aside0.mk hl2
  have HW1 := Aside0.mk hw1
  have HW2 := Aside0.mk hw2
  have HL := Aside0.mk hL
  have HX := Aside0.mk hC
  have H13 := Aside0.mk h13
  have H14 := Aside0.mk h14
  have H15 := Aside0.mk h15
  have H16 := Aside0.mk h16
  have H17 := Aside0.mk h17
  clear hn hw hl1 hl2 hw1 hw2 hL hC h13 h14 h15 h16 h17
  go_enter Tryd.func4, Tryd.ntmps4
  go_wp2_with (first
    | (go_at_call 8; (with_reducible refine (awake_any _ HL.out).mono ?_); rintro en w1 ⟨rfl, hb⟩; have m0 := Aside0.mk (below_step HB.out hb); have m1 := Aside0.mk (HL.out.below hb); have m2 := Aside0.mk (Kd.C_below HX.out hb); clear HB HL HX; have HB := m0; have HL := m1; have HX := m2; clear m0 m1 m2; clear hb)
    | (go_at_call 13; (with_reducible refine (H13.out _).mono ?_); rintro en w1 ⟨A1, c1, rfl, hC1, hc1, hb⟩; have HP := Aside0.mk hC1; have m0 := Aside0.mk (below_step HB.out hb); have m1 := Aside0.mk (HL.out.below hb); have m2 := Aside0.mk (Kd.C_below HX.out hb); clear HB HL HX; have HB := m0; have HL := m1; have HX := m2; clear m0 m1 m2; clear hb hC1)
    | (go_at_call 15; (with_reducible refine (H15.out _).mono ?_); rintro en w1 ⟨rfl, hb⟩; (try (have m0 := Aside0.mk (Kd.C_below HP.out hb); clear HP; have HP := m0; clear m0;)); (try (have m0 := Aside0.mk (Kd.C_below HG.out hb); clear HG; have HG := m0; clear m0;)); (try (have m0 := Aside0.mk (Kd.C_below HY.out hb); clear HY; have HY := m0; clear m0;)); have m0 := Aside0.mk (below_step HB.out hb); have m1 := Aside0.mk (HL.out.below hb); have m2 := Aside0.mk (Kd.C_below HX.out hb); clear HB HL HX; have HB := m0; have HL := m1; have HX := m2; clear m0 m1 m2; clear hb)
    | (go_at_call 14; (with_reducible refine (H14.out _).mono ?_); rintro en w1 ⟨A2, c2, rfl, hC2, hc2, hb⟩; have HQ := Aside0.mk hC2; have m0 := Aside0.mk (Kd.C_below HP.out hb); clear HP; have HP := m0; clear m0; have m0 := Aside0.mk (below_step HB.out hb); have m1 := Aside0.mk (HL.out.below hb); have m2 := Aside0.mk (Kd.C_below HX.out hb); clear HB HL HX; have HB := m0; have HL := m1; have HX := m2; clear m0 m1 m2; clear hb hC2)
    | (go_at_call 10; (with_reducible refine (same_read L1 d HN1.out (by omega) HW1.out A1 A2 c1 c2 _ HP.out hc1 HQ.out hc2).mono ?_); rintro en w1 ⟨rfl, hb⟩; have m0 := Aside0.mk (below_step HB.out hb); have m1 := Aside0.mk (HL.out.below hb); have m2 := Aside0.mk (Kd.C_below HX.out hb); clear HB HL HX; have HB := m0; have HL := m1; have HX := m2; clear m0 m1 m2; clear hb HP HQ)
    | (go_at_call 9; (with_reducible refine (wide_read l m HN.out (by omega) HW.out A0 c0 _ HX.out hc).mono ?_); rintro en w1 ⟨A3, c3, rfl, hC3, hc3, hb⟩; have HY := Aside0.mk hC3; have m0 := Aside0.mk (below_step HB.out hb); have m1 := Aside0.mk (HL.out.below hb); have m2 := Aside0.mk (Kd.C_below HX.out hb); clear HB HL HX; have HB := m0; have HL := m1; have HX := m2; clear m0 m1 m2; clear hb hC3)
    | (go_at_call 16; (with_reducible refine (H16.out _ A0 c0 HX.out hc).mono ?_); rintro en w1 ⟨A4, c4, rfl, hC4, hc4, hb⟩; have HG := Aside0.mk hC4; have m0 := Aside0.mk (Kd.C_below HY.out hb); clear HY; have HY := m0; clear m0; have m0 := Aside0.mk (below_step HB.out hb); have m1 := Aside0.mk (HL.out.below hb); have m2 := Aside0.mk (Kd.C_below HX.out hb); clear HB HL HX; have HB := m0; have HL := m1; have HX := m2; clear m0 m1 m2; clear hb hC4)
    | (go_at_call 17; (with_reducible refine (H17.out _ A3 c3 HY.out hc3).mono ?_); rintro en w1 ⟨A5, c5, rfl, hC5, hc5, hb⟩; have HZ := Aside0.mk hC5; have m0 := Aside0.mk (Kd.C_below HY.out hb); clear HY; have HY := m0; clear m0; have m0 := Aside0.mk (Kd.C_below HG.out hb); clear HG; have HG := m0; clear m0; have m0 := Aside0.mk (below_step HB.out hb); have m1 := Aside0.mk (HL.out.below hb); have m2 := Aside0.mk (Kd.C_below HX.out hb); clear HB HL HX; have HB := m0; have HL := m1; have HX := m2; clear m0 m1 m2; clear hb hC5)
    | (go_at_call 10; (with_reducible refine (same_read L2 d HN2.out (by omega) HW2.out A4 A5 c4 c5 _ HG.out hc4 HZ.out hc5).mono ?_); rintro en w1 ⟨rfl, hb⟩; have m0 := Aside0.mk (Kd.C_below HY.out hb); clear HY; have HY := m0; clear m0; have m0 := Aside0.mk (below_step HB.out hb); have m1 := Aside0.mk (HL.out.below hb); have m2 := Aside0.mk (Kd.C_below HX.out hb); clear HB HL HX; have HB := m0; have HL := m1; have HX := m2; clear m0 m1 m2; clear hb HG HZ)
    | (go_at_call 10; (with_reducible refine (same_read l m HN.out (by omega) HW.out A0 A3 c0 c3 _ HX.out hc HY.out hc3).mono ?_); rintro en w1 ⟨rfl, hb⟩; have m0 := Aside0.mk (below_step HB.out hb); have m1 := Aside0.mk (HL.out.below hb); have m2 := Aside0.mk (Kd.C_below HX.out hb); clear HB HL HX; have HB := m0; have HL := m1; have HX := m2; clear m0 m1 m2; clear hb))
  go_ret
  exact ⟨congrArg Ending.returned (congrArg Value.bool (by simp)), HB.out⟩
theorem noise (l : List Int) (n s : Int) (hs : U32 s) (hw : ∀ x ∈ l, I32 x) (A0 : Option Addr) (c0 : Nat) (w : World) (hC : Kd.C (Kd.int .i32) w A0 l.length l) (hc : l.length ≤ c0) (hL : Laid w) :
    Calls Tryd.prog 4 #[.slice A0 l.length c0, .int .i64 n, .int .u32 s] w fun e w' => e = .returned (.bool true) ∧ Below w.heap.size w w' := by
  by_cases hl : l.length ≤ 200
  · exact noise_at l _ (hd n) n s (nz (hd n) s).2 (fo l (hd n) s).2 (nz (hd n) s).1 (fo l (hd n) s).1 rfl hl hw (NoisePlain.hd_is n).2 (NoisePlain.nz_len _ _) (NoisePlain.fo_len _ _ _) (NoisePlain.nz_in _ _) (NoisePlain.fo_in l hw _ _)
      (fun w => noise_read n s w) (fun w => noise_ref_read n s hs w) (fun w => held_read n w) (fun w A c hC hc => fold_read l _ rfl hl hw n s A c w hC hc) (fun w A c hC hc => fold_ref_read l _ rfl hl hw n s hs A c w hC hc) A0 c0 w hC hc hL
  · have HB := Aside0.mk (Below.refl w.heap.size w)
    have HL := Aside0.mk hL
    clear hL
    go_enter Tryd.func4, Tryd.ntmps4
    go_wp2_with (first | (go_at_call 8; (with_reducible refine (awake_any _ HL.out).mono ?_); rintro en w1 ⟨rfl, hb⟩; have m0 := Aside0.mk (below_step HB.out hb); clear HB hb; have HB := m0; clear m0))
    go_ret
    exact ⟨rfl, HB.out⟩
theorem noise_row (a0 : Option Addr) (len0 cap0 : Nat) (z0 : List Int) (a1 a2 : Int) (w : World) (hL : Laid w) (w0 : (a0 = none ∧ len0 = 0 ∧ cap0 = 0 ∧ z0 = []) ∨ ∃ x, a0 = some x ∧ len0 ≤ cap0 ∧ cap0 ≤ maxLen ∧ z0.length = cap0 ∧ (∀ i, i < z0.length → w.cell? (x.add i) = some (.int .i32 (z0.getD i 0))) ∧ ∀ n ∈ z0, (Lit.int .i32 n).wf = true) (w2 : (Lit.int .u32 a2).wf = true) :
    Calls Tryd.prog 4 #[.slice a0 len0 cap0, .int .i64 a1, .int .u32 a2] w fun e w' => e = .returned (.bool true) ∧ Below w.heap.size w w' := by
  obtain ⟨l0, rfl, hr0, hm0, hw0, hc0⟩ := ReadsInt.ofRowC w0
  exact noise l0 a1 a2 (Math.wf_u32 w2) (fun x h => Math.wf_i32 (hw0 x h)) a0 cap0 w (Kd.C_of_reads (d := (0 : Int)) (h1 := fun _ => rfl) hr0) hc0 hL
end Go.Proofs.YtjpnbdofbkoddaaDoor.Shape
