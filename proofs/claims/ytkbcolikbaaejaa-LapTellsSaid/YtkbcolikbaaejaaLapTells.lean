/- Any samples over any tail are lapped as the document says, both ways; Plain leaves both. Conditions: none but that each number fits its type. -/
import Derived.Test.YtkbcolikbaaejaaLapRef
import Derived.Test.YtkbcolikbaaejaaLapNo
namespace Go.Proofs.Ytkbcolikbaaejaa.LapTells
open Go.RowKit Go.Proofs.Ytkbcolikbaaejaa.OLapTells Go.Proofs.YtkbcolikbaaejaaW.PrintWords Go.Proofs.YtkbcolikbaaejaaW.PrintLast Go.Proofs.YtkbcolikbaaejaaW.PrintMore
open Go.Proofs.Ytkbcolikbaaejaa.LapPlain Go.Proofs.Ytkbcolikbaaejaa.LapIn
set_option linter.unusedVariables false
set_option linter.unusedSimpArgs false
theorem awake_any (w : World) : Calls Try.prog 7 #[] w fun e w' => e = .returned (.bool true) ∧ Below w.heap.size w w' :=
  spinetlaw23_awake.calls 103 true w (by decide +kernel)
abbrev C32 := Kd.C (Kd.int .i32)
abbrev C64 := Kd.C (Kd.int .i64)
theorem wide_any (n : Nat) (hn : n ≤ 1000) (A : Option Addr) (c : Nat) (hc : n ≤ c) (l : List Int) (hl : l.length = n) (hw : ∀ x ∈ l, I32 x) (w : World) (C : C32 w A n l) :
    Calls Try.prog 12 #[.slice A n c] w fun e w' => ∃ A2 c2, e = .returned (.slice A2 n c2) ∧ C64 w' A2 n l ∧ n ≤ c2 ∧ Below w.heap.size w w' := by
  subst hl
  refine (spinetlaw18_Wide.calls 1001 A c l l w C hc (wide_fn l hn hw)).mono ?_
  rintro e w' ⟨v, rfl, hR, hb⟩
  obtain ⟨A2, c2, rfl, hc2, k2⟩ := Kd.R_reads hR
  exact ⟨A2, c2, rfl, k2, hc2, hb⟩
theorem same_any (n : Nat) (hn : n ≤ 1000) (A : Option Addr) (c : Nat) (hc : n ≤ c) (A2 : Option Addr) (c2 : Nat) (hc2 : n ≤ c2) (l : List Int) (hl : l.length = n) (hw : ∀ x ∈ l, I32 x) (w : World) (C : C32 w A n l) (C2 : C64 w A2 n l) :
    Calls Try.prog 13 #[.slice A n c, .slice A2 n c2] w fun e w' => e = .returned (.bool true) ∧ Below w.heap.size w w' := by
  subst hl
  exact (spinetlaw18_Same.calls 1001 A c l A2 c2 l true w C hc C2 hc2 (same_fn l hn hw)).mono fun e w' h => ⟨h.1, h.2.below⟩
theorem plain_any (n : Nat) (hth : Th n) (A0 A1 : Option Addr) (c0 c1 : Nat) (h0 : n ≤ c0) (h1 : n ≤ c1) (l0 l1 : List Int) (hl0 : l0.length = n) (hl1 : l1.length = n) (hs0 : ∀ x ∈ l0, I32 x) (hs1 : ∀ x ∈ l1, I32 x) (w : World) (C0 : C32 w A0 n l0) (C1 : C32 w A1 n l1) :
    Calls Try.prog 11 #[.slice A0 n c0, .slice A1 n c1] w fun e w' => ∃ v2 v3, e = .returned (.tuple #[v2, v3]) ∧ Kd.R (Kd.int .i32) 21 w' w.heap.size (fun _ => True) v2 ((List.range n).map (ov l0 l1)) ∧ Kd.R (Kd.int .i32) 21 w' w.heap.size (fun _ => True) v3 ((List.range n).map (bv l0)) ∧ Below w.heap.size w w' := by
  subst hl0
  have hf := plain_is l0 l1 hth hl1 hs0 hs1 201 (by omega)
  have hc := lap_Plain.calls 201 A0 c0 l0 A1 c1 l1 _ _ w C0 h0 (by rw [hl1]; exact C1) (by omega) hf
  rw [hl1] at hc
  refine hc.mono ?_
  rintro e w' ⟨v0, v1, rfl, r0, r1, hb⟩
  exact ⟨v0, v1, rfl, Kd.R_mono r0 (fun _ _ => trivial), Kd.R_mono r1 (fun _ _ => trivial), hb⟩
theorem plain_none (n k : Nat) (h : ¬ Th n ∨ k ≠ n) (A0 A1 : Option Addr) (c0 c1 : Nat) (h0 : n ≤ c0) (h1 : k ≤ c1) (l0 l1 : List Int) (hl0 : l0.length = n) (hl1 : l1.length = k) (w : World) (C0 : C32 w A0 n l0) (C1 : C32 w A1 k l1) :
    Calls Try.prog 11 #[.slice A0 n c0, .slice A1 k c1] w fun e w' => ∃ A2 c2 A3 c3, e = .returned (.tuple #[.slice A2 0 c2, .slice A3 0 c3]) ∧ Below w.heap.size w w' := by
  subst hl0 hl1
  refine (lap_Plain.calls 201 A0 c0 l0 A1 c1 l1 _ _ w C0 h0 C1 h1 (plain_no l0 l1 h 201 (by omega))).mono ?_
  rintro e w' ⟨v0, v1, rfl, r0, r1, hb⟩
  obtain ⟨A2, c2, rfl⟩ := Kd.R_slice r0
  obtain ⟨A3, c3, rfl⟩ := Kd.R_slice r1
  exact ⟨A2, c2, A3, c3, rfl, hb⟩
theorem ref_any (n : Nat) (hth : Th n) (A0 A1 : Option Addr) (c0 c1 : Nat) (h0 : n ≤ c0) (h1 : n ≤ c1) (l0 l1 : List Int) (hl0 : l0.length = n) (hl1 : l1.length = n) (hs0 : ∀ x ∈ l0, I32 x) (hs1 : ∀ x ∈ l1, I32 x) (w : World) (C0 : C64 w A0 n l0) (C1 : C64 w A1 n l1) :
    Calls Try.prog 16 #[.slice A0 n c0, .slice A1 n c1] w fun e w' => ∃ A2 c2 A3 c3, e = .returned (.tuple #[.slice A2 n c2, .slice A3 n c3]) ∧ n ≤ c2 ∧ n ≤ c3 ∧ C64 w' A2 n ((List.range n).map (ov l0 l1)) ∧ C64 w' A3 n ((List.range n).map (bv l0)) ∧ Below w.heap.size w w' := by
  subst hl0
  have hf := ref_is l0 l1 hth hl1 hs0 hs1
  have hc := spinetref23_Lap.calls 201 A0 c0 l0 A1 c1 l1 _ _ w C0 h0 (by rw [hl1]; exact C1) (by omega) hf
  rw [hl1] at hc
  refine hc.mono ?_
  rintro e w' ⟨v0, v1, rfl, r0, r1, hb⟩
  obtain ⟨A2, c2, rfl, m2, k2⟩ := Kd.R_reads r0
  obtain ⟨A3, c3, rfl, m3, k3⟩ := Kd.R_reads r1
  simp only [List.length_map, List.length_range] at k2 k3 m2 m3 ⊢
  exact ⟨A2, c2, A3, c3, rfl, m2, m3, k2, k3, hb⟩
theorem there_any (n : Nat) (w : World) : Calls Try.prog 8 #[.int .i64 n] w fun e w' => e = .returned (.bool (decide (n = 8 ∨ n = 16 ∨ n = 32))) ∧ Below w.heap.size w w' :=
  (spinetref23_There.calls (n : Int) _ w (there_ref n)).mono fun e w' h => ⟨h.1, h.2.below⟩
theorem ov_all (y t : List Int) (n : Nat) : ∀ x ∈ (List.range n).map (ov y t), I32 x := fun x hx => by obtain ⟨i, _, rfl⟩ := List.mem_map.1 hx; exact ov_in y t i
theorem bv_all (y : List Int) (n : Nat) : ∀ x ∈ (List.range n).map (bv y), I32 x := fun x hx => by obtain ⟨i, _, rfl⟩ := List.mem_map.1 hx; exact bv_in y i
theorem row_reads {w : World} {A : Option Addr} {n c base : Nat} {ok : Nat → Prop} {xs : List Int} (h : Kd.R (Kd.int .i32) 21 w base ok (.slice A n c) xs) : n ≤ c ∧ C32 w A n xs := by
  obtain ⟨rfl, h2, h3⟩ := Kd.R_reads' h
  exact ⟨h2, h3⟩
theorem map_len (f : Nat → Int) (n : Nat) : ((List.range n).map f).length = n := by simp
set_option maxHeartbeats 8000000 in
set_option maxRecDepth 100000 in
theorem tells_ok (n : Nat) (hth : Th n) (Ay At : Option Addr) (cy ct : Nat) (hcy : n ≤ cy) (hct : n ≤ ct) (Y T : List Int) (hyl : Y.length = n) (htl : T.length = n) (hw : ∀ x ∈ Y, I32 x) (hv : ∀ x ∈ T, I32 x) (w : World) (hY : C32 w Ay n Y) (hT : C32 w At n T) :
    Calls Try.prog 5 #[.slice Ay n cy, .slice At n ct] w fun e w' => e = .returned (.bool true) ∧ Below w.heap.size w w' := by
  have hn8 : 8 ≤ n := by unfold Th at hth; omega
  have hn32 : n ≤ 32 := by unfold Th at hth; omega
  obtain ⟨h, hh⟩ : ∃ h, n = 2 * h := ⟨n / 2, by unfold Th at hth; omega⟩
  have HH := Aside0.mk hh
  have hd : decide (n = 8 ∨ n = 16 ∨ n = 32) = true := decide_eq_true hth
  have H1 : Aside0 (1 ≤ h ∧ h ≤ 16) := ⟨by omega⟩
  clear hh
  have HB := Aside0.mk (Below.refl w.heap.size w)
  have HY := Aside0.mk hY
  have HT := Aside0.mk hT
  have HYL := Aside0.mk hyl
  have HTL := Aside0.mk htl
  clear hY hT hyl htl
  have nn : ((n : Int) != (n : Int)) = false := by simp
  go_enter Try.func5, Try.ntmps5
  go_wp2_with fail
  (refine (awake_any _).mono ?_); rintro e w1 ⟨rfl, hb⟩; have m0 := Aside0.mk (below_step HB.out hb); clear HB; have HB := m0; clear m0;have m0 := Aside0.mk (Kd.C_below HY.out hb); clear HY; have HY := m0; clear m0; have m0 := Aside0.mk (Kd.C_below HT.out hb); clear HT; have HT := m0; clear m0;clear hb
  go_wp2_with fail
  (refine (wide_any n (by omega) Ay cy hcy Y HYL.out hw _ HY.out).mono ?_); rintro e w2 ⟨A5, c5, rfl, ha, hc5, hb⟩; have m0 := Aside0.mk (below_step HB.out hb); clear HB; have HB := m0; clear m0;have m0 := Aside0.mk (Kd.C_below HY.out hb); clear HY; have HY := m0; clear m0; have m0 := Aside0.mk (Kd.C_below HT.out hb); clear HT; have HT := m0; clear m0;have HA := Aside0.mk ha; clear hb ha
  go_wp2_with fail
  (refine (wide_any n (by omega) At ct hct T HTL.out hv _ HT.out).mono ?_); rintro e w3 ⟨A6, c6, rfl, ha, hc6, hb⟩; have m0 := Aside0.mk (below_step HB.out hb); clear HB; have HB := m0; clear m0;have m0 := Aside0.mk (Kd.C_below HY.out hb); clear HY; have HY := m0; clear m0; have m0 := Aside0.mk (Kd.C_below HT.out hb); clear HT; have HT := m0; clear m0; have m0 := Aside0.mk (Kd.C_below HA.out hb); clear HA; have HA := m0; clear m0;have HB6 := Aside0.mk ha; clear hb ha
  go_wp2_with fail
  (refine (plain_any n hth Ay At cy ct hcy hct Y T HYL.out HTL.out hw hv _ HY.out HT.out).mono ?_); rintro e w4 ⟨v2, v3, rfl, r2, r3, hb⟩; have m0 := Aside0.mk (below_step HB.out hb); clear HB; have HB := m0; clear m0;have m0 := Aside0.mk (Kd.C_below HY.out hb); clear HY; have HY := m0; clear m0; have m0 := Aside0.mk (Kd.C_below HT.out hb); clear HT; have HT := m0; clear m0; have m0 := Aside0.mk (Kd.C_below HA.out hb); clear HA; have HA := m0; clear m0; have m0 := Aside0.mk (Kd.C_below HB6.out hb); clear HB6; have HB6 := m0; clear m0;obtain ⟨A7, c7, rfl, hc7, k2⟩ := Kd.R_reads r2; obtain ⟨A8, c8, rfl, hc8, k3⟩ := Kd.R_reads r3; rw [map_len] at hc7 hc8 k2 k3; rw [map_len, map_len]; have HP := Aside0.mk k2; have HQ := Aside0.mk k3; clear hb r2 r3 k2 k3
  go_wp2_with fail
  (refine (same_any n (by omega) Ay cy hcy A5 c5 hc5 Y HYL.out hw _ HY.out HA.out).mono ?_); rintro e w5 ⟨rfl, hb⟩; have m0 := Aside0.mk (below_step HB.out hb); clear HB; have HB := m0; clear m0;have m0 := Aside0.mk (Kd.C_below HY.out hb); clear HY; have HY := m0; clear m0; have m0 := Aside0.mk (Kd.C_below HT.out hb); clear HT; have HT := m0; clear m0; have m0 := Aside0.mk (Kd.C_below HA.out hb); clear HA; have HA := m0; clear m0; have m0 := Aside0.mk (Kd.C_below HB6.out hb); clear HB6; have HB6 := m0; clear m0; have m0 := Aside0.mk (Kd.C_below HP.out hb); clear HP; have HP := m0; clear m0; have m0 := Aside0.mk (Kd.C_below HQ.out hb); clear HQ; have HQ := m0; clear m0;clear hb
  go_wp2_with fail
  (refine (same_any n (by omega) At ct hct A6 c6 hc6 T HTL.out hv _ HT.out HB6.out).mono ?_); rintro e w6 ⟨rfl, hb⟩; have m0 := Aside0.mk (below_step HB.out hb); clear HB; have HB := m0; clear m0;have m0 := Aside0.mk (Kd.C_below HY.out hb); clear HY; have HY := m0; clear m0; have m0 := Aside0.mk (Kd.C_below HT.out hb); clear HT; have HT := m0; clear m0; have m0 := Aside0.mk (Kd.C_below HA.out hb); clear HA; have HA := m0; clear m0; have m0 := Aside0.mk (Kd.C_below HB6.out hb); clear HB6; have HB6 := m0; clear m0; have m0 := Aside0.mk (Kd.C_below HP.out hb); clear HP; have HP := m0; clear m0; have m0 := Aside0.mk (Kd.C_below HQ.out hb); clear HQ; have HQ := m0; clear m0;clear hb
  go_wp2_with fail
  (refine (new_ok n hth _).mono ?_); rintro e wN ⟨gl, rfl, hl, hb⟩; have m0 := Aside0.mk (below_step HB.out hb); clear HB; have HB := m0; clear m0;have m0 := Aside0.mk (Kd.C_below HY.out hb); clear HY; have HY := m0; clear m0; have m0 := Aside0.mk (Kd.C_below HT.out hb); clear HT; have HT := m0; clear m0; have m0 := Aside0.mk (Kd.C_below HA.out hb); clear HA; have HA := m0; clear m0; have m0 := Aside0.mk (Kd.C_below HB6.out hb); clear HB6; have HB6 := m0; clear m0; have m0 := Aside0.mk (Kd.C_below HP.out hb); clear HP; have HP := m0; clear m0; have m0 := Aside0.mk (Kd.C_below HQ.out hb); clear HQ; have HQ := m0; clear m0;have HL := Aside0.mk (LapQ.of hl); have HBN := Aside0.mk (Below.refl wN.heap.size wN); clear hb hl
  go_wp2_with fail
  (refine (there_any n _).mono ?_); rintro e w7 ⟨rfl, hb⟩; have m0 := Aside0.mk (below_step HBN.out hb); clear HBN; have HBN := m0; clear m0;clear hb; rw [hd]
  have HS7 := Aside0.mk HBN.out.size
  go_wp2_with (first
    | ((with_reducible refine gate_builtin (b := .append) (xs := #[.tmp 78, .tmp 79]) rfl ?_); at_builtin; refine Kd.R_append_row (Value.int .i32) (0 : Int) (h1 := fun _ => rfl) (w0 := w7) w7.heap.size rfl (.tmp 78) (.tmp 79) 30 21 (.int .i32 0) 4 rfl Try.underlying30 info21' rfl (by decide) (.slice (some ⟨w7.heap.size, 0, none⟩) 0 0) [] Y Ay n cy (fun _ => True) rfl rfl (fun _ _ => trivial) ((Kd.R_of_own (own_lit w7 w7.heap.size 21 .i32 [] (Nat.le_refl _) (by decide)) (fun _ _ => trivial))) (Kd.C_below (Kd.C_below HY.out HBN.out) (below_alloc (Below.refl _ _) _)) (below_alloc (Below.refl _ _) _) (by simp) (by simp [HYL.out]; omega) ?_; intro v1 w8 hR hb hg hat; clear hg hat; obtain ⟨gs, cs, rfl, hge, hlt, _⟩ := Kd.R_form hR (by simp [HYL.out]; omega); rw [List.nil_append, HYL.out] at hR ⊢; have m0 := Aside0.mk (below_step HBN.out hb); clear HBN; have HBN := m0; clear m0;have HS := Aside0.mk hR; have HGS := Aside0.mk (And.intro hge hlt); clear hb hR hge hlt)
    | ((with_reducible refine gate_builtin (b := .append) (xs := #[.tmp 81, .tmp 82]) rfl ?_); at_builtin; refine Kd.R_append_row (Value.int .i32) (0 : Int) (h1 := fun _ => rfl) (w0 := w8) w8.heap.size rfl (.tmp 81) (.tmp 82) 30 21 (.int .i32 0) 4 rfl Try.underlying30 info21' rfl (by decide) (.slice (some ⟨w8.heap.size, 0, none⟩) 0 0) [] T At n ct (fun _ => True) rfl rfl (fun _ _ => trivial) ((Kd.R_of_own (own_lit w8 w8.heap.size 21 .i32 [] (Nat.le_refl _) (by decide)) (fun _ _ => trivial))) (Kd.C_below (Kd.C_below HT.out HBN.out) (below_alloc (Below.refl _ _) _)) (below_alloc (Below.refl _ _) _) (by simp) (by simp [HTL.out]; omega) ?_; intro v1 w9 hR hb hg hat; clear hg hat; obtain ⟨gt, cgt, rfl, hge, hlt, _⟩ := Kd.R_form hR (by simp [HTL.out]; omega); rw [List.nil_append, HTL.out] at hR ⊢; have HS8 := Aside0.mk HBN.out.size; have m0 := Aside0.mk (below_step HBN.out hb); clear HBN; have HBN := m0; clear m0;have HS2 := Aside0.mk (Kd.R_below HS.out hb); have HTT := Aside0.mk hR; have HGT := Aside0.mk (And.intro hge hlt); clear hb hR hge hlt HS))
  have HNE : Aside0 (gs ≠ gt) := ⟨by have := HGS.out.2; have := HGT.out.1; omega⟩
  (refine (in_any wN.heap.size gl gs gt cs cgt h n H1.out.1 H1.out.2 HH.out hth Y T hw hv (fun _ => True) (fun _ => True) HNE.out _ (LapQ.below HL.out HBN.out) (Kd.R_lower HS2.out HS7.out) (Kd.R_lower HTT.out HS8.out)).mono ?_); rintro e w10 ⟨rfl, hs, ht, hb, hk⟩; have m0 := Aside0.mk (HBN.out.trans hb); clear HBN; have HBN := m0; clear m0; have HS3 := Aside0.mk hs; have HT3 := Aside0.mk ht; clear hs ht hb hk HS2 HTT
  go_wp2_with fail
  (refine (ref_any n hth A5 A6 c5 c6 hc5 hc6 Y T HYL.out HTL.out hw hv _ (Kd.C_below HA.out HBN.out) (Kd.C_below HB6.out HBN.out)).mono ?_); rintro e w11 ⟨A9, c9, A10, c10, rfl, hc9, hc10, hx, hy, hb⟩; have m0 := Aside0.mk (below_step HBN.out hb); clear HBN; have HBN := m0; clear m0;have m0 := Aside0.mk (Kd.R_below HS3.out hb); clear HS3; have HS3 := m0; clear m0; have m0 := Aside0.mk (Kd.R_below HT3.out hb); clear HT3; have HT3 := m0; clear m0;have HX := Aside0.mk hx; have HZ := Aside0.mk hy; clear hb hx hy
  go_wp2_with fail
  (refine (same_any n (by omega) A7 c7 hc7 A9 c9 hc9 _ (map_len _ n) (ov_all Y T n) _ (Kd.C_below HP.out HBN.out) HX.out).mono ?_); rintro e w12 ⟨rfl, hb⟩; have m0 := Aside0.mk (below_step HBN.out hb); clear HBN; have HBN := m0; clear m0;have m0 := Aside0.mk (Kd.R_below HS3.out hb); clear HS3; have HS3 := m0; clear m0; have m0 := Aside0.mk (Kd.R_below HT3.out hb); clear HT3; have HT3 := m0; clear m0;have m0 := Aside0.mk (Kd.C_below HX.out hb); clear HX; have HX := m0; clear m0; have m0 := Aside0.mk (Kd.C_below HZ.out hb); clear HZ; have HZ := m0; clear m0;clear hb
  go_wp2_with fail
  (refine (same_any n (by omega) A8 c8 hc8 A10 c10 hc10 _ (map_len _ n) (bv_all Y n) _ (Kd.C_below HQ.out HBN.out) HZ.out).mono ?_); rintro e w13 ⟨rfl, hb⟩; have m0 := Aside0.mk (below_step HBN.out hb); clear HBN; have HBN := m0; clear m0;have m0 := Aside0.mk (Kd.R_below HS3.out hb); clear HS3; have HS3 := m0; clear m0; have m0 := Aside0.mk (Kd.R_below HT3.out hb); clear HT3; have HT3 := m0; clear m0;have m0 := Aside0.mk (Kd.C_below HX.out hb); clear HX; have HX := m0; clear m0; have m0 := Aside0.mk (Kd.C_below HZ.out hb); clear HZ; have HZ := m0; clear m0;clear hb
  go_wp2_with fail
  (refine (same_any n (by omega) _ cs (row_reads HS3.out).1 A9 c9 hc9 _ (map_len _ n) (ov_all Y T n) _ (row_reads HS3.out).2 HX.out).mono ?_); rintro e w14 ⟨rfl, hb⟩; have m0 := Aside0.mk (below_step HBN.out hb); clear HBN; have HBN := m0; clear m0;have m0 := Aside0.mk (Kd.R_below HS3.out hb); clear HS3; have HS3 := m0; clear m0; have m0 := Aside0.mk (Kd.R_below HT3.out hb); clear HT3; have HT3 := m0; clear m0;have m0 := Aside0.mk (Kd.C_below HX.out hb); clear HX; have HX := m0; clear m0; have m0 := Aside0.mk (Kd.C_below HZ.out hb); clear HZ; have HZ := m0; clear m0;clear hb
  go_wp2_with fail
  (refine (same_any n (by omega) _ cgt (row_reads HT3.out).1 A10 c10 hc10 _ (map_len _ n) (bv_all Y n) _ (row_reads HT3.out).2 HZ.out).mono ?_); rintro e w15 ⟨rfl, hb⟩; have m0 := Aside0.mk (below_step HBN.out hb); clear HBN; have HBN := m0; clear m0;have m0 := Aside0.mk (Kd.R_below HS3.out hb); clear HS3; have HS3 := m0; clear m0; have m0 := Aside0.mk (Kd.R_below HT3.out hb); clear HT3; have HT3 := m0; clear m0;clear hb
  go_wp2
  go_ret
  exact ⟨rfl, HB.out.trans (HBN.out.mono HB.out.size)⟩
set_option maxHeartbeats 8000000 in
set_option maxRecDepth 100000 in
theorem tells_none (n k : Nat) (hth : ¬ Th n) (hn40 : n ≤ 40) (hk40 : k ≤ 40) (Ay At : Option Addr) (cy ct : Nat) (hcy : n ≤ cy) (hct : k  ≤ ct) (Y T : List Int) (hyl : Y.length = n) (htl : T.length = k ) (hw : ∀ x ∈ Y, I32 x) (hv : ∀ x ∈ T, I32 x) (w : World) (hY : C32 w Ay n Y) (hT : C32 w At k  T) :
    Calls Try.prog 5 #[.slice Ay n cy, .slice At k  ct] w fun e w' => e = .returned (.bool true) ∧ Below w.heap.size w w' := by
  have hd : decide (n = 8 ∨ n = 16 ∨ n = 32) = false := decide_eq_false hth
  have HB := Aside0.mk (Below.refl w.heap.size w)
  have HY := Aside0.mk hY
  have HT := Aside0.mk hT
  have HYL := Aside0.mk hyl
  have HTL := Aside0.mk htl
  clear hY hT hyl htl
  go_enter Try.func5, Try.ntmps5
  go_wp2_with fail
  (refine (awake_any _).mono ?_); rintro e w1 ⟨rfl, hb⟩; have m0 := Aside0.mk (below_step HB.out hb); clear HB; have HB := m0; clear m0;have m0 := Aside0.mk (Kd.C_below HY.out hb); clear HY; have HY := m0; clear m0; have m0 := Aside0.mk (Kd.C_below HT.out hb); clear HT; have HT := m0; clear m0;clear hb
  go_wp2_with fail
  (refine (wide_any n (by omega) Ay cy hcy Y HYL.out hw _ HY.out).mono ?_); rintro e w2 ⟨A5, c5, rfl, ha, hc5, hb⟩; have m0 := Aside0.mk (below_step HB.out hb); clear HB; have HB := m0; clear m0;have m0 := Aside0.mk (Kd.C_below HY.out hb); clear HY; have HY := m0; clear m0; have m0 := Aside0.mk (Kd.C_below HT.out hb); clear HT; have HT := m0; clear m0;have HA := Aside0.mk ha; clear hb ha
  go_wp2_with fail
  (refine (wide_any k (by omega) At ct hct T HTL.out hv _ HT.out).mono ?_); rintro e w3 ⟨A6, c6, rfl, ha, hc6, hb⟩; have m0 := Aside0.mk (below_step HB.out hb); clear HB; have HB := m0; clear m0;have m0 := Aside0.mk (Kd.C_below HY.out hb); clear HY; have HY := m0; clear m0; have m0 := Aside0.mk (Kd.C_below HT.out hb); clear HT; have HT := m0; clear m0; have m0 := Aside0.mk (Kd.C_below HA.out hb); clear HA; have HA := m0; clear m0;have HB6 := Aside0.mk ha; clear hb ha
  go_wp2_with fail
  (refine (plain_none n k (.inl hth) Ay At cy ct hcy hct Y T HYL.out HTL.out _ HY.out HT.out).mono ?_); rintro e w4 ⟨A7, c7, A8, c8, rfl, hb⟩; have m0 := Aside0.mk (below_step HB.out hb); clear HB; have HB := m0; clear m0;have m0 := Aside0.mk (Kd.C_below HY.out hb); clear HY; have HY := m0; clear m0; have m0 := Aside0.mk (Kd.C_below HT.out hb); clear HT; have HT := m0; clear m0; have m0 := Aside0.mk (Kd.C_below HA.out hb); clear HA; have HA := m0; clear m0; have m0 := Aside0.mk (Kd.C_below HB6.out hb); clear HB6; have HB6 := m0; clear m0;clear hb
  go_wp2_with fail
  (refine (same_any n (by omega) Ay cy hcy A5 c5 hc5 Y HYL.out hw _ HY.out HA.out).mono ?_); rintro e w5 ⟨rfl, hb⟩; have m0 := Aside0.mk (below_step HB.out hb); clear HB; have HB := m0; clear m0;have m0 := Aside0.mk (Kd.C_below HY.out hb); clear HY; have HY := m0; clear m0; have m0 := Aside0.mk (Kd.C_below HT.out hb); clear HT; have HT := m0; clear m0; have m0 := Aside0.mk (Kd.C_below HA.out hb); clear HA; have HA := m0; clear m0; have m0 := Aside0.mk (Kd.C_below HB6.out hb); clear HB6; have HB6 := m0; clear m0;clear hb
  go_wp2_with fail
  (refine (same_any k (by omega) At ct hct A6 c6 hc6 T HTL.out hv _ HT.out HB6.out).mono ?_); rintro e w6 ⟨rfl, hb⟩; have m0 := Aside0.mk (below_step HB.out hb); clear HB; have HB := m0; clear m0;have m0 := Aside0.mk (Kd.C_below HY.out hb); clear HY; have HY := m0; clear m0; have m0 := Aside0.mk (Kd.C_below HT.out hb); clear HT; have HT := m0; clear m0; have m0 := Aside0.mk (Kd.C_below HA.out hb); clear HA; have HA := m0; clear m0; have m0 := Aside0.mk (Kd.C_below HB6.out hb); clear HB6; have HB6 := m0; clear m0;clear hb
  go_wp2_with fail
  (refine (new_no n hth _).mono ?_); rintro e w7 ⟨rfl, hb⟩; have m0 := Aside0.mk (below_step HB.out hb); clear HB; have HB := m0; clear m0;clear hb
  go_wp2_with fail
  (refine (there_any n _).mono ?_); rintro e w8 ⟨rfl, hb⟩; have m0 := Aside0.mk (below_step HB.out hb); clear HB; have HB := m0; clear m0;clear hb; rw [hd]
  go_wp2
  go_ret
  exact ⟨rfl, HB.out⟩
set_option maxHeartbeats 8000000 in
set_option maxRecDepth 100000 in
theorem tells_other (n k : Nat) (hth : Th n) (hk40 : k ≤ 40) (hkn : k ≠ n) (Ay At : Option Addr) (cy ct : Nat) (hcy : n ≤ cy) (hct : k  ≤ ct) (Y T : List Int) (hyl : Y.length = n) (htl : T.length = k ) (hw : ∀ x ∈ Y, I32 x) (hv : ∀ x ∈ T, I32 x) (w : World) (hY : C32 w Ay n Y) (hT : C32 w At k  T) :
    Calls Try.prog 5 #[.slice Ay n cy, .slice At k  ct] w fun e w' => e = .returned (.bool true) ∧ Below w.heap.size w w' := by
  have hn8 : 8 ≤ n := by unfold Th at hth; omega
  have hn32 : n ≤ 32 := by unfold Th at hth; omega
  have hd : decide (n = 8 ∨ n = 16 ∨ n = 32) = true := decide_eq_true hth
  have HKN := Aside0.mk hkn
  have kn : ((k : Int) != (n : Int)) = true := by rw [bne_iff_ne]; omega
  have nn : ((n : Int) != (n : Int)) = false := by simp
  have HNN := Aside0.mk nn
  clear nn hkn
  have HB := Aside0.mk (Below.refl w.heap.size w)
  have HY := Aside0.mk hY
  have HT := Aside0.mk hT
  have HYL := Aside0.mk hyl
  have HTL := Aside0.mk htl
  clear hY hT hyl htl
  go_enter Try.func5, Try.ntmps5
  go_wp2_with fail
  (refine (awake_any _).mono ?_); rintro e w1 ⟨rfl, hb⟩; have m0 := Aside0.mk (below_step HB.out hb); clear HB; have HB := m0; clear m0;have m0 := Aside0.mk (Kd.C_below HY.out hb); clear HY; have HY := m0; clear m0; have m0 := Aside0.mk (Kd.C_below HT.out hb); clear HT; have HT := m0; clear m0;clear hb
  go_wp2_with fail
  (refine (wide_any n (by omega) Ay cy hcy Y HYL.out hw _ HY.out).mono ?_); rintro e w2 ⟨A5, c5, rfl, ha, hc5, hb⟩; have m0 := Aside0.mk (below_step HB.out hb); clear HB; have HB := m0; clear m0;have m0 := Aside0.mk (Kd.C_below HY.out hb); clear HY; have HY := m0; clear m0; have m0 := Aside0.mk (Kd.C_below HT.out hb); clear HT; have HT := m0; clear m0;have HA := Aside0.mk ha; clear hb ha
  go_wp2_with fail
  (refine (wide_any k (by omega) At ct hct T HTL.out hv _ HT.out).mono ?_); rintro e w3 ⟨A6, c6, rfl, ha, hc6, hb⟩; have m0 := Aside0.mk (below_step HB.out hb); clear HB; have HB := m0; clear m0;have m0 := Aside0.mk (Kd.C_below HY.out hb); clear HY; have HY := m0; clear m0; have m0 := Aside0.mk (Kd.C_below HT.out hb); clear HT; have HT := m0; clear m0; have m0 := Aside0.mk (Kd.C_below HA.out hb); clear HA; have HA := m0; clear m0;have HB6 := Aside0.mk ha; clear hb ha
  go_wp2_with fail
  (refine (plain_none n k (.inr HKN.out) Ay At cy ct hcy hct Y T HYL.out HTL.out _ HY.out HT.out).mono ?_); rintro e w4 ⟨A7, c7, A8, c8, rfl, hb⟩; have m0 := Aside0.mk (below_step HB.out hb); clear HB; have HB := m0; clear m0;have m0 := Aside0.mk (Kd.C_below HY.out hb); clear HY; have HY := m0; clear m0; have m0 := Aside0.mk (Kd.C_below HT.out hb); clear HT; have HT := m0; clear m0; have m0 := Aside0.mk (Kd.C_below HA.out hb); clear HA; have HA := m0; clear m0; have m0 := Aside0.mk (Kd.C_below HB6.out hb); clear HB6; have HB6 := m0; clear m0;clear hb
  go_wp2_with fail
  (refine (same_any n (by omega) Ay cy hcy A5 c5 hc5 Y HYL.out hw _ HY.out HA.out).mono ?_); rintro e w5 ⟨rfl, hb⟩; have m0 := Aside0.mk (below_step HB.out hb); clear HB; have HB := m0; clear m0;have m0 := Aside0.mk (Kd.C_below HY.out hb); clear HY; have HY := m0; clear m0; have m0 := Aside0.mk (Kd.C_below HT.out hb); clear HT; have HT := m0; clear m0; have m0 := Aside0.mk (Kd.C_below HA.out hb); clear HA; have HA := m0; clear m0; have m0 := Aside0.mk (Kd.C_below HB6.out hb); clear HB6; have HB6 := m0; clear m0;clear hb
  go_wp2_with fail
  (refine (same_any k (by omega) At ct hct A6 c6 hc6 T HTL.out hv _ HT.out HB6.out).mono ?_); rintro e w6 ⟨rfl, hb⟩; have m0 := Aside0.mk (below_step HB.out hb); clear HB; have HB := m0; clear m0;have m0 := Aside0.mk (Kd.C_below HY.out hb); clear HY; have HY := m0; clear m0; have m0 := Aside0.mk (Kd.C_below HT.out hb); clear HT; have HT := m0; clear m0; have m0 := Aside0.mk (Kd.C_below HA.out hb); clear HA; have HA := m0; clear m0; have m0 := Aside0.mk (Kd.C_below HB6.out hb); clear HB6; have HB6 := m0; clear m0;clear hb
  go_wp2_with fail
  (refine (new_ok n hth _).mono ?_); rintro e wN ⟨gl, rfl, hl, hb⟩; have m0 := Aside0.mk (below_step HB.out hb); clear HB; have HB := m0; clear m0;have m0 := Aside0.mk (Kd.C_below HY.out hb); clear HY; have HY := m0; clear m0; have m0 := Aside0.mk (Kd.C_below HT.out hb); clear HT; have HT := m0; clear m0; have m0 := Aside0.mk (Kd.C_below HA.out hb); clear HA; have HA := m0; clear m0; have m0 := Aside0.mk (Kd.C_below HB6.out hb); clear HB6; have HB6 := m0; clear m0;have HL := Aside0.mk (LapQ.of hl); have HBN := Aside0.mk (Below.refl wN.heap.size wN); clear hb hl
  go_wp2_with fail
  (refine (there_any n _).mono ?_); rintro e w7 ⟨rfl, hb⟩; have m0 := Aside0.mk (below_step HBN.out hb); clear HBN; have HBN := m0; clear m0;clear hb; rw [hd]
  go_wp2_with (first
    | ((with_reducible refine gate_builtin (b := .append) (xs := #[.tmp 78, .tmp 79]) rfl ?_); at_builtin; refine Kd.R_append_row (Value.int .i32) (0 : Int) (h1 := fun _ => rfl) (w0 := w7) w7.heap.size rfl (.tmp 78) (.tmp 79) 30 21 (.int .i32 0) 4 rfl Try.underlying30 info21' rfl (by decide) (.slice (some ⟨w7.heap.size, 0, none⟩) 0 0) [] Y Ay n cy (fun _ => True) rfl rfl (fun _ _ => trivial) ((Kd.R_of_own (own_lit w7 w7.heap.size 21 .i32 [] (Nat.le_refl _) (by decide)) (fun _ _ => trivial))) (Kd.C_below (Kd.C_below HY.out HBN.out) (below_alloc (Below.refl _ _) _)) (below_alloc (Below.refl _ _) _) (by simp) (by simp [HYL.out]; omega) ?_; intro v1 w8 hR hb hg hat; clear hg hat; obtain ⟨As, cs, rfl⟩ := Kd.R_slice hR; rw [List.nil_append, HYL.out] at hR ⊢; have m0 := Aside0.mk (below_step HBN.out hb); clear HBN; have HBN := m0; clear m0;have HS := Aside0.mk hR; clear hb hR)
    | ((with_reducible refine gate_builtin (b := .append) (xs := #[.tmp 81, .tmp 82]) rfl ?_); at_builtin; refine Kd.R_append_row (Value.int .i32) (0 : Int) (h1 := fun _ => rfl) (w0 := w8) w8.heap.size rfl (.tmp 81) (.tmp 82) 30 21 (.int .i32 0) 4 rfl Try.underlying30 info21' rfl (by decide) (.slice (some ⟨w8.heap.size, 0, none⟩) 0 0) [] T At k ct (fun _ => True) rfl rfl (fun _ _ => trivial) ((Kd.R_of_own (own_lit w8 w8.heap.size 21 .i32 [] (Nat.le_refl _) (by decide)) (fun _ _ => trivial))) (Kd.C_below (Kd.C_below HT.out HBN.out) (below_alloc (Below.refl _ _) _)) (below_alloc (Below.refl _ _) _) (by simp) (by simp [HTL.out]; omega) ?_; intro v1 w9 hR hb hg hat; clear hg hat; obtain ⟨At2, cgt, rfl⟩ := Kd.R_slice hR; rw [List.nil_append, HTL.out] at hR ⊢; have m0 := Aside0.mk (below_step HBN.out hb); clear HBN; have HBN := m0; clear m0;have HS3 := Aside0.mk (Kd.R_below HS.out hb); have HT3 := Aside0.mk hR; clear hb hR HS))
  (refine (in_no wN.heap.size gl n n k cs cgt As At2 HNN.out kn _ (LapQ.below HL.out HBN.out)).mono ?_); rintro e w10 ⟨rfl, rfl⟩
  go_wp2_with fail
  (refine (same_any n (by omega) As cs (row_reads HS3.out).1 A5 c5 hc5 Y HYL.out hw _ (row_reads HS3.out).2 (Kd.C_below HA.out HBN.out)).mono ?_); rintro e w12 ⟨rfl, hb⟩; have m0 := Aside0.mk (below_step HBN.out hb); clear HBN; have HBN := m0; clear m0;have m0 := Aside0.mk (Kd.R_below HS3.out hb); clear HS3; have HS3 := m0; clear m0; have m0 := Aside0.mk (Kd.R_below HT3.out hb); clear HT3; have HT3 := m0; clear m0;clear hb
  go_wp2_with fail
  (refine (same_any k (by omega) At2 cgt (row_reads HT3.out).1 A6 c6 hc6 T HTL.out hv _ (row_reads HT3.out).2 (Kd.C_below HB6.out HBN.out)).mono ?_); rintro e w13 ⟨rfl, hb⟩; have m0 := Aside0.mk (below_step HBN.out hb); clear HBN; have HBN := m0; clear m0;clear hb
  go_wp2
  go_ret
  exact ⟨rfl, HB.out.trans (HBN.out.mono HB.out.size)⟩
set_option maxHeartbeats 1000000 in
theorem tells_long1 (n k cy ct : Nat) (Ay At : Option Addr) (d1 : decide ((40 : Int) < (n : Int)) = true) (w : World) : Calls Try.prog 5 #[.slice Ay n cy, .slice At k ct] w fun e w' => e = .returned (.bool true) ∧ Below w.heap.size w w' := by
  have HB := Aside0.mk (Below.refl w.heap.size w)
  go_enter Try.func5, Try.ntmps5
  go_wp2_with fail
  (refine (awake_any _).mono ?_); rintro e w1 ⟨rfl, hb⟩; have m0 := Aside0.mk (below_step HB.out hb); clear HB; have HB := m0; clear m0;clear hb
  go_wp2
  go_ret
  exact ⟨rfl, HB.out⟩
set_option maxHeartbeats 1000000 in
theorem tells_long2 (n k cy ct : Nat) (Ay At : Option Addr) (d1 : decide ((40 : Int) < (n : Int)) = false) (d2 : decide ((40 : Int) < (k : Int)) = true) (w : World) : Calls Try.prog 5 #[.slice Ay n cy, .slice At k ct] w fun e w' => e = .returned (.bool true) ∧ Below w.heap.size w w' := by
  have HB := Aside0.mk (Below.refl w.heap.size w)
  go_enter Try.func5, Try.ntmps5
  go_wp2_with fail
  (refine (awake_any _).mono ?_); rintro e w1 ⟨rfl, hb⟩; have m0 := Aside0.mk (below_step HB.out hb); clear HB; have HB := m0; clear m0;clear hb
  go_wp2
  go_ret
  exact ⟨rfl, HB.out⟩
/-- The law, for whatever two slices came in. -/
theorem tells_row (a0 : Option Addr) (len0 cap0 : Nat) (z0 : List Int) (a1 : Option Addr) (len1 cap1 : Nat) (z1 : List Int) (w : World)
    (w0 : (a0 = none ∧ len0 = 0 ∧ cap0 = 0 ∧ z0 = []) ∨ ∃ x, a0 = some x ∧ len0 ≤ cap0 ∧ cap0 ≤ maxLen ∧ z0.length = cap0 ∧ (∀ i, i < z0.length → w.cell? (x.add i) = some (.int .i32 (z0.getD i 0))) ∧ ∀ n ∈ z0, (Lit.int .i32 n).wf = true)
    (w1 : (a1 = none ∧ len1 = 0 ∧ cap1 = 0 ∧ z1 = []) ∨ ∃ x, a1 = some x ∧ len1 ≤ cap1 ∧ cap1 ≤ maxLen ∧ z1.length = cap1 ∧ (∀ i, i < z1.length → w.cell? (x.add i) = some (.int .i32 (z1.getD i 0))) ∧ ∀ n ∈ z1, (Lit.int .i32 n).wf = true) :
    Calls Try.prog 5 #[.slice a0 len0 cap0, .slice a1 len1 cap1] w fun e w' => e = .returned (.bool true) ∧ Below w.heap.size w w' := by
  obtain ⟨l0, rfl, hr0, hm0, hw0, hc0⟩ := ReadsInt.ofRowC w0
  obtain ⟨l1, rfl, hr1, hm1, hw1, hc1⟩ := ReadsInt.ofRowC w1
  have C0 : C32 w a0 l0.length l0 := Kd.C_of_reads (d := (0 : Int)) (h1 := fun _ => rfl) hr0
  have C1 : C32 w a1 l1.length l1 := Kd.C_of_reads (d := (0 : Int)) (h1 := fun _ => rfl) hr1
  have i0 : ∀ x ∈ l0, I32 x := fun x hx => Math.wf_i32 (hw0 x hx)
  have i1 : ∀ x ∈ l1, I32 x := fun x hx => Math.wf_i32 (hw1 x hx)
  by_cases h0 : l0.length ≤ 40
  · by_cases h1 : l1.length ≤ 40
    · by_cases hth : Th l0.length
      · by_cases he : l1.length = l0.length
        · have h := tells_ok l0.length hth a0 a1 cap0 cap1 hc0 (by omega) l0 l1 rfl he i0 i1 w C0 (by rw [← he]; exact C1)
          rw [he]
          exact h
        · exact tells_other l0.length l1.length hth h1 he a0 a1 cap0 cap1 hc0 hc1 l0 l1 rfl rfl i0 i1 w C0 C1
      · exact tells_none l0.length l1.length hth h0 h1 a0 a1 cap0 cap1 hc0 hc1 l0 l1 rfl rfl i0 i1 w C0 C1
    · exact tells_long2 _ _ _ _ _ _ (decide_eq_false (by omega)) (decide_eq_true (by omega)) w
  · exact tells_long1 _ _ _ _ _ _ (decide_eq_true (by omega)) w
end Go.Proofs.Ytkbcolikbaaejaa.LapTells
