import Derived.Test.YtgjanpbpggblmaaDoorSpreadCopy
import Derived.Test.YtgjanpbpggblmaaDoorSpreadPlain
namespace Go.Proofs.YtgjanpbpggblmaaDoor.Spread
open Go.RowKit Go.Proofs.YtgjanpbpggblmaaDoorW.PrintWords Go.Proofs.YtgjanpbpggblmaaDoorW.PrintLast Go.Proofs.YtgjanpbpggblmaaDoorW.PrintMore
open Go.Proofs.YtgjanpbpggblmaaDoor.SpreadPlain (I32)
set_option linter.unusedVariables false
set_option linter.unusedSimpArgs false
/-- Copy, told by what is read. -/
theorem copy_read (a : Int) (l : List Int) (n : Nat) (hn : l.length = n) (hl : n ≤ 1000) (A : Option Addr) (c : Nat) (w : World) (hC : Kd.C (Kd.int .i32) w A n l) (hc : n ≤ c) (hL : Laid w) :
    Calls Tryd.prog 10 #[.slice A n c, .int .i64 a] w fun e w' => ∃ A' c', e = .returned (.slice A' n c') ∧ Kd.C (Kd.int .i32) w' A' n (sp a l) ∧ n ≤ c' ∧ Below w.heap.size w w' := by
  subst hn
  refine (copy_any a l A c w hC hc hl hL).mono ?_
  rintro e w' ⟨v, rfl, hR, hb⟩
  obtain ⟨A', c', rfl⟩ := Kd.R_slice hR
  have h := Kd.R_reads' hR
  rw [sp_len] at h ⊢
  exact ⟨A', c', rfl, h.2.2, h.2.1, hb⟩
/-- A list, as a wide one. -/
theorem wide_own (l : List Int) (n : Nat) (hn : l.length = n) (hl : n ≤ 1000) (hw : ∀ x ∈ l, I32 x) (A : Option Addr) (c : Nat) (w : World) (hC : Kd.C (Kd.int .i32) w A n l) (hc : n ≤ c) :
    Calls Tryd.prog 8 #[.slice A n c] w fun e w' => ∃ A' c', e = .returned (.slice A' n c') ∧ Kd.R (Kd.int .i64) 2 w' w.heap.size (fun _ => True) (.slice A' n c') l ∧ Kd.C (Kd.int .i64) w' A' n l ∧ n ≤ c' ∧ Below w.heap.size w w' := by
  subst hn
  refine (PSpreadTells.spinetlaw18_Wide.calls (l.length + 1) A c l l w hC hc (SpreadPlain.wide_is l (by omega) hw _ (by omega))).mono ?_
  rintro e w' ⟨v, rfl, hR, hb⟩
  obtain ⟨A', c', rfl⟩ := Kd.R_slice hR
  have h := Kd.R_reads' hR
  exact ⟨A', c', rfl, hR, h.2.2, h.2.1, hb⟩
/-- A list is the same as itself. -/
theorem same_read (l : List Int) (n : Nat) (hn : l.length = n) (hl : n ≤ 1000) (hw : ∀ x ∈ l, I32 x) (A A' : Option Addr) (c c' : Nat) (w : World) (hC : Kd.C (Kd.int .i32) w A n l) (hc : n ≤ c) (hC' : Kd.C (Kd.int .i64) w A' n l) (hc' : n ≤ c') :
    Calls Tryd.prog 11 #[.slice A n c, .slice A' n c'] w fun e w' => e = .returned (.bool true) ∧ Below w.heap.size w w' := by
  subst hn
  exact (PSpreadTells.spinetlaw18_Same.calls (l.length + 1) A c l A' c' l true w hC hc hC' hc' (SpreadPlain.same18_is l (by omega) hw _ (by omega))).mono fun e w' h => ⟨h.1, h.2.below⟩
/-- The document's answer. -/
theorem ref_read (a : Int) (l : List Int) (n : Nat) (hn : l.length = n) (hl : n ≤ 200) (hw : ∀ x ∈ l, I32 x) (A : Option Addr) (c : Nat) (w : World) (base : Nat) (hR : Kd.R (Kd.int .i64) 2 w base (fun _ => True) (.slice A n c) l) :
    Calls Tryd.prog 9 #[.slice A n c, .int .i64 a] w fun e w' => ∃ A' c', e = .returned (.slice A' n c') ∧ Kd.C (Kd.int .i64) w' A' n (sp a l) ∧ n ≤ c' ∧ Below w.heap.size w w' := by
  subst hn
  refine (PSpreadTells.spinetref18_Spread.calls 1000 (fun _ => True) A c l a (sp a l) w (Kd.R_V hR) (SpreadPlain.spread_ref a l hl hw)).mono ?_
  rintro e w' ⟨v, rfl, hV, hb⟩
  obtain ⟨A', c', rfl⟩ := Kd.V_slice hV
  have h := Kd.V_reads' hV
  rw [sp_len] at h ⊢
  exact ⟨A', c', rfl, h.2.2, h.2.1, hb⟩
theorem ref_angle (a : Int) (w : World) : Calls Tryd.prog 14 #[.int .i64 a] w fun e w' => e = .returned (.tuple #[.int .i64 (co a), .int .i64 (si a)]) ∧ Below w.heap.size w w' :=
  (PSpreadTells.spinetref18_Angle.calls a (co a) (si a) w (SpreadPlain.angle_ref a)).mono fun e w' h => ⟨h.1, h.2.below⟩
theorem in_slice (a : Int) (l : List Int) (n : Nat) (hn : l.length = n) (hl : n ≤ 1000) (A : Option Addr) (c : Nat) (w0 w : World) (hB : Below w0.heap.size w0 w) (hR : Kd.R (Kd.int .i32) 21 w w0.heap.size (fun _ => True) (.slice A n c) l) (hL : Laid w0) :
    Calls Tryd.prog 12 #[.slice A n c, .int .i64 a] w fun e w' => e = .returned (.tuple #[]) ∧ Kd.C (Kd.int .i32) w' A n (sp a l) ∧ n ≤ c ∧ Below w0.heap.size w0 w' := by
  refine (in_any a l _ w0 w (by omega) hB (Kd.R_reok rfl hR (fun k hk => hk.symm)) hL).mono ?_
  rintro e w' ⟨rfl, hR2, hB2, _⟩
  have h := Kd.R_reads' hR2
  rw [sp_len, hn] at h
  exact ⟨rfl, h.2.2, h.2.1, hB2⟩
theorem nil_own (w : World) : Kd.R (Kd.int .i32) 21 (w.alloc (Obj.cells #[] 21)) w.heap.size (fun _ => True) (.slice (some ⟨w.heap.size, 0, none⟩) 0 0) [] :=
  Kd.R_of_own (h1 := fun _ => rfl) (own_lit w w.heap.size 21 .i32 [] (Nat.le_refl _) (by decide)) (fun _ _ => trivial)
theorem own_form {w : World} {base n : Nat} {ok : Nat → Prop} {v : Value} {l : List Int} (h : Kd.R (Kd.int .i32) 21 w base ok v l) (hn : l.length = n) : ∃ A c, v = .slice A n c := by
  obtain ⟨A, c, e⟩ := Kd.R_slice h
  exact ⟨A, c, by rw [← hn]; exact e⟩
set_option maxHeartbeats 2000000 in
set_option maxRecDepth 100000 in
theorem awake_any (w : World) (hL : Laid w) : Calls Tryd.prog 7 #[] w fun e w' => e = .returned (.bool true) ∧ Below w.heap.size w w' := by
  have HB := Aside0.mk (Below.refl w.heap.size w)
  have HL := Aside0.mk hL
  clear hL
  have HO : Aside0 (Kd.C (Kd.int .i32) (w.alloc (Obj.cells #[.int .i32 1024, .int .i32 0] 21)) (some ⟨w.heap.size, 0, none⟩) 2 [1024, 0]) :=
    ⟨(Kd.R_reads' (Kd.R_of_own (ok := fun _ => True) (h1 := fun _ => rfl) (own_lit w w.heap.size 21 .i32 [1024, 0] (Nat.le_refl _) (by decide)) (fun _ _ => trivial))).2.2⟩
  go_enter Tryd.func7, Tryd.ntmps7
  go_wp2_with (first | (go_at_call 10; (with_reducible refine (copy_read 2 [1024, 0] 2 rfl (by decide) _ 2 _ HO.out (by decide) (HL.out.below (below_alloc (Below.refl _ _) _))).mono ?_); rintro e w1 ⟨A, c, rfl, hC, hc, hb⟩; have n0 := Aside0.mk (below_step (below_alloc HB.out _) hb); clear HB hb; have HB := n0; clear n0; obtain ⟨ad, rfl, h0⟩ := Kd.at_int hC 0 (by decide) (by decide); obtain ⟨ad1, e1, h1⟩ := Kd.at_int hC 1 (by decide) (by decide); cases e1; rw [show rd (sp 2 [1024, 0]) 0 = 946 by decide +kernel] at h0; rw [show rd (sp 2 [1024, 0]) 1 = 392 by decide +kernel] at h1; (have h0s : w1.cell? ad = some (.int .i32 946) := by simpa [Addr.add] using h0); (have h1s : w1.cell? ⟨ad.block, ad.off + 1, none⟩ = some (.int .i32 392) := by simpa [Addr.add] using h1); clear hC h0 h1))
  go_ret
  exact ⟨rfl, HB.out⟩
set_option maxHeartbeats 4000000 in
set_option maxRecDepth 100000 in
theorem tells_at (a : Int) (l m : List Int) (n : Nat) (hm : sp a l = m) (hn : l.length = n) (hl : n ≤ 200) (hw : ∀ x ∈ l, I32 x) (A0 : Option Addr) (c0 : Nat) (w : World) (hC : Kd.C (Kd.int .i32) w A0 n l) (hc : n ≤ c0) (hL : Laid w) :
    Calls Tryd.prog 3 #[.slice A0 n c0, .int .i64 a] w fun e w' => e = .returned (.bool true) ∧ Below w.heap.size w w' := by
  have HB := Aside0.mk (Below.refl w.heap.size w)
  have hwm : ∀ x ∈ m, I32 x := hm ▸ SpreadPlain.sp_in a l hw
  have hnm : m.length = n := by rw [← hm, sp_len, hn]
  have HM := Aside0.mk hm
  have HN := Aside0.mk hn
  have HNM := Aside0.mk hnm
  have HW := Aside0.mk hw
  have HWM := Aside0.mk hwm
  have HL := Aside0.mk hL
  have HX := Aside0.mk hC
  clear hm hn hw hwm hL hC hnm
  go_enter Tryd.func3, Tryd.ntmps3
  go_wp2_with (first
    | (go_at_call 7; (with_reducible refine (awake_any _ HL.out).mono ?_); rintro e w1 ⟨rfl, hb⟩; have m0 := Aside0.mk (below_step HB.out hb); have m1 := Aside0.mk (HL.out.below hb); have m2 := Aside0.mk (Kd.C_below HX.out hb); clear HB HL HX; have HB := m0; have HL := m1; have HX := m2; clear m0 m1 m2; clear hb)
    | (go_at_call 8; (with_reducible refine (wide_own l n HN.out (by omega) HW.out A0 c0 _ HX.out hc).mono ?_); rintro e w1 ⟨A2, c2, rfl, hR1, hC1, hc2, hb⟩; have k0 := Aside0.mk (Kd.C_below HY.out hb); clear HY; have HY := k0; clear k0; have HR := Aside0.mk hR1; have m0 := Aside0.mk (below_step HB.out hb); have m1 := Aside0.mk (HL.out.below hb); have m2 := Aside0.mk (Kd.C_below HX.out hb); clear HB HL HX; have HB := m0; have HL := m1; have HX := m2; clear m0 m1 m2; clear hb hR1 hC1)
    | (go_at_call 8; (with_reducible refine (wide_own l n HN.out (by omega) HW.out A0 c0 _ HX.out hc).mono ?_); rintro e w1 ⟨A1, c1, rfl, hR1, hC1, hc1, hb⟩; have HY := Aside0.mk hC1; have m0 := Aside0.mk (below_step HB.out hb); have m1 := Aside0.mk (HL.out.below hb); have m2 := Aside0.mk (Kd.C_below HX.out hb); clear HB HL HX; have HB := m0; have HL := m1; have HX := m2; clear m0 m1 m2; clear hb hR1 hC1)
    | (go_at_call 9; (with_reducible refine (ref_read a l n HN.out hl HW.out A2 c2 _ _ HR.out).mono ?_); rintro e w1 ⟨A3, c3, rfl, hC3, hc3, hb⟩; rw [HM.out] at hC3; have HZ := Aside0.mk hC3; have m0 := Aside0.mk (Kd.C_below HY.out hb); clear HY; have HY := m0; clear m0; have m0 := Aside0.mk (below_step HB.out hb); have m1 := Aside0.mk (HL.out.below hb); have m2 := Aside0.mk (Kd.C_below HX.out hb); clear HB HL HX; have HB := m0; have HL := m1; have HX := m2; clear m0 m1 m2; clear hb hC3 HR)
    | (go_at_call 10; (with_reducible refine (copy_read a l n HN.out (by omega) A0 c0 _ HX.out hc HL.out).mono ?_); rintro e w1 ⟨A4, c4, rfl, hC4, hc4, hb⟩; rw [HM.out] at hC4; have HG := Aside0.mk hC4; have m0 := Aside0.mk (Kd.C_below HZ.out hb); clear HZ; have HZ := m0; clear m0; have m0 := Aside0.mk (Kd.C_below HY.out hb); clear HY; have HY := m0; clear m0; have m0 := Aside0.mk (below_step HB.out hb); have m1 := Aside0.mk (HL.out.below hb); have m2 := Aside0.mk (Kd.C_below HX.out hb); clear HB HL HX; have HB := m0; have HL := m1; have HX := m2; clear m0 m1 m2; clear hb hC4)
    | (go_at_call 11; (with_reducible refine (same_read m n HNM.out (by omega) HWM.out A4 A3 c4 c3 _ HG.out hc4 HZ.out hc3).mono ?_); rintro e w1 ⟨rfl, hb⟩; have m0 := Aside0.mk (Kd.C_below HZ.out hb); clear HZ; have HZ := m0; clear m0; have m0 := Aside0.mk (Kd.C_below HY.out hb); clear HY; have HY := m0; clear m0; have m0 := Aside0.mk (below_step HB.out hb); have m1 := Aside0.mk (HL.out.below hb); have m2 := Aside0.mk (Kd.C_below HX.out hb); clear HB HL HX; have HB := m0; have HL := m1; have HX := m2; clear m0 m1 m2; clear hb HG)
    | (go_at_call 11; (with_reducible refine (same_read l n HN.out (by omega) HW.out A0 A1 c0 c1 _ HX.out hc HY.out hc1).mono ?_); rintro e w1 ⟨rfl, hb⟩; have m0 := Aside0.mk (Kd.C_below HZ.out hb); clear HZ; have HZ := m0; clear m0; have m0 := Aside0.mk (below_step HB.out hb); have m1 := Aside0.mk (HL.out.below hb); have m2 := Aside0.mk (Kd.C_below HX.out hb); clear HB HL HX; have HB := m0; have HL := m1; have HX := m2; clear m0 m1 m2; clear hb HY)
    | ((with_reducible refine gate_builtin (b := .append) (xs := #[.tmp 37, .tmp 38]) rfl ?_); at_builtin; refine Kd.R_append_row (Value.int .i32) (0 : Int) (h1 := fun _ => rfl) (w0 := w1) w1.heap.size rfl (.tmp 37) (.tmp 38) 22 21 (.int .i32 0) 4 rfl Tryd.underlying22 info21 rfl (by decide) (.slice (some ⟨w1.heap.size, 0, none⟩) 0 0) [] l A0 n c0 (fun _ => True) rfl rfl (fun _ _ => trivial) (nil_own _) (Kd.C_below HX.out (below_alloc (Below.refl _ _) _)) (below_alloc (Below.refl _ _) _) (by simp) (by simp; omega) ?_; intro v1 w3 hR hb3 hg hat; rw [List.nil_append] at hR; obtain ⟨A5, c5, rfl⟩ := own_form hR HN.out; have HI : Aside0 (Kd.R (Kd.int .i32) 21 w3 w1.heap.size (fun _ => True) (.slice A5 n c5) l) := ⟨hR⟩; have HB3 := Aside0.mk hb3; clear hR hb3 hg hat)
    | (go_at_call 12; (with_reducible refine (in_slice a l n HN.out (by omega) A5 c5 w1 w3 HB3.out HI.out HL.out).mono ?_); rintro e w4 ⟨rfl, hC5, hc5, hb⟩; rw [HM.out] at hC5; have HG := Aside0.mk hC5; have m0 := Aside0.mk (Kd.C_below HZ.out hb); clear HZ; have HZ := m0; clear m0; have m0 := Aside0.mk (below_step HB.out hb); have m1 := Aside0.mk (HL.out.below hb); have m2 := Aside0.mk (Kd.C_below HX.out hb); clear HB HL HX; have HB := m0; have HL := m1; have HX := m2; clear m0 m1 m2; clear hb hC5 HI HB3)
    | (go_at_call 13; (with_reducible refine (angle_any a _ HL.out).mono ?_); rintro e w5 ⟨rfl, hb⟩; have m0 := Aside0.mk (Kd.C_below HZ.out hb); clear HZ; have HZ := m0; clear m0; have m0 := Aside0.mk (Kd.C_below HG.out hb); clear HG; have HG := m0; clear m0; have m0 := Aside0.mk (below_step HB.out hb); have m1 := Aside0.mk (HL.out.below hb); have m2 := Aside0.mk (Kd.C_below HX.out hb); clear HB HL HX; have HB := m0; have HL := m1; have HX := m2; clear m0 m1 m2; clear hb)
    | (go_at_call 14; (with_reducible refine (ref_angle a _).mono ?_); rintro e w5 ⟨rfl, hb⟩; have m0 := Aside0.mk (Kd.C_below HZ.out hb); clear HZ; have HZ := m0; clear m0; have m0 := Aside0.mk (Kd.C_below HG.out hb); clear HG; have HG := m0; clear m0; have m0 := Aside0.mk (below_step HB.out hb); have m1 := Aside0.mk (HL.out.below hb); have m2 := Aside0.mk (Kd.C_below HX.out hb); clear HB HL HX; have HB := m0; have HL := m1; have HX := m2; clear m0 m1 m2; clear hb)
    | (go_at_call 11; (with_reducible refine (same_read m n HNM.out (by omega) HWM.out A5 A3 c5 c3 _ HG.out hc5 HZ.out hc3).mono ?_); rintro e w1 ⟨rfl, hb⟩; have m0 := Aside0.mk (below_step HB.out hb); have m1 := Aside0.mk (HL.out.below hb); have m2 := Aside0.mk (Kd.C_below HX.out hb); clear HB HL HX; have HB := m0; have HL := m1; have HX := m2; clear m0 m1 m2; clear hb))
  go_ret
  exact ⟨congrArg Ending.returned (congrArg Value.bool (by simp)), HB.out⟩
theorem tells (a : Int) (l : List Int) (hw : ∀ x ∈ l, I32 x) (A0 : Option Addr) (c0 : Nat) (w : World) (hC : Kd.C (Kd.int .i32) w A0 l.length l) (hc : l.length ≤ c0) (hL : Laid w) :
    Calls Tryd.prog 3 #[.slice A0 l.length c0, .int .i64 a] w fun e w' => e = .returned (.bool true) ∧ Below w.heap.size w w' := by
  by_cases hl : l.length ≤ 200
  · exact tells_at a l _ _ rfl rfl hl hw A0 c0 w hC hc hL
  · have HB := Aside0.mk (Below.refl w.heap.size w)
    have HL := Aside0.mk hL
    clear hL
    go_enter Tryd.func3, Tryd.ntmps3
    go_wp2_with (first | (go_at_call 7; (with_reducible refine (awake_any _ HL.out).mono ?_); rintro e w1 ⟨rfl, hb⟩; have m0 := Aside0.mk (below_step HB.out hb); clear HB hb; have HB := m0; clear m0))
    go_ret
    exact ⟨rfl, HB.out⟩
end Go.Proofs.YtgjanpbpggblmaaDoor.Spread
