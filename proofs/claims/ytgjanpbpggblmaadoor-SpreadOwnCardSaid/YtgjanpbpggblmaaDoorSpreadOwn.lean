import Derived.Test.YtgjanpbpggblmaaDoorSpreadTells
namespace Go.Proofs.YtgjanpbpggblmaaDoor.Spread
open Go.RowKit Go.Proofs.YtgjanpbpggblmaaDoorW.PrintWords Go.Proofs.YtgjanpbpggblmaaDoorW.PrintLast Go.Proofs.YtgjanpbpggblmaaDoorW.PrintMore
open Go.Proofs.YtgjanpbpggblmaaDoor.SpreadPlain (I32)
set_option linter.unusedVariables false
set_option linter.unusedSimpArgs false
theorem own_lt {w : World} {base : Nat} {v : Value} {l : List Int} (h : Kd.R (Kd.int .i32) 21 w base (fun _ => True) v l) : ∀ k, v.ownBlock = some k → k < w.heap.size := fun k hk => ((Kd.R_bound h).1 k hk).2.2.1
theorem kept_read {w w' wc : World} {base : Nat} {u v : Value} {l : List Int} (h : Kd.R (Kd.int .i32) 21 w wc.heap.size (fun _ => True) v l) (hk : Kept w w' (fun k => some k = u.ownBlock)) (hu : ∀ k, u.ownBlock = some k → k < wc.heap.size) (hb : base ≤ wc.heap.size) : Kd.R (Kd.int .i32) 21 w' base (fun _ => True) v l :=
  Kd.R_lower (Kd.R_mono (Kd.R_kept (Kd.R_bound h) hk (fun k hk hs => by have := hu k hs.symm; have := hk.2.1; omega)) (fun _ _ => trivial)) hb
theorem keep_read {w w' : World} {base g : Nat} {v : Value} {l : List Int} (h : Kd.R (Kd.int .i32) 21 w base (fun _ => True) v l) (hk : KeepBut w w' g none) (hg : g < base) : Kd.R (Kd.int .i32) 21 w' base (fun _ => True) v l :=
  Kd.R_mono (Kd.R_keep (Kd.R_bound h) hk (fun k hk => by have := hk.2.1; omega)) (fun _ _ => trivial)
theorem keep_wide {w w' : World} {base g : Nat} {v : Value} {l : List Int} (h : Kd.R (Kd.int .i64) 2 w base (fun _ => True) v l) (hk : KeepBut w w' g none) (hg : g < base) : Kd.R (Kd.int .i64) 2 w' base (fun _ => True) v l :=
  Kd.R_mono (Kd.R_keep (Kd.R_bound h) hk (fun k hk => by have := hk.2.1; omega)) (fun _ _ => trivial)
theorem read32 {w : World} {base n c : Nat} {A : Option Addr} {l : List Int} (h : Kd.R (Kd.int .i32) 21 w base (fun _ => True) (.slice A n c) l) (hn : l.length = n) : Kd.C (Kd.int .i32) w A n l := by have := (Kd.R_reads' h).2.2; rwa [hn] at this
theorem read64 {w : World} {base n c : Nat} {A : Option Addr} {l : List Int} (h : Kd.R (Kd.int .i64) 2 w base (fun _ => True) (.slice A n c) l) (hn : l.length = n) : Kd.C (Kd.int .i64) w A n l := by have := (Kd.R_reads' h).2.2; rwa [hn] at this
theorem cell_at {w : World} {base g n cap : Nat} {l : List Int} (h : Kd.R (Kd.int .i32) 21 w base (fun _ => True) (.slice (some ⟨g, 0, none⟩) n cap) l) (hn : l.length = n) (k : Nat) (hk : k < n) : w.cell? ⟨g, k, none⟩ = some (.int .i32 (rd l k)) ∧ w.frozen? ⟨g, k, none⟩ = false := by
  subst hn
  have := Kd.R_cell (enc := Value.int .i32) (0 : Int) (h1 := fun _ => rfl) h (k : Int) (by omega) (by omega)
  rw [Int.toNat_natCast] at this
  exact this
/-- Copy, told as the caller's own. -/
theorem copy_own (a : Int) (l : List Int) (n : Nat) (hn : l.length = n) (hl : n ≤ 1000) (A : Option Addr) (c : Nat) (w : World) (hC : Kd.C (Kd.int .i32) w A n l) (hc : n ≤ c) (hL : Laid w) :
    Calls Tryd.prog 10 #[.slice A n c, .int .i64 a] w fun e w' => ∃ A' c', e = .returned (.slice A' n c') ∧ Kd.R (Kd.int .i32) 21 w' w.heap.size (fun _ => True) (.slice A' n c') (sp a l) ∧ Below w.heap.size w w' := by
  subst hn
  refine (copy_any a l A c w hC hc hl hL).mono ?_
  rintro e w' ⟨v, rfl, hR, hb⟩
  obtain ⟨A', c', rfl⟩ := Kd.R_slice hR
  rw [sp_len] at hR ⊢
  exact ⟨A', c', rfl, hR, hb⟩
set_option maxHeartbeats 4000000 in
set_option maxRecDepth 100000 in
theorem own_many (a : Int) (l m q : List Int) (n : Nat) (hn0 : 0 < n) (hm : sp a l = m) (hq : sp a m = q) (hn : l.length = n) (hl : n ≤ 200) (hw : ∀ x ∈ l, I32 x) (A0 : Option Addr) (c0 : Nat) (w : World) (hC : Kd.C (Kd.int .i32) w A0 n l) (hc : n ≤ c0) (hL : Laid w) :
    Calls Tryd.prog 5 #[.slice A0 n c0, .int .i64 a] w fun e w' => e = .returned (.bool true) ∧ Below w.heap.size w w' := by
  have HM := Aside0.mk hm
  have HQ := Aside0.mk hq
  have HN := Aside0.mk hn
  have HNM : Aside0 (m.length = n) := ⟨by rw [← hm, sp_len, hn]⟩
  have HNQ : Aside0 (q.length = n) := ⟨by rw [← hq, sp_len]; exact HNM.out⟩
  have HW := Aside0.mk hw
  have HWM : Aside0 (∀ x ∈ m, I32 x) := ⟨hm ▸ SpreadPlain.sp_in a l hw⟩
  have HWQ : Aside0 (∀ x ∈ q, I32 x) := ⟨hq ▸ SpreadPlain.sp_in a m HWM.out⟩
  have HB := Aside0.mk (Below.refl w.heap.size w)
  have HL := Aside0.mk hL
  have HX := Aside0.mk hC
  have HX0 := HX
  clear hm hq hn hw hL hC
  go_enter Tryd.func5, Tryd.ntmps5
  go_wp2_with (first
    | (go_at_call 7; (with_reducible refine (awake_any _ HL.out).mono ?_); rintro e w1 ⟨rfl, hb⟩; have m0 := Aside0.mk (below_step HB.out hb); have m1 := Aside0.mk (HL.out.below hb); have m2 := Aside0.mk (Kd.C_below HX.out hb); clear HB HL HX; have HB := m0; have HL := m1; have HX := m2; clear m0 m1 m2; clear hb)
    | (go_at_call 10; (with_reducible refine (copy_own a m n HNM.out (by omega) Aa ca _ (read32 (Kd.R_below HA.out HBA.out) HNM.out) (Kd.R_reads' HA.out).2.1 HL.out).mono ?_); rintro e wd ⟨Ac, cc, rfl, hR, hb⟩; have HBC := Aside0.mk (own_lt HBb.out); have HSZ := Aside0.mk HBA.out.size; rw [HQ.out] at hR; have HCc := Aside0.mk hR; have m0 := Aside0.mk (Kd.R_below HBb.out hb); clear HBb; have HBb := m0; clear m0; have m0 := Aside0.mk (below_step HBA.out hb); clear HBA; have HBA := m0; clear m0; have m0 := Aside0.mk (below_step HB.out hb); have m1 := Aside0.mk (HL.out.below hb); have m2 := Aside0.mk (Kd.C_below HX.out hb); clear HB HL HX; have HB := m0; have HL := m1; have HX := m2; clear m0 m1 m2; clear hb hR)
    | (go_at_call 10; (with_reducible refine (copy_own a l n HN.out (by omega) A0 c0 _ HX.out hc HL.out).mono ?_); rintro e wb ⟨Ab, cb, rfl, hR, hb⟩; rw [HM.out] at hR; have HBb := Aside0.mk (Kd.R_lower hR HBA.out.size); have m0 := Aside0.mk (below_step HBA.out hb); clear HBA; have HBA := m0; clear m0; have m0 := Aside0.mk (below_step HB.out hb); have m1 := Aside0.mk (HL.out.below hb); have m2 := Aside0.mk (Kd.C_below HX.out hb); clear HB HL HX; have HB := m0; have HL := m1; have HX := m2; clear m0 m1 m2; clear hb hR)
    | (go_at_call 10; (with_reducible refine (copy_own a l n HN.out (by omega) A0 c0 _ HX.out hc HL.out).mono ?_); rintro e wa ⟨Aa, ca, rfl, hR, hb⟩; rw [HM.out] at hR; have HS1 := Aside0.mk HB.out.size; have HA := Aside0.mk hR; have HBA := Aside0.mk (Below.refl wa.heap.size wa); have m0 := Aside0.mk (below_step HB.out hb); have m1 := Aside0.mk (HL.out.below hb); have m2 := Aside0.mk (Kd.C_below HX.out hb); clear HB HL HX; have HB := m0; have HL := m1; have HX := m2; clear m0 m1 m2; have HLA := HL; have HXA := HX; have HBW := HB; clear hb hR)
    | (go_at_call 12; (with_reducible refine (in_any a m (.slice Ab n cb) wa wd (by have := HNM.out; omega) HBA.out (Kd.R_reok rfl HBb.out (fun k hk => hk.symm)) HLA.out).mono ?_); rintro e we ⟨rfl, hR, hB2, hK⟩; rw [HQ.out] at hR; have m0 := Aside0.mk (kept_read HCc.out hK HBC.out HSZ.out); clear HCc HBb HBA HB HL HX; have HCc := m0; clear m0; have HBb := Aside0.mk (Kd.R_mono hR (ok' := fun _ => True) (fun _ _ => trivial)); have HBA := Aside0.mk hB2; have HB := Aside0.mk (below_step HBW.out hB2); have HL := Aside0.mk (HLA.out.below hB2); have HX := Aside0.mk (Kd.C_below HXA.out hB2); clear hR hB2 hK)
    | (go_at_call 8; (with_reducible refine (wide_own q n HNQ.out (by omega) HWQ.out Ab cb _ (read32 HBb.out HNQ.out) (Kd.R_reads' HBb.out).2.1).mono ?_); rintro e wf ⟨Aw, cw, rfl, _, hC1, hc1, hb⟩; have HY := Aside0.mk hC1; have m0 := Aside0.mk (Kd.R_below HBb.out hb); clear HBb; have HBb := m0; clear m0; have m0 := Aside0.mk (Kd.R_below HCc.out hb); clear HCc; have HCc := m0; clear m0; have m0 := Aside0.mk (below_step HBA.out hb); clear HBA; have HBA := m0; clear m0; have m0 := Aside0.mk (below_step HB.out hb); have m1 := Aside0.mk (HL.out.below hb); have m2 := Aside0.mk (Kd.C_below HX.out hb); clear HB HL HX; have HB := m0; have HL := m1; have HX := m2; clear m0 m1 m2; clear hb hC1)
    | (go_at_call 8; (with_reducible refine (wide_own l n HN.out (by omega) HW.out A0 c0 _ HX.out hc).mono ?_); rintro e wg ⟨As, cs, rfl, hRs, _, _, hb⟩; have HS := Aside0.mk (Kd.R_lower hRs HBA.out.size); have hcs := (Kd.R_reads' hRs).2.1; have m0 := Aside0.mk (Kd.R_below HBb.out hb); clear HBb; have HBb := m0; clear m0; have m0 := Aside0.mk (Kd.R_below HCc.out hb); clear HCc; have HCc := m0; clear m0; have m0 := Aside0.mk (below_step HBA.out hb); clear HBA; have HBA := m0; clear m0; have m0 := Aside0.mk (below_step HB.out hb); have m1 := Aside0.mk (HL.out.below hb); have m2 := Aside0.mk (Kd.C_below HX.out hb); clear HB HL HX; have HB := m0; have HL := m1; have HX := m2; clear m0 m1 m2; clear hb hRs)
    | (go_at_call 11; (with_reducible refine (same_read q n HNQ.out (by omega) HWQ.out Ac Aw cc cw _ (read32 HCc.out HNQ.out) (Kd.R_reads' HCc.out).2.1 HY.out hc1).mono ?_); rintro e wh ⟨rfl, hb⟩; have m0 := Aside0.mk (Kd.R_below HBb.out hb); clear HBb; have HBb := m0; clear m0; have m0 := Aside0.mk (Kd.R_below HCc.out hb); clear HCc; have HCc := m0; clear m0; have m0 := Aside0.mk (below_step HBA.out hb); clear HBA; have HBA := m0; clear m0; have m0 := Aside0.mk (below_step HB.out hb); have m1 := Aside0.mk (HL.out.below hb); have m2 := Aside0.mk (Kd.C_below HX.out hb); clear HB HL HX; have HB := m0; have HL := m1; have HX := m2; clear m0 m1 m2; clear hb HY hc1))

  obtain ⟨g, cap, e_, hg0, hg1, _⟩ := Kd.R_form HA.out (by have := HNM.out; omega)
  have hAa : Aa = some ⟨g, 0, none⟩ := by injection e_
  subst hAa
  have HI := Aside0.mk (Kd.R_below HA.out HBA.out)
  have HG := Aside0.mk (Nat.le_trans HS1.out hg0)
  have HG1 := Aside0.mk hg1
  clear e_ hg0 hg1
  go_loopw [48] (fun i wr => ∃ (k : Nat) (cur : List Int), k ≤ n ∧ i = .int .i64 k ∧ Aside0 (cur.length = n) ∧ Aside0 (Kd.R (Kd.int .i32) 21 wr w1.heap.size (fun _ => True) (.slice (some ⟨g, 0, none⟩) n ca) cur) ∧ Aside0 (KeepBut wg wr g none) ∧ Aside0 (Below w.heap.size w wr)) (fun i _ => (n - intOf i).toNat)
  case atStart => exact ⟨0, m, by omega, rfl, HNM, HI, ⟨KeepBut.refl _ _ _⟩, HB⟩
  case round =>
    obtain ⟨k, cur, hk, rfl, HC1, HI2, HK, HB2⟩ := hrel
    clear HB HI HBA HL
    have HB := HB2
    clear HB2
    by_cases ht : k < n
    · obtain ⟨hc1, hf1⟩ := cell_at HI2.out HC1.out k ht
      go_wp2
      go_roundw
      case rel => exact ⟨k + 1, cur.set k 77, by omega, by simp, ⟨by rw [List.length_set]; exact HC1.out⟩, ⟨by have h := Kd.R_putn (enc := Value.int .i32) (h1 := fun _ => rfl) HI2.out (k : Int) 77; rw [Int.toNat_natCast] at h; exact h⟩, ⟨KeepBut.set_ HK.out k _⟩, ⟨HB.out.setCell (p := ⟨g, k, none⟩) HG.out _⟩⟩
      case measure => simp [intOf]; omega
    · have m0 := Aside0.mk (Kd.C_below HX0.out HB.out)
      have m1 := Aside0.mk (keep_wide HS.out HK.out HG1.out)
      have m2 := Aside0.mk (keep_read HCc.out HK.out HG1.out)
      have m3 := Aside0.mk (keep_read HBb.out HK.out HG1.out)
      clear HX HS HCc HBb
      have HX := m0
      have HS := m1
      have HCc := m2
      have HBb := m3
      clear m0 m1 m2 m3
      go_wp2_with (first
        | (go_at_call 11; (with_reducible refine (same_read l n HN.out (by omega) HW.out A0 As c0 cs _ HX.out hc (read64 HS.out HN.out) hcs).mono ?_); rintro e wh ⟨rfl, hb⟩; have m0 := Aside0.mk (Kd.R_below HBb.out hb); clear HBb; have HBb := m0; clear m0; have m0 := Aside0.mk (Kd.R_below HCc.out hb); clear HCc; have HCc := m0; clear m0; have m0 := Aside0.mk (below_step HB.out hb); clear HB; have HB := m0; clear m0 hb)
        | (go_at_call 8; (with_reducible refine (wide_own q n HNQ.out (by omega) HWQ.out Ab cb _ (read32 HBb.out HNQ.out) (Kd.R_reads' HBb.out).2.1).mono ?_); rintro e wf ⟨Aw, cw, rfl, _, hC1, hc1, hb⟩; have HY := Aside0.mk hC1; have m0 := Aside0.mk (Kd.R_below HCc.out hb); clear HCc; have HCc := m0; clear m0; have m0 := Aside0.mk (below_step HB.out hb); clear HB; have HB := m0; clear m0 hb hC1)
        | (go_at_call 11; (with_reducible refine (same_read q n HNQ.out (by omega) HWQ.out Ac Aw cc cw _ (read32 HCc.out HNQ.out) (Kd.R_reads' HCc.out).2.1 HY.out hc1).mono ?_); rintro e wh ⟨rfl, hb⟩; have m0 := Aside0.mk (below_step HB.out hb); clear HB; have HB := m0; clear m0 hb))
      go_ret
      exact ⟨congrArg Ending.returned (congrArg Value.bool (by simp)), HB.out⟩
set_option maxHeartbeats 4000000 in
set_option maxRecDepth 100000 in
theorem own_none (a : Int) (l m q : List Int) (n : Nat) (hn0 : Aside0 (n = 0)) (hm : sp a l = m) (hq : sp a m = q) (hn : l.length = n) (hl : n ≤ 200) (hw : ∀ x ∈ l, I32 x) (A0 : Option Addr) (c0 : Nat) (w : World) (hC : Kd.C (Kd.int .i32) w A0 n l) (hc : n ≤ c0) (hL : Laid w) :
    Calls Tryd.prog 5 #[.slice A0 n c0, .int .i64 a] w fun e w' => e = .returned (.bool true) ∧ Below w.heap.size w w' := by
  have HM := Aside0.mk hm
  have HQ := Aside0.mk hq
  have HN := Aside0.mk hn
  have HNM : Aside0 (m.length = n) := ⟨by rw [← hm, sp_len, hn]⟩
  have HNQ : Aside0 (q.length = n) := ⟨by rw [← hq, sp_len]; exact HNM.out⟩
  have HW := Aside0.mk hw
  have HWM : Aside0 (∀ x ∈ m, I32 x) := ⟨hm ▸ SpreadPlain.sp_in a l hw⟩
  have HWQ : Aside0 (∀ x ∈ q, I32 x) := ⟨hq ▸ SpreadPlain.sp_in a m HWM.out⟩
  have HB := Aside0.mk (Below.refl w.heap.size w)
  have HL := Aside0.mk hL
  have HX := Aside0.mk hC
  have HX0 := HX
  clear hm hq hn hw hL hC
  go_enter Tryd.func5, Tryd.ntmps5
  go_wp2_with (first
    | (go_at_call 7; (with_reducible refine (awake_any _ HL.out).mono ?_); rintro e w1 ⟨rfl, hb⟩; have m0 := Aside0.mk (below_step HB.out hb); have m1 := Aside0.mk (HL.out.below hb); have m2 := Aside0.mk (Kd.C_below HX.out hb); clear HB HL HX; have HB := m0; have HL := m1; have HX := m2; clear m0 m1 m2; clear hb)
    | (go_at_call 10; (with_reducible refine (copy_own a m n HNM.out (by omega) Aa ca _ (read32 (Kd.R_below HA.out HBA.out) HNM.out) (Kd.R_reads' HA.out).2.1 HL.out).mono ?_); rintro e wd ⟨Ac, cc, rfl, hR, hb⟩; have HBC := Aside0.mk (own_lt HBb.out); have HSZ := Aside0.mk HBA.out.size; rw [HQ.out] at hR; have HCc := Aside0.mk hR; have m0 := Aside0.mk (Kd.R_below HBb.out hb); clear HBb; have HBb := m0; clear m0; have m0 := Aside0.mk (below_step HBA.out hb); clear HBA; have HBA := m0; clear m0; have m0 := Aside0.mk (below_step HB.out hb); have m1 := Aside0.mk (HL.out.below hb); have m2 := Aside0.mk (Kd.C_below HX.out hb); clear HB HL HX; have HB := m0; have HL := m1; have HX := m2; clear m0 m1 m2; clear hb hR)
    | (go_at_call 10; (with_reducible refine (copy_own a l n HN.out (by omega) A0 c0 _ HX.out hc HL.out).mono ?_); rintro e wb ⟨Ab, cb, rfl, hR, hb⟩; rw [HM.out] at hR; have HBb := Aside0.mk (Kd.R_lower hR HBA.out.size); have m0 := Aside0.mk (below_step HBA.out hb); clear HBA; have HBA := m0; clear m0; have m0 := Aside0.mk (below_step HB.out hb); have m1 := Aside0.mk (HL.out.below hb); have m2 := Aside0.mk (Kd.C_below HX.out hb); clear HB HL HX; have HB := m0; have HL := m1; have HX := m2; clear m0 m1 m2; clear hb hR)
    | (go_at_call 10; (with_reducible refine (copy_own a l n HN.out (by omega) A0 c0 _ HX.out hc HL.out).mono ?_); rintro e wa ⟨Aa, ca, rfl, hR, hb⟩; rw [HM.out] at hR; have HS1 := Aside0.mk HB.out.size; have HA := Aside0.mk hR; have HBA := Aside0.mk (Below.refl wa.heap.size wa); have m0 := Aside0.mk (below_step HB.out hb); have m1 := Aside0.mk (HL.out.below hb); have m2 := Aside0.mk (Kd.C_below HX.out hb); clear HB HL HX; have HB := m0; have HL := m1; have HX := m2; clear m0 m1 m2; have HLA := HL; have HXA := HX; have HBW := HB; clear hb hR)
    | (go_at_call 12; (with_reducible refine (in_any a m (.slice Ab n cb) wa wd (by have := HNM.out; omega) HBA.out (Kd.R_reok rfl HBb.out (fun k hk => hk.symm)) HLA.out).mono ?_); rintro e we ⟨rfl, hR, hB2, hK⟩; rw [HQ.out] at hR; have m0 := Aside0.mk (kept_read HCc.out hK HBC.out HSZ.out); clear HCc HBb HBA HB HL HX; have HCc := m0; clear m0; have HBb := Aside0.mk (Kd.R_mono hR (ok' := fun _ => True) (fun _ _ => trivial)); have HBA := Aside0.mk hB2; have HB := Aside0.mk (below_step HBW.out hB2); have HL := Aside0.mk (HLA.out.below hB2); have HX := Aside0.mk (Kd.C_below HXA.out hB2); clear hR hB2 hK)
    | (go_at_call 8; (with_reducible refine (wide_own q n HNQ.out (by omega) HWQ.out Ab cb _ (read32 HBb.out HNQ.out) (Kd.R_reads' HBb.out).2.1).mono ?_); rintro e wf ⟨Aw, cw, rfl, _, hC1, hc1, hb⟩; have HY := Aside0.mk hC1; have m0 := Aside0.mk (Kd.R_below HBb.out hb); clear HBb; have HBb := m0; clear m0; have m0 := Aside0.mk (Kd.R_below HCc.out hb); clear HCc; have HCc := m0; clear m0; have m0 := Aside0.mk (below_step HBA.out hb); clear HBA; have HBA := m0; clear m0; have m0 := Aside0.mk (below_step HB.out hb); have m1 := Aside0.mk (HL.out.below hb); have m2 := Aside0.mk (Kd.C_below HX.out hb); clear HB HL HX; have HB := m0; have HL := m1; have HX := m2; clear m0 m1 m2; clear hb hC1)
    | (go_at_call 8; (with_reducible refine (wide_own l n HN.out (by omega) HW.out A0 c0 _ HX.out hc).mono ?_); rintro e wg ⟨As, cs, rfl, hRs, _, _, hb⟩; have HS := Aside0.mk (Kd.R_lower hRs HBA.out.size); have hcs := (Kd.R_reads' hRs).2.1; have m0 := Aside0.mk (Kd.R_below HBb.out hb); clear HBb; have HBb := m0; clear m0; have m0 := Aside0.mk (Kd.R_below HCc.out hb); clear HCc; have HCc := m0; clear m0; have m0 := Aside0.mk (below_step HBA.out hb); clear HBA; have HBA := m0; clear m0; have m0 := Aside0.mk (below_step HB.out hb); have m1 := Aside0.mk (HL.out.below hb); have m2 := Aside0.mk (Kd.C_below HX.out hb); clear HB HL HX; have HB := m0; have HL := m1; have HX := m2; clear m0 m1 m2; clear hb hRs)
    | (go_at_call 11; (with_reducible refine (same_read q n HNQ.out (by omega) HWQ.out Ac Aw cc cw _ (read32 HCc.out HNQ.out) (Kd.R_reads' HCc.out).2.1 HY.out hc1).mono ?_); rintro e wh ⟨rfl, hb⟩; have m0 := Aside0.mk (Kd.R_below HBb.out hb); clear HBb; have HBb := m0; clear m0; have m0 := Aside0.mk (Kd.R_below HCc.out hb); clear HCc; have HCc := m0; clear m0; have m0 := Aside0.mk (below_step HBA.out hb); clear HBA; have HBA := m0; clear m0; have m0 := Aside0.mk (below_step HB.out hb); have m1 := Aside0.mk (HL.out.below hb); have m2 := Aside0.mk (Kd.C_below HX.out hb); clear HB HL HX; have HB := m0; have HL := m1; have HX := m2; clear m0 m1 m2; clear hb HY hc1))

  go_loopw [48] (fun i wr => i = .int .i64 0 ∧ Aside0 (wr = wg)) (fun _ _ => 0)
  case atStart => exact ⟨rfl, ⟨rfl⟩⟩
  case round =>
    obtain ⟨rfl, he⟩ := hrel
    have he := he.out
    subst he
    have hnn : ¬ (0 : Int) < (n : Int) := by have := hn0.out; omega
    go_wp2_with (first
      | (go_at_call 11; (with_reducible refine (same_read l n HN.out (by omega) HW.out A0 As c0 cs _ HX.out hc (read64 HS.out HN.out) hcs).mono ?_); rintro e wh ⟨rfl, hb⟩; have m0 := Aside0.mk (Kd.R_below HBb.out hb); clear HBb; have HBb := m0; clear m0; have m0 := Aside0.mk (Kd.R_below HCc.out hb); clear HCc; have HCc := m0; clear m0; have m0 := Aside0.mk (below_step HB.out hb); clear HB; have HB := m0; clear m0 hb)
      | (go_at_call 8; (with_reducible refine (wide_own q n HNQ.out (by omega) HWQ.out Ab cb _ (read32 HBb.out HNQ.out) (Kd.R_reads' HBb.out).2.1).mono ?_); rintro e wf ⟨Aw, cw, rfl, _, hC1, hc1, hb⟩; have HY := Aside0.mk hC1; have m0 := Aside0.mk (Kd.R_below HCc.out hb); clear HCc; have HCc := m0; clear m0; have m0 := Aside0.mk (below_step HB.out hb); clear HB; have HB := m0; clear m0 hb hC1)
      | (go_at_call 11; (with_reducible refine (same_read q n HNQ.out (by omega) HWQ.out Ac Aw cc cw _ (read32 HCc.out HNQ.out) (Kd.R_reads' HCc.out).2.1 HY.out hc1).mono ?_); rintro e wh ⟨rfl, hb⟩; have m0 := Aside0.mk (below_step HB.out hb); clear HB; have HB := m0; clear m0 hb))
    go_ret
    exact ⟨congrArg Ending.returned (congrArg Value.bool (by simp)), HB.out⟩
theorem own_any (a : Int) (l : List Int) (hw : ∀ x ∈ l, I32 x) (A0 : Option Addr) (c0 : Nat) (w : World) (hC : Kd.C (Kd.int .i32) w A0 l.length l) (hc : l.length ≤ c0) (hL : Laid w) :
    Calls Tryd.prog 5 #[.slice A0 l.length c0, .int .i64 a] w fun e w' => e = .returned (.bool true) ∧ Below w.heap.size w w' := by
  by_cases hl : l.length ≤ 200
  · rcases Nat.eq_zero_or_pos l.length with h0 | h0
    · exact own_none a l _ _ _ ⟨h0⟩ rfl rfl rfl hl hw A0 c0 w hC hc hL
    · exact own_many a l _ _ _ h0 rfl rfl rfl hl hw A0 c0 w hC hc hL
  · have HB := Aside0.mk (Below.refl w.heap.size w)
    have HL := Aside0.mk hL
    clear hL
    go_enter Tryd.func5, Tryd.ntmps5
    go_wp2_with (first | (go_at_call 7; (with_reducible refine (awake_any _ HL.out).mono ?_); rintro e w1 ⟨rfl, hb⟩; have m0 := Aside0.mk (below_step HB.out hb); clear HB hb; have HB := m0; clear m0))
    go_ret
    exact ⟨rfl, HB.out⟩
theorem own_row (a0 : Option Addr) (len0 cap0 : Nat) (z0 : List Int) (a1 : Int) (w : World) (hL : Laid w) (w0 : (a0 = none ∧ len0 = 0 ∧ cap0 = 0 ∧ z0 = []) ∨ ∃ x, a0 = some x ∧ len0 ≤ cap0 ∧ cap0 ≤ maxLen ∧ z0.length = cap0 ∧ (∀ i, i < z0.length → w.cell? (x.add i) = some (.int .i32 (z0.getD i 0))) ∧ ∀ n ∈ z0, (Lit.int .i32 n).wf = true) :
    Calls Tryd.prog 5 #[.slice a0 len0 cap0, .int .i64 a1] w fun e w' => e = .returned (.bool true) ∧ Below w.heap.size w w' := by
  obtain ⟨l0, rfl, hr0, hm0, hw0, hc0⟩ := ReadsInt.ofRowC w0
  exact own_any a1 l0 (fun x h => Math.wf_i32 (hw0 x h)) a0 cap0 w (Kd.C_of_reads (d := (0 : Int)) (h1 := fun _ => rfl) hr0) hc0 hL
end Go.Proofs.YtgjanpbpggblmaaDoor.Spread
