import Derived.Test.YtdfgoahfaebooaaDoorSwLib
namespace Go.Proofs.YtdfgoahfaebooaaDoor.SwLaw
open Go.RowKit Go.Proofs.YtdfgoahfaebooaaDoorW.PrintWords Go.Proofs.YtdfgoahfaebooaaDoorW.PrintLast Go.Proofs.YtdfgoahfaebooaaDoorW.PrintMore
open Go.Proofs.YtdfgoahfaebooaaDoor.Rd (St by_ Bytes)
open Go.Proofs.YtdfgoahfaebooaaDoor.SwWalk
set_option linter.unusedVariables false
set_option linter.unusedSimpArgs false
set_option maxHeartbeats 8000000 in
set_option maxRecDepth 100000 in
theorem resets_at (B1 B : List Int) (m1 m : Nat) (l : List S31) (n : Nat) (hm1 : B1.length = m1) (hB1 : Bytes B1) (hl1 : m1 ≤ 1300) (hm : B.length = m) (hB : Bytes B) (hl : m ≤ 1300) (hn : l.length = n) (hn2 : n ≤ 200) (hop : ∀ o ∈ l, (0 ≤ o.f0 ∧ o.f0 ≤ 255) ∧ I64 o.f1 ∧ I64 o.f2 ∧ I64 o.f3)
    (A0 : Option Addr) (c0 : Nat) (A1 : Option Addr) (c1 : Nat) (A2 : Option Addr) (c2 : Nat) (w : World) (hLd : Laid w) (hC1 : Kd.C (Kd.int .u8) w A0 m1 B1) (hc1 : m1 ≤ c0) (hC : Kd.C (Kd.int .u8) w A1 m B) (hc : m ≤ c1) (hD : Kd.C k31 w A2 n l) :
    Calls Tryd.prog 4 #[.slice A0 m1 c0, .slice A1 m c1, .slice A2 n c2] w fun e w' => e = .returned (.bool true) ∧ Below w.heap.size w w' := by
  have HB := Aside0.mk (Below.refl w.heap.size w)
  have HLD := Aside0.mk hLd
  have HM1 := Aside0.mk hm1
  have HBy1 := Aside0.mk hB1
  have HM := Aside0.mk hm
  have HBy := Aside0.mk hB
  have HC1 := Aside0.mk hC1
  have HC := Aside0.mk hC
  have HD := Aside0.mk hD
  have HN := Aside0.mk hn
  have HOP := Aside0.mk hop
  clear hLd hm1 hB1 hm hB hC1 hC hD hn hop
  have hd0 : decide ((1300 : Int) < (m1 : Int)) = false := decide_eq_false (by omega)
  have hd1 : decide ((1300 : Int) < (m : Int)) = false := decide_eq_false (by omega)
  have hd2 : decide ((200 : Int) < (n : Int)) = false := decide_eq_false (by omega)
  go_enter Tryd.func4, Tryd.ntmps4
  go_wp2_with (first
    | (go_at_call 8; (with_reducible refine (awake_any _ (HLD.out.below HB.out)).mono ?_); rintro e wa ⟨rfl, hb⟩; have HB1 := Aside0.mk (below_step HB.out hb); clear HB hb; have HB := HB1; clear HB1)
    | (go_at_call 9; (with_reducible refine (long_no A0 m1 c0 A2 n c2 _ hd0 hd2).mono ?_); rintro e wl ⟨rfl, hb⟩; have HB1 := Aside0.mk (below_step HB.out hb); clear HB hb; have HB := HB1; clear HB1)
    | (go_at_call 10; (with_reducible refine (new_any B1 HBy1.out m1 HM1.out (by omega) A0 c0 _ (Kd.C_below HC1.out HB.out) hc1).mono ?_); rintro e wx ⟨g1, rfl, hI, hb⟩; have HX : Aside0 (SwW w.heap.size wx g1 B1 (Rd.new B1)) := ⟨(hI.lower HB.out.size).w0⟩; have HBw := Aside0.mk (below_step HB.out hb); clear HB hb hI))
  go_loopw [27] (fun i wr => ∃ (k : Nat) (s : St), k ≤ n ∧ i = .int .i64 k ∧ Aside0 (SwW w.heap.size wr g1 B1 s) ∧ Aside0 (Below w.heap.size w wr) ∧ Aside0 (Rd.Good s ∧ s.t ≤ 3 + 2 * k ∧ s.r ≤ 16 * k)) (fun i _ => (n - intOf i).toNat)
  case atStart => exact ⟨0, Rd.new B1, by omega, rfl, HX, HBw, ⟨Rd.new_good HBy1.out, by simp [Rd.new], by simp [Rd.new]⟩⟩
  case round =>
    obtain ⟨k, s, hk, rfl, HX2, HB2, HS⟩ := hrel
    clear HX HBw
    have HX := HX2
    have HBw := HB2
    clear HX2 HB2
    by_cases ht : k < n
    ·
      obtain ⟨ad, hA, hc0, hc1, hc2, hc3⟩ := at_T31 (Kd.C_below HD.out (HBw.out)) (k : Int) (by omega) (by omega)
      obtain ⟨hK0, hF0, hT0, hN0⟩ := HOP.out (rd_T31 l k) (by unfold rd_T31; rw [Int.toNat_natCast, List.getD_eq_getElem?_getD, List.getElem?_eq_getElem (by rw [HN.out]; exact ht)]; exact List.getElem_mem _)
      rw [Int.toNat_natCast] at hc0 hc1 hc2 hc3
      obtain ⟨⟨K, F, T, N⟩, ho⟩ : ∃ o, rd_T31 l k = o := ⟨_, rfl⟩
      rw [ho] at hc0 hc1 hc2 hc3 hK0 hF0 hT0 hN0
      simp only at hc0 hc1 hc2 hc3 hK0 hF0 hT0 hN0
      have HK0 := Aside0.mk hK0
      have HF0 := Aside0.mk hF0
      have HT0 := Aside0.mk hT0
      have HN0 := Aside0.mk hN0
      clear ho hK0 hF0 hT0 hN0
      subst hA
      have HL1 := Aside0.mk HX.out.lt
      obtain ⟨R, hR⟩ : ∃ R, Rd.raw B1 (Rd.take B1 s F T N).r (Rd.cl T) = R := ⟨_, rfl⟩
      obtain ⟨s1, hs1⟩ : ∃ s1, Rd.take B1 s F T N = s1 := ⟨_, rfl⟩
      have HS1 : Aside0 (Rd.Good s1 ∧ s1.t ≤ 3 + 2 * (k + 1) ∧ s1.r ≤ 16 * k) := ⟨by
        rw [← hs1]
        refine ⟨Rd.take_good HBy1.out HS.out.1 _ _ _, ?_, by rw [Rd.take_r]; exact HS.out.2.2⟩
        have := (Rd.take_t B1 s F T N).2
        have := HS.out.2.1
        omega⟩
      rw [hs1] at hR
      obtain ⟨s2, hs2⟩ : ∃ s2, rawn s1 T = s2 := ⟨_, rfl⟩
      have HS2 : Aside0 (Rd.Good s2 ∧ s2.t ≤ 3 + 2 * (k + 1) ∧ s2.r ≤ 16 * (k + 1)) := ⟨by
        rw [← hs2]
        have h := HS1.out
        have := Rd.cl_le T
        refine ⟨⟨h.1.g0, h.1.g1, h.1.v0, h.1.v1⟩, ?_, ?_⟩ <;> simp only [rawn] <;> omega⟩
      have CT : Aside0 (∀ wz, Laid wz → SwW w.heap.size wz g1 B1 s → Calls Tryd.prog 14 #[.pointer (some ⟨g1, 0, none⟩), .int .i64 F, .int .i64 T, .int .i64 N] wz fun e w' => e = .returned (.tuple #[]) ∧ SwW w.heap.size w' g1 B1 s1 ∧ Below g1 wz w' ∧ KeepBut wz w' g1 none) := ⟨fun wz hL H => hs1 ▸ sw_take' HBy1.out (by rw [HM1.out]; omega) HS.out.1 (by have := HS.out.2.1; omega) F T HN0.out hL H⟩
      have CW : Aside0 (∀ wz, SwW w.heap.size wz g1 B1 s1 → Calls Tryd.prog 16 #[.pointer (some ⟨g1, 0, none⟩), .int .i64 T] wz fun e w' => e = .returned (.int .u32 R) ∧ SwW w.heap.size w' g1 B1 s2 ∧ Below g1 wz w' ∧ KeepBut wz w' g1 none) := ⟨fun wz H => hR ▸ hs2 ▸ sw_raw HBy1.out (by rw [HM1.out]; omega) (by have := HS1.out.2.2; omega) T H⟩
      clear hR hs1 hs2
      go_wp2_with (first
        | (go_at_call 14; (with_reducible refine (CT.out _ (HLD.out.below (HBw.out.trans ((below_alloc (Below.refl _ _) _).mono (Nat.le_trans HX.out.ge (Nat.le_of_lt HX.out.lt))))) (HX.out.below (below_alloc (Below.refl _ _) _))).mono ?_); rintro e w1 ⟨rfl, hI, hb, hk⟩; have hv2 := keep_cell hk (a := ⟨wr.heap.size, 2, none⟩) (v := .int .i64 T) (by simp) (Nat.ne_of_gt HL1.out); have m0 := Aside0.mk hI; have m1 := Aside0.mk ((HBw.out.trans ((below_alloc (Below.refl _ _) _).mono (Nat.le_trans HX.out.ge (Nat.le_of_lt HX.out.lt)))).trans (hb.mono HX.out.ge)); clear HX HBw hI hb hk; have HX := m0; have HBw := m1; clear m0 m1)
        | (go_at_call 16; (with_reducible refine (CW.out _ HX.out).mono ?_); rintro e w1 ⟨rfl, hI, hb, hk⟩; have m0 := Aside0.mk hI; have m1 := Aside0.mk (HBw.out.trans (hb.mono HX.out.ge)); clear HX HBw hI hb hk; have HX := m0; have HBw := m1; clear m0 m1))
      go_roundw
      case rel => exact ⟨k + 1, s2, by omega, by simp, HX, HBw, HS2⟩
      case measure => simp [intOf]; omega
    · have HRS : Aside0 (Calls Tryd.prog 21 #[.pointer (some ⟨g1, 0, none⟩), .slice A1 m c1] wr fun e w' => e = .returned (.tuple #[]) ∧ SwW w.heap.size w' g1 B (Rd.new B) ∧ Below w.heap.size wr w') := ⟨by
        obtain ⟨h, H, _⟩ := HX.out
        exact (reset_any w.heap.size g1 h B B1 HBy.out m HM.out (by omega) A1 c1 s wr H (Kd.C_below HC.out HBw.out) hc).mono fun e w' k => ⟨k.1, k.2.1.w0, k.2.2⟩⟩
      clear HS
      go_wp2_with (first
        | (go_at_call 21; (with_reducible refine HRS.out.mono ?_); rintro e ws ⟨rfl, hI, hb⟩; have HX2 := Aside0.mk hI; have HB2 := Aside0.mk (HBw.out.trans hb); clear HX HBw hI hb; have HX := HX2; have HBw := HB2; clear HX2 HB2)
        | (go_at_call 10; (with_reducible refine (new_any B HBy.out m HM.out (by omega) A1 c1 _ (Kd.C_below HC.out HBw.out) hc).mono ?_); rintro e wy ⟨g2, rfl, hI, hb⟩; have HT : Aside0 (TwoW w wy g1 g2 B (Rd.new B) (Rd.new B)) := ⟨⟨HX.out.below hb, (hI.lower HBw.out.size).w0, Nat.ne_of_lt (Nat.lt_of_lt_of_le HX.out.lt hI.ge), Nat.le_trans HBw.out.size hI.ge, below_step HBw.out hb, HLD.out⟩⟩; clear HX HBw hI hb HRS))
      go_loopw [51] (fun i wr => ∃ (k : Nat) (s : St), k ≤ n ∧ i = .int .i64 k ∧ Aside0 (TwoW w wr g1 g2 B s s) ∧ Aside0 (Rd.Good s ∧ s.t ≤ 3 + 2 * k ∧ s.r ≤ 16 * k)) (fun i _ => (n - intOf i).toNat)
      case atStart => exact ⟨0, Rd.new B, by omega, rfl, HT, ⟨Rd.new_good HBy.out, by simp [Rd.new], by simp [Rd.new]⟩⟩
      case round =>
        obtain ⟨k, s, hk, rfl, HT2, HS⟩ := hrel
        clear HT
        have HT := HT2
        clear HT2
        by_cases ht : k < n
        ·
          obtain ⟨ad, hA, hc0, hc1, hc2, hc3⟩ := at_T31 (Kd.C_below HD.out (HT.out.hb)) (k : Int) (by omega) (by omega)
          obtain ⟨hK0, hF0, hT0, hN0⟩ := HOP.out (rd_T31 l k) (by unfold rd_T31; rw [Int.toNat_natCast, List.getD_eq_getElem?_getD, List.getElem?_eq_getElem (by rw [HN.out]; exact ht)]; exact List.getElem_mem _)
          rw [Int.toNat_natCast] at hc0 hc1 hc2 hc3
          obtain ⟨⟨K, F, T, N⟩, ho⟩ : ∃ o, rd_T31 l k = o := ⟨_, rfl⟩
          rw [ho] at hc0 hc1 hc2 hc3 hK0 hF0 hT0 hN0
          simp only at hc0 hc1 hc2 hc3 hK0 hF0 hT0 hN0
          have HK0 := Aside0.mk hK0
          have HF0 := Aside0.mk hF0
          have HT0 := Aside0.mk hT0
          have HN0 := Aside0.mk hN0
          clear ho hK0 hF0 hT0 hN0
          subst hA
          have HL1 := Aside0.mk HT.out.lt1
          have HL2 := Aside0.mk HT.out.lt2
          obtain ⟨Q, hQ⟩ : ∃ Q, Rd.get s N = Q := ⟨_, rfl⟩
          obtain ⟨R, hR⟩ : ∃ R, Rd.raw B s.r (Rd.cl T) = R := ⟨_, rfl⟩
          obtain ⟨s1, hs1⟩ : ∃ s1, rawn s T = s1 := ⟨_, rfl⟩
          have HS1 : Aside0 (Rd.Good s1 ∧ s1.t ≤ 3 + 2 * k ∧ s1.r ≤ 16 * (k + 1)) := ⟨by
            rw [← hs1]
            have h := HS.out
            have := Rd.cl_le T
            refine ⟨⟨h.1.g0, h.1.g1, h.1.v0, h.1.v1⟩, ?_, ?_⟩ <;> simp only [rawn] <;> omega⟩
          obtain ⟨s2, hs2⟩ : ∃ s2, Rd.take B s1 F T N = s2 := ⟨_, rfl⟩
          have HS2 : Aside0 (Rd.Good s2 ∧ s2.t ≤ 3 + 2 * (k + 1) ∧ s2.r ≤ 16 * (k + 1)) := ⟨by
            rw [← hs2]
            refine ⟨Rd.take_good HBy.out HS1.out.1 _ _ _, ?_, by rw [Rd.take_r]; exact HS1.out.2.2⟩
            have := (Rd.take_t B s1 F T N).2
            have := HS1.out.2.1
            omega⟩
          have b0 : s.r ≤ 90000 := by have := HS.out.2.2; omega
          have b1 : s1.t ≤ 9990 := by have := HS1.out.2.1; omega
          have b2 : s2.t ≤ 10000 := by have := HS2.out.2.1; omega
          have b3 : s2.r ≤ 100000 := by have := HS2.out.2.2; omega
          obtain ⟨L, hL⟩ : ∃ L, left B s2 = L := ⟨_, rfl⟩
          obtain ⟨G', hG'⟩ : ∃ G', s2.g = G' := ⟨_, rfl⟩
          have CG1 : Aside0 (∀ wz so, TwoW w wz g1 g2 B s so → Calls Tryd.prog 12 #[.pointer (some ⟨g1, 0, none⟩), .int .i64 N] wz fun e w' => e = .returned (.int .i64 Q) ∧ TwoW w w' g1 g2 B s so ∧ KeepBut wz w' g1 none) := ⟨fun wz so T => (hQ ▸ sw_get' HS.out.1 HN0.out T.laid T.x).mono (fun e w' h => ⟨h.1, T.at1 h.2.1 h.2.2.1 h.2.2.2, h.2.2.2⟩)⟩
          have CG2 : Aside0 (∀ wz so, TwoW w wz g1 g2 B so s → Calls Tryd.prog 12 #[.pointer (some ⟨g2, 0, none⟩), .int .i64 N] wz fun e w' => e = .returned (.int .i64 Q) ∧ TwoW w w' g1 g2 B so s ∧ KeepBut wz w' g2 none) := ⟨fun wz so T => (hQ ▸ sw_get' HS.out.1 HN0.out T.laid T.y).mono (fun e w' h => ⟨h.1, T.at2 h.2.1 h.2.2.1 h.2.2.2, h.2.2.2⟩)⟩
          have CW1 : Aside0 (∀ wz so, TwoW w wz g1 g2 B s so → Calls Tryd.prog 16 #[.pointer (some ⟨g1, 0, none⟩), .int .i64 T] wz fun e w' => e = .returned (.int .u32 R) ∧ TwoW w w' g1 g2 B s1 so ∧ KeepBut wz w' g1 none) := ⟨fun wz so T => (hR ▸ hs1 ▸ sw_raw HBy.out (by rw [HM.out]; omega) b0 _ T.x).mono (fun e w' h => ⟨h.1, T.at1 h.2.1 h.2.2.1 h.2.2.2, h.2.2.2⟩)⟩
          have CW2 : Aside0 (∀ wz so, TwoW w wz g1 g2 B so s → Calls Tryd.prog 16 #[.pointer (some ⟨g2, 0, none⟩), .int .i64 T] wz fun e w' => e = .returned (.int .u32 R) ∧ TwoW w w' g1 g2 B so s1 ∧ KeepBut wz w' g2 none) := ⟨fun wz so T => (hR ▸ hs1 ▸ sw_raw HBy.out (by rw [HM.out]; omega) b0 _ T.y).mono (fun e w' h => ⟨h.1, T.at2 h.2.1 h.2.2.1 h.2.2.2, h.2.2.2⟩)⟩
          have CT1 : Aside0 (∀ wz so, TwoW w wz g1 g2 B s1 so → Calls Tryd.prog 14 #[.pointer (some ⟨g1, 0, none⟩), .int .i64 F, .int .i64 T, .int .i64 N] wz fun e w' => e = .returned (.tuple #[]) ∧ TwoW w w' g1 g2 B s2 so ∧ KeepBut wz w' g1 none) := ⟨fun wz so T => (hs2 ▸ sw_take' HBy.out (by rw [HM.out]; omega) HS1.out.1 b1 _ _ HN0.out T.laid T.x).mono (fun e w' h => ⟨h.1, T.at1 h.2.1 h.2.2.1 h.2.2.2, h.2.2.2⟩)⟩
          have CT2 : Aside0 (∀ wz so, TwoW w wz g1 g2 B so s1 → Calls Tryd.prog 14 #[.pointer (some ⟨g2, 0, none⟩), .int .i64 F, .int .i64 T, .int .i64 N] wz fun e w' => e = .returned (.tuple #[]) ∧ TwoW w w' g1 g2 B so s2 ∧ KeepBut wz w' g2 none) := ⟨fun wz so T => (hs2 ▸ sw_take' HBy.out (by rw [HM.out]; omega) HS1.out.1 b1 _ _ HN0.out T.laid T.y).mono (fun e w' h => ⟨h.1, T.at2 h.2.1 h.2.2.1 h.2.2.2, h.2.2.2⟩)⟩
          have CL1 : Aside0 (∀ wz so, TwoW w wz g1 g2 B s2 so → Calls Tryd.prog 18 #[.pointer (some ⟨g1, 0, none⟩)] wz fun e w' => e = .returned (.int .i64 L) ∧ TwoW w w' g1 g2 B s2 so ∧ KeepBut wz w' g1 none) := ⟨fun wz so T => (hL ▸ sw_left' (by rw [HM.out]; omega) b2 b3 T.x).mono (fun e w' h => ⟨h.1, T.at1 h.2.1 h.2.2.1 h.2.2.2, h.2.2.2⟩)⟩
          have CL2 : Aside0 (∀ wz so, TwoW w wz g1 g2 B so s2 → Calls Tryd.prog 18 #[.pointer (some ⟨g2, 0, none⟩)] wz fun e w' => e = .returned (.int .i64 L) ∧ TwoW w w' g1 g2 B so s2 ∧ KeepBut wz w' g2 none) := ⟨fun wz so T => (hL ▸ sw_left' (by rw [HM.out]; omega) b2 b3 T.y).mono (fun e w' h => ⟨h.1, T.at2 h.2.1 h.2.2.1 h.2.2.2, h.2.2.2⟩)⟩
          have CR1 : Aside0 (∀ wz so, TwoW w wz g1 g2 B s2 so → Calls Tryd.prog 20 #[.pointer (some ⟨g1, 0, none⟩)] wz fun e w' => e = .returned (.int .u32 G') ∧ TwoW w w' g1 g2 B s2 so ∧ KeepBut wz w' g1 none) := ⟨fun wz so T => (hG' ▸ sw_rng' T.x).mono (fun e w' h => ⟨h.1, T.at1 h.2.1 h.2.2.1 h.2.2.2, h.2.2.2⟩)⟩
          have CR2 : Aside0 (∀ wz so, TwoW w wz g1 g2 B so s2 → Calls Tryd.prog 20 #[.pointer (some ⟨g2, 0, none⟩)] wz fun e w' => e = .returned (.int .u32 G') ∧ TwoW w w' g1 g2 B so s2 ∧ KeepBut wz w' g2 none) := ⟨fun wz so T => (hG' ▸ sw_rng' T.y).mono (fun e w' h => ⟨h.1, T.at2 h.2.1 h.2.2.1 h.2.2.2, h.2.2.2⟩)⟩
          clear hQ hR hs1 hs2 hL hG' b0 b1 b2 b3
          have HTd : Aside0 (TwoW w (wr.alloc (Obj.cells #[Value.int .u8 K, Value.int .i64 F, Value.int .i64 T, Value.int .i64 N] 31)).drew g1 g2 B s s) := ⟨HT.out.below (below_drew1 (below_alloc (Below.refl _ _) _))⟩
          clear HT
          go_wp2
          go_region_held3 (fun wz => wz.cell? ⟨wr.heap.size, 0, none⟩ = some (.int .u8 K) ∧ wz.cell? ⟨wr.heap.size, 1, none⟩ = some (.int .i64 F) ∧ wz.cell? ⟨wr.heap.size, 2, none⟩ = some (.int .i64 T) ∧ wz.cell? ⟨wr.heap.size, 3, none⟩ = some (.int .i64 N))
            (first | exact ⟨by simp, by simp, by simp, by simp⟩ | (go_split_ands; exact ⟨keep_cell hk (by assumption) (Nat.ne_of_gt HL1.out), keep_cell hk (by assumption) (Nat.ne_of_gt HL1.out), keep_cell hk (by assumption) (Nat.ne_of_gt HL1.out), keep_cell hk (by assumption) (Nat.ne_of_gt HL1.out)⟩) | (go_split_ands; exact ⟨keep_cell hk (by assumption) (Nat.ne_of_gt HL2.out), keep_cell hk (by assumption) (Nat.ne_of_gt HL2.out), keep_cell hk (by assumption) (Nat.ne_of_gt HL2.out), keep_cell hk (by assumption) (Nat.ne_of_gt HL2.out)⟩))
            (first | (go_at_call 12; (with_reducible refine (CG1.out _ _ (Aside0.out (by assumption))).mono ?_); rintro e w3 ⟨rfl, hT, hk⟩; have hT2 := Aside0.mk hT) | (go_at_call 12; (with_reducible refine (CG2.out _ _ (Aside0.out (by assumption))).mono ?_); rintro e w3 ⟨rfl, hT, hk⟩; have hT2 := Aside0.mk hT) | (go_at_call 16; (with_reducible refine (CW1.out _ _ (Aside0.out (by assumption))).mono ?_); rintro e w3 ⟨rfl, hT, hk⟩; have hT2 := Aside0.mk hT) | (go_at_call 16; (with_reducible refine (CW2.out _ _ (Aside0.out (by assumption))).mono ?_); rintro e w3 ⟨rfl, hT, hk⟩; have hT2 := Aside0.mk hT))
          all_goals (
            rename_i hH
            have hv0 := hH.1
            have hv1 := hH.2.1
            have hv2 := hH.2.2.1
            have hv3 := hH.2.2.2
            have HT := hT2
            clear hH
            go_wp2_with   (first
              | (go_at_call 14; (with_reducible refine (CT1.out _ _ HT.out).mono ?_); rintro e w1 ⟨rfl, hT, hk⟩; have m1 := keep_cell hk hv1 (Nat.ne_of_gt HL1.out); have m2 := keep_cell hk hv2 (Nat.ne_of_gt HL1.out); have m3 := keep_cell hk hv3 (Nat.ne_of_gt HL1.out); clear HT hk hv1 hv2 hv3; have HT := Aside0.mk hT; clear hT; have hv1 := m1; clear m1; have hv2 := m2; clear m2; have hv3 := m3; clear m3)
              | (go_at_call 14; (with_reducible refine (CT2.out _ _ HT.out).mono ?_); rintro e w1 ⟨rfl, hT, hk⟩; have m1 := keep_cell hk hv1 (Nat.ne_of_gt HL2.out); have m2 := keep_cell hk hv2 (Nat.ne_of_gt HL2.out); have m3 := keep_cell hk hv3 (Nat.ne_of_gt HL2.out); clear HT hk hv1 hv2 hv3; have HT := Aside0.mk hT; clear hT; have hv1 := m1; clear m1; have hv2 := m2; clear m2; have hv3 := m3; clear m3)
              | (go_at_call 18; (with_reducible refine (CL1.out _ _ HT.out).mono ?_); rintro e w1 ⟨rfl, hT, hk⟩; have m1 := keep_cell hk hv1 (Nat.ne_of_gt HL1.out); have m2 := keep_cell hk hv2 (Nat.ne_of_gt HL1.out); have m3 := keep_cell hk hv3 (Nat.ne_of_gt HL1.out); clear HT hk hv1 hv2 hv3; have HT := Aside0.mk hT; clear hT; have hv1 := m1; clear m1; have hv2 := m2; clear m2; have hv3 := m3; clear m3)
              | (go_at_call 18; (with_reducible refine (CL2.out _ _ HT.out).mono ?_); rintro e w1 ⟨rfl, hT, hk⟩; have m1 := keep_cell hk hv1 (Nat.ne_of_gt HL2.out); have m2 := keep_cell hk hv2 (Nat.ne_of_gt HL2.out); have m3 := keep_cell hk hv3 (Nat.ne_of_gt HL2.out); clear HT hk hv1 hv2 hv3; have HT := Aside0.mk hT; clear hT; have hv1 := m1; clear m1; have hv2 := m2; clear m2; have hv3 := m3; clear m3)
              | (go_at_call 20; (with_reducible refine (CR1.out _ _ HT.out).mono ?_); rintro e w1 ⟨rfl, hT, hk⟩; have m1 := keep_cell hk hv1 (Nat.ne_of_gt HL1.out); have m2 := keep_cell hk hv2 (Nat.ne_of_gt HL1.out); have m3 := keep_cell hk hv3 (Nat.ne_of_gt HL1.out); clear HT hk hv1 hv2 hv3; have HT := Aside0.mk hT; clear hT; have hv1 := m1; clear m1; have hv2 := m2; clear m2; have hv3 := m3; clear m3)
              | (go_at_call 20; (with_reducible refine (CR2.out _ _ HT.out).mono ?_); rintro e w1 ⟨rfl, hT, hk⟩; have m1 := keep_cell hk hv1 (Nat.ne_of_gt HL2.out); have m2 := keep_cell hk hv2 (Nat.ne_of_gt HL2.out); have m3 := keep_cell hk hv3 (Nat.ne_of_gt HL2.out); clear HT hk hv1 hv2 hv3; have HT := Aside0.mk hT; clear hT; have hv1 := m1; clear m1; have hv2 := m2; clear m2; have hv3 := m3; clear m3))
            go_roundw
            case rel => exact ⟨k + 1, s2, by omega, by simp, HT, HS2⟩
            case measure => simp [intOf]; omega)
        · go_wp2
          go_ret
          exact ⟨rfl, HT.out.hb⟩
set_option maxHeartbeats 4000000 in
set_option maxRecDepth 100000 in
theorem resets_long (A0 : Option Addr) (m c0 : Nat) (A1 : Option Addr) (m1 c1 : Nat) (A2 : Option Addr) (n c2 : Nat) (w : World) (hLd : Laid w) (b : Bool) (hl : ∀ w, Calls Tryd.prog 9 #[.slice A0 m c0, .slice A2 n c2] w fun e w' => e = .returned (.bool b) ∧ Below w.heap.size w w') (hd : b = false → decide ((1300 : Int) < (m1 : Int)) = true) :
    Calls Tryd.prog 4 #[.slice A0 m c0, .slice A1 m1 c1, .slice A2 n c2] w fun e w' => e = .returned (.bool true) ∧ Below w.heap.size w w' := by
  have HB := Aside0.mk (Below.refl w.heap.size w)
  have HLD := Aside0.mk hLd
  have HLG := Aside0.mk hl
  clear hLd hl
  cases b with
  | false =>
    have hd1 := hd rfl
    clear hd
    go_enter Tryd.func4, Tryd.ntmps4
    go_wp2_with (first
      | (go_at_call 8; (with_reducible refine (awake_any _ (HLD.out.below HB.out)).mono ?_); rintro e wa ⟨rfl, hb⟩; have HB1 := Aside0.mk (below_step HB.out hb); clear HB hb; have HB := HB1; clear HB1)
      | (go_at_call 9; (with_reducible refine (HLG.out _).mono ?_); rintro e wl ⟨rfl, hb⟩; have HB1 := Aside0.mk (below_step HB.out hb); clear HB hb; have HB := HB1; clear HB1))
    go_ret
    exact ⟨rfl, HB.out⟩
  | true =>
    clear hd
    go_enter Tryd.func4, Tryd.ntmps4
    go_wp2_with (first
      | (go_at_call 8; (with_reducible refine (awake_any _ (HLD.out.below HB.out)).mono ?_); rintro e wa ⟨rfl, hb⟩; have HB1 := Aside0.mk (below_step HB.out hb); clear HB hb; have HB := HB1; clear HB1)
      | (go_at_call 9; (with_reducible refine (HLG.out _).mono ?_); rintro e wl ⟨rfl, hb⟩; have HB1 := Aside0.mk (below_step HB.out hb); clear HB hb; have HB := HB1; clear HB1))
    go_ret
    exact ⟨rfl, HB.out⟩

theorem resets_row (a0 : Option Addr) (len0 cap0 : Nat) (z0 : List Int) (a1 : Option Addr) (len1 cap1 : Nat) (z1 : List Int) (a2 : Option Addr) (len2 cap2 : Nat) (z2 : List (List Int)) (w : World) (hLd : Laid w) (w0 : (a0 = none ∧ len0 = 0 ∧ cap0 = 0 ∧ z0 = []) ∨ ∃ x, a0 = some x ∧ len0 ≤ cap0 ∧ cap0 ≤ maxLen ∧ z0.length = cap0 ∧ (∀ i, i < z0.length → w.cell? (x.add i) = some (.int .u8 (z0.getD i 0))) ∧ ∀ n ∈ z0, (Lit.int .u8 n).wf = true) (w1 : (a1 = none ∧ len1 = 0 ∧ cap1 = 0 ∧ z1 = []) ∨ ∃ x, a1 = some x ∧ len1 ≤ cap1 ∧ cap1 ≤ maxLen ∧ z1.length = cap1 ∧ (∀ i, i < z1.length → w.cell? (x.add i) = some (.int .u8 (z1.getD i 0))) ∧ ∀ n ∈ z1, (Lit.int .u8 n).wf = true) (w2 : StructRows.Rows [.u8, .i64, .i64, .i64] w a2 len2 cap2 z2) :
    Calls Tryd.prog 4 #[.slice a0 len0 cap0, .slice a1 len1 cap1, .slice a2 len2 cap2] w fun e w' => e = .returned (.bool true) ∧ Below w.heap.size w w' := by
  obtain ⟨l0, rfl, hr0, hm0, hw0, hc0⟩ := ReadsInt.ofRowC w0
  obtain ⟨l1, rfl, hr1, hm1, hw1, hc1⟩ := ReadsInt.ofRowC w1
  obtain ⟨hD, _, hop⟩ := ops31 w2
  by_cases hm : l0.length ≤ 1300
  · by_cases hn : len2 ≤ 200
    · by_cases hm2 : l1.length ≤ 1300
      · exact resets_at l0 l1 _ _ (z2.map to31) len2 rfl (fun x h => Math.wf_u8 (hw0 x h)) hm rfl (fun x h => Math.wf_u8 (hw1 x h)) hm2 hD.1 hn (fun o ho => ⟨Math.wf_u8 (hop o ho).1, Math.wf_i64 (hop o ho).2.1, Math.wf_i64 (hop o ho).2.2.1, Math.wf_i64 (hop o ho).2.2.2⟩) a0 cap0 a1 cap1 a2 cap2 w hLd (Kd.C_of_reads (d := (0 : Int)) (h1 := fun _ => rfl) hr0) hc0 (Kd.C_of_reads (d := (0 : Int)) (h1 := fun _ => rfl) hr1) hc1 hD
      · exact resets_long _ _ _ _ _ _ _ _ _ w hLd false (fun w => long_no _ _ _ _ _ _ w (decide_eq_false (by omega)) (decide_eq_false (by omega))) (fun _ => decide_eq_true (by omega))
    · exact resets_long _ _ _ _ _ _ _ _ _ w hLd true (fun w => long_2 _ _ _ _ _ _ w (decide_eq_false (by omega)) (decide_eq_true (by omega))) (fun h => by cases h)
  · exact resets_long _ _ _ _ _ _ _ _ _ w hLd true (fun w => long_1 _ _ _ _ _ _ w (decide_eq_true (by omega))) (fun h => by cases h)
end Go.Proofs.YtdfgoahfaebooaaDoor.SwLaw
