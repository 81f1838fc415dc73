import Derived.Test.YtdfgoahfaebooaaDoorSwLib
import Derived.Test.YtdfgoahfaebooaaDoorRdFace
namespace Go.Proofs.YtdfgoahfaebooaaDoor.SwLaw
open Go.RowKit Go.Proofs.YtdfgoahfaebooaaDoorW.PrintWords Go.Proofs.YtdfgoahfaebooaaDoorW.PrintLast Go.Proofs.YtdfgoahfaebooaaDoorW.PrintMore
open Go.Proofs.YtdfgoahfaebooaaDoor.Rd (St by_ Bytes)
open Go.Proofs.YtdfgoahfaebooaaDoor.SwWalk
open Go.Proofs.YtdfgoahfaebooaaDoor.RdWalk (RdAt rd_new rd_get rd_take rd_raw rd_left rd_rng)
set_option linter.unusedVariables false
set_option linter.unusedSimpArgs false
/-- Two readers side by side. -/
structure SwRd (w0 w : World) (g1 g2 : Nat) (B : List Int) (s1 s2 : St) : Prop where
  x : SwW w0.heap.size w g1 B s1
  y : RdAt w g2 B s2
  ne : g1 ≠ g2
  h2 : w0.heap.size ≤ g2
  hb : Below w0.heap.size w0 w
  hL : Laid w0
section
variable {w0 w w' : World} {g1 g2 : Nat} {B : List Int} {s1 s2 s' : St}
theorem SwRd.at1 (T : SwRd w0 w g1 g2 B s1 s2) (hI : SwW w0.heap.size w' g1 B s') (hb : Below g1 w w') (hk : KeepBut w w' g1 none) : SwRd w0 w' g1 g2 B s' s2 :=
  ⟨hI, T.y.move hk (Ne.symm T.ne) T.x.noByte, T.ne, T.h2, T.hb.trans (hb.mono T.x.ge), T.hL⟩
theorem SwRd.at2 (T : SwRd w0 w g1 g2 B s1 s2) (hI : RdAt w' g2 B s') (hb : Below g2 w w') (hk : KeepBut w w' g2 none) : SwRd w0 w' g1 g2 B s1 s' :=
  ⟨T.x.move hk T.ne (by obtain ⟨_, _, hg, _, _⟩ := T.y; exact ⟨_, hg⟩) (by decide), hI, T.ne, T.h2, T.hb.trans (hb.mono T.h2), T.hL⟩
theorem SwRd.below (T : SwRd w0 w g1 g2 B s1 s2) (hb : Below w.heap.size w w') : SwRd w0 w' g1 g2 B s1 s2 :=
  ⟨T.x.below hb, T.y.below hb, T.ne, T.h2, T.hb.trans (hb.mono (Nat.le_trans T.x.ge (Nat.le_of_lt T.x.lt))), T.hL⟩
theorem SwRd.laid (T : SwRd w0 w g1 g2 B s1 s2) : Laid w := T.hL.below T.hb
theorem SwRd.lt1 (T : SwRd w0 w g1 g2 B s1 s2) : g1 < w.heap.size := T.x.lt
theorem SwRd.lt2 (T : SwRd w0 w g1 g2 B s1 s2) : g2 < w.heap.size := RdWalk.at_lt T.y
end
set_option maxHeartbeats 8000000 in
set_option maxRecDepth 100000 in
theorem alike_at (B : List Int) (m : Nat) (l : List S31) (n : Nat) (hm : B.length = m) (hB : Bytes B) (hl : m ≤ 1300) (hn : l.length = n) (hn2 : n ≤ 200) (hop : ∀ o ∈ l, (0 ≤ o.f0 ∧ o.f0 ≤ 255) ∧ I64 o.f1 ∧ I64 o.f2 ∧ I64 o.f3)
    (A0 : Option Addr) (c0 : Nat) (A1 : Option Addr) (c1 : Nat) (w : World) (hLd : Laid w) (hC : Kd.C (Kd.int .u8) w A0 m B) (hc : m ≤ c0) (hD : Kd.C k31 w A1 n l) :
    Calls Tryd.prog 6 #[.slice A0 m c0, .slice A1 n c1] w fun e w' => e = .returned (.bool true) ∧ Below w.heap.size w w' := by
  have HB := Aside0.mk (Below.refl w.heap.size w)
  have HLD := Aside0.mk hLd
  have HM := Aside0.mk hm
  have HBy := Aside0.mk hB
  have HC := Aside0.mk hC
  have HD := Aside0.mk hD
  have HN := Aside0.mk hn
  have HOP := Aside0.mk hop
  clear hLd hm hB hC hD hn hop
  have hd1 : decide ((1300 : Int) < (m : Int)) = false := decide_eq_false (by omega)
  have hd2 : decide ((200 : Int) < (n : Int)) = false := decide_eq_false (by omega)
  go_enter Tryd.func6, Tryd.ntmps6
  go_wp2_with (first
    | (go_at_call 8; (with_reducible refine (awake_any _ (HLD.out.below HB.out)).mono ?_); rintro e wa ⟨rfl, hb⟩; have HB1 := Aside0.mk (below_step HB.out hb); clear HB hb; have HB := HB1; clear HB1)
    | (go_at_call 9; (with_reducible refine (long_no A0 m c0 A1 n c1 _ hd1 hd2).mono ?_); rintro e wl ⟨rfl, hb⟩; have HB1 := Aside0.mk (below_step HB.out hb); clear HB hb; have HB := HB1; clear HB1)
    | (go_at_call 10; (with_reducible refine (new_any B HBy.out m HM.out (by omega) A0 c0 _ (Kd.C_below HC.out HB.out) hc).mono ?_); rintro e wx ⟨g1, rfl, hI, hb⟩; have HX : Aside0 (SwW w.heap.size wx g1 B (Rd.new B)) := ⟨(hI.lower HB.out.size).w0⟩; have HBw := Aside0.mk (below_step HB.out hb); clear HB hb hI)
    | (go_at_call 22; (with_reducible refine (rd_new B m HM.out HBy.out (by omega) A0 c0 _ (Kd.C_below HC.out HBw.out) hc).mono ?_); rintro e wy ⟨g2, rfl, hI, hg, hb⟩; have HT : Aside0 (SwRd w wy g1 g2 B (Rd.new B) (Rd.new B)) := ⟨⟨HX.out.below hb, hI, Nat.ne_of_lt (Nat.lt_of_lt_of_le HX.out.lt hg), Nat.le_trans HBw.out.size hg, below_step HBw.out hb, HLD.out⟩⟩; clear HX HBw hI hb hg))
  go_loopw [7] (fun jv wr => ∃ (j : Nat) (s : St), j ≤ 3 ∧ jv = .int .i64 j ∧ Aside0 (SwRd w wr g1 g2 B s s) ∧ Aside0 (Rd.Good s ∧ s.t ≤ 3 + 2 * (200 * j) ∧ s.r ≤ 16 * (200 * j))) (fun jv _ => (3 - intOf jv).toNat)
  case atStart => exact ⟨0, Rd.new B, by omega, rfl, HT, ⟨Rd.new_good HBy.out, by simp [Rd.new], by simp [Rd.new]⟩⟩
  case round =>
    obtain ⟨j, s0, hj, rfl, HT2, HS0⟩ := hrel
    clear HT
    have HT := HT2
    clear HT2
    by_cases hj3 : j < 3
    · have hd3 : decide ((j : Int) < 3) = true := decide_eq_true (by omega)
      go_wp2
      try rw [hd3]
      go_loopw [25] (fun i wr => ∃ (k : Nat) (s : St), k ≤ n ∧ i = .int .i64 k ∧ Aside0 (SwRd w wr g1 g2 B s s) ∧ Aside0 (Rd.Good s ∧ s.t ≤ 3 + 2 * (200 * j + k) ∧ s.r ≤ 16 * (200 * j + k))) (fun i _ => (n - intOf i).toNat)
      case atStart => exact ⟨0, s0, by omega, rfl, HT, HS0⟩
      case round =>
        obtain ⟨k, s, hk, rfl, HT2, HS⟩ := hrel
        clear HT HS0
        have HT := HT2
        clear HT2
        by_cases ht : k < n
        ·
          obtain ⟨ad, hA, hc0, hc1, hc2, hc3⟩ := at_T31 (Kd.C_below HD.out (HT.out.hb)) (k : Int) (by omega) (by omega)
          obtain ⟨hK0, hF0, hT0, hN0⟩ := HOP.out (rd_T31 l k) (by unfold rd_T31; rw [Int.toNat_natCast, List.getD_eq_getElem?_getD, List.getElem?_eq_getElem (by rw [HN.out]; exact ht)]; exact List.getElem_mem _)
          rw [Int.toNat_natCast] at hc0 hc1 hc2 hc3
          obtain ⟨⟨K, F, T, N⟩, ho⟩ : ∃ o, rd_T31 l k = o := ⟨_, rfl⟩
          rw [ho] at hc0 hc1 hc2 hc3 hK0 hF0 hT0 hN0
          simp only at hc0 hc1 hc2 hc3 hK0 hF0 hT0 hN0
          have HK0 := Aside0.mk hK0
          have HF0 := Aside0.mk hF0
          have HT0 := Aside0.mk hT0
          have HN0 := Aside0.mk hN0
          clear ho hK0 hF0 hT0 hN0
          subst hA
          have HL1 := Aside0.mk HT.out.lt1
          have HL2 := Aside0.mk HT.out.lt2
          obtain ⟨Q, hQ⟩ : ∃ Q, Rd.get s N = Q := ⟨_, rfl⟩
          obtain ⟨Q3, hQ3⟩ : ∃ Q, Rd.get s T = Q := ⟨_, rfl⟩
          have CG1 : Aside0 (∀ wz so, SwRd w wz g1 g2 B s so → Calls Tryd.prog 12 #[.pointer (some ⟨g1, 0, none⟩), .int .i64 N] wz fun e w' => e = .returned (.int .i64 Q) ∧ SwRd w w' g1 g2 B s so ∧ KeepBut wz w' g1 none) := ⟨fun wz so T => (hQ ▸ sw_get' HS.out.1 HN0.out T.laid T.x).mono (fun e w' h => ⟨h.1, T.at1 h.2.1 h.2.2.1 h.2.2.2, h.2.2.2⟩)⟩
          have CG2 : Aside0 (∀ wz so, SwRd w wz g1 g2 B so s → Calls Tryd.prog 23 #[.pointer (some ⟨g2, 0, none⟩), .int .i64 N] wz fun e w' => e = .returned (.int .i64 Q) ∧ SwRd w w' g1 g2 B so s ∧ KeepBut wz w' g2 none) := ⟨fun wz so T => (hQ ▸ rd_get HS.out.1 N T.y).mono (fun e w' h => ⟨h.1, T.at2 h.2.1 h.2.2.1 h.2.2.2, h.2.2.2⟩)⟩
          have CH1 : Aside0 (∀ wz so, SwRd w wz g1 g2 B s so → Calls Tryd.prog 12 #[.pointer (some ⟨g1, 0, none⟩), .int .i64 T] wz fun e w' => e = .returned (.int .i64 Q3) ∧ SwRd w w' g1 g2 B s so ∧ KeepBut wz w' g1 none) := ⟨fun wz so T => (hQ3 ▸ sw_get' HS.out.1 HT0.out T.laid T.x).mono (fun e w' h => ⟨h.1, T.at1 h.2.1 h.2.2.1 h.2.2.2, h.2.2.2⟩)⟩
          have CH2 : Aside0 (∀ wz so, SwRd w wz g1 g2 B so s → Calls Tryd.prog 23 #[.pointer (some ⟨g2, 0, none⟩), .int .i64 T] wz fun e w' => e = .returned (.int .i64 Q3) ∧ SwRd w w' g1 g2 B so s ∧ KeepBut wz w' g2 none) := ⟨fun wz so T => (hQ3 ▸ rd_get HS.out.1 _ T.y).mono (fun e w' h => ⟨h.1, T.at2 h.2.1 h.2.2.1 h.2.2.2, h.2.2.2⟩)⟩
          clear hQ hQ3
          by_cases h0 : K % 3 = 2
          · have hf : Int.tmod K 3 = 2 := by rw [Int.tmod_eq_emod_of_nonneg HK0.out.1]; exact h0
            obtain ⟨R, hR⟩ : ∃ R, Rd.raw B s.r (Rd.cl T) = R := ⟨_, rfl⟩
            obtain ⟨s2, hs2⟩ : ∃ s2, rawn s T = s2 := ⟨_, rfl⟩
            have hs2' : RdWalk.rawn s T = s2 := hs2
            have HS2 : Aside0 (Rd.Good s2 ∧ s2.t ≤ 3 + 2 * (200 * j + (k + 1)) ∧ s2.r ≤ 16 * (200 * j + (k + 1))) := ⟨by
              rw [← hs2]
              have h := HS.out
              have := Rd.cl_le T
              refine ⟨⟨h.1.g0, h.1.g1, h.1.v0, h.1.v1⟩, ?_, ?_⟩ <;> simp only [rawn] <;> omega⟩
            have b0 : s.r ≤ 90000 := by have := HS.out.2.2; omega
            have CW1 : Aside0 (∀ wz so, SwRd w wz g1 g2 B s so → Calls Tryd.prog 16 #[.pointer (some ⟨g1, 0, none⟩), .int .i64 T] wz fun e w' => e = .returned (.int .u32 R) ∧ SwRd w w' g1 g2 B s2 so ∧ KeepBut wz w' g1 none) := ⟨fun wz so T => (hR ▸ hs2 ▸ sw_raw HBy.out (by rw [HM.out]; omega) b0 _ T.x).mono (fun e w' h => ⟨h.1, T.at1 h.2.1 h.2.2.1 h.2.2.2, h.2.2.2⟩)⟩
            have CW2 : Aside0 (∀ wz so, SwRd w wz g1 g2 B so s → Calls Tryd.prog 24 #[.pointer (some ⟨g2, 0, none⟩), .int .i64 T] wz fun e w' => e = .returned (.int .u32 R) ∧ SwRd w w' g1 g2 B so s2 ∧ KeepBut wz w' g2 none) := ⟨fun wz so T => (hR ▸ hs2' ▸ rd_raw HBy.out (by rw [HM.out]; omega) b0 _ T.y).mono (fun e w' h => ⟨h.1, T.at2 h.2.1 h.2.2.1 h.2.2.2, h.2.2.2⟩)⟩
            clear hR hs2 hs2' b0
            have b2 : s2.t ≤ 10000 := by have := HS2.out.2.1; omega
            have b3 : s2.r ≤ 100000 := by have := HS2.out.2.2; omega
            obtain ⟨L, hL⟩ : ∃ L, left B s2 = L := ⟨_, rfl⟩
            have hLr : RdWalk.left B s2 = L := hL
            obtain ⟨G', hG'⟩ : ∃ G', s2.g = G' := ⟨_, rfl⟩
            have CL1 : Aside0 (∀ wz so, SwRd w wz g1 g2 B s2 so → Calls Tryd.prog 18 #[.pointer (some ⟨g1, 0, none⟩)] wz fun e w' => e = .returned (.int .i64 L) ∧ SwRd w w' g1 g2 B s2 so ∧ KeepBut wz w' g1 none) := ⟨fun wz so T => (hL ▸ sw_left' (by rw [HM.out]; omega) b2 b3 T.x).mono (fun e w' h => ⟨h.1, T.at1 h.2.1 h.2.2.1 h.2.2.2, h.2.2.2⟩)⟩
            have CL2 : Aside0 (∀ wz so, SwRd w wz g1 g2 B so s2 → Calls Tryd.prog 26 #[.pointer (some ⟨g2, 0, none⟩)] wz fun e w' => e = .returned (.int .i64 L) ∧ SwRd w w' g1 g2 B so s2 ∧ KeepBut wz w' g2 none) := ⟨fun wz so T => (hLr ▸ rd_left (by rw [HM.out]; omega) b2 b3 T.y).mono (fun e w' h => ⟨h.1, T.at2 h.2.1 h.2.2.1 h.2.2.2, h.2.2.2⟩)⟩
            have CR1 : Aside0 (∀ wz so, SwRd w wz g1 g2 B s2 so → Calls Tryd.prog 20 #[.pointer (some ⟨g1, 0, none⟩)] wz fun e w' => e = .returned (.int .u32 G') ∧ SwRd w w' g1 g2 B s2 so ∧ KeepBut wz w' g1 none) := ⟨fun wz so T => (hG' ▸ sw_rng' T.x).mono (fun e w' h => ⟨h.1, T.at1 h.2.1 h.2.2.1 h.2.2.2, h.2.2.2⟩)⟩
            have CR2 : Aside0 (∀ wz so, SwRd w wz g1 g2 B so s2 → Calls Tryd.prog 27 #[.pointer (some ⟨g2, 0, none⟩)] wz fun e w' => e = .returned (.int .u32 G') ∧ SwRd w w' g1 g2 B so s2 ∧ KeepBut wz w' g2 none) := ⟨fun wz so T => (hG' ▸ rd_rng T.y).mono (fun e w' h => ⟨h.1, T.at2 h.2.1 h.2.2.1 h.2.2.2, h.2.2.2⟩)⟩
            clear hL hLr hG' b2 b3
            have HTd : Aside0 (SwRd w (wr.alloc (Obj.cells #[Value.int .u8 K, Value.int .i64 F, Value.int .i64 T, Value.int .i64 N] 31)).drew g1 g2 B s s) := ⟨HT.out.below (below_drew1 (below_alloc (Below.refl _ _) _))⟩
            clear HT
            go_wp2
            go_region_held3 (fun wz => wz.cell? ⟨wr.heap.size, 0, none⟩ = some (.int .u8 K) ∧ wz.cell? ⟨wr.heap.size, 1, none⟩ = some (.int .i64 F) ∧ wz.cell? ⟨wr.heap.size, 2, none⟩ = some (.int .i64 T) ∧ wz.cell? ⟨wr.heap.size, 3, none⟩ = some (.int .i64 N))
              (first | exact ⟨by simp, by simp, by simp, by simp⟩ | (go_split_ands; exact ⟨keep_cell hk (by assumption) (Nat.ne_of_gt HL1.out), keep_cell hk (by assumption) (Nat.ne_of_gt HL1.out), keep_cell hk (by assumption) (Nat.ne_of_gt HL1.out), keep_cell hk (by assumption) (Nat.ne_of_gt HL1.out)⟩) | (go_split_ands; exact ⟨keep_cell hk (by assumption) (Nat.ne_of_gt HL2.out), keep_cell hk (by assumption) (Nat.ne_of_gt HL2.out), keep_cell hk (by assumption) (Nat.ne_of_gt HL2.out), keep_cell hk (by assumption) (Nat.ne_of_gt HL2.out)⟩))
              (first | (go_at_call 12; (with_reducible refine (CG1.out _ _ (Aside0.out (by assumption))).mono ?_); rintro e w3 ⟨rfl, hT, hk⟩; have hT2 := Aside0.mk hT) | (go_at_call 23; (with_reducible refine (CG2.out _ _ (Aside0.out (by assumption))).mono ?_); rintro e w3 ⟨rfl, hT, hk⟩; have hT2 := Aside0.mk hT) | (go_at_call 12; (with_reducible refine (CH1.out _ _ (Aside0.out (by assumption))).mono ?_); rintro e w3 ⟨rfl, hT, hk⟩; have hT2 := Aside0.mk hT) | (go_at_call 23; (with_reducible refine (CH2.out _ _ (Aside0.out (by assumption))).mono ?_); rintro e w3 ⟨rfl, hT, hk⟩; have hT2 := Aside0.mk hT))
            all_goals (
              rename_i hH
              have hv0 := hH.1
              have hv1 := hH.2.1
              have hv2 := hH.2.2.1
              have hv3 := hH.2.2.2
              have HT := hT2
              clear hH
              go_wp2
              go_region_held3 (fun wz => wz.cell? ⟨wr.heap.size, 2, none⟩ = some (.int .i64 T))
                (first | exact (World.cell?_drew _ _).trans hv2 | (go_split_ands; exact keep_cell hk (by assumption) (Nat.ne_of_gt HL1.out)) | (go_split_ands; exact keep_cell hk (by assumption) (Nat.ne_of_gt HL2.out)) | exact keep_cell hk (by assumption) (Nat.ne_of_gt HL1.out) | exact keep_cell hk (by assumption) (Nat.ne_of_gt HL2.out))
                (first | (go_at_call 16; (first | (with_reducible refine (CW1.out _ _ (Aside0.out (by assumption))).mono ?_) | (with_reducible refine (CW1.out _ _ (HT.out.below (below_drew1 (Below.refl _ _)))).mono ?_)); rintro e w3 ⟨rfl, hT, hk⟩; have hT2 := Aside0.mk hT) | (go_at_call 24; (first | (with_reducible refine (CW2.out _ _ (Aside0.out (by assumption))).mono ?_) | (with_reducible refine (CW2.out _ _ (HT.out.below (below_drew1 (Below.refl _ _)))).mono ?_)); rintro e w3 ⟨rfl, hT, hk⟩; have hT2 := Aside0.mk hT))
              all_goals (
                clear HT
                have HT := hT2
                clear hT2 hv0 hv1 hv2 hv3
                go_wp2_with       (first
                  | (go_at_call 18; (with_reducible refine (CL1.out _ _ HT.out).mono ?_); rintro e w1 ⟨rfl, hT, hk⟩;  clear HT hk; have HT := Aside0.mk hT; clear hT)
                  | (go_at_call 26; (with_reducible refine (CL2.out _ _ HT.out).mono ?_); rintro e w1 ⟨rfl, hT, hk⟩;  clear HT hk; have HT := Aside0.mk hT; clear hT)
                  | (go_at_call 20; (with_reducible refine (CR1.out _ _ HT.out).mono ?_); rintro e w1 ⟨rfl, hT, hk⟩;  clear HT hk; have HT := Aside0.mk hT; clear hT)
                  | (go_at_call 27; (with_reducible refine (CR2.out _ _ HT.out).mono ?_); rintro e w1 ⟨rfl, hT, hk⟩;  clear HT hk; have HT := Aside0.mk hT; clear hT))
                go_roundw
                case rel => exact ⟨k + 1, s2, by omega, by simp, HT, HS2⟩
                case measure => simp [intOf]; omega))
          · have hf : ¬ Int.tmod K 3 = 2 := by rw [Int.tmod_eq_emod_of_nonneg HK0.out.1]; exact h0
            have hf2 : (Int.tmod K 3 == 2) = false := beq_eq_false_iff_ne.2 hf
            obtain ⟨s2, hs2⟩ : ∃ s2, Rd.take B s F T N = s2 := ⟨_, rfl⟩
            have HS2 : Aside0 (Rd.Good s2 ∧ s2.t ≤ 3 + 2 * (200 * j + (k + 1)) ∧ s2.r ≤ 16 * (200 * j + (k + 1))) := ⟨by
              rw [← hs2]
              refine ⟨Rd.take_good HBy.out HS.out.1 _ _ _, ?_, by rw [Rd.take_r]; have := HS.out.2.2; omega⟩
              have := (Rd.take_t B s F T N).2
              have := HS.out.2.1
              omega⟩
            have b1 : s.t ≤ 9990 := by have := HS.out.2.1; omega
            have CT1 : Aside0 (∀ wz so, SwRd w wz g1 g2 B s so → Calls Tryd.prog 14 #[.pointer (some ⟨g1, 0, none⟩), .int .i64 F, .int .i64 T, .int .i64 N] wz fun e w' => e = .returned (.tuple #[]) ∧ SwRd w w' g1 g2 B s2 so ∧ KeepBut wz w' g1 none) := ⟨fun wz so T => (hs2 ▸ sw_take' HBy.out (by rw [HM.out]; omega) HS.out.1 b1 _ _ HN0.out T.laid T.x).mono (fun e w' h => ⟨h.1, T.at1 h.2.1 h.2.2.1 h.2.2.2, h.2.2.2⟩)⟩
            have CT2 : Aside0 (∀ wz so, SwRd w wz g1 g2 B so s → Calls Tryd.prog 25 #[.pointer (some ⟨g2, 0, none⟩), .int .i64 F, .int .i64 T, .int .i64 N] wz fun e w' => e = .returned (.tuple #[]) ∧ SwRd w w' g1 g2 B so s2 ∧ KeepBut wz w' g2 none) := ⟨fun wz so T => (hs2 ▸ rd_take HBy.out (by rw [HM.out]; omega) HS.out.1 b1 _ _ _ T.y).mono (fun e w' h => ⟨h.1, T.at2 h.2.1 h.2.2.1 h.2.2.2, h.2.2.2⟩)⟩
            clear hs2 b1
            have b2 : s2.t ≤ 10000 := by have := HS2.out.2.1; omega
            have b3 : s2.r ≤ 100000 := by have := HS2.out.2.2; omega
            obtain ⟨L, hL⟩ : ∃ L, left B s2 = L := ⟨_, rfl⟩
            have hLr : RdWalk.left B s2 = L := hL
            obtain ⟨G', hG'⟩ : ∃ G', s2.g = G' := ⟨_, rfl⟩
            have CL1 : Aside0 (∀ wz so, SwRd w wz g1 g2 B s2 so → Calls Tryd.prog 18 #[.pointer (some ⟨g1, 0, none⟩)] wz fun e w' => e = .returned (.int .i64 L) ∧ SwRd w w' g1 g2 B s2 so ∧ KeepBut wz w' g1 none) := ⟨fun wz so T => (hL ▸ sw_left' (by rw [HM.out]; omega) b2 b3 T.x).mono (fun e w' h => ⟨h.1, T.at1 h.2.1 h.2.2.1 h.2.2.2, h.2.2.2⟩)⟩
            have CL2 : Aside0 (∀ wz so, SwRd w wz g1 g2 B so s2 → Calls Tryd.prog 26 #[.pointer (some ⟨g2, 0, none⟩)] wz fun e w' => e = .returned (.int .i64 L) ∧ SwRd w w' g1 g2 B so s2 ∧ KeepBut wz w' g2 none) := ⟨fun wz so T => (hLr ▸ rd_left (by rw [HM.out]; omega) b2 b3 T.y).mono (fun e w' h => ⟨h.1, T.at2 h.2.1 h.2.2.1 h.2.2.2, h.2.2.2⟩)⟩
            have CR1 : Aside0 (∀ wz so, SwRd w wz g1 g2 B s2 so → Calls Tryd.prog 20 #[.pointer (some ⟨g1, 0, none⟩)] wz fun e w' => e = .returned (.int .u32 G') ∧ SwRd w w' g1 g2 B s2 so ∧ KeepBut wz w' g1 none) := ⟨fun wz so T => (hG' ▸ sw_rng' T.x).mono (fun e w' h => ⟨h.1, T.at1 h.2.1 h.2.2.1 h.2.2.2, h.2.2.2⟩)⟩
            have CR2 : Aside0 (∀ wz so, SwRd w wz g1 g2 B so s2 → Calls Tryd.prog 27 #[.pointer (some ⟨g2, 0, none⟩)] wz fun e w' => e = .returned (.int .u32 G') ∧ SwRd w w' g1 g2 B so s2 ∧ KeepBut wz w' g2 none) := ⟨fun wz so T => (hG' ▸ rd_rng T.y).mono (fun e w' h => ⟨h.1, T.at2 h.2.1 h.2.2.1 h.2.2.2, h.2.2.2⟩)⟩
            clear hL hLr hG' b2 b3
            have HTd : Aside0 (SwRd w (wr.alloc (Obj.cells #[Value.int .u8 K, Value.int .i64 F, Value.int .i64 T, Value.int .i64 N] 31)).drew g1 g2 B s s) := ⟨HT.out.below (below_drew1 (below_alloc (Below.refl _ _) _))⟩
            clear HT
            go_wp2
            go_region_held3 (fun wz => wz.cell? ⟨wr.heap.size, 0, none⟩ = some (.int .u8 K) ∧ wz.cell? ⟨wr.heap.size, 1, none⟩ = some (.int .i64 F) ∧ wz.cell? ⟨wr.heap.size, 2, none⟩ = some (.int .i64 T) ∧ wz.cell? ⟨wr.heap.size, 3, none⟩ = some (.int .i64 N))
              (first | exact ⟨by simp, by simp, by simp, by simp⟩ | (go_split_ands; exact ⟨keep_cell hk (by assumption) (Nat.ne_of_gt HL1.out), keep_cell hk (by assumption) (Nat.ne_of_gt HL1.out), keep_cell hk (by assumption) (Nat.ne_of_gt HL1.out), keep_cell hk (by assumption) (Nat.ne_of_gt HL1.out)⟩) | (go_split_ands; exact ⟨keep_cell hk (by assumption) (Nat.ne_of_gt HL2.out), keep_cell hk (by assumption) (Nat.ne_of_gt HL2.out), keep_cell hk (by assumption) (Nat.ne_of_gt HL2.out), keep_cell hk (by assumption) (Nat.ne_of_gt HL2.out)⟩))
              (first | (go_at_call 12; (with_reducible refine (CG1.out _ _ (Aside0.out (by assumption))).mono ?_); rintro e w3 ⟨rfl, hT, hk⟩; have hT2 := Aside0.mk hT) | (go_at_call 23; (with_reducible refine (CG2.out _ _ (Aside0.out (by assumption))).mono ?_); rintro e w3 ⟨rfl, hT, hk⟩; have hT2 := Aside0.mk hT) | (go_at_call 12; (with_reducible refine (CH1.out _ _ (Aside0.out (by assumption))).mono ?_); rintro e w3 ⟨rfl, hT, hk⟩; have hT2 := Aside0.mk hT) | (go_at_call 23; (with_reducible refine (CH2.out _ _ (Aside0.out (by assumption))).mono ?_); rintro e w3 ⟨rfl, hT, hk⟩; have hT2 := Aside0.mk hT))
            all_goals (
              rename_i hH
              have hv0 := hH.1
              have hv1 := hH.2.1
              have hv2 := hH.2.2.1
              have hv3 := hH.2.2.2
              have HT := hT2
              clear hH
              go_wp2_with     (first
                | (go_at_call 14; (with_reducible refine (CT1.out _ _ HT.out).mono ?_); rintro e w1 ⟨rfl, hT, hk⟩; have m0 := keep_cell hk hv0 (Nat.ne_of_gt HL1.out); have m1 := keep_cell hk hv1 (Nat.ne_of_gt HL1.out); have m2 := keep_cell hk hv2 (Nat.ne_of_gt HL1.out); have m3 := keep_cell hk hv3 (Nat.ne_of_gt HL1.out); clear HT hk hv0 hv1 hv2 hv3; have HT := Aside0.mk hT; clear hT; have hv0 := m0; clear m0; have hv1 := m1; clear m1; have hv2 := m2; clear m2; have hv3 := m3; clear m3)
                | (go_at_call 25; (with_reducible refine (CT2.out _ _ HT.out).mono ?_); rintro e w1 ⟨rfl, hT, hk⟩; have m0 := keep_cell hk hv0 (Nat.ne_of_gt HL2.out); have m1 := keep_cell hk hv1 (Nat.ne_of_gt HL2.out); have m2 := keep_cell hk hv2 (Nat.ne_of_gt HL2.out); have m3 := keep_cell hk hv3 (Nat.ne_of_gt HL2.out); clear HT hk hv0 hv1 hv2 hv3; have HT := Aside0.mk hT; clear hT; have hv0 := m0; clear m0; have hv1 := m1; clear m1; have hv2 := m2; clear m2; have hv3 := m3; clear m3)
                | (go_at_call 18; (with_reducible refine (CL1.out _ _ HT.out).mono ?_); rintro e w1 ⟨rfl, hT, hk⟩; have m0 := keep_cell hk hv0 (Nat.ne_of_gt HL1.out); have m1 := keep_cell hk hv1 (Nat.ne_of_gt HL1.out); have m2 := keep_cell hk hv2 (Nat.ne_of_gt HL1.out); have m3 := keep_cell hk hv3 (Nat.ne_of_gt HL1.out); clear HT hk hv0 hv1 hv2 hv3; have HT := Aside0.mk hT; clear hT; have hv0 := m0; clear m0; have hv1 := m1; clear m1; have hv2 := m2; clear m2; have hv3 := m3; clear m3)
                | (go_at_call 26; (with_reducible refine (CL2.out _ _ HT.out).mono ?_); rintro e w1 ⟨rfl, hT, hk⟩; have m0 := keep_cell hk hv0 (Nat.ne_of_gt HL2.out); have m1 := keep_cell hk hv1 (Nat.ne_of_gt HL2.out); have m2 := keep_cell hk hv2 (Nat.ne_of_gt HL2.out); have m3 := keep_cell hk hv3 (Nat.ne_of_gt HL2.out); clear HT hk hv0 hv1 hv2 hv3; have HT := Aside0.mk hT; clear hT; have hv0 := m0; clear m0; have hv1 := m1; clear m1; have hv2 := m2; clear m2; have hv3 := m3; clear m3)
                | (go_at_call 20; (with_reducible refine (CR1.out _ _ HT.out).mono ?_); rintro e w1 ⟨rfl, hT, hk⟩; have m0 := keep_cell hk hv0 (Nat.ne_of_gt HL1.out); have m1 := keep_cell hk hv1 (Nat.ne_of_gt HL1.out); have m2 := keep_cell hk hv2 (Nat.ne_of_gt HL1.out); have m3 := keep_cell hk hv3 (Nat.ne_of_gt HL1.out); clear HT hk hv0 hv1 hv2 hv3; have HT := Aside0.mk hT; clear hT; have hv0 := m0; clear m0; have hv1 := m1; clear m1; have hv2 := m2; clear m2; have hv3 := m3; clear m3)
                | (go_at_call 27; (with_reducible refine (CR2.out _ _ HT.out).mono ?_); rintro e w1 ⟨rfl, hT, hk⟩; have m0 := keep_cell hk hv0 (Nat.ne_of_gt HL2.out); have m1 := keep_cell hk hv1 (Nat.ne_of_gt HL2.out); have m2 := keep_cell hk hv2 (Nat.ne_of_gt HL2.out); have m3 := keep_cell hk hv3 (Nat.ne_of_gt HL2.out); clear HT hk hv0 hv1 hv2 hv3; have HT := Aside0.mk hT; clear hT; have hv0 := m0; clear m0; have hv1 := m1; clear m1; have hv2 := m2; clear m2; have hv3 := m3; clear m3))
              go_roundw
              case rel => exact ⟨k + 1, s2, by omega, by simp, HT, HS2⟩
              case measure => simp [intOf]; omega)
        · have HSJ : Aside0 (Rd.Good s ∧ s.t ≤ 3 + 2 * (200 * (j + 1)) ∧ s.r ≤ 16 * (200 * (j + 1))) := ⟨by have := HS.out; exact ⟨this.1, by omega, by omega⟩⟩
          go_wp2
          go_roundw
          case rel => exact ⟨j + 1, s, by omega, by simp, HT, HSJ⟩
          case measure => simp [intOf]; omega
    · go_wp2
      go_ret
      exact ⟨rfl, HT.out.hb⟩
set_option maxHeartbeats 4000000 in
set_option maxRecDepth 100000 in
theorem alike_long (A0 : Option Addr) (m c0 : Nat) (A1 : Option Addr) (n c1 : Nat) (w : World) (hLd : Laid w) (hl : ∀ w, Calls Tryd.prog 9 #[.slice A0 m c0, .slice A1 n c1] w fun e w' => e = .returned (.bool true) ∧ Below w.heap.size w w') :
    Calls Tryd.prog 6 #[.slice A0 m c0, .slice A1 n c1] w fun e w' => e = .returned (.bool true) ∧ Below w.heap.size w w' := by
  have HB := Aside0.mk (Below.refl w.heap.size w)
  have HLD := Aside0.mk hLd
  have HLG := Aside0.mk hl
  clear hLd hl
  go_enter Tryd.func6, Tryd.ntmps6
  go_wp2_with (first
    | (go_at_call 8; (with_reducible refine (awake_any _ (HLD.out.below HB.out)).mono ?_); rintro e wa ⟨rfl, hb⟩; have HB1 := Aside0.mk (below_step HB.out hb); clear HB hb; have HB := HB1; clear HB1)
    | (go_at_call 9; (with_reducible refine (HLG.out _).mono ?_); rintro e wl ⟨rfl, hb⟩; have HB1 := Aside0.mk (below_step HB.out hb); clear HB hb; have HB := HB1; clear HB1))
  go_ret
  exact ⟨rfl, HB.out⟩
theorem alike_row (a0 : Option Addr) (len0 cap0 : Nat) (z0 : List Int) (a1 : Option Addr) (len1 cap1 : Nat) (z1 : List (List Int)) (w : World) (hLd : Laid w) (w0 : (a0 = none ∧ len0 = 0 ∧ cap0 = 0 ∧ z0 = []) ∨ ∃ x, a0 = some x ∧ len0 ≤ cap0 ∧ cap0 ≤ maxLen ∧ z0.length = cap0 ∧ (∀ i, i < z0.length → w.cell? (x.add i) = some (.int .u8 (z0.getD i 0))) ∧ ∀ n ∈ z0, (Lit.int .u8 n).wf = true) (w1 : StructRows.Rows [.u8, .i64, .i64, .i64] w a1 len1 cap1 z1) :
    Calls Tryd.prog 6 #[.slice a0 len0 cap0, .slice a1 len1 cap1] w fun e w' => e = .returned (.bool true) ∧ Below w.heap.size w w' := by
  obtain ⟨l0, rfl, hr0, hm0, hw0, hc0⟩ := ReadsInt.ofRowC w0
  obtain ⟨hD, _, hop⟩ := ops31 w1
  by_cases hm : l0.length ≤ 1300
  · by_cases hn : len1 ≤ 200
    · exact alike_at l0 _ (z1.map to31) len1 rfl (fun x h => Math.wf_u8 (hw0 x h)) hm hD.1 hn (fun o ho => ⟨Math.wf_u8 (hop o ho).1, Math.wf_i64 (hop o ho).2.1, Math.wf_i64 (hop o ho).2.2.1, Math.wf_i64 (hop o ho).2.2.2⟩) a0 cap0 a1 cap1 w hLd (Kd.C_of_reads (d := (0 : Int)) (h1 := fun _ => rfl) hr0) hc0 hD
    · exact alike_long _ _ _ _ _ _ w hLd (fun w => long_2 _ _ _ _ _ _ w (decide_eq_false (by omega)) (decide_eq_true (by omega)))
  · exact alike_long _ _ _ _ _ _ w hLd (fun w => long_1 _ _ _ _ _ _ w (decide_eq_true (by omega)))
end Go.Proofs.YtdfgoahfaebooaaDoor.SwLaw
