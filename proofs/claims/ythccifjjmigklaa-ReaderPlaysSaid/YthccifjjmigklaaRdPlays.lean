import Derived.Test.YthccifjjmigklaaRdTwo
import Derived.Test.YthccifjjmigklaaRrFace
namespace Go.Proofs.Ythccifjjmigklaa.RdLaw
open Go.RowKit Go.Proofs.YthccifjjmigklaaW.PrintWords Go.Proofs.YthccifjjmigklaaW.PrintLast Go.Proofs.YthccifjjmigklaaW.PrintMore
open Go.Proofs.Ythccifjjmigklaa.Rd (St by_ Bytes)
open Go.Proofs.Ythccifjjmigklaa.RdWalk
open Go.Proofs.Ythccifjjmigklaa.RrWalk (RrAt rr_new rr_get rr_take rr_raw rr_left rr_rng)
set_option linter.unusedVariables false
set_option linter.unusedSimpArgs false
/-- A reader and the document's, side by side. -/
structure Pair (b : Nat) (w0 w : World) (g1 g2 : Nat) (B : List Int) (s1 s2 : St) : Prop where
  x : RdAt w g1 B s1
  y : RrAt w g2 B s2
  ne : g1 ≠ g2
  h1 : b ≤ g1
  h2 : b ≤ g2
  hb : Below b w0 w
section
variable {b : Nat} {w0 w w' : World} {g1 g2 : Nat} {B : List Int} {s1 s2 s' : St}
theorem Pair.at1 (T : Pair b w0 w g1 g2 B s1 s2) (hI : RdAt w' g1 B s') (hb : Below g1 w w') (hk : KeepBut w w' g1 none) : Pair b w0 w' g1 g2 B s' s2 :=
  ⟨hI, T.y.move hk (Ne.symm T.ne) T.x.noByte, T.ne, T.h1, T.h2, below_keep T.hb hb T.h1⟩
theorem Pair.at2 (T : Pair b w0 w g1 g2 B s1 s2) (hI : RrAt w' g2 B s') (hb : Below g2 w w') (hk : KeepBut w w' g2 none) : Pair b w0 w' g1 g2 B s1 s' :=
  ⟨T.x.move hk T.ne T.y.noByte, hI, T.ne, T.h1, T.h2, below_keep T.hb hb T.h2⟩
theorem Pair.below (T : Pair b w0 w g1 g2 B s1 s2) (hb : Below w.heap.size w w') : Pair b w0 w' g1 g2 B s1 s2 :=
  ⟨T.x.below hb, T.y.below hb, T.ne, T.h1, T.h2, T.hb.trans (hb.mono (by have := RdWalk.at_lt T.x; have := T.h1; omega))⟩
theorem Pair.lt1 (T : Pair b w0 w g1 g2 B s1 s2) : g1 < w.heap.size := RdWalk.at_lt T.x
theorem Pair.lt2 (T : Pair b w0 w g1 g2 B s1 s2) : g2 < w.heap.size := RrWalk.at_lt T.y
theorem Pair.keep (T : Pair b w0 w g1 g2 B s1 s2) : w.cell? ⟨g2, 3, none⟩ = some (.int .i64 s2.g) ∧ Aside0 (Pair b w0 w g1 g2 B s1 s2) := ⟨rr_rng T.y, ⟨T⟩⟩
end
theorem pow_16' {i : Nat} (h : i ≤ 16) : (2 : Int) ^ i ≤ 65536 := by
  have h2 : 2 ^ i ≤ 2 ^ 16 := Nat.pow_le_pow_right (by decide) h
  have := Int.ofNat_le.mpr h2
  rw [Int.natCast_pow] at this
  exact this
set_option maxHeartbeats 8000000 in
set_option maxRecDepth 100000 in
theorem plays_at (B : List Int) (m : Nat) (l : List S28) (n : Nat) (hm : B.length = m) (hB : Bytes B) (hl : m ≤ 1300) (hn : l.length = n) (hn2 : n ≤ 200) (hop : ∀ o ∈ l, 0 ≤ o.f0)
    (A0 : Option Addr) (c0 : Nat) (A1 : Option Addr) (c1 : Nat) (w : World) (hC : Kd.C (Kd.int .u8) w A0 m B) (hc : m ≤ c0) (hD : Kd.C k28 w A1 n l) :
    Calls Try.prog 5 #[.slice A0 m c0, .slice A1 n c1] w fun e w' => e = .returned (.bool true) ∧ Below w.heap.size w w' := by
  have HB := Aside0.mk (Below.refl w.heap.size w)
  have HM := Aside0.mk hm
  have HBy := Aside0.mk hB
  have HC := Aside0.mk hC
  have HD := Aside0.mk hD
  have HN := Aside0.mk hn
  have HOP := Aside0.mk hop
  clear hm hB hC hD hn hop
  have hd1 : decide ((1300 : Int) < (m : Int)) = false := decide_eq_false (by omega)
  have hd2 : decide ((200 : Int) < (n : Int)) = false := decide_eq_false (by omega)
  go_enter Try.func5, Try.ntmps5
  go_wp2_with (first
    | (go_at_call 8; (with_reducible refine (awake_any _).mono ?_); rintro e wa ⟨rfl, hb⟩; have HB1 := Aside0.mk (below_step HB.out hb); clear HB hb; have HB := HB1; clear HB1)
    | (go_at_call 9; (with_reducible refine (rd_new B m HM.out HBy.out (by omega) A0 c0 _ (Kd.C_below HC.out HB.out) hc).mono ?_); rintro e wx ⟨g1, rfl, hI, hg, hb⟩; have HX := Aside0.mk hI; have HG1 := Aside0.mk (Nat.le_trans HB.out.size hg); have HB1 := Aside0.mk (below_step HB.out hb); clear HB hb hI hg; have HB := HB1; clear HB1)
    | (go_at_call 15; (with_reducible refine (rr_new B m HM.out HBy.out A0 c0 _ (Kd.C_below HC.out HB.out)).mono ?_); rintro e wy ⟨g2, rfl, hI, hg, hb⟩; have HT : Aside0 (Pair w.heap.size w wy g1 g2 B (Rd.new B) (Rd.new B)) := ⟨⟨HX.out.below hb, hI, by have := RdWalk.at_lt HX.out; omega, HG1.out, Nat.le_trans HB.out.size hg, below_step HB.out hb⟩⟩; clear HB hb hI hg HX HG1))
  go_loopw [26] (fun i wr => ∃ (k : Nat) (s : St), k ≤ n ∧ i = .int .i64 k ∧ Aside0 (Pair w.heap.size w wr g1 g2 B s s) ∧ Aside0 (Rd.Good s ∧ s.t ≤ 3 + 2 * k ∧ s.r ≤ 16 * k)) (fun i _ => (n - intOf i).toNat)
  case atStart => exact ⟨0, Rd.new B, by omega, rfl, HT, ⟨Rd.new_good HBy.out, by simp [Rd.new], by simp [Rd.new]⟩⟩
  case round =>
    obtain ⟨k, s, hk, rfl, HT2, HS⟩ := hrel
    clear HT
    have HT := HT2
    clear HT2
    by_cases ht : k < n
    · obtain ⟨ad, hA, hc0, hc1, hc2, hc3⟩ := at_T28 (Kd.C_below HD.out HT.out.hb) (k : Int) (by omega) (by omega)
      have hK0 : 0 ≤ (rd_T28 l k).f0 := HOP.out _ (by unfold rd_T28; rw [Int.toNat_natCast, List.getD_eq_getElem?_getD, List.getElem?_eq_getElem (by rw [HN.out]; exact ht)]; exact List.getElem_mem _)
      rw [Int.toNat_natCast] at hc0 hc1 hc2 hc3
      obtain ⟨⟨K, F, T, N⟩, ho⟩ : ∃ o, rd_T28 l k = o := ⟨_, rfl⟩
      rw [ho] at hc0 hc1 hc2 hc3 hK0
      simp only at hc0 hc1 hc2 hc3 hK0
      clear ho
      subst hA
      have HL1 := Aside0.mk HT.out.lt1
      have HL2 := Aside0.mk HT.out.lt2
      by_cases h0 : K % 3 = 0
      ·
        have hf : Int.tmod K 3 = 0 := by rw [Int.tmod_eq_emod_of_nonneg hK0]; exact h0
        obtain ⟨Q, hQ⟩ : ∃ Q, Rd.get s T = Q := ⟨_, rfl⟩
        obtain ⟨s', hs'⟩ : ∃ s', Rd.take B s Q (wrap64 (Q + 1)) T = s' := ⟨_, rfl⟩
        have HS' : Aside0 (Rd.Good s' ∧ s'.t ≤ 3 + 2 * (k + 1) ∧ s'.r ≤ 16 * (k + 1)) := ⟨by
          rw [← hs']
          refine ⟨Rd.take_good HBy.out HS.out.1 _ _ _, ?_, by rw [Rd.take_r]; have := HS.out.2.2; omega⟩
          have := (Rd.take_t B s Q (wrap64 (Q + 1)) T).2
          have := HS.out.2.1
          omega⟩
        have hst : s.t ≤ 9990 := by have := HS.out.2.1; omega
        have CG1 : Aside0 (∀ w, RdAt w g1 B s → Calls Try.prog 10 #[.pointer (some ⟨g1, 0, none⟩), .int .i64 T] w fun e w' => e = .returned (.int .i64 Q) ∧ RdAt w' g1 B s ∧ Below g1 w w' ∧ KeepBut w w' g1 none) := ⟨fun w h => hQ ▸ rd_get HS.out.1 T h⟩
        have CG2 : Aside0 (∀ w, RrAt w g2 B s → Calls Try.prog 16 #[.pointer (some ⟨g2, 0, none⟩), .int .i64 T] w fun e w' => e = .returned (.int .i64 Q) ∧ RrAt w' g2 B s ∧ Below g2 w w' ∧ KeepBut w w' g2 none) := ⟨fun w h => hQ ▸ rr_get HS.out.1 T h⟩
        have CT1 : Aside0 (∀ w, RdAt w g1 B s → Calls Try.prog 11 #[.pointer (some ⟨g1, 0, none⟩), .int .i64 Q, .int .i64 (wrap64 (Q + 1)), .int .i64 T] w fun e w' => e = .returned (.tuple #[]) ∧ RdAt w' g1 B s' ∧ Below g1 w w' ∧ KeepBut w w' g1 none) := ⟨fun w h => hs' ▸ rd_take HBy.out (by rw [HM.out]; omega) HS.out.1 hst _ _ _ h⟩
        have CT2 : Aside0 (∀ w, RrAt w g2 B s → Calls Try.prog 17 #[.pointer (some ⟨g2, 0, none⟩), .int .i64 Q, .int .i64 (wrap64 (Q + 1)), .int .i64 T] w fun e w' => e = .returned (.tuple #[]) ∧ RrAt w' g2 B s' ∧ Below g2 w w' ∧ KeepBut w w' g2 none) := ⟨fun w h => hs' ▸ rr_take HBy.out HS.out.1 hst _ _ _ h⟩
        clear hQ hs' hst
        go_wp2_with (first
          | (go_at_call 10; (with_reducible refine (CG1.out _ (HT.out.x.below (below_alloc (Below.refl _ _) _))).mono ?_); rintro e w1 ⟨rfl, hI, hb, hk⟩; have hv1 := keep_cell hk (a := ⟨wr.heap.size, 1, none⟩) (v := .int .i64 F) (by simp) (Nat.ne_of_gt HL1.out); have hv2 := keep_cell hk (a := ⟨wr.heap.size, 2, none⟩) (v := .int .i64 T) (by simp) (Nat.ne_of_gt HL1.out); have hv3 := keep_cell hk (a := ⟨wr.heap.size, 3, none⟩) (v := .int .i64 N) (by simp) (Nat.ne_of_gt HL1.out); have m0 := Aside0.mk ((HT.out.below (below_alloc (Below.refl _ _) _)).at1 hI hb hk); clear HT hI hb hk; have HT := m0; clear m0)
          | (go_at_call 10; (with_reducible refine (CG1.out _ (HT.out.x.below (below_drew1 (below_alloc (Below.refl _ _) _)))).mono ?_); rintro e w1 ⟨rfl, hI, hb, hk⟩; have hv1 := keep_cell hk (a := ⟨wr.heap.size, 1, none⟩) (v := .int .i64 F) (by simp) (Nat.ne_of_gt HL1.out); have hv2 := keep_cell hk (a := ⟨wr.heap.size, 2, none⟩) (v := .int .i64 T) (by simp) (Nat.ne_of_gt HL1.out); have hv3 := keep_cell hk (a := ⟨wr.heap.size, 3, none⟩) (v := .int .i64 N) (by simp) (Nat.ne_of_gt HL1.out); have m0 := Aside0.mk ((HT.out.below (below_drew1 (below_alloc (Below.refl _ _) _))).at1 hI hb hk); clear HT hI hb hk; have HT := m0; clear m0)
          | (go_at_call 10; (with_reducible refine (CG1.out _ HT.out.x).mono ?_); rintro e w1 ⟨rfl, hI, hb, hk⟩; have m0 := Aside0.mk (HT.out.at1 hI hb hk); have m1 := keep_cell hk hv1 (Nat.ne_of_gt HL1.out); have m2 := keep_cell hk hv2 (Nat.ne_of_gt HL1.out); have m3 := keep_cell hk hv3 (Nat.ne_of_gt HL1.out); clear HT hv1 hv2 hv3 hI hb hk; have HT := m0; have hv1 := m1; have hv2 := m2; have hv3 := m3; clear m0 m1 m2 m3)
          | (go_at_call 16; (with_reducible refine (CG2.out _ HT.out.y).mono ?_); rintro e w1 ⟨rfl, hI, hb, hk⟩; have m0 := Aside0.mk (HT.out.at2 hI hb hk); have m1 := keep_cell hk hv1 (Nat.ne_of_gt HL2.out); have m2 := keep_cell hk hv2 (Nat.ne_of_gt HL2.out); have m3 := keep_cell hk hv3 (Nat.ne_of_gt HL2.out); clear HT hv1 hv2 hv3 hI hb hk; have HT := m0; have hv1 := m1; have hv2 := m2; have hv3 := m3; clear m0 m1 m2 m3)
          | (go_at_call 11; (with_reducible refine (CT1.out _ HT.out.x).mono ?_); rintro e w1 ⟨rfl, hI, hb, hk⟩; have m0 := Aside0.mk (HT.out.at1 hI hb hk); have m1 := keep_cell hk hv1 (Nat.ne_of_gt HL1.out); have m2 := keep_cell hk hv2 (Nat.ne_of_gt HL1.out); have m3 := keep_cell hk hv3 (Nat.ne_of_gt HL1.out); clear HT hv1 hv2 hv3 hI hb hk; have HT := m0; have hv1 := m1; have hv2 := m2; have hv3 := m3; clear m0 m1 m2 m3)
          | (go_at_call 17; (with_reducible refine (CT2.out _ HT.out.y).mono ?_); rintro e w1 ⟨rfl, hI, hb, hk⟩; have m0 := Aside0.mk (HT.out.at2 hI hb hk); have m1 := keep_cell hk hv1 (Nat.ne_of_gt HL2.out); have m2 := keep_cell hk hv2 (Nat.ne_of_gt HL2.out); have m3 := keep_cell hk hv3 (Nat.ne_of_gt HL2.out); clear HT hv1 hv2 hv3 hI hb hk; have HT := m0; have hv1 := m1; have hv2 := m2; have hv3 := m3; clear m0 m1 m2 m3))
        have hst' : s'.t ≤ 10000 := by have := HS'.out.2.1; omega
        have hsr' : s'.r ≤ 100000 := by have := HS'.out.2.2; omega
        obtain ⟨L, hL⟩ : ∃ L, left B s' = L := ⟨_, rfl⟩
        obtain ⟨Q4, hQ4⟩ : ∃ Q4, Rd.get s' 4096 = Q4 := ⟨_, rfl⟩
        have hgr := HS'.out.1.g1
        have hgr0 := HS'.out.1.g0
        obtain ⟨G', hG'⟩ : ∃ G', s'.g = G' := ⟨_, rfl⟩
        rw [hG'] at hgr hgr0
        have PL1 : Aside0 (∀ wz, Pair w.heap.size w wz g1 g2 B s' s' → Calls Try.prog 12 #[.pointer (some ⟨g1, 0, none⟩)] wz fun e w' => e = .returned (.int .i64 L) ∧ Pair w.heap.size w w' g1 g2 B s' s') := ⟨fun wz T => (hL ▸ rd_left (by rw [HM.out]; omega) hst' hsr' T.x).mono (fun e w' h => ⟨h.1, T.at1 h.2.1 h.2.2.1 h.2.2.2⟩)⟩
        have PL2 : Aside0 (∀ wz, Pair w.heap.size w wz g1 g2 B s' s' → Calls Try.prog 19 #[.pointer (some ⟨g2, 0, none⟩)] wz fun e w' => e = .returned (.int .i64 L) ∧ Pair w.heap.size w w' g1 g2 B s' s') := ⟨fun wz T => (hL ▸ rr_left (by rw [HM.out]; omega) hst' hsr' T.y).mono (fun e w' h => ⟨h.1, T.at2 h.2.1 h.2.2.1 h.2.2.2⟩)⟩
        have PR1 : Aside0 (∀ wz, Pair w.heap.size w wz g1 g2 B s' s' → Calls Try.prog 13 #[.pointer (some ⟨g1, 0, none⟩)] wz fun e w' => e = .returned (.int .u32 G') ∧ Pair w.heap.size w w' g1 g2 B s' s') := ⟨fun wz T => (hG' ▸ rd_rng T.x).mono (fun e w' h => ⟨h.1, T.at1 h.2.1 h.2.2.1 h.2.2.2⟩)⟩
        have PG1 : Aside0 (∀ wz, Pair w.heap.size w wz g1 g2 B s' s' → Calls Try.prog 10 #[.pointer (some ⟨g1, 0, none⟩), .int .i64 4096] wz fun e w' => e = .returned (.int .i64 Q4) ∧ Pair w.heap.size w w' g1 g2 B s' s') := ⟨fun wz T => (hQ4 ▸ rd_get HS'.out.1 4096 T.x).mono (fun e w' h => ⟨h.1, T.at1 h.2.1 h.2.2.1 h.2.2.2⟩)⟩
        have PG2 : Aside0 (∀ wz, Pair w.heap.size w wz g1 g2 B s' s' → Calls Try.prog 16 #[.pointer (some ⟨g2, 0, none⟩), .int .i64 4096] wz fun e w' => e = .returned (.int .i64 Q4) ∧ Pair w.heap.size w w' g1 g2 B s' s') := ⟨fun wz T => (hQ4 ▸ rr_get HS'.out.1 4096 T.y).mono (fun e w' h => ⟨h.1, T.at2 h.2.1 h.2.2.1 h.2.2.2⟩)⟩
        have hKP : ∀ wz, Pair w.heap.size w wz g1 g2 B s' s' → wz.cell? ⟨g2, 3, none⟩ = some (.int .i64 G') ∧ Aside0 (Pair w.heap.size w wz g1 g2 B s' s') := fun wz T => hG' ▸ T.keep
        have HKP := Aside0.mk hKP
        have u1 : IntKind.i64.wrap G' = G' := IntWalk.i64_in _ (by omega)
        clear hKP hL hQ4 hG' hst' hsr' hgr hgr0
        all_goals (
          go_region_held3 (fun wz => wz.cell? ⟨g2, 3, none⟩ = some (.int .i64 G') ∧ Aside0 (Pair w.heap.size w wz g1 g2 B s' s'))
            (first | exact HKP.out _ hT | exact HKP.out _ (HT.out.below (below_drew1 (Below.refl _ _))) | exact HKP.out _ (HT.out.below (below_drew1 (below_drew1 (Below.refl _ _)))))
            (first | (go_at_call 12; (go_split_ands; (with_reducible refine (PL1.out _ (Aside0.out (by assumption))).mono ?_)); rintro e w3 ⟨rfl, hT⟩) | (go_at_call 19; (go_split_ands; (with_reducible refine (PL2.out _ (Aside0.out (by assumption))).mono ?_)); rintro e w3 ⟨rfl, hT⟩) | (go_at_call 13; (go_split_ands; (with_reducible refine (PR1.out _ (Aside0.out (by assumption))).mono ?_)); rintro e w3 ⟨rfl, hT⟩) | (go_at_call 10; (go_split_ands; (with_reducible refine (PG1.out _ (Aside0.out (by assumption))).mono ?_)); rintro e w3 ⟨rfl, hT⟩) | (go_at_call 16; (go_split_ands; (with_reducible refine (PG2.out _ (Aside0.out (by assumption))).mono ?_)); rintro e w3 ⟨rfl, hT⟩)))
        all_goals (
          rename_i hH
          have HT2 := hH.2
          clear hH
          go_wp2
          go_roundw
          case rel => exact ⟨k + 1, s', by omega, by simp, HT2, HS'⟩
          case measure => simp [intOf]; omega)

      by_cases h1 : K % 3 = 1
      ·
        have hf : Int.tmod K 3 = 1 := by rw [Int.tmod_eq_emod_of_nonneg hK0]; exact h1
        obtain ⟨s', hs'⟩ : ∃ s', Rd.take B s F T N = s' := ⟨_, rfl⟩
        have HS' : Aside0 (Rd.Good s' ∧ s'.t ≤ 3 + 2 * (k + 1) ∧ s'.r ≤ 16 * (k + 1)) := ⟨by
          rw [← hs']
          refine ⟨Rd.take_good HBy.out HS.out.1 _ _ _, ?_, by rw [Rd.take_r]; have := HS.out.2.2; omega⟩
          have := (Rd.take_t B s F T N).2
          have := HS.out.2.1
          omega⟩
        have hst : s.t ≤ 9990 := by have := HS.out.2.1; omega
        have CT1 : Aside0 (∀ w, RdAt w g1 B s → Calls Try.prog 11 #[.pointer (some ⟨g1, 0, none⟩), .int .i64 F, .int .i64 T, .int .i64 N] w fun e w' => e = .returned (.tuple #[]) ∧ RdAt w' g1 B s' ∧ Below g1 w w' ∧ KeepBut w w' g1 none) := ⟨fun w h => hs' ▸ rd_take HBy.out (by rw [HM.out]; omega) HS.out.1 hst _ _ _ h⟩
        have CT2 : Aside0 (∀ w, RrAt w g2 B s → Calls Try.prog 17 #[.pointer (some ⟨g2, 0, none⟩), .int .i64 F, .int .i64 T, .int .i64 N] w fun e w' => e = .returned (.tuple #[]) ∧ RrAt w' g2 B s' ∧ Below g2 w w' ∧ KeepBut w w' g2 none) := ⟨fun w h => hs' ▸ rr_take HBy.out HS.out.1 hst _ _ _ h⟩
        clear hs' hst
        go_wp2_with (first
          | (go_at_call 11; (with_reducible refine (CT1.out _ (HT.out.x.below (below_alloc (Below.refl _ _) _))).mono ?_); rintro e w1 ⟨rfl, hI, hb, hk⟩; have hv1 := keep_cell hk (a := ⟨wr.heap.size, 1, none⟩) (v := .int .i64 F) (by simp) (Nat.ne_of_gt HL1.out); have hv2 := keep_cell hk (a := ⟨wr.heap.size, 2, none⟩) (v := .int .i64 T) (by simp) (Nat.ne_of_gt HL1.out); have hv3 := keep_cell hk (a := ⟨wr.heap.size, 3, none⟩) (v := .int .i64 N) (by simp) (Nat.ne_of_gt HL1.out); have m0 := Aside0.mk ((HT.out.below (below_alloc (Below.refl _ _) _)).at1 hI hb hk); clear HT hI hb hk; have HT := m0; clear m0)
          | (go_at_call 11; (with_reducible refine (CT1.out _ (HT.out.x.below (below_drew1 (below_alloc (Below.refl _ _) _)))).mono ?_); rintro e w1 ⟨rfl, hI, hb, hk⟩; have hv1 := keep_cell hk (a := ⟨wr.heap.size, 1, none⟩) (v := .int .i64 F) (by simp) (Nat.ne_of_gt HL1.out); have hv2 := keep_cell hk (a := ⟨wr.heap.size, 2, none⟩) (v := .int .i64 T) (by simp) (Nat.ne_of_gt HL1.out); have hv3 := keep_cell hk (a := ⟨wr.heap.size, 3, none⟩) (v := .int .i64 N) (by simp) (Nat.ne_of_gt HL1.out); have m0 := Aside0.mk ((HT.out.below (below_drew1 (below_alloc (Below.refl _ _) _))).at1 hI hb hk); clear HT hI hb hk; have HT := m0; clear m0)
          | (go_at_call 11; (with_reducible refine (CT1.out _ HT.out.x).mono ?_); rintro e w1 ⟨rfl, hI, hb, hk⟩; have m0 := Aside0.mk (HT.out.at1 hI hb hk); have m1 := keep_cell hk hv1 (Nat.ne_of_gt HL1.out); have m2 := keep_cell hk hv2 (Nat.ne_of_gt HL1.out); have m3 := keep_cell hk hv3 (Nat.ne_of_gt HL1.out); clear HT hv1 hv2 hv3 hI hb hk; have HT := m0; have hv1 := m1; have hv2 := m2; have hv3 := m3; clear m0 m1 m2 m3)
          | (go_at_call 17; (with_reducible refine (CT2.out _ HT.out.y).mono ?_); rintro e w1 ⟨rfl, hI, hb, hk⟩; have m0 := Aside0.mk (HT.out.at2 hI hb hk); have m1 := keep_cell hk hv1 (Nat.ne_of_gt HL2.out); have m2 := keep_cell hk hv2 (Nat.ne_of_gt HL2.out); have m3 := keep_cell hk hv3 (Nat.ne_of_gt HL2.out); clear HT hv1 hv2 hv3 hI hb hk; have HT := m0; have hv1 := m1; have hv2 := m2; have hv3 := m3; clear m0 m1 m2 m3))
        have hst' : s'.t ≤ 10000 := by have := HS'.out.2.1; omega
        have hsr' : s'.r ≤ 100000 := by have := HS'.out.2.2; omega
        obtain ⟨L, hL⟩ : ∃ L, left B s' = L := ⟨_, rfl⟩
        obtain ⟨Q4, hQ4⟩ : ∃ Q4, Rd.get s' 4096 = Q4 := ⟨_, rfl⟩
        have hgr := HS'.out.1.g1
        have hgr0 := HS'.out.1.g0
        obtain ⟨G', hG'⟩ : ∃ G', s'.g = G' := ⟨_, rfl⟩
        rw [hG'] at hgr hgr0
        have PL1 : Aside0 (∀ wz, Pair w.heap.size w wz g1 g2 B s' s' → Calls Try.prog 12 #[.pointer (some ⟨g1, 0, none⟩)] wz fun e w' => e = .returned (.int .i64 L) ∧ Pair w.heap.size w w' g1 g2 B s' s') := ⟨fun wz T => (hL ▸ rd_left (by rw [HM.out]; omega) hst' hsr' T.x).mono (fun e w' h => ⟨h.1, T.at1 h.2.1 h.2.2.1 h.2.2.2⟩)⟩
        have PL2 : Aside0 (∀ wz, Pair w.heap.size w wz g1 g2 B s' s' → Calls Try.prog 19 #[.pointer (some ⟨g2, 0, none⟩)] wz fun e w' => e = .returned (.int .i64 L) ∧ Pair w.heap.size w w' g1 g2 B s' s') := ⟨fun wz T => (hL ▸ rr_left (by rw [HM.out]; omega) hst' hsr' T.y).mono (fun e w' h => ⟨h.1, T.at2 h.2.1 h.2.2.1 h.2.2.2⟩)⟩
        have PR1 : Aside0 (∀ wz, Pair w.heap.size w wz g1 g2 B s' s' → Calls Try.prog 13 #[.pointer (some ⟨g1, 0, none⟩)] wz fun e w' => e = .returned (.int .u32 G') ∧ Pair w.heap.size w w' g1 g2 B s' s') := ⟨fun wz T => (hG' ▸ rd_rng T.x).mono (fun e w' h => ⟨h.1, T.at1 h.2.1 h.2.2.1 h.2.2.2⟩)⟩
        have PG1 : Aside0 (∀ wz, Pair w.heap.size w wz g1 g2 B s' s' → Calls Try.prog 10 #[.pointer (some ⟨g1, 0, none⟩), .int .i64 4096] wz fun e w' => e = .returned (.int .i64 Q4) ∧ Pair w.heap.size w w' g1 g2 B s' s') := ⟨fun wz T => (hQ4 ▸ rd_get HS'.out.1 4096 T.x).mono (fun e w' h => ⟨h.1, T.at1 h.2.1 h.2.2.1 h.2.2.2⟩)⟩
        have PG2 : Aside0 (∀ wz, Pair w.heap.size w wz g1 g2 B s' s' → Calls Try.prog 16 #[.pointer (some ⟨g2, 0, none⟩), .int .i64 4096] wz fun e w' => e = .returned (.int .i64 Q4) ∧ Pair w.heap.size w w' g1 g2 B s' s') := ⟨fun wz T => (hQ4 ▸ rr_get HS'.out.1 4096 T.y).mono (fun e w' h => ⟨h.1, T.at2 h.2.1 h.2.2.1 h.2.2.2⟩)⟩
        have hKP : ∀ wz, Pair w.heap.size w wz g1 g2 B s' s' → wz.cell? ⟨g2, 3, none⟩ = some (.int .i64 G') ∧ Aside0 (Pair w.heap.size w wz g1 g2 B s' s') := fun wz T => hG' ▸ T.keep
        have HKP := Aside0.mk hKP
        have u1 : IntKind.i64.wrap G' = G' := IntWalk.i64_in _ (by omega)
        clear hKP hL hQ4 hG' hst' hsr' hgr hgr0
        all_goals (
          go_region_held3 (fun wz => wz.cell? ⟨g2, 3, none⟩ = some (.int .i64 G') ∧ Aside0 (Pair w.heap.size w wz g1 g2 B s' s'))
            (first | exact HKP.out _ hT | exact HKP.out _ (HT.out.below (below_drew1 (Below.refl _ _))) | exact HKP.out _ (HT.out.below (below_drew1 (below_drew1 (Below.refl _ _)))))
            (first | (go_at_call 12; (go_split_ands; (with_reducible refine (PL1.out _ (Aside0.out (by assumption))).mono ?_)); rintro e w3 ⟨rfl, hT⟩) | (go_at_call 19; (go_split_ands; (with_reducible refine (PL2.out _ (Aside0.out (by assumption))).mono ?_)); rintro e w3 ⟨rfl, hT⟩) | (go_at_call 13; (go_split_ands; (with_reducible refine (PR1.out _ (Aside0.out (by assumption))).mono ?_)); rintro e w3 ⟨rfl, hT⟩) | (go_at_call 10; (go_split_ands; (with_reducible refine (PG1.out _ (Aside0.out (by assumption))).mono ?_)); rintro e w3 ⟨rfl, hT⟩) | (go_at_call 16; (go_split_ands; (with_reducible refine (PG2.out _ (Aside0.out (by assumption))).mono ?_)); rintro e w3 ⟨rfl, hT⟩)))
        all_goals (
          rename_i hH
          have HT2 := hH.2
          clear hH
          go_wp2
          go_roundw
          case rel => exact ⟨k + 1, s', by omega, by simp, HT2, HS'⟩
          case measure => simp [intOf]; omega)

      have hf : Int.tmod K 3 = 2 := by rw [Int.tmod_eq_emod_of_nonneg hK0]; omega
      obtain ⟨R, hR⟩ : ∃ R, Rd.raw B s.r (Rd.cl T) = R := ⟨_, rfl⟩
      have hRb : 0 ≤ R ∧ R < 65537 := by
        rw [← hR]
        have h1 := Rd.raw_in B s.r (Rd.cl T)
        have h2 := pow_16' (i := Rd.cl T) (Rd.cl_le T)
        omega
      have u0 : IntKind.i64.wrap R = R := IntWalk.i64_in _ (by omega)
      obtain ⟨s', hs'⟩ : ∃ s', rawn s T = s' := ⟨_, rfl⟩
      have HS' : Aside0 (Rd.Good s' ∧ s'.t ≤ 3 + 2 * (k + 1) ∧ s'.r ≤ 16 * (k + 1)) := ⟨by
        rw [← hs']
        have h := HS.out
        have := Rd.cl_le T
        refine ⟨⟨h.1.g0, h.1.g1, h.1.v0, h.1.v1⟩, ?_, ?_⟩ <;> simp only [rawn] <;> omega⟩
      have hsr : s.r ≤ 90000 := by have := HS.out.2.2; omega
      have CW1 : Aside0 (∀ w, RdAt w g1 B s → Calls Try.prog 14 #[.pointer (some ⟨g1, 0, none⟩), .int .i64 T] w fun e w' => e = .returned (.int .u32 R) ∧ RdAt w' g1 B s' ∧ Below g1 w w' ∧ KeepBut w w' g1 none) := ⟨fun w h => hR ▸ hs' ▸ rd_raw HBy.out (by rw [HM.out]; omega) hsr T h⟩
      have CW2 : Aside0 (∀ w, RrAt w g2 B s → Calls Try.prog 18 #[.pointer (some ⟨g2, 0, none⟩), .int .i64 T] w fun e w' => e = .returned (.int .i64 R) ∧ RrAt w' g2 B s' ∧ Below g2 w w' ∧ KeepBut w w' g2 none) := ⟨fun w h => hR ▸ hs' ▸ rr_raw HBy.out (by rw [HM.out]; omega) hsr T h⟩
      clear hR hs' hsr hRb
      have hst' : s'.t ≤ 10000 := by have := HS'.out.2.1; omega
      have hsr' : s'.r ≤ 100000 := by have := HS'.out.2.2; omega
      obtain ⟨L, hL⟩ : ∃ L, left B s' = L := ⟨_, rfl⟩
      obtain ⟨Q4, hQ4⟩ : ∃ Q4, Rd.get s' 4096 = Q4 := ⟨_, rfl⟩
      have hgr := HS'.out.1.g1
      have hgr0 := HS'.out.1.g0
      obtain ⟨G', hG'⟩ : ∃ G', s'.g = G' := ⟨_, rfl⟩
      rw [hG'] at hgr hgr0
      have PL1 : Aside0 (∀ wz, Pair w.heap.size w wz g1 g2 B s' s' → Calls Try.prog 12 #[.pointer (some ⟨g1, 0, none⟩)] wz fun e w' => e = .returned (.int .i64 L) ∧ Pair w.heap.size w w' g1 g2 B s' s') := ⟨fun wz T => (hL ▸ rd_left (by rw [HM.out]; omega) hst' hsr' T.x).mono (fun e w' h => ⟨h.1, T.at1 h.2.1 h.2.2.1 h.2.2.2⟩)⟩
      have PL2 : Aside0 (∀ wz, Pair w.heap.size w wz g1 g2 B s' s' → Calls Try.prog 19 #[.pointer (some ⟨g2, 0, none⟩)] wz fun e w' => e = .returned (.int .i64 L) ∧ Pair w.heap.size w w' g1 g2 B s' s') := ⟨fun wz T => (hL ▸ rr_left (by rw [HM.out]; omega) hst' hsr' T.y).mono (fun e w' h => ⟨h.1, T.at2 h.2.1 h.2.2.1 h.2.2.2⟩)⟩
      have PR1 : Aside0 (∀ wz, Pair w.heap.size w wz g1 g2 B s' s' → Calls Try.prog 13 #[.pointer (some ⟨g1, 0, none⟩)] wz fun e w' => e = .returned (.int .u32 G') ∧ Pair w.heap.size w w' g1 g2 B s' s') := ⟨fun wz T => (hG' ▸ rd_rng T.x).mono (fun e w' h => ⟨h.1, T.at1 h.2.1 h.2.2.1 h.2.2.2⟩)⟩
      have PG1 : Aside0 (∀ wz, Pair w.heap.size w wz g1 g2 B s' s' → Calls Try.prog 10 #[.pointer (some ⟨g1, 0, none⟩), .int .i64 4096] wz fun e w' => e = .returned (.int .i64 Q4) ∧ Pair w.heap.size w w' g1 g2 B s' s') := ⟨fun wz T => (hQ4 ▸ rd_get HS'.out.1 4096 T.x).mono (fun e w' h => ⟨h.1, T.at1 h.2.1 h.2.2.1 h.2.2.2⟩)⟩
      have PG2 : Aside0 (∀ wz, Pair w.heap.size w wz g1 g2 B s' s' → Calls Try.prog 16 #[.pointer (some ⟨g2, 0, none⟩), .int .i64 4096] wz fun e w' => e = .returned (.int .i64 Q4) ∧ Pair w.heap.size w w' g1 g2 B s' s') := ⟨fun wz T => (hQ4 ▸ rr_get HS'.out.1 4096 T.y).mono (fun e w' h => ⟨h.1, T.at2 h.2.1 h.2.2.1 h.2.2.2⟩)⟩
      have hKP : ∀ wz, Pair w.heap.size w wz g1 g2 B s' s' → wz.cell? ⟨g2, 3, none⟩ = some (.int .i64 G') ∧ Aside0 (Pair w.heap.size w wz g1 g2 B s' s') := fun wz T => hG' ▸ T.keep
      have HKP := Aside0.mk hKP
      have u1 : IntKind.i64.wrap G' = G' := IntWalk.i64_in _ (by omega)
      clear hKP hL hQ4 hG' hst' hsr' hgr hgr0
      go_wp2
      go_region_with (first
        | (go_at_call 14; (with_reducible refine (CW1.out _ (HT.out.x.below (below_alloc (Below.refl _ _) _))).mono ?_); rintro e w1 ⟨rfl, hI, hb, hk⟩; have hv1 := keep_cell hk (a := ⟨wr.heap.size, 1, none⟩) (v := .int .i64 F) (by simp) (Nat.ne_of_gt HL1.out); have hv2 := keep_cell hk (a := ⟨wr.heap.size, 2, none⟩) (v := .int .i64 T) (by simp) (Nat.ne_of_gt HL1.out); have hv3 := keep_cell hk (a := ⟨wr.heap.size, 3, none⟩) (v := .int .i64 N) (by simp) (Nat.ne_of_gt HL1.out); have m0 := Aside0.mk ((HT.out.below (below_alloc (Below.refl _ _) _)).at1 hI hb hk); clear HT hI hb hk; have HT := m0; clear m0)
        | (go_at_call 14; (with_reducible refine (CW1.out _ (HT.out.x.below (below_drew1 (below_alloc (Below.refl _ _) _)))).mono ?_); rintro e w1 ⟨rfl, hI, hb, hk⟩; have hv1 := keep_cell hk (a := ⟨wr.heap.size, 1, none⟩) (v := .int .i64 F) (by simp) (Nat.ne_of_gt HL1.out); have hv2 := keep_cell hk (a := ⟨wr.heap.size, 2, none⟩) (v := .int .i64 T) (by simp) (Nat.ne_of_gt HL1.out); have hv3 := keep_cell hk (a := ⟨wr.heap.size, 3, none⟩) (v := .int .i64 N) (by simp) (Nat.ne_of_gt HL1.out); have m0 := Aside0.mk ((HT.out.below (below_drew1 (below_alloc (Below.refl _ _) _))).at1 hI hb hk); clear HT hI hb hk; have HT := m0; clear m0)
        | (go_at_call 14; (with_reducible refine (CW1.out _ HT.out.x).mono ?_); rintro e w1 ⟨rfl, hI, hb, hk⟩; have m0 := Aside0.mk (HT.out.at1 hI hb hk); have m1 := keep_cell hk hv1 (Nat.ne_of_gt HL1.out); have m2 := keep_cell hk hv2 (Nat.ne_of_gt HL1.out); have m3 := keep_cell hk hv3 (Nat.ne_of_gt HL1.out); clear HT hv1 hv2 hv3 hI hb hk; have HT := m0; have hv1 := m1; have hv2 := m2; have hv3 := m3; clear m0 m1 m2 m3)
        | (go_at_call 18; (with_reducible refine (CW2.out _ (HT.out.y.below (below_alloc (Below.refl _ _) _))).mono ?_); rintro e w1 ⟨rfl, hI, hb, hk⟩; have hv1 := keep_cell hk (a := ⟨wr.heap.size, 1, none⟩) (v := .int .i64 F) (by simp) (Nat.ne_of_gt HL2.out); have hv2 := keep_cell hk (a := ⟨wr.heap.size, 2, none⟩) (v := .int .i64 T) (by simp) (Nat.ne_of_gt HL2.out); have hv3 := keep_cell hk (a := ⟨wr.heap.size, 3, none⟩) (v := .int .i64 N) (by simp) (Nat.ne_of_gt HL2.out); have m0 := Aside0.mk ((HT.out.below (below_alloc (Below.refl _ _) _)).at2 hI hb hk); clear HT hI hb hk; have HT := m0; clear m0)
        | (go_at_call 18; (with_reducible refine (CW2.out _ (HT.out.y.below (below_drew1 (below_alloc (Below.refl _ _) _)))).mono ?_); rintro e w1 ⟨rfl, hI, hb, hk⟩; have hv1 := keep_cell hk (a := ⟨wr.heap.size, 1, none⟩) (v := .int .i64 F) (by simp) (Nat.ne_of_gt HL2.out); have hv2 := keep_cell hk (a := ⟨wr.heap.size, 2, none⟩) (v := .int .i64 T) (by simp) (Nat.ne_of_gt HL2.out); have hv3 := keep_cell hk (a := ⟨wr.heap.size, 3, none⟩) (v := .int .i64 N) (by simp) (Nat.ne_of_gt HL2.out); have m0 := Aside0.mk ((HT.out.below (below_drew1 (below_alloc (Below.refl _ _) _))).at2 hI hb hk); clear HT hI hb hk; have HT := m0; clear m0)
        | (go_at_call 18; (with_reducible refine (CW2.out _ HT.out.y).mono ?_); rintro e w1 ⟨rfl, hI, hb, hk⟩; have m0 := Aside0.mk (HT.out.at2 hI hb hk); have m1 := keep_cell hk hv1 (Nat.ne_of_gt HL2.out); have m2 := keep_cell hk hv2 (Nat.ne_of_gt HL2.out); have m3 := keep_cell hk hv3 (Nat.ne_of_gt HL2.out); clear HT hv1 hv2 hv3 hI hb hk; have HT := m0; have hv1 := m1; have hv2 := m2; have hv3 := m3; clear m0 m1 m2 m3))
      all_goals go_wp2
      all_goals (
        go_region_held3 (fun wz => wz.cell? ⟨g2, 3, none⟩ = some (.int .i64 G') ∧ Aside0 (Pair w.heap.size w wz g1 g2 B s' s'))
          (first | exact HKP.out _ hT | exact HKP.out _ (HT.out.below (below_drew1 (Below.refl _ _))) | exact HKP.out _ (HT.out.below (below_drew1 (below_drew1 (Below.refl _ _)))))
          (first | (go_at_call 12; (go_split_ands; (with_reducible refine (PL1.out _ (Aside0.out (by assumption))).mono ?_)); rintro e w3 ⟨rfl, hT⟩) | (go_at_call 19; (go_split_ands; (with_reducible refine (PL2.out _ (Aside0.out (by assumption))).mono ?_)); rintro e w3 ⟨rfl, hT⟩) | (go_at_call 13; (go_split_ands; (with_reducible refine (PR1.out _ (Aside0.out (by assumption))).mono ?_)); rintro e w3 ⟨rfl, hT⟩) | (go_at_call 10; (go_split_ands; (with_reducible refine (PG1.out _ (Aside0.out (by assumption))).mono ?_)); rintro e w3 ⟨rfl, hT⟩) | (go_at_call 16; (go_split_ands; (with_reducible refine (PG2.out _ (Aside0.out (by assumption))).mono ?_)); rintro e w3 ⟨rfl, hT⟩)))
      all_goals (
        rename_i hH
        have HT2 := hH.2
        clear hH
        go_wp2
        go_roundw
        case rel => exact ⟨k + 1, s', by omega, by simp, HT2, HS'⟩
        case measure => simp [intOf]; omega)

    · go_wp2
      go_ret
      exact ⟨rfl, HT.out.hb⟩
set_option maxHeartbeats 4000000 in
set_option maxRecDepth 100000 in
theorem plays_long1 (A0 : Option Addr) (m c0 : Nat) (A1 : Option Addr) (n c1 : Nat) (w : World) (hd1 : decide ((1300 : Int) < (m : Int)) = true) :
    Calls Try.prog 5 #[.slice A0 m c0, .slice A1 n c1] w fun e w' => e = .returned (.bool true) ∧ Below w.heap.size w w' := by
  have HB := Aside0.mk (Below.refl w.heap.size w)
  go_enter Try.func5, Try.ntmps5
  go_wp2_with (first
    | (go_at_call 8; (with_reducible refine (awake_any _).mono ?_); rintro e wa ⟨rfl, hb⟩; have HB1 := Aside0.mk (below_step HB.out hb); clear HB hb; have HB := HB1; clear HB1))
  go_ret
  exact ⟨rfl, HB.out⟩
set_option maxHeartbeats 4000000 in
set_option maxRecDepth 100000 in
theorem plays_long2 (A0 : Option Addr) (m c0 : Nat) (A1 : Option Addr) (n c1 : Nat) (w : World) (hd1 : decide ((1300 : Int) < (m : Int)) = false) (hd2 : decide ((200 : Int) < (n : Int)) = true) :
    Calls Try.prog 5 #[.slice A0 m c0, .slice A1 n c1] w fun e w' => e = .returned (.bool true) ∧ Below w.heap.size w w' := by
  have HB := Aside0.mk (Below.refl w.heap.size w)
  go_enter Try.func5, Try.ntmps5
  go_wp2_with (first
    | (go_at_call 8; (with_reducible refine (awake_any _).mono ?_); rintro e wa ⟨rfl, hb⟩; have HB1 := Aside0.mk (below_step HB.out hb); clear HB hb; have HB := HB1; clear HB1))
  go_ret
  exact ⟨rfl, HB.out⟩
theorem plays_row (a0 : Option Addr) (len0 cap0 : Nat) (z0 : List Int) (a1 : Option Addr) (len1 cap1 : Nat) (z1 : List (List Int)) (w : World) (w0 : (a0 = none ∧ len0 = 0 ∧ cap0 = 0 ∧ z0 = []) ∨ ∃ x, a0 = some x ∧ len0 ≤ cap0 ∧ cap0 ≤ maxLen ∧ z0.length = cap0 ∧ (∀ i, i < z0.length → w.cell? (x.add i) = some (.int .u8 (z0.getD i 0))) ∧ ∀ n ∈ z0, (Lit.int .u8 n).wf = true) (w1 : StructRows.Rows [.u8, .i64, .i64, .i64] w a1 len1 cap1 z1) :
    Calls Try.prog 5 #[.slice a0 len0 cap0, .slice a1 len1 cap1] w fun e w' => e = .returned (.bool true) ∧ Below w.heap.size w w' := by
  obtain ⟨l0, rfl, hr0, hm0, hw0, hc0⟩ := ReadsInt.ofRowC w0
  have hB : Bytes l0 := fun x h => Math.wf_u8 (hw0 x h)
  obtain ⟨hD, _, hop⟩ := ops28 w1
  by_cases hm : l0.length ≤ 1300
  · by_cases hn : len1 ≤ 200
    · exact plays_at l0 _ (z1.map to28) len1 rfl hB hm hD.1 hn (fun o ho => (Math.wf_u8 (hop o ho).1).1) a0 cap0 a1 cap1 w (Kd.C_of_reads (d := (0 : Int)) (h1 := fun _ => rfl) hr0) hc0 hD
    · exact plays_long2 _ _ _ _ _ _ _ (decide_eq_false (by omega)) (decide_eq_true (by omega))
  · exact plays_long1 _ _ _ _ _ _ _ (decide_eq_true (by omega))
end Go.Proofs.Ythccifjjmigklaa.RdLaw
