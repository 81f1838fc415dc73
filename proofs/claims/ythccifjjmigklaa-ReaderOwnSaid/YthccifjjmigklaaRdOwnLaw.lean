import Derived.Test.YthccifjjmigklaaRdOwn
namespace Go.Proofs.Ythccifjjmigklaa.RdLaw
open Go.RowKit Go.Proofs.YthccifjjmigklaaW.PrintWords Go.Proofs.YthccifjjmigklaaW.PrintLast Go.Proofs.YthccifjjmigklaaW.PrintMore
open Go.Proofs.Ythccifjjmigklaa.Rd (St by_ Bytes)
open Go.Proofs.Ythccifjjmigklaa.RdWalk
set_option linter.unusedVariables false
set_option linter.unusedSimpArgs false
theorem cell_at8 {w : World} {base g n cap : Nat} {l : List Int} (h : Kd.R (Kd.int .u8) 5 w base (fun _ => True) (.slice (some ⟨g, 0, none⟩) n cap) l) (hn : l.length = n) (k : Nat) (hk : k < n) : w.cell? ⟨g, k, none⟩ = some (.int .u8 (rd l k)) ∧ w.frozen? ⟨g, k, none⟩ = false := by
  subst hn
  have := Kd.R_cell (enc := Value.int .u8) (0 : Int) (h1 := fun _ => rfl) h (k : Int) (by omega) (by omega)
  rw [Int.toNat_natCast] at this
  exact this
set_option maxHeartbeats 8000000 in
set_option maxRecDepth 100000 in
theorem own_many (B : List Int) (m : Nat) (l : List S28) (n : Nat) (hm0 : 0 < m) (hm : B.length = m) (hB : Bytes B) (hl : m ≤ 1300) (hn : l.length = n) (hn2 : n ≤ 200) (hop : ∀ o ∈ l, 0 ≤ o.f0)
    (A0 : Option Addr) (c0 : Nat) (A1 : Option Addr) (c1 : Nat) (w : World) (hC : Kd.C (Kd.int .u8) w A0 m B) (hc : m ≤ c0) (hD : Kd.C k28 w A1 n l) :
    Calls Try.prog 6 #[.slice A0 m c0, .slice A1 n c1] w fun e w' => e = .returned (.bool true) ∧ Below w.heap.size w w' := by
  have HB := Aside0.mk (Below.refl w.heap.size w)
  have HM := Aside0.mk hm
  have HBy := Aside0.mk hB
  have HC := Aside0.mk hC
  have HD := Aside0.mk hD
  have HN := Aside0.mk hn
  have HOP := Aside0.mk hop
  clear hm hB hC hD hn hop
  have hd1 : decide ((1300 : Int) < (m : Int)) = false := decide_eq_false (by omega)
  have hd2 : decide ((200 : Int) < (n : Int)) = false := decide_eq_false (by omega)
  go_enter Try.func6, Try.ntmps6
  go_wp2_with (first
    | (go_at_call 8; (with_reducible refine (awake_any _).mono ?_); rintro e wa ⟨rfl, hb⟩; have HB1 := Aside0.mk (below_step HB.out hb); clear HB hb; have HB := HB1; clear HB1)
    | ((with_reducible refine gate_builtin (b := .append) (xs := #[.tmp 22, .tmp 23]) rfl ?_); at_builtin; refine Kd.R_append_row (Value.int .u8) (0 : Int) (h1 := fun _ => rfl) (w0 := w) w.heap.size rfl (.tmp 22) (.tmp 23) 22 5 (.int .u8 0) 1 rfl Try.underlying22 infoE rfl (by decide) (.slice (some ⟨wa.heap.size, 0, none⟩) 0 0) [] B A0 m c0 (fun _ => True) rfl rfl (fun _ _ => trivial) ((Kd.R_of_own (own_lit wa w.heap.size 5 .u8 [] HB.out.size (by decide)) (fun _ _ => trivial))) (Kd.C_below HC.out (below_alloc HB.out _)) (below_alloc HB.out _) (by simp; have := HB.out.size; omega) (by simp [HM.out]; omega) ?_; intro v1 wc hR hb2 hg hat; obtain ⟨Ac, cc, rfl⟩ := Kd.R_slice hR; rw [List.nil_append, HM.out] at hR ⊢; have HR : Aside0 (Kd.R (Kd.int .u8) 5 wc w.heap.size (fun _ => True) (.slice Ac m cc) B) := ⟨hR⟩; have HB2 := Aside0.mk hb2; clear hR hat hg hb2 HB; have HB := HB2; clear HB2)
    | (go_at_call 9; (with_reducible refine (new_own B m HM.out HBy.out (by omega) A0 c0 _ (Kd.C_below HC.out HB.out) hc).mono ?_); rintro e wx ⟨g1, rfl, hI, hg, hlt, hb⟩; have HX := Aside0.mk hI; have HG1 := Aside0.mk (Nat.le_trans HB.out.size hg); have HX1 := Aside0.mk hlt; have HX2 := Aside0.mk hg; have HR2 := Aside0.mk (Kd.R_below HR.out hb); have HSX := Aside0.mk hb.size; have HB1 := Aside0.mk (below_step HB.out hb); clear HB hb hI hg hlt; have HB := HB1; clear HB1)
    | (go_at_call 9; (with_reducible refine (new_own B m HM.out HBy.out (by omega) Ac cc _ (clone_in (w := w) HR2.out HM.out) (by have h := (Kd.R_reads' HR2.out).2.1; have := HM.out; omega)).mono ?_); rintro e wy ⟨g2, rfl, hI, hg, hlt, hb⟩; have HY := Aside0.mk hI; have HG2 := Aside0.mk (Nat.le_trans HB.out.size hg); have HY2 := Aside0.mk hg; have HXY := Aside0.mk hb; have HR3 := Aside0.mk (Kd.R_below HR2.out hb); have HB1 := Aside0.mk (below_step HB.out hb); clear HB hb hI hg hlt; have HB := HB1; clear HB1))
  obtain ⟨gc, cap, e_, hg0, hg1, _⟩ := Kd.R_form HR.out (by rw [HM.out]; exact hm0)
  have hAc : Ac = some ⟨gc, 0, none⟩ := by injection e_
  subst hAc
  have HGC := Aside0.mk hg0
  have HGC1 := Aside0.mk hg1
  clear e_ hg0 hg1
  go_loopw [31, 8] (fun i j wr => ∃ (k : Nat) (cur : List Int), k ≤ m ∧ i = .int .i64 k ∧ Aside0 (cur.length = m) ∧ Aside0 (Kd.R (Kd.int .u8) 5 wr w.heap.size (fun _ => True) (.slice (some ⟨gc, 0, none⟩) m cc) cur) ∧ Aside0 (KeepBut wy wr gc none) ∧ Aside0 (Below w.heap.size w wr)) (fun i _ _ => (m - intOf i).toNat)
  case atStart => exact ⟨0, B, by omega, rfl, HM, HR3, ⟨KeepBut.refl _ _ _⟩, HB⟩
  case round =>
    obtain ⟨k, cur, hk, rfl, HC1, HI2, HK, HB2⟩ := hrel
    clear HB
    have HB := HB2
    clear HB2
    by_cases ht : k < m
    · obtain ⟨hc1, hf1⟩ := cell_at8 HI2.out HC1.out k ht
      go_wp2
      go_roundw
      case rel => exact ⟨k + 1, cur.set k (bits .xor .u8 (rd cur k) 255), by omega, by simp, ⟨by rw [List.length_set]; exact HC1.out⟩, ⟨by have h := Kd.R_putn (enc := Value.int .u8) (h1 := fun _ => rfl) HI2.out (k : Int) (bits .xor .u8 (rd cur k) 255); rw [Int.toNat_natCast] at h; exact h⟩, ⟨KeepBut.set_ HK.out k _⟩, ⟨HB.out.setCell (p := ⟨gc, k, none⟩) HGC.out _⟩⟩
      case measure => simp [intOf]; omega
    · have HT : Aside0 (Two w.heap.size w wr g1 g2 B B (Rd.new B) (Rd.new B)) := ⟨⟨HX.out gc wr HGC1.out (KeepBut.trans (KeepBut.of_below HXY.out gc none) HK.out (.inl rfl)), HY.out gc wr (Nat.lt_of_lt_of_le HGC1.out HSX.out) HK.out, by have := HX1.out; have := HY2.out; omega, HG1.out, HG2.out, HB.out⟩⟩
      clear HX HY HXY HK HI2 HR HR2 HR3 HB
      go_wp2
      go_loopw [43] (fun i wr => ∃ (k : Nat) (s : St), k ≤ n ∧ i = .int .i64 k ∧ Aside0 (Two w.heap.size w wr g1 g2 B B s s) ∧ Aside0 (Rd.Good s ∧ s.t ≤ 3 + 2 * k ∧ s.r ≤ 16 * k)) (fun i _ => (n - intOf i).toNat)
      case atStart => exact ⟨0, Rd.new B, by omega, rfl, HT, ⟨Rd.new_good HBy.out, by simp [Rd.new], by simp [Rd.new]⟩⟩
      case round =>
        obtain ⟨k, s, hk, rfl, HT2, HS⟩ := hrel
        clear HT
        have HT := HT2
        clear HT2
        by_cases ht : k < n
        · obtain ⟨ad, hA, hc0, hc1, hc2, hc3⟩ := at_T28 (Kd.C_below HD.out HT.out.hb) (k : Int) (by omega) (by omega)
          have hK0 : 0 ≤ (rd_T28 l k).f0 := HOP.out _ (by unfold rd_T28; rw [Int.toNat_natCast, List.getD_eq_getElem?_getD, List.getElem?_eq_getElem (by rw [HN.out]; exact ht)]; exact List.getElem_mem _)
          rw [Int.toNat_natCast] at hc0 hc1 hc2 hc3
          obtain ⟨⟨K, F, T, N⟩, ho⟩ : ∃ o, rd_T28 l k = o := ⟨_, rfl⟩
          rw [ho] at hc0 hc1 hc2 hc3 hK0
          simp only at hc0 hc1 hc2 hc3 hK0
          clear ho
          subst hA
          have HL1 := Aside0.mk HT.out.lt1
          have HL2 := Aside0.mk HT.out.lt2
          by_cases h0 : K % 3 = 2
          · have hf : Int.tmod K 3 = 2 := by rw [Int.tmod_eq_emod_of_nonneg hK0]; exact h0
            obtain ⟨R, hR⟩ : ∃ R, Rd.raw B s.r (Rd.cl T) = R := ⟨_, rfl⟩
            obtain ⟨s', hs'⟩ : ∃ s', rawn s T = s' := ⟨_, rfl⟩
            have HS' : Aside0 (Rd.Good s' ∧ s'.t ≤ 3 + 2 * (k + 1) ∧ s'.r ≤ 16 * (k + 1)) := ⟨by
              rw [← hs']
              have h := HS.out
              have := Rd.cl_le T
              refine ⟨⟨h.1.g0, h.1.g1, h.1.v0, h.1.v1⟩, ?_, ?_⟩ <;> simp only [rawn] <;> omega⟩
            have hsr : s.r ≤ 90000 := by have := HS.out.2.2; omega
            have CW1 : Aside0 (∀ w, RdAt w g1 B s → Calls Try.prog 14 #[.pointer (some ⟨g1, 0, none⟩), .int .i64 T] w fun e w' => e = .returned (.int .u32 R) ∧ RdAt w' g1 B s' ∧ Below g1 w w' ∧ KeepBut w w' g1 none) := ⟨fun w h => hR ▸ hs' ▸ rd_raw HBy.out (by rw [HM.out]; omega) hsr T h⟩
            have CW2 : Aside0 (∀ w, RdAt w g2 B s → Calls Try.prog 14 #[.pointer (some ⟨g2, 0, none⟩), .int .i64 T] w fun e w' => e = .returned (.int .u32 R) ∧ RdAt w' g2 B s' ∧ Below g2 w w' ∧ KeepBut w w' g2 none) := ⟨fun w h => hR ▸ hs' ▸ rd_raw HBy.out (by rw [HM.out]; omega) hsr T h⟩
            clear hR hs' hsr
            go_wp2
            go_region_with (first
              | (go_at_call 14; (with_reducible refine (CW1.out _ (HT.out.x.below (below_alloc (Below.refl _ _) _))).mono ?_); rintro e w1 ⟨rfl, hI, hb, hk⟩; have hv2 := keep_cell hk (a := ⟨wr.heap.size, 2, none⟩) (v := .int .i64 T) (by simp) (Nat.ne_of_gt HL1.out); have hv3 := keep_cell hk (a := ⟨wr.heap.size, 3, none⟩) (v := .int .i64 N) (by simp) (Nat.ne_of_gt HL1.out); have m0 := Aside0.mk ((HT.out.below (below_alloc (Below.refl _ _) _)).at1 hI hb hk); clear HT hI hb hk; have HT := m0; clear m0)
              | (go_at_call 14; (with_reducible refine (CW1.out _ (HT.out.x.below (below_drew1 (below_alloc (Below.refl _ _) _)))).mono ?_); rintro e w1 ⟨rfl, hI, hb, hk⟩; have hv2 := keep_cell hk (a := ⟨wr.heap.size, 2, none⟩) (v := .int .i64 T) (by simp) (Nat.ne_of_gt HL1.out); have hv3 := keep_cell hk (a := ⟨wr.heap.size, 3, none⟩) (v := .int .i64 N) (by simp) (Nat.ne_of_gt HL1.out); have m0 := Aside0.mk ((HT.out.below (below_drew1 (below_alloc (Below.refl _ _) _))).at1 hI hb hk); clear HT hI hb hk; have HT := m0; clear m0)
              | (go_at_call 14; (with_reducible refine (CW1.out _ HT.out.x).mono ?_); rintro e w1 ⟨rfl, hI, hb, hk⟩; have m0 := Aside0.mk (HT.out.at1 hI hb hk); have m2 := keep_cell hk hv2 (Nat.ne_of_gt HL1.out); have m3 := keep_cell hk hv3 (Nat.ne_of_gt HL1.out); clear HT hv2 hv3 hI hb hk; have HT := m0; have hv2 := m2; have hv3 := m3; clear m0 m2 m3)
              | (go_at_call 14; (with_reducible refine (CW2.out _ (HT.out.y.below (below_alloc (Below.refl _ _) _))).mono ?_); rintro e w1 ⟨rfl, hI, hb, hk⟩; have hv2 := keep_cell hk (a := ⟨wr.heap.size, 2, none⟩) (v := .int .i64 T) (by simp) (Nat.ne_of_gt HL2.out); have hv3 := keep_cell hk (a := ⟨wr.heap.size, 3, none⟩) (v := .int .i64 N) (by simp) (Nat.ne_of_gt HL2.out); have m0 := Aside0.mk ((HT.out.below (below_alloc (Below.refl _ _) _)).at2 hI hb hk); clear HT hI hb hk; have HT := m0; clear m0)
              | (go_at_call 14; (with_reducible refine (CW2.out _ (HT.out.y.below (below_drew1 (below_alloc (Below.refl _ _) _)))).mono ?_); rintro e w1 ⟨rfl, hI, hb, hk⟩; have hv2 := keep_cell hk (a := ⟨wr.heap.size, 2, none⟩) (v := .int .i64 T) (by simp) (Nat.ne_of_gt HL2.out); have hv3 := keep_cell hk (a := ⟨wr.heap.size, 3, none⟩) (v := .int .i64 N) (by simp) (Nat.ne_of_gt HL2.out); have m0 := Aside0.mk ((HT.out.below (below_drew1 (below_alloc (Below.refl _ _) _))).at2 hI hb hk); clear HT hI hb hk; have HT := m0; clear m0)
              | (go_at_call 14; (with_reducible refine (CW2.out _ HT.out.y).mono ?_); rintro e w1 ⟨rfl, hI, hb, hk⟩; have m0 := Aside0.mk (HT.out.at2 hI hb hk); have m2 := keep_cell hk hv2 (Nat.ne_of_gt HL2.out); have m3 := keep_cell hk hv3 (Nat.ne_of_gt HL2.out); clear HT hv2 hv3 hI hb hk; have HT := m0; have hv2 := m2; have hv3 := m3; clear m0 m2 m3))
            all_goals (
              go_wp2
              go_roundw
              case rel => exact ⟨k + 1, s', by omega, by simp, HT, HS'⟩
              case measure => simp [intOf]; omega)
          · have hf : ¬ Int.tmod K 3 = 2 := by rw [Int.tmod_eq_emod_of_nonneg hK0]; exact h0
            have hf2 : (Int.tmod K 3 == 2) = false := beq_eq_false_iff_ne.2 hf
            obtain ⟨Q, hQ⟩ : ∃ Q, Rd.get s N = Q := ⟨_, rfl⟩
            obtain ⟨s', hs'⟩ : ∃ s', Rd.take B s Q (wrap64 (Q + 1)) N = s' := ⟨_, rfl⟩
            have HS' : Aside0 (Rd.Good s' ∧ s'.t ≤ 3 + 2 * (k + 1) ∧ s'.r ≤ 16 * (k + 1)) := ⟨by
              rw [← hs']
              refine ⟨Rd.take_good HBy.out HS.out.1 _ _ _, ?_, by rw [Rd.take_r]; have := HS.out.2.2; omega⟩
              have := (Rd.take_t B s Q (wrap64 (Q + 1)) N).2
              have := HS.out.2.1
              omega⟩
            have hst : s.t ≤ 9990 := by have := HS.out.2.1; omega
            have CG1 : Aside0 (∀ w, RdAt w g1 B s → Calls Try.prog 10 #[.pointer (some ⟨g1, 0, none⟩), .int .i64 N] w fun e w' => e = .returned (.int .i64 Q) ∧ RdAt w' g1 B s ∧ Below g1 w w' ∧ KeepBut w w' g1 none) := ⟨fun w h => hQ ▸ rd_get HS.out.1 N h⟩
            have CG2 : Aside0 (∀ w, RdAt w g2 B s → Calls Try.prog 10 #[.pointer (some ⟨g2, 0, none⟩), .int .i64 N] w fun e w' => e = .returned (.int .i64 Q) ∧ RdAt w' g2 B s ∧ Below g2 w w' ∧ KeepBut w w' g2 none) := ⟨fun w h => hQ ▸ rd_get HS.out.1 N h⟩
            have CT1 : Aside0 (∀ w, RdAt w g1 B s → Calls Try.prog 11 #[.pointer (some ⟨g1, 0, none⟩), .int .i64 Q, .int .i64 (wrap64 (Q + 1)), .int .i64 N] w fun e w' => e = .returned (.tuple #[]) ∧ RdAt w' g1 B s' ∧ Below g1 w w' ∧ KeepBut w w' g1 none) := ⟨fun w h => hs' ▸ rd_take HBy.out (by rw [HM.out]; omega) HS.out.1 hst _ _ _ h⟩
            have CT2 : Aside0 (∀ w, RdAt w g2 B s → Calls Try.prog 11 #[.pointer (some ⟨g2, 0, none⟩), .int .i64 Q, .int .i64 (wrap64 (Q + 1)), .int .i64 N] w fun e w' => e = .returned (.tuple #[]) ∧ RdAt w' g2 B s' ∧ Below g2 w w' ∧ KeepBut w w' g2 none) := ⟨fun w h => hs' ▸ rd_take HBy.out (by rw [HM.out]; omega) HS.out.1 hst _ _ _ h⟩
            clear hQ hs' hst
            go_wp2_with (first
              | (go_at_call 10; (with_reducible refine (CG1.out _ (HT.out.x.below (below_alloc (Below.refl _ _) _))).mono ?_); rintro e w1 ⟨rfl, hI, hb, hk⟩; have hv2 := keep_cell hk (a := ⟨wr.heap.size, 2, none⟩) (v := .int .i64 T) (by simp) (Nat.ne_of_gt HL1.out); have hv3 := keep_cell hk (a := ⟨wr.heap.size, 3, none⟩) (v := .int .i64 N) (by simp) (Nat.ne_of_gt HL1.out); have m0 := Aside0.mk ((HT.out.below (below_alloc (Below.refl _ _) _)).at1 hI hb hk); clear HT hI hb hk; have HT := m0; clear m0)
              | (go_at_call 10; (with_reducible refine (CG1.out _ (HT.out.x.below (below_drew1 (below_alloc (Below.refl _ _) _)))).mono ?_); rintro e w1 ⟨rfl, hI, hb, hk⟩; have hv2 := keep_cell hk (a := ⟨wr.heap.size, 2, none⟩) (v := .int .i64 T) (by simp) (Nat.ne_of_gt HL1.out); have hv3 := keep_cell hk (a := ⟨wr.heap.size, 3, none⟩) (v := .int .i64 N) (by simp) (Nat.ne_of_gt HL1.out); have m0 := Aside0.mk ((HT.out.below (below_drew1 (below_alloc (Below.refl _ _) _))).at1 hI hb hk); clear HT hI hb hk; have HT := m0; clear m0)
              | (go_at_call 10; (with_reducible refine (CG1.out _ HT.out.x).mono ?_); rintro e w1 ⟨rfl, hI, hb, hk⟩; have m0 := Aside0.mk (HT.out.at1 hI hb hk); have m2 := keep_cell hk hv2 (Nat.ne_of_gt HL1.out); have m3 := keep_cell hk hv3 (Nat.ne_of_gt HL1.out); clear HT hv2 hv3 hI hb hk; have HT := m0; have hv2 := m2; have hv3 := m3; clear m0 m2 m3)
              | (go_at_call 10; (with_reducible refine (CG2.out _ HT.out.y).mono ?_); rintro e w1 ⟨rfl, hI, hb, hk⟩; have m0 := Aside0.mk (HT.out.at2 hI hb hk); have m2 := keep_cell hk hv2 (Nat.ne_of_gt HL2.out); have m3 := keep_cell hk hv3 (Nat.ne_of_gt HL2.out); clear HT hv2 hv3 hI hb hk; have HT := m0; have hv2 := m2; have hv3 := m3; clear m0 m2 m3)
              | (go_at_call 11; (with_reducible refine (CT1.out _ HT.out.x).mono ?_); rintro e w1 ⟨rfl, hI, hb, hk⟩; have m0 := Aside0.mk (HT.out.at1 hI hb hk); have m2 := keep_cell hk hv2 (Nat.ne_of_gt HL1.out); have m3 := keep_cell hk hv3 (Nat.ne_of_gt HL1.out); clear HT hv2 hv3 hI hb hk; have HT := m0; have hv2 := m2; have hv3 := m3; clear m0 m2 m3)
              | (go_at_call 11; (with_reducible refine (CT2.out _ HT.out.y).mono ?_); rintro e w1 ⟨rfl, hI, hb, hk⟩; have m0 := Aside0.mk (HT.out.at2 hI hb hk); have m2 := keep_cell hk hv2 (Nat.ne_of_gt HL2.out); have m3 := keep_cell hk hv3 (Nat.ne_of_gt HL2.out); clear HT hv2 hv3 hI hb hk; have HT := m0; have hv2 := m2; have hv3 := m3; clear m0 m2 m3))
            go_roundw
            case rel => exact ⟨k + 1, s', by omega, by simp, HT, HS'⟩
            case measure => simp [intOf]; omega
        · have hst' : s.t ≤ 10000 := by have := HS.out.2.1; omega
          have hsr' : s.r ≤ 100000 := by have := HS.out.2.2; omega
          obtain ⟨L, hL⟩ : ∃ L, left B s = L := ⟨_, rfl⟩
          obtain ⟨G', hG'⟩ : ∃ G', s.g = G' := ⟨_, rfl⟩
          have CL1 : Aside0 (∀ w, RdAt w g1 B s → Calls Try.prog 12 #[.pointer (some ⟨g1, 0, none⟩)] w fun e w' => e = .returned (.int .i64 L) ∧ RdAt w' g1 B s ∧ Below g1 w w' ∧ KeepBut w w' g1 none) := ⟨fun w h => hL ▸ rd_left (by rw [HM.out]; omega) hst' hsr' h⟩
          have CL2 : Aside0 (∀ w, RdAt w g2 B s → Calls Try.prog 12 #[.pointer (some ⟨g2, 0, none⟩)] w fun e w' => e = .returned (.int .i64 L) ∧ RdAt w' g2 B s ∧ Below g2 w w' ∧ KeepBut w w' g2 none) := ⟨fun w h => hL ▸ rd_left (by rw [HM.out]; omega) hst' hsr' h⟩
          have CR1 : Aside0 (∀ w, RdAt w g1 B s → Calls Try.prog 13 #[.pointer (some ⟨g1, 0, none⟩)] w fun e w' => e = .returned (.int .u32 G') ∧ RdAt w' g1 B s ∧ Below g1 w w' ∧ KeepBut w w' g1 none) := ⟨fun w h => hG' ▸ rd_rng h⟩
          have CR2 : Aside0 (∀ w, RdAt w g2 B s → Calls Try.prog 13 #[.pointer (some ⟨g2, 0, none⟩)] w fun e w' => e = .returned (.int .u32 G') ∧ RdAt w' g2 B s ∧ Below g2 w w' ∧ KeepBut w w' g2 none) := ⟨fun w h => hG' ▸ rd_rng h⟩
          clear hL hG' hst' hsr'
          go_wp2_with (first
            | (go_at_call 12; (with_reducible refine (CL1.out _ HT.out.x).mono ?_); rintro e w1 ⟨rfl, hI, hb, hk⟩; have m0 := Aside0.mk (HT.out.at1 hI hb hk); clear HT hI hb hk; have HT := m0; clear m0)
            | (go_at_call 12; (with_reducible refine (CL2.out _ HT.out.y).mono ?_); rintro e w1 ⟨rfl, hI, hb, hk⟩; have m0 := Aside0.mk (HT.out.at2 hI hb hk); clear HT hI hb hk; have HT := m0; clear m0)
            | (go_at_call 13; (with_reducible refine (CR1.out _ HT.out.x).mono ?_); rintro e w1 ⟨rfl, hI, hb, hk⟩; have m0 := Aside0.mk (HT.out.at1 hI hb hk); clear HT hI hb hk; have HT := m0; clear m0)
            | (go_at_call 13; (with_reducible refine (CR2.out _ HT.out.y).mono ?_); rintro e w1 ⟨rfl, hI, hb, hk⟩; have m0 := Aside0.mk (HT.out.at2 hI hb hk); clear HT hI hb hk; have HT := m0; clear m0))
          go_ret
          exact ⟨rfl, HT.out.hb⟩
set_option maxHeartbeats 8000000 in
set_option maxRecDepth 100000 in
theorem own_none (B : List Int) (m : Nat) (l : List S28) (n : Nat) (hm0 : Aside0 (m = 0)) (hm : B.length = m) (hB : Bytes B) (hl : m ≤ 1300) (hn : l.length = n) (hn2 : n ≤ 200) (hop : ∀ o ∈ l, 0 ≤ o.f0)
    (A0 : Option Addr) (c0 : Nat) (A1 : Option Addr) (c1 : Nat) (w : World) (hC : Kd.C (Kd.int .u8) w A0 m B) (hc : m ≤ c0) (hD : Kd.C k28 w A1 n l) :
    Calls Try.prog 6 #[.slice A0 m c0, .slice A1 n c1] w fun e w' => e = .returned (.bool true) ∧ Below w.heap.size w w' := by
  have HB := Aside0.mk (Below.refl w.heap.size w)
  have HM := Aside0.mk hm
  have HBy := Aside0.mk hB
  have HC := Aside0.mk hC
  have HD := Aside0.mk hD
  have HN := Aside0.mk hn
  have HOP := Aside0.mk hop
  clear hm hB hC hD hn hop
  have hd1 : decide ((1300 : Int) < (m : Int)) = false := decide_eq_false (by omega)
  have hd2 : decide ((200 : Int) < (n : Int)) = false := decide_eq_false (by omega)
  go_enter Try.func6, Try.ntmps6
  go_wp2_with (first
    | (go_at_call 8; (with_reducible refine (awake_any _).mono ?_); rintro e wa ⟨rfl, hb⟩; have HB1 := Aside0.mk (below_step HB.out hb); clear HB hb; have HB := HB1; clear HB1)
    | ((with_reducible refine gate_builtin (b := .append) (xs := #[.tmp 22, .tmp 23]) rfl ?_); at_builtin; refine Kd.R_append_row (Value.int .u8) (0 : Int) (h1 := fun _ => rfl) (w0 := w) w.heap.size rfl (.tmp 22) (.tmp 23) 22 5 (.int .u8 0) 1 rfl Try.underlying22 infoE rfl (by decide) (.slice (some ⟨wa.heap.size, 0, none⟩) 0 0) [] B A0 m c0 (fun _ => True) rfl rfl (fun _ _ => trivial) ((Kd.R_of_own (own_lit wa w.heap.size 5 .u8 [] HB.out.size (by decide)) (fun _ _ => trivial))) (Kd.C_below HC.out (below_alloc HB.out _)) (below_alloc HB.out _) (by simp; have := HB.out.size; omega) (by simp [HM.out]; omega) ?_; intro v1 wc hR hb2 hg hat; obtain ⟨Ac, cc, rfl⟩ := Kd.R_slice hR; rw [List.nil_append, HM.out] at hR ⊢; have HR : Aside0 (Kd.R (Kd.int .u8) 5 wc w.heap.size (fun _ => True) (.slice Ac m cc) B) := ⟨hR⟩; have HB2 := Aside0.mk hb2; have HWA : Aside0 (wa.heap.size < wc.heap.size) := ⟨Nat.lt_of_lt_of_le (by simp) hg.size⟩; clear hR hat hg hb2 HB; have HB := HB2; clear HB2)
    | (go_at_call 9; (with_reducible refine (new_own B m HM.out HBy.out (by omega) A0 c0 _ (Kd.C_below HC.out HB.out) hc).mono ?_); rintro e wx ⟨g1, rfl, hI, hg, hlt, hb⟩; have HX := Aside0.mk hI; have HG1 := Aside0.mk (Nat.le_trans HB.out.size hg); have HX1 := Aside0.mk hlt; have HX2 := Aside0.mk hg; have HR2 := Aside0.mk (Kd.R_below HR.out hb); have HSX := Aside0.mk hb.size; have HB1 := Aside0.mk (below_step HB.out hb); clear HB hb hI hg hlt; have HB := HB1; clear HB1)
    | (go_at_call 9; (with_reducible refine (new_own B m HM.out HBy.out (by omega) Ac cc _ (clone_in (w := w) HR2.out HM.out) (by have h := (Kd.R_reads' HR2.out).2.1; have := HM.out; omega)).mono ?_); rintro e wy ⟨g2, rfl, hI, hg, hlt, hb⟩; have HY := Aside0.mk hI; have HG2 := Aside0.mk (Nat.le_trans HB.out.size hg); have HY2 := Aside0.mk hg; have HXY := Aside0.mk hb; have HR3 := Aside0.mk (Kd.R_below HR2.out hb); have HB1 := Aside0.mk (below_step HB.out hb); clear HB hb hI hg hlt; have HB := HB1; clear HB1))
  have hlt0 : ¬ (0 : Int) < (m : Int) := by have := hm0.out; omega
  go_loopw [31, 8] (fun i j wr => i = .int .i64 0 ∧ Aside0 (wr = wy)) (fun _ _ _ => 0)
  case atStart => exact ⟨rfl, ⟨rfl⟩⟩
  case round =>
    obtain ⟨rfl, he⟩ := hrel
    have he := he.out
    subst he
    have HT : Aside0 (Two w.heap.size w _ g1 g2 B B (Rd.new B) (Rd.new B)) := ⟨⟨HX.out wa.heap.size _ (HWA.out) (KeepBut.of_below HXY.out _ none), HY.out wa.heap.size _ (Nat.lt_of_lt_of_le HWA.out HSX.out) (KeepBut.refl _ _ _), by have := HX1.out; have := HY2.out; omega, HG1.out, HG2.out, HB.out⟩⟩
    clear HX HY HXY HR HR2 HR3 HB
    go_wp2
    go_loopw [43] (fun i wr => ∃ (k : Nat) (s : St), k ≤ n ∧ i = .int .i64 k ∧ Aside0 (Two w.heap.size w wr g1 g2 B B s s) ∧ Aside0 (Rd.Good s ∧ s.t ≤ 3 + 2 * k ∧ s.r ≤ 16 * k)) (fun i _ => (n - intOf i).toNat)
    case atStart => exact ⟨0, Rd.new B, by omega, rfl, HT, ⟨Rd.new_good HBy.out, by simp [Rd.new], by simp [Rd.new]⟩⟩
    case round =>
      obtain ⟨k, s, hk, rfl, HT2, HS⟩ := hrel
      clear HT
      have HT := HT2
      clear HT2
      by_cases ht : k < n
      · obtain ⟨ad, hA, hc0, hc1, hc2, hc3⟩ := at_T28 (Kd.C_below HD.out HT.out.hb) (k : Int) (by omega) (by omega)
        have hK0 : 0 ≤ (rd_T28 l k).f0 := HOP.out _ (by unfold rd_T28; rw [Int.toNat_natCast, List.getD_eq_getElem?_getD, List.getElem?_eq_getElem (by rw [HN.out]; exact ht)]; exact List.getElem_mem _)
        rw [Int.toNat_natCast] at hc0 hc1 hc2 hc3
        obtain ⟨⟨K, F, T, N⟩, ho⟩ : ∃ o, rd_T28 l k = o := ⟨_, rfl⟩
        rw [ho] at hc0 hc1 hc2 hc3 hK0
        simp only at hc0 hc1 hc2 hc3 hK0
        clear ho
        subst hA
        have HL1 := Aside0.mk HT.out.lt1
        have HL2 := Aside0.mk HT.out.lt2
        by_cases h0 : K % 3 = 2
        · have hf : Int.tmod K 3 = 2 := by rw [Int.tmod_eq_emod_of_nonneg hK0]; exact h0
          obtain ⟨R, hR⟩ : ∃ R, Rd.raw B s.r (Rd.cl T) = R := ⟨_, rfl⟩
          obtain ⟨s', hs'⟩ : ∃ s', rawn s T = s' := ⟨_, rfl⟩
          have HS' : Aside0 (Rd.Good s' ∧ s'.t ≤ 3 + 2 * (k + 1) ∧ s'.r ≤ 16 * (k + 1)) := ⟨by
            rw [← hs']
            have h := HS.out
            have := Rd.cl_le T
            refine ⟨⟨h.1.g0, h.1.g1, h.1.v0, h.1.v1⟩, ?_, ?_⟩ <;> simp only [rawn] <;> omega⟩
          have hsr : s.r ≤ 90000 := by have := HS.out.2.2; omega
          have CW1 : Aside0 (∀ w, RdAt w g1 B s → Calls Try.prog 14 #[.pointer (some ⟨g1, 0, none⟩), .int .i64 T] w fun e w' => e = .returned (.int .u32 R) ∧ RdAt w' g1 B s' ∧ Below g1 w w' ∧ KeepBut w w' g1 none) := ⟨fun w h => hR ▸ hs' ▸ rd_raw HBy.out (by rw [HM.out]; omega) hsr T h⟩
          have CW2 : Aside0 (∀ w, RdAt w g2 B s → Calls Try.prog 14 #[.pointer (some ⟨g2, 0, none⟩), .int .i64 T] w fun e w' => e = .returned (.int .u32 R) ∧ RdAt w' g2 B s' ∧ Below g2 w w' ∧ KeepBut w w' g2 none) := ⟨fun w h => hR ▸ hs' ▸ rd_raw HBy.out (by rw [HM.out]; omega) hsr T h⟩
          clear hR hs' hsr
          go_wp2
          go_region_with (first
            | (go_at_call 14; (with_reducible refine (CW1.out _ (HT.out.x.below (below_alloc (Below.refl _ _) _))).mono ?_); rintro e w1 ⟨rfl, hI, hb, hk⟩; have hv2 := keep_cell hk (a := ⟨wr.heap.size, 2, none⟩) (v := .int .i64 T) (by simp) (Nat.ne_of_gt HL1.out); have hv3 := keep_cell hk (a := ⟨wr.heap.size, 3, none⟩) (v := .int .i64 N) (by simp) (Nat.ne_of_gt HL1.out); have m0 := Aside0.mk ((HT.out.below (below_alloc (Below.refl _ _) _)).at1 hI hb hk); clear HT hI hb hk; have HT := m0; clear m0)
            | (go_at_call 14; (with_reducible refine (CW1.out _ (HT.out.x.below (below_drew1 (below_alloc (Below.refl _ _) _)))).mono ?_); rintro e w1 ⟨rfl, hI, hb, hk⟩; have hv2 := keep_cell hk (a := ⟨wr.heap.size, 2, none⟩) (v := .int .i64 T) (by simp) (Nat.ne_of_gt HL1.out); have hv3 := keep_cell hk (a := ⟨wr.heap.size, 3, none⟩) (v := .int .i64 N) (by simp) (Nat.ne_of_gt HL1.out); have m0 := Aside0.mk ((HT.out.below (below_drew1 (below_alloc (Below.refl _ _) _))).at1 hI hb hk); clear HT hI hb hk; have HT := m0; clear m0)
            | (go_at_call 14; (with_reducible refine (CW1.out _ HT.out.x).mono ?_); rintro e w1 ⟨rfl, hI, hb, hk⟩; have m0 := Aside0.mk (HT.out.at1 hI hb hk); have m2 := keep_cell hk hv2 (Nat.ne_of_gt HL1.out); have m3 := keep_cell hk hv3 (Nat.ne_of_gt HL1.out); clear HT hv2 hv3 hI hb hk; have HT := m0; have hv2 := m2; have hv3 := m3; clear m0 m2 m3)
            | (go_at_call 14; (with_reducible refine (CW2.out _ (HT.out.y.below (below_alloc (Below.refl _ _) _))).mono ?_); rintro e w1 ⟨rfl, hI, hb, hk⟩; have hv2 := keep_cell hk (a := ⟨wr.heap.size, 2, none⟩) (v := .int .i64 T) (by simp) (Nat.ne_of_gt HL2.out); have hv3 := keep_cell hk (a := ⟨wr.heap.size, 3, none⟩) (v := .int .i64 N) (by simp) (Nat.ne_of_gt HL2.out); have m0 := Aside0.mk ((HT.out.below (below_alloc (Below.refl _ _) _)).at2 hI hb hk); clear HT hI hb hk; have HT := m0; clear m0)
            | (go_at_call 14; (with_reducible refine (CW2.out _ (HT.out.y.below (below_drew1 (below_alloc (Below.refl _ _) _)))).mono ?_); rintro e w1 ⟨rfl, hI, hb, hk⟩; have hv2 := keep_cell hk (a := ⟨wr.heap.size, 2, none⟩) (v := .int .i64 T) (by simp) (Nat.ne_of_gt HL2.out); have hv3 := keep_cell hk (a := ⟨wr.heap.size, 3, none⟩) (v := .int .i64 N) (by simp) (Nat.ne_of_gt HL2.out); have m0 := Aside0.mk ((HT.out.below (below_drew1 (below_alloc (Below.refl _ _) _))).at2 hI hb hk); clear HT hI hb hk; have HT := m0; clear m0)
            | (go_at_call 14; (with_reducible refine (CW2.out _ HT.out.y).mono ?_); rintro e w1 ⟨rfl, hI, hb, hk⟩; have m0 := Aside0.mk (HT.out.at2 hI hb hk); have m2 := keep_cell hk hv2 (Nat.ne_of_gt HL2.out); have m3 := keep_cell hk hv3 (Nat.ne_of_gt HL2.out); clear HT hv2 hv3 hI hb hk; have HT := m0; have hv2 := m2; have hv3 := m3; clear m0 m2 m3))
          all_goals (
            go_wp2
            go_roundw
            case rel => exact ⟨k + 1, s', by omega, by simp, HT, HS'⟩
            case measure => simp [intOf]; omega)
        · have hf : ¬ Int.tmod K 3 = 2 := by rw [Int.tmod_eq_emod_of_nonneg hK0]; exact h0
          have hf2 : (Int.tmod K 3 == 2) = false := beq_eq_false_iff_ne.2 hf
          obtain ⟨Q, hQ⟩ : ∃ Q, Rd.get s N = Q := ⟨_, rfl⟩
          obtain ⟨s', hs'⟩ : ∃ s', Rd.take B s Q (wrap64 (Q + 1)) N = s' := ⟨_, rfl⟩
          have HS' : Aside0 (Rd.Good s' ∧ s'.t ≤ 3 + 2 * (k + 1) ∧ s'.r ≤ 16 * (k + 1)) := ⟨by
            rw [← hs']
            refine ⟨Rd.take_good HBy.out HS.out.1 _ _ _, ?_, by rw [Rd.take_r]; have := HS.out.2.2; omega⟩
            have := (Rd.take_t B s Q (wrap64 (Q + 1)) N).2
            have := HS.out.2.1
            omega⟩
          have hst : s.t ≤ 9990 := by have := HS.out.2.1; omega
          have CG1 : Aside0 (∀ w, RdAt w g1 B s → Calls Try.prog 10 #[.pointer (some ⟨g1, 0, none⟩), .int .i64 N] w fun e w' => e = .returned (.int .i64 Q) ∧ RdAt w' g1 B s ∧ Below g1 w w' ∧ KeepBut w w' g1 none) := ⟨fun w h => hQ ▸ rd_get HS.out.1 N h⟩
          have CG2 : Aside0 (∀ w, RdAt w g2 B s → Calls Try.prog 10 #[.pointer (some ⟨g2, 0, none⟩), .int .i64 N] w fun e w' => e = .returned (.int .i64 Q) ∧ RdAt w' g2 B s ∧ Below g2 w w' ∧ KeepBut w w' g2 none) := ⟨fun w h => hQ ▸ rd_get HS.out.1 N h⟩
          have CT1 : Aside0 (∀ w, RdAt w g1 B s → Calls Try.prog 11 #[.pointer (some ⟨g1, 0, none⟩), .int .i64 Q, .int .i64 (wrap64 (Q + 1)), .int .i64 N] w fun e w' => e = .returned (.tuple #[]) ∧ RdAt w' g1 B s' ∧ Below g1 w w' ∧ KeepBut w w' g1 none) := ⟨fun w h => hs' ▸ rd_take HBy.out (by rw [HM.out]; omega) HS.out.1 hst _ _ _ h⟩
          have CT2 : Aside0 (∀ w, RdAt w g2 B s → Calls Try.prog 11 #[.pointer (some ⟨g2, 0, none⟩), .int .i64 Q, .int .i64 (wrap64 (Q + 1)), .int .i64 N] w fun e w' => e = .returned (.tuple #[]) ∧ RdAt w' g2 B s' ∧ Below g2 w w' ∧ KeepBut w w' g2 none) := ⟨fun w h => hs' ▸ rd_take HBy.out (by rw [HM.out]; omega) HS.out.1 hst _ _ _ h⟩
          clear hQ hs' hst
          go_wp2_with (first
            | (go_at_call 10; (with_reducible refine (CG1.out _ (HT.out.x.below (below_alloc (Below.refl _ _) _))).mono ?_); rintro e w1 ⟨rfl, hI, hb, hk⟩; have hv2 := keep_cell hk (a := ⟨wr.heap.size, 2, none⟩) (v := .int .i64 T) (by simp) (Nat.ne_of_gt HL1.out); have hv3 := keep_cell hk (a := ⟨wr.heap.size, 3, none⟩) (v := .int .i64 N) (by simp) (Nat.ne_of_gt HL1.out); have m0 := Aside0.mk ((HT.out.below (below_alloc (Below.refl _ _) _)).at1 hI hb hk); clear HT hI hb hk; have HT := m0; clear m0)
            | (go_at_call 10; (with_reducible refine (CG1.out _ (HT.out.x.below (below_drew1 (below_alloc (Below.refl _ _) _)))).mono ?_); rintro e w1 ⟨rfl, hI, hb, hk⟩; have hv2 := keep_cell hk (a := ⟨wr.heap.size, 2, none⟩) (v := .int .i64 T) (by simp) (Nat.ne_of_gt HL1.out); have hv3 := keep_cell hk (a := ⟨wr.heap.size, 3, none⟩) (v := .int .i64 N) (by simp) (Nat.ne_of_gt HL1.out); have m0 := Aside0.mk ((HT.out.below (below_drew1 (below_alloc (Below.refl _ _) _))).at1 hI hb hk); clear HT hI hb hk; have HT := m0; clear m0)
            | (go_at_call 10; (with_reducible refine (CG1.out _ HT.out.x).mono ?_); rintro e w1 ⟨rfl, hI, hb, hk⟩; have m0 := Aside0.mk (HT.out.at1 hI hb hk); have m2 := keep_cell hk hv2 (Nat.ne_of_gt HL1.out); have m3 := keep_cell hk hv3 (Nat.ne_of_gt HL1.out); clear HT hv2 hv3 hI hb hk; have HT := m0; have hv2 := m2; have hv3 := m3; clear m0 m2 m3)
            | (go_at_call 10; (with_reducible refine (CG2.out _ HT.out.y).mono ?_); rintro e w1 ⟨rfl, hI, hb, hk⟩; have m0 := Aside0.mk (HT.out.at2 hI hb hk); have m2 := keep_cell hk hv2 (Nat.ne_of_gt HL2.out); have m3 := keep_cell hk hv3 (Nat.ne_of_gt HL2.out); clear HT hv2 hv3 hI hb hk; have HT := m0; have hv2 := m2; have hv3 := m3; clear m0 m2 m3)
            | (go_at_call 11; (with_reducible refine (CT1.out _ HT.out.x).mono ?_); rintro e w1 ⟨rfl, hI, hb, hk⟩; have m0 := Aside0.mk (HT.out.at1 hI hb hk); have m2 := keep_cell hk hv2 (Nat.ne_of_gt HL1.out); have m3 := keep_cell hk hv3 (Nat.ne_of_gt HL1.out); clear HT hv2 hv3 hI hb hk; have HT := m0; have hv2 := m2; have hv3 := m3; clear m0 m2 m3)
            | (go_at_call 11; (with_reducible refine (CT2.out _ HT.out.y).mono ?_); rintro e w1 ⟨rfl, hI, hb, hk⟩; have m0 := Aside0.mk (HT.out.at2 hI hb hk); have m2 := keep_cell hk hv2 (Nat.ne_of_gt HL2.out); have m3 := keep_cell hk hv3 (Nat.ne_of_gt HL2.out); clear HT hv2 hv3 hI hb hk; have HT := m0; have hv2 := m2; have hv3 := m3; clear m0 m2 m3))
          go_roundw
          case rel => exact ⟨k + 1, s', by omega, by simp, HT, HS'⟩
          case measure => simp [intOf]; omega
      · have hst' : s.t ≤ 10000 := by have := HS.out.2.1; omega
        have hsr' : s.r ≤ 100000 := by have := HS.out.2.2; omega
        obtain ⟨L, hL⟩ : ∃ L, left B s = L := ⟨_, rfl⟩
        obtain ⟨G', hG'⟩ : ∃ G', s.g = G' := ⟨_, rfl⟩
        have CL1 : Aside0 (∀ w, RdAt w g1 B s → Calls Try.prog 12 #[.pointer (some ⟨g1, 0, none⟩)] w fun e w' => e = .returned (.int .i64 L) ∧ RdAt w' g1 B s ∧ Below g1 w w' ∧ KeepBut w w' g1 none) := ⟨fun w h => hL ▸ rd_left (by rw [HM.out]; omega) hst' hsr' h⟩
        have CL2 : Aside0 (∀ w, RdAt w g2 B s → Calls Try.prog 12 #[.pointer (some ⟨g2, 0, none⟩)] w fun e w' => e = .returned (.int .i64 L) ∧ RdAt w' g2 B s ∧ Below g2 w w' ∧ KeepBut w w' g2 none) := ⟨fun w h => hL ▸ rd_left (by rw [HM.out]; omega) hst' hsr' h⟩
        have CR1 : Aside0 (∀ w, RdAt w g1 B s → Calls Try.prog 13 #[.pointer (some ⟨g1, 0, none⟩)] w fun e w' => e = .returned (.int .u32 G') ∧ RdAt w' g1 B s ∧ Below g1 w w' ∧ KeepBut w w' g1 none) := ⟨fun w h => hG' ▸ rd_rng h⟩
        have CR2 : Aside0 (∀ w, RdAt w g2 B s → Calls Try.prog 13 #[.pointer (some ⟨g2, 0, none⟩)] w fun e w' => e = .returned (.int .u32 G') ∧ RdAt w' g2 B s ∧ Below g2 w w' ∧ KeepBut w w' g2 none) := ⟨fun w h => hG' ▸ rd_rng h⟩
        clear hL hG' hst' hsr'
        go_wp2_with (first
          | (go_at_call 12; (with_reducible refine (CL1.out _ HT.out.x).mono ?_); rintro e w1 ⟨rfl, hI, hb, hk⟩; have m0 := Aside0.mk (HT.out.at1 hI hb hk); clear HT hI hb hk; have HT := m0; clear m0)
          | (go_at_call 12; (with_reducible refine (CL2.out _ HT.out.y).mono ?_); rintro e w1 ⟨rfl, hI, hb, hk⟩; have m0 := Aside0.mk (HT.out.at2 hI hb hk); clear HT hI hb hk; have HT := m0; clear m0)
          | (go_at_call 13; (with_reducible refine (CR1.out _ HT.out.x).mono ?_); rintro e w1 ⟨rfl, hI, hb, hk⟩; have m0 := Aside0.mk (HT.out.at1 hI hb hk); clear HT hI hb hk; have HT := m0; clear m0)
          | (go_at_call 13; (with_reducible refine (CR2.out _ HT.out.y).mono ?_); rintro e w1 ⟨rfl, hI, hb, hk⟩; have m0 := Aside0.mk (HT.out.at2 hI hb hk); clear HT hI hb hk; have HT := m0; clear m0))
        go_ret
        exact ⟨rfl, HT.out.hb⟩
set_option maxHeartbeats 4000000 in
set_option maxRecDepth 100000 in
theorem own_long1 (A0 : Option Addr) (m c0 : Nat) (A1 : Option Addr) (n c1 : Nat) (w : World) (hd1 : decide ((1300 : Int) < (m : Int)) = true) :
    Calls Try.prog 6 #[.slice A0 m c0, .slice A1 n c1] w fun e w' => e = .returned (.bool true) ∧ Below w.heap.size w w' := by
  have HB := Aside0.mk (Below.refl w.heap.size w)
  go_enter Try.func6, Try.ntmps6
  go_wp2_with (first
    | (go_at_call 8; (with_reducible refine (awake_any _).mono ?_); rintro e wa ⟨rfl, hb⟩; have HB1 := Aside0.mk (below_step HB.out hb); clear HB hb; have HB := HB1; clear HB1))
  go_ret
  exact ⟨rfl, HB.out⟩
set_option maxHeartbeats 4000000 in
set_option maxRecDepth 100000 in
theorem own_long2 (A0 : Option Addr) (m c0 : Nat) (A1 : Option Addr) (n c1 : Nat) (w : World) (hd1 : decide ((1300 : Int) < (m : Int)) = false) (hd2 : decide ((200 : Int) < (n : Int)) = true) :
    Calls Try.prog 6 #[.slice A0 m c0, .slice A1 n c1] w fun e w' => e = .returned (.bool true) ∧ Below w.heap.size w w' := by
  have HB := Aside0.mk (Below.refl w.heap.size w)
  go_enter Try.func6, Try.ntmps6
  go_wp2_with (first
    | (go_at_call 8; (with_reducible refine (awake_any _).mono ?_); rintro e wa ⟨rfl, hb⟩; have HB1 := Aside0.mk (below_step HB.out hb); clear HB hb; have HB := HB1; clear HB1))
  go_ret
  exact ⟨rfl, HB.out⟩
theorem own_row (a0 : Option Addr) (len0 cap0 : Nat) (z0 : List Int) (a1 : Option Addr) (len1 cap1 : Nat) (z1 : List (List Int)) (w : World) (w0 : (a0 = none ∧ len0 = 0 ∧ cap0 = 0 ∧ z0 = []) ∨ ∃ x, a0 = some x ∧ len0 ≤ cap0 ∧ cap0 ≤ maxLen ∧ z0.length = cap0 ∧ (∀ i, i < z0.length → w.cell? (x.add i) = some (.int .u8 (z0.getD i 0))) ∧ ∀ n ∈ z0, (Lit.int .u8 n).wf = true) (w1 : StructRows.Rows [.u8, .i64, .i64, .i64] w a1 len1 cap1 z1) :
    Calls Try.prog 6 #[.slice a0 len0 cap0, .slice a1 len1 cap1] w fun e w' => e = .returned (.bool true) ∧ Below w.heap.size w w' := by
  obtain ⟨l0, rfl, hr0, hm0, hw0, hc0⟩ := ReadsInt.ofRowC w0
  have hB : Bytes l0 := fun x h => Math.wf_u8 (hw0 x h)
  obtain ⟨hD, _, hop⟩ := ops28 w1
  by_cases hm : l0.length ≤ 1300
  · by_cases hn : len1 ≤ 200
    · rcases Nat.eq_zero_or_pos l0.length with h0 | h0
      · exact own_none l0 _ (z1.map to28) len1 ⟨h0⟩ rfl hB hm hD.1 hn (fun o ho => (Math.wf_u8 (hop o ho).1).1) a0 cap0 a1 cap1 w (Kd.C_of_reads (d := (0 : Int)) (h1 := fun _ => rfl) hr0) hc0 hD
      · exact own_many l0 _ (z1.map to28) len1 h0 rfl hB hm hD.1 hn (fun o ho => (Math.wf_u8 (hop o ho).1).1) a0 cap0 a1 cap1 w (Kd.C_of_reads (d := (0 : Int)) (h1 := fun _ => rfl) hr0) hc0 hD
    · exact own_long2 _ _ _ _ _ _ _ (decide_eq_false (by omega)) (decide_eq_true (by omega))
  · exact own_long1 _ _ _ _ _ _ _ (decide_eq_true (by omega))
end Go.Proofs.Ythccifjjmigklaa.RdLaw
