import Derived.Test.YthccifjjmigklaaRdTwo
namespace Go.Proofs.Ythccifjjmigklaa.RdLaw
open Go.RowKit Go.Proofs.YthccifjjmigklaaW.PrintWords Go.Proofs.YthccifjjmigklaaW.PrintLast Go.Proofs.YthccifjjmigklaaW.PrintMore
open Go.Proofs.Ythccifjjmigklaa.Rd (St by_ Bytes)
open Go.Proofs.Ythccifjjmigklaa.RdWalk
set_option linter.unusedVariables false
set_option linter.unusedSimpArgs false
set_option maxHeartbeats 4000000 in
set_option maxRecDepth 100000 in
theorem noughts_at (B B2 : List Int) (m mm k : Nat) (z : Int) (l : List S28) (n : Nat) (hm : B.length = m) (hB : Bytes B) (hl : m ≤ 1300) (hz0 : 0 ≤ z) (hz1 : z ≤ 255) (hB2 : B2 = B ++ List.replicate z.toNat 0) (hmm : B2.length = mm) (hmm2 : mm ≤ 1555) (hBy2 : Bytes B2) (hn : l.length = n) (hn2 : n ≤ 200)
    (A0 : Option Addr) (c0 : Nat) (A1 : Option Addr) (c1 : Nat) (w : World) (hC : Kd.C (Kd.int .u8) w A0 m B) (hc : m ≤ c0) (hD : Kd.C k28 w A1 n l) :
    Calls Try.prog 3 #[.slice A0 m c0, .slice A1 n c1, .int .u8 z] w fun e w' => e = .returned (.bool true) ∧ Below w.heap.size w w' := by
  have HB := Aside0.mk (Below.refl w.heap.size w)
  have HM := Aside0.mk hm
  have HBy := Aside0.mk hB
  have HBy2 := Aside0.mk hBy2
  have HE := Aside0.mk hB2
  have HMM := Aside0.mk hmm
  have HC := Aside0.mk hC
  have HD := Aside0.mk hD
  have HN := Aside0.mk hn
  clear hm hB hBy2 hB2 hmm hC hD hn
  have hd1 : decide ((1300 : Int) < (m : Int)) = false := decide_eq_false (by omega)
  have hd2 : decide ((200 : Int) < (n : Int)) = false := decide_eq_false (by omega)
  have ez : IntKind.i64.wrap z = z := IntWalk.i64_in _ (by omega)
  have HZ := Aside0.mk hz0
  go_enter Try.func3, Try.ntmps3
  go_wp2_with (first
    | (go_at_call 8; (with_reducible refine (awake_any _).mono ?_); rintro e wa ⟨rfl, hb⟩; have HB1 := Aside0.mk (below_step HB.out hb); clear HB hb; have HB := HB1; clear HB1)
    | (go_at_call 9; (with_reducible refine (rd_new B m HM.out HBy.out (by omega) A0 c0 _ (Kd.C_below HC.out HB.out) hc).mono ?_); rintro e wx ⟨g1, rfl, hI, hg, hb⟩; have HX := Aside0.mk hI; have HG1 := Aside0.mk (Nat.le_trans HB.out.size hg); have HB1 := Aside0.mk (below_step HB.out hb); clear HB hb hI hg; have HB := HB1; clear HB1)
    | ((with_reducible refine gate_builtin (b := .append) (xs := #[.tmp 24, .tmp 25]) rfl ?_); at_builtin; refine Kd.R_append_row (Value.int .u8) (0 : Int) (h1 := fun _ => rfl) (w0 := w) w.heap.size rfl (.tmp 24) (.tmp 25) 22 5 (.int .u8 0) 1 rfl Try.underlying22 infoE rfl (by decide) (.slice (some ⟨wx.heap.size, 0, none⟩) 0 0) [] B A0 m c0 (fun _ => True) rfl rfl (fun _ _ => trivial) ((Kd.R_of_own (own_lit wx w.heap.size 5 .u8 [] HB.out.size (by decide)) (fun _ _ => trivial))) (Kd.C_below HC.out (below_alloc HB.out _)) (below_alloc HB.out _) (by simp; have := HB.out.size; omega) (by simp [HM.out]; omega) ?_; intro v1 w2 hR hb2 hg hat; have HR := Aside0.mk hR; have HB2 := Aside0.mk hb2; have HBX := Aside0.mk ((below_alloc (Below.refl wx.heap.size wx) _).grown hg (by simp) (fun k hk => by simp [Value.ownBlock] at hk; omega)); have HAT : Aside0 (∀ k, v1.ownBlock = some k → wx.heap.size ≤ k) := ⟨fun k hk => by rcases hat with h | ⟨b, h, h2⟩; (rw [h] at hk; simp [Value.ownBlock] at hk; omega); (rw [h] at hk; injection hk with hk; simp at h2; omega)⟩; clear hat hg hb2 hR HB; have HB := HB2; clear HB2)
    | ((with_reducible refine gate_builtin (b := .append) (xs := #[.tmp 26, .tmp 28]) rfl ?_); at_builtin; refine Kd.R_append_zeros (Kd.int .u8) (w0 := w) w.heap.size rfl (.tmp 26) (.tmp 28) 22 3 5 (.int .u8 0) 1 rfl Try.underlying22 Try.underlying3 infoE rfl (by decide) (by decide) v1 B (0 : Int) z (fun _ => True) rfl rfl rfl (fun _ _ => trivial) HR.out HZ.out HB.out HB.out.size (by simp [HM.out]; omega) ?_; intro v2 w3 hR2 hb2 hg hat; obtain ⟨A2, c2, rfl⟩ := Kd.R_slice hR2; have HC2 : Aside0 (Kd.C (Kd.int .u8) w3 A2 mm B2 ∧ mm ≤ c2) := ⟨by have h := Kd.R_reads' hR2; rw [← HE.out, HMM.out] at h; exact ⟨h.2.2, h.2.1⟩⟩; have HX2 := Aside0.mk (HX.out.below (HBX.out.grown hg HBX.out.size HAT.out)); have HB2 := Aside0.mk hb2; rw [← HE.out, HMM.out]; clear hR2 hb2 hg hat HB HR HX HBX HAT; have HB := HB2; have HX := HX2; clear HB2 HX2)
    | (go_at_call 9; (with_reducible refine (rd_new B2 mm HMM.out HBy2.out (by omega) A2 c2 _ HC2.out.1 HC2.out.2).mono ?_); rintro e wy ⟨g2, rfl, hI, hg, hb⟩; have HT : Aside0 (Two w.heap.size w wy g1 g2 B B2 (Rd.new B) (Rd.new B)) := ⟨⟨HX.out.below hb, by rw [← Rd.new_zeros B z.toNat, ← HE.out]; exact hI, by have := at_lt HX.out; omega, HG1.out, Nat.le_trans HB.out.size hg, below_step HB.out hb⟩⟩; clear HB hb hI hg HX HG1 HC2))
  go_loopw [33] (fun i wr => ∃ (k : Nat) (s : St), k ≤ n ∧ i = .int .i64 k ∧ Aside0 (Two w.heap.size w wr g1 g2 B B2 s s) ∧ Aside0 (Rd.Good s ∧ s.t ≤ 3 + 2 * k ∧ s.r = 0)) (fun i _ => (n - intOf i).toNat)
  case atStart => exact ⟨0, Rd.new B, by omega, rfl, HT, ⟨Rd.new_good HBy.out, by simp [Rd.new], rfl⟩⟩
  case round =>
    obtain ⟨k, s, hk, rfl, HT2, HS⟩ := hrel
    clear HT
    have HT := HT2
    clear HT2
    by_cases ht : k < n
    · obtain ⟨ad, hA, hc0, hc1, hc2, hc3⟩ := at_T28 (Kd.C_below HD.out HT.out.hb) (k : Int) (by omega) (by omega)
      rw [Int.toNat_natCast] at hc0 hc1 hc2 hc3
      obtain ⟨⟨K, F, T, N⟩, ho⟩ : ∃ o, rd_T28 l k = o := ⟨_, rfl⟩
      rw [ho] at hc0 hc1 hc2 hc3
      simp only at hc0 hc1 hc2 hc3
      clear ho
      subst hA
      have HL1 := Aside0.mk HT.out.lt1
      have HL2 := Aside0.mk HT.out.lt2
      obtain ⟨Q, hQ⟩ : ∃ Q, Rd.get s N = Q := ⟨_, rfl⟩
      obtain ⟨s', hs'⟩ : ∃ s', Rd.take B s Q (wrap64 (Q + 1)) N = s' := ⟨_, rfl⟩
      have hs2 : Rd.take B2 s Q (wrap64 (Q + 1)) N = s' := by rw [← hs', HE.out, Rd.take_zeros]
      have HS' : Aside0 (Rd.Good s' ∧ s'.t ≤ 3 + 2 * (k + 1) ∧ s'.r = 0) := ⟨by
        rw [← hs']
        refine ⟨Rd.take_good HBy.out HS.out.1 _ _ _, ?_, by rw [Rd.take_r]; exact HS.out.2.2⟩
        have := (Rd.take_t B s Q (wrap64 (Q + 1)) N).2
        have := HS.out.2.1
        omega⟩
      have hst : s.t ≤ 9990 := by have := HS.out.2.1; omega
      have hst' : s'.t ≤ 10000 := by have := HS'.out.2.1; omega
      have hsr' : s'.r ≤ 100000 := by have := HS'.out.2.2; omega
      obtain ⟨L1, hL1⟩ : ∃ L, left B s' = L := ⟨_, rfl⟩
      obtain ⟨L2, hL2⟩ : ∃ L, left B2 s' = L := ⟨_, rfl⟩
      have hLL : L1 + 8 * z = L2 := by
        rw [← hL1, ← hL2]
        unfold left
        rw [HE.out, List.length_append, List.length_replicate]
        have := HZ.out
        omega
      have hLb : -1000000 ≤ L2 ∧ L2 ≤ 1000000 := by
        rw [← hL2]
        unfold left
        rw [HMM.out]
        omega
      have CG1 : Aside0 (∀ w, RdAt w g1 B s → Calls Try.prog 10 #[.pointer (some ⟨g1, 0, none⟩), .int .i64 N] w fun e w' => e = .returned (.int .i64 Q) ∧ RdAt w' g1 B s ∧ Below g1 w w' ∧ KeepBut w w' g1 none) := ⟨fun w h => hQ ▸ rd_get HS.out.1 N h⟩
      have CG2 : Aside0 (∀ w, RdAt w g2 B2 s → Calls Try.prog 10 #[.pointer (some ⟨g2, 0, none⟩), .int .i64 N] w fun e w' => e = .returned (.int .i64 Q) ∧ RdAt w' g2 B2 s ∧ Below g2 w w' ∧ KeepBut w w' g2 none) := ⟨fun w h => hQ ▸ rd_get HS.out.1 N h⟩
      have CT1 : Aside0 (∀ w, RdAt w g1 B s → Calls Try.prog 11 #[.pointer (some ⟨g1, 0, none⟩), .int .i64 Q, .int .i64 (wrap64 (Q + 1)), .int .i64 N] w fun e w' => e = .returned (.tuple #[]) ∧ RdAt w' g1 B s' ∧ Below g1 w w' ∧ KeepBut w w' g1 none) := ⟨fun w h => hs' ▸ rd_take HBy.out (by rw [HM.out]; omega) HS.out.1 hst _ _ _ h⟩
      have CT2 : Aside0 (∀ w, RdAt w g2 B2 s → Calls Try.prog 11 #[.pointer (some ⟨g2, 0, none⟩), .int .i64 Q, .int .i64 (wrap64 (Q + 1)), .int .i64 N] w fun e w' => e = .returned (.tuple #[]) ∧ RdAt w' g2 B2 s' ∧ Below g2 w w' ∧ KeepBut w w' g2 none) := ⟨fun w h => hs2 ▸ rd_take HBy2.out (by rw [HMM.out]; omega) HS.out.1 hst _ _ _ h⟩
      have CL1 : Aside0 (∀ w, RdAt w g1 B s' → Calls Try.prog 12 #[.pointer (some ⟨g1, 0, none⟩)] w fun e w' => e = .returned (.int .i64 L1) ∧ RdAt w' g1 B s' ∧ Below g1 w w' ∧ KeepBut w w' g1 none) := ⟨fun w h => hL1 ▸ rd_left (by rw [HM.out]; omega) hst' hsr' h⟩
      have CL2 : Aside0 (∀ w, RdAt w g2 B2 s' → Calls Try.prog 12 #[.pointer (some ⟨g2, 0, none⟩)] w fun e w' => e = .returned (.int .i64 L2) ∧ RdAt w' g2 B2 s' ∧ Below g2 w w' ∧ KeepBut w w' g2 none) := ⟨fun w h => hL2 ▸ rd_left (by rw [HMM.out]; omega) hst' hsr' h⟩
      obtain ⟨G', hG'⟩ : ∃ G', s'.g = G' := ⟨_, rfl⟩
      have CR1 : Aside0 (∀ w, RdAt w g1 B s' → Calls Try.prog 13 #[.pointer (some ⟨g1, 0, none⟩)] w fun e w' => e = .returned (.int .u32 G') ∧ RdAt w' g1 B s' ∧ Below g1 w w' ∧ KeepBut w w' g1 none) := ⟨fun w h => hG' ▸ rd_rng h⟩
      have CR2 : Aside0 (∀ w, RdAt w g2 B2 s' → Calls Try.prog 13 #[.pointer (some ⟨g2, 0, none⟩)] w fun e w' => e = .returned (.int .u32 G') ∧ RdAt w' g2 B2 s' ∧ Below g2 w w' ∧ KeepBut w w' g2 none) := ⟨fun w h => hG' ▸ rd_rng h⟩
      have f1 : IntKind.i64.wrap (8 * z) = 8 * z := IntWalk.i64_in _ (by have := HZ.out; omega)
      have f2 : IntKind.i64.wrap (L1 + 8 * z) = L2 := by rw [hLL]; exact IntWalk.i64_in _ (by omega)
      clear hQ hs' hs2 hst hst' hsr' hL1 hL2 hLL hLb hG'
      go_wp2_with (first
        | (go_at_call 10; (with_reducible refine (CG1.out _ (HT.out.x.below (below_alloc (Below.refl _ _) _))).mono ?_); rintro e w1 ⟨rfl, hI, hb, hk⟩; have hv := keep_cell hk (a := ⟨wr.heap.size, 3, none⟩) (v := .int .i64 N) (by simp) (Nat.ne_of_gt HL1.out); have m0 := Aside0.mk ((HT.out.below (below_alloc (Below.refl _ _) _)).at1 hI hb hk); clear HT hI hb hk; have HT := m0; clear m0)
        | (go_at_call 10; (with_reducible refine (CG2.out _ HT.out.y).mono ?_); rintro e w1 ⟨rfl, hI, hb, hk⟩; have m0 := Aside0.mk (HT.out.at2 hI hb hk); have m1 := keep_cell hk hv (Nat.ne_of_gt HL2.out); clear HT hv hI hb hk; have HT := m0; have hv := m1; clear m0 m1)
        | (go_at_call 11; (with_reducible refine (CT1.out _ HT.out.x).mono ?_); rintro e w1 ⟨rfl, hI, hb, hk⟩; have m0 := Aside0.mk (HT.out.at1 hI hb hk); have m1 := keep_cell hk hv (Nat.ne_of_gt HL1.out); clear HT hv hI hb hk; have HT := m0; have hv := m1; clear m0 m1)
        | (go_at_call 11; (with_reducible refine (CT2.out _ HT.out.y).mono ?_); rintro e w1 ⟨rfl, hI, hb, hk⟩; have m0 := Aside0.mk (HT.out.at2 hI hb hk); have m1 := keep_cell hk hv (Nat.ne_of_gt HL2.out); clear HT hv hI hb hk; have HT := m0; have hv := m1; clear m0 m1)
        | (go_at_call 12; (with_reducible refine (CL1.out _ HT.out.x).mono ?_); rintro e w1 ⟨rfl, hI, hb, hk⟩; have m0 := Aside0.mk (HT.out.at1 hI hb hk); have m1 := keep_cell hk hv (Nat.ne_of_gt HL1.out); clear HT hv hI hb hk; have HT := m0; have hv := m1; clear m0 m1)
        | (go_at_call 12; (with_reducible refine (CL2.out _ HT.out.y).mono ?_); rintro e w1 ⟨rfl, hI, hb, hk⟩; have m0 := Aside0.mk (HT.out.at2 hI hb hk); have m1 := keep_cell hk hv (Nat.ne_of_gt HL2.out); clear HT hv hI hb hk; have HT := m0; have hv := m1; clear m0 m1)
        | (go_at_call 13; (with_reducible refine (CR1.out _ HT.out.x).mono ?_); rintro e w1 ⟨rfl, hI, hb, hk⟩; have m0 := Aside0.mk (HT.out.at1 hI hb hk); have m1 := keep_cell hk hv (Nat.ne_of_gt HL1.out); clear HT hv hI hb hk; have HT := m0; have hv := m1; clear m0 m1)
        | (go_at_call 13; (with_reducible refine (CR2.out _ HT.out.y).mono ?_); rintro e w1 ⟨rfl, hI, hb, hk⟩; have m0 := Aside0.mk (HT.out.at2 hI hb hk); have m1 := keep_cell hk hv (Nat.ne_of_gt HL2.out); clear HT hv hI hb hk; have HT := m0; have hv := m1; clear m0 m1))
      go_roundw
      case rel => exact ⟨k + 1, s', by omega, by simp, HT, HS'⟩
      case measure => simp [intOf]; omega
    · go_wp2
      go_ret
      exact ⟨rfl, HT.out.hb⟩
set_option maxHeartbeats 4000000 in
set_option maxRecDepth 100000 in
theorem noughts_long1 (A0 : Option Addr) (m c0 : Nat) (A1 : Option Addr) (n c1 : Nat) (z : Int) (w : World) (hd1 : decide ((1300 : Int) < (m : Int)) = true) :
    Calls Try.prog 3 #[.slice A0 m c0, .slice A1 n c1, .int .u8 z] w fun e w' => e = .returned (.bool true) ∧ Below w.heap.size w w' := by
  have HB := Aside0.mk (Below.refl w.heap.size w)
  go_enter Try.func3, Try.ntmps3
  go_wp2_with (first
    | (go_at_call 8; (with_reducible refine (awake_any _).mono ?_); rintro e wa ⟨rfl, hb⟩; have HB1 := Aside0.mk (below_step HB.out hb); clear HB hb; have HB := HB1; clear HB1))
  go_ret
  exact ⟨rfl, HB.out⟩
set_option maxHeartbeats 4000000 in
set_option maxRecDepth 100000 in
theorem noughts_long2 (A0 : Option Addr) (m c0 : Nat) (A1 : Option Addr) (n c1 : Nat) (z : Int) (w : World) (hd1 : decide ((1300 : Int) < (m : Int)) = false) (hd2 : decide ((200 : Int) < (n : Int)) = true) :
    Calls Try.prog 3 #[.slice A0 m c0, .slice A1 n c1, .int .u8 z] w fun e w' => e = .returned (.bool true) ∧ Below w.heap.size w w' := by
  have HB := Aside0.mk (Below.refl w.heap.size w)
  go_enter Try.func3, Try.ntmps3
  go_wp2_with (first
    | (go_at_call 8; (with_reducible refine (awake_any _).mono ?_); rintro e wa ⟨rfl, hb⟩; have HB1 := Aside0.mk (below_step HB.out hb); clear HB hb; have HB := HB1; clear HB1))
  go_ret
  exact ⟨rfl, HB.out⟩

theorem noughts_row (a0 : Option Addr) (len0 cap0 : Nat) (z0 : List Int) (a1 : Option Addr) (len1 cap1 : Nat) (z1 : List (List Int)) (a2 : Int) (w : World) (w0 : (a0 = none ∧ len0 = 0 ∧ cap0 = 0 ∧ z0 = []) ∨ ∃ x, a0 = some x ∧ len0 ≤ cap0 ∧ cap0 ≤ maxLen ∧ z0.length = cap0 ∧ (∀ i, i < z0.length → w.cell? (x.add i) = some (.int .u8 (z0.getD i 0))) ∧ ∀ n ∈ z0, (Lit.int .u8 n).wf = true) (w1 : StructRows.Rows [.u8, .i64, .i64, .i64] w a1 len1 cap1 z1) (w2 : (Lit.int .u8 a2).wf = true) :
    Calls Try.prog 3 #[.slice a0 len0 cap0, .slice a1 len1 cap1, .int .u8 a2] w fun e w' => e = .returned (.bool true) ∧ Below w.heap.size w w' := by
  obtain ⟨l0, rfl, hr0, hm0, hw0, hc0⟩ := ReadsInt.ofRowC w0
  have hB : Bytes l0 := fun x h => Math.wf_u8 (hw0 x h)
  obtain ⟨hD, _, _⟩ := ops28 w1
  by_cases hm : l0.length ≤ 1300
  · by_cases hn : len1 ≤ 200
    · have h2 := Math.wf_u8 w2
      have hy : Bytes (l0 ++ List.replicate a2.toNat 0) := fun x h => by
        rcases List.mem_append.1 h with h | h
        · exact hB x h
        · rw [List.eq_of_mem_replicate h]; omega
      exact noughts_at l0 _ _ _ 0 a2 (z1.map to28) len1 rfl hB hm h2.1 h2.2 rfl rfl (by rw [List.length_append, List.length_replicate]; omega) hy hD.1 hn a0 cap0 a1 cap1 w (Kd.C_of_reads (d := (0 : Int)) (h1 := fun _ => rfl) hr0) hc0 hD
    · exact noughts_long2 _ _ _ _ _ _ _ _ (decide_eq_false (by omega)) (decide_eq_true (by omega))
  · exact noughts_long1 _ _ _ _ _ _ _ _ (decide_eq_true (by omega))
end Go.Proofs.Ythccifjjmigklaa.RdLaw
