import Derived.Test.YtcobbiapgihefaaWrSep
namespace Go.Proofs.Ytcobbiapgihefaa.WrLaw
open Go.RowKit Go.Proofs.YtcobbiapgihefaaW.PrintWords Go.Proofs.YtcobbiapgihefaaW.PrintLast Go.Proofs.YtcobbiapgihefaaW.PrintMore
open Go.Proofs.Ytcobbiapgihefaa.Wr (St)
open Go.Proofs.Ytcobbiapgihefaa.WrWalk
open Go.Proofs.Ytcobbiapgihefaa.Pack (pk bitsOf bitsOf_len)
set_option linter.unusedVariables false
set_option linter.unusedSimpArgs false
theorem size_is {z Z : Int} (hz : 0 ≤ z ∧ z < 65536) (hZ : 4 + z % 1272 = Z) : wrap64 (4 + (wrap64 z).tmod 1272) = Z := by
  rw [w64n (x := z) (by omega) (by omega), Int.tmod_eq_emod_of_nonneg hz.1, w64n (by omega) (by omega)]; exact hZ
set_option maxHeartbeats 4000000 in
set_option maxRecDepth 100000 in
theorem range_long (sz : Int) (A1 : Option Addr) (n c1 : Nat) (w : World) (hd2 : decide ((200 : Int) < (n : Int)) = true) :
    Calls Try.prog 3 #[.int .u16 sz, .slice A1 n c1] w fun e w' => e = .returned (.bool true) ∧ Below w.heap.size w w' := by
  have HB := Aside0.mk (Below.refl w.heap.size w)
  go_enter Try.func3, Try.ntmps3
  go_wp2_with (first
    | (go_at_call 7; (with_reducible refine (awake_any _).mono ?_); rintro e wa ⟨rfl, hb⟩; have HB1 := Aside0.mk (below_step HB.out hb); clear HB hb; have HB := HB1; clear HB1))
  go_ret
  exact ⟨rfl, HB.out⟩
set_option maxHeartbeats 8000000 in
set_option maxRecDepth 100000 in
theorem range_at (z Z : Int) (hz : 0 ≤ z ∧ z < 65536) (hZ : 4 + z % 1272 = Z) (l : List S31) (n : Nat) (hn : l.length = n) (hn2 : n ≤ 200) (A1 : Option Addr) (c1 : Nat) (w : World) (hD : Kd.C k31 w A1 n l) :
    Calls Try.prog 3 #[.int .u16 z, .slice A1 n c1] w fun e w' => e = .returned (.bool true) ∧ Below w.heap.size w w' := by
  have HB := Aside0.mk (Below.refl w.heap.size w)
  have HD := Aside0.mk hD
  have HN := Aside0.mk hn
  have HZ : Aside0 (4 ≤ Z ∧ Z ≤ 1275) := ⟨by omega⟩
  have hd2 : decide ((200 : Int) < (n : Int)) = false := decide_eq_false (by omega)
  have hu := size_is hz hZ
  have CN : Aside0 (∀ w1, Calls Try.prog 8 #[.int .i64 (wrap64 (4 + (wrap64 z).tmod 1272))] w1 fun e w' => ∃ g, e = .returned (.tuple #[.pointer (some ⟨g, 0, none⟩), .int .i64 0]) ∧ WrAt (fun k => w1.heap.size ≤ k) w' g Z Wr.new [] ∧ Below w1.heap.size w1 w') := ⟨fun w1 => by rw [hu]; exact new_wr2 Z HZ.out w1⟩
  clear hD hn hZ hz hu
  go_enter Try.func3, Try.ntmps3
  go_wp2_with (first
    | (go_at_call 7; (with_reducible refine (awake_any _).mono ?_); rintro e wa ⟨rfl, hb⟩; have HB1 := Aside0.mk (below_step HB.out hb); clear HB hb; have HB := HB1; clear HB1)
    | (go_at_call 8; (with_reducible refine (CN.out _).mono ?_); rintro e wx ⟨g, rfl, hI, hb⟩; have HS := Aside0.mk (Sep.one (below_step HB.out hb) (ow_wr g Z Wr.new []) hI (fun k hk => Nat.le_trans HB.out.size hk)); clear HB hb hI))
  go_loopw [33] (fun i wr => ∃ (k : Nat) (s : St), k ≤ n ∧ i = .int .i64 k ∧ Aside0 (Sep w (fun ok w => WrAt ok w g Z s []) (fun _ _ => True) none wr) ∧ Aside0 (Wr.Fair s 65537 ∧ s.m ≤ 2 * k)) (fun i _ => (n - intOf i).toNat)
  case atStart => exact ⟨0, Wr.new, by omega, rfl, HS, ⟨Wr.new_fair, Nat.zero_le _⟩⟩
  case round =>
    obtain ⟨k, s, hk, rfl, HS2, HF⟩ := hrel
    clear HS
    have HS := HS2
    clear HS2
    by_cases ht : k < n
    · obtain ⟨ad, hA, hc0, hc1, hc2, hc3, hc4⟩ := at_T31 (Kd.C_below HD.out HS.out.hb) (k : Int) (by omega) (by omega)
      rw [Int.toNat_natCast] at hc0 hc1 hc2 hc3 hc4
      obtain ⟨⟨K, F, T, M, X⟩, ho⟩ : ∃ o, rd_T31 l k = o := ⟨_, rfl⟩
      rw [ho] at hc0 hc1 hc2 hc3 hc4
      simp only at hc0 hc1 hc2 hc3 hc4
      clear ho
      subst hA
      obtain ⟨s', hs'⟩ : ∃ s', Wr.put s F T M = s' := ⟨_, rfl⟩
      have HS' : Aside0 (Wr.Fair s' 65537 ∧ s'.m ≤ 2 * (k + 1)) := ⟨by
        rw [← hs']
        have := Wr.put_m s F T M
        have := HF.out.2
        exact ⟨Wr.put_fair HF.out.1 _ _ _, by omega⟩⟩
      obtain ⟨L, hL⟩ : ∃ L, 8 * (Z - 3 - s.m) - (([] : List Bool).length : Int) = L := ⟨_, rfl⟩
      obtain ⟨L', hL'⟩ : ∃ L, 8 * (Z - 3 - s'.m) - (([] : List Bool).length : Int) = L := ⟨_, rfl⟩
      obtain ⟨G, hG⟩ : ∃ G, s.g = G := ⟨_, rfl⟩
      obtain ⟨G', hG'⟩ : ∃ G, s'.g = G := ⟨_, rfl⟩
      have hm1 : s.m ≤ 10000 := by have := HF.out.2; omega
      have hm2 : s'.m ≤ 10000 := by have := HS'.out.2; omega
      have hm3 : s.m ≤ 900 := by have := HF.out.2; omega
      have CL : Aside0 (∀ wz zb, Sep w (fun ok w => WrAt ok w g Z s []) (fun _ _ => True) zb wz → Calls Try.prog 9 #[.pointer (some ⟨g, 0, none⟩)] wz fun e w' => e = .returned (.int .i64 L) ∧ Sep w (fun ok w => WrAt ok w g Z s []) (fun _ _ => True) zb w') := ⟨fun wz zb S => S.call1 (ow_wr g Z s []) (ow_wr g Z s []) ow_true (fun ok hfr H => hL ▸ wr_left H (by have := HZ.out; omega) hm1 (by decide))⟩
      have CR : Aside0 (∀ wz zb, Sep w (fun ok w => WrAt ok w g Z s []) (fun _ _ => True) zb wz → Calls Try.prog 10 #[.pointer (some ⟨g, 0, none⟩)] wz fun e w' => e = .returned (.int .u32 G) ∧ Sep w (fun ok w => WrAt ok w g Z s []) (fun _ _ => True) zb w') := ⟨fun wz zb S => S.call1 (ow_wr g Z s []) (ow_wr g Z s []) ow_true (fun ok hfr H => hG ▸ wr_rng H)⟩
      have CM : Aside0 (∀ wz zb, Sep w (fun ok w => WrAt ok w g Z s' []) (fun _ _ => True) zb wz → Calls Try.prog 9 #[.pointer (some ⟨g, 0, none⟩)] wz fun e w' => e = .returned (.int .i64 L') ∧ Sep w (fun ok w => WrAt ok w g Z s' []) (fun _ _ => True) zb w') := ⟨fun wz zb S => S.call1 (ow_wr g Z s' []) (ow_wr g Z s' []) ow_true (fun ok hfr H => hL' ▸ wr_left H (by have := HZ.out; omega) hm2 (by decide))⟩
      have CS : Aside0 (∀ wz zb, Sep w (fun ok w => WrAt ok w g Z s' []) (fun _ _ => True) zb wz → Calls Try.prog 10 #[.pointer (some ⟨g, 0, none⟩)] wz fun e w' => e = .returned (.int .u32 G') ∧ Sep w (fun ok w => WrAt ok w g Z s' []) (fun _ _ => True) zb w') := ⟨fun wz zb S => S.call1 (ow_wr g Z s' []) (ow_wr g Z s' []) ow_true (fun ok hfr H => hG' ▸ wr_rng H)⟩
      have CP : Aside0 (∀ wz zb, Sep w (fun ok w => WrAt ok w g Z s []) (fun _ _ => True) zb wz → Calls Try.prog 11 #[.pointer (some ⟨g, 0, none⟩), .int .i64 F, .int .i64 T, .int .i64 M] wz fun e w' => e = .returned (.int .i64 (if Rd.ok F T M then 0 else 1)) ∧ Sep w (fun ok w => WrAt ok w g Z s' []) (fun _ _ => True) zb w') := ⟨fun wz zb S => S.call1 (ow_wr g Z s []) (ow_wr g Z s' []) ow_true (fun ok hfr H => hs' ▸ put_any ok g Z F T M s [] wz HF.out.1 hm3 hfr H)⟩
      by_cases hok : Rd.ok F T M
      · simp only [if_pos hok] at CP
        have hd : s.m ≤ s'.m ∧ s'.m ≤ s.m + 2 := hs' ▸ Wr.put_m s F T M
        by_cases hF0 : F = 0
        · by_cases hTM : T = M
          · subst hF0
            subst hTM
            have hss : s' = s := by rw [← hs']; exact Wr.put_all HF.out.1 T hok
            have hLL : L' = L := by rw [← hL, ← hL', hss]
            have hGG : G' = G := by rw [← hG, ← hG', hss]
            have f4 : decide (G' ≤ 65536) = false := decide_eq_false (by have := HS'.out.1.g0; omega)
            have f5 : decide ((16777216 : Int) < G') = false := decide_eq_false (by have := HS'.out.1.g1; omega)
            clear hL hL' hG hG' hs' hm1 hm2 hm3 hss hd hok
            subst hLL
            subst hGG
            go_wp2_with (first
        | (go_at_call 9; (with_reducible refine (CL.out _ _ (HS.out.box (ow_wr g Z s []) ow_true _)).mono ?_); rintro e w1 ⟨rfl, hT⟩; have hh := (hT.hz _ rfl).2; have hv1 : w1.cell? ⟨wr.heap.size, 1, none⟩ = some (.int .i64 0) := (blk_cell hh 1).trans rfl; have hv2 : w1.cell? ⟨wr.heap.size, 2, none⟩ = some (.int .i64 T) := (blk_cell hh 2).trans rfl; have hv3 : w1.cell? ⟨wr.heap.size, 3, none⟩ = some (.int .i64 T) := (blk_cell hh 3).trans rfl; have m0 := Aside0.mk hT; clear hh HS hT; have HS := m0; clear m0)
        | (go_at_call 10; (with_reducible refine (CR.out _ _ HS.out).mono ?_); rintro e w1 ⟨rfl, hT⟩; clear hv1 hv2 hv3; have hh := (hT.hz _ rfl).2; have hv1 : w1.cell? ⟨wr.heap.size, 1, none⟩ = some (.int .i64 0) := (blk_cell hh 1).trans rfl; have hv2 : w1.cell? ⟨wr.heap.size, 2, none⟩ = some (.int .i64 T) := (blk_cell hh 2).trans rfl; have hv3 : w1.cell? ⟨wr.heap.size, 3, none⟩ = some (.int .i64 T) := (blk_cell hh 3).trans rfl; have m0 := Aside0.mk hT; clear hh HS hT; have HS := m0; clear m0)
        | (go_at_call 11; (with_reducible refine (CP.out _ _ HS.out).mono ?_); rintro e w1 ⟨rfl, hT⟩; clear hv1 hv2 hv3; have hh := (hT.hz _ rfl).2; have hv1 : w1.cell? ⟨wr.heap.size, 1, none⟩ = some (.int .i64 0) := (blk_cell hh 1).trans rfl; have hv2 : w1.cell? ⟨wr.heap.size, 2, none⟩ = some (.int .i64 T) := (blk_cell hh 2).trans rfl; have hv3 : w1.cell? ⟨wr.heap.size, 3, none⟩ = some (.int .i64 T) := (blk_cell hh 3).trans rfl; have m0 := Aside0.mk hT; clear hh HS hT; have HS := m0; clear m0)
        | (go_at_call 9; (with_reducible refine (CM.out _ _ HS.out).mono ?_); rintro e w1 ⟨rfl, hT⟩; clear hv1 hv2 hv3; have hh := (hT.hz _ rfl).2; have hv1 : w1.cell? ⟨wr.heap.size, 1, none⟩ = some (.int .i64 0) := (blk_cell hh 1).trans rfl; have hv2 : w1.cell? ⟨wr.heap.size, 2, none⟩ = some (.int .i64 T) := (blk_cell hh 2).trans rfl; have hv3 : w1.cell? ⟨wr.heap.size, 3, none⟩ = some (.int .i64 T) := (blk_cell hh 3).trans rfl; have m0 := Aside0.mk hT; clear hh HS hT; have HS := m0; clear m0)
        | (go_at_call 10; (with_reducible refine (CS.out _ _ HS.out).mono ?_); rintro e w1 ⟨rfl, hT⟩; clear hv1 hv2 hv3; have hh := (hT.hz _ rfl).2; have hv1 : w1.cell? ⟨wr.heap.size, 1, none⟩ = some (.int .i64 0) := (blk_cell hh 1).trans rfl; have hv2 : w1.cell? ⟨wr.heap.size, 2, none⟩ = some (.int .i64 T) := (blk_cell hh 2).trans rfl; have hv3 : w1.cell? ⟨wr.heap.size, 3, none⟩ = some (.int .i64 T) := (blk_cell hh 3).trans rfl; have m0 := Aside0.mk hT; clear hh HS hT; have HS := m0; clear m0))
            exact ⟨⟨k + 1, s', by omega, congrArg (Value.int .i64) (by omega), ⟨HS.out.unbox⟩, HS'⟩, by simp [intOf]; omega⟩
          · subst hF0
            have f0 : (T == M) = false := by simp [hTM]
            have f1 : wrap64 (L - L') = L - L' := w64n (by omega) (by omega)
            have f2 : decide (L - L' < 0) = false := decide_eq_false (by omega)
            have f3 : decide ((16 : Int) < L - L') = false := decide_eq_false (by omega)
            have f4 : decide (G' ≤ 65536) = false := decide_eq_false (by have := HS'.out.1.g0; omega)
            have f5 : decide ((16777216 : Int) < G') = false := decide_eq_false (by have := HS'.out.1.g1; omega)
            clear hL hL' hG hG' hs' hm1 hm2 hm3 hd hok hTM
            go_wp2_with (first
        | (go_at_call 9; (with_reducible refine (CL.out _ _ (HS.out.box (ow_wr g Z s []) ow_true _)).mono ?_); rintro e w1 ⟨rfl, hT⟩; have hh := (hT.hz _ rfl).2; have hv1 : w1.cell? ⟨wr.heap.size, 1, none⟩ = some (.int .i64 0) := (blk_cell hh 1).trans rfl; have hv2 : w1.cell? ⟨wr.heap.size, 2, none⟩ = some (.int .i64 T) := (blk_cell hh 2).trans rfl; have hv3 : w1.cell? ⟨wr.heap.size, 3, none⟩ = some (.int .i64 M) := (blk_cell hh 3).trans rfl; have m0 := Aside0.mk hT; clear hh HS hT; have HS := m0; clear m0)
        | (go_at_call 10; (with_reducible refine (CR.out _ _ HS.out).mono ?_); rintro e w1 ⟨rfl, hT⟩; clear hv1 hv2 hv3; have hh := (hT.hz _ rfl).2; have hv1 : w1.cell? ⟨wr.heap.size, 1, none⟩ = some (.int .i64 0) := (blk_cell hh 1).trans rfl; have hv2 : w1.cell? ⟨wr.heap.size, 2, none⟩ = some (.int .i64 T) := (blk_cell hh 2).trans rfl; have hv3 : w1.cell? ⟨wr.heap.size, 3, none⟩ = some (.int .i64 M) := (blk_cell hh 3).trans rfl; have m0 := Aside0.mk hT; clear hh HS hT; have HS := m0; clear m0)
        | (go_at_call 11; (with_reducible refine (CP.out _ _ HS.out).mono ?_); rintro e w1 ⟨rfl, hT⟩; clear hv1 hv2 hv3; have hh := (hT.hz _ rfl).2; have hv1 : w1.cell? ⟨wr.heap.size, 1, none⟩ = some (.int .i64 0) := (blk_cell hh 1).trans rfl; have hv2 : w1.cell? ⟨wr.heap.size, 2, none⟩ = some (.int .i64 T) := (blk_cell hh 2).trans rfl; have hv3 : w1.cell? ⟨wr.heap.size, 3, none⟩ = some (.int .i64 M) := (blk_cell hh 3).trans rfl; have m0 := Aside0.mk hT; clear hh HS hT; have HS := m0; clear m0)
        | (go_at_call 9; (with_reducible refine (CM.out _ _ HS.out).mono ?_); rintro e w1 ⟨rfl, hT⟩; clear hv1 hv2 hv3; have hh := (hT.hz _ rfl).2; have hv1 : w1.cell? ⟨wr.heap.size, 1, none⟩ = some (.int .i64 0) := (blk_cell hh 1).trans rfl; have hv2 : w1.cell? ⟨wr.heap.size, 2, none⟩ = some (.int .i64 T) := (blk_cell hh 2).trans rfl; have hv3 : w1.cell? ⟨wr.heap.size, 3, none⟩ = some (.int .i64 M) := (blk_cell hh 3).trans rfl; have m0 := Aside0.mk hT; clear hh HS hT; have HS := m0; clear m0)
        | (go_at_call 10; (with_reducible refine (CS.out _ _ HS.out).mono ?_); rintro e w1 ⟨rfl, hT⟩; clear hv1 hv2 hv3; have hh := (hT.hz _ rfl).2; have hv1 : w1.cell? ⟨wr.heap.size, 1, none⟩ = some (.int .i64 0) := (blk_cell hh 1).trans rfl; have hv2 : w1.cell? ⟨wr.heap.size, 2, none⟩ = some (.int .i64 T) := (blk_cell hh 2).trans rfl; have hv3 : w1.cell? ⟨wr.heap.size, 3, none⟩ = some (.int .i64 M) := (blk_cell hh 3).trans rfl; have m0 := Aside0.mk hT; clear hh HS hT; have HS := m0; clear m0))
            exact ⟨⟨k + 1, s', by omega, congrArg (Value.int .i64) (by omega), ⟨HS.out.unbox⟩, HS'⟩, by simp [intOf]; omega⟩
        · have f0 : (F == 0) = false := by simp [hF0]
          have f1 : wrap64 (L - L') = L - L' := w64n (by omega) (by omega)
          have f2 : decide (L - L' < 0) = false := decide_eq_false (by omega)
          have f3 : decide ((16 : Int) < L - L') = false := decide_eq_false (by omega)
          have f4 : decide (G' ≤ 65536) = false := decide_eq_false (by have := HS'.out.1.g0; omega)
          have f5 : decide ((16777216 : Int) < G') = false := decide_eq_false (by have := HS'.out.1.g1; omega)
          clear hL hL' hG hG' hs' hm1 hm2 hm3 hd hok hF0
          go_wp2_with (first
        | (go_at_call 9; (with_reducible refine (CL.out _ _ (HS.out.box (ow_wr g Z s []) ow_true _)).mono ?_); rintro e w1 ⟨rfl, hT⟩; have hh := (hT.hz _ rfl).2; have hv1 : w1.cell? ⟨wr.heap.size, 1, none⟩ = some (.int .i64 F) := (blk_cell hh 1).trans rfl; have hv2 : w1.cell? ⟨wr.heap.size, 2, none⟩ = some (.int .i64 T) := (blk_cell hh 2).trans rfl; have hv3 : w1.cell? ⟨wr.heap.size, 3, none⟩ = some (.int .i64 M) := (blk_cell hh 3).trans rfl; have m0 := Aside0.mk hT; clear hh HS hT; have HS := m0; clear m0)
        | (go_at_call 10; (with_reducible refine (CR.out _ _ HS.out).mono ?_); rintro e w1 ⟨rfl, hT⟩; clear hv1 hv2 hv3; have hh := (hT.hz _ rfl).2; have hv1 : w1.cell? ⟨wr.heap.size, 1, none⟩ = some (.int .i64 F) := (blk_cell hh 1).trans rfl; have hv2 : w1.cell? ⟨wr.heap.size, 2, none⟩ = some (.int .i64 T) := (blk_cell hh 2).trans rfl; have hv3 : w1.cell? ⟨wr.heap.size, 3, none⟩ = some (.int .i64 M) := (blk_cell hh 3).trans rfl; have m0 := Aside0.mk hT; clear hh HS hT; have HS := m0; clear m0)
        | (go_at_call 11; (with_reducible refine (CP.out _ _ HS.out).mono ?_); rintro e w1 ⟨rfl, hT⟩; clear hv1 hv2 hv3; have hh := (hT.hz _ rfl).2; have hv1 : w1.cell? ⟨wr.heap.size, 1, none⟩ = some (.int .i64 F) := (blk_cell hh 1).trans rfl; have hv2 : w1.cell? ⟨wr.heap.size, 2, none⟩ = some (.int .i64 T) := (blk_cell hh 2).trans rfl; have hv3 : w1.cell? ⟨wr.heap.size, 3, none⟩ = some (.int .i64 M) := (blk_cell hh 3).trans rfl; have m0 := Aside0.mk hT; clear hh HS hT; have HS := m0; clear m0)
        | (go_at_call 9; (with_reducible refine (CM.out _ _ HS.out).mono ?_); rintro e w1 ⟨rfl, hT⟩; clear hv1 hv2 hv3; have hh := (hT.hz _ rfl).2; have hv1 : w1.cell? ⟨wr.heap.size, 1, none⟩ = some (.int .i64 F) := (blk_cell hh 1).trans rfl; have hv2 : w1.cell? ⟨wr.heap.size, 2, none⟩ = some (.int .i64 T) := (blk_cell hh 2).trans rfl; have hv3 : w1.cell? ⟨wr.heap.size, 3, none⟩ = some (.int .i64 M) := (blk_cell hh 3).trans rfl; have m0 := Aside0.mk hT; clear hh HS hT; have HS := m0; clear m0)
        | (go_at_call 10; (with_reducible refine (CS.out _ _ HS.out).mono ?_); rintro e w1 ⟨rfl, hT⟩; clear hv1 hv2 hv3; have hh := (hT.hz _ rfl).2; have hv1 : w1.cell? ⟨wr.heap.size, 1, none⟩ = some (.int .i64 F) := (blk_cell hh 1).trans rfl; have hv2 : w1.cell? ⟨wr.heap.size, 2, none⟩ = some (.int .i64 T) := (blk_cell hh 2).trans rfl; have hv3 : w1.cell? ⟨wr.heap.size, 3, none⟩ = some (.int .i64 M) := (blk_cell hh 3).trans rfl; have m0 := Aside0.mk hT; clear hh HS hT; have HS := m0; clear m0))
          exact ⟨⟨k + 1, s', by omega, congrArg (Value.int .i64) (by omega), ⟨HS.out.unbox⟩, HS'⟩, by simp [intOf]; omega⟩
      · simp only [if_neg hok] at CP
        have hss : s' = s := by rw [← hs']; unfold Wr.put; rw [if_neg hok]
        have hLL : L' = L := by rw [← hL, ← hL', hss]
        have hGG : G' = G := by rw [← hG, ← hG', hss]
        clear hL hL' hG hG' hs' hm1 hm2 hm3 hss hok
        subst hLL
        subst hGG
        go_wp2_with (first
        | (go_at_call 9; (with_reducible refine (CL.out _ _ (HS.out.box (ow_wr g Z s []) ow_true _)).mono ?_); rintro e w1 ⟨rfl, hT⟩; have hh := (hT.hz _ rfl).2; have hv1 : w1.cell? ⟨wr.heap.size, 1, none⟩ = some (.int .i64 F) := (blk_cell hh 1).trans rfl; have hv2 : w1.cell? ⟨wr.heap.size, 2, none⟩ = some (.int .i64 T) := (blk_cell hh 2).trans rfl; have hv3 : w1.cell? ⟨wr.heap.size, 3, none⟩ = some (.int .i64 M) := (blk_cell hh 3).trans rfl; have m0 := Aside0.mk hT; clear hh HS hT; have HS := m0; clear m0)
        | (go_at_call 10; (with_reducible refine (CR.out _ _ HS.out).mono ?_); rintro e w1 ⟨rfl, hT⟩; clear hv1 hv2 hv3; have hh := (hT.hz _ rfl).2; have hv1 : w1.cell? ⟨wr.heap.size, 1, none⟩ = some (.int .i64 F) := (blk_cell hh 1).trans rfl; have hv2 : w1.cell? ⟨wr.heap.size, 2, none⟩ = some (.int .i64 T) := (blk_cell hh 2).trans rfl; have hv3 : w1.cell? ⟨wr.heap.size, 3, none⟩ = some (.int .i64 M) := (blk_cell hh 3).trans rfl; have m0 := Aside0.mk hT; clear hh HS hT; have HS := m0; clear m0)
        | (go_at_call 11; (with_reducible refine (CP.out _ _ HS.out).mono ?_); rintro e w1 ⟨rfl, hT⟩; clear hv1 hv2 hv3; have hh := (hT.hz _ rfl).2; have hv1 : w1.cell? ⟨wr.heap.size, 1, none⟩ = some (.int .i64 F) := (blk_cell hh 1).trans rfl; have hv2 : w1.cell? ⟨wr.heap.size, 2, none⟩ = some (.int .i64 T) := (blk_cell hh 2).trans rfl; have hv3 : w1.cell? ⟨wr.heap.size, 3, none⟩ = some (.int .i64 M) := (blk_cell hh 3).trans rfl; have m0 := Aside0.mk hT; clear hh HS hT; have HS := m0; clear m0)
        | (go_at_call 9; (with_reducible refine (CM.out _ _ HS.out).mono ?_); rintro e w1 ⟨rfl, hT⟩; clear hv1 hv2 hv3; have hh := (hT.hz _ rfl).2; have hv1 : w1.cell? ⟨wr.heap.size, 1, none⟩ = some (.int .i64 F) := (blk_cell hh 1).trans rfl; have hv2 : w1.cell? ⟨wr.heap.size, 2, none⟩ = some (.int .i64 T) := (blk_cell hh 2).trans rfl; have hv3 : w1.cell? ⟨wr.heap.size, 3, none⟩ = some (.int .i64 M) := (blk_cell hh 3).trans rfl; have m0 := Aside0.mk hT; clear hh HS hT; have HS := m0; clear m0)
        | (go_at_call 10; (with_reducible refine (CS.out _ _ HS.out).mono ?_); rintro e w1 ⟨rfl, hT⟩; clear hv1 hv2 hv3; have hh := (hT.hz _ rfl).2; have hv1 : w1.cell? ⟨wr.heap.size, 1, none⟩ = some (.int .i64 F) := (blk_cell hh 1).trans rfl; have hv2 : w1.cell? ⟨wr.heap.size, 2, none⟩ = some (.int .i64 T) := (blk_cell hh 2).trans rfl; have hv3 : w1.cell? ⟨wr.heap.size, 3, none⟩ = some (.int .i64 M) := (blk_cell hh 3).trans rfl; have m0 := Aside0.mk hT; clear hh HS hT; have HS := m0; clear m0))
        exact ⟨⟨k + 1, s', by omega, congrArg (Value.int .i64) (by omega), ⟨HS.out.unbox⟩, HS'⟩, by simp [intOf]; omega⟩

    · go_wp2
      go_ret
      exact ⟨rfl, HS.out.hb⟩
theorem wf_u16 {n : Int} (h : (Lit.int .u16 n).wf = true) : 0 ≤ n ∧ n < 65536 := by
  have h2 : 0 ≤ n ∧ n ≤ 65535 := by simpa [Lit.wf, IntKind.min, IntKind.max, IntKind.signed, IntKind.bits] using h
  omega
theorem range_row (a0 : Int) (w0 : (Lit.int .u16 a0).wf = true) (a1 : Option Addr) (len1 cap1 : Nat) (z1 : List (List Int)) (w : World) (w1 : StructRows.Rows [.u8, .i64, .i64, .i64, .u32] w a1 len1 cap1 z1) :
    Calls Try.prog 3 #[.int .u16 a0, .slice a1 len1 cap1] w fun e w' => e = .returned (.bool true) ∧ Below w.heap.size w w' := by
  obtain ⟨hD, _, hop⟩ := ops31 w1
  by_cases hn : len1 ≤ 200
  · exact range_at a0 _ (wf_u16 w0) rfl (z1.map to31) len1 hD.1 hn a1 cap1 w hD
  · exact range_long _ _ _ _ _ (decide_eq_true (by omega))
end Go.Proofs.Ytcobbiapgihefaa.WrLaw
