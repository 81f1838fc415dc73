import Derived.Test.YthccifjjmigklaaRrWalk
namespace Go.Proofs.Ythccifjjmigklaa.RrWalk
open Go.RowKit Go.Proofs.YthccifjjmigklaaW.PrintWords Go.Proofs.YthccifjjmigklaaW.PrintLast Go.Proofs.YthccifjjmigklaaW.PrintMore
open Go.Proofs.Ythccifjjmigklaa.Rd (St by_ Bytes)
open Go.Proofs.Ythccifjjmigklaa.RdWalk (wrap_u32 cutW cut_size cut_get cut_below NoByte left w64n tdiv8 tmod8 rawn)
attribute [local go_sem] max2_int min2_int max_two min_two max_three min_three max_four min_four   -- for this text's walks alone
set_option linter.unusedVariables false
set_option linter.unusedSimpArgs false
set_option maxHeartbeats 4000000 in
set_option maxRecDepth 100000 in
theorem raw_small (g : Nat) (B : List Int) (m : Nat) (hm : B.length = m) (hB : Bytes B) (hl : m ≤ 10000) (tk r : Nat) (G V n : Int) (hr : r ≤ 90000) (hn : n ≤ 16) (c : Nat) (hcl : Rd.cl n = c) (w0 w : World) (hI : At w0 w g B ⟨tk, r, G, V⟩) (hb : Below w0.heap.size w0 w) :
    Calls Try.prog 18 #[.pointer (some ⟨g, 0, none⟩), .int .i64 n] w fun e w' => e = .returned (.int .i64 (Rd.raw B r c)) ∧ At w0 w' g B ⟨tk, r + c, G, V⟩ ∧ Below w0.heap.size w0 w' ∧ KeepBut w w' g none := by
  have HBy := Aside0.mk hB
  have HMM := Aside0.mk hm
  have HI := Aside0.mk hI
  have HW := Aside0.mk hb
  have HK := Aside0.mk (KeepBut.refl w g none)
  have HG := Aside0.mk (PReaderPlays.IsS40.ge hI)
  have HCL : Aside0 (c ≤ 16 ∧ ∀ i : Nat, i ≤ c → ((i : Int) < n ↔ i < c)) := ⟨by unfold Rd.cl at hcl; exact ⟨by omega, fun i hi => by omega⟩⟩
  have hc16 := HCL.out.1
  clear hB hb hI hcl hm
  go_enter Try.func18, Try.ntmps18
  go_wp2
  go_loopw [5, 6, 7] (fun o p i wr => ∃ (k : Nat) (O Pw : Int), k ≤ c ∧ i = .int .i64 k ∧ o = .int .i64 O ∧ p = .int .i64 Pw ∧ Aside0 (O = Rd.raw B r k) ∧ Aside0 (Pw = 2 ^ k) ∧ Aside0 (At w0 wr g B ⟨tk, r + k, G, V⟩) ∧ Aside0 (Below w0.heap.size w0 wr) ∧ Aside0 (KeepBut w wr g none)) (fun _ _ i _ => (c - intOf i).toNat)
  case atStart => exact ⟨0, 0, 1, by omega, rfl, rfl, rfl, ⟨rfl⟩, ⟨rfl⟩, HI, HW, HK⟩
  case round =>
    clear HI HW HK
    obtain ⟨k, O, Pw, hk, rfl, rfl, rfl, HO, HP, HI, HW, HK⟩ := hrel
    by_cases ht : k < c
    · have hlt : (k : Int) < n := (HCL.out.2 k hk).2 ht
      obtain ⟨A0, c0, hg0, _, _⟩ := HI.out
      have hc0 := PReaderPlays.cellS40_0 hg0
      clear hg0
      rw [HMM.out] at hc0
      obtain ⟨_, hc2, _, _, _, hf2, _, _⟩ := at_cells HI.out
      simp only at hc2
      obtain ⟨r1, hr1⟩ : ∃ r1, r + k = r1 := ⟨_, rfl⟩
      rw [hr1] at hc2 HI
      have hr1b : r1 ≤ 90016 := by omega
      obtain ⟨p, hp⟩ : ∃ p, r1 / 8 = p := ⟨_, rfl⟩
      obtain ⟨q8, hq8⟩ : ∃ q8, r1 % 8 = q8 := ⟨_, rfl⟩
      have hq8' : q8 < 8 := by omega
      have hp' : p ≤ 20000 := by omega
      have g2 : Int.tdiv (r1 : Int) 8 = (p : Int) := by rw [tdiv8, hp]
      have g5 : Int.tmod (r1 : Int) 8 = (q8 : Int) := by rw [tmod8, hq8]
      obtain ⟨X, HX, HXB, HBX⟩ : ∃ X : Int, Aside0 (∀ w1, At w0 w1 g B ⟨tk, r1, G, V⟩ → Below w0.heap.size w0 w1 → Calls Try.prog 29 #[.pointer (some ⟨g, 0, none⟩), .int .i64 ((m : Int) - 1 - p)] w1 fun e w' => e = .returned (.int .i64 X) ∧ At w0 w' g B ⟨tk, r1, G, V⟩ ∧ Below w0.heap.size w0 w' ∧ KeepBut w1 w' g none) ∧ Aside0 (0 ≤ X ∧ X ≤ 255) ∧ Aside0 (X / 2 ^ q8 % 2 = Rd.bit B r1) := by
        by_cases hat : p < m
        · refine ⟨by_ B (m - 1 - p), ⟨fun w1 hI hb => ?_⟩, ⟨Rd.by_in HBy.out _⟩, ⟨by unfold Rd.bit; rw [HMM.out, hp, hq8, if_pos hat]⟩⟩
          rw [show (m : Int) - 1 - p = ((m - 1 - p : Nat) : Int) by omega]
          exact byte_any g B HBy.out _ _ w0 w1 hI hb
        · refine ⟨0, ⟨fun w1 hI hb => byte_neg g B _ _ (by omega) w0 w1 hI hb⟩, ⟨by omega⟩, ⟨by unfold Rd.bit; rw [HMM.out, hp, hq8, if_neg hat, Int.zero_ediv]; rfl⟩⟩
      have hbi := Rd.bit_in B r1
      obtain ⟨b, hb⟩ : ∃ b, Rd.bit B r1 = b := ⟨_, rfl⟩
      rw [hb] at HBX hbi
      have HO2 : Aside0 (O + b * Pw = Rd.raw B r (k + 1)) := ⟨by rw [Rd.raw, hr1, hb, HO.out, HP.out]⟩
      have HP2 : Aside0 (Pw * 2 = 2 ^ (k + 1)) := ⟨by rw [Int.pow_succ, HP.out]⟩
      have HR2 : Aside0 (r1 + 1 = r + (k + 1)) := ⟨by omega⟩
      have hPb : 1 ≤ Pw ∧ Pw ≤ 65536 := by
        rw [HP.out]
        have h1 : (0 : Int) < 2 ^ k := Int.pow_pos (by decide)
        have h2 := RdWalk.pow_15 (i := k) (by omega)
        omega
      have hOb : 0 ≤ O ∧ O < Pw := by rw [HO.out, HP.out]; exact Rd.raw_in B r k
      have hbP : 0 ≤ b * Pw ∧ b * Pw ≤ 65536 := by rcases (by omega : b = 0 ∨ b = 1) with rfl | rfl <;> omega
      have g3 : wrap64 (b * Pw) = b * Pw := w64n (by omega) (by omega)
      have g4 : wrap64 (O + b * Pw) = O + b * Pw := w64n (by omega) (by omega)
      have g6 : wrap64 (Pw * 2) = Pw * 2 := w64n (by omega) (by omega)
      have g1 : wrap64 ((m : Int) - 1) = (m : Int) - 1 := w64n (by omega) (by omega)
      have g7 : wrap64 ((m : Int) - 1 - p) = (m : Int) - 1 - p := w64n (by omega) (by omega)
      have k1 : IntKind.i64.wrap ((m : Int) - 1) = (m : Int) - 1 := IntWalk.i64_in _ (by omega)
      have k2 : IntKind.i64.wrap (p : Int) = p := IntWalk.i64_in _ (by omega)
      have k3 : IntKind.i64.wrap ((m : Int) - 1 - p) = (m : Int) - 1 - p := IntWalk.i64_in _ (by omega)
      clear hb hr1 hp hq8 hPb hOb hbP hbi
      go_wp2
      go_region_with (first | (go_at_call 29; (first | (with_reducible refine (HX.out _ HI.out HW.out).mono ?_) | (with_reducible refine (HX.out _ (PReaderPlays.IsS40.drew HI.out) (below_drew1 HW.out)).mono ?_)); rintro e w2 ⟨rfl, hI2, hb2, hk2⟩; obtain ⟨_, hk2c, _, _, _, hkf2, _, _⟩ := at_cells hI2; simp only at hk2c))
      all_goals (
        have HI3 := Aside0.mk hI2
        have HW3 := Aside0.mk hb2
        have HK3 : Aside0 (KeepBut w w2 g none) := ⟨by first | exact KeepBut.trans HK.out hk2 (.inl rfl) | exact KeepBut.trans (keep_drew HK.out) hk2 (.inl rfl)⟩
        clear hI2 hb2 hk2 HI HW HK
        go_wp2
        go_loopw [8, 9] (fun xv jv wq => ∃ (j : Nat) (x : Int), j ≤ q8 ∧ jv = .int .i64 j ∧ xv = .int .i64 x ∧ Aside0 (x = X / 2 ^ j) ∧ Aside0 (wq = w2)) (fun _ jv _ => (q8 - intOf jv).toNat)
        case atStart => exact ⟨0, X, by omega, rfl, rfl, ⟨by rw [Int.pow_zero, Int.ediv_one]⟩, ⟨rfl⟩⟩
        case round =>
          obtain ⟨j, x, hj, rfl, rfl, HXJ, HQ⟩ := hrel
          have hwq := HQ.out
          subst hwq
          clear HQ
          have hx0 : 0 ≤ x ∧ x ≤ 255 := by
            rw [HXJ.out]
            have h1 : (0 : Int) < 2 ^ j := Int.pow_pos (by decide)
            exact ⟨Int.ediv_nonneg HXB.out.1 (by omega), Int.le_trans (Int.ediv_le_self _ HXB.out.1) HXB.out.2⟩
          by_cases hjn : j < q8
          · have hj8 : j ≤ 8 := by omega
            have h2 : Int.tdiv x 2 = x / 2 := Int.tdiv_eq_ediv_of_nonneg hx0.1
            have h3 : wrap64 (x / 2) = x / 2 := w64n (by omega) (by omega)
            go_wp2
            go_roundw
            case rel => exact ⟨j + 1, x / 2, by omega, by simp, rfl, ⟨by rw [HXJ.out, Int.pow_succ, Int.ediv_ediv_of_nonneg (by have h1 : (0 : Int) < 2 ^ j := Int.pow_pos (by decide); omega)]⟩, ⟨by trivial⟩⟩
            case measure => simp [intOf]; omega
          · have hjq : j = q8 := by omega
            have h4 : Int.tmod x 2 = b := by rw [Int.tmod_eq_emod_of_nonneg hx0.1, HXJ.out, hjq]; exact HBX.out
            go_wp2
            go_roundw
            case rel => exact ⟨k + 1, O + b * Pw, Pw * 2, by omega, by simp, (by first | rfl | exact congrArg (Value.int .i64) g4), (by first | rfl | exact congrArg (Value.int .i64) g6), HO2, HP2, ⟨HR2.out ▸ PReaderPlays.IsS40.set_2 HI3.out _⟩, ⟨below_set HW3.out HG.out⟩, ⟨KeepBut.set_ HK3.out 2 _⟩⟩
            case measure => simp [intOf]; omega)
    · have hlt : ¬ (k : Int) < n := fun h => ht ((HCL.out.2 k hk).1 h)
      have hkc : k = c := by omega
      subst hkc
      go_wp2
      go_ret
      exact ⟨congrArg Ending.returned (congrArg (Value.int .i64) HO.out), HI.out, HW.out, HK.out⟩
set_option maxHeartbeats 4000000 in
set_option maxRecDepth 100000 in
theorem raw_big (g : Nat) (B : List Int) (m : Nat) (hm : B.length = m) (hB : Bytes B) (hl : m ≤ 10000) (tk r : Nat) (G V n : Int) (hr : r ≤ 90000) (hn : 16 < n) (c : Nat) (hcl : Rd.cl n = c) (w0 w : World) (hI : At w0 w g B ⟨tk, r, G, V⟩) (hb : Below w0.heap.size w0 w) :
    Calls Try.prog 18 #[.pointer (some ⟨g, 0, none⟩), .int .i64 n] w fun e w' => e = .returned (.int .i64 (Rd.raw B r c)) ∧ At w0 w' g B ⟨tk, r + c, G, V⟩ ∧ Below w0.heap.size w0 w' ∧ KeepBut w w' g none := by
  have HBy := Aside0.mk hB
  have HMM := Aside0.mk hm
  have HI := Aside0.mk hI
  have HW := Aside0.mk hb
  have HK := Aside0.mk (KeepBut.refl w g none)
  have HG := Aside0.mk (PReaderPlays.IsS40.ge hI)
  have HCL : Aside0 (c ≤ 16 ∧ ∀ i : Nat, i ≤ c → ((i : Int) < 16 ↔ i < c)) := ⟨by unfold Rd.cl at hcl; exact ⟨by omega, fun i hi => by omega⟩⟩
  have hc16 := HCL.out.1
  clear hB hb hI hcl hm
  go_enter Try.func18, Try.ntmps18
  go_wp2
  go_loopw [5, 6, 7] (fun o p i wr => ∃ (k : Nat) (O Pw : Int), k ≤ c ∧ i = .int .i64 k ∧ o = .int .i64 O ∧ p = .int .i64 Pw ∧ Aside0 (O = Rd.raw B r k) ∧ Aside0 (Pw = 2 ^ k) ∧ Aside0 (At w0 wr g B ⟨tk, r + k, G, V⟩) ∧ Aside0 (Below w0.heap.size w0 wr) ∧ Aside0 (KeepBut w wr g none)) (fun _ _ i _ => (c - intOf i).toNat)
  case atStart => exact ⟨0, 0, 1, by omega, rfl, rfl, rfl, ⟨rfl⟩, ⟨rfl⟩, HI, HW, HK⟩
  case round =>
    clear HI HW HK
    obtain ⟨k, O, Pw, hk, rfl, rfl, rfl, HO, HP, HI, HW, HK⟩ := hrel
    by_cases ht : k < c
    · have hlt : (k : Int) < 16 := (HCL.out.2 k hk).2 ht
      obtain ⟨A0, c0, hg0, _, _⟩ := HI.out
      have hc0 := PReaderPlays.cellS40_0 hg0
      clear hg0
      rw [HMM.out] at hc0
      obtain ⟨_, hc2, _, _, _, hf2, _, _⟩ := at_cells HI.out
      simp only at hc2
      obtain ⟨r1, hr1⟩ : ∃ r1, r + k = r1 := ⟨_, rfl⟩
      rw [hr1] at hc2 HI
      have hr1b : r1 ≤ 90016 := by omega
      obtain ⟨p, hp⟩ : ∃ p, r1 / 8 = p := ⟨_, rfl⟩
      obtain ⟨q8, hq8⟩ : ∃ q8, r1 % 8 = q8 := ⟨_, rfl⟩
      have hq8' : q8 < 8 := by omega
      have hp' : p ≤ 20000 := by omega
      have g2 : Int.tdiv (r1 : Int) 8 = (p : Int) := by rw [tdiv8, hp]
      have g5 : Int.tmod (r1 : Int) 8 = (q8 : Int) := by rw [tmod8, hq8]
      obtain ⟨X, HX, HXB, HBX⟩ : ∃ X : Int, Aside0 (∀ w1, At w0 w1 g B ⟨tk, r1, G, V⟩ → Below w0.heap.size w0 w1 → Calls Try.prog 29 #[.pointer (some ⟨g, 0, none⟩), .int .i64 ((m : Int) - 1 - p)] w1 fun e w' => e = .returned (.int .i64 X) ∧ At w0 w' g B ⟨tk, r1, G, V⟩ ∧ Below w0.heap.size w0 w' ∧ KeepBut w1 w' g none) ∧ Aside0 (0 ≤ X ∧ X ≤ 255) ∧ Aside0 (X / 2 ^ q8 % 2 = Rd.bit B r1) := by
        by_cases hat : p < m
        · refine ⟨by_ B (m - 1 - p), ⟨fun w1 hI hb => ?_⟩, ⟨Rd.by_in HBy.out _⟩, ⟨by unfold Rd.bit; rw [HMM.out, hp, hq8, if_pos hat]⟩⟩
          rw [show (m : Int) - 1 - p = ((m - 1 - p : Nat) : Int) by omega]
          exact byte_any g B HBy.out _ _ w0 w1 hI hb
        · refine ⟨0, ⟨fun w1 hI hb => byte_neg g B _ _ (by omega) w0 w1 hI hb⟩, ⟨by omega⟩, ⟨by unfold Rd.bit; rw [HMM.out, hp, hq8, if_neg hat, Int.zero_ediv]; rfl⟩⟩
      have hbi := Rd.bit_in B r1
      obtain ⟨b, hb⟩ : ∃ b, Rd.bit B r1 = b := ⟨_, rfl⟩
      rw [hb] at HBX hbi
      have HO2 : Aside0 (O + b * Pw = Rd.raw B r (k + 1)) := ⟨by rw [Rd.raw, hr1, hb, HO.out, HP.out]⟩
      have HP2 : Aside0 (Pw * 2 = 2 ^ (k + 1)) := ⟨by rw [Int.pow_succ, HP.out]⟩
      have HR2 : Aside0 (r1 + 1 = r + (k + 1)) := ⟨by omega⟩
      have hPb : 1 ≤ Pw ∧ Pw ≤ 65536 := by
        rw [HP.out]
        have h1 : (0 : Int) < 2 ^ k := Int.pow_pos (by decide)
        have h2 := RdWalk.pow_15 (i := k) (by omega)
        omega
      have hOb : 0 ≤ O ∧ O < Pw := by rw [HO.out, HP.out]; exact Rd.raw_in B r k
      have hbP : 0 ≤ b * Pw ∧ b * Pw ≤ 65536 := by rcases (by omega : b = 0 ∨ b = 1) with rfl | rfl <;> omega
      have g3 : wrap64 (b * Pw) = b * Pw := w64n (by omega) (by omega)
      have g4 : wrap64 (O + b * Pw) = O + b * Pw := w64n (by omega) (by omega)
      have g6 : wrap64 (Pw * 2) = Pw * 2 := w64n (by omega) (by omega)
      have g1 : wrap64 ((m : Int) - 1) = (m : Int) - 1 := w64n (by omega) (by omega)
      have g7 : wrap64 ((m : Int) - 1 - p) = (m : Int) - 1 - p := w64n (by omega) (by omega)
      have k1 : IntKind.i64.wrap ((m : Int) - 1) = (m : Int) - 1 := IntWalk.i64_in _ (by omega)
      have k2 : IntKind.i64.wrap (p : Int) = p := IntWalk.i64_in _ (by omega)
      have k3 : IntKind.i64.wrap ((m : Int) - 1 - p) = (m : Int) - 1 - p := IntWalk.i64_in _ (by omega)
      clear hb hr1 hp hq8 hPb hOb hbP hbi
      go_wp2
      go_region_with (first | (go_at_call 29; (first | (with_reducible refine (HX.out _ HI.out HW.out).mono ?_) | (with_reducible refine (HX.out _ (PReaderPlays.IsS40.drew HI.out) (below_drew1 HW.out)).mono ?_)); rintro e w2 ⟨rfl, hI2, hb2, hk2⟩; obtain ⟨_, hk2c, _, _, _, hkf2, _, _⟩ := at_cells hI2; simp only at hk2c))
      all_goals (
        have HI3 := Aside0.mk hI2
        have HW3 := Aside0.mk hb2
        have HK3 : Aside0 (KeepBut w w2 g none) := ⟨by first | exact KeepBut.trans HK.out hk2 (.inl rfl) | exact KeepBut.trans (keep_drew HK.out) hk2 (.inl rfl)⟩
        clear hI2 hb2 hk2 HI HW HK
        go_wp2
        go_loopw [8, 9] (fun xv jv wq => ∃ (j : Nat) (x : Int), j ≤ q8 ∧ jv = .int .i64 j ∧ xv = .int .i64 x ∧ Aside0 (x = X / 2 ^ j) ∧ Aside0 (wq = w2)) (fun _ jv _ => (q8 - intOf jv).toNat)
        case atStart => exact ⟨0, X, by omega, rfl, rfl, ⟨by rw [Int.pow_zero, Int.ediv_one]⟩, ⟨rfl⟩⟩
        case round =>
          obtain ⟨j, x, hj, rfl, rfl, HXJ, HQ⟩ := hrel
          have hwq := HQ.out
          subst hwq
          clear HQ
          have hx0 : 0 ≤ x ∧ x ≤ 255 := by
            rw [HXJ.out]
            have h1 : (0 : Int) < 2 ^ j := Int.pow_pos (by decide)
            exact ⟨Int.ediv_nonneg HXB.out.1 (by omega), Int.le_trans (Int.ediv_le_self _ HXB.out.1) HXB.out.2⟩
          by_cases hjn : j < q8
          · have hj8 : j ≤ 8 := by omega
            have h2 : Int.tdiv x 2 = x / 2 := Int.tdiv_eq_ediv_of_nonneg hx0.1
            have h3 : wrap64 (x / 2) = x / 2 := w64n (by omega) (by omega)
            go_wp2
            go_roundw
            case rel => exact ⟨j + 1, x / 2, by omega, by simp, rfl, ⟨by rw [HXJ.out, Int.pow_succ, Int.ediv_ediv_of_nonneg (by have h1 : (0 : Int) < 2 ^ j := Int.pow_pos (by decide); omega)]⟩, ⟨by trivial⟩⟩
            case measure => simp [intOf]; omega
          · have hjq : j = q8 := by omega
            have h4 : Int.tmod x 2 = b := by rw [Int.tmod_eq_emod_of_nonneg hx0.1, HXJ.out, hjq]; exact HBX.out
            go_wp2
            go_roundw
            case rel => exact ⟨k + 1, O + b * Pw, Pw * 2, by omega, by simp, (by first | rfl | exact congrArg (Value.int .i64) g4), (by first | rfl | exact congrArg (Value.int .i64) g6), HO2, HP2, ⟨HR2.out ▸ PReaderPlays.IsS40.set_2 HI3.out _⟩, ⟨below_set HW3.out HG.out⟩, ⟨KeepBut.set_ HK3.out 2 _⟩⟩
            case measure => simp [intOf]; omega)
    · have hlt : ¬ (k : Int) < 16 := fun h => ht ((HCL.out.2 k hk).1 h)
      have hkc : k = c := by omega
      subst hkc
      go_wp2
      go_ret
      exact ⟨congrArg Ending.returned (congrArg (Value.int .i64) HO.out), HI.out, HW.out, HK.out⟩
theorem raw_any (g : Nat) (B : List Int) (hB : Bytes B) (hl : B.length ≤ 10000) (s : St) (hr : s.r ≤ 90000) (n : Int) (w0 w : World) (hI : At w0 w g B s) (hb : Below w0.heap.size w0 w) :
    Calls Try.prog 18 #[.pointer (some ⟨g, 0, none⟩), .int .i64 n] w fun e w' => e = .returned (.int .i64 (Rd.raw B s.r (Rd.cl n))) ∧ At w0 w' g B (rawn s n) ∧ Below w0.heap.size w0 w' ∧ KeepBut w w' g none := by
  by_cases hn : n ≤ 16
  · exact raw_small g B _ rfl hB hl s.t s.r s.g s.v n hr hn _ rfl w0 w hI hb
  · exact raw_big g B _ rfl hB hl s.t s.r s.g s.v n hr (by omega) _ rfl w0 w hI hb
end Go.Proofs.Ythccifjjmigklaa.RrWalk
