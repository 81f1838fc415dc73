import Derived.Test.YtdfgoahfaebooaaDoorRrWalk
import Derived.Test.YtdfgoahfaebooaaDoorRrTakes
namespace Go.Proofs.YtdfgoahfaebooaaDoor.RrWalk
open Go.RowKit Go.Proofs.YtdfgoahfaebooaaDoorW.PrintWords Go.Proofs.YtdfgoahfaebooaaDoorW.PrintLast Go.Proofs.YtdfgoahfaebooaaDoorW.PrintMore
open Go.Proofs.YtdfgoahfaebooaaDoor.Rd (St by_ Bytes)
open Go.Proofs.YtdfgoahfaebooaaDoor.RdWalk (wrap_u32 cutW cut_size cut_get cut_below NoByte left w64n tdiv8 tmod8 rawn)
attribute [local go_sem] max2_int min2_int max_two min_two max_three min_three max_four min_four   -- for this text's walks alone
set_option linter.unusedVariables false
set_option linter.unusedSimpArgs false
set_option maxHeartbeats 4000000 in
set_option maxRecDepth 100000 in
theorem raw_small (g : Nat) (B : List Int) (m : Nat) (hm : B.length = m) (hB : Bytes B) (hl : m ≤ 10000) (tk r : Nat) (G V n : Int) (hr : r ≤ 90000) (hn : n ≤ 16) (c : Nat) (hcl : Rd.cl n = c) (w0 w : World) (hI : At w0 w g B ⟨tk, r, G, V⟩) (hb : Below w0.heap.size w0 w) :
    Calls Tryd.prog 17 #[.pointer (some ⟨g, 0, none⟩), .int .i64 n] w fun e w' => e = .returned (.int .i64 (Rd.raw B r c)) ∧ At w0 w' g B ⟨tk, r + c, G, V⟩ ∧ Below w0.heap.size w0 w' ∧ KeepBut w w' g none := by
  have HBy := Aside0.mk hB
  have HMM := Aside0.mk hm
  have HI := Aside0.mk hI
  have HW := Aside0.mk hb
  have HK := Aside0.mk (KeepBut.refl w g none)
  have HG := Aside0.mk (OSwiftPlays.IsS39.ge hI)
  have HCL : Aside0 (c ≤ 16 ∧ ∀ i : Nat, i ≤ c → ((i : Int) < n ↔ i < c)) := ⟨by unfold Rd.cl at hcl; exact ⟨by omega, fun i hi => by omega⟩⟩
  have hc16 := HCL.out.1
  clear hB hb hI hcl hm
  go_enter Tryd.func17, Tryd.ntmps17
  go_wp2
  go_loopw [5, 6, 7] (fun o p i wr => ∃ (k : Nat) (O Pw : Int), k ≤ c ∧ i = .int .i64 k ∧ o = .int .i64 O ∧ p = .int .i64 Pw ∧ Aside0 (O = Rd.raw B r k) ∧ Aside0 (Pw = 2 ^ k) ∧ Aside0 (At w0 wr g B ⟨tk, r + k, G, V⟩) ∧ Aside0 (Below w0.heap.size w0 wr) ∧ Aside0 (KeepBut w wr g none)) (fun _ _ i _ => (c - intOf i).toNat)
  case atStart => exact ⟨0, 0, 1, by omega, rfl, rfl, rfl, ⟨rfl⟩, ⟨rfl⟩, HI, HW, HK⟩
  case round =>
    clear HI HW HK
    obtain ⟨k, O, Pw, hk, rfl, rfl, rfl, HO, HP, HI, HW, HK⟩ := hrel
    by_cases ht : k < c
    · have hlt : (k : Int) < n := (HCL.out.2 k hk).2 ht
      obtain ⟨A0, c0, hg0, _, _⟩ := HI.out
      have hc0 := OSwiftPlays.cellS39_0 hg0
      clear hg0
      rw [HMM.out] at hc0
      obtain ⟨_, hc2, _, _, _, hf2, _, _⟩ := at_cells HI.out
      simp only at hc2
      obtain ⟨r1, hr1⟩ : ∃ r1, r + k = r1 := ⟨_, rfl⟩
      rw [hr1] at hc2 HI
      have hr1b : r1 ≤ 90016 := by omega
      obtain ⟨p, hp⟩ : ∃ p, r1 / 8 = p := ⟨_, rfl⟩
      obtain ⟨q8, hq8⟩ : ∃ q8, r1 % 8 = q8 := ⟨_, rfl⟩
      have hq8' : q8 < 8 := by omega
      have hp' : p ≤ 20000 := by omega
      have g2 : Int.tdiv (r1 : Int) 8 = (p : Int) := by rw [tdiv8, hp]
      have g5 : Int.tmod (r1 : Int) 8 = (q8 : Int) := by rw [tmod8, hq8]
      obtain ⟨X, HX, HXB, HBX⟩ : ∃ X : Int, Aside0 (∀ w1, At w0 w1 g B ⟨tk, r1, G, V⟩ → Below w0.heap.size w0 w1 → Calls Tryd.prog 38 #[.pointer (some ⟨g, 0, none⟩), .int .i64 ((m : Int) - 1 - p)] w1 fun e w' => e = .returned (.int .i64 X) ∧ At w0 w' g B ⟨tk, r1, G, V⟩ ∧ Below w0.heap.size w0 w' ∧ KeepBut w1 w' g none) ∧ Aside0 (0 ≤ X ∧ X ≤ 255) ∧ Aside0 (X / 2 ^ q8 % 2 = Rd.bit B r1) := by
        by_cases hat : p < m
        · refine ⟨by_ B (m - 1 - p), ⟨fun w1 hI hb => ?_⟩, ⟨Rd.by_in HBy.out _⟩, ⟨by unfold Rd.bit; rw [HMM.out, hp, hq8, if_pos hat]⟩⟩
          rw [show (m : Int) - 1 - p = ((m - 1 - p : Nat) : Int) by omega]
          exact byte_any g B HBy.out _ _ w0 w1 hI hb
        · refine ⟨0, ⟨fun w1 hI hb => byte_neg g B _ _ (by omega) w0 w1 hI hb⟩, ⟨by omega⟩, ⟨by unfold Rd.bit; rw [HMM.out, hp, hq8, if_neg hat, Int.zero_ediv]; rfl⟩⟩
      have hbi := Rd.bit_in B r1
      obtain ⟨b, hb⟩ : ∃ b, Rd.bit B r1 = b := ⟨_, rfl⟩
      rw [hb] at HBX hbi
      have HO2 : Aside0 (O + b * Pw = Rd.raw B r (k + 1)) := ⟨by rw [Rd.raw, hr1, hb, HO.out, HP.out]⟩
      have HP2 : Aside0 (Pw * 2 = 2 ^ (k + 1)) := ⟨by rw [Int.pow_succ, HP.out]⟩
      have HR2 : Aside0 (r1 + 1 = r + (k + 1)) := ⟨by omega⟩
      have hPb : 1 ≤ Pw ∧ Pw ≤ 65536 := by
        rw [HP.out]
        have h1 : (0 : Int) < 2 ^ k := Int.pow_pos (by decide)
        have h2 := RdWalk.pow_15 (i := k) (by omega)
        omega
      have hOb : 0 ≤ O ∧ O < Pw := by rw [HO.out, HP.out]; exact Rd.raw_in B r k
      have hbP : 0 ≤ b * Pw ∧ b * Pw ≤ 65536 := by rcases (by omega : b = 0 ∨ b = 1) with rfl | rfl <;> omega
      have g3 : wrap64 (b * Pw) = b * Pw := w64n (by omega) (by omega)
      have g4 : wrap64 (O + b * Pw) = O + b * Pw := w64n (by omega) (by omega)
      have g6 : wrap64 (Pw * 2) = Pw * 2 := w64n (by omega) (by omega)
      have g1 : wrap64 ((m : Int) - 1) = (m : Int) - 1 := w64n (by omega) (by omega)
      have g7 : wrap64 ((m : Int) - 1 - p) = (m : Int) - 1 - p := w64n (by omega) (by omega)
      have k1 : IntKind.i64.wrap ((m : Int) - 1) = (m : Int) - 1 := IntWalk.i64_in _ (by omega)
      have k2 : IntKind.i64.wrap (p : Int) = p := IntWalk.i64_in _ (by omega)
      have k3 : IntKind.i64.wrap ((m : Int) - 1 - p) = (m : Int) - 1 - p := IntWalk.i64_in _ (by omega)
      clear hb hr1 hp hq8 hPb hOb hbP hbi
      go_wp2
      go_region_with (first | (go_at_call 38; (first | (with_reducible refine (HX.out _ HI.out HW.out).mono ?_) | (with_reducible refine (HX.out _ (OSwiftPlays.IsS39.drew HI.out) (below_drew1 HW.out)).mono ?_)); rintro e w2 ⟨rfl, hI2, hb2, hk2⟩; obtain ⟨_, hk2c, _, _, _, hkf2, _, _⟩ := at_cells hI2; simp only at hk2c))
      all_goals (
        have HI3 := Aside0.mk hI2
        have HW3 := Aside0.mk hb2
        have HK3 : Aside0 (KeepBut w w2 g none) := ⟨by first | exact KeepBut.trans HK.out hk2 (.inl rfl) | exact KeepBut.trans (keep_drew HK.out) hk2 (.inl rfl)⟩
        clear hI2 hb2 hk2 HI HW HK
        go_wp2
        go_loopw [8, 9] (fun xv jv wq => ∃ (j : Nat) (x : Int), j ≤ q8 ∧ jv = .int .i64 j ∧ xv = .int .i64 x ∧ Aside0 (x = X / 2 ^ j) ∧ Aside0 (wq = w2)) (fun _ jv _ => (q8 - intOf jv).toNat)
        case atStart => exact ⟨0, X, by omega, rfl, rfl, ⟨by rw [Int.pow_zero, Int.ediv_one]⟩, ⟨rfl⟩⟩
        case round =>
          obtain ⟨j, x, hj, rfl, rfl, HXJ, HQ⟩ := hrel
          have hwq := HQ.out
          subst hwq
          clear HQ
          have hx0 : 0 ≤ x ∧ x ≤ 255 := by
            rw [HXJ.out]
            have h1 : (0 : Int) < 2 ^ j := Int.pow_pos (by decide)
            exact ⟨Int.ediv_nonneg HXB.out.1 (by omega), Int.le_trans (Int.ediv_le_self _ HXB.out.1) HXB.out.2⟩
          by_cases hjn : j < q8
          · have hj8 : j ≤ 8 := by omega
            have h2 : Int.tdiv x 2 = x / 2 := Int.tdiv_eq_ediv_of_nonneg hx0.1
            have h3 : wrap64 (x / 2) = x / 2 := w64n (by omega) (by omega)
            go_wp2
            go_roundw
            case rel => exact ⟨j + 1, x / 2, by omega, by simp, rfl, ⟨by rw [HXJ.out, Int.pow_succ, Int.ediv_ediv_of_nonneg (by have h1 : (0 : Int) < 2 ^ j := Int.pow_pos (by decide); omega)]⟩, ⟨by trivial⟩⟩
            case measure => simp [intOf]; omega
          · have hjq : j = q8 := by omega
            have h4 : Int.tmod x 2 = b := by rw [Int.tmod_eq_emod_of_nonneg hx0.1, HXJ.out, hjq]; exact HBX.out
            go_wp2
            go_roundw
            case rel => exact ⟨k + 1, O + b * Pw, Pw * 2, by omega, by simp, (by first | rfl | exact congrArg (Value.int .i64) g4), (by first | rfl | exact congrArg (Value.int .i64) g6), HO2, HP2, ⟨HR2.out ▸ OSwiftPlays.IsS39.set_2 HI3.out _⟩, ⟨below_set HW3.out HG.out⟩, ⟨KeepBut.set_ HK3.out 2 _⟩⟩
            case measure => simp [intOf]; omega)
    · have hlt : ¬ (k : Int) < n := fun h => ht ((HCL.out.2 k hk).1 h)
      have hkc : k = c := by omega
      subst hkc
      go_wp2
      go_ret
      exact ⟨congrArg Ending.returned (congrArg (Value.int .i64) HO.out), HI.out, HW.out, HK.out⟩
set_option maxHeartbeats 4000000 in
set_option maxRecDepth 100000 in
theorem raw_big (g : Nat) (B : List Int) (m : Nat) (hm : B.length = m) (hB : Bytes B) (hl : m ≤ 10000) (tk r : Nat) (G V n : Int) (hr : r ≤ 90000) (hn : 16 < n) (c : Nat) (hcl : Rd.cl n = c) (w0 w : World) (hI : At w0 w g B ⟨tk, r, G, V⟩) (hb : Below w0.heap.size w0 w) :
    Calls Tryd.prog 17 #[.pointer (some ⟨g, 0, none⟩), .int .i64 n] w fun e w' => e = .returned (.int .i64 (Rd.raw B r c)) ∧ At w0 w' g B ⟨tk, r + c, G, V⟩ ∧ Below w0.heap.size w0 w' ∧ KeepBut w w' g none := by
  have HBy := Aside0.mk hB
  have HMM := Aside0.mk hm
  have HI := Aside0.mk hI
  have HW := Aside0.mk hb
  have HK := Aside0.mk (KeepBut.refl w g none)
  have HG := Aside0.mk (OSwiftPlays.IsS39.ge hI)
  have HCL : Aside0 (c ≤ 16 ∧ ∀ i : Nat, i ≤ c → ((i : Int) < 16 ↔ i < c)) := ⟨by unfold Rd.cl at hcl; exact ⟨by omega, fun i hi => by omega⟩⟩
  have hc16 := HCL.out.1
  clear hB hb hI hcl hm
  go_enter Tryd.func17, Tryd.ntmps17
  go_wp2
  go_loopw [5, 6, 7] (fun o p i wr => ∃ (k : Nat) (O Pw : Int), k ≤ c ∧ i = .int .i64 k ∧ o = .int .i64 O ∧ p = .int .i64 Pw ∧ Aside0 (O = Rd.raw B r k) ∧ Aside0 (Pw = 2 ^ k) ∧ Aside0 (At w0 wr g B ⟨tk, r + k, G, V⟩) ∧ Aside0 (Below w0.heap.size w0 wr) ∧ Aside0 (KeepBut w wr g none)) (fun _ _ i _ => (c - intOf i).toNat)
  case atStart => exact ⟨0, 0, 1, by omega, rfl, rfl, rfl, ⟨rfl⟩, ⟨rfl⟩, HI, HW, HK⟩
  case round =>
    clear HI HW HK
    obtain ⟨k, O, Pw, hk, rfl, rfl, rfl, HO, HP, HI, HW, HK⟩ := hrel
    by_cases ht : k < c
    · have hlt : (k : Int) < 16 := (HCL.out.2 k hk).2 ht
      obtain ⟨A0, c0, hg0, _, _⟩ := HI.out
      have hc0 := OSwiftPlays.cellS39_0 hg0
      clear hg0
      rw [HMM.out] at hc0
      obtain ⟨_, hc2, _, _, _, hf2, _, _⟩ := at_cells HI.out
      simp only at hc2
      obtain ⟨r1, hr1⟩ : ∃ r1, r + k = r1 := ⟨_, rfl⟩
      rw [hr1] at hc2 HI
      have hr1b : r1 ≤ 90016 := by omega
      obtain ⟨p, hp⟩ : ∃ p, r1 / 8 = p := ⟨_, rfl⟩
      obtain ⟨q8, hq8⟩ : ∃ q8, r1 % 8 = q8 := ⟨_, rfl⟩
      have hq8' : q8 < 8 := by omega
      have hp' : p ≤ 20000 := by omega
      have g2 : Int.tdiv (r1 : Int) 8 = (p : Int) := by rw [tdiv8, hp]
      have g5 : Int.tmod (r1 : Int) 8 = (q8 : Int) := by rw [tmod8, hq8]
      obtain ⟨X, HX, HXB, HBX⟩ : ∃ X : Int, Aside0 (∀ w1, At w0 w1 g B ⟨tk, r1, G, V⟩ → Below w0.heap.size w0 w1 → Calls Tryd.prog 38 #[.pointer (some ⟨g, 0, none⟩), .int .i64 ((m : Int) - 1 - p)] w1 fun e w' => e = .returned (.int .i64 X) ∧ At w0 w' g B ⟨tk, r1, G, V⟩ ∧ Below w0.heap.size w0 w' ∧ KeepBut w1 w' g none) ∧ Aside0 (0 ≤ X ∧ X ≤ 255) ∧ Aside0 (X / 2 ^ q8 % 2 = Rd.bit B r1) := by
        by_cases hat : p < m
        · refine ⟨by_ B (m - 1 - p), ⟨fun w1 hI hb => ?_⟩, ⟨Rd.by_in HBy.out _⟩, ⟨by unfold Rd.bit; rw [HMM.out, hp, hq8, if_pos hat]⟩⟩
          rw [show (m : Int) - 1 - p = ((m - 1 - p : Nat) : Int) by omega]
          exact byte_any g B HBy.out _ _ w0 w1 hI hb
        · refine ⟨0, ⟨fun w1 hI hb => byte_neg g B _ _ (by omega) w0 w1 hI hb⟩, ⟨by omega⟩, ⟨by unfold Rd.bit; rw [HMM.out, hp, hq8, if_neg hat, Int.zero_ediv]; rfl⟩⟩
      have hbi := Rd.bit_in B r1
      obtain ⟨b, hb⟩ : ∃ b, Rd.bit B r1 = b := ⟨_, rfl⟩
      rw [hb] at HBX hbi
      have HO2 : Aside0 (O + b * Pw = Rd.raw B r (k + 1)) := ⟨by rw [Rd.raw, hr1, hb, HO.out, HP.out]⟩
      have HP2 : Aside0 (Pw * 2 = 2 ^ (k + 1)) := ⟨by rw [Int.pow_succ, HP.out]⟩
      have HR2 : Aside0 (r1 + 1 = r + (k + 1)) := ⟨by omega⟩
      have hPb : 1 ≤ Pw ∧ Pw ≤ 65536 := by
        rw [HP.out]
        have h1 : (0 : Int) < 2 ^ k := Int.pow_pos (by decide)
        have h2 := RdWalk.pow_15 (i := k) (by omega)
        omega
      have hOb : 0 ≤ O ∧ O < Pw := by rw [HO.out, HP.out]; exact Rd.raw_in B r k
      have hbP : 0 ≤ b * Pw ∧ b * Pw ≤ 65536 := by rcases (by omega : b = 0 ∨ b = 1) with rfl | rfl <;> omega
      have g3 : wrap64 (b * Pw) = b * Pw := w64n (by omega) (by omega)
      have g4 : wrap64 (O + b * Pw) = O + b * Pw := w64n (by omega) (by omega)
      have g6 : wrap64 (Pw * 2) = Pw * 2 := w64n (by omega) (by omega)
      have g1 : wrap64 ((m : Int) - 1) = (m : Int) - 1 := w64n (by omega) (by omega)
      have g7 : wrap64 ((m : Int) - 1 - p) = (m : Int) - 1 - p := w64n (by omega) (by omega)
      have k1 : IntKind.i64.wrap ((m : Int) - 1) = (m : Int) - 1 := IntWalk.i64_in _ (by omega)
      have k2 : IntKind.i64.wrap (p : Int) = p := IntWalk.i64_in _ (by omega)
      have k3 : IntKind.i64.wrap ((m : Int) - 1 - p) = (m : Int) - 1 - p := IntWalk.i64_in _ (by omega)
      clear hb hr1 hp hq8 hPb hOb hbP hbi
      go_wp2
      go_region_with (first | (go_at_call 38; (first | (with_reducible refine (HX.out _ HI.out HW.out).mono ?_) | (with_reducible refine (HX.out _ (OSwiftPlays.IsS39.drew HI.out) (below_drew1 HW.out)).mono ?_)); rintro e w2 ⟨rfl, hI2, hb2, hk2⟩; obtain ⟨_, hk2c, _, _, _, hkf2, _, _⟩ := at_cells hI2; simp only at hk2c))
      all_goals (
        have HI3 := Aside0.mk hI2
        have HW3 := Aside0.mk hb2
        have HK3 : Aside0 (KeepBut w w2 g none) := ⟨by first | exact KeepBut.trans HK.out hk2 (.inl rfl) | exact KeepBut.trans (keep_drew HK.out) hk2 (.inl rfl)⟩
        clear hI2 hb2 hk2 HI HW HK
        go_wp2
        go_loopw [8, 9] (fun xv jv wq => ∃ (j : Nat) (x : Int), j ≤ q8 ∧ jv = .int .i64 j ∧ xv = .int .i64 x ∧ Aside0 (x = X / 2 ^ j) ∧ Aside0 (wq = w2)) (fun _ jv _ => (q8 - intOf jv).toNat)
        case atStart => exact ⟨0, X, by omega, rfl, rfl, ⟨by rw [Int.pow_zero, Int.ediv_one]⟩, ⟨rfl⟩⟩
        case round =>
          obtain ⟨j, x, hj, rfl, rfl, HXJ, HQ⟩ := hrel
          have hwq := HQ.out
          subst hwq
          clear HQ
          have hx0 : 0 ≤ x ∧ x ≤ 255 := by
            rw [HXJ.out]
            have h1 : (0 : Int) < 2 ^ j := Int.pow_pos (by decide)
            exact ⟨Int.ediv_nonneg HXB.out.1 (by omega), Int.le_trans (Int.ediv_le_self _ HXB.out.1) HXB.out.2⟩
          by_cases hjn : j < q8
          · have hj8 : j ≤ 8 := by omega
            have h2 : Int.tdiv x 2 = x / 2 := Int.tdiv_eq_ediv_of_nonneg hx0.1
            have h3 : wrap64 (x / 2) = x / 2 := w64n (by omega) (by omega)
            go_wp2
            go_roundw
            case rel => exact ⟨j + 1, x / 2, by omega, by simp, rfl, ⟨by rw [HXJ.out, Int.pow_succ, Int.ediv_ediv_of_nonneg (by have h1 : (0 : Int) < 2 ^ j := Int.pow_pos (by decide); omega)]⟩, ⟨by trivial⟩⟩
            case measure => simp [intOf]; omega
          · have hjq : j = q8 := by omega
            have h4 : Int.tmod x 2 = b := by rw [Int.tmod_eq_emod_of_nonneg hx0.1, HXJ.out, hjq]; exact HBX.out
            go_wp2
            go_roundw
            case rel => exact ⟨k + 1, O + b * Pw, Pw * 2, by omega, by simp, (by first | rfl | exact congrArg (Value.int .i64) g4), (by first | rfl | exact congrArg (Value.int .i64) g6), HO2, HP2, ⟨HR2.out ▸ OSwiftPlays.IsS39.set_2 HI3.out _⟩, ⟨below_set HW3.out HG.out⟩, ⟨KeepBut.set_ HK3.out 2 _⟩⟩
            case measure => simp [intOf]; omega)
    · have hlt : ¬ (k : Int) < 16 := fun h => ht ((HCL.out.2 k hk).1 h)
      have hkc : k = c := by omega
      subst hkc
      go_wp2
      go_ret
      exact ⟨congrArg Ending.returned (congrArg (Value.int .i64) HO.out), HI.out, HW.out, HK.out⟩
theorem raw_any (g : Nat) (B : List Int) (hB : Bytes B) (hl : B.length ≤ 10000) (s : St) (hr : s.r ≤ 90000) (n : Int) (w0 w : World) (hI : At w0 w g B s) (hb : Below w0.heap.size w0 w) :
    Calls Tryd.prog 17 #[.pointer (some ⟨g, 0, none⟩), .int .i64 n] w fun e w' => e = .returned (.int .i64 (Rd.raw B s.r (Rd.cl n))) ∧ At w0 w' g B (rawn s n) ∧ Below w0.heap.size w0 w' ∧ KeepBut w w' g none := by
  by_cases hn : n ≤ 16
  · exact raw_small g B _ rfl hB hl s.t s.r s.g s.v n hr hn _ rfl w0 w hI hb
  · exact raw_big g B _ rfl hB hl s.t s.r s.g s.v n hr (by omega) _ rfl w0 w hI hb
end Go.Proofs.YtdfgoahfaebooaaDoor.RrWalk
namespace Go.Proofs.YtdfgoahfaebooaaDoor.RrWalk
open Go.RowKit Go.Proofs.YtdfgoahfaebooaaDoorW.PrintWords Go.Proofs.YtdfgoahfaebooaaDoorW.PrintLast Go.Proofs.YtdfgoahfaebooaaDoorW.PrintMore
open Go.Proofs.YtdfgoahfaebooaaDoor.Rd (St by_ Bytes)
open Go.Proofs.YtdfgoahfaebooaaDoor.RdWalk (wrap_u32 cutW cut_size cut_get cut_below NoByte left w64n tdiv8 tmod8 rawn)
attribute [local go_sem] max2_int min2_int max_two min_two max_three min_three max_four min_four   -- for this text's walks alone
set_option linter.unusedVariables false
set_option linter.unusedSimpArgs false
set_option maxHeartbeats 2000000 in
set_option maxRecDepth 100000 in
theorem take_none (g : Nat) (B : List Int) (s : St) (a b n : Int) (w0 w : World) (hI : At w0 w g B s) (hb : Below w0.heap.size w0 w) (b1 b2 b3 b4 : Bool)
    (d1 : decide (a < 0) = b1) (d2 : decide (b ≤ a) = b2) (d3 : decide (n < b) = b3) (d4 : decide (4096 < n) = b4) (h : Aside0 ((b1 || b2 || b3 || b4) = true)) :
    Calls Tryd.prog 15 #[.pointer (some ⟨g, 0, none⟩), .int .i64 a, .int .i64 b, .int .i64 n] w fun e w' => e = .returned (.tuple #[]) ∧ At w0 w' g B s ∧ Below w0.heap.size w0 w' ∧ KeepBut w w' g none := by
  have HI := Aside0.mk hI
  have HW := Aside0.mk hb
  have HK := Aside0.mk (KeepBut.refl w g none)
  clear hI hb
  cases b1 <;> cases b2 <;> cases b3 <;> cases b4 <;> first | (exfalso; exact absurd h.out (by decide)) | (
    clear h
    go_enter Tryd.func15, Tryd.ntmps15
    go_wp2
    first | go_end0 | ((try simp only [Exit.inBlock, Exit.then]); refine bodyPost_ret (results_none rfl _ _ _) rfl ?_)
    exact ⟨rfl, HI.out, HW.out, HK.out⟩)
theorem take_any (g : Nat) (B : List Int) (hB : Bytes B) (s : St) (hs : Rd.Good s) (ht : s.t ≤ 9990) (a b n : Int) (w0 w : World) (hI : At w0 w g B s) (hb : Below w0.heap.size w0 w) :
    Calls Tryd.prog 15 #[.pointer (some ⟨g, 0, none⟩), .int .i64 a, .int .i64 b, .int .i64 n] w fun e w' => e = .returned (.tuple #[]) ∧ At w0 w' g B (Rd.take B s a b n) ∧ Below w0.heap.size w0 w' ∧ KeepBut w w' g none := by
  unfold Rd.take
  by_cases hk : Rd.ok a b n
  · rw [if_pos hk]
    obtain ⟨p0, p1, o0, o1, s0, s1⟩ := Rd.part_is hs.g0 hs.g1 hk
    have hrg := Rd.rg_in hs.g0 hs.g1 hk
    have hF := Rd.cut_fair hs hk
    obtain ⟨k0, k1, k2, k3⟩ := hk
    have hg0 := hs.g0
    have hg1 := hs.g1
    have hv0 := hs.v0
    have hv1 := hs.v1
    obtain ⟨tk, rw, G, V⟩ := s
    simp only at *
    have hq : G.tdiv n = G / n := Int.tdiv_eq_ediv_of_nonneg (by omega)
    have hw : ∀ x : Int, -4294967296 ≤ x → x ≤ 4294967295 → wrap64 x = x := fun x h0 h1 => by unfold wrap64; omega
    obtain ⟨p, hp⟩ : ∃ p, G / n = p := ⟨_, rfl⟩
    have hc : Rd.cut ⟨tk, rw, G, V⟩ a b n = ⟨tk, rw, Rd.rg G a b n, min (V - min (a * p) V) (Rd.rg G a b n - 1)⟩ := by simp only [Rd.cut]; rw [hp]
    rw [hc] at hF ⊢
    have hrg2 : Rd.rg G a b n = if b = n then G - a * p else (b - a) * p := by unfold Rd.rg; rw [hp]
    rw [hp] at p0 p1 o0 o1 s0 s1 hrg
    obtain ⟨R, hR⟩ : ∃ R, Rd.rg G a b n = R := ⟨_, rfl⟩
    rw [hR] at hF hrg hrg2 ⊢
    obtain ⟨o, ho⟩ : ∃ o, a * p = o := ⟨_, rfl⟩
    rw [ho] at o0 o1 s1 hrg hrg2 hF ⊢
    have h2 : wrap64 (G.tdiv n) = p := by rw [hq, hp]; exact hw _ (by omega) (by omega)
    have h4 : wrap64 (a * p) = o := by rw [ho]; exact hw _ (by omega) (by omega)
    have h7 : wrap64 (b - a) = b - a := hw _ (by omega) (by omega)
    have h8 : wrap64 (V - o) = V - o := hw _ (by omega) (by omega)
    have h9 : wrap64 (R - 1) = R - 1 := hw _ (by omega) (by omega)
    have d1 : decide (a < 0) = false := decide_eq_false (by omega)
    have d2 : decide (b ≤ a) = false := decide_eq_false (by omega)
    have d3 : decide (n < b) = false := decide_eq_false (by omega)
    have d0 : decide (4096 < n) = false := decide_eq_false (by omega)
    by_cases hbn : b = n
    · rw [if_pos hbn] at hrg2
      have h5 : wrap64 (G - o) = R := by rw [← hrg2]; exact hw _ (by omega) (by omega)
      by_cases hy : V - o < 0
      · rw [show min (V - min o V) (R - 1) = 0 by omega] at hF ⊢
        exact take_e1 g B hB tk rw G V a b n p o _ R ht w0 w hI hb d1 d2 d3 d0 (beq_iff_eq.2 hbn) (by omega) h2 h4 h5 h7 h8 (decide_eq_true hy) h9 (decide_eq_false (by omega)) ⟨hF⟩
      · by_cases hz : R - 1 < V - o
        · rw [show min (V - min o V) (R - 1) = R - 1 by omega] at hF ⊢
          exact take_e2 g B hB tk rw G V a b n p o _ R ht w0 w hI hb d1 d2 d3 d0 (beq_iff_eq.2 hbn) (by omega) h2 h4 h5 h7 h8 (decide_eq_false hy) h9 (decide_eq_true hz) ⟨hF⟩
        · rw [show min (V - min o V) (R - 1) = V - o by omega] at hF ⊢
          exact take_e0 g B hB tk rw G V a b n p o _ R ht w0 w hI hb d1 d2 d3 d0 (beq_iff_eq.2 hbn) (by omega) h2 h4 h5 h7 h8 (decide_eq_false hy) h9 (decide_eq_false hz) ⟨hF⟩
    · rw [if_neg hbn] at hrg2
      have h5 : wrap64 ((b - a) * p) = R := by rw [← hrg2]; exact hw _ (by omega) (by omega)
      by_cases hy : V - o < 0
      · rw [show min (V - min o V) (R - 1) = 0 by omega] at hF ⊢
        exact take_m1 g B hB tk rw G V a b n p o _ R ht w0 w hI hb d1 d2 d3 d0 (beq_eq_false_iff_ne.2 hbn) (by omega) h2 h4 h5 h7 h8 (decide_eq_true hy) h9 (decide_eq_false (by omega)) ⟨hF⟩
      · by_cases hz : R - 1 < V - o
        · rw [show min (V - min o V) (R - 1) = R - 1 by omega] at hF ⊢
          exact take_m2 g B hB tk rw G V a b n p o _ R ht w0 w hI hb d1 d2 d3 d0 (beq_eq_false_iff_ne.2 hbn) (by omega) h2 h4 h5 h7 h8 (decide_eq_false hy) h9 (decide_eq_true hz) ⟨hF⟩
        · rw [show min (V - min o V) (R - 1) = V - o by omega] at hF ⊢
          exact take_m0 g B hB tk rw G V a b n p o _ R ht w0 w hI hb d1 d2 d3 d0 (beq_eq_false_iff_ne.2 hbn) (by omega) h2 h4 h5 h7 h8 (decide_eq_false hy) h9 (decide_eq_false hz) ⟨hF⟩
  · rw [if_neg hk]
    refine take_none g B s a b n w0 w hI hb _ _ _ _ rfl rfl rfl rfl ⟨?_⟩
    simp only [Rd.ok] at hk
    simp only [Bool.or_eq_true, decide_eq_true_eq]
    omega
theorem get_is (B : List Int) (s : St) (hs : Rd.Good s) (n : Int) : OSwiftPlays.spinetref07_Reader_Get.f 3 B s.t s.r s.g s.v n = some (Rd.get s n, (s.t : Int), (s.r : Int), s.g, s.v) := by
  have hg0 := hs.g0
  have hg1 := hs.g1
  have hv0 := hs.v0
  have hv1 := hs.v1
  unfold OSwiftPlays.spinetref07_Reader_Get.f Rd.get
  by_cases h : 1 ≤ n
  · rw [if_neg (by omega)]
    by_cases h2 : n ≤ 4096
    · have hp : 16 ≤ s.g / n := by
        have := Int.ediv_le_ediv (a := 65536) (b := s.g) (c := n) (by omega) (by omega)
        have h2 : (16 : Int) ≤ 65536 / n := (Int.le_ediv_iff_mul_le (by omega)).mpr (by omega)
        omega
      have hle : s.g / n ≤ s.g := Int.ediv_le_self n (by omega)
      have h5 : 0 ≤ s.v / (s.g / n) := Int.ediv_nonneg (by omega) (by omega)
      have h6 : s.v / (s.g / n) ≤ s.v := Int.ediv_le_self _ (by omega)
      have b3 : -4294967296 ≤ s.g / n ∧ s.g / n ≤ 4294967295 := by omega
      have b5 : -4294967296 ≤ s.v / (s.g / n) ∧ s.v / (s.g / n) ≤ 4294967295 := by omega
      have c3 : ¬ s.g / n = 0 := by omega
      have c4 : (decide (n > 4096)) = false := decide_eq_false (by omega)
      have c5 : ¬ n = 0 := by omega
      have hw : ∀ x : Int, -4294967296 ≤ x ∧ x ≤ 4294967295 → wrap64 x = x := fun x h => by unfold wrap64; omega
      have e2 : s.g.tdiv n = s.g / n := Int.tdiv_eq_ediv_of_nonneg (by omega)
      have e4 : s.v.tdiv (s.g / n) = s.v / (s.g / n) := Int.tdiv_eq_ediv_of_nonneg (by omega)
      have e6 : wrap64 (n - 1) = n - 1 := hw _ (by omega)
      rw [c4, if_pos (show 1 ≤ n ∧ n ≤ 4096 from ⟨h, h2⟩)]
      simp only [OSwiftPlays.spinetref07_Reader_Get.j0]
      rw [if_neg (by decide), if_neg c5, e2, hw _ b3, if_neg c3, e4, hw _ b5, e6]
      clear e2 e4 e6 hw
      split
      · rw [show min (s.v / (s.g / n)) (n - 1) = n - 1 by omega]
      · rw [show min (s.v / (s.g / n)) (n - 1) = s.v / (s.g / n) by omega]
    · have c4 : (decide (n > 4096)) = true := decide_eq_true (by omega)
      rw [c4]
      simp only [OSwiftPlays.spinetref07_Reader_Get.j0]
      rw [if_pos trivial, if_neg (by omega)]
  · rw [if_pos (by omega)]
    simp only [OSwiftPlays.spinetref07_Reader_Get.j0]
    rw [if_pos trivial, if_neg (by omega)]
theorem get_any (g : Nat) (B : List Int) (s : St) (hs : Rd.Good s) (n : Int) (w0 w : World) (hI : At w0 w g B s) (hb : Below w0.heap.size w0 w) :
    Calls Tryd.prog 13 #[.pointer (some ⟨g, 0, none⟩), .int .i64 n] w fun e w' => e = .returned (.int .i64 (Rd.get s n)) ∧ At w0 w' g B s ∧ Below w0.heap.size w0 w' ∧ KeepBut w w' g none :=
  OSwiftPlays.spinetref07_Reader_Get.calls 3 g B s.t s.r s.g s.v n _ _ _ _ _ w0 w hI hb (get_is B s hs n)
theorem left_any (g : Nat) (B : List Int) (hl : B.length ≤ 10000) (s : St) (ht : s.t ≤ 10000) (hr : s.r ≤ 100000) (w0 w : World) (hI : At w0 w g B s) (hb : Below w0.heap.size w0 w) :
    Calls Tryd.prog 19 #[.pointer (some ⟨g, 0, none⟩)] w fun e w' => e = .returned (.int .i64 (left B s)) ∧ At w0 w' g B s ∧ Below w0.heap.size w0 w' ∧ KeepBut w w' g none :=
  OSwiftPlays.spinetref07_Reader_Left.calls g B s.t s.r s.g s.v _ _ _ _ _ w0 w hI hb (by
    unfold OSwiftPlays.spinetref07_Reader_Left.f left
    rw [show wrap64 (wrap64 (wrap64 (8 * (B.length : Int)) - wrap64 (8 * (s.t : Int))) - s.r) = 8 * ((B.length : Int) - s.t) - s.r by unfold wrap64; omega])
/-- The document's reader at a block, whatever the world was ahead of it. -/
def RrAt (w : World) (g : Nat) (B : List Int) (s : St) : Prop := At (cutW w g) w g B s
theorem at_lt {w0 w : World} {g : Nat} {B : List Int} {s : St} (h : At w0 w g B s) : g < w.heap.size := by
  obtain ⟨_, _, hg, _, _⟩ := h
  exact blk_lt hg
theorem rr_of {w0 w : World} {g : Nat} {B : List Int} {s : St} (h : At w0 w g B s) (hb : Below w0.heap.size w0 w) : RrAt w g B s := by
  have hlt := at_lt h
  obtain ⟨A0, c0, hg, hge, hC⟩ := h
  refine ⟨A0, c0, hg, by rw [cut_size (by omega)]; exact Nat.le_refl _, (Kd.heap_int .u8).C ?_ hC⟩
  intro k hk
  rw [cut_get (by omega)]
  exact hb.block k hk
theorem face {w : World} {g : Nat} {B : List Int} {s s' : St} {n : Nat} {args : Array Value} {ret : Ending} (h : RrAt w g B s)
    (hc : ∀ w0 w, At w0 w g B s → Below w0.heap.size w0 w → Calls Tryd.prog n args w fun e w' => e = ret ∧ At w0 w' g B s' ∧ Below w0.heap.size w0 w' ∧ KeepBut w w' g none) :
    Calls Tryd.prog n args w fun e w' => e = ret ∧ RrAt w' g B s' ∧ Below g w w' ∧ KeepBut w w' g none := by
  have hlt := at_lt h
  have hz : (cutW w g).heap.size = g := cut_size (by omega)
  refine (hc (cutW w g) w h (by rw [hz]; exact cut_below (by omega))).mono ?_
  rintro e w' ⟨rfl, h1, h2, h3⟩
  refine ⟨rfl, rr_of h1 h2, ⟨h2.os, h2.tape, h2.output, h3.1, fun k hk => ?_⟩, h3⟩
  have := h2.block k (by rw [hz]; exact hk)
  rw [this, cut_get hk]
theorem RrAt.noByte {w : World} {g : Nat} {B : List Int} {s : St} (h : RrAt w g B s) : NoByte w g := by
  obtain ⟨A0, c0, hg, _, _⟩ := h
  rintro ⟨b, o, p⟩ x rfl hc
  simp only [World.cell?, hg] at hc
  revert hc
  rcases o with _ | _ | _ | _ | _ | o <;> cases p <;> simp
theorem RrAt.move {w w' : World} {g g' : Nat} {B : List Int} {s : St} (h : RrAt w g B s) (hk : KeepBut w w' g' none) (hne : g ≠ g') (hnb : NoByte w g') : RrAt w' g B s := by
  have hlt := at_lt h
  obtain ⟨A0, c0, hg, hge, hC⟩ := h
  have hs := hk.1
  have hz : (cutW w g).heap.size = g := cut_size (by omega)
  have hz' : (cutW w' g).heap.size = g := cut_size (by omega)
  have hkc : KeepBut (cutW w g) (cutW w' g) g' none := ⟨by omega, fun i hi hi2 hi3 => by rw [cut_get (by omega), cut_get (by omega)]; exact hk.2 i (by omega) hi2 hi3⟩
  refine ⟨A0, c0, (hk.2 g hlt hne (by simp)).trans hg, by omega, Kd.C_foot_ne (fun h => h) hC ?_ _ hkc⟩
  intro ad he hn hb
  obtain ⟨ad', c, he', _, hK, hc0⟩ := Kd.C_get hC (0 : Int) 0 (by omega) (by omega)
  rw [he] at he'
  injection he' with he'
  subst he'
  have hK' : c = [Value.int .u8 (B.getD 0 0)] := hK
  subst hK'
  have h1 := hc0 0 _ rfl
  have h2 : (cutW w g).cell? (ad.add 0) = some (.int .u8 (B.getD 0 0)) := h1
  have h3 := Kd.cell_heap (w1 := w) (fun k hk => (cut_get (by omega)).symm) h2
  exact hnb _ _ (by rw [add_block]; exact hb) h3
theorem RrAt.below {w w' : World} {g : Nat} {B : List Int} {s : St} (h : RrAt w g B s) (hb : Below w.heap.size w w') : RrAt w' g B s := by
  have hlt := at_lt h
  obtain ⟨A0, c0, hg, hge, hC⟩ := h
  have hz : (cutW w g).heap.size = g := cut_size (by omega)
  have hs := hb.size
  refine ⟨A0, c0, (hb.block g hlt).trans hg, by rw [cut_size (by omega)]; exact Nat.le_refl _, (Kd.heap_int .u8).C ?_ hC⟩
  intro k hk
  rw [cut_get (by omega), cut_get (by omega)]
  exact hb.block k (by omega)
theorem rr_new (B : List Int) (m : Nat) (hm : B.length = m) (hB : Bytes B) (A : Option Addr) (c : Nat) (w : World) (hC : Kd.C (Kd.int .u8) w A m B) :
    Calls Tryd.prog 34 #[.slice A m c] w fun e w' => ∃ g, e = .returned (.pointer (some ⟨g, 0, none⟩)) ∧ RrAt w' g B (Rd.new B) ∧ w.heap.size ≤ g ∧ Below w.heap.size w w' := by
  refine (new_at B m hm hB A c w hC).mono ?_
  rintro e w' ⟨rfl, h1, h2⟩
  exact ⟨_, rfl, rr_of h1 h2, Nat.le_refl _, h2⟩
theorem rr_get {g : Nat} {B : List Int} {s : St} (hs : Rd.Good s) (n : Int) {w : World} (h : RrAt w g B s) :
    Calls Tryd.prog 13 #[.pointer (some ⟨g, 0, none⟩), .int .i64 n] w fun e w' => e = .returned (.int .i64 (Rd.get s n)) ∧ RrAt w' g B s ∧ Below g w w' ∧ KeepBut w w' g none :=
  face h (fun w0 w hI hb => get_any g B s hs n w0 w hI hb)
theorem rr_take {g : Nat} {B : List Int} (hB : Bytes B) {s : St} (hs : Rd.Good s) (ht : s.t ≤ 9990) (a b n : Int) {w : World} (h : RrAt w g B s) :
    Calls Tryd.prog 15 #[.pointer (some ⟨g, 0, none⟩), .int .i64 a, .int .i64 b, .int .i64 n] w fun e w' => e = .returned (.tuple #[]) ∧ RrAt w' g B (Rd.take B s a b n) ∧ Below g w w' ∧ KeepBut w w' g none :=
  face h (fun w0 w hI hb => take_any g B hB s hs ht a b n w0 w hI hb)
theorem rr_raw {g : Nat} {B : List Int} (hB : Bytes B) (hl : B.length ≤ 10000) {s : St} (hr : s.r ≤ 90000) (n : Int) {w : World} (h : RrAt w g B s) :
    Calls Tryd.prog 17 #[.pointer (some ⟨g, 0, none⟩), .int .i64 n] w fun e w' => e = .returned (.int .i64 (Rd.raw B s.r (Rd.cl n))) ∧ RrAt w' g B (rawn s n) ∧ Below g w w' ∧ KeepBut w w' g none :=
  face h (fun w0 w hI hb => raw_any g B hB hl s hr n w0 w hI hb)
theorem rr_left {g : Nat} {B : List Int} (hl : B.length ≤ 10000) {s : St} (ht : s.t ≤ 10000) (hr : s.r ≤ 100000) {w : World} (h : RrAt w g B s) :
    Calls Tryd.prog 19 #[.pointer (some ⟨g, 0, none⟩)] w fun e w' => e = .returned (.int .i64 (left B s)) ∧ RrAt w' g B s ∧ Below g w w' ∧ KeepBut w w' g none :=
  face h (fun w0 w hI hb => left_any g B hl s ht hr w0 w hI hb)
theorem rr_rng {g : Nat} {B : List Int} {s : St} {w : World} (h : RrAt w g B s) : w.cell? ⟨g, 3, none⟩ = some (.int .i64 s.g) := (at_cells h).2.2.1
end Go.Proofs.YtdfgoahfaebooaaDoor.RrWalk
