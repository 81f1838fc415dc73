import Derived.Test.YthccifjjmigklaaRdTwo
namespace Go.Proofs.Ythccifjjmigklaa.RdLaw
open Go.RowKit Go.Proofs.YthccifjjmigklaaW.PrintWords Go.Proofs.YthccifjjmigklaaW.PrintLast Go.Proofs.YthccifjjmigklaaW.PrintMore
open Go.Proofs.Ythccifjjmigklaa.Rd (St by_ Bytes)
open Go.Proofs.Ythccifjjmigklaa.RdWalk
set_option linter.unusedVariables false
set_option linter.unusedSimpArgs false
theorem wrap_u8 (n : Int) : IntKind.u8.wrap n = n % 256 := by simp [IntKind.wrap, IntKind.bits, IntKind.signed]
theorem pow_16 {i : Nat} (h : i ≤ 16) : (2 : Int) ^ i ≤ 65536 := by
  have h2 : 2 ^ i ≤ 2 ^ 16 := Nat.pow_le_pow_right (by decide) h
  have := Int.ofNat_le.mpr h2
  rw [Int.natCast_pow] at this
  exact this
theorem and_one32 {x : Int} (h0 : 0 ≤ x) (h1 : x ≤ 4294967295) : bits .and .u32 x 1 = x % 2 := by
  obtain ⟨a, rfl⟩ := Int.eq_ofNat_of_zero_le h0
  have key : ((BitVec.ofInt 32 (a : Int)) &&& (BitVec.ofInt 32 1)).toNat = a % 2 := by
    rw [BitVec.toNat_and, BitVec.ofInt_natCast, BitVec.toNat_ofNat, Nat.mod_eq_of_lt (by omega), show (BitVec.ofInt 32 1).toNat = 1 from rfl, Nat.and_one_is_mod]
  show IntKind.u32.wrap (((BitVec.ofInt 32 (a : Int)) &&& (BitVec.ofInt 32 1)).toNat) = _
  rw [key, wrap_u32]
  omega
theorem cell_C {w : World} {A : Option Addr} {n : Nat} {xs : List Int} (h : Kd.C (Kd.int .u8) w A n xs) {i : Nat} (hi : i < n) : ∃ ad, A = some ad ∧ w.cell? (ad.add i) = some (.int .u8 (xs.getD i 0)) := by
  obtain ⟨ad, c, e, _, hK, hc⟩ := Kd.C_get h (0 : Int) (i : Int) (by omega) (by omega)
  have hK' : c = [Value.int .u8 (xs.getD ((i : Int)).toNat 0)] := hK
  subst hK'
  have h1 := hc 0 _ rfl
  rw [Int.toNat_natCast] at h1
  have h2 : w.cell? (ad.add (i * 1 + 0)) = some (.int .u8 (xs.getD i 0)) := h1
  rw [Nat.mul_one, Nat.add_zero] at h2
  exact ⟨ad, e, h2⟩
theorem getD_mem {xs : List Int} {i : Nat} (h : i < xs.length) : xs.getD i 0 ∈ xs := by
  rw [List.getD_eq_getElem?_getD, List.getElem?_eq_getElem h]
  exact List.getElem_mem h
/-- A raw bit of those that were read at once. -/
theorem raw_bit (B : List Int) (r : Nat) : ∀ (n k : Nat), k < n → Rd.raw B r n / 2 ^ k % 2 = Rd.bit B (r + k)
  | 0, k, h => by omega
  | n + 1, k, h => by
    have hin := Rd.raw_in B r n
    have hb := Rd.bit_in B (r + n)
    have hp : (0 : Int) < 2 ^ k := Int.pow_pos (by decide)
    rw [Rd.raw]
    rcases (by omega : k = n ∨ k < n) with rfl | h2
    · rw [Int.add_mul_ediv_right _ _ (by omega), Int.ediv_eq_zero_of_lt hin.1 hin.2]
      omega
    · have e : (2 : Int) ^ n = 2 ^ (n - k - 1) * 2 * 2 ^ k := by rw [← Int.pow_succ, ← Int.pow_add]; congr 1; omega
      rw [e, ← Int.mul_assoc, ← Int.mul_assoc, Int.add_mul_ediv_right _ _ (by omega)]
      have := raw_bit B r n k h2
      omega
set_option maxHeartbeats 4000000 in
set_option maxRecDepth 100000 in
theorem raws_at (B cs : List Int) (m nc : Nat) (l : List S28) (n : Nat) (hm : B.length = m) (hB : Bytes B) (hl : m ≤ 300) (hcs : cs.length = nc) (hcB : Bytes cs) (hnc : nc ≤ 200) (hn : l.length = n) (hn2 : n ≤ 200)
    (A0 : Option Addr) (c0 : Nat) (A1 : Option Addr) (c1 : Nat) (A2 : Option Addr) (c2 : Nat) (w : World) (hC : Kd.C (Kd.int .u8) w A0 m B) (hc : m ≤ c0) (hC1 : Kd.C (Kd.int .u8) w A1 nc cs) (hD : Kd.C k28 w A2 n l) :
    Calls Try.prog 4 #[.slice A0 m c0, .slice A1 nc c1, .slice A2 n c2] w fun e w' => e = .returned (.bool true) ∧ Below w.heap.size w w' := by
  have HB := Aside0.mk (Below.refl w.heap.size w)
  have HM := Aside0.mk hm
  have HBy := Aside0.mk hB
  have HCY := Aside0.mk hcB
  have HC := Aside0.mk hC
  have HC1 := Aside0.mk hC1
  have HD := Aside0.mk hD
  have HN := Aside0.mk hn
  have HNC := Aside0.mk hcs
  clear hm hB hC hD hn hC1 hcB hcs
  have hd1 : decide ((300 : Int) < (m : Int)) = false := decide_eq_false (by omega)
  have hd2 : decide ((200 : Int) < (nc : Int)) = false := decide_eq_false (by omega)
  have hd3 : decide ((200 : Int) < (n : Int)) = false := decide_eq_false (by omega)
  go_enter Try.func4, Try.ntmps4
  go_wp2_with (first
    | (go_at_call 8; (with_reducible refine (awake_any _).mono ?_); rintro e wa ⟨rfl, hb⟩; have HB1 := Aside0.mk (below_step HB.out hb); clear HB hb; have HB := HB1; clear HB1)
    | (go_at_call 9; (with_reducible refine (rd_new B m HM.out HBy.out (by omega) A0 c0 _ (Kd.C_below HC.out HB.out) hc).mono ?_); rintro e wx ⟨g, rfl, hI, hg, hb⟩; have HI := Aside0.mk hI; have HG := Aside0.mk (Nat.le_trans HB.out.size hg); have HB1 := Aside0.mk (below_step HB.out hb); clear HB hb hI hg; have HB := HB1; clear HB1))
  go_loopw [36, 8] (fun i a wr => ∃ (k : Nat) (s : St), k ≤ nc ∧ i = .int .i64 k ∧ a = .int .i64 s.r ∧ Aside0 (RdAt wr g B s) ∧ Aside0 (Below w.heap.size w wr) ∧ Aside0 (Rd.Good s ∧ s.t ≤ 3 + 2 * k ∧ s.r ≤ 16 * k)) (fun i _ _ => (nc - intOf i).toNat)
  case atStart => exact ⟨0, Rd.new B, by omega, rfl, rfl, HI, HB, ⟨Rd.new_good HBy.out, by simp [Rd.new], by simp [Rd.new]⟩⟩
  case round =>
    obtain ⟨k, s, hk, rfl, rfl, HI2, HB2, HS⟩ := hrel
    clear HI HB
    have HI := HI2
    have HB := HB2
    clear HI2 HB2
    by_cases ht : k < nc
    · obtain ⟨ad1, hA1, hcc⟩ := cell_C (Kd.C_below HC1.out HB.out) ht
      have hcB2 := HCY.out (cs.getD k 0) (getD_mem (by rw [HNC.out]; exact ht))
      obtain ⟨x, hx⟩ : ∃ x, cs.getD k 0 = x := ⟨_, rfl⟩
      rw [hx] at hcc hcB2
      clear hx
      subst hA1
      have HX := Aside0.mk hcB2
      clear hcB2
      have HX0 := HX.out.1
      have f1 : IntKind.i64.wrap x = x := IntWalk.i64_in _ (by have := HX.out; omega)
      have f2 : Int.tmod x 17 = x % 17 := Int.tmod_eq_emod_of_nonneg HX0
      by_cases hkn : k < n
      · obtain ⟨ad2, hA2, hc0, hc1, hc2, hc3⟩ := at_T28 (Kd.C_below HD.out HB.out) (k : Int) (by omega) (by omega)
        rw [Int.toNat_natCast] at hc0 hc1 hc2 hc3
        obtain ⟨⟨K, F, T, N⟩, ho⟩ : ∃ o, rd_T28 l k = o := ⟨_, rfl⟩
        rw [ho] at hc0 hc1 hc2 hc3
        simp only at hc0 hc1 hc2 hc3
        clear ho hc0 hc1 hc2
        have HNE2 : Aside0 ((⟨(ad2.add (k * 4)).block, (ad2.add (k * 4)).off + 3, none⟩ : Addr).block ≠ g) := ⟨by
          obtain ⟨ad2', hA2', hq0, _⟩ := at_T28 HD.out (k : Int) (by omega) (by omega)
          rw [hA2] at hA2'
          injection hA2' with hA2'
          have h := World.block_lt_of_cell? w _ hq0
          rw [Int.toNat_natCast, ← hA2'] at h
          exact Nat.ne_of_lt (Nat.lt_of_lt_of_le h HG.out)⟩
        subst hA2
        obtain ⟨Q, hQ⟩ : ∃ Q, Rd.get s N = Q := ⟨_, rfl⟩
        obtain ⟨s1, hs1⟩ : ∃ s', Rd.take B s Q (wrap64 (Q + 1)) N = s' := ⟨_, rfl⟩
        have HS1 : Aside0 (Rd.Good s1 ∧ s1.t ≤ 3 + 2 * (k + 1) ∧ s1.r ≤ 16 * k) := ⟨by
          rw [← hs1]
          refine ⟨Rd.take_good HBy.out HS.out.1 _ _ _, ?_, by rw [Rd.take_r]; exact HS.out.2.2⟩
          have := (Rd.take_t B s Q (wrap64 (Q + 1)) N).2
          have := HS.out.2.1
          omega⟩
        have hst : s.t ≤ 9990 := by have := HS.out.2.1; omega
        have hrr : s.r = s1.r := by rw [← hs1, Rd.take_r]
        have CG : Aside0 (∀ w, RdAt w g B s → Calls Try.prog 10 #[.pointer (some ⟨g, 0, none⟩), .int .i64 N] w fun e w' => e = .returned (.int .i64 Q) ∧ RdAt w' g B s ∧ Below g w w' ∧ KeepBut w w' g none) := ⟨fun w h => hQ ▸ rd_get HS.out.1 N h⟩
        have CT : Aside0 (∀ w, RdAt w g B s → Calls Try.prog 11 #[.pointer (some ⟨g, 0, none⟩), .int .i64 Q, .int .i64 (wrap64 (Q + 1)), .int .i64 N] w fun e w' => e = .returned (.tuple #[]) ∧ RdAt w' g B s1 ∧ Below g w w' ∧ KeepBut w w' g none) := ⟨fun w h => hs1 ▸ rd_take HBy.out (by rw [HM.out]; omega) HS.out.1 hst _ _ _ h⟩
        clear hQ hs1 hst
        rw [hrr]
        clear hrr
        obtain ⟨R, hR⟩ : ∃ R, Rd.raw B s1.r (Rd.cl (x % 17)) = R := ⟨_, rfl⟩
        obtain ⟨n1, hn1⟩ : ∃ n1 : Nat, x % 17 = n1 := Int.eq_ofNat_of_zero_le (by omega)
        have hcl : Rd.cl (x % 17) = n1 := by rw [hn1]; unfold Rd.cl; omega
        have CW : Aside0 (∀ w, RdAt w g B s1 → Calls Try.prog 14 #[.pointer (some ⟨g, 0, none⟩), .int .i64 n1] w fun e w' => e = .returned (.int .u32 R) ∧ RdAt w' g B (rawn s1 n1) ∧ Below g w w' ∧ KeepBut w w' g none) := ⟨fun w h => hR ▸ hn1 ▸ rd_raw HBy.out (by rw [HM.out]; omega) (by have := HS1.out.2.2; omega) _ h⟩
        have HRB : Aside0 (∀ j, j < n1 → R / 2 ^ j % 2 = Rd.bit B (s1.r + j)) := ⟨fun j hj => by rw [← hR, hcl]; exact raw_bit B s1.r n1 j hj⟩
        have HRI : Aside0 (0 ≤ R ∧ R < 2 ^ n1) := ⟨by rw [← hR, hcl]; exact Rd.raw_in B s1.r n1⟩
        have hn16 : n1 ≤ 16 := by omega
        have HS2 : Aside0 (Rd.Good (rawn s1 n1) ∧ (rawn s1 n1).t ≤ 3 + 2 * (k + 1) ∧ (rawn s1 n1).r ≤ 16 * (k + 1) ∧ (rawn s1 n1).r = s1.r + n1) := ⟨by
          have hcl2 : Rd.cl (n1 : Int) = n1 := by unfold Rd.cl; omega
          have h := HS1.out
          refine ⟨⟨h.1.g0, h.1.g1, h.1.v0, h.1.v1⟩, h.2.1, ?_, ?_⟩ <;> simp only [rawn, hcl2] <;> omega⟩
        have f3 : R / 2 ^ n1 = 0 := Int.ediv_eq_zero_of_lt HRI.out.1 HRI.out.2
        obtain ⟨s2, hs2⟩ : ∃ s2, rawn s1 n1 = s2 := ⟨_, rfl⟩
        rw [hs2] at CW HS2
        rw [hn1] at f2
        clear hR hcl hn1 hs2
        go_wp2_with (first
          | (go_at_call 10; (with_reducible refine (CG.out _ HI.out).mono ?_); rintro e w1 ⟨rfl, hI, hb, hk2⟩; have hc3 := keep_cell hk2 hc3 HNE2.out; have m0 := Aside0.mk hI; have m1 := Aside0.mk (below_keep HB.out hb HG.out); clear HI HB hI hb hk2; have HI := m0; have HB := m1; clear m0 m1)
          | (go_at_call 11; (with_reducible refine (CT.out _ HI.out).mono ?_); rintro e w1 ⟨rfl, hI, hb, hk2⟩; have m0 := Aside0.mk hI; have m1 := Aside0.mk (below_keep HB.out hb HG.out); clear HI HB hI hb hk2; have HI := m0; have HB := m1; clear m0 m1)
          | (go_at_call 14; (with_reducible refine (CW.out _ HI.out).mono ?_); rintro e w1 ⟨rfl, hI, hb, hk2⟩; have m0 := Aside0.mk hI; have m1 := Aside0.mk (below_keep HB.out hb HG.out); clear HI HB hI hb hk2; have HI := m0; have HB := m1; clear m0 m1))
        go_loopw [14, 8] (fun jv rv wq => ∃ (j r1 : Nat), j ≤ n1 ∧ jv = .int .i64 j ∧ rv = .int .i64 r1 ∧ Aside0 (r1 = s1.r + j) ∧ Aside0 (wq = w1)) (fun jv _ _ => (n1 - intOf jv).toNat)
        case atStart => exact ⟨0, s1.r, by omega, rfl, rfl, ⟨rfl⟩, ⟨rfl⟩⟩
        case round =>
          obtain ⟨j, r1, hj, rfl, rfl, HR1, HQ⟩ := hrel
          have hwq := HQ.out
          subst hwq
          clear HQ
          by_cases hjn : j < n1
          · have HBT := HRB.out j hjn
            rw [← HR1.out] at HBT
            have hrl : r1 ≤ 4000 := by have := HR1.out; have := HS1.out.2.2; omega
            have hrb : r1 ≤ 16 * k + 16 := by have := HR1.out; have := HS1.out.2.2; omega
            obtain ⟨p, hp⟩ : ∃ p, r1 / 8 = p := ⟨_, rfl⟩
            obtain ⟨q8, hq8⟩ : ∃ q8, r1 % 8 = q8 := ⟨_, rfl⟩
            have hq8' : q8 < 8 := by omega
            have hp' : p ≤ 1000 := by omega
            have hR0 : 0 ≤ R / 2 ^ j := Int.ediv_nonneg HRI.out.1 (Int.le_of_lt (Int.pow_pos (by decide)))
            have hR1 : R / 2 ^ j ≤ 65536 := Int.le_trans (Int.ediv_le_self _ HRI.out.1) (Int.le_trans (Int.le_of_lt HRI.out.2) (pow_16 hn16))
            have g2 : Int.tdiv (r1 : Int) 8 = (p : Int) := by rw [tdiv8, hp]
            have g5 : Int.tmod (r1 : Int) 8 = (q8 : Int) := by rw [tmod8, hq8]
            have g7 : bits .and .u32 (R / 2 ^ j) 1 = Rd.bit B r1 := by rw [and_one32 hR0 (by omega), HBT]
            have hbi := Rd.bit_in B r1
            have g8 : IntKind.u8.wrap (Rd.bit B r1) = Rd.bit B r1 := by rw [wrap_u8]; omega
            have HBD : Aside0 (Rd.bit B r1 = if p < m then by_ B (m - 1 - p) / 2 ^ q8 % 2 else 0) := ⟨by unfold Rd.bit; rw [HM.out, hp, hq8]⟩
            obtain ⟨b, hb⟩ : ∃ b, Rd.bit B r1 = b := ⟨_, rfl⟩
            rw [hb] at g7 g8 HBD hbi
            clear HBT hb hR0 hR1 hrb hp hq8 hbi
            by_cases hat : p < m
            · obtain ⟨ad0, hA0, hcb⟩ := cell_C (Kd.C_below HC.out HB.out) (i := m - 1 - p) (by omega)
              have hy := Rd.by_in HBy.out (m - 1 - p)
              obtain ⟨y, hy'⟩ : ∃ y, by_ B (m - 1 - p) = y := ⟨_, rfl⟩
              have hcb' := hcb
              rw [show B.getD (m - 1 - p) 0 = y from hy'] at hcb'
              rw [hy'] at hy
              have hbb : y / 2 ^ q8 % 2 = b := by rw [HBD.out, if_pos hat, hy']
              have hd0 : 0 ≤ y / 2 ^ q8 := Int.ediv_nonneg hy.1 (Int.le_of_lt (Int.pow_pos (by decide)))
              have hd1 : y / 2 ^ q8 ≤ y := Int.ediv_le_self _ hy.1
              have g6 : bits .and .u8 (y / 2 ^ q8) 1 = b := by rw [and_one' hd0 (by omega), hbb]
              have g11 : (0 : Int) ≤ (m : Int) - 1 - p := by omega
              have g12 : (m : Int) - 1 - p < m := by omega
              subst hA0
              clear hcb hy' hbb hd0 hd1 HBD
              go_wp2
              go_roundw
              case rel => exact ⟨j + 1, r1 + 1, by omega, by simp, by simp, ⟨by rw [HR1.out]; omega⟩, ⟨by trivial⟩⟩
              case measure => simp [intOf]; omega
            · have hb0 : b = 0 := by rw [HBD.out, if_neg hat]
              subst hb0
              have g4 : wrap64 ((m : Int) - 1 - p) = (m : Int) - 1 - p := by unfold wrap64; omega
              have g1 : wrap64 ((m : Int) - 1) = (m : Int) - 1 := by unfold wrap64; omega
              have g9 : ¬ (0 : Int) ≤ (m : Int) - 1 - p := by omega
              clear HBD
              go_wp2
              go_roundw
              case rel => exact ⟨j + 1, r1 + 1, by omega, by simp, by simp, ⟨by rw [HR1.out]; omega⟩, ⟨by trivial⟩⟩
              case measure => simp [intOf]; omega
          · have hr1 : r1 = s2.r := by rw [HS2.out.2.2.2, HR1.out]; omega
            subst hr1
            go_wp2
            go_roundw
            case rel => exact ⟨k + 1, s2, by omega, by simp, rfl, HI, HB, ⟨HS2.out.1, HS2.out.2.1, HS2.out.2.2.1⟩⟩
            case measure => simp [intOf]; omega

      · obtain ⟨s1, hs1⟩ : ∃ s1, s1 = s := ⟨_, rfl⟩
        have HI1 : Aside0 (RdAt wr g B s1) := ⟨hs1 ▸ HI.out⟩
        have HS1 : Aside0 (Rd.Good s1 ∧ s1.t ≤ 3 + 2 * (k + 1) ∧ s1.r ≤ 16 * k) := ⟨by rw [hs1]; have := HS.out; exact ⟨this.1, by omega, this.2.2⟩⟩
        rw [← hs1]
        clear hs1 HI HS
        have HI := HI1
        clear HI1
        obtain ⟨R, hR⟩ : ∃ R, Rd.raw B s1.r (Rd.cl (x % 17)) = R := ⟨_, rfl⟩
        obtain ⟨n1, hn1⟩ : ∃ n1 : Nat, x % 17 = n1 := Int.eq_ofNat_of_zero_le (by omega)
        have hcl : Rd.cl (x % 17) = n1 := by rw [hn1]; unfold Rd.cl; omega
        have CW : Aside0 (∀ w, RdAt w g B s1 → Calls Try.prog 14 #[.pointer (some ⟨g, 0, none⟩), .int .i64 n1] w fun e w' => e = .returned (.int .u32 R) ∧ RdAt w' g B (rawn s1 n1) ∧ Below g w w' ∧ KeepBut w w' g none) := ⟨fun w h => hR ▸ hn1 ▸ rd_raw HBy.out (by rw [HM.out]; omega) (by have := HS1.out.2.2; omega) _ h⟩
        have HRB : Aside0 (∀ j, j < n1 → R / 2 ^ j % 2 = Rd.bit B (s1.r + j)) := ⟨fun j hj => by rw [← hR, hcl]; exact raw_bit B s1.r n1 j hj⟩
        have HRI : Aside0 (0 ≤ R ∧ R < 2 ^ n1) := ⟨by rw [← hR, hcl]; exact Rd.raw_in B s1.r n1⟩
        have hn16 : n1 ≤ 16 := by omega
        have HS2 : Aside0 (Rd.Good (rawn s1 n1) ∧ (rawn s1 n1).t ≤ 3 + 2 * (k + 1) ∧ (rawn s1 n1).r ≤ 16 * (k + 1) ∧ (rawn s1 n1).r = s1.r + n1) := ⟨by
          have hcl2 : Rd.cl (n1 : Int) = n1 := by unfold Rd.cl; omega
          have h := HS1.out
          refine ⟨⟨h.1.g0, h.1.g1, h.1.v0, h.1.v1⟩, h.2.1, ?_, ?_⟩ <;> simp only [rawn, hcl2] <;> omega⟩
        have f3 : R / 2 ^ n1 = 0 := Int.ediv_eq_zero_of_lt HRI.out.1 HRI.out.2
        obtain ⟨s2, hs2⟩ : ∃ s2, rawn s1 n1 = s2 := ⟨_, rfl⟩
        rw [hs2] at CW HS2
        rw [hn1] at f2
        clear hR hcl hn1 hs2
        go_wp2_with (first
          | (go_at_call 14; (with_reducible refine (CW.out _ HI.out).mono ?_); rintro e w1 ⟨rfl, hI, hb, hk2⟩; have m0 := Aside0.mk hI; have m1 := Aside0.mk (below_keep HB.out hb HG.out); clear HI HB hI hb hk2; have HI := m0; have HB := m1; clear m0 m1))
        go_loopw [14, 8] (fun jv rv wq => ∃ (j r1 : Nat), j ≤ n1 ∧ jv = .int .i64 j ∧ rv = .int .i64 r1 ∧ Aside0 (r1 = s1.r + j) ∧ Aside0 (wq = w1)) (fun jv _ _ => (n1 - intOf jv).toNat)
        case atStart => exact ⟨0, s1.r, by omega, rfl, rfl, ⟨rfl⟩, ⟨rfl⟩⟩
        case round =>
          obtain ⟨j, r1, hj, rfl, rfl, HR1, HQ⟩ := hrel
          have hwq := HQ.out
          subst hwq
          clear HQ
          by_cases hjn : j < n1
          · have HBT := HRB.out j hjn
            rw [← HR1.out] at HBT
            have hrl : r1 ≤ 4000 := by have := HR1.out; have := HS1.out.2.2; omega
            have hrb : r1 ≤ 16 * k + 16 := by have := HR1.out; have := HS1.out.2.2; omega
            obtain ⟨p, hp⟩ : ∃ p, r1 / 8 = p := ⟨_, rfl⟩
            obtain ⟨q8, hq8⟩ : ∃ q8, r1 % 8 = q8 := ⟨_, rfl⟩
            have hq8' : q8 < 8 := by omega
            have hp' : p ≤ 1000 := by omega
            have hR0 : 0 ≤ R / 2 ^ j := Int.ediv_nonneg HRI.out.1 (Int.le_of_lt (Int.pow_pos (by decide)))
            have hR1 : R / 2 ^ j ≤ 65536 := Int.le_trans (Int.ediv_le_self _ HRI.out.1) (Int.le_trans (Int.le_of_lt HRI.out.2) (pow_16 hn16))
            have g2 : Int.tdiv (r1 : Int) 8 = (p : Int) := by rw [tdiv8, hp]
            have g5 : Int.tmod (r1 : Int) 8 = (q8 : Int) := by rw [tmod8, hq8]
            have g7 : bits .and .u32 (R / 2 ^ j) 1 = Rd.bit B r1 := by rw [and_one32 hR0 (by omega), HBT]
            have hbi := Rd.bit_in B r1
            have g8 : IntKind.u8.wrap (Rd.bit B r1) = Rd.bit B r1 := by rw [wrap_u8]; omega
            have HBD : Aside0 (Rd.bit B r1 = if p < m then by_ B (m - 1 - p) / 2 ^ q8 % 2 else 0) := ⟨by unfold Rd.bit; rw [HM.out, hp, hq8]⟩
            obtain ⟨b, hb⟩ : ∃ b, Rd.bit B r1 = b := ⟨_, rfl⟩
            rw [hb] at g7 g8 HBD hbi
            clear HBT hb hR0 hR1 hrb hp hq8 hbi
            by_cases hat : p < m
            · obtain ⟨ad0, hA0, hcb⟩ := cell_C (Kd.C_below HC.out HB.out) (i := m - 1 - p) (by omega)
              have hy := Rd.by_in HBy.out (m - 1 - p)
              obtain ⟨y, hy'⟩ : ∃ y, by_ B (m - 1 - p) = y := ⟨_, rfl⟩
              have hcb' := hcb
              rw [show B.getD (m - 1 - p) 0 = y from hy'] at hcb'
              rw [hy'] at hy
              have hbb : y / 2 ^ q8 % 2 = b := by rw [HBD.out, if_pos hat, hy']
              have hd0 : 0 ≤ y / 2 ^ q8 := Int.ediv_nonneg hy.1 (Int.le_of_lt (Int.pow_pos (by decide)))
              have hd1 : y / 2 ^ q8 ≤ y := Int.ediv_le_self _ hy.1
              have g6 : bits .and .u8 (y / 2 ^ q8) 1 = b := by rw [and_one' hd0 (by omega), hbb]
              have g11 : (0 : Int) ≤ (m : Int) - 1 - p := by omega
              have g12 : (m : Int) - 1 - p < m := by omega
              subst hA0
              clear hcb hy' hbb hd0 hd1 HBD
              go_wp2
              go_roundw
              case rel => exact ⟨j + 1, r1 + 1, by omega, by simp, by simp, ⟨by rw [HR1.out]; omega⟩, ⟨by trivial⟩⟩
              case measure => simp [intOf]; omega
            · have hb0 : b = 0 := by rw [HBD.out, if_neg hat]
              subst hb0
              have g4 : wrap64 ((m : Int) - 1 - p) = (m : Int) - 1 - p := by unfold wrap64; omega
              have g1 : wrap64 ((m : Int) - 1) = (m : Int) - 1 := by unfold wrap64; omega
              have g9 : ¬ (0 : Int) ≤ (m : Int) - 1 - p := by omega
              clear HBD
              go_wp2
              go_roundw
              case rel => exact ⟨j + 1, r1 + 1, by omega, by simp, by simp, ⟨by rw [HR1.out]; omega⟩, ⟨by trivial⟩⟩
              case measure => simp [intOf]; omega
          · have hr1 : r1 = s2.r := by rw [HS2.out.2.2.2, HR1.out]; omega
            subst hr1
            go_wp2
            go_roundw
            case rel => exact ⟨k + 1, s2, by omega, by simp, rfl, HI, HB, ⟨HS2.out.1, HS2.out.2.1, HS2.out.2.2.1⟩⟩
            case measure => simp [intOf]; omega

    · go_wp2
      go_ret
      exact ⟨rfl, HB.out⟩
set_option maxHeartbeats 4000000 in
set_option maxRecDepth 100000 in
theorem raws_long1 (A0 : Option Addr) (m c0 : Nat) (A1 : Option Addr) (n c1 : Nat) (A2 : Option Addr) (k c2 : Nat) (w : World) (hd1 : decide ((300 : Int) < (m : Int)) = true) :
    Calls Try.prog 4 #[.slice A0 m c0, .slice A1 n c1, .slice A2 k c2] w fun e w' => e = .returned (.bool true) ∧ Below w.heap.size w w' := by
  have HB := Aside0.mk (Below.refl w.heap.size w)
  go_enter Try.func4, Try.ntmps4
  go_wp2_with (first
    | (go_at_call 8; (with_reducible refine (awake_any _).mono ?_); rintro e wa ⟨rfl, hb⟩; have HB1 := Aside0.mk (below_step HB.out hb); clear HB hb; have HB := HB1; clear HB1))
  go_ret
  exact ⟨rfl, HB.out⟩
set_option maxHeartbeats 4000000 in
set_option maxRecDepth 100000 in
theorem raws_long2 (A0 : Option Addr) (m c0 : Nat) (A1 : Option Addr) (n c1 : Nat) (A2 : Option Addr) (k c2 : Nat) (w : World) (hd1 : decide ((300 : Int) < (m : Int)) = false) (hd2 : decide ((200 : Int) < (n : Int)) = true) :
    Calls Try.prog 4 #[.slice A0 m c0, .slice A1 n c1, .slice A2 k c2] w fun e w' => e = .returned (.bool true) ∧ Below w.heap.size w w' := by
  have HB := Aside0.mk (Below.refl w.heap.size w)
  go_enter Try.func4, Try.ntmps4
  go_wp2_with (first
    | (go_at_call 8; (with_reducible refine (awake_any _).mono ?_); rintro e wa ⟨rfl, hb⟩; have HB1 := Aside0.mk (below_step HB.out hb); clear HB hb; have HB := HB1; clear HB1))
  go_ret
  exact ⟨rfl, HB.out⟩
set_option maxHeartbeats 4000000 in
set_option maxRecDepth 100000 in
theorem raws_long3 (A0 : Option Addr) (m c0 : Nat) (A1 : Option Addr) (n c1 : Nat) (A2 : Option Addr) (k c2 : Nat) (w : World) (hd1 : decide ((300 : Int) < (m : Int)) = false) (hd2 : decide ((200 : Int) < (n : Int)) = false) (hd3 : decide ((200 : Int) < (k : Int)) = true) :
    Calls Try.prog 4 #[.slice A0 m c0, .slice A1 n c1, .slice A2 k c2] w fun e w' => e = .returned (.bool true) ∧ Below w.heap.size w w' := by
  have HB := Aside0.mk (Below.refl w.heap.size w)
  go_enter Try.func4, Try.ntmps4
  go_wp2_with (first
    | (go_at_call 8; (with_reducible refine (awake_any _).mono ?_); rintro e wa ⟨rfl, hb⟩; have HB1 := Aside0.mk (below_step HB.out hb); clear HB hb; have HB := HB1; clear HB1))
  go_ret
  exact ⟨rfl, HB.out⟩

theorem raws_row (a0 : Option Addr) (len0 cap0 : Nat) (z0 : List Int) (a1 : Option Addr) (len1 cap1 : Nat) (z1 : List Int) (a2 : Option Addr) (len2 cap2 : Nat) (z2 : List (List Int)) (w : World) (w0 : (a0 = none ∧ len0 = 0 ∧ cap0 = 0 ∧ z0 = []) ∨ ∃ x, a0 = some x ∧ len0 ≤ cap0 ∧ cap0 ≤ maxLen ∧ z0.length = cap0 ∧ (∀ i, i < z0.length → w.cell? (x.add i) = some (.int .u8 (z0.getD i 0))) ∧ ∀ n ∈ z0, (Lit.int .u8 n).wf = true) (w1 : (a1 = none ∧ len1 = 0 ∧ cap1 = 0 ∧ z1 = []) ∨ ∃ x, a1 = some x ∧ len1 ≤ cap1 ∧ cap1 ≤ maxLen ∧ z1.length = cap1 ∧ (∀ i, i < z1.length → w.cell? (x.add i) = some (.int .u8 (z1.getD i 0))) ∧ ∀ n ∈ z1, (Lit.int .u8 n).wf = true) (w2 : StructRows.Rows [.u8, .i64, .i64, .i64] w a2 len2 cap2 z2) :
    Calls Try.prog 4 #[.slice a0 len0 cap0, .slice a1 len1 cap1, .slice a2 len2 cap2] w fun e w' => e = .returned (.bool true) ∧ Below w.heap.size w w' := by
  obtain ⟨l0, rfl, hr0, hm0, hw0, hc0⟩ := ReadsInt.ofRowC w0
  obtain ⟨l1, rfl, hr1, hm1, hw1, hc1⟩ := ReadsInt.ofRowC w1
  have hB : Bytes l0 := fun x h => Math.wf_u8 (hw0 x h)
  have hB1 : Bytes l1 := fun x h => Math.wf_u8 (hw1 x h)
  obtain ⟨hD, _, _⟩ := ops28 w2
  by_cases hm : l0.length ≤ 300
  · by_cases hn1 : l1.length ≤ 200
    · by_cases hn : len2 ≤ 200
      · exact raws_at l0 l1 _ _ (z2.map to28) len2 rfl hB hm rfl hB1 hn1 hD.1 hn a0 cap0 a1 cap1 a2 cap2 w (Kd.C_of_reads (d := (0 : Int)) (h1 := fun _ => rfl) hr0) hc0 (Kd.C_of_reads (d := (0 : Int)) (h1 := fun _ => rfl) hr1) hD
      · exact raws_long3 _ _ _ _ _ _ _ _ _ _ (decide_eq_false (by omega)) (decide_eq_false (by omega)) (decide_eq_true (by omega))
    · exact raws_long2 _ _ _ _ _ _ _ _ _ _ (decide_eq_false (by omega)) (decide_eq_true (by omega))
  · exact raws_long1 _ _ _ _ _ _ _ _ _ _ (decide_eq_true (by omega))
end Go.Proofs.Ythccifjjmigklaa.RdLaw
