import Derived.Test.YtcobbiapgihefaaWrSep
import Derived.BigQuiet
namespace Go.Proofs.Ytcobbiapgihefaa.WrLaw
open Go.RowKit Go.Proofs.YtcobbiapgihefaaW.PrintWords Go.Proofs.YtcobbiapgihefaaW.PrintLast Go.Proofs.YtcobbiapgihefaaW.PrintMore
open Go.Proofs.Ytcobbiapgihefaa.Wr (St)
open Go.Proofs.Ytcobbiapgihefaa.WrWalk
open Go.Proofs.Ytcobbiapgihefaa.Pack (pk pb rb rb_out pb_raw pk_len pk_get bitsOf bitsOf_len)
set_option linter.unusedVariables false
set_option linter.unusedSimpArgs false
theorem sub_is {Z r x : Nat} (h : Z - r = x) (h1 : r ≤ Z) (h2 : Z ≤ 2000) : wrap64 ((Z : Int) - r) = x := by
  subst h
  rw [w64n (by omega) (by omega)]
  omega
theorem self_is {r : Nat} (h : r ≤ 2000) : wrap64 (r : Int) = r := w64n (by omega) (by omega)
set_option maxHeartbeats 4000000 in
set_option maxRecDepth 100000 in
theorem fits_long (sz mo : Int) (A1 : Option Addr) (n c1 : Nat) (w : World) (hd2 : decide ((200 : Int) < (n : Int)) = true) :
    Calls Try.prog 4 #[.int .u16 sz, .slice A1 n c1, .int .u8 mo] w fun e w' => e = .returned (.bool true) ∧ Below w.heap.size w w' := by
  have HB := Aside0.mk (Below.refl w.heap.size w)
  go_enter Try.func4, Try.ntmps4
  go_wp2_with (first
    | (go_at_call 7; (with_reducible refine (awake_any _).mono ?_); rintro e wa ⟨rfl, hb⟩; have HB1 := Aside0.mk (below_step HB.out hb); clear HB hb; have HB := HB1; clear HB1))
  go_ret
  exact ⟨rfl, HB.out⟩
theorem size2_is {z mo : Int} {Z : Nat} (hz : 0 ≤ z ∧ z < 65536) (hZ : 4 + z % 1000 = Z) : wrap64 (4 + (wrap64 z).tmod 1000) = Z := by
  rw [w64n (x := z) (by omega) (by omega), Int.tmod_eq_emod_of_nonneg hz.1, w64n (by omega) (by omega)]; exact hZ
set_option maxHeartbeats 8000000 in
set_option maxRecDepth 100000 in
theorem fits_at (z mo : Int) (Z Z2 : Nat) (hz : 0 ≤ z ∧ z < 65536) (hmo : 0 ≤ mo ∧ mo < 256) (hZ : 4 + z % 1000 = Z) (hZ2 : (Z : Int) + mo = Z2) (l : List S31) (n : Nat) (hn : l.length = n) (hn2 : n ≤ 200) (hop : ∀ o ∈ l, 0 ≤ o.f0 ∧ 0 ≤ o.f4 ∧ o.f4 < 4294967296) (A1 : Option Addr) (c1 : Nat) (w : World) (hD : Kd.C k31 w A1 n l) :
    Calls Try.prog 4 #[.int .u16 z, .slice A1 n c1, .int .u8 mo] w fun e w' => e = .returned (.bool true) ∧ Below w.heap.size w w' := by
  have HB := Aside0.mk (Below.refl w.heap.size w)
  have HD := Aside0.mk hD
  have HN := Aside0.mk hn
  have HOP := Aside0.mk hop
  have HZ : Aside0 (4 ≤ Z ∧ Z ≤ Z2 ∧ Z2 ≤ 1275) := ⟨by omega⟩
  have hd2 : decide ((200 : Int) < (n : Int)) = false := decide_eq_false (by omega)
  have hu := size2_is (mo := mo) hz hZ
  have hu2 : wrap64 ((Z : Int) + wrap64 mo) = Z2 := by rw [w64n (x := mo) (by omega) (by omega), w64n (by omega) (by omega)]; exact hZ2
  have CN : Aside0 (∀ w1, Calls Try.prog 8 #[.int .i64 Z] w1 fun e w' => ∃ g, e = .returned (.tuple #[.pointer (some ⟨g, 0, none⟩), .int .i64 0]) ∧ WrAt (fun k => w1.heap.size ≤ k) w' g Z Wr.new [] ∧ Below w1.heap.size w1 w') := ⟨fun w1 => new_wr2 Z (by have := HZ.out; omega) w1⟩
  have CN2 : Aside0 (∀ w1, Calls Try.prog 8 #[.int .i64 Z2] w1 fun e w' => ∃ g, e = .returned (.tuple #[.pointer (some ⟨g, 0, none⟩), .int .i64 0]) ∧ WrAt (fun k => w1.heap.size ≤ k) w' g Z2 Wr.new [] ∧ Below w1.heap.size w1 w') := ⟨fun w1 => new_wr2 Z2 (by have := HZ.out; omega) w1⟩
  clear hD hn hZ hz hop hmo hZ2
  go_enter Try.func4, Try.ntmps4
  go_wp2_with (first
    | (go_at_call 7; (with_reducible refine (awake_any _).mono ?_); rintro e wa ⟨rfl, hb⟩; have HB1 := Aside0.mk (below_step HB.out hb); clear HB hb; have HB := HB1; clear HB1)
    | (go_at_call 8; (with_reducible refine (CN.out _).mono ?_); rintro e wx ⟨g1, rfl, hI, hb⟩; have HX := Aside0.mk (And.intro hI hb); clear hb hI)
    | (go_at_call 8; (with_reducible refine (CN2.out _).mono ?_); rintro e wy ⟨g2, rfl, hI, hb⟩; have HS := Aside0.mk (FS.new HB.out HX.out.1 HX.out.2 hI hb); clear HB HX hb hI))
  go_loopw [13, 60] (fun ra i wr => ∃ (k : Nat) (s : St) (R : List Bool), k ≤ n ∧ i = .int .i64 k ∧ ra = .int .i64 (R.length : Nat) ∧ Aside0 (FS w g1 Z s R g2 Z2 s R none wr) ∧ Aside0 (Wr.Fair s 65537 ∧ s.m ≤ 2 * k ∧ R.length ≤ 16 * k)) (fun _ i _ => (n - intOf i).toNat)
  case atStart => exact ⟨0, Wr.new, [], by omega, rfl, rfl, HS, ⟨Wr.new_fair, Nat.zero_le _, Nat.zero_le _⟩⟩
  case round =>
    obtain ⟨k, s, R, hk, rfl, rfl, HS2, HF⟩ := hrel
    clear HS
    have HS := HS2
    clear HS2
    obtain ⟨rl, hrl⟩ : ∃ rl, R.length = rl := ⟨_, rfl⟩
    have HRL := Aside0.mk hrl
    have hrl2 : rl ≤ 3200 := by have := HF.out; omega
    rw [hrl]
    clear hrl
    by_cases ht : k < n
    · obtain ⟨ad, hA, hc0, hc1, hc2, hc3, hc4⟩ := at_T31 (Kd.C_below HD.out HS.out.hb) (k : Int) (by omega) (by omega)
      have hK0 : 0 ≤ (rd_T31 l k).f0 ∧ 0 ≤ (rd_T31 l k).f4 ∧ (rd_T31 l k).f4 < 4294967296 := HOP.out _ (by unfold rd_T31; rw [Int.toNat_natCast, List.getD_eq_getElem?_getD, List.getElem?_eq_getElem (by rw [HN.out]; exact ht)]; exact List.getElem_mem _)
      rw [Int.toNat_natCast] at hc0 hc1 hc2 hc3 hc4
      obtain ⟨⟨K, F, T, M, X⟩, ho⟩ : ∃ o, rd_T31 l k = o := ⟨_, rfl⟩
      rw [ho] at hc0 hc1 hc2 hc3 hc4 hK0
      simp only at hc0 hc1 hc2 hc3 hc4 hK0
      clear ho
      subst hA
      have hm3 : s.m ≤ 900 := by have := HF.out.2; omega
      have hR5 : R.length ≤ 40000 := by have := HF.out.2; omega
      by_cases h2 : K % 2 = 0
      · have hf : Int.tmod K 2 = 0 := by rw [Int.tmod_eq_emod_of_nonneg hK0.1]; exact h2
        obtain ⟨s', hs'⟩ : ∃ s', Wr.put s F T M = s' := ⟨_, rfl⟩
        obtain ⟨E, hE⟩ : ∃ E : Int, (if Rd.ok F T M then 0 else 1) = E := ⟨_, rfl⟩
        have HS' : Aside0 (Wr.Fair s' 65537 ∧ s'.m ≤ 2 * (k + 1) ∧ R.length ≤ 16 * (k + 1)) := ⟨by
          rw [← hs']
          have := Wr.put_m s F T M
          have := HF.out.2
          exact ⟨Wr.put_fair HF.out.1 _ _ _, by omega, by omega⟩⟩
        have C1 : Aside0 (∀ wz zb, FS w g1 Z s R g2 Z2 s R zb wz → Calls Try.prog 11 #[.pointer (some ⟨g1, 0, none⟩), .int .i64 F, .int .i64 T, .int .i64 M] wz fun e w' => e = .returned (.int .i64 E) ∧ FS w g1 Z s' R g2 Z2 s R zb w') := ⟨fun wz zb S => hs' ▸ hE ▸ S.put1 HF.out.1 hm3 F T M⟩
        have C2 : Aside0 (∀ wz zb, FS w g1 Z s' R g2 Z2 s R zb wz → Calls Try.prog 11 #[.pointer (some ⟨g2, 0, none⟩), .int .i64 F, .int .i64 T, .int .i64 M] wz fun e w' => e = .returned (.int .i64 E) ∧ FS w g1 Z s' R g2 Z2 s' R zb w') := ⟨fun wz zb S => hs' ▸ hE ▸ (hs'.symm ▸ S : FS w g1 Z (Wr.put s F T M) R g2 Z2 s R zb wz).put2 HF.out.1 hm3 F T M⟩
        clear hs' hE hK0 h2 hm3 hR5
        go_wp2_with (first
        | (go_at_call 11; (with_reducible refine (C1.out _ _ (HS.out.box _)).mono ?_); rintro e w1 ⟨rfl, hT⟩; have hh := (hT.hz _ rfl).2; have hv1 : w1.cell? ⟨wr.heap.size, 1, none⟩ = some (.int .i64 F) := (blk_cell hh 1).trans rfl; have hv2 : w1.cell? ⟨wr.heap.size, 2, none⟩ = some (.int .i64 T) := (blk_cell hh 2).trans rfl; have hv3 : w1.cell? ⟨wr.heap.size, 3, none⟩ = some (.int .i64 M) := (blk_cell hh 3).trans rfl; have hv4 : w1.cell? ⟨wr.heap.size, 4, none⟩ = some (.int .u32 X) := (blk_cell hh 4).trans rfl; have m0 := Aside0.mk hT; clear hh HS hT; have HS := m0; clear m0)
        | (go_at_call 11; (with_reducible refine (C2.out _ _ HS.out).mono ?_); rintro e w1 ⟨rfl, hT⟩; clear hv1 hv2 hv3 hv4; have hh := (hT.hz _ rfl).2; have hv1 : w1.cell? ⟨wr.heap.size, 1, none⟩ = some (.int .i64 F) := (blk_cell hh 1).trans rfl; have hv2 : w1.cell? ⟨wr.heap.size, 2, none⟩ = some (.int .i64 T) := (blk_cell hh 2).trans rfl; have hv3 : w1.cell? ⟨wr.heap.size, 3, none⟩ = some (.int .i64 M) := (blk_cell hh 3).trans rfl; have hv4 : w1.cell? ⟨wr.heap.size, 4, none⟩ = some (.int .u32 X) := (blk_cell hh 4).trans rfl; have m0 := Aside0.mk hT; clear hh HS hT; have HS := m0; clear m0))
        exact ⟨⟨k + 1, s', R, by omega, congrArg (Value.int .i64) (by omega), congrArg (Value.int .i64) (by have := HRL.out; omega), ⟨HS.out.unbox⟩, HS'⟩, by simp [intOf]; omega⟩
      · have hf : Int.tmod K 2 = 1 := by rw [Int.tmod_eq_emod_of_nonneg hK0.1]; omega
        obtain ⟨R', hR'⟩ : ∃ R', R ++ rawN X T = R' := ⟨_, rfl⟩
        have HS' : Aside0 (Wr.Fair s 65537 ∧ s.m ≤ 2 * (k + 1) ∧ R'.length ≤ 16 * (k + 1)) := ⟨by
          rw [← hR', List.length_append]
          have := rawN_len X T
          have := HF.out.2
          exact ⟨HF.out.1, by omega, by omega⟩⟩
        have C2 : Aside0 (∀ wz zb, FS w g1 Z s R g2 Z2 s R zb wz → Calls Try.prog 12 #[.pointer (some ⟨g2, 0, none⟩), .int .u32 X, .int .i64 T] wz fun e w' => e = .returned (.int .i64 (if Rw X T then 0 else 1)) ∧ FS w g1 Z s R g2 Z2 s R' zb w') := ⟨fun wz zb S => hR' ▸ S.raw2 X T hK0.2.1 hK0.2.2 (by omega)⟩
        have C1 : Aside0 (∀ wz zb, FS w g1 Z s R g2 Z2 s R' zb wz → Calls Try.prog 12 #[.pointer (some ⟨g1, 0, none⟩), .int .u32 X, .int .i64 T] wz fun e w' => e = .returned (.int .i64 (if Rw X T then 0 else 1)) ∧ FS w g1 Z s R' g2 Z2 s R' zb w') := ⟨fun wz zb S => by
          have h := S.raw1 X T hK0.2.1 hK0.2.2 (by omega)
          rw [hR'] at h
          exact h⟩
        by_cases hrw : Rw X T
        · simp only [if_pos hrw] at C1 C2
          have HRL' : Aside0 ((rl : Int) + T = (R'.length : Nat)) := ⟨by rw [← hR', List.length_append]; have := rawN_is hrw; have := HRL.out; omega⟩
          have hT0 : 0 ≤ T ∧ T ≤ 16 := ⟨hrw.1, hrw.2.1⟩
          clear hR' hK0 h2 hm3 hR5 hrw
          go_wp2_with (first
          | (go_at_call 12; (with_reducible refine (C2.out _ _ (HS.out.box _)).mono ?_); rintro e w1 ⟨rfl, hT⟩; have hh := (hT.hz _ rfl).2; have hv1 : w1.cell? ⟨wr.heap.size, 1, none⟩ = some (.int .i64 F) := (blk_cell hh 1).trans rfl; have hv2 : w1.cell? ⟨wr.heap.size, 2, none⟩ = some (.int .i64 T) := (blk_cell hh 2).trans rfl; have hv3 : w1.cell? ⟨wr.heap.size, 3, none⟩ = some (.int .i64 M) := (blk_cell hh 3).trans rfl; have hv4 : w1.cell? ⟨wr.heap.size, 4, none⟩ = some (.int .u32 X) := (blk_cell hh 4).trans rfl; have m0 := Aside0.mk hT; clear hh HS hT; have HS := m0; clear m0)
          | (go_at_call 12; (with_reducible refine (C1.out _ _ HS.out).mono ?_); rintro e w1 ⟨rfl, hT⟩; clear hv1 hv2 hv3 hv4; have hh := (hT.hz _ rfl).2; have hv1 : w1.cell? ⟨wr.heap.size, 1, none⟩ = some (.int .i64 F) := (blk_cell hh 1).trans rfl; have hv2 : w1.cell? ⟨wr.heap.size, 2, none⟩ = some (.int .i64 T) := (blk_cell hh 2).trans rfl; have hv3 : w1.cell? ⟨wr.heap.size, 3, none⟩ = some (.int .i64 M) := (blk_cell hh 3).trans rfl; have hv4 : w1.cell? ⟨wr.heap.size, 4, none⟩ = some (.int .u32 X) := (blk_cell hh 4).trans rfl; have m0 := Aside0.mk hT; clear hh HS hT; have HS := m0; clear m0))
          exact ⟨⟨k + 1, s, R', by omega, congrArg (Value.int .i64) (by omega), congrArg (Value.int .i64) (by have := HRL'.out; omega), ⟨HS.out.unbox⟩, HS'⟩, by simp [intOf]; omega⟩
        · simp only [if_neg hrw] at C1 C2
          have HRL' : Aside0 (rl = R'.length) := ⟨by rw [← hR', List.length_append]; unfold rawN; rw [if_neg hrw]; have := HRL.out; simp; omega⟩
          clear hR' hK0 h2 hm3 hR5 hrw
          go_wp2_with (first
          | (go_at_call 12; (with_reducible refine (C2.out _ _ (HS.out.box _)).mono ?_); rintro e w1 ⟨rfl, hT⟩; have hh := (hT.hz _ rfl).2; have hv1 : w1.cell? ⟨wr.heap.size, 1, none⟩ = some (.int .i64 F) := (blk_cell hh 1).trans rfl; have hv2 : w1.cell? ⟨wr.heap.size, 2, none⟩ = some (.int .i64 T) := (blk_cell hh 2).trans rfl; have hv3 : w1.cell? ⟨wr.heap.size, 3, none⟩ = some (.int .i64 M) := (blk_cell hh 3).trans rfl; have hv4 : w1.cell? ⟨wr.heap.size, 4, none⟩ = some (.int .u32 X) := (blk_cell hh 4).trans rfl; have m0 := Aside0.mk hT; clear hh HS hT; have HS := m0; clear m0)
          | (go_at_call 12; (with_reducible refine (C1.out _ _ HS.out).mono ?_); rintro e w1 ⟨rfl, hT⟩; clear hv1 hv2 hv3 hv4; have hh := (hT.hz _ rfl).2; have hv1 : w1.cell? ⟨wr.heap.size, 1, none⟩ = some (.int .i64 F) := (blk_cell hh 1).trans rfl; have hv2 : w1.cell? ⟨wr.heap.size, 2, none⟩ = some (.int .i64 T) := (blk_cell hh 2).trans rfl; have hv3 : w1.cell? ⟨wr.heap.size, 3, none⟩ = some (.int .i64 M) := (blk_cell hh 3).trans rfl; have hv4 : w1.cell? ⟨wr.heap.size, 4, none⟩ = some (.int .u32 X) := (blk_cell hh 4).trans rfl; have m0 := Aside0.mk hT; clear hh HS hT; have HS := m0; clear m0))
          exact ⟨⟨k + 1, s, R', by omega, congrArg (Value.int .i64) (by omega), congrArg (Value.int .i64) (by have := HRL'.out; omega), ⟨HS.out.unbox⟩, HS'⟩, by simp [intOf]; omega⟩
    · obtain ⟨o1, o2, hw1, hw2, _, _, _⟩ := Sep.ex HS.out
      have HB := Aside0.mk (Sep.hb HS.out)
      have hmm : s.m ≤ 10000 ∧ R.length ≤ 100000 := by have := HF.out; omega
      have hzz := HZ.out
      have C1 : Aside0 (∀ wz, Below wr.heap.size wr wz → WrAt o1 wz g1 Z s R) := ⟨fun wz h => WrB.below hw1 h⟩
      have C2 : Aside0 (∀ wz, Below wr.heap.size wr wz → WrAt o2 wz g2 Z2 s R) := ⟨fun wz h => WrB.below hw2 h⟩
      have HBr := Aside0.mk (Below.refl wr.heap.size wr)
      obtain ⟨L1, hL1⟩ : ∃ L1, 8 * ((Z : Int) - 3 - s.m) - R.length = L1 := ⟨_, rfl⟩
      obtain ⟨D, hD0⟩ : ∃ D : Int, (Z2 : Int) - Z = D := ⟨_, rfl⟩
      obtain ⟨D8, hD8⟩ : ∃ D8 : Int, 8 * D = D8 := ⟨_, rfl⟩
      obtain ⟨L2, hL20⟩ : ∃ L2 : Int, L1 + D8 = L2 := ⟨_, rfl⟩
      have hL2 : 8 * ((Z2 : Int) - 3 - s.m) - R.length = L2 := by omega
      have hL1b : -100000 ≤ L1 ∧ L1 ≤ 10200 := by have := HF.out; omega
      have e3 : wrap64 ((Z2 : Int) - Z) = D := by rw [w64n (by omega) (by omega)]; exact hD0
      have e4 : wrap64 (8 * D) = D8 := by rw [w64n (by omega) (by omega)]; exact hD8
      have e5 : wrap64 (L1 + D8) = L2 := by rw [w64n (by omega) (by omega)]; exact hL20
      clear hD0 hD8 hL20
      have CL1 : Aside0 (∀ wz, Below wr.heap.size wr wz → Calls Try.prog 9 #[.pointer (some ⟨g1, 0, none⟩)] wz fun e w' => e = .returned (.int .i64 L1) ∧ Below wz.heap.size wz w') := ⟨fun wz h => (left_at o1 g1 Z s.g _ _ R wz (C1.out wz h) (by omega) (by rw [Wr.dig_len]; exact hmm.1) hmm.2).mono (fun e w' hh => ⟨by rw [hh.1, Wr.dig_len, hL1], hh.2⟩)⟩
      have CL2 : Aside0 (∀ wz, Below wr.heap.size wr wz → Calls Try.prog 9 #[.pointer (some ⟨g2, 0, none⟩)] wz fun e w' => e = .returned (.int .i64 L2) ∧ Below wz.heap.size wz w') := ⟨fun wz h => (left_at o2 g2 Z2 s.g _ _ R wz (C2.out wz h) (by omega) (by rw [Wr.dig_len]; exact hmm.1) hmm.2).mono (fun e w' hh => ⟨by rw [hh.1, Wr.dig_len, hL2], hh.2⟩)⟩
      by_cases hfit : Fits Z s.m R.length
      · have hfit2 : Fits Z2 s.m R.length := by unfold Fits at *; omega
        obtain ⟨P1, hP1⟩ : ∃ P1, pk Z s.m s.V R = P1 := ⟨_, rfl⟩
        obtain ⟨P2, hP2⟩ : ∃ P2, pk Z2 s.m s.V R = P2 := ⟨_, rfl⟩
        have CD1 : Aside0 (∀ wz, Below wr.heap.size wr wz → Calls Try.prog 13 #[.pointer (some ⟨g1, 0, none⟩)] wz fun e w' => ∃ gb, e = .returned (.tuple #[.slice (some ⟨gb, 0, none⟩) Z Z, .int .i64 0]) ∧ Kd.R (Kd.int .u8) 5 w' 0 (fun k => wz.heap.size ≤ k) (.slice (some ⟨gb, 0, none⟩) Z Z) P1 ∧ Below wz.heap.size wz w') := ⟨fun wz h => hP1 ▸ done_yes o1 g1 Z s R wz (C1.out wz h) (by omega) hfit⟩
        have CD2 : Aside0 (∀ wz, Below wr.heap.size wr wz → Calls Try.prog 13 #[.pointer (some ⟨g2, 0, none⟩)] wz fun e w' => ∃ gb, e = .returned (.tuple #[.slice (some ⟨gb, 0, none⟩) Z2 Z2, .int .i64 0]) ∧ Kd.R (Kd.int .u8) 5 w' 0 (fun k => wz.heap.size ≤ k) (.slice (some ⟨gb, 0, none⟩) Z2 Z2) P2 ∧ Below wz.heap.size wz w') := ⟨fun wz h => hP2 ▸ done_yes o2 g2 Z2 s R wz (C2.out wz h) (by omega) hfit2⟩
        have hl0 : decide (0 ≤ L1) = true := decide_eq_true (by unfold Fits at hfit; omega)
        obtain ⟨r, hr⟩ : ∃ r, (R.length + 7) / 8 = r := ⟨_, rfl⟩
        have hrZ : r + 3 ≤ Z := by unfold Fits at hfit; omega
        have hri : ((rl : Int) + 7).tdiv 8 = (r : Int) := by rw [Int.tdiv_eq_ediv_of_nonneg (by omega)]; have := HRL.out; omega
        have HCF : Aside0 (P2.take (Z - r) = P1.take (Z - r) ∧ P2.drop (Z2 - r) = P1.drop (Z - r) ∧ P1.length = Z ∧ P2.length = Z2) := ⟨by rw [← hP1, ← hP2]; exact ⟨Pack.cut_front hfit (by omega) hr, Pack.cut_back hfit (by omega) hr, pk_len _ _ _ _, pk_len _ _ _ _⟩⟩
        obtain ⟨x, hx⟩ : ∃ x, Z - r = x := ⟨_, rfl⟩
        obtain ⟨x2, hx2⟩ : ∃ x, Z2 - r = x := ⟨_, rfl⟩
        have hxx : x ≤ Z ∧ x2 ≤ Z2 ∧ (x : Int) ≤ Z ∧ (x2 : Int) ≤ Z2 ∧ x ≤ Z2 ∧ (x : Int) ≤ Z2 := by omega
        have HX : Aside0 ((0 < r → x < Z ∧ ¬ Z = x ∧ x2 < Z2 ∧ ¬ Z2 = x2) ∧ (r = 0 → x = Z ∧ x2 = Z2)) := ⟨by omega⟩
        have hq : r ≤ Z ∧ Z ≤ 2000 ∧ r ≤ Z2 ∧ Z2 ≤ 2000 ∧ r ≤ 2000 := by omega
        have e6 : wrap64 (r : Int) = r := self_is hq.2.2.2.2
        have e1 : wrap64 ((Z : Int) - r) = x := sub_is hx hq.1 hq.2.1
        have e2 : wrap64 ((Z2 : Int) - r) = x2 := sub_is hx2 hq.2.2.1 hq.2.2.2.1
        obtain ⟨x3, x4, x5, x6, x7, x8⟩ := hxx
        rw [hx, hx2] at HCF
        clear hq hP1 hP2 hfit hfit2 hw1 hw2 hmm hL1 hL2 hr hx hx2 hzz hL1b
        go_wp2_with (first
        | (go_at_call 13; (with_reducible refine (CD1.out _ HBr.out).mono ?_); rintro e w1 ⟨gp, rfl, hR1, hb⟩; have HR1 := Aside0.mk hR1; have HB1 := Aside0.mk (hb.mono (Nat.le_refl _)); clear hR1 hb)
        | (go_at_call 13; (with_reducible refine (CD2.out _ HB1.out).mono ?_); rintro e w2 ⟨gq, rfl, hR2, hb⟩; have HR2 := Aside0.mk hR2; have HR1' := Aside0.mk (Kd.R_below HR1.out hb); have HB2 := Aside0.mk (below_step HB1.out hb); clear hR2 hb HR1)
        | (go_at_call 9; (with_reducible refine (CL1.out _ HB2.out).mono ?_); rintro e w3 ⟨rfl, hb⟩; have HB3 := Aside0.mk (below_step HB2.out hb); have HRA := Aside0.mk (Kd.R_below HR1'.out hb); have HRB := Aside0.mk (Kd.R_below HR2.out hb); clear hb HR1' HR2)
        | (go_at_call 9; (with_reducible refine (CL2.out _ HB3.out).mono ?_); rintro e w4 ⟨rfl, hb⟩; have HB4 := Aside0.mk (below_step HB3.out hb); have HRA' := Aside0.mk (Kd.R_below HRA.out hb); have HRB' := Aside0.mk (Kd.R_below HRB.out hb); clear hb HRA HRB)
        | (go_at_call 9; (with_reducible refine (CL1.out _ HB4.out).mono ?_); rintro e w5 ⟨rfl, hb⟩; have HB5 := Aside0.mk (below_step HB4.out hb); have HRA := Aside0.mk (Kd.R_below HRA'.out hb); have HRB := Aside0.mk (Kd.R_below HRB'.out hb); clear hb HRA' HRB'))
        try rw [e6]
        clear e3 e4 e5 e6 hu hu2 hri hl0 CL1 CL2 CD1 CD2 CN CN2
        obtain ⟨hcf1, hcf2, hcl1, hcl2⟩ := HCF.out
        have hRA : ∀ m : Nat, Kd.R (Kd.int .u8) 5 (w5.drewN m) 0 _ _ P1 := fun m => Kd.R_below HRA.out (pw_below_drewN (Below.refl _ _) m)
        have hRB : ∀ m : Nat, Kd.R (Kd.int .u8) 5 (w5.drewN m) 0 _ _ P2 := fun m => Kd.R_below HRB.out (pw_below_drewN (Below.refl _ _) m)
        obtain ⟨X1, hX1⟩ : ∃ X1, strOfNums (P1.take x) = X1 := ⟨_, rfl⟩
        have T1 := fun m => str_take (hRA m) x x3
        have T2 := fun m => str_take (hRB m) x x7
        simp only [hX1] at T1
        simp only [hcf1, hX1] at T2
        have U0 := fun m => str_nil (w5.drewN m)
        have hxr := HX.out
        rcases Nat.eq_zero_or_pos r with h0 | h0
        · obtain ⟨rfl, rfl⟩ := hxr.2 h0
          clear hcf1 hcf2 hcl1 hcl2 hRA hRB hX1 hxr HX HCF h0
          go_quiet (fail)
          go_wp2
          go_ret
          exact ⟨by simp, by repeat (first | exact below_step HB.out HB5.out | apply below_drew1 | apply pw_below_drewN)⟩
        · obtain ⟨hlt1, hne1, hlt2, hne2⟩ := hxr.1 h0
          obtain ⟨X2, hX2⟩ : ∃ X2, strOfNums (P1.drop x) = X2 := ⟨_, rfl⟩
          have T3 := fun m => str_drop (hRA m) x hlt1
          have T4 := fun m => str_drop (hRB m) x2 hlt2
          simp only [hX2] at T3
          simp only [hcf2, hX2] at T4
          clear hcf1 hcf2 hcl1 hcl2 hRA hRB hX1 hX2 hxr HX HCF h0 hlt1 hlt2 U0
          go_quiet (fail)
          go_wp2
          go_ret
          exact ⟨by simp, by repeat (first | exact below_step HB.out HB5.out | apply below_drew1 | apply pw_below_drewN)⟩
      · have CD1 : Aside0 (∀ wz, Below wr.heap.size wr wz → Calls Try.prog 13 #[.pointer (some ⟨g1, 0, none⟩)] wz fun e w' => e = .returned (.tuple #[.slice none 0 0, .int .i64 4]) ∧ Below wz.heap.size wz w') := ⟨fun wz h => done_not o1 g1 Z s R wz (C1.out wz h) (by omega) hmm.1 hmm.2 hfit⟩
        have CD2 : Aside0 (∀ wz, Below wr.heap.size wr wz → Calls Try.prog 13 #[.pointer (some ⟨g2, 0, none⟩)] wz fun e w' => ∃ v h, e = .returned (.tuple #[v, h]) ∧ Below wz.heap.size wz w') := ⟨fun wz h => by
          by_cases h2 : Fits Z2 s.m R.length
          · exact (done_yes o2 g2 Z2 s R wz (C2.out wz h) (by omega) h2).mono (fun e w' hh => by obtain ⟨gb, he, _, hb⟩ := hh; exact ⟨_, _, he, hb⟩)
          · exact (done_not o2 g2 Z2 s R wz (C2.out wz h) (by omega) hmm.1 hmm.2 h2).mono (fun e w' hh => ⟨_, _, hh.1, hh.2⟩)⟩
        have hl0 : decide (0 ≤ L1) = false := decide_eq_false (by unfold Fits at hfit; omega)
        clear hfit hw1 hw2 hmm hL1 hL2 hzz hL1b
        go_wp2_with (first
        | (go_at_call 13; (with_reducible refine (CD1.out _ HBr.out).mono ?_); rintro e w1 ⟨rfl, hb⟩; have HB1 := Aside0.mk (hb.mono (Nat.le_refl _)); clear hb)
        | (go_at_call 13; (with_reducible refine (CD2.out _ HB1.out).mono ?_); rintro e w2 ⟨v2, v3, rfl, hb⟩; have HB2 := Aside0.mk (below_step HB1.out hb); clear hb)
        | (go_at_call 9; (with_reducible refine (CL1.out _ HB2.out).mono ?_); rintro e w3 ⟨rfl, hb⟩; have HB3 := Aside0.mk (below_step HB2.out hb); clear hb)
        | (go_at_call 9; (with_reducible refine (CL2.out _ HB3.out).mono ?_); rintro e w4 ⟨rfl, hb⟩; have HB4 := Aside0.mk (below_step HB3.out hb); clear hb)
        | (go_at_call 9; (with_reducible refine (CL1.out _ HB4.out).mono ?_); rintro e w5 ⟨rfl, hb⟩; have HB5 := Aside0.mk (below_step HB4.out hb); clear hb))
        go_ret
        exact ⟨rfl, by repeat (first | exact below_step HB.out HB5.out | apply below_drew1 | apply pw_below_drewN)⟩
theorem fits_row (a0 : Int) (w0 : (Lit.int .u16 a0).wf = true) (a1 : Option Addr) (len1 cap1 : Nat) (z1 : List (List Int)) (a2 : Int) (w2 : (Lit.int .u8 a2).wf = true) (w : World) (w1 : StructRows.Rows [.u8, .i64, .i64, .i64, .u32] w a1 len1 cap1 z1) :
    Calls Try.prog 4 #[.int .u16 a0, .slice a1 len1 cap1, .int .u8 a2] w fun e w' => e = .returned (.bool true) ∧ Below w.heap.size w w' := by
  obtain ⟨hD, _, hop⟩ := ops31 w1
  have h0 := wf_u16 w0
  have h2 := Math.wf_u8 w2
  by_cases hn : len1 ≤ 200
  · exact fits_at a0 a2 (4 + a0 % 1000).toNat (4 + a0 % 1000 + a2).toNat h0 (by omega) (by omega) (by omega) (z1.map to31) len1 hD.1 hn (fun o ho => ⟨(Math.wf_u8 (hop o ho).1).1, wf_u32 (hop o ho).2.2.2.2⟩) a1 cap1 w hD
  · exact fits_long _ _ _ _ _ _ (decide_eq_true (by omega))
end Go.Proofs.Ytcobbiapgihefaa.WrLaw
