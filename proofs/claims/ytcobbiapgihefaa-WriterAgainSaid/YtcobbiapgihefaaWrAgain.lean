import Derived.Test.YtcobbiapgihefaaWrSep
import Derived.BigQuiet
namespace Go.Proofs.Ytcobbiapgihefaa.WrLaw
open Go.RowKit Go.Proofs.YtcobbiapgihefaaW.PrintWords Go.Proofs.YtcobbiapgihefaaW.PrintLast Go.Proofs.YtcobbiapgihefaaW.PrintMore
open Go.Proofs.Ytcobbiapgihefaa.Wr (St)
open Go.Proofs.Ytcobbiapgihefaa.WrWalk
open Go.Proofs.Ytcobbiapgihefaa.Pack (pk pb pk_len bitsOf bitsOf_len)
set_option linter.unusedVariables false
set_option linter.unusedSimpArgs false
theorem size3_is {z Z : Int} (hz : 0 ≤ z ∧ z < 65536) (hZ : 4 + z % 1272 = Z) : wrap64 (4 + (wrap64 z).tmod 1272) = Z := by
  rw [w64n (x := z) (by omega) (by omega), Int.tmod_eq_emod_of_nonneg hz.1, w64n (by omega) (by omega)]; exact hZ
set_option maxHeartbeats 4000000 in
set_option maxRecDepth 100000 in
theorem do_put (g : Nat) (K F T M X : Int) (w : World) (E : World → Prop) (hf : K.tmod 2 = 0)
    (hc : Aside0 (Calls Try.prog 11 #[.pointer (some ⟨g, 0, none⟩), .int .i64 F, .int .i64 T, .int .i64 M] (w.alloc (.cells #[.int .u8 K, .int .i64 F, .int .i64 T, .int .i64 M, .int .u32 X] 31)) fun e w' => (∃ v, e = .returned (.int .i64 v)) ∧ E w')) :
    Calls Try.prog 21 #[.pointer (some ⟨g, 0, none⟩), .agg #[.int .u8 K, .int .i64 F, .int .i64 T, .int .i64 M, .int .u32 X]] w fun e w' => e = .returned (.tuple #[]) ∧ E w' := by
  go_enter Try.func21, Try.ntmps21
  go_wp2_with (first
    | (go_at_call 11; (with_reducible refine hc.out.mono ?_); rintro e w1 ⟨⟨v, rfl⟩, hE⟩; have HE := Aside0.mk hE; clear hE))
  first | go_end0 | ((try simp only [Exit.inBlock, Exit.then]); refine bodyPost_ret (results_none rfl _ _ _) rfl ?_)
  exact ⟨rfl, HE.out⟩
set_option maxHeartbeats 4000000 in
set_option maxRecDepth 100000 in
theorem do_raw (g : Nat) (K F T M X : Int) (w : World) (E : World → Prop) (hf : K.tmod 2 = 1)
    (hc : Aside0 (Calls Try.prog 12 #[.pointer (some ⟨g, 0, none⟩), .int .u32 X, .int .i64 T] (w.alloc (.cells #[.int .u8 K, .int .i64 F, .int .i64 T, .int .i64 M, .int .u32 X] 31)) fun e w' => (∃ v, e = .returned (.int .i64 v)) ∧ E w')) :
    Calls Try.prog 21 #[.pointer (some ⟨g, 0, none⟩), .agg #[.int .u8 K, .int .i64 F, .int .i64 T, .int .i64 M, .int .u32 X]] w fun e w' => e = .returned (.tuple #[]) ∧ E w' := by
  go_enter Try.func21, Try.ntmps21
  go_wp2_with (first
    | (go_at_call 12; (with_reducible refine hc.out.mono ?_); rintro e w1 ⟨⟨v, rfl⟩, hE⟩; have HE := Aside0.mk hE; clear hE))
  first | go_end0 | ((try simp only [Exit.inBlock, Exit.then]); refine bodyPost_ret (results_none rfl _ _ _) rfl ?_)
  exact ⟨rfl, HE.out⟩
def stepS (s : St) (K F T M : Int) : St := if K % 2 = 0 then Wr.put s F T M else s
def stepR (R : List Bool) (K X T : Int) : List Bool := if K % 2 = 0 then R else R ++ rawN X T
theorem stepS_fair {s : St} (h : Wr.Fair s 65537) (K F T M : Int) : Wr.Fair (stepS s K F T M) 65537 ∧ (stepS s K F T M).m ≤ s.m + 2 := by
  unfold stepS
  split
  · exact ⟨Wr.put_fair h _ _ _, (Wr.put_m s F T M).2⟩
  · exact ⟨h, by omega⟩
theorem stepR_len (R : List Bool) (K X T : Int) : (stepR R K X T).length ≤ R.length + 16 := by
  unfold stepR
  split
  · omega
  · have := rawN_len X T; rw [List.length_append]; omega
section
variable {w0 w : World} {g1 g2 : Nat} {Z1 Z2 : Int} {s1 s2 : St} {R1 R2 : List Bool} {zb : Option (Nat × Obj)}
theorem FS.below {w' : World} (S : FS w0 g1 Z1 s1 R1 g2 Z2 s2 R2 zb w) (h : Below w.heap.size w w') : FS w0 g1 Z1 s1 R1 g2 Z2 s2 R2 zb w' := Sep.below (ow_wr g1 Z1 s1 R1) (ow_wr g2 Z2 s2 R2) S h
theorem FS.do1 (S : FS w0 g1 Z1 s1 R1 g2 Z2 s2 R2 zb w) (hs : Wr.Fair s1 65537) (hm : s1.m ≤ 900) (hR : R1.length ≤ 50000) (K F T M X : Int) (hK : 0 ≤ K) (h0 : 0 ≤ X) (h1 : X < 4294967296) : Calls Try.prog 21 #[.pointer (some ⟨g1, 0, none⟩), .agg #[.int .u8 K, .int .i64 F, .int .i64 T, .int .i64 M, .int .u32 X]] w fun e w' => e = .returned (.tuple #[]) ∧ FS w0 g1 Z1 (stepS s1 K F T M) (stepR R1 K X T) g2 Z2 s2 R2 zb w' := by
  unfold stepS stepR
  have S2 := S.below (below_alloc (Below.refl _ _) (.cells #[.int .u8 K, .int .i64 F, .int .i64 T, .int .i64 M, .int .u32 X] 31))
  by_cases h : K % 2 = 0
  · rw [if_pos h, if_pos h]
    exact do_put g1 K F T M X w _ (by rw [Int.tmod_eq_emod_of_nonneg hK]; exact h) ⟨(S2.put1 hs hm F T M).mono (fun e w' hh => ⟨⟨_, hh.1⟩, hh.2⟩)⟩
  · rw [if_neg h, if_neg h]
    exact do_raw g1 K F T M X w _ (by rw [Int.tmod_eq_emod_of_nonneg hK]; omega) ⟨(S2.raw1 X T h0 h1 hR).mono (fun e w' hh => ⟨⟨_, hh.1⟩, hh.2⟩)⟩
theorem FS.do2 (S : FS w0 g1 Z1 s1 R1 g2 Z2 s2 R2 zb w) (hs : Wr.Fair s2 65537) (hm : s2.m ≤ 900) (hR : R2.length ≤ 50000) (K F T M X : Int) (hK : 0 ≤ K) (h0 : 0 ≤ X) (h1 : X < 4294967296) : Calls Try.prog 21 #[.pointer (some ⟨g2, 0, none⟩), .agg #[.int .u8 K, .int .i64 F, .int .i64 T, .int .i64 M, .int .u32 X]] w fun e w' => e = .returned (.tuple #[]) ∧ FS w0 g1 Z1 s1 R1 g2 Z2 (stepS s2 K F T M) (stepR R2 K X T) zb w' := by
  unfold stepS stepR
  have S2 := S.below (below_alloc (Below.refl _ _) (.cells #[.int .u8 K, .int .i64 F, .int .i64 T, .int .i64 M, .int .u32 X] 31))
  by_cases h : K % 2 = 0
  · rw [if_pos h, if_pos h]
    exact do_put g2 K F T M X w _ (by rw [Int.tmod_eq_emod_of_nonneg hK]; exact h) ⟨(S2.put2 hs hm F T M).mono (fun e w' hh => ⟨⟨_, hh.1⟩, hh.2⟩)⟩
  · rw [if_neg h, if_neg h]
    exact do_raw g2 K F T M X w _ (by rw [Int.tmod_eq_emod_of_nonneg hK]; omega) ⟨(S2.raw2 X T h0 h1 hR).mono (fun e w' hh => ⟨⟨_, hh.1⟩, hh.2⟩)⟩
end
set_option maxHeartbeats 4000000 in
set_option maxRecDepth 100000 in
theorem again_long (sz mo : Int) (A1 : Option Addr) (n c1 : Nat) (w : World) (hd2 : decide ((200 : Int) < (n : Int)) = true) :
    Calls Try.prog 6 #[.int .u16 sz, .slice A1 n c1, .int .u8 mo] w fun e w' => e = .returned (.bool true) ∧ Below w.heap.size w w' := by
  have HB := Aside0.mk (Below.refl w.heap.size w)
  go_enter Try.func6, Try.ntmps6
  go_wp2_with (first
    | (go_at_call 7; (with_reducible refine (awake_any _).mono ?_); rintro e wa ⟨rfl, hb⟩; have HB1 := Aside0.mk (below_step HB.out hb); clear HB hb; have HB := HB1; clear HB1))
  go_ret
  exact ⟨rfl, HB.out⟩
set_option maxHeartbeats 8000000 in
set_option maxRecDepth 100000 in
theorem again_at (z at_ : Int) (Z : Nat) (hz : 0 ≤ z ∧ z < 65536) (hat : 0 ≤ at_ ∧ at_ < 256) (hZ : 4 + z % 1272 = Z) (l : List S31) (n : Nat) (hn : l.length = n) (hn2 : n ≤ 200) (hop : ∀ o ∈ l, 0 ≤ o.f0 ∧ 0 ≤ o.f4 ∧ o.f4 < 4294967296) (A1 : Option Addr) (c1 : Nat) (w : World) (hD : Kd.C k31 w A1 n l) :
    Calls Try.prog 6 #[.int .u16 z, .slice A1 n c1, .int .u8 at_] w fun e w' => e = .returned (.bool true) ∧ Below w.heap.size w w' := by
  have HB := Aside0.mk (Below.refl w.heap.size w)
  have HD := Aside0.mk hD
  have HN := Aside0.mk hn
  have HOP := Aside0.mk hop
  have HZ : Aside0 (4 ≤ Z ∧ Z ≤ 1275) := ⟨by omega⟩
  have hd2 : decide ((200 : Int) < (n : Int)) = false := decide_eq_false (by omega)
  have hu := size3_is hz hZ
  have CN : Aside0 (∀ w1, Calls Try.prog 8 #[.int .i64 Z] w1 fun e w' => ∃ g, e = .returned (.tuple #[.pointer (some ⟨g, 0, none⟩), .int .i64 0]) ∧ WrAt (fun k => w1.heap.size ≤ k) w' g Z Wr.new [] ∧ Below w1.heap.size w1 w') := ⟨fun w1 => new_wr2 Z (by have := HZ.out; omega) w1⟩
  clear hD hn hZ hz hop
  go_enter Try.func6, Try.ntmps6
  go_wp2_with (first
    | (go_at_call 7; (with_reducible refine (awake_any _).mono ?_); rintro e wa ⟨rfl, hb⟩; have HB1 := Aside0.mk (below_step HB.out hb); clear HB hb; have HB := HB1; clear HB1)
    | (go_at_call 8; (with_reducible refine (CN.out wa).mono ?_); rintro e wx ⟨g1, rfl, hI, hb⟩; have HX := Aside0.mk (And.intro hI hb); clear hb hI)
    | (go_at_call 8; (with_reducible refine (CN.out wx).mono ?_); rintro e wy ⟨g2, rfl, hI, hb⟩; have HS := Aside0.mk (FS.new HB.out HX.out.1 HX.out.2 hI hb); clear HB HX hb hI))
  obtain ⟨c7, hc7⟩ : ∃ c, wrap64 (1 + (wrap64 at_).tmod 7) = c := ⟨_, rfl⟩
  have hc7b : ¬ c7 = 0 := by rw [← hc7, w64n (x := at_) (by omega) (by omega), Int.tmod_eq_emod_of_nonneg hat.1, w64n (by omega) (by omega)]; omega
  clear hat
  go_loopw [57] (fun i wr => ∃ (k : Nat) (s : St) (R : List Bool), k ≤ n ∧ i = .int .i64 k ∧ Aside0 (FS w g1 Z s R g2 Z s R none wr) ∧ Aside0 (Wr.Fair s 65537 ∧ s.m ≤ 2 * k ∧ R.length ≤ 16 * k)) (fun i _ => (n - intOf i).toNat)
  case atStart => exact ⟨0, Wr.new, [], by omega, rfl, HS, ⟨Wr.new_fair, Nat.zero_le _, Nat.zero_le _⟩⟩
  case round =>
    obtain ⟨k, s, R, hk, rfl, HS2, HF⟩ := hrel
    clear HS
    have HS := HS2
    clear HS2
    by_cases ht : k < n
    · obtain ⟨ad, hA, hc0, hc1, hc2, hc3, hc4⟩ := at_T31 (Kd.C_below HD.out HS.out.hb) (k : Int) (by omega) (by omega)
      have hK0 : 0 ≤ (rd_T31 l k).f0 ∧ 0 ≤ (rd_T31 l k).f4 ∧ (rd_T31 l k).f4 < 4294967296 := HOP.out _ (by unfold rd_T31; rw [Int.toNat_natCast, List.getD_eq_getElem?_getD, List.getElem?_eq_getElem (by rw [HN.out]; exact ht)]; exact List.getElem_mem _)
      rw [Int.toNat_natCast] at hc0 hc1 hc2 hc3 hc4
      obtain ⟨⟨K, F, T, M, X⟩, ho⟩ : ∃ o, rd_T31 l k = o := ⟨_, rfl⟩
      rw [ho] at hc0 hc1 hc2 hc3 hc4 hK0
      simp only at hc0 hc1 hc2 hc3 hc4 hK0
      clear ho
      subst hA
      obtain ⟨s', hs'⟩ : ∃ s', stepS s K F T M = s' := ⟨_, rfl⟩
      obtain ⟨R', hR'⟩ : ∃ R', stepR R K X T = R' := ⟨_, rfl⟩
      have hm3 : s.m ≤ 900 := by have := HF.out.2; omega
      have hR5 : R.length ≤ 50000 := by have := HF.out.2; omega
      have HS' : Aside0 (Wr.Fair s' 65537 ∧ s'.m ≤ 2 * (k + 1) ∧ R'.length ≤ 16 * (k + 1)) := ⟨by
        rw [← hs', ← hR']
        have h1 := stepS_fair HF.out.1 K F T M
        have h2 := stepR_len R K X T
        have := HF.out.2
        exact ⟨h1.1, by omega, by omega⟩⟩
      have C1 : Aside0 (∀ wz zb, FS w g1 Z s R g2 Z s R zb wz → Calls Try.prog 21 #[.pointer (some ⟨g1, 0, none⟩), .agg #[.int .u8 K, .int .i64 F, .int .i64 T, .int .i64 M, .int .u32 X]] wz fun e w' => e = .returned (.tuple #[]) ∧ FS w g1 Z s' R' g2 Z s R zb w') := ⟨fun wz zb S => by have h := S.do1 HF.out.1 hm3 hR5 K F T M X hK0.1 hK0.2.1 hK0.2.2; rw [hs', hR'] at h; exact h⟩
      have C2 : Aside0 (∀ wz zb, FS w g1 Z s' R' g2 Z s R zb wz → Calls Try.prog 21 #[.pointer (some ⟨g2, 0, none⟩), .agg #[.int .u8 K, .int .i64 F, .int .i64 T, .int .i64 M, .int .u32 X]] wz fun e w' => e = .returned (.tuple #[]) ∧ FS w g1 Z s' R' g2 Z s' R' zb w') := ⟨fun wz zb S => by have h := S.do2 HF.out.1 hm3 hR5 K F T M X hK0.1 hK0.2.1 hK0.2.2; rw [hs', hR'] at h; exact h⟩
      have hmm : s'.m ≤ 900 ∧ R'.length ≤ 40000 := by have := HS'.out.2; omega
      clear hs' hR' hm3 hR5 hK0
      go_upto_region 16 with (first
        | (go_at_call 21; (with_reducible refine (C1.out _ _ (HS.out.box _)).mono ?_); rintro e w1 ⟨rfl, hT⟩; have hh := (hT.hz _ rfl).2; have hv0 : w1.cell? ⟨wr.heap.size, 0, none⟩ = some (.int .u8 K) := (blk_cell hh 0).trans rfl; have hv1 : w1.cell? ⟨wr.heap.size, 1, none⟩ = some (.int .i64 F) := (blk_cell hh 1).trans rfl; have hv2 : w1.cell? ⟨wr.heap.size, 2, none⟩ = some (.int .i64 T) := (blk_cell hh 2).trans rfl; have hv3 : w1.cell? ⟨wr.heap.size, 3, none⟩ = some (.int .i64 M) := (blk_cell hh 3).trans rfl; have hv4 : w1.cell? ⟨wr.heap.size, 4, none⟩ = some (.int .u32 X) := (blk_cell hh 4).trans rfl; have m0 := Aside0.mk hT; clear hh HS hT; have HS := m0; clear m0)
        | (go_at_call 21; (with_reducible refine (C2.out _ _ HS.out).mono ?_); rintro e w1 ⟨rfl, hT⟩; clear hv0 hv1 hv2 hv3 hv4; have hh := (hT.hz _ rfl).2; have hv0 : w1.cell? ⟨wr.heap.size, 0, none⟩ = some (.int .u8 K) := (blk_cell hh 0).trans rfl; have hv1 : w1.cell? ⟨wr.heap.size, 1, none⟩ = some (.int .i64 F) := (blk_cell hh 1).trans rfl; have hv2 : w1.cell? ⟨wr.heap.size, 2, none⟩ = some (.int .i64 T) := (blk_cell hh 2).trans rfl; have hv3 : w1.cell? ⟨wr.heap.size, 3, none⟩ = some (.int .i64 M) := (blk_cell hh 3).trans rfl; have hv4 : w1.cell? ⟨wr.heap.size, 4, none⟩ = some (.int .u32 X) := (blk_cell hh 4).trans rfl; have m0 := Aside0.mk hT; clear hh HS hT; have HS := m0; clear m0))
      clear hv0 hv1 hv2 hv3 hv4 C1 C2
      by_cases hmod : (k : Int) % c7 = 0
      · by_cases hfit : Fits Z s'.m R'.length
        · have CD : Aside0 (∀ wz, FS w g1 Z s' R' g2 Z s' R' none wz → Calls Try.prog 13 #[.pointer (some ⟨g1, 0, none⟩)] wz fun e w' => ∃ gb cur, e = .returned (.tuple #[.slice (some ⟨gb, 0, none⟩) Z Z, .int .i64 0]) ∧ cur.size = Z ∧ FS w g1 Z s' R' g2 Z s' R' (some (gb, .cells cur 5 (0, 0))) w') := ⟨fun wz S => by
            obtain ⟨o1, _, hw1, _⟩ := Sep.ex S
            refine (done_yes o1 g1 Z s' R' wz hw1 (by have := HZ.out; omega) hfit).mono ?_
            rintro e w' ⟨gb, he, hR, hb⟩
            have hR0 := hR.1 gb rfl
            obtain ⟨_, _, hown, _⟩ := hR
            rcases hown.2 with ⟨hv, hz0⟩ | ⟨g', cap, cur, hv, _, hh, h5, _, h7, _⟩
            · cases hv
            · injection hv with h8 h9 h10
              injection h8 with h8
              injection h8 with h8
              subst h8 h10
              exact ⟨gb, cur, he, by rw [h7]; simp [Kd.int, Kd.scalar], Sep.fresh (ow_wr g1 Z s' R') (ow_wr g2 Z s' R') S hb hR0 hh⟩⟩
          clear hfit
          go_wp2_with (first
            | (go_at_call 13; (with_reducible refine (CD.out _ (FS.unbox HS.out)).mono ?_); rintro e w1 ⟨gb, cur, rfl, hcur, hT⟩; have HCUR := Aside0.mk hcur; have m0 := Aside0.mk hT; clear HS hT hcur; have HS := m0; clear m0))
          clear CD
          go_loopw [84] (fun i wr2 => ∃ (j : Nat) (cur : Array Value), j ≤ Z ∧ i = .int .i64 j ∧ Aside0 (cur.size = Z) ∧ Aside0 (FS w g1 Z s' R' g2 Z s' R' (some (gb, .cells cur 5 (0, 0))) wr2)) (fun i _ => Z - (intOf i).toNat)
          case atStart => exact ⟨0, cur, by omega, rfl, HCUR, HS⟩
          case round =>
            obtain ⟨j, cur2, hj, rfl, HC2, HS2⟩ := hrel
            clear HS HCUR
            by_cases hjz : j < Z
            · have hblk := (HS2.out.hz _ rfl).2
              have hcj : wr.cell? ⟨gb, j, none⟩ = some (cur2[j]'(by rw [HC2.out]; exact hjz)) := by rw [blk_cell hblk j, Array.getElem?_eq_getElem (by rw [HC2.out]; exact hjz)]
              have hfj := blk_frozen hblk j
              have HBS := Aside0.mk (blk_set hblk j (.int .u8 7))
              obtain ⟨v, hv⟩ : ∃ v, (cur2[j]'(by rw [HC2.out]; exact hjz)) = v := ⟨_, rfl⟩
              rw [hv] at hcj
              have hjz' : (j : Int) < (Z : Int) := by omega
              have hz5 : Z ≤ 1275 := HZ.out.2
              clear hblk hv
              go_wp2
              exact ⟨⟨j + 1, cur2.setIfInBounds j (.int .u8 7), by omega, congrArg (Value.int .i64) (by omega), ⟨by rw [Array.size_setIfInBounds]; exact HC2.out⟩, ⟨Sep.store (ow_wr g1 Z s' R') (ow_wr g2 Z s' R') HS2.out HBS.out⟩⟩, by simp [intOf]; omega⟩
            · have hjz' : ¬ (j : Int) < (Z : Int) := by omega
              have HS := HS2
              clear HS2 hjz
              go_wp2
              exact ⟨⟨k + 1, s', R', by omega, congrArg (Value.int .i64) (by omega), ⟨Sep.unbox HS.out⟩, HS'⟩, by simp [intOf]; omega⟩
        · have CD : Aside0 (∀ wz, FS w g1 Z s' R' g2 Z s' R' none wz → Calls Try.prog 13 #[.pointer (some ⟨g1, 0, none⟩)] wz fun e w' => e = .returned (.tuple #[.slice none 0 0, .int .i64 4]) ∧ FS w g1 Z s' R' g2 Z s' R' none w') := ⟨fun wz S => by
            obtain ⟨o1, _, hw1, _⟩ := Sep.ex S
            exact (done_not o1 g1 Z s' R' wz hw1 (by have := HZ.out; omega) (by omega) (by omega) hfit).mono (fun e w' h => ⟨h.1, S.below h.2⟩)⟩
          clear hfit
          go_wp2_with (first
            | (go_at_call 13; (with_reducible refine (CD.out _ (FS.unbox HS.out)).mono ?_); rintro e w1 ⟨rfl, hT⟩; have m0 := Aside0.mk hT; clear HS hT; have HS := m0; clear m0))
          clear CD
          go_loopw [84] (fun i wr2 => i = .int .i64 0 ∧ Aside0 (FS w g1 Z s' R' g2 Z s' R' none wr2)) (fun i _ => 0)
          case atStart => exact ⟨rfl, HS⟩
          case round =>
            obtain ⟨rfl, HS2⟩ := hrel
            clear HS
            have HS := HS2
            clear HS2
            go_wp2
            exact ⟨⟨k + 1, s', R', by omega, congrArg (Value.int .i64) (by omega), ⟨Sep.unbox HS.out⟩, HS'⟩, by simp [intOf]; omega⟩
      · have hm' : ((k : Int) % c7 == 0) = false := by simp [hmod]
        clear hmod
        go_wp2
        exact ⟨⟨k + 1, s', R', by omega, congrArg (Value.int .i64) (by omega), ⟨Sep.unbox HS.out⟩, HS'⟩, by simp [intOf]; omega⟩
    · obtain ⟨o1, o2, hw1, hw2, _, _, _⟩ := Sep.ex HS.out
      have HB := Aside0.mk (Sep.hb HS.out)
      have hmm : s.m ≤ 10000 ∧ R.length ≤ 100000 := by have := HF.out; omega
      have hzz := HZ.out
      have C1 : Aside0 (∀ wz, Below wr.heap.size wr wz → WrAt o1 wz g1 Z s R) := ⟨fun wz h => WrB.below hw1 h⟩
      have C2 : Aside0 (∀ wz, Below wr.heap.size wr wz → WrAt o2 wz g2 Z s R) := ⟨fun wz h => WrB.below hw2 h⟩
      have HBr := Aside0.mk (Below.refl wr.heap.size wr)
      obtain ⟨L1, hL1⟩ : ∃ L1, 8 * ((Z : Int) - 3 - s.m) - R.length = L1 := ⟨_, rfl⟩
      have CL1 : Aside0 (∀ wz, Below wr.heap.size wr wz → Calls Try.prog 9 #[.pointer (some ⟨g1, 0, none⟩)] wz fun e w' => e = .returned (.int .i64 L1) ∧ Below wz.heap.size wz w') := ⟨fun wz h => (left_at o1 g1 Z s.g _ _ R wz (C1.out wz h) (by omega) (by rw [Wr.dig_len]; exact hmm.1) hmm.2).mono (fun e w' hh => ⟨by rw [hh.1, Wr.dig_len, hL1], hh.2⟩)⟩
      have CL2 : Aside0 (∀ wz, Below wr.heap.size wr wz → Calls Try.prog 9 #[.pointer (some ⟨g2, 0, none⟩)] wz fun e w' => e = .returned (.int .i64 L1) ∧ Below wz.heap.size wz w') := ⟨fun wz h => (left_at o2 g2 Z s.g _ _ R wz (C2.out wz h) (by omega) (by rw [Wr.dig_len]; exact hmm.1) hmm.2).mono (fun e w' hh => ⟨by rw [hh.1, Wr.dig_len, hL1], hh.2⟩)⟩
      obtain ⟨G, hG⟩ : ∃ G, s.g = G := ⟨_, rfl⟩
      have CR1 : Aside0 (∀ wz, Below wr.heap.size wr wz → Calls Try.prog 10 #[.pointer (some ⟨g1, 0, none⟩)] wz fun e w' => e = .returned (.int .u32 G) ∧ Below wz.heap.size wz w') := ⟨fun wz h => hG ▸ rng_at o1 g1 Z s.g _ _ R wz (C1.out wz h)⟩
      have CR2 : Aside0 (∀ wz, Below wr.heap.size wr wz → Calls Try.prog 10 #[.pointer (some ⟨g2, 0, none⟩)] wz fun e w' => e = .returned (.int .u32 G) ∧ Below wz.heap.size wz w') := ⟨fun wz h => hG ▸ rng_at o2 g2 Z s.g _ _ R wz (C2.out wz h)⟩
      by_cases hfit : Fits Z s.m R.length
      · obtain ⟨P1, hP1⟩ : ∃ P1, pk Z s.m s.V R = P1 := ⟨_, rfl⟩
        have CD1 : Aside0 (∀ wz, Below wr.heap.size wr wz → Calls Try.prog 13 #[.pointer (some ⟨g1, 0, none⟩)] wz fun e w' => ∃ gb, e = .returned (.tuple #[.slice (some ⟨gb, 0, none⟩) Z Z, .int .i64 0]) ∧ Kd.R (Kd.int .u8) 5 w' 0 (fun k => wz.heap.size ≤ k) (.slice (some ⟨gb, 0, none⟩) Z Z) P1 ∧ Below wz.heap.size wz w') := ⟨fun wz h => hP1 ▸ done_yes o1 g1 Z s R wz (C1.out wz h) (by omega) hfit⟩
        have CD2 : Aside0 (∀ wz, Below wr.heap.size wr wz → Calls Try.prog 13 #[.pointer (some ⟨g2, 0, none⟩)] wz fun e w' => ∃ gb, e = .returned (.tuple #[.slice (some ⟨gb, 0, none⟩) Z Z, .int .i64 0]) ∧ Kd.R (Kd.int .u8) 5 w' 0 (fun k => wz.heap.size ≤ k) (.slice (some ⟨gb, 0, none⟩) Z Z) P1 ∧ Below wz.heap.size wz w') := ⟨fun wz h => hP1 ▸ done_yes o2 g2 Z s R wz (C2.out wz h) (by omega) hfit⟩
        clear hP1 hfit hw1 hw2 hmm hL1 hG hzz
        go_wp2_with (first
        | (go_at_call 13; (with_reducible refine (CD1.out _ HBr.out).mono ?_); rintro e w1 ⟨gp, rfl, hR1, hb⟩; have HR1 := Aside0.mk hR1; have HB1 := Aside0.mk (hb.mono (Nat.le_refl _)); clear hR1 hb)
        | (go_at_call 13; (with_reducible refine (CD2.out _ HB1.out).mono ?_); rintro e w2 ⟨gq, rfl, hR2, hb⟩; have hS2 := own_string (P := Try.prog) (src := 37) (dst := 9) Try.underlying37 Try.underlying5 Try.underlying9 (Kd.own_of_R (enc := Value.int .u8) (h1 := fun _ => rfl) hR2); have hS1 := own_string (P := Try.prog) (src := 37) (dst := 9) Try.underlying37 Try.underlying5 Try.underlying9 (Kd.own_of_R (enc := Value.int .u8) (h1 := fun _ => rfl) (Kd.R_below HR1.out hb)); have HB2 := Aside0.mk (below_step HB1.out hb); clear hR2 hb HR1)
        | (go_at_call 9; (with_reducible refine (CL1.out _ HB2.out).mono ?_); rintro e w3 ⟨rfl, hb⟩; have HB3 := Aside0.mk (below_step HB2.out hb); clear hb)
        | (go_at_call 9; (with_reducible refine (CL2.out _ HB3.out).mono ?_); rintro e w4 ⟨rfl, hb⟩; have HB4 := Aside0.mk (below_step HB3.out hb); clear hb)
        | (go_at_call 10; (with_reducible refine (CR1.out _ HB4.out).mono ?_); rintro e w5 ⟨rfl, hb⟩; have HB5 := Aside0.mk (below_step HB4.out hb); clear hb)
        | (go_at_call 10; (with_reducible refine (CR2.out _ HB5.out).mono ?_); rintro e w6 ⟨rfl, hb⟩; have HB6 := Aside0.mk (below_step HB5.out hb); clear hb))
        go_ret
        exact ⟨rfl, by repeat (first | exact below_step HB.out HB6.out | apply below_drew1 | apply pw_below_drewN)⟩
      · have CD1 : Aside0 (∀ wz, Below wr.heap.size wr wz → Calls Try.prog 13 #[.pointer (some ⟨g1, 0, none⟩)] wz fun e w' => e = .returned (.tuple #[.slice none 0 0, .int .i64 4]) ∧ Below wz.heap.size wz w') := ⟨fun wz h => done_not o1 g1 Z s R wz (C1.out wz h) (by omega) hmm.1 hmm.2 hfit⟩
        have CD2 : Aside0 (∀ wz, Below wr.heap.size wr wz → Calls Try.prog 13 #[.pointer (some ⟨g2, 0, none⟩)] wz fun e w' => e = .returned (.tuple #[.slice none 0 0, .int .i64 4]) ∧ Below wz.heap.size wz w') := ⟨fun wz h => done_not o2 g2 Z s R wz (C2.out wz h) (by omega) hmm.1 hmm.2 hfit⟩
        clear hfit hw1 hw2 hmm hL1 hG hzz
        go_wp2_with (first
        | (go_at_call 13; (with_reducible refine (CD1.out _ HBr.out).mono ?_); rintro e w1 ⟨rfl, hb⟩; have HB1 := Aside0.mk (hb.mono (Nat.le_refl _)); clear hb)
        | (go_at_call 13; (with_reducible refine (CD2.out _ HB1.out).mono ?_); rintro e w2 ⟨rfl, hb⟩; have hS2 := str_nil w2 none 0; have HB2 := Aside0.mk (below_step HB1.out hb); clear hb)
        | (go_at_call 9; (with_reducible refine (CL1.out _ HB2.out).mono ?_); rintro e w3 ⟨rfl, hb⟩; have HB3 := Aside0.mk (below_step HB2.out hb); clear hb)
        | (go_at_call 9; (with_reducible refine (CL2.out _ HB3.out).mono ?_); rintro e w4 ⟨rfl, hb⟩; have HB4 := Aside0.mk (below_step HB3.out hb); clear hb)
        | (go_at_call 10; (with_reducible refine (CR1.out _ HB4.out).mono ?_); rintro e w5 ⟨rfl, hb⟩; have HB5 := Aside0.mk (below_step HB4.out hb); clear hb)
        | (go_at_call 10; (with_reducible refine (CR2.out _ HB5.out).mono ?_); rintro e w6 ⟨rfl, hb⟩; have HB6 := Aside0.mk (below_step HB5.out hb); clear hb))
        go_ret
        exact ⟨rfl, by repeat (first | exact below_step HB.out HB6.out | apply below_drew1 | apply pw_below_drewN)⟩
theorem again_row (a0 : Int) (w0 : (Lit.int .u16 a0).wf = true) (a1 : Option Addr) (len1 cap1 : Nat) (z1 : List (List Int)) (a2 : Int) (w2 : (Lit.int .u8 a2).wf = true) (w : World) (w1 : StructRows.Rows [.u8, .i64, .i64, .i64, .u32] w a1 len1 cap1 z1) :
    Calls Try.prog 6 #[.int .u16 a0, .slice a1 len1 cap1, .int .u8 a2] w fun e w' => e = .returned (.bool true) ∧ Below w.heap.size w w' := by
  obtain ⟨hD, _, hop⟩ := ops31 w1
  have h0 := wf_u16 w0
  have h2 := Math.wf_u8 w2
  by_cases hn : len1 ≤ 200
  · exact again_at a0 a2 (4 + a0 % 1272).toNat h0 (by omega) (by omega) (z1.map to31) len1 hD.1 hn (fun o ho => ⟨(Math.wf_u8 (hop o ho).1).1, wf_u32 (hop o ho).2.2.2.2⟩) a1 cap1 w hD
  · exact again_long _ _ _ _ _ _ (decide_eq_true (by omega))
end Go.Proofs.Ytcobbiapgihefaa.WrLaw
