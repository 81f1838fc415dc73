import Derived.Test.YtcobbiapgihefaaRfPack
import Derived.BigQuiet
namespace Go.Proofs.Ytcobbiapgihefaa.WrLaw
open Go.RowKit Go.Proofs.YtcobbiapgihefaaW.PrintWords Go.Proofs.YtcobbiapgihefaaW.PrintLast Go.Proofs.YtcobbiapgihefaaW.PrintMore
open Go.Proofs.Ytcobbiapgihefaa.Wr (St)
open Go.Proofs.Ytcobbiapgihefaa.WrWalk
open Go.Proofs.Ytcobbiapgihefaa.Rf (b2i)
open Go.Proofs.Ytcobbiapgihefaa.RfWalk (RfAt RfB)
open Go.Proofs.Ytcobbiapgihefaa.Pack (pk pk_in pk_len bitsOf bitsOf_len)
set_option linter.unusedVariables false
set_option linter.unusedSimpArgs false
theorem ow_rf (g : Nat) (sz : Int) (s : St) (R : List Bool) : Ow (fun ok w => RfAt ok w g sz s R) := ⟨fun h hk => RfB.mono h hk, fun h hf hd => RfB.foot h hf hd⟩
/-- The writer and the document's. -/
def FP (w0 : World) (g1 g2 : Nat) (Z : Int) (s1 : St) (R1 : List Bool) (s2 : St) (R2 : List Bool) (zb : Option (Nat × Obj)) (w : World) : Prop :=
  Sep w0 (fun ok w => WrAt ok w g1 Z s1 R1) (fun ok w => RfAt ok w g2 Z s2 R2) zb w
section
variable {w0 w w' : World} {g1 g2 : Nat} {Z : Int} {s1 s2 : St} {R1 R2 : List Bool} {zb : Option (Nat × Obj)}
theorem FP.below (S : FP w0 g1 g2 Z s1 R1 s2 R2 zb w) (h : Below w.heap.size w w') : FP w0 g1 g2 Z s1 R1 s2 R2 zb w' := Sep.below (ow_wr g1 Z s1 R1) (ow_rf g2 Z s2 R2) S h
theorem FP.box (S : FP w0 g1 g2 Z s1 R1 s2 R2 zb w) (o : Obj) : FP w0 g1 g2 Z s1 R1 s2 R2 (some (w.heap.size, o)) (w.alloc o) := Sep.box (ow_wr g1 Z s1 R1) (ow_rf g2 Z s2 R2) S o
theorem FP.unbox (S : FP w0 g1 g2 Z s1 R1 s2 R2 zb w) : FP w0 g1 g2 Z s1 R1 s2 R2 none w := Sep.unbox S
theorem FP.put (S : FP w0 g1 g2 Z s1 R1 s2 R2 zb w) (hs : Wr.Fair s1 65537) (hm : s1.m ≤ 900) (a b n : Int) : Calls Try.prog 11 #[.pointer (some ⟨g1, 0, none⟩), .int .i64 a, .int .i64 b, .int .i64 n] w fun e w' => e = .returned (.int .i64 (if Rd.ok a b n then 0 else 1)) ∧ FP w0 g1 g2 Z (Wr.put s1 a b n) R1 s2 R2 zb w' :=
  Sep.call1 S (ow_wr g1 Z s1 R1) (ow_wr g1 Z (Wr.put s1 a b n) R1) (ow_rf g2 Z s2 R2) (fun ok hfr H => put_any ok g1 Z a b n s1 R1 w hs hm hfr H)
theorem FP.raw (S : FP w0 g1 g2 Z s1 R1 s2 R2 zb w) (x n : Int) (h0 : 0 ≤ x) (h1 : x < 4294967296) (hR : R1.length ≤ 50000) : Calls Try.prog 12 #[.pointer (some ⟨g1, 0, none⟩), .int .u32 x, .int .i64 n] w fun e w' => e = .returned (.int .i64 (if Rw x n then 0 else 1)) ∧ FP w0 g1 g2 Z s1 (R1 ++ rawN x n) s2 R2 zb w' :=
  Sep.call1 S (ow_wr g1 Z s1 R1) (ow_wr g1 Z s1 (R1 ++ rawN x n)) (ow_rf g2 Z s2 R2) (fun ok hfr H => wr_raw H x n h0 h1 hR hfr)
theorem FP.rput (S : FP w0 g1 g2 Z s1 R1 s2 R2 zb w) (hs : Wr.Fair s2 65537) (hm : s2.m ≤ 900) {a b n : Int} (h : Rd.ok a b n) : Calls Try.prog 16 #[.pointer (some ⟨g2, 0, none⟩), .int .i64 a, .int .i64 b, .int .i64 n] w fun e w' => e = .returned (.tuple #[]) ∧ FP w0 g1 g2 Z s1 R1 (Wr.put s2 a b n) R2 zb w' :=
  Sep.call2 S (ow_wr g1 Z s1 R1) (ow_rf g2 Z s2 R2) (ow_rf g2 Z (Wr.put s2 a b n) R2) (fun ok hfr H => RfWalk.rput_any ok g2 Z a b n _ _ s2 R2 w h hs hm hfr H rfl rfl)
theorem FP.rraw (S : FP w0 g1 g2 Z s1 R1 s2 R2 zb w) (x n : Int) (h0 : 0 ≤ x) (h1 : x < 4294967296) (hR : R2.length ≤ 50000) (h : Rw x n) : Calls Try.prog 17 #[.pointer (some ⟨g2, 0, none⟩), .int .i64 x, .int .i64 n] w fun e w' => e = .returned (.tuple #[]) ∧ FP w0 g1 g2 Z s1 R1 s2 (R2 ++ rawN x n) zb w' := by
  obtain ⟨k, rfl⟩ := Int.eq_ofNat_of_zero_le h.1
  refine Sep.call2 S (ow_wr g1 Z s1 R1) (ow_rf g2 Z s2 R2) (ow_rf g2 Z s2 (R2 ++ rawN x k)) (fun ok hfr H => (RfWalk.rraw_any ok g2 k Z s2.g x _ (R2.map b2i) w h0 h1 (by have := h.2.1; omega) (by rw [List.length_map]; exact hR) hfr H).mono ?_)
  rintro e w' ⟨he, hI, hf⟩
  refine ⟨he, ?_, hf⟩
  unfold RfAt rawN
  rw [if_pos h, List.map_append, Int.toNat_natCast]
  exact hI
theorem FP.left (S : FP w0 g1 g2 Z s1 R1 s2 R2 zb w) (h0 : 0 ≤ Z ∧ Z ≤ 10000) (h1 : s1.m ≤ 10000) (h2 : R1.length ≤ 100000) : Calls Try.prog 9 #[.pointer (some ⟨g1, 0, none⟩)] w fun e w' => e = .returned (.int .i64 (8 * (Z - 3 - s1.m) - R1.length)) ∧ FP w0 g1 g2 Z s1 R1 s2 R2 zb w' :=
  Sep.call1 S (ow_wr g1 Z s1 R1) (ow_wr g1 Z s1 R1) (ow_rf g2 Z s2 R2) (fun ok hfr H => wr_left H h0 h1 h2)
theorem FP.rng (S : FP w0 g1 g2 Z s1 R1 s2 R2 zb w) : Calls Try.prog 10 #[.pointer (some ⟨g1, 0, none⟩)] w fun e w' => e = .returned (.int .u32 s1.g) ∧ FP w0 g1 g2 Z s1 R1 s2 R2 zb w' :=
  Sep.call1 S (ow_wr g1 Z s1 R1) (ow_wr g1 Z s1 R1) (ow_rf g2 Z s2 R2) (fun ok hfr H => wr_rng H)
theorem FP.rleft (S : FP w0 g1 g2 Z s1 R1 s2 R2 zb w) (h0 : 0 ≤ Z ∧ Z ≤ 10000) (h1 : s2.m ≤ 900) (h2 : R2.length ≤ 100000) : Calls Try.prog 18 #[.pointer (some ⟨g2, 0, none⟩)] w fun e w' => e = .returned (.int .i64 (8 * (Z - 3 - s2.m) - R2.length)) ∧ FP w0 g1 g2 Z s1 R1 s2 R2 zb w' := by
  obtain ⟨_, o2, _, hq, _⟩ := Sep.ex S
  refine (RfWalk.rleft_any o2 g2 Z s2.g _ _ w hq h0 (by rw [Wr.dig_len]; omega) (by rw [List.length_map]; exact h2)).mono ?_
  rintro e w' ⟨he, hb⟩
  refine ⟨?_, S.below hb⟩
  rw [he, Wr.dig_len, List.length_map]
  congr 2
  omega
theorem FP.cell (S : FP w0 g1 g2 Z s1 R1 s2 R2 zb w) : w.cell? ⟨g2, 1, none⟩ = some (.int .i64 s2.g) := by
  obtain ⟨_, o2, _, hq, _⟩ := Sep.ex S
  exact (RfB.cells hq).2.1
end
theorem row_c8 {w : World} {Av : Option Addr} {m cc : Nat} {L : List Int} {ok : Nat → Prop} (h : Kd.R (Kd.int .u8) 5 w 0 ok (.slice Av m cc) L) (hl : L.length = m) : Kd.C (Kd.int .u8) w Av m L := by
  obtain ⟨h1, h2, h3⟩ := Kd.R_reads' h
  rw [hl] at h3
  exact h3
theorem row_ci {w : World} {Av : Option Addr} {m cc : Nat} {L : List Int} {ok : Nat → Prop} (h : Kd.R (Kd.int .i64) 3 w 0 ok (.slice Av m cc) L) (hl : L.length = m) : Kd.C (Kd.int .i64) w Av m L := by
  obtain ⟨h1, h2, h3⟩ := Kd.R_reads' h
  rw [hl] at h3
  exact h3
theorem w64_shl (T : Int) : wrap64 (shl .i64 1 T) = shl .i64 1 T := by unfold shl; rw [i64_w]; unfold wrap64; omega
theorem shl_64 {t : Nat} (h : t ≤ 16) : shl .i64 1 (t : Int) = 2 ^ t := by
  have h1 : (0 : Int) < 2 ^ t := Int.pow_pos (by decide)
  have h2 : 2 ^ t ≤ 2 ^ 16 := Nat.pow_le_pow_right (by decide) h
  have h3 : 2 ^ t ≤ 65536 := h2
  have e : ((2 ^ t : Nat) : Int) = 2 ^ t := by rw [Int.natCast_pow]; rfl
  unfold shl
  rw [show min ((t : Int)).toNat (IntKind.i64).bits = t by rw [Int.toNat_natCast]; exact Nat.min_eq_left (by show t ≤ 64; omega), Int.one_mul, ← e]
  exact IntWalk.i64_in _ (by omega)
set_option maxHeartbeats 4000000 in
set_option maxRecDepth 100000 in
theorem plays_long (sz : Int) (A1 : Option Addr) (n c1 : Nat) (w : World) (hd2 : decide ((200 : Int) < (n : Int)) = true) :
    Calls Try.prog 5 #[.int .i64 sz, .slice A1 n c1] w fun e w' => e = .returned (.bool true) ∧ Below w.heap.size w w' := by
  have HB := Aside0.mk (Below.refl w.heap.size w)
  go_enter Try.func5, Try.ntmps5
  go_wp2_with (first
    | (go_at_call 7; (with_reducible refine (awake_any _).mono ?_); rintro e wa ⟨rfl, hb⟩; have HB1 := Aside0.mk (below_step HB.out hb); clear HB hb; have HB := HB1; clear HB1))
  go_ret
  exact ⟨rfl, HB.out⟩
set_option maxHeartbeats 4000000 in
set_option maxRecDepth 100000 in
theorem plays_not (sz : Int) (A1 : Option Addr) (n c1 : Nat) (w : World) (hd2 : decide ((200 : Int) < (n : Int)) = false) (hs : sz < 4 ∨ 1275 < sz) :
    Calls Try.prog 5 #[.int .i64 sz, .slice A1 n c1] w fun e w' => e = .returned (.bool true) ∧ Below w.heap.size w w' := by
  have HB := Aside0.mk (Below.refl w.heap.size w)
  have CN : Aside0 (∀ w1, Calls Try.prog 8 #[.int .i64 sz] w1 fun e w' => e = .returned (.tuple #[.pointer none, .int .i64 2]) ∧ Below w1.heap.size w1 w') := ⟨fun w1 => new_no sz hs w1⟩
  by_cases h4 : sz < 4
  · have d1 : decide (sz < 4) = true := decide_eq_true h4
    clear hs h4
    go_enter Try.func5, Try.ntmps5
    go_wp2_with (first
      | (go_at_call 7; (with_reducible refine (awake_any _).mono ?_); rintro e wa ⟨rfl, hb⟩; have HB1 := Aside0.mk (below_step HB.out hb); clear HB hb; have HB := HB1; clear HB1)
      | (go_at_call 8; (with_reducible refine (CN.out _).mono ?_); rintro e wx ⟨rfl, hb⟩; have HB1 := Aside0.mk (below_step HB.out hb); clear HB hb; have HB := HB1; clear HB1))
    go_ret
    exact ⟨rfl, HB.out⟩
  · have d1 : decide (sz < 4) = false := decide_eq_false h4
    have d2 : decide ((1275 : Int) < sz) = true := decide_eq_true (by omega)
    clear hs h4
    go_enter Try.func5, Try.ntmps5
    go_wp2_with (first
      | (go_at_call 7; (with_reducible refine (awake_any _).mono ?_); rintro e wa ⟨rfl, hb⟩; have HB1 := Aside0.mk (below_step HB.out hb); clear HB hb; have HB := HB1; clear HB1)
      | (go_at_call 8; (with_reducible refine (CN.out _).mono ?_); rintro e wx ⟨rfl, hb⟩; have HB1 := Aside0.mk (below_step HB.out hb); clear HB hb; have HB := HB1; clear HB1))
    go_ret
    exact ⟨rfl, HB.out⟩
set_option maxHeartbeats 8000000 in
set_option maxRecDepth 100000 in
theorem plays_at (Z : Nat) (hZ : 4 ≤ Z ∧ Z ≤ 1275) (l : List S31) (n : Nat) (hn : l.length = n) (hn2 : n ≤ 200) (hop : ∀ o ∈ l, 0 ≤ o.f0 ∧ 0 ≤ o.f4 ∧ o.f4 < 4294967296) (A1 : Option Addr) (c1 : Nat) (w : World) (hD : Kd.C k31 w A1 n l) :
    Calls Try.prog 5 #[.int .i64 (Z : Int), .slice A1 n c1] w fun e w' => e = .returned (.bool true) ∧ Below w.heap.size w w' := by
  have HB := Aside0.mk (Below.refl w.heap.size w)
  have HD := Aside0.mk hD
  have HN := Aside0.mk hn
  have HOP := Aside0.mk hop
  have HZ := Aside0.mk hZ
  have hd2 : decide ((200 : Int) < (n : Int)) = false := decide_eq_false (by omega)
  have d1 : decide ((Z : Int) < 4) = false := decide_eq_false (by omega)
  have d2 : decide ((1275 : Int) < (Z : Int)) = false := decide_eq_false (by omega)
  have CN : Aside0 (∀ w1, Calls Try.prog 8 #[.int .i64 Z] w1 fun e w' => ∃ g, e = .returned (.tuple #[.pointer (some ⟨g, 0, none⟩), .int .i64 0]) ∧ WrAt (fun k => w1.heap.size ≤ k) w' g Z Wr.new [] ∧ Below w1.heap.size w1 w') := ⟨fun w1 => new_wr2 Z (by have := HZ.out; omega) w1⟩
  clear hD hn hZ hop
  go_enter Try.func5, Try.ntmps5
  go_wp2_with (first
    | (go_at_call 7; (with_reducible refine (awake_any _).mono ?_); rintro e wa ⟨rfl, hb⟩; have HB1 := Aside0.mk (below_step HB.out hb); clear HB hb; have HB := HB1; clear HB1)
    | (go_at_call 8; (with_reducible refine (CN.out wa).mono ?_); rintro e wx ⟨g1, rfl, hI, hb⟩; have HX := Aside0.mk (And.intro hI hb); clear hb hI)
    | (go_at_call 14; (with_reducible refine (RfWalk.rnew_any (Z : Int) wx).mono ?_); rintro e wy ⟨g2, rfl, hI, hb⟩; have HS : Aside0 (FP w g1 g2 Z Wr.new [] Wr.new [] none wy) := ⟨Sep.two (Sep.one (below_step HB.out HX.out.2) (ow_wr g1 Z Wr.new []) HX.out.1 (fun k hk => Nat.le_trans HB.out.size hk)) (ow_wr g1 Z Wr.new []) (ow_rf g2 Z Wr.new []) hb hI (fun k hk => hk)⟩; clear HB HX hb hI))
  go_loopw [46] (fun i wr => ∃ (k : Nat) (s : St) (R : List Bool), k ≤ n ∧ i = .int .i64 k ∧ Aside0 (FP w g1 g2 Z s R s R none wr) ∧ Aside0 (Wr.Fair s 65537 ∧ s.m ≤ 2 * k ∧ R.length ≤ 16 * k)) (fun i _ => (n - intOf i).toNat)
  case atStart => exact ⟨0, Wr.new, [], by omega, rfl, HS, ⟨Wr.new_fair, Nat.zero_le _, Nat.zero_le _⟩⟩
  case round =>
    obtain ⟨k, s, R, hk, rfl, HS2, HF⟩ := hrel
    clear HS
    have HS := HS2
    clear HS2
    by_cases ht : k < n
    · obtain ⟨ad, hA, hc0, hc1, hc2, hc3, hc4⟩ := at_T31 (Kd.C_below HD.out HS.out.hb) (k : Int) (by omega) (by omega)
      have hK0 : 0 ≤ (rd_T31 l k).f0 ∧ 0 ≤ (rd_T31 l k).f4 ∧ (rd_T31 l k).f4 < 4294967296 := HOP.out _ (by unfold rd_T31; rw [Int.toNat_natCast, List.getD_eq_getElem?_getD, List.getElem?_eq_getElem (by rw [HN.out]; exact ht)]; exact List.getElem_mem _)
      rw [Int.toNat_natCast] at hc0 hc1 hc2 hc3 hc4
      obtain ⟨⟨K, F, T, M, X⟩, ho⟩ : ∃ o, rd_T31 l k = o := ⟨_, rfl⟩
      rw [ho] at hc0 hc1 hc2 hc3 hc4 hK0
      simp only at hc0 hc1 hc2 hc3 hc4 hK0
      clear ho
      subst hA
      have hm3 : s.m ≤ 900 := by have := HF.out.2; omega
      have hR5 : R.length ≤ 40000 := by have := HF.out.2; omega
      obtain ⟨bo, hbo⟩ : ∃ bo, (Obj.cells #[.int .u8 K, .int .i64 F, .int .i64 T, .int .i64 M, .int .u32 X] 31 (0, 0)) = bo := ⟨_, rfl⟩
      have HBO := Aside0.mk hbo
      have HBX : Aside0 (FP w g1 g2 Z s R s R (some (wr.heap.size, bo)) (wr.alloc (.cells #[.int .u8 K, .int .i64 F, .int .i64 T, .int .i64 M, .int .u32 X] 31))) := ⟨by subst hbo; exact HS.out.box _⟩
      clear hbo
      by_cases h2 : K % 2 = 0
      · have hf : Int.tmod K 2 = 0 := by rw [Int.tmod_eq_emod_of_nonneg hK0.1]; exact h2
        clear h2
        have CM : Aside0 (∀ wz, Calls Try.prog 15 #[.int .i64 F, .int .i64 T, .int .i64 M] wz fun e w' => e = .returned (.bool (decide (Rd.ok F T M))) ∧ Below wz.heap.size wz w') := ⟨fun wz => RfWalk.may_any F T M wz⟩
        obtain ⟨s', hs'⟩ : ∃ s', Wr.put s F T M = s' := ⟨_, rfl⟩
        obtain ⟨R', hR'⟩ : ∃ R', R = R' := ⟨_, rfl⟩
        have HS' : Aside0 (Wr.Fair s' 65537 ∧ s'.m ≤ 2 * (k + 1) ∧ R'.length ≤ 16 * (k + 1)) := ⟨by
          rw [← hs', ← hR']
          have := Wr.put_m s F T M
          have := HF.out.2
          exact ⟨Wr.put_fair HF.out.1 _ _ _, by omega, by omega⟩⟩
        have hsm : s'.m ≤ 900 := by have := HS'.out.2; omega
        have hRm : R'.length ≤ 40000 := by have := HS'.out.2; omega
        obtain ⟨lf, hlf⟩ : ∃ x, 8 * ((Z : Int) - 3 - s'.m) - R'.length = x := ⟨_, rfl⟩
        obtain ⟨gg, hgg⟩ : ∃ x, s'.g = x := ⟨_, rfl⟩
        by_cases hok : Rd.ok F T M
        · have C1 : Aside0 (∀ wz zb, FP w g1 g2 Z s R s R zb wz → Calls Try.prog 11 #[.pointer (some ⟨g1, 0, none⟩), .int .i64 F, .int .i64 T, .int .i64 M] wz fun e w' => e = .returned (.int .i64 0) ∧ FP w g1 g2 Z s' R s R zb w') := ⟨fun wz zb S => by have h := S.put HF.out.1 hm3 F T M; rw [if_pos hok, hs'] at h; exact h⟩
          have C2 : Aside0 (∀ wz zb, FP w g1 g2 Z s' R s R zb wz → Calls Try.prog 16 #[.pointer (some ⟨g2, 0, none⟩), .int .i64 F, .int .i64 T, .int .i64 M] wz fun e w' => e = .returned (.tuple #[]) ∧ FP w g1 g2 Z s' R' s' R' zb w') := ⟨fun wz zb S => by have h := S.rput HF.out.1 hm3 hok; rw [hs', hR'] at h; exact h⟩
          rw [decide_eq_true hok] at CM
          have HKP : Aside0 (∀ wz, FP w g1 g2 Z s' R' s' R' (some (wr.heap.size, bo)) wz → wz.cell? ⟨g2, 1, none⟩ = some (.int .i64 gg) ∧ Aside0 (FP w g1 g2 Z s' R' s' R' (some (wr.heap.size, bo)) wz)) := ⟨fun wz S => ⟨hgg ▸ S.cell, ⟨S⟩⟩⟩
          have CL1 : Aside0 (∀ wz zb, FP w g1 g2 Z s' R' s' R' zb wz → Calls Try.prog 9 #[.pointer (some ⟨g1, 0, none⟩)] wz fun e w' => e = .returned (.int .i64 lf) ∧ FP w g1 g2 Z s' R' s' R' zb w') := ⟨fun wz zb S => hlf ▸ S.left (by have := HZ.out; omega) (by omega) (by omega)⟩
          have CL2 : Aside0 (∀ wz zb, FP w g1 g2 Z s' R' s' R' zb wz → Calls Try.prog 18 #[.pointer (some ⟨g2, 0, none⟩)] wz fun e w' => e = .returned (.int .i64 lf) ∧ FP w g1 g2 Z s' R' s' R' zb w') := ⟨fun wz zb S => hlf ▸ S.rleft (by have := HZ.out; omega) (by omega) (by omega)⟩
          have CR : Aside0 (∀ wz zb, FP w g1 g2 Z s' R' s' R' zb wz → Calls Try.prog 10 #[.pointer (some ⟨g1, 0, none⟩)] wz fun e w' => e = .returned (.int .u32 gg) ∧ FP w g1 g2 Z s' R' s' R' zb w') := ⟨fun wz zb S => hgg ▸ S.rng⟩
          have hggb := HS'.out.1.g1
          have hggc := HS'.out.1.g0
          rw [hgg] at hggb hggc
          have ug : IntKind.i64.wrap gg = gg := IntWalk.i64_in _ (by omega)
          clear hlf hgg hm3 hR5 hK0 hsm hRm hggb hggc
          clear hs' hR' hok
          go_wp2_with (first
            | (go_at_call 11; (with_reducible refine (C1.out _ _ HBX.out).mono ?_); rintro e w1 ⟨rfl, hT⟩; have hh := (hT.hz _ rfl).2; rw [← HBO.out] at hh; have hv0 : w1.cell? ⟨wr.heap.size, 0, none⟩ = some (.int .u8 K) := (blk_cell hh 0).trans rfl; have hv1 : w1.cell? ⟨wr.heap.size, 1, none⟩ = some (.int .i64 F) := (blk_cell hh 1).trans rfl; have hv2 : w1.cell? ⟨wr.heap.size, 2, none⟩ = some (.int .i64 T) := (blk_cell hh 2).trans rfl; have hv3 : w1.cell? ⟨wr.heap.size, 3, none⟩ = some (.int .i64 M) := (blk_cell hh 3).trans rfl; have hv4 : w1.cell? ⟨wr.heap.size, 4, none⟩ = some (.int .u32 X) := (blk_cell hh 4).trans rfl; have m0 := Aside0.mk hT; clear hh HS hT; have HS := m0; clear m0)
            | (go_at_call 15; (with_reducible refine (CM.out _).mono ?_); rintro e w1 ⟨rfl, hb⟩; have hT := HS.out.below hb; clear hv0 hv1 hv2 hv3 hv4; have hh := (hT.hz _ rfl).2; rw [← HBO.out] at hh; have hv0 : w1.cell? ⟨wr.heap.size, 0, none⟩ = some (.int .u8 K) := (blk_cell hh 0).trans rfl; have hv1 : w1.cell? ⟨wr.heap.size, 1, none⟩ = some (.int .i64 F) := (blk_cell hh 1).trans rfl; have hv2 : w1.cell? ⟨wr.heap.size, 2, none⟩ = some (.int .i64 T) := (blk_cell hh 2).trans rfl; have hv3 : w1.cell? ⟨wr.heap.size, 3, none⟩ = some (.int .i64 M) := (blk_cell hh 3).trans rfl; have hv4 : w1.cell? ⟨wr.heap.size, 4, none⟩ = some (.int .u32 X) := (blk_cell hh 4).trans rfl; have m0 := Aside0.mk hT; clear hh HS hT hb; have HS := m0; clear m0)
            | (go_at_call 16; (with_reducible refine (C2.out _ _ HS.out).mono ?_); rintro e w1 ⟨rfl, hT⟩; clear hv0 hv1 hv2 hv3 hv4; have m0 := Aside0.mk hT; clear HS hT; have HS := m0; clear m0))
          all_goals (
            go_region_held3 (fun wz => wz.cell? ⟨g2, 1, none⟩ = some (.int .i64 gg) ∧ Aside0 (FP w g1 g2 Z s' R' s' R' (some (wr.heap.size, bo)) wz))
              (first | exact HKP.out _ hT | exact HKP.out _ HS.out | exact HKP.out _ (HS.out.below (below_drew1 (Below.refl _ _))) | exact HKP.out _ (HS.out.below (below_drew1 (below_drew1 (Below.refl _ _)))))
              (first | (go_at_call 9; (go_split_ands; (with_reducible refine (CL1.out _ _ (Aside0.out (by assumption))).mono ?_)); rintro e w4 ⟨rfl, hT⟩) | (go_at_call 18; (go_split_ands; (with_reducible refine (CL2.out _ _ (Aside0.out (by assumption))).mono ?_)); rintro e w5 ⟨rfl, hT⟩) | (go_at_call 10; (go_split_ands; (with_reducible refine (CR.out _ _ (Aside0.out (by assumption))).mono ?_)); rintro e w6 ⟨rfl, hT⟩)))
          all_goals (
            rename_i hH
            have HT2 := hH.2
            clear hH
            go_wp2
            go_roundw
            case rel => exact ⟨k + 1, s', R', by omega, by simp, ⟨HT2.out.unbox⟩, HS'⟩
            case measure => simp [intOf]; omega)
        · have C1 : Aside0 (∀ wz zb, FP w g1 g2 Z s R s R zb wz → Calls Try.prog 11 #[.pointer (some ⟨g1, 0, none⟩), .int .i64 F, .int .i64 T, .int .i64 M] wz fun e w' => e = .returned (.int .i64 1) ∧ FP w g1 g2 Z s' R' s' R' zb w') := ⟨fun wz zb S => by
            have h := S.put HF.out.1 hm3 F T M
            have e : Wr.put s F T M = s := by unfold Wr.put; rw [if_neg hok]
            rw [if_neg hok, e] at h
            rw [← hs', ← hR', e]
            exact h⟩
          rw [decide_eq_false hok] at CM
          have HKP : Aside0 (∀ wz, FP w g1 g2 Z s' R' s' R' (some (wr.heap.size, bo)) wz → wz.cell? ⟨g2, 1, none⟩ = some (.int .i64 gg) ∧ Aside0 (FP w g1 g2 Z s' R' s' R' (some (wr.heap.size, bo)) wz)) := ⟨fun wz S => ⟨hgg ▸ S.cell, ⟨S⟩⟩⟩
          have CL1 : Aside0 (∀ wz zb, FP w g1 g2 Z s' R' s' R' zb wz → Calls Try.prog 9 #[.pointer (some ⟨g1, 0, none⟩)] wz fun e w' => e = .returned (.int .i64 lf) ∧ FP w g1 g2 Z s' R' s' R' zb w') := ⟨fun wz zb S => hlf ▸ S.left (by have := HZ.out; omega) (by omega) (by omega)⟩
          have CL2 : Aside0 (∀ wz zb, FP w g1 g2 Z s' R' s' R' zb wz → Calls Try.prog 18 #[.pointer (some ⟨g2, 0, none⟩)] wz fun e w' => e = .returned (.int .i64 lf) ∧ FP w g1 g2 Z s' R' s' R' zb w') := ⟨fun wz zb S => hlf ▸ S.rleft (by have := HZ.out; omega) (by omega) (by omega)⟩
          have CR : Aside0 (∀ wz zb, FP w g1 g2 Z s' R' s' R' zb wz → Calls Try.prog 10 #[.pointer (some ⟨g1, 0, none⟩)] wz fun e w' => e = .returned (.int .u32 gg) ∧ FP w g1 g2 Z s' R' s' R' zb w') := ⟨fun wz zb S => hgg ▸ S.rng⟩
          have hggb := HS'.out.1.g1
          have hggc := HS'.out.1.g0
          rw [hgg] at hggb hggc
          have ug : IntKind.i64.wrap gg = gg := IntWalk.i64_in _ (by omega)
          clear hlf hgg hm3 hR5 hK0 hsm hRm hggb hggc
          clear hs' hR' hok
          go_wp2_with (first
            | (go_at_call 11; (with_reducible refine (C1.out _ _ HBX.out).mono ?_); rintro e w1 ⟨rfl, hT⟩; have hh := (hT.hz _ rfl).2; rw [← HBO.out] at hh; have hv0 : w1.cell? ⟨wr.heap.size, 0, none⟩ = some (.int .u8 K) := (blk_cell hh 0).trans rfl; have hv1 : w1.cell? ⟨wr.heap.size, 1, none⟩ = some (.int .i64 F) := (blk_cell hh 1).trans rfl; have hv2 : w1.cell? ⟨wr.heap.size, 2, none⟩ = some (.int .i64 T) := (blk_cell hh 2).trans rfl; have hv3 : w1.cell? ⟨wr.heap.size, 3, none⟩ = some (.int .i64 M) := (blk_cell hh 3).trans rfl; have hv4 : w1.cell? ⟨wr.heap.size, 4, none⟩ = some (.int .u32 X) := (blk_cell hh 4).trans rfl; have m0 := Aside0.mk hT; clear hh HS hT; have HS := m0; clear m0)
            | (go_at_call 15; (with_reducible refine (CM.out _).mono ?_); rintro e w1 ⟨rfl, hb⟩; have hT := HS.out.below hb; clear hv0 hv1 hv2 hv3 hv4; have hh := (hT.hz _ rfl).2; rw [← HBO.out] at hh; have hv0 : w1.cell? ⟨wr.heap.size, 0, none⟩ = some (.int .u8 K) := (blk_cell hh 0).trans rfl; have hv1 : w1.cell? ⟨wr.heap.size, 1, none⟩ = some (.int .i64 F) := (blk_cell hh 1).trans rfl; have hv2 : w1.cell? ⟨wr.heap.size, 2, none⟩ = some (.int .i64 T) := (blk_cell hh 2).trans rfl; have hv3 : w1.cell? ⟨wr.heap.size, 3, none⟩ = some (.int .i64 M) := (blk_cell hh 3).trans rfl; have hv4 : w1.cell? ⟨wr.heap.size, 4, none⟩ = some (.int .u32 X) := (blk_cell hh 4).trans rfl; have m0 := Aside0.mk hT; clear hh HS hT hb; have HS := m0; clear m0))
          all_goals (
            go_region_held3 (fun wz => wz.cell? ⟨g2, 1, none⟩ = some (.int .i64 gg) ∧ Aside0 (FP w g1 g2 Z s' R' s' R' (some (wr.heap.size, bo)) wz))
              (first | exact HKP.out _ hT | exact HKP.out _ HS.out | exact HKP.out _ (HS.out.below (below_drew1 (Below.refl _ _))) | exact HKP.out _ (HS.out.below (below_drew1 (below_drew1 (Below.refl _ _)))))
              (first | (go_at_call 9; (go_split_ands; (with_reducible refine (CL1.out _ _ (Aside0.out (by assumption))).mono ?_)); rintro e w4 ⟨rfl, hT⟩) | (go_at_call 18; (go_split_ands; (with_reducible refine (CL2.out _ _ (Aside0.out (by assumption))).mono ?_)); rintro e w5 ⟨rfl, hT⟩) | (go_at_call 10; (go_split_ands; (with_reducible refine (CR.out _ _ (Aside0.out (by assumption))).mono ?_)); rintro e w6 ⟨rfl, hT⟩)))
          all_goals (
            rename_i hH
            have HT2 := hH.2
            clear hH
            go_wp2
            go_roundw
            case rel => exact ⟨k + 1, s', R', by omega, by simp, ⟨HT2.out.unbox⟩, HS'⟩
            case measure => simp [intOf]; omega)
      · have hf : Int.tmod K 2 = 1 := by rw [Int.tmod_eq_emod_of_nonneg hK0.1]; omega
        clear h2
        obtain ⟨s', hs'⟩ : ∃ s', s = s' := ⟨_, rfl⟩
        obtain ⟨R', hR'⟩ : ∃ R', R ++ rawN X T = R' := ⟨_, rfl⟩
        have HS' : Aside0 (Wr.Fair s' 65537 ∧ s'.m ≤ 2 * (k + 1) ∧ R'.length ≤ 16 * (k + 1)) := ⟨by
          rw [← hs', ← hR', List.length_append]
          have := rawN_len X T
          have := HF.out.2
          exact ⟨HF.out.1, by omega, by omega⟩⟩
        have hsm : s'.m ≤ 900 := by have := HS'.out.2; omega
        have hRm : R'.length ≤ 40000 := by have := HS'.out.2; omega
        have hX0 := hK0.2.1
        have hX1 := hK0.2.2
        obtain ⟨lf, hlf⟩ : ∃ x, 8 * ((Z : Int) - 3 - s'.m) - R'.length = x := ⟨_, rfl⟩
        obtain ⟨gg, hgg⟩ : ∃ x, s'.g = x := ⟨_, rfl⟩
        by_cases hok : Rw X T
        · have C1 : Aside0 (∀ wz zb, FP w g1 g2 Z s R s R zb wz → Calls Try.prog 12 #[.pointer (some ⟨g1, 0, none⟩), .int .u32 X, .int .i64 T] wz fun e w' => e = .returned (.int .i64 0) ∧ FP w g1 g2 Z s R' s R zb w') := ⟨fun wz zb S => by
            have h := S.raw X T hX0 hX1 (by omega)
            rw [if_pos hok, hR'] at h
            exact h⟩
          have C2 : Aside0 (∀ wz zb, FP w g1 g2 Z s R' s R zb wz → Calls Try.prog 17 #[.pointer (some ⟨g2, 0, none⟩), .int .i64 X, .int .i64 T] wz fun e w' => e = .returned (.tuple #[]) ∧ FP w g1 g2 Z s' R' s' R' zb w') := ⟨fun wz zb S => by
            have h := S.rraw X T hX0 hX1 (by omega) hok
            rw [hR'] at h
            subst hs'
            exact h⟩
          have HKP : Aside0 (∀ wz, FP w g1 g2 Z s' R' s' R' (some (wr.heap.size, bo)) wz → wz.cell? ⟨g2, 1, none⟩ = some (.int .i64 gg) ∧ Aside0 (FP w g1 g2 Z s' R' s' R' (some (wr.heap.size, bo)) wz)) := ⟨fun wz S => ⟨hgg ▸ S.cell, ⟨S⟩⟩⟩
          have CL1 : Aside0 (∀ wz zb, FP w g1 g2 Z s' R' s' R' zb wz → Calls Try.prog 9 #[.pointer (some ⟨g1, 0, none⟩)] wz fun e w' => e = .returned (.int .i64 lf) ∧ FP w g1 g2 Z s' R' s' R' zb w') := ⟨fun wz zb S => hlf ▸ S.left (by have := HZ.out; omega) (by omega) (by omega)⟩
          have CL2 : Aside0 (∀ wz zb, FP w g1 g2 Z s' R' s' R' zb wz → Calls Try.prog 18 #[.pointer (some ⟨g2, 0, none⟩)] wz fun e w' => e = .returned (.int .i64 lf) ∧ FP w g1 g2 Z s' R' s' R' zb w') := ⟨fun wz zb S => hlf ▸ S.rleft (by have := HZ.out; omega) (by omega) (by omega)⟩
          have CR : Aside0 (∀ wz zb, FP w g1 g2 Z s' R' s' R' zb wz → Calls Try.prog 10 #[.pointer (some ⟨g1, 0, none⟩)] wz fun e w' => e = .returned (.int .u32 gg) ∧ FP w g1 g2 Z s' R' s' R' zb w') := ⟨fun wz zb S => hgg ▸ S.rng⟩
          have hggb := HS'.out.1.g1
          have hggc := HS'.out.1.g0
          rw [hgg] at hggb hggc
          have ug : IntKind.i64.wrap gg = gg := IntWalk.i64_in _ (by omega)
          clear hlf hgg hm3 hR5 hK0 hsm hRm hggb hggc
          have hok2 := hok.2.2
          have hT0 := hok.1
          have hT16 := hok.2.1
          have e1 := shl_64 (t := T.toNat) (by omega)
          rw [Int.toNat_of_nonneg hT0] at e1
          have e3 : wrap64 (2 ^ T.toNat) = 2 ^ T.toNat := by rw [← e1]; exact w64_shl T
          obtain ⟨P, hP⟩ : ∃ P : Int, 2 ^ T.toNat = P := ⟨_, rfl⟩
          have e2 : wrap64 (2 ^ T.toNat) = P := e3.trans hP
          rw [hP] at hok2
          clear e1 e3
          have t1 : decide (X < P) = true := decide_eq_true hok2
          have t2 : decide (0 ≤ T) = true := decide_eq_true hT0
          have t3 : decide (T ≤ 16) = true := decide_eq_true hT16
          clear hs' hR' hok hok2 hP
          go_wp2_with (first
            | (go_at_call 12; (with_reducible refine (C1.out _ _ HBX.out).mono ?_); rintro e w1 ⟨rfl, hT⟩; have hh := (hT.hz _ rfl).2; rw [← HBO.out] at hh; have hv0 : w1.cell? ⟨wr.heap.size, 0, none⟩ = some (.int .u8 K) := (blk_cell hh 0).trans rfl; have hv1 : w1.cell? ⟨wr.heap.size, 1, none⟩ = some (.int .i64 F) := (blk_cell hh 1).trans rfl; have hv2 : w1.cell? ⟨wr.heap.size, 2, none⟩ = some (.int .i64 T) := (blk_cell hh 2).trans rfl; have hv3 : w1.cell? ⟨wr.heap.size, 3, none⟩ = some (.int .i64 M) := (blk_cell hh 3).trans rfl; have hv4 : w1.cell? ⟨wr.heap.size, 4, none⟩ = some (.int .u32 X) := (blk_cell hh 4).trans rfl; have m0 := Aside0.mk hT; clear hh HS hT; have HS := m0; clear m0))
          go_quiet (fail)
          go_wp2_with (first
            | (go_at_call 17; (with_reducible refine (C2.out _ _ (HS.out.below (pw_below_drewN (Below.refl _ _) _))).mono ?_); rintro e w2 ⟨rfl, hT⟩; clear hv0 hv1 hv2 hv3 hv4; have m0 := Aside0.mk hT; clear HS hT; have HS := m0; clear m0))
          all_goals (
            go_region_held3 (fun wz => wz.cell? ⟨g2, 1, none⟩ = some (.int .i64 gg) ∧ Aside0 (FP w g1 g2 Z s' R' s' R' (some (wr.heap.size, bo)) wz))
              (first | exact HKP.out _ hT | exact HKP.out _ HS.out | exact HKP.out _ (HS.out.below (below_drew1 (Below.refl _ _))) | exact HKP.out _ (HS.out.below (below_drew1 (below_drew1 (Below.refl _ _)))))
              (first | (go_at_call 9; (go_split_ands; (with_reducible refine (CL1.out _ _ (Aside0.out (by assumption))).mono ?_)); rintro e w4 ⟨rfl, hT⟩) | (go_at_call 18; (go_split_ands; (with_reducible refine (CL2.out _ _ (Aside0.out (by assumption))).mono ?_)); rintro e w5 ⟨rfl, hT⟩) | (go_at_call 10; (go_split_ands; (with_reducible refine (CR.out _ _ (Aside0.out (by assumption))).mono ?_)); rintro e w6 ⟨rfl, hT⟩)))
          all_goals (
            rename_i hH
            have HT2 := hH.2
            clear hH
            go_wp2
            go_roundw
            case rel => exact ⟨k + 1, s', R', by omega, by simp, ⟨HT2.out.unbox⟩, HS'⟩
            case measure => simp [intOf]; omega)
        · have C1 : Aside0 (∀ wz zb, FP w g1 g2 Z s R s R zb wz → Calls Try.prog 12 #[.pointer (some ⟨g1, 0, none⟩), .int .u32 X, .int .i64 T] wz fun e w' => e = .returned (.int .i64 1) ∧ FP w g1 g2 Z s' R' s' R' zb w') := ⟨fun wz zb S => by
            have h := S.raw X T hX0 hX1 (by omega)
            have e : rawN X T = [] := by unfold rawN; rw [if_neg hok]
            rw [if_neg hok, e, List.append_nil] at h
            rw [← hs', ← hR', e, List.append_nil]
            exact h⟩
          have HKP : Aside0 (∀ wz, FP w g1 g2 Z s' R' s' R' (some (wr.heap.size, bo)) wz → wz.cell? ⟨g2, 1, none⟩ = some (.int .i64 gg) ∧ Aside0 (FP w g1 g2 Z s' R' s' R' (some (wr.heap.size, bo)) wz)) := ⟨fun wz S => ⟨hgg ▸ S.cell, ⟨S⟩⟩⟩
          have CL1 : Aside0 (∀ wz zb, FP w g1 g2 Z s' R' s' R' zb wz → Calls Try.prog 9 #[.pointer (some ⟨g1, 0, none⟩)] wz fun e w' => e = .returned (.int .i64 lf) ∧ FP w g1 g2 Z s' R' s' R' zb w') := ⟨fun wz zb S => hlf ▸ S.left (by have := HZ.out; omega) (by omega) (by omega)⟩
          have CL2 : Aside0 (∀ wz zb, FP w g1 g2 Z s' R' s' R' zb wz → Calls Try.prog 18 #[.pointer (some ⟨g2, 0, none⟩)] wz fun e w' => e = .returned (.int .i64 lf) ∧ FP w g1 g2 Z s' R' s' R' zb w') := ⟨fun wz zb S => hlf ▸ S.rleft (by have := HZ.out; omega) (by omega) (by omega)⟩
          have CR : Aside0 (∀ wz zb, FP w g1 g2 Z s' R' s' R' zb wz → Calls Try.prog 10 #[.pointer (some ⟨g1, 0, none⟩)] wz fun e w' => e = .returned (.int .u32 gg) ∧ FP w g1 g2 Z s' R' s' R' zb w') := ⟨fun wz zb S => hgg ▸ S.rng⟩
          have hggb := HS'.out.1.g1
          have hggc := HS'.out.1.g0
          rw [hgg] at hggb hggc
          have ug : IntKind.i64.wrap gg = gg := IntWalk.i64_in _ (by omega)
          clear hlf hgg hm3 hR5 hK0 hsm hRm hggb hggc
          by_cases hT0 : 0 ≤ T
          · by_cases hT16 : T ≤ 16
            · have t2 : decide (0 ≤ T) = true := decide_eq_true hT0
              have t3 : decide (T ≤ 16) = true := decide_eq_true hT16
              have e1 := shl_64 (t := T.toNat) (by omega)
              rw [Int.toNat_of_nonneg hT0] at e1
              have e3 : wrap64 (2 ^ T.toNat) = 2 ^ T.toNat := by rw [← e1]; exact w64_shl T
              obtain ⟨P, hP⟩ : ∃ P : Int, 2 ^ T.toNat = P := ⟨_, rfl⟩
              have e2 : wrap64 (2 ^ T.toNat) = P := e3.trans hP
              have t1 : decide (X < P) = false := decide_eq_false (fun h => hok ⟨hT0, hT16, by rw [hP]; exact h⟩)
              clear hs' hR' hok hP e1 e3
              go_wp2_with (first
                | (go_at_call 12; (with_reducible refine (C1.out _ _ HBX.out).mono ?_); rintro e w1 ⟨rfl, hT⟩; have hh := (hT.hz _ rfl).2; rw [← HBO.out] at hh; have hv0 : w1.cell? ⟨wr.heap.size, 0, none⟩ = some (.int .u8 K) := (blk_cell hh 0).trans rfl; have hv1 : w1.cell? ⟨wr.heap.size, 1, none⟩ = some (.int .i64 F) := (blk_cell hh 1).trans rfl; have hv2 : w1.cell? ⟨wr.heap.size, 2, none⟩ = some (.int .i64 T) := (blk_cell hh 2).trans rfl; have hv3 : w1.cell? ⟨wr.heap.size, 3, none⟩ = some (.int .i64 M) := (blk_cell hh 3).trans rfl; have hv4 : w1.cell? ⟨wr.heap.size, 4, none⟩ = some (.int .u32 X) := (blk_cell hh 4).trans rfl; have m0 := Aside0.mk hT; clear hh HS hT; have HS := m0; clear m0))
              go_quiet (fail)
              go_wp2
              obtain ⟨wq, hwq⟩ : ∃ wq, w1.drewN nq = wq := ⟨_, rfl⟩
              have m0 : Aside0 (FP w g1 g2 Z s' R' s' R' (some (wr.heap.size, bo)) wq) := ⟨by rw [← hwq]; exact HS.out.below (pw_below_drewN (Below.refl _ _) _)⟩
              rw [hwq]
              clear hwq
              clear HS hv0 hv1 hv2 hv3 hv4
              have HS := m0
              clear m0
              all_goals (
                go_region_held3 (fun wz => wz.cell? ⟨g2, 1, none⟩ = some (.int .i64 gg) ∧ Aside0 (FP w g1 g2 Z s' R' s' R' (some (wr.heap.size, bo)) wz))
                  (first | exact HKP.out _ hT | exact HKP.out _ HS.out | exact HKP.out _ (HS.out.below (below_drew1 (Below.refl _ _))) | exact HKP.out _ (HS.out.below (below_drew1 (below_drew1 (Below.refl _ _)))))
                  (first | (go_at_call 9; (go_split_ands; (with_reducible refine (CL1.out _ _ (Aside0.out (by assumption))).mono ?_)); rintro e w4 ⟨rfl, hT⟩) | (go_at_call 18; (go_split_ands; (with_reducible refine (CL2.out _ _ (Aside0.out (by assumption))).mono ?_)); rintro e w5 ⟨rfl, hT⟩) | (go_at_call 10; (go_split_ands; (with_reducible refine (CR.out _ _ (Aside0.out (by assumption))).mono ?_)); rintro e w6 ⟨rfl, hT⟩)))
              all_goals (
                rename_i hH
                have HT2 := hH.2
                clear hH
                go_wp2
                go_roundw
                case rel => exact ⟨k + 1, s', R', by omega, by simp, ⟨HT2.out.unbox⟩, HS'⟩
                case measure => simp [intOf]; omega)
            · have t2 : decide (0 ≤ T) = true := decide_eq_true hT0
              have t3 : decide (T ≤ 16) = false := decide_eq_false hT16
              clear hs' hR' hok hT16
              go_wp2_with (first
                | (go_at_call 12; (with_reducible refine (C1.out _ _ HBX.out).mono ?_); rintro e w1 ⟨rfl, hT⟩; have hh := (hT.hz _ rfl).2; rw [← HBO.out] at hh; have hv0 : w1.cell? ⟨wr.heap.size, 0, none⟩ = some (.int .u8 K) := (blk_cell hh 0).trans rfl; have hv1 : w1.cell? ⟨wr.heap.size, 1, none⟩ = some (.int .i64 F) := (blk_cell hh 1).trans rfl; have hv2 : w1.cell? ⟨wr.heap.size, 2, none⟩ = some (.int .i64 T) := (blk_cell hh 2).trans rfl; have hv3 : w1.cell? ⟨wr.heap.size, 3, none⟩ = some (.int .i64 M) := (blk_cell hh 3).trans rfl; have hv4 : w1.cell? ⟨wr.heap.size, 4, none⟩ = some (.int .u32 X) := (blk_cell hh 4).trans rfl; have m0 := Aside0.mk hT; clear hh HS hT; have HS := m0; clear m0))
              go_quiet (fail)
              go_wp2
              obtain ⟨wq, hwq⟩ : ∃ wq, w1.drewN nq = wq := ⟨_, rfl⟩
              have m0 : Aside0 (FP w g1 g2 Z s' R' s' R' (some (wr.heap.size, bo)) wq) := ⟨by rw [← hwq]; exact HS.out.below (pw_below_drewN (Below.refl _ _) _)⟩
              rw [hwq]
              clear hwq
              clear HS hv0 hv1 hv2 hv3 hv4
              have HS := m0
              clear m0
              all_goals (
                go_region_held3 (fun wz => wz.cell? ⟨g2, 1, none⟩ = some (.int .i64 gg) ∧ Aside0 (FP w g1 g2 Z s' R' s' R' (some (wr.heap.size, bo)) wz))
                  (first | exact HKP.out _ hT | exact HKP.out _ HS.out | exact HKP.out _ (HS.out.below (below_drew1 (Below.refl _ _))) | exact HKP.out _ (HS.out.below (below_drew1 (below_drew1 (Below.refl _ _)))))
                  (first | (go_at_call 9; (go_split_ands; (with_reducible refine (CL1.out _ _ (Aside0.out (by assumption))).mono ?_)); rintro e w4 ⟨rfl, hT⟩) | (go_at_call 18; (go_split_ands; (with_reducible refine (CL2.out _ _ (Aside0.out (by assumption))).mono ?_)); rintro e w5 ⟨rfl, hT⟩) | (go_at_call 10; (go_split_ands; (with_reducible refine (CR.out _ _ (Aside0.out (by assumption))).mono ?_)); rintro e w6 ⟨rfl, hT⟩)))
              all_goals (
                rename_i hH
                have HT2 := hH.2
                clear hH
                go_wp2
                go_roundw
                case rel => exact ⟨k + 1, s', R', by omega, by simp, ⟨HT2.out.unbox⟩, HS'⟩
                case measure => simp [intOf]; omega)
          · have t2 : decide (0 ≤ T) = false := decide_eq_false hT0
            clear hs' hR' hok hT0
            go_wp2_with (first
              | (go_at_call 12; (with_reducible refine (C1.out _ _ HBX.out).mono ?_); rintro e w1 ⟨rfl, hT⟩; have hh := (hT.hz _ rfl).2; rw [← HBO.out] at hh; have hv0 : w1.cell? ⟨wr.heap.size, 0, none⟩ = some (.int .u8 K) := (blk_cell hh 0).trans rfl; have hv1 : w1.cell? ⟨wr.heap.size, 1, none⟩ = some (.int .i64 F) := (blk_cell hh 1).trans rfl; have hv2 : w1.cell? ⟨wr.heap.size, 2, none⟩ = some (.int .i64 T) := (blk_cell hh 2).trans rfl; have hv3 : w1.cell? ⟨wr.heap.size, 3, none⟩ = some (.int .i64 M) := (blk_cell hh 3).trans rfl; have hv4 : w1.cell? ⟨wr.heap.size, 4, none⟩ = some (.int .u32 X) := (blk_cell hh 4).trans rfl; have m0 := Aside0.mk hT; clear hh HS hT; have HS := m0; clear m0))
            go_quiet (fail)
            go_wp2
            obtain ⟨wq, hwq⟩ : ∃ wq, w1.drewN nq = wq := ⟨_, rfl⟩
            have m0 : Aside0 (FP w g1 g2 Z s' R' s' R' (some (wr.heap.size, bo)) wq) := ⟨by rw [← hwq]; exact HS.out.below (pw_below_drewN (Below.refl _ _) _)⟩
            rw [hwq]
            clear hwq
            clear HS hv0 hv1 hv2 hv3 hv4
            have HS := m0
            clear m0
            all_goals (
              go_region_held3 (fun wz => wz.cell? ⟨g2, 1, none⟩ = some (.int .i64 gg) ∧ Aside0 (FP w g1 g2 Z s' R' s' R' (some (wr.heap.size, bo)) wz))
                (first | exact HKP.out _ hT | exact HKP.out _ HS.out | exact HKP.out _ (HS.out.below (below_drew1 (Below.refl _ _))) | exact HKP.out _ (HS.out.below (below_drew1 (below_drew1 (Below.refl _ _)))))
                (first | (go_at_call 9; (go_split_ands; (with_reducible refine (CL1.out _ _ (Aside0.out (by assumption))).mono ?_)); rintro e w4 ⟨rfl, hT⟩) | (go_at_call 18; (go_split_ands; (with_reducible refine (CL2.out _ _ (Aside0.out (by assumption))).mono ?_)); rintro e w5 ⟨rfl, hT⟩) | (go_at_call 10; (go_split_ands; (with_reducible refine (CR.out _ _ (Aside0.out (by assumption))).mono ?_)); rintro e w6 ⟨rfl, hT⟩)))
            all_goals (
              rename_i hH
              have HT2 := hH.2
              clear hH
              go_wp2
              go_roundw
              case rel => exact ⟨k + 1, s', R', by omega, by simp, ⟨HT2.out.unbox⟩, HS'⟩
              case measure => simp [intOf]; omega)
    · obtain ⟨o1, o2, hw1, hq2, _⟩ := Sep.ex HS.out
      have HB := Aside0.mk (Sep.hb HS.out)
      have hmm : s.m ≤ 900 ∧ R.length ≤ 20000 := by have := HF.out; omega
      have hzz := HZ.out
      have hfair := HF.out.1
      obtain ⟨lf, hlf⟩ : ∃ x, 8 * ((Z : Int) - 3 - s.m) - R.length = x := ⟨_, rfl⟩
      have CL2 : Aside0 (∀ wz, Below wr.heap.size wr wz → Calls Try.prog 18 #[.pointer (some ⟨g2, 0, none⟩)] wz fun e w' => e = .returned (.int .i64 lf) ∧ Below wz.heap.size wz w') := ⟨fun wz hb => (RfWalk.rleft_any o2 g2 Z s.g _ _ wz (RfB.below hq2 hb) (by omega) (by rw [Wr.dig_len]; omega) (by rw [List.length_map]; omega)).mono (fun e w' h => ⟨by rw [h.1, Wr.dig_len, List.length_map, ← hlf]; congr 2; omega, h.2⟩)⟩
      by_cases hfit : Fits Z s.m R.length
      · have hl0 : decide (lf < 0) = false := decide_eq_false (by unfold Fits at hfit; omega)
        obtain ⟨P1, hP1⟩ : ∃ P1, pk Z s.m s.V R = P1 := ⟨_, rfl⟩
        have CD : Aside0 (Calls Try.prog 13 #[.pointer (some ⟨g1, 0, none⟩)] wr fun e w' => ∃ gb, e = .returned (.tuple #[.slice (some ⟨gb, 0, none⟩) Z Z, .int .i64 0]) ∧ Kd.R (Kd.int .u8) 5 w' 0 (fun k => wr.heap.size ≤ k) (.slice (some ⟨gb, 0, none⟩) Z Z) P1 ∧ Below wr.heap.size wr w') := ⟨hP1 ▸ done_yes o1 g1 Z s R wr hw1 (by omega) hfit⟩
        have CP : Aside0 (∀ wz, Below wr.heap.size wr wz → Calls Try.prog 20 #[.pointer (some ⟨g2, 0, none⟩)] wz fun e w' => ∃ Av cv, e = .returned (.slice Av Z cv) ∧ Kd.R (Kd.int .i64) 3 w' 0 (fun k => wz.heap.size ≤ k) (.slice Av Z cv) P1 ∧ Below wz.heap.size wz w') := ⟨fun wz hb => (RfWalk.packet_any o2 g2 Z s R wz (RfB.below hq2 hb) (by omega) hmm.2 hmm.1).mono (fun e w' h => by
          obtain ⟨v, he, hR, hb2⟩ := h
          obtain ⟨Av, cv, rfl⟩ := Kd.R_slice hR
          rw [hP1] at hR he
          rw [show P1.length = Z by rw [← hP1, pk_len]] at hR he
          exact ⟨Av, cv, he, hR, hb2⟩)⟩
        have HPB : Aside0 (P1.length = Z ∧ ∀ x ∈ P1, 0 ≤ x ∧ x ≤ 255) := ⟨by rw [← hP1]; exact ⟨pk_len _ _ _ _, fun x hx => pk_in hfit x hx⟩⟩
        have CS : Aside0 (∀ wz gb Av cv, Kd.C (Kd.int .u8) wz (some ⟨gb, 0, none⟩) Z P1 → Kd.C (Kd.int .i64) wz Av Z P1 → Calls Try.prog 19 #[.slice (some ⟨gb, 0, none⟩) Z Z, .slice Av Z cv] wz fun e w' => e = .returned (.bool true) ∧ Below wz.heap.size wz w') := ⟨fun wz gb Av cv h0 h1 => RfWalk.same_any _ Z _ cv Z P1 wz (by omega) HPB.out.2 h0 h1⟩
        have HBr := Aside0.mk (Below.refl wr.heap.size wr)
        have ht' : ¬ (k : Int) < (n : Int) := by omega
        clear hw1 hq2 hmm hzz hfair hlf hfit hP1 ht
        go_wp2_with (first
          | (go_at_call 13; (with_reducible refine CD.out.mono ?_); rintro e w1 ⟨gb, rfl, hR, hb⟩; have HR := Aside0.mk hR; have HB1 := Aside0.mk (hb.mono (Nat.le_refl _)); clear hR hb)
          | (go_at_call 18; (with_reducible refine (CL2.out _ HB1.out).mono ?_); rintro e w2 ⟨rfl, hb⟩; have HR2 := Aside0.mk (Kd.R_below HR.out hb); have HB2 := Aside0.mk (below_step HB1.out hb); clear hb)
          | (go_at_call 20; (with_reducible refine (CP.out _ HB2.out).mono ?_); rintro e w3 ⟨Av, cv, rfl, hR, hb⟩; have HR3 := Aside0.mk (Kd.R_below HR2.out hb); have HV := Aside0.mk hR; have HB3 := Aside0.mk (below_step HB2.out hb); clear hR hb)
          | (go_at_call 19; (with_reducible refine (CS.out _ _ _ _ (row_c8 HR3.out HPB.out.1) (row_ci HV.out HPB.out.1)).mono ?_); rintro e w4 ⟨rfl, hb⟩; have HB4 := Aside0.mk (below_step HB3.out hb); clear hb))
        go_ret
        exact ⟨rfl, below_step HB.out HB4.out⟩
      · have hl0 : decide (lf < 0) = true := decide_eq_true (by unfold Fits at hfit; omega)
        have CD : Aside0 (Calls Try.prog 13 #[.pointer (some ⟨g1, 0, none⟩)] wr fun e w' => e = .returned (.tuple #[.slice none 0 0, .int .i64 4]) ∧ Below wr.heap.size wr w') := ⟨done_not o1 g1 Z s R wr hw1 (by omega) (by omega) (by omega) hfit⟩
        have ht' : ¬ (k : Int) < (n : Int) := by omega
        clear hw1 hq2 hmm hzz hfair hlf hfit ht
        go_wp2_with (first
          | (go_at_call 13; (with_reducible refine CD.out.mono ?_); rintro e w1 ⟨rfl, hb⟩; have HB1 := Aside0.mk (hb.mono (Nat.le_refl _)); clear hb)
          | (go_at_call 18; (with_reducible refine (CL2.out _ HB1.out).mono ?_); rintro e w2 ⟨rfl, hb⟩; have HB2 := Aside0.mk (below_step HB1.out hb); clear hb))
        go_ret
        exact ⟨rfl, below_step HB.out HB2.out⟩
theorem plays_row (a0 : Int) (w0 : (Lit.int .i64 a0).wf = true) (a1 : Option Addr) (len1 cap1 : Nat) (z1 : List (List Int)) (w : World) (w1 : StructRows.Rows [.u8, .i64, .i64, .i64, .u32] w a1 len1 cap1 z1) :
    Calls Try.prog 5 #[.int .i64 a0, .slice a1 len1 cap1] w fun e w' => e = .returned (.bool true) ∧ Below w.heap.size w w' := by
  obtain ⟨hD, _, hop⟩ := ops31 w1
  by_cases hn : len1 ≤ 200
  · by_cases hs : 4 ≤ a0 ∧ a0 ≤ 1275
    · obtain ⟨Z, rfl⟩ := Int.eq_ofNat_of_zero_le (show 0 ≤ a0 by omega)
      exact plays_at Z (by omega) (z1.map to31) len1 hD.1 hn (fun o ho => ⟨(Math.wf_u8 (hop o ho).1).1, wf_u32 (hop o ho).2.2.2.2⟩) a1 cap1 w hD
    · exact plays_not a0 a1 len1 cap1 w (decide_eq_false (by omega)) (by omega)
  · exact plays_long _ _ _ _ _ (decide_eq_true (by omega))
end Go.Proofs.Ytcobbiapgihefaa.WrLaw
