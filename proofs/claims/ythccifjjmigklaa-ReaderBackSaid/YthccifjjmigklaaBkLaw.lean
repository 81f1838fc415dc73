import Derived.Test.YthccifjjmigklaaBkRows
import Derived.Test.YthccifjjmigklaaRdTwo
namespace Go.Proofs.Ythccifjjmigklaa.WrLaw
open Go.RowKit Go.Proofs.YthccifjjmigklaaW.PrintWords Go.Proofs.YthccifjjmigklaaW.PrintLast Go.Proofs.YthccifjjmigklaaW.PrintMore
open Go.Proofs.Ythccifjjmigklaa.Wr (St)
open Go.Proofs.Ythccifjjmigklaa.WrWalk
open Go.Proofs.Ythccifjjmigklaa.Pack (pk pk_len pk_in)
open Go.Proofs.Ythccifjjmigklaa.Back (Rel)
open Go.Proofs.Ythccifjjmigklaa.RdWalk (RdAt rd_new rd_get rd_take rd_raw rd_left rd_rng)
set_option linter.unusedVariables false
set_option linter.unusedSimpArgs false
def leftO (Z : Nat) (L : List S51) : Int := 8 * ((Z : Int) - 3 - (runS L).m) - ((runR L).length : Int)
structure BInv (Z k : Nat) (L : List S51) (LL GG : List Int) : Prop where
  okk : ∀ o ∈ L, okO o
  le : L.length ≤ k
  l1 : LL.length = L.length
  l2 : GG.length = L.length
  at_ : ∀ i, i < L.length → LL.getD i 0 = leftO Z (L.take (i + 1)) ∧ GG.getD i 0 = (runS (L.take (i + 1))).g
theorem binv_nil (Z : Nat) : BInv Z 0 [] [] [] := ⟨(fun o h => absurd h (by simp)), Nat.le_refl _, rfl, rfl, fun i h => absurd h (Nat.not_lt_zero _)⟩
theorem BInv.skip {Z k : Nat} {L : List S51} {LL GG : List Int} (h : BInv Z k L LL GG) : BInv Z (k + 1) L LL GG := ⟨h.okk, Nat.le_succ_of_le h.le, h.l1, h.l2, h.at_⟩
theorem BInv.more {Z k : Nat} {L : List S51} {LL GG : List Int} (h : BInv Z k L LL GG) (o : S51) (ho : okO o) : BInv Z (k + 1) (L ++ [o]) (LL ++ [leftO Z (L ++ [o])]) (GG ++ [(runS (L ++ [o])).g]) := by
  refine ⟨fun x hx => ?_, by rw [List.length_append]; have := h.le; simp; omega, by simp [h.l1], by simp [h.l2], fun i hi => ?_⟩
  · rcases List.mem_append.1 hx with hx | hx
    · exact h.okk x hx
    · rw [List.mem_singleton] at hx; exact hx ▸ ho
  · rw [List.length_append, List.length_singleton] at hi
    by_cases hl : i < L.length
    · rw [List.take_append_of_le_length (by omega), List.getD_eq_getElem?_getD, List.getElem?_append_left (by rw [h.l1]; exact hl), ← List.getD_eq_getElem?_getD, List.getD_eq_getElem?_getD (l := GG ++ _), List.getElem?_append_left (by rw [h.l2]; exact hl), ← List.getD_eq_getElem?_getD]
      exact h.at_ i hl
    · obtain rfl : i = L.length := by omega
      rw [List.take_of_length_le (by simp), List.getD_eq_getElem?_getD, List.getElem?_append_right (by rw [h.l1]; exact Nat.le_refl _), h.l1, Nat.sub_self, List.getD_eq_getElem?_getD (l := GG ++ _), List.getElem?_append_right (by rw [h.l2]; exact Nat.le_refl _), h.l2, Nat.sub_self]
      exact ⟨rfl, rfl⟩
theorem r3_nil (w : World) : R3 (.slice none 0 0) (.slice none 0 0) (.slice none 0 0) [] [] [] (fun _ => False) w := ⟨Kd.R_nil _ _ _ _ _, Kd.R_nil _ _ _ _ _, Kd.R_nil _ _ _ _ _⟩
theorem last_is {nn : Nat} (h : 0 < nn) (h2 : nn ≤ 200) : wrap64 ((nn : Int) - 1) = ((nn - 1 : Nat) : Int) := by rw [w64n (by omega) (by omega)]; omega
theorem rows_c {w : World} {A0 : Option Addr} {nn c : Nat} {L : List S51} {ok : Nat → Prop} (h : Kd.R k51 51 w 0 ok (.slice A0 nn c) L) (hl : L.length = nn) : Kd.C k51 w A0 nn L := by
  obtain ⟨h1, h2, h3⟩ := Kd.R_reads' h
  rw [hl] at h3
  exact h3
theorem bytes_c {w : World} {gb Z : Nat} {BB : List Int} {ok : Nat → Prop} (h : Kd.R (Kd.int .u8) 5 w 0 ok (.slice (some ⟨gb, 0, none⟩) Z Z) BB) (hl : BB.length = Z) : Kd.C (Kd.int .u8) w (some ⟨gb, 0, none⟩) Z BB := by
  obtain ⟨h1, h2, h3⟩ := Kd.R_reads' h
  rw [hl] at h3
  exact h3
theorem R_openG {α : Type} {d : Kd α} {w : World} {e base : Nat} {ok : Nat → Prop} {v : Value} {xs : List α} (h : d.R e w base ok v xs) (hn : 0 < xs.length) : ∃ gb c, v = .slice (some ⟨gb, 0, none⟩) xs.length c := by
  obtain ⟨inner, hi, ho⟩ := Kd.R_own h
  rcases ho with ⟨_, h0⟩ | ⟨gb, cap, cur, rfl, _⟩
  · omega
  · exact ⟨gb, cap, rfl⟩
/-- A reader, what lay there ahead of it, a box. -/
structure RT (wq : World) (gr : Nat) (BB : List Int) (r : Rd.St) (bx : Nat) (bo : Obj) (w : World) : Prop where
  x : RdAt w gr BB r
  hb : Below wq.heap.size wq w
  hz : w.heap[bx]? = some bo
theorem RT.step {wq w w' : World} {gr bx : Nat} {BB : List Int} {r r' : Rd.St} {bo : Obj} (T : RT wq gr BB r bx bo w) (hge : wq.heap.size ≤ gr) (hne : bx ≠ gr) (hI : RdAt w' gr BB r') (hb : Below gr w w') (hk : KeepBut w w' gr none) : RT wq gr BB r' bx bo w' :=
  ⟨hI, T.hb.trans (hb.mono hge), (hk.2 bx (blk_lt T.hz) hne (by simp)).trans T.hz⟩
theorem RT.below {wq w w' : World} {gr bx : Nat} {BB : List Int} {r : Rd.St} {bo : Obj} (T : RT wq gr BB r bx bo w) (h : Below w.heap.size w w') : RT wq gr BB r bx bo w' :=
  ⟨T.x.below h, T.hb.trans (h.mono T.hb.size), (h.block bx (blk_lt T.hz)).trans T.hz⟩
theorem size3_is {z Z : Int} (hz : 0 ≤ z ∧ z < 65536) (hZ : 4 + z % 1272 = Z) : wrap64 (4 + (wrap64 z).tmod 1272) = Z := by
  rw [w64n (x := z) (by omega) (by omega), Int.tmod_eq_emod_of_nonneg hz.1, w64n (by omega) (by omega)]; exact hZ
set_option maxHeartbeats 4000000 in
set_option maxRecDepth 100000 in
theorem back_long (sz : Int) (A1 : Option Addr) (n c1 : Nat) (w : World) (hd2 : decide ((200 : Int) < (n : Int)) = true) :
    Calls Try.prog 7 #[.int .u16 sz, .slice A1 n c1] w fun e w' => e = .returned (.bool true) ∧ Below w.heap.size w w' := by
  have HB := Aside0.mk (Below.refl w.heap.size w)
  go_enter Try.func7, Try.ntmps7
  go_wp2_with (first
    | (go_at_call 8; (with_reducible refine (RdLaw.awake_any _).mono ?_); rintro e wa ⟨rfl, hb⟩; have HB1 := Aside0.mk (below_step HB.out hb); clear HB hb; have HB := HB1; clear HB1))
  go_ret
  exact ⟨rfl, HB.out⟩
set_option maxHeartbeats 8000000 in
set_option maxRecDepth 100000 in
theorem back_at (z : Int) (Z : Nat) (hz : 0 ≤ z ∧ z < 65536) (hZ : 4 + z % 1272 = Z) (l : List S51) (n : Nat) (hn : l.length = n) (hn2 : n ≤ 200) (hop : ∀ o ∈ l, 0 ≤ o.f0 ∧ 0 ≤ o.f4 ∧ o.f4 < 4294967296) (A1 : Option Addr) (c1 : Nat) (w : World) (hD : Kd.C k51 w A1 n l) :
    Calls Try.prog 7 #[.int .u16 z, .slice A1 n c1] w fun e w' => e = .returned (.bool true) ∧ Below w.heap.size w w' := by
  have HB := Aside0.mk (Below.refl w.heap.size w)
  have HD := Aside0.mk hD
  have HN := Aside0.mk hn
  have HOP := Aside0.mk hop
  have HZ : Aside0 (4 ≤ Z ∧ Z ≤ 1275) := ⟨by omega⟩
  have hd2 : decide ((200 : Int) < (n : Int)) = false := decide_eq_false (by omega)
  have hu := size3_is hz hZ
  have CN : Aside0 (∀ w1, Calls Try.prog 20 #[.int .i64 Z] w1 fun e w' => ∃ g, e = .returned (.tuple #[.pointer (some ⟨g, 0, none⟩), .int .i64 0]) ∧ WrAt (fun k => w1.heap.size ≤ k) w' g Z Wr.new [] ∧ Below w1.heap.size w1 w') := ⟨fun w1 => new_wr2 Z (by have := HZ.out; omega) w1⟩
  clear hD hn hZ hz hop
  go_enter Try.func7, Try.ntmps7
  go_wp2_with (first
    | (go_at_call 8; (with_reducible refine (RdLaw.awake_any _).mono ?_); rintro e wa ⟨rfl, hb⟩; have HB1 := Aside0.mk (below_step HB.out hb); clear HB hb; have HB := HB1; clear HB1)
    | (go_at_call 20; (with_reducible refine (CN.out wa).mono ?_); rintro e wx ⟨g, rfl, hI, hb⟩; have HS0 := Aside0.mk (And.intro hI hb); clear hb hI))
  have HS : Aside0 (Sep w (fun ok w => WrAt ok w g Z (runS []) (runR [])) (R3 (.slice none 0 0) (.slice none 0 0) (.slice none 0 0) [] [] []) none wx) := ⟨Sep.two (Sep.one (below_step HB.out HS0.out.2) (ow_wr g Z (runS []) (runR [])) HS0.out.1 (fun k hk => Nat.le_trans HB.out.size hk)) (ow_wr g Z (runS []) (runR [])) (ow_r3 _ _ _ _ _ _) (o := fun _ => False) (Below.refl _ _) (r3_nil wx) (fun k hk => hk.elim)⟩
  clear HB HS0
  go_loopw [7, 8, 9, 40] (fun vl vr vp i wr => ∃ (k : Nat) (L : List S51) (LL GG : List Int), k ≤ n ∧ i = .int .i64 k ∧ Aside0 (Sep w (fun ok w => WrAt ok w g Z (runS L) (runR L)) (R3 vp vl vr L LL GG) none wr) ∧ Aside0 (BInv Z k L LL GG)) (fun _ _ _ i _ => (n - intOf i).toNat)
  case atStart => exact ⟨0, [], [], [], by omega, rfl, HS, ⟨binv_nil Z⟩⟩
  case round =>
    obtain ⟨k, L, LL, GG, hk, rfl, HS2, HI⟩ := hrel
    clear HS
    have HS := HS2
    clear HS2
    by_cases ht : k < n
    · obtain ⟨ad, hA, hc0, hc1, hc2, hc3, hc4⟩ := at_T51 (Kd.C_below HD.out HS.out.hb) (k : Int) (by omega) (by omega)
      have hK0 : 0 ≤ (rd_T51 l k).f0 ∧ 0 ≤ (rd_T51 l k).f4 ∧ (rd_T51 l k).f4 < 4294967296 := HOP.out _ (by unfold rd_T51; rw [Int.toNat_natCast, List.getD_eq_getElem?_getD, List.getElem?_eq_getElem (by rw [HN.out]; exact ht)]; exact List.getElem_mem _)
      rw [Int.toNat_natCast] at hc0 hc1 hc2 hc3 hc4
      obtain ⟨⟨K, F, T, M, X⟩, ho⟩ : ∃ o, rd_T51 l k = o := ⟨_, rfl⟩
      rw [ho] at hc0 hc1 hc2 hc3 hc4 hK0
      simp only at hc0 hc1 hc2 hc3 hc4 hK0
      clear ho
      subst hA
      have hrf := run_fair L
      have hle := HI.out.le
      have hm3 : (runS L).m ≤ 900 := by omega
      have hR5 : (runR L).length ≤ 40000 := by omega
      have hlL : L.length ≤ 10000 ∧ LL.length ≤ 10000 ∧ GG.length ≤ 10000 := by have := HI.out.l1; have := HI.out.l2; omega
      obtain ⟨L', hL'⟩ : ∃ L', L ++ [(⟨K, F, T, M, X⟩ : S51)] = L' := ⟨_, rfl⟩
      have hS' : runS L' = opS (runS L) ⟨K, F, T, M, X⟩ := by rw [← hL', runS_app]
      have hR' : runR L' = opR (runR L) ⟨K, F, T, M, X⟩ := by rw [← hL', runR_app]
      have hrf' := run_fair L'
      have hll' : L'.length ≤ 300 := by rw [← hL', List.length_append, List.length_singleton]; omega
      obtain ⟨lf, hlf⟩ : ∃ x, leftO Z L' = x := ⟨_, rfl⟩
      obtain ⟨gg, hgg⟩ : ∃ x, (runS L').g = x := ⟨_, rfl⟩
      have CL : Aside0 (∀ wz zb Q, Ow Q → Sep w (fun ok w => WrAt ok w g Z (runS L') (runR L')) Q zb wz → Calls Try.prog 23 #[.pointer (some ⟨g, 0, none⟩)] wz fun e w' => e = .returned (.int .i64 lf) ∧ Sep w (fun ok w => WrAt ok w g Z (runS L') (runR L')) Q zb w') := ⟨fun wz zb Q oQ S => hlf ▸ S.call1 (ow_wr g Z (runS L') (runR L')) (ow_wr g Z (runS L') (runR L')) oQ (fun ok hfr H => wr_left H (by have := HZ.out; omega) (by omega) (by omega))⟩
      have CR : Aside0 (∀ wz zb Q, Ow Q → Sep w (fun ok w => WrAt ok w g Z (runS L') (runR L')) Q zb wz → Calls Try.prog 24 #[.pointer (some ⟨g, 0, none⟩)] wz fun e w' => e = .returned (.int .u32 gg) ∧ Sep w (fun ok w => WrAt ok w g Z (runS L') (runR L')) Q zb w') := ⟨fun wz zb Q oQ S => hgg ▸ S.call1 (ow_wr g Z (runS L') (runR L')) (ow_wr g Z (runS L') (runR L')) oQ (fun ok hfr H => wr_rng H)⟩
      have HI1 := Aside0.mk HI.out.skip
      have HI2 : okO (⟨K, F, T, M, X⟩ : S51) → BInv Z (k + 1) L' (LL ++ [lf]) (GG ++ [gg]) := fun h => by
        have h2 := HI.out.more _ h
        rw [hL', hlf, hgg] at h2
        exact h2
      clear hlf hgg hrf'
      by_cases h2 : K % 2 = 0
      · have hf : Int.tmod K 2 = 0 := by rw [Int.tmod_eq_emod_of_nonneg hK0.1]; exact h2
        have hput := fun wz zb (S : Sep w (fun ok w => WrAt ok w g Z (runS L) (runR L)) (R3 u9 u7 u8 L LL GG) zb wz) => S.call1 (ow_wr g Z (runS L) (runR L)) (ow_wr g Z (Wr.put (runS L) F T M) (runR L)) (ow_r3 u9 u7 u8 L LL GG) (fun ok hfr H => put_any ok g Z F T M (runS L) (runR L) wz hrf.1 hm3 hfr H)
        by_cases hok : Rd.ok F T M
        · have HI3 := Aside0.mk (HI2 ⟨hK0.1, hK0.2.1, by rw [if_pos h2]; exact hok⟩)
          have C1 : Aside0 (∀ wz zb, Sep w (fun ok w => WrAt ok w g Z (runS L) (runR L)) (R3 u9 u7 u8 L LL GG) zb wz → Calls Try.prog 21 #[.pointer (some ⟨g, 0, none⟩), .int .i64 F, .int .i64 T, .int .i64 M] wz fun e w' => e = .returned (.int .i64 0) ∧ Sep w (fun ok w => WrAt ok w g Z (runS L') (runR L')) (R3 u9 u7 u8 L LL GG) zb w') := ⟨fun wz zb S => by
            have h := hput wz zb S
            rw [if_pos hok] at h
            rw [hS', hR']
            unfold opS opR
            rw [if_pos h2, if_pos h2]
            exact h⟩
          clear HI2 hS' hR' hok h2 hK0 hrf hle hm3 hR5 hll' hput
          go_wp2_with (first
            | (go_at_call 21; (with_reducible refine (C1.out _ _ (Sep.box (ow_wr g Z (runS L) (runR L)) (ow_r3 u9 u7 u8 L LL GG) HS.out _)).mono ?_); rintro e w1 ⟨rfl, hT⟩; have hh := (hT.hz _ rfl).2; have hv0 : w1.cell? ⟨wr.heap.size, 0, none⟩ = some (.int .u8 K) := (blk_cell hh 0).trans rfl; have hv1 : w1.cell? ⟨wr.heap.size, 1, none⟩ = some (.int .i64 F) := (blk_cell hh 1).trans rfl; have hv2 : w1.cell? ⟨wr.heap.size, 2, none⟩ = some (.int .i64 T) := (blk_cell hh 2).trans rfl; have hv3 : w1.cell? ⟨wr.heap.size, 3, none⟩ = some (.int .i64 M) := (blk_cell hh 3).trans rfl; have hv4 : w1.cell? ⟨wr.heap.size, 4, none⟩ = some (.int .u32 X) := (blk_cell hh 4).trans rfl; have m0 := Aside0.mk hT; clear hh HS hT; have HS := m0; clear m0)
            | ((with_reducible refine gate_builtin (b := .append) (xs := #[.tmp 64, .tmp 66]) rfl ?_); at_builtin; refine app_put HS.out (ow_wr g Z (runS L') (runR L')) rfl (.tmp 64) (.tmp 66) rfl rfl rfl ⟨K, F, T, M, X⟩ hlL.1 ?_; intro v1 w2 hT; rw [hL'] at hT; clear hv0 hv1 hv2 hv3 hv4; have m0 := Aside0.mk hT; clear HS hT; have HS := m0; clear m0)
            | (go_at_call 23; (with_reducible refine (CL.out _ _ _ (ow_r3 v1 u7 u8 L' LL GG) HS.out).mono ?_); rintro e w3 ⟨rfl, hT⟩; have m0 := Aside0.mk hT; clear HS hT; have HS := m0; clear m0)
            | ((with_reducible refine gate_builtin (b := .append) (xs := #[.tmp 68, .tmp 71]) rfl ?_); at_builtin; refine app_left HS.out (ow_wr g Z (runS L') (runR L')) rfl (.tmp 68) (.tmp 71) rfl rfl rfl lf hlL.2.1 ?_; intro v2 w4 hT; have m0 := Aside0.mk hT; clear HS hT; have HS := m0; clear m0)
            | (go_at_call 24; (with_reducible refine (CR.out _ _ _ (ow_r3 v1 v2 u8 L' (LL ++ [lf]) GG) HS.out).mono ?_); rintro e w5 ⟨rfl, hT⟩; have m0 := Aside0.mk hT; clear HS hT; have HS := m0; clear m0)
            | ((with_reducible refine gate_builtin (b := .append) (xs := #[.tmp 73, .tmp 76]) rfl ?_); at_builtin; refine app_rng HS.out (ow_wr g Z (runS L') (runR L')) rfl (.tmp 73) (.tmp 76) rfl rfl rfl gg hlL.2.2 ?_; intro v3 w6 hT; have m0 := Aside0.mk hT; clear HS hT; have HS := m0; clear m0))
          exact ⟨⟨k + 1, L', LL ++ [lf], GG ++ [gg], by omega, congrArg (Value.int .i64) (by omega), ⟨HS.out.unbox⟩, HI3⟩, by simp [intOf]; omega⟩
        · have C1 : Aside0 (∀ wz zb, Sep w (fun ok w => WrAt ok w g Z (runS L) (runR L)) (R3 u9 u7 u8 L LL GG) zb wz → Calls Try.prog 21 #[.pointer (some ⟨g, 0, none⟩), .int .i64 F, .int .i64 T, .int .i64 M] wz fun e w' => e = .returned (.int .i64 1) ∧ Sep w (fun ok w => WrAt ok w g Z (runS L) (runR L)) (R3 u9 u7 u8 L LL GG) zb w') := ⟨fun wz zb S => by
            have h := hput wz zb S
            rw [if_neg hok, show Wr.put (runS L) F T M = runS L by unfold Wr.put; rw [if_neg hok]] at h
            exact h⟩
          clear HI2 hS' hR' hok h2 hK0 hrf hle hm3 hR5 hll' hput
          go_wp2_with (first
            | (go_at_call 21; (with_reducible refine (C1.out _ _ (Sep.box (ow_wr g Z (runS L) (runR L)) (ow_r3 u9 u7 u8 L LL GG) HS.out _)).mono ?_); rintro e w1 ⟨rfl, hT⟩; have hh := (hT.hz _ rfl).2; have hv0 : w1.cell? ⟨wr.heap.size, 0, none⟩ = some (.int .u8 K) := (blk_cell hh 0).trans rfl; have hv1 : w1.cell? ⟨wr.heap.size, 1, none⟩ = some (.int .i64 F) := (blk_cell hh 1).trans rfl; have hv2 : w1.cell? ⟨wr.heap.size, 2, none⟩ = some (.int .i64 T) := (blk_cell hh 2).trans rfl; have hv3 : w1.cell? ⟨wr.heap.size, 3, none⟩ = some (.int .i64 M) := (blk_cell hh 3).trans rfl; have hv4 : w1.cell? ⟨wr.heap.size, 4, none⟩ = some (.int .u32 X) := (blk_cell hh 4).trans rfl; have m0 := Aside0.mk hT; clear hh HS hT; have HS := m0; clear m0))
          exact ⟨⟨k + 1, L, LL, GG, by omega, congrArg (Value.int .i64) (by omega), ⟨HS.out.unbox⟩, HI1⟩, by simp [intOf]; omega⟩
      · have hf : Int.tmod K 2 = 1 := by rw [Int.tmod_eq_emod_of_nonneg hK0.1]; omega
        have hraw := fun wz zb (S : Sep w (fun ok w => WrAt ok w g Z (runS L) (runR L)) (R3 u9 u7 u8 L LL GG) zb wz) => S.call1 (ow_wr g Z (runS L) (runR L)) (ow_wr g Z (runS L) (runR L ++ rawN X T)) (ow_r3 u9 u7 u8 L LL GG) (fun ok hfr H => wr_raw H X T hK0.2.1 hK0.2.2 (by omega) hfr)
        by_cases hok : Rw X T
        · have HI3 := Aside0.mk (HI2 ⟨hK0.1, hK0.2.1, by rw [if_neg h2]; exact hok⟩)
          have C1 : Aside0 (∀ wz zb, Sep w (fun ok w => WrAt ok w g Z (runS L) (runR L)) (R3 u9 u7 u8 L LL GG) zb wz → Calls Try.prog 22 #[.pointer (some ⟨g, 0, none⟩), .int .u32 X, .int .i64 T] wz fun e w' => e = .returned (.int .i64 0) ∧ Sep w (fun ok w => WrAt ok w g Z (runS L') (runR L')) (R3 u9 u7 u8 L LL GG) zb w') := ⟨fun wz zb S => by
            have h := hraw wz zb S
            rw [if_pos hok] at h
            rw [hS', hR']
            unfold opS opR
            rw [if_neg h2, if_neg h2]
            exact h⟩
          clear HI2 hS' hR' hok h2 hK0 hrf hle hm3 hR5 hll' hraw
          go_wp2_with (first
            | (go_at_call 22; (with_reducible refine (C1.out _ _ (Sep.box (ow_wr g Z (runS L) (runR L)) (ow_r3 u9 u7 u8 L LL GG) HS.out _)).mono ?_); rintro e w1 ⟨rfl, hT⟩; have hh := (hT.hz _ rfl).2; have hv0 : w1.cell? ⟨wr.heap.size, 0, none⟩ = some (.int .u8 K) := (blk_cell hh 0).trans rfl; have hv1 : w1.cell? ⟨wr.heap.size, 1, none⟩ = some (.int .i64 F) := (blk_cell hh 1).trans rfl; have hv2 : w1.cell? ⟨wr.heap.size, 2, none⟩ = some (.int .i64 T) := (blk_cell hh 2).trans rfl; have hv3 : w1.cell? ⟨wr.heap.size, 3, none⟩ = some (.int .i64 M) := (blk_cell hh 3).trans rfl; have hv4 : w1.cell? ⟨wr.heap.size, 4, none⟩ = some (.int .u32 X) := (blk_cell hh 4).trans rfl; have m0 := Aside0.mk hT; clear hh HS hT; have HS := m0; clear m0)
            | ((with_reducible refine gate_builtin (b := .append) (xs := #[.tmp 64, .tmp 66]) rfl ?_); at_builtin; refine app_put HS.out (ow_wr g Z (runS L') (runR L')) rfl (.tmp 64) (.tmp 66) rfl rfl rfl ⟨K, F, T, M, X⟩ hlL.1 ?_; intro v1 w2 hT; rw [hL'] at hT; clear hv0 hv1 hv2 hv3 hv4; have m0 := Aside0.mk hT; clear HS hT; have HS := m0; clear m0)
            | (go_at_call 23; (with_reducible refine (CL.out _ _ _ (ow_r3 v1 u7 u8 L' LL GG) HS.out).mono ?_); rintro e w3 ⟨rfl, hT⟩; have m0 := Aside0.mk hT; clear HS hT; have HS := m0; clear m0)
            | ((with_reducible refine gate_builtin (b := .append) (xs := #[.tmp 68, .tmp 71]) rfl ?_); at_builtin; refine app_left HS.out (ow_wr g Z (runS L') (runR L')) rfl (.tmp 68) (.tmp 71) rfl rfl rfl lf hlL.2.1 ?_; intro v2 w4 hT; have m0 := Aside0.mk hT; clear HS hT; have HS := m0; clear m0)
            | (go_at_call 24; (with_reducible refine (CR.out _ _ _ (ow_r3 v1 v2 u8 L' (LL ++ [lf]) GG) HS.out).mono ?_); rintro e w5 ⟨rfl, hT⟩; have m0 := Aside0.mk hT; clear HS hT; have HS := m0; clear m0)
            | ((with_reducible refine gate_builtin (b := .append) (xs := #[.tmp 73, .tmp 76]) rfl ?_); at_builtin; refine app_rng HS.out (ow_wr g Z (runS L') (runR L')) rfl (.tmp 73) (.tmp 76) rfl rfl rfl gg hlL.2.2 ?_; intro v3 w6 hT; have m0 := Aside0.mk hT; clear HS hT; have HS := m0; clear m0))
          exact ⟨⟨k + 1, L', LL ++ [lf], GG ++ [gg], by omega, congrArg (Value.int .i64) (by omega), ⟨HS.out.unbox⟩, HI3⟩, by simp [intOf]; omega⟩
        · have C1 : Aside0 (∀ wz zb, Sep w (fun ok w => WrAt ok w g Z (runS L) (runR L)) (R3 u9 u7 u8 L LL GG) zb wz → Calls Try.prog 22 #[.pointer (some ⟨g, 0, none⟩), .int .u32 X, .int .i64 T] wz fun e w' => e = .returned (.int .i64 1) ∧ Sep w (fun ok w => WrAt ok w g Z (runS L) (runR L)) (R3 u9 u7 u8 L LL GG) zb w') := ⟨fun wz zb S => by
            have h := hraw wz zb S
            rw [if_neg hok, show rawN X T = [] by unfold rawN; rw [if_neg hok], List.append_nil] at h
            exact h⟩
          clear HI2 hS' hR' hok h2 hK0 hrf hle hm3 hR5 hll' hraw
          go_wp2_with (first
            | (go_at_call 22; (with_reducible refine (C1.out _ _ (Sep.box (ow_wr g Z (runS L) (runR L)) (ow_r3 u9 u7 u8 L LL GG) HS.out _)).mono ?_); rintro e w1 ⟨rfl, hT⟩; have hh := (hT.hz _ rfl).2; have hv0 : w1.cell? ⟨wr.heap.size, 0, none⟩ = some (.int .u8 K) := (blk_cell hh 0).trans rfl; have hv1 : w1.cell? ⟨wr.heap.size, 1, none⟩ = some (.int .i64 F) := (blk_cell hh 1).trans rfl; have hv2 : w1.cell? ⟨wr.heap.size, 2, none⟩ = some (.int .i64 T) := (blk_cell hh 2).trans rfl; have hv3 : w1.cell? ⟨wr.heap.size, 3, none⟩ = some (.int .i64 M) := (blk_cell hh 3).trans rfl; have hv4 : w1.cell? ⟨wr.heap.size, 4, none⟩ = some (.int .u32 X) := (blk_cell hh 4).trans rfl; have m0 := Aside0.mk hT; clear hh HS hT; have HS := m0; clear m0))
          exact ⟨⟨k + 1, L, LL, GG, by omega, congrArg (Value.int .i64) (by omega), ⟨HS.out.unbox⟩, HI1⟩, by simp [intOf]; omega⟩
    · obtain ⟨o1, o2, hw1, hq2, _, _, _⟩ := HS.out.ex
      have HB := Aside0.mk HS.out.hb
      obtain ⟨hp, hl, hr⟩ := hq2
      obtain ⟨Ap, cp, rfl⟩ := Kd.R_slice hp
      obtain ⟨Al, cl, rfl⟩ := Kd.R_slice hl
      obtain ⟨Ar, cr, rfl⟩ := Kd.R_slice hr
      have hl1 := HI.out.l1
      have hl2 := HI.out.l2
      have hle := HI.out.le
      have hrf := run_fair L
      obtain ⟨nn, hnn⟩ : ∃ nn, L.length = nn := ⟨_, rfl⟩
      rw [hnn] at hp hl1 hl2 hle hrf
      rw [hl1] at hl
      rw [hl2] at hr
      rw [hnn, hl1, hl2]
      have HP := Aside0.mk hp
      have HL := Aside0.mk hl
      have HR := Aside0.mk hr
      have HBr := Aside0.mk (Below.refl wr.heap.size wr)
      obtain ⟨F, hF⟩ : ∃ F, runS L = F := ⟨_, rfl⟩
      obtain ⟨RF, hRF⟩ : ∃ RF, runR L = RF := ⟨_, rfl⟩
      rw [hF, hRF] at hw1 hrf
      have HFR := Aside0.mk (And.intro hF hRF)
      have HLN := Aside0.mk (And.intro hnn (And.intro hl1 hl2))
      have hnn2 : nn ≤ 200 := by omega
      by_cases hfit : Fits Z F.m RF.length
      · obtain ⟨BB, hBB⟩ : ∃ BB, pk Z F.m F.V RF = BB := ⟨_, rfl⟩
        have HBY : Aside0 (Rd.Bytes BB ∧ BB.length = Z) := ⟨by rw [← hBB]; exact ⟨pk_in hfit, pk_len _ _ _ _⟩⟩
        have CD : Aside0 (Calls Try.prog 25 #[.pointer (some ⟨g, 0, none⟩)] wr fun e w' => ∃ gb, e = .returned (.tuple #[.slice (some ⟨gb, 0, none⟩) Z Z, .int .i64 0]) ∧ Kd.R (Kd.int .u8) 5 w' 0 (fun k => wr.heap.size ≤ k) (.slice (some ⟨gb, 0, none⟩) Z Z) BB ∧ Below wr.heap.size wr w') := ⟨hBB ▸ done_yes o1 g Z F RF wr hw1 (by have := HZ.out; omega) hfit⟩
        have HNEW : Aside0 (Rel F (Rd.new BB) (runS [])) := ⟨by rw [← hBB]; exact read_new hF hfit⟩
        have HFIT := Aside0.mk (And.intro hfit hBB)
        have hZb : Z ≤ 1275 := HZ.out.2
        clear hw1 hp hl hr hfit hBB hF hRF hnn hl1 hl2 hrf hle
        go_wp2_with (first
          | (go_at_call 25; (with_reducible refine CD.out.mono ?_); rintro e w1 ⟨gb, rfl, hRB, hb⟩; have HRB := Aside0.mk hRB; have HB1 := Aside0.mk (hb.mono (Nat.le_refl _)); clear hRB hb)
          | (go_at_call 9; (with_reducible refine (rd_new BB Z HBY.out.2 HBY.out.1 (by omega) (some ⟨gb, 0, none⟩) Z _ (bytes_c HRB.out HBY.out.2) (Nat.le_refl _)).mono ?_); rintro e wn ⟨gr, rfl, hI, hge, hb⟩; have HT := Aside0.mk hI; have HGE := Aside0.mk hge; have HB2 := Aside0.mk (below_step HB1.out hb); have HQ : Aside0 (Below w1.heap.size w1 wn) := ⟨hb⟩; have HP1 := Aside0.mk (Kd.R_below HP.out HB1.out); have HL1 := Aside0.mk (Kd.R_below HL.out HB1.out); have HR1 := Aside0.mk (Kd.R_below HR.out HB1.out); clear hI hge hb))
        clear CD HRB HP HL HR
        have HINV : Aside0 (Rel F (Rd.new BB) (runS (L.take 0)) ∧ (Rd.new BB).r = (runR (L.take 0)).length ∧ Rd.Good (Rd.new BB) ∧ (Rd.new BB).t ≤ 3 + 2 * 0) := ⟨by
          rw [List.take_zero]
          exact ⟨HNEW.out, rfl, Rd.new_good HBY.out.1, by simp [Rd.new]⟩⟩
        clear HNEW
        go_loopw [102] (fun i wr => ∃ (j : Nat) (rs : Rd.St), j ≤ nn ∧ i = .int .i64 j ∧ Aside0 (RdAt wr gr BB rs) ∧ Aside0 (Below w1.heap.size w1 wr) ∧ Aside0 (Rel F rs (runS (L.take j)) ∧ rs.r = (runR (L.take j)).length ∧ Rd.Good rs ∧ rs.t ≤ 3 + 2 * j)) (fun i _ => nn - (intOf i).toNat)
        case atStart => exact ⟨0, Rd.new BB, Nat.zero_le _, rfl, HT, HQ, HINV⟩
        case round =>
          obtain ⟨j, rs, hj, rfl, HX, HQ2, HINV2⟩ := hrel
          clear HT HQ HINV
          have HQ := HQ2
          clear HQ2
          by_cases hjn : j < nn
          · obtain ⟨ad, hA, hc0, hc1, hc2, hc3, hc4⟩ := at_T51 (rows_c (Kd.R_below HP1.out HQ.out) HLN.out.1) (j : Int) (by omega) (by omega)
            rw [Int.toNat_natCast] at hc0 hc1 hc2 hc3 hc4
            obtain ⟨⟨K, F1, T, M, X⟩, ho⟩ : ∃ o, rd_T51 L j = o := ⟨_, rfl⟩
            rw [ho] at hc0 hc1 hc2 hc3 hc4
            simp only at hc0 hc1 hc2 hc3 hc4
            subst hA
            have hjL : j < L.length := by rw [HLN.out.1]; exact hjn
            have hsplit : L.take j ++ (⟨K, F1, T, M, X⟩ : S51) :: L.drop (j + 1) = L := by
              have e : L[j] = ⟨K, F1, T, M, X⟩ := by
                rw [← ho]; unfold rd_T51; rw [Int.toNat_natCast, List.getD_eq_getElem?_getD, List.getElem?_eq_getElem hjL]; rfl
              rw [← e, ← List.drop_eq_getElem_cons hjL, List.take_append_drop]
            have hnext : L.take j ++ [(⟨K, F1, T, M, X⟩ : S51)] = L.take (j + 1) := by
              have e : L[j] = ⟨K, F1, T, M, X⟩ := by
                rw [← ho]; unfold rd_T51; rw [Int.toNat_natCast, List.getD_eq_getElem?_getD, List.getElem?_eq_getElem hjL]; rfl
              rw [← e, List.take_succ_eq_append_getElem hjL]
            have hok : okO (⟨K, F1, T, M, X⟩ : S51) := HI.out.okk _ (by rw [← hsplit]; simp)
            have hrun := HFR.out
            have hstep := read_step (Z := Z) (F := F) (RF := RF) (by rw [hsplit]; exact hrun.1) (by rw [hsplit]; exact hrun.2) hok HFIT.out.1 HINV2.out.1 HINV2.out.2.1
            rw [hnext, HFIT.out.2] at hstep
            obtain ⟨hs1, hs2, hs3, hs4⟩ := hstep
            obtain ⟨r', hr'⟩ : ∃ r', rdO BB rs ⟨K, F1, T, M, X⟩ = r' := ⟨_, rfl⟩
            rw [hr'] at hs1 hs2
            have hat := HI.out.at_ j hjL
            have hrf1 := run_fair (L.take (j + 1))
            have hlt1 : (L.take (j + 1)).length ≤ 300 := by rw [List.length_take]; omega
            obtain ⟨lf, hlf⟩ : ∃ x, leftO Z (L.take (j + 1)) = x := ⟨_, rfl⟩
            obtain ⟨gg, hgg⟩ : ∃ x, (runS (L.take (j + 1))).g = x := ⟨_, rfl⟩
            rw [hlf, hgg] at hat
            have hleft : RdWalk.left BB r' = lf := by unfold RdWalk.left; rw [← hlf, HBY.out.2, hs1.t, hs2]; unfold leftO; omega
            have hrng : r'.g = gg := by rw [hs1.g]; exact hgg
            have hgood : Rd.Good r' ∧ r'.t ≤ 3 + 2 * (j + 1) ∧ r'.r ≤ 5000 := ⟨by
              rw [← hr']; unfold rdO; split
              · exact Rd.take_good HBY.out.1 HINV2.out.2.2.1 _ _ _
              · exact ⟨HINV2.out.2.2.1.g0, HINV2.out.2.2.1.g1, HINV2.out.2.2.1.v0, HINV2.out.2.2.1.v1⟩, by
              rw [← hr']; unfold rdO; have := HINV2.out.2.2.2; split
              · have := (Rd.take_t BB rs F1 T M).2; simp only; omega
              · simp only; omega, by rw [hs2]; omega⟩
            have HNXT : Aside0 (Rel F r' (runS (L.take (j + 1))) ∧ r'.r = (runR (L.take (j + 1))).length ∧ Rd.Good r' ∧ r'.t ≤ 3 + 2 * (j + 1)) := ⟨⟨hs1, hs2, hgood.1, hgood.2.1⟩⟩
            have hbl : BB.length ≤ 10000 := by rw [HBY.out.2]; omega
            have hgrlt : gr < wr.heap.size := RdWalk.at_lt HX.out
            have hst : rs.t ≤ 9990 := by have := HINV2.out.2.2.2; omega
            have hsr : rs.r ≤ 90000 := by have h1 := HINV2.out.2.1; have h2 := (run_fair (L.take j)).2.2; rw [List.length_take] at h2; omega
            have hne : wr.heap.size ≠ gr := Nat.ne_of_gt hgrlt
            have HBOX : Aside0 (∀ wz, RT w1 gr BB rs wr.heap.size (.cells #[.int .u8 K, .int .i64 F1, .int .i64 T, .int .i64 M, .int .u32 X] 51) wz ∨ wz = wr.alloc (.cells #[.int .u8 K, .int .i64 F1, .int .i64 T, .int .i64 M, .int .u32 X] 51) ∨ wz = (wr.alloc (.cells #[.int .u8 K, .int .i64 F1, .int .i64 T, .int .i64 M, .int .u32 X] 51)).drew → RT w1 gr BB rs wr.heap.size (.cells #[.int .u8 K, .int .i64 F1, .int .i64 T, .int .i64 M, .int .u32 X] 51) wz) := ⟨fun wz h => by
              rcases h with h | h | h
              · exact h
              · subst h; exact ⟨HX.out.below (below_alloc (Below.refl _ _) _), below_alloc HQ.out _, blk_new wr _⟩
              · subst h; exact RT.below ⟨HX.out.below (below_alloc (Below.refl _ _) _), below_alloc HQ.out _, blk_new wr _⟩ (below_drew1 (Below.refl _ _))⟩
            obtain ⟨bo, hbo⟩ : ∃ bo, (Obj.cells #[.int .u8 K, .int .i64 F1, .int .i64 T, .int .i64 M, .int .u32 X] 51 (0, 0)) = bo := ⟨_, rfl⟩
            have HBO := Aside0.mk hbo
            have HBX0 : Aside0 (RT w1 gr BB rs wr.heap.size bo (wr.alloc (.cells #[.int .u8 K, .int .i64 F1, .int .i64 T, .int .i64 M, .int .u32 X] 51))) := ⟨by have h := HBOX.out _ (.inr (.inl rfl)); subst hbo; exact h⟩
            have HBX1 : Aside0 (RT w1 gr BB rs wr.heap.size bo (wr.alloc (.cells #[.int .u8 K, .int .i64 F1, .int .i64 T, .int .i64 M, .int .u32 X] 51)).drew) := ⟨by have h := HBOX.out _ (.inr (.inr rfl)); subst hbo; exact h⟩
            have CLf : Aside0 (∀ wz, RT w1 gr BB r' wr.heap.size bo wz → Calls Try.prog 12 #[.pointer (some ⟨gr, 0, none⟩)] wz fun e w' => e = .returned (.int .i64 lf) ∧ RT w1 gr BB r' wr.heap.size bo w') := ⟨fun wz S => (rd_left hbl (by omega) (by omega) S.x).mono (fun e w' h => ⟨by rw [h.1, hleft], S.step HGE.out hne h.2.1 h.2.2.1 h.2.2.2⟩)⟩
            have CRg : Aside0 (∀ wz, RT w1 gr BB r' wr.heap.size bo wz → Calls Try.prog 13 #[.pointer (some ⟨gr, 0, none⟩)] wz fun e w' => e = .returned (.int .u32 gg) ∧ RT w1 gr BB r' wr.heap.size bo w') := ⟨fun wz S => (rd_rng S.x).mono (fun e w' h => ⟨by rw [h.1, hrng], S.step HGE.out hne h.2.1 h.2.2.1 h.2.2.2⟩)⟩
            have hll := HLN.out.2
            obtain ⟨gl, cl', hel⟩ := R_openG HL1.out (by rw [hll.1]; omega)
            obtain ⟨gq, cr', her⟩ := R_openG HR1.out (by rw [hll.2]; omega)
            injection hel with hel1 hel2 hel3
            injection her with her1 her2 her3
            clear hel2 hel3 her2 her3
            subst hel1
            subst her1
            have HKP : Aside0 (∀ wz, RT w1 gr BB r' wr.heap.size bo wz → wz.cell? ⟨gl, j, none⟩ = some (.int .i64 lf) ∧ wz.cell? ⟨gq, j, none⟩ = some (.int .u32 gg) ∧ Aside0 (RT w1 gr BB r' wr.heap.size bo wz)) := ⟨fun wz S => by
              have h1 := (Kd.R_cell (xs := LL) (0 : Int) (by rw [hll.1]; exact Kd.R_below HL1.out S.hb) (j : Int) (by omega) (by rw [hll.1]; omega)).1
              have h2 := (Kd.R_cell (xs := GG) (0 : Int) (by rw [hll.2]; exact Kd.R_below HR1.out S.hb) (j : Int) (by omega) (by rw [hll.2]; omega)).1
              rw [Int.toNat_natCast, show rdOf (0 : Int) LL (j : Int) = lf by unfold rdOf; rw [Int.toNat_natCast]; exact hat.1] at h1
              rw [Int.toNat_natCast, show rdOf (0 : Int) GG (j : Int) = gg by unfold rdOf; rw [Int.toNat_natCast]; exact hat.2] at h2
              exact ⟨h1, h2, ⟨S⟩⟩⟩
            have hjn' : (j : Int) < (nn : Int) := by omega
            by_cases h2 : K % 2 = 0
            · have hf : Int.tmod K 2 = 0 := by rw [Int.tmod_eq_emod_of_nonneg hok.1]; exact h2
              obtain ⟨Q, hQ⟩ : ∃ Q, Rd.get rs M = Q := ⟨_, rfl⟩
              have hs5 := hs3 h2
              simp only [hQ] at hs5
              have t1 : decide (Q < F1) = false := decide_eq_false (by omega)
              have t2 : decide (T ≤ Q) = false := decide_eq_false (by omega)
              have CG : Aside0 (∀ wz, RT w1 gr BB rs wr.heap.size bo wz → Calls Try.prog 10 #[.pointer (some ⟨gr, 0, none⟩), .int .i64 M] wz fun e w' => e = .returned (.int .i64 Q) ∧ RT w1 gr BB rs wr.heap.size bo w') := ⟨fun wz S => (rd_get HINV2.out.2.2.1 M S.x).mono (fun e w' h => ⟨by rw [h.1, hQ], S.step HGE.out hne h.2.1 h.2.2.1 h.2.2.2⟩)⟩
              have CT : Aside0 (∀ wz, RT w1 gr BB rs wr.heap.size bo wz → Calls Try.prog 11 #[.pointer (some ⟨gr, 0, none⟩), .int .i64 F1, .int .i64 T, .int .i64 M] wz fun e w' => e = .returned (.tuple #[]) ∧ RT w1 gr BB r' wr.heap.size bo w') := ⟨fun wz S => (rd_take HBY.out.1 hbl HINV2.out.2.2.1 hst F1 T M S.x).mono (fun e w' h => ⟨h.1, S.step HGE.out hne (by rw [← hr']; unfold rdO; rw [if_pos h2]; exact h.2.1) h.2.2.1 h.2.2.2⟩)⟩
              clear hsplit hnext hok hrun hs1 hs2 hs3 hs4 hs5 hr' hat hrf1 hlt1 hlf hgg hleft hrng hgood hbl hgrlt hst hsr hne hbo hll hQ h2 hjL ho
              go_wp2_with (first
                | (go_at_call 10; (with_reducible refine (CG.out _ HBX0.out).mono ?_); rintro e w2 ⟨rfl, hT⟩; have hz2 := hT.hz; rw [← HBO.out] at hz2; have hv1 : w2.cell? ⟨wr.heap.size, 1, none⟩ = some (.int .i64 F1) := (blk_cell hz2 1).trans rfl; have hv2 : w2.cell? ⟨wr.heap.size, 2, none⟩ = some (.int .i64 T) := (blk_cell hz2 2).trans rfl; have hv3 : w2.cell? ⟨wr.heap.size, 3, none⟩ = some (.int .i64 M) := (blk_cell hz2 3).trans rfl; have HT := Aside0.mk hT; clear hT hz2)
                | (go_at_call 11; (with_reducible refine (CT.out _ HT.out).mono ?_); rintro e w3 ⟨rfl, hT⟩; clear HT hv1 hv2 hv3; have HT := Aside0.mk hT; clear hT))
              go_region_held3 (fun wz => wz.cell? ⟨gl, j, none⟩ = some (.int .i64 lf) ∧ wz.cell? ⟨gq, j, none⟩ = some (.int .u32 gg) ∧ Aside0 (RT w1 gr BB r' wr.heap.size bo wz))
                (first | exact HKP.out _ hT | exact HKP.out _ HT.out | exact HKP.out _ (HT.out.below (below_drew1 (Below.refl _ _))) | exact HKP.out _ (HT.out.below (below_drew1 (below_drew1 (Below.refl _ _)))))
                (first | (go_at_call 12; (go_split_ands; (with_reducible refine (CLf.out _ (Aside0.out (by assumption))).mono ?_)); rintro e w4 ⟨rfl, hT⟩) | (go_at_call 13; (go_split_ands; (with_reducible refine (CRg.out _ (Aside0.out (by assumption))).mono ?_)); rintro e w5 ⟨rfl, hT⟩))
              all_goals (
                rename_i hH
                have HT2 := hH.2.2
                clear hH
                go_wp2
                go_roundw
                case rel => exact ⟨j + 1, r', by omega, by simp, ⟨HT2.out.x⟩, ⟨HT2.out.hb⟩, HNXT⟩
                case measure => simp [intOf]; omega)
            · have hf : Int.tmod K 2 = 1 := by have hK0 : 0 ≤ K := hok.1; rw [Int.tmod_eq_emod_of_nonneg hK0]; omega
              have hs5 := hs4 h2
              simp only at hs5
              have CW : Aside0 (∀ wz, RT w1 gr BB rs wr.heap.size bo wz → Calls Try.prog 14 #[.pointer (some ⟨gr, 0, none⟩), .int .i64 T] wz fun e w' => e = .returned (.int .u32 X) ∧ RT w1 gr BB r' wr.heap.size bo w') := ⟨fun wz S => (rd_raw HBY.out.1 hbl hsr T S.x).mono (fun e w' h => ⟨by rw [h.1, hs5], S.step HGE.out hne (by rw [← hr']; unfold rdO; rw [if_neg h2]; exact h.2.1) h.2.2.1 h.2.2.2⟩)⟩
              clear hsplit hnext hok hrun hs1 hs2 hs3 hs4 hs5 hr' hat hrf1 hlt1 hlf hgg hleft hrng hgood hbl hgrlt hst hsr hne hbo hll h2 hjL ho
              go_wp2
              go_region_held3 (fun wz => wz.cell? ⟨wr.heap.size, 2, none⟩ = some (.int .i64 T) ∧ wz.cell? ⟨wr.heap.size, 4, none⟩ = some (.int .u32 X))
                (first | exact ⟨hv2, hv4⟩ | exact ⟨(blk_cell (blk_new wr _) 2).trans rfl, (blk_cell (blk_new wr _) 4).trans rfl⟩ | exact ⟨(blk_cell (blk_drew (blk_new wr _)) 2).trans rfl, (blk_cell (blk_drew (blk_new wr _)) 4).trans rfl⟩)
                (first
                | (go_at_call 14; (with_reducible refine (CW.out _ HBX0.out).mono ?_); rintro e w2 ⟨rfl, hT⟩; have hz2 := hT.hz; rw [← HBO.out] at hz2; have hv2 : w2.cell? ⟨wr.heap.size, 2, none⟩ = some (.int .i64 T) := (blk_cell hz2 2).trans rfl; have hv4 : w2.cell? ⟨wr.heap.size, 4, none⟩ = some (.int .u32 X) := (blk_cell hz2 4).trans rfl; have HT := Aside0.mk hT; clear hT hz2)
                | (go_at_call 14; (with_reducible refine (CW.out _ HBX1.out).mono ?_); rintro e w2 ⟨rfl, hT⟩; have hz2 := hT.hz; rw [← HBO.out] at hz2; have hv2 : w2.cell? ⟨wr.heap.size, 2, none⟩ = some (.int .i64 T) := (blk_cell hz2 2).trans rfl; have hv4 : w2.cell? ⟨wr.heap.size, 4, none⟩ = some (.int .u32 X) := (blk_cell hz2 4).trans rfl; have HT := Aside0.mk hT; clear hT hz2))
              all_goals go_wp2
              all_goals (
                go_region_held3 (fun wz => wz.cell? ⟨gl, j, none⟩ = some (.int .i64 lf) ∧ wz.cell? ⟨gq, j, none⟩ = some (.int .u32 gg) ∧ Aside0 (RT w1 gr BB r' wr.heap.size bo wz))
                  (first | exact HKP.out _ hT | exact HKP.out _ HT.out | exact HKP.out _ (HT.out.below (below_drew1 (Below.refl _ _))) | exact HKP.out _ (HT.out.below (below_drew1 (below_drew1 (Below.refl _ _)))))
                  (first | (go_at_call 12; (go_split_ands; (with_reducible refine (CLf.out _ (Aside0.out (by assumption))).mono ?_)); rintro e w4 ⟨rfl, hT⟩) | (go_at_call 13; (go_split_ands; (with_reducible refine (CRg.out _ (Aside0.out (by assumption))).mono ?_)); rintro e w5 ⟨rfl, hT⟩)))
              all_goals (
                rename_i hH
                have HT2 := hH.2.2
                clear hH
                go_wp2
                go_roundw
                case rel => exact ⟨j + 1, r', by omega, by simp, ⟨HT2.out.x⟩, ⟨HT2.out.hb⟩, HNXT⟩
                case measure => simp [intOf]; omega)
          · have hjn' : ¬ (j : Int) < (nn : Int) := by omega
            go_wp2
            go_ret
            exact ⟨rfl, below_step HB.out (below_step HB1.out HQ.out)⟩
      · have CD : Aside0 (Calls Try.prog 25 #[.pointer (some ⟨g, 0, none⟩)] wr fun e w' => e = .returned (.tuple #[.slice none 0 0, .int .i64 4]) ∧ Below wr.heap.size wr w') := ⟨done_not o1 g Z F RF wr hw1 (by have := HZ.out; omega) (by omega) (by omega) hfit⟩
        have hnn0 : 0 < nn := by
          rcases Nat.eq_zero_or_pos nn with h | h
          · exfalso
            have hL0 : L = [] := List.eq_nil_of_length_eq_zero (by omega)
            apply hfit
            rw [← hF, ← hRF, hL0]
            show 0 + 8 * (0 + 3) ≤ 8 * Z
            have := HZ.out
            omega
          · exact h
        have hlast := (HI.out.at_ (nn - 1) (by omega)).1
        rw [show nn - 1 + 1 = nn by omega, List.take_of_length_le (by omega)] at hlast
        obtain ⟨lf, hlf⟩ : ∃ x, leftO Z L = x := ⟨_, rfl⟩
        have hneg : decide (lf < 0) = true := decide_eq_true (by rw [← hlf]; unfold leftO; rw [hF, hRF]; unfold Fits at hfit; omega)
        obtain ⟨n1, hn1⟩ : ∃ n1, nn - 1 = n1 := ⟨_, rfl⟩
        have hw64 : wrap64 ((nn : Int) - 1) = (n1 : Int) := by rw [← hn1]; exact last_is hnn0 hnn2
        obtain ⟨gl, cl', hel⟩ := R_openG HL.out (by omega)
        injection hel with hel1 hel2 hel3
        clear hel2 hel3
        subst hel1
        have HKP : Aside0 (∀ wz, Below wr.heap.size wr wz → wz.cell? ⟨gl, n1, none⟩ = some (.int .i64 lf)) := ⟨fun wz hb => by
          have h1 := (Kd.R_cell (xs := LL) (0 : Int) (by rw [hl1]; exact Kd.R_below HL.out hb) (n1 : Int) (by omega) (by omega)).1
          rw [Int.toNat_natCast, show rdOf (0 : Int) LL (n1 : Int) = lf by unfold rdOf; rw [Int.toNat_natCast, ← hn1, hlast, hlf]] at h1
          exact h1⟩
        have hb1 : (0 : Int) < (nn : Int) ∧ (n1 : Int) < (nn : Int) := by omega
        have t0 : decide ((0 : Int) < (nn : Int)) = true := decide_eq_true hb1.1
        have hb2 := hb1.2
        clear hb1 hnn2
        clear hw1 hp hl hr hfit hF hRF hnn hl1 hl2 hrf hle hlast hlf hn1 hnn0
        go_wp2_with (first
          | (go_at_call 25; (with_reducible refine CD.out.mono ?_); rintro e w1 ⟨rfl, hb⟩; have HB1 := Aside0.mk (hb.mono (Nat.le_refl _)); have hcl := HKP.out w1 hb; have hcl2 := HKP.out w1.drew (below_drew1 hb); clear hb))
        repeat (go_quiet (fail); try go_wp2)
        go_ret
        exact ⟨rfl, by repeat (first | exact below_step HB.out HB1.out | apply below_drew1 | apply pw_below_drewN)⟩
theorem back_row (a0 : Int) (w0 : (Lit.int .u16 a0).wf = true) (a1 : Option Addr) (len1 cap1 : Nat) (z1 : List (List Int)) (w : World) (w1 : StructRows.Rows [.u8, .i64, .i64, .i64, .u32] w a1 len1 cap1 z1) :
    Calls Try.prog 7 #[.int .u16 a0, .slice a1 len1 cap1] w fun e w' => e = .returned (.bool true) ∧ Below w.heap.size w w' := by
  obtain ⟨hD, _, hop⟩ := ops51 w1
  have h0 := wf_u16 w0
  by_cases hn : len1 ≤ 200
  · exact back_at a0 (4 + a0 % 1272).toNat h0 (by omega) (z1.map to51) len1 hD.1 hn (fun o ho => ⟨(Math.wf_u8 (hop o ho).1).1, wf_u32 (hop o ho).2.2.2.2⟩) a1 cap1 w hD
  · exact back_long _ _ _ _ _ (decide_eq_true (by omega))
end Go.Proofs.Ythccifjjmigklaa.WrLaw
