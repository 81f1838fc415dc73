import Derived.Test.YtdfgoahfaebooaaDoorBkRows
import Derived.Test.YtdfgoahfaebooaaDoorSwLib
namespace Go.Proofs.YtdfgoahfaebooaaDoor.WrLaw
open Go.RowKit Go.Proofs.YtdfgoahfaebooaaDoorW.PrintWords Go.Proofs.YtdfgoahfaebooaaDoorW.PrintLast Go.Proofs.YtdfgoahfaebooaaDoorW.PrintMore
open Go.Proofs.YtdfgoahfaebooaaDoor.Wr (St)
open Go.Proofs.YtdfgoahfaebooaaDoor.WrWalk
open Go.Proofs.YtdfgoahfaebooaaDoor.Pack (pk pk_len pk_in)
open Go.Proofs.YtdfgoahfaebooaaDoor.Back (Rel)
open Go.Proofs.YtdfgoahfaebooaaDoor.SwWalk (Laid SwW SwAt)
set_option linter.unusedVariables false
set_option linter.unusedSimpArgs false
def leftO (Z : Nat) (L : List S51) : Int := 8 * ((Z : Int) - 3 - (runS L).m) - ((runR L).length : Int)
theorem r3_nil (w : World) : R3 (.slice none 0 0) (.slice none 0 0) (.slice none 0 0) [] [] [] (fun _ => False) w := Kd.R_nil _ _ _ _ _
theorem last_is {nn : Nat} (h : 0 < nn) (h2 : nn ≤ 200) : wrap64 ((nn : Int) - 1) = ((nn - 1 : Nat) : Int) := by rw [w64n (by omega) (by omega)]; omega
theorem rows_c {w : World} {A0 : Option Addr} {nn c : Nat} {L : List S51} {ok : Nat → Prop} (h : Kd.R k51 51 w 0 ok (.slice A0 nn c) L) (hl : L.length = nn) : Kd.C k51 w A0 nn L := by
  obtain ⟨h1, h2, h3⟩ := Kd.R_reads' h
  rw [hl] at h3
  exact h3
theorem bytes_c {w : World} {gb Z : Nat} {BB : List Int} {ok : Nat → Prop} (h : Kd.R (Kd.int .u8) 5 w 0 ok (.slice (some ⟨gb, 0, none⟩) Z Z) BB) (hl : BB.length = Z) : Kd.C (Kd.int .u8) w (some ⟨gb, 0, none⟩) Z BB := by
  obtain ⟨h1, h2, h3⟩ := Kd.R_reads' h
  rw [hl] at h3
  exact h3
theorem R_openG {α : Type} {d : Kd α} {w : World} {e base : Nat} {ok : Nat → Prop} {v : Value} {xs : List α} (h : d.R e w base ok v xs) (hn : 0 < xs.length) : ∃ gb c, v = .slice (some ⟨gb, 0, none⟩) xs.length c := by
  obtain ⟨inner, hi, ho⟩ := Kd.R_own h
  rcases ho with ⟨_, h0⟩ | ⟨gb, cap, cur, rfl, _⟩
  · omega
  · exact ⟨gb, cap, rfl⟩
/-- A reader, what lay there ahead of it, a box. -/
structure RT (wq : World) (gr : Nat) (BB : List Int) (r : Rd.St) (bx : Nat) (bo : Obj) (w : World) : Prop where
  x : SwW wq.heap.size w gr BB r
  hb : Below wq.heap.size wq w
  hz : w.heap[bx]? = some bo
theorem RT.step {wq w w' : World} {gr bx : Nat} {BB : List Int} {r r' : Rd.St} {bo : Obj} (T : RT wq gr BB r bx bo w) (hge : wq.heap.size ≤ gr) (hne : bx ≠ gr) (hI : SwW wq.heap.size w' gr BB r') (hb : Below gr w w') (hk : KeepBut w w' gr none) : RT wq gr BB r' bx bo w' :=
  ⟨hI, T.hb.trans (hb.mono hge), (hk.2 bx (blk_lt T.hz) hne (by simp)).trans T.hz⟩
theorem RT.below {wq w w' : World} {gr bx : Nat} {BB : List Int} {r : Rd.St} {bo : Obj} (T : RT wq gr BB r bx bo w) (h : Below w.heap.size w w') : RT wq gr BB r bx bo w' :=
  ⟨T.x.below h, T.hb.trans (h.mono T.hb.size), (h.block bx (blk_lt T.hz)).trans T.hz⟩
theorem size3_is {z Z : Int} (hz : 0 ≤ z ∧ z < 65536) (hZ : 4 + z % 1272 = Z) : wrap64 (4 + (wrap64 z).tmod 1272) = Z := by
  rw [w64n (x := z) (by omega) (by omega), Int.tmod_eq_emod_of_nonneg hz.1, w64n (by omega) (by omega)]; exact hZ
set_option maxHeartbeats 4000000 in
set_option maxRecDepth 100000 in
theorem back_long (sz : Int) (A1 : Option Addr) (n c1 : Nat) (w : World) (hLd : Laid w) (hd2 : decide ((200 : Int) < (n : Int)) = true) :
    Calls Tryd.prog 7 #[.int .u16 sz, .slice A1 n c1] w fun e w' => e = .returned (.bool true) ∧ Below w.heap.size w w' := by
  have HB := Aside0.mk (Below.refl w.heap.size w)
  have HLD := Aside0.mk hLd
  clear hLd
  go_enter Tryd.func7, Tryd.ntmps7
  go_wp2_with (first
    | (go_at_call 8; (with_reducible refine (SwWalk.awake_any _ (HLD.out.below HB.out)).mono ?_); rintro e wa ⟨rfl, hb⟩; have HB1 := Aside0.mk (below_step HB.out hb); clear HB hb; have HB := HB1; clear HB1))
  go_ret
  exact ⟨rfl, HB.out⟩
set_option maxHeartbeats 8000000 in
set_option maxRecDepth 100000 in
theorem back_at (z : Int) (Z : Nat) (hz : 0 ≤ z ∧ z < 65536) (hZ : 4 + z % 1272 = Z) (l : List S51) (n : Nat) (hn : l.length = n) (hn2 : n ≤ 200) (hop : ∀ o ∈ l, 0 ≤ o.f0 ∧ 0 ≤ o.f4 ∧ o.f4 < 4294967296) (A1 : Option Addr) (c1 : Nat) (w : World) (hLd : Laid w) (hD : Kd.C k51 w A1 n l) :
    Calls Tryd.prog 7 #[.int .u16 z, .slice A1 n c1] w fun e w' => e = .returned (.bool true) ∧ Below w.heap.size w w' := by
  have HB := Aside0.mk (Below.refl w.heap.size w)
  have HLD := Aside0.mk hLd
  clear hLd
  have HD := Aside0.mk hD
  have HN := Aside0.mk hn
  have HOP := Aside0.mk hop
  have HZ : Aside0 (4 ≤ Z ∧ Z ≤ 1275) := ⟨by omega⟩
  have hd2 : decide ((200 : Int) < (n : Int)) = false := decide_eq_false (by omega)
  have hu := size3_is hz hZ
  have CN : Aside0 (∀ w1, Calls Tryd.prog 28 #[.int .i64 Z] w1 fun e w' => ∃ g, e = .returned (.tuple #[.pointer (some ⟨g, 0, none⟩), .int .i64 0]) ∧ WrAt (fun k => w1.heap.size ≤ k) w' g Z Wr.new [] ∧ Below w1.heap.size w1 w') := ⟨fun w1 => new_wr2 Z (by have := HZ.out; omega) w1⟩
  clear hD hn hZ hz hop
  go_enter Tryd.func7, Tryd.ntmps7
  go_wp2_with (first
    | (go_at_call 8; (with_reducible refine (SwWalk.awake_any _ (HLD.out.below HB.out)).mono ?_); rintro e wa ⟨rfl, hb⟩; have HB1 := Aside0.mk (below_step HB.out hb); clear HB hb; have HB := HB1; clear HB1)
    | (go_at_call 28; (with_reducible refine (CN.out wa).mono ?_); rintro e wx ⟨g, rfl, hI, hb⟩; have HS0 := Aside0.mk (And.intro hI hb); clear hb hI))
  have HS : Aside0 (Sep w (fun ok w => WrAt ok w g Z (runS []) (runR [])) (R3 (.slice none 0 0) (.slice none 0 0) (.slice none 0 0) [] [] []) none wx) := ⟨Sep.two (Sep.one (below_step HB.out HS0.out.2) (ow_wr g Z (runS []) (runR [])) HS0.out.1 (fun k hk => Nat.le_trans HB.out.size hk)) (ow_wr g Z (runS []) (runR [])) (ow_r3 _ _ _ _ _ _) (o := fun _ => False) (Below.refl _ _) (r3_nil wx) (fun k hk => hk.elim)⟩
  clear HB HS0
  go_loopw [7, 38] (fun vp i wr => ∃ (k : Nat) (L : List S51), k ≤ n ∧ i = .int .i64 k ∧ Aside0 (Sep w (fun ok w => WrAt ok w g Z (runS L) (runR L)) (R3 vp (.slice none 0 0) (.slice none 0 0) L [] []) none wr) ∧ Aside0 ((∀ o ∈ L, okO o) ∧ L.length ≤ k)) (fun _ i _ => (n - intOf i).toNat)
  case atStart => exact ⟨0, [], by omega, rfl, HS, ⟨(fun o h => absurd h (by simp)), Nat.le_refl _⟩⟩
  case round =>
    obtain ⟨k, L, hk, rfl, HS2, HI⟩ := hrel
    clear HS
    have HS := HS2
    clear HS2
    by_cases ht : k < n
    · obtain ⟨ad, hA, hc0, hc1, hc2, hc3, hc4⟩ := at_T51 (Kd.C_below HD.out HS.out.hb) (k : Int) (by omega) (by omega)
      have hK0 : 0 ≤ (rd_T51 l k).f0 ∧ 0 ≤ (rd_T51 l k).f4 ∧ (rd_T51 l k).f4 < 4294967296 := HOP.out _ (by unfold rd_T51; rw [Int.toNat_natCast, List.getD_eq_getElem?_getD, List.getElem?_eq_getElem (by rw [HN.out]; exact ht)]; exact List.getElem_mem _)
      rw [Int.toNat_natCast] at hc0 hc1 hc2 hc3 hc4
      obtain ⟨⟨K, F, T, M, X⟩, ho⟩ : ∃ o, rd_T51 l k = o := ⟨_, rfl⟩
      rw [ho] at hc0 hc1 hc2 hc3 hc4 hK0
      simp only at hc0 hc1 hc2 hc3 hc4 hK0
      clear ho
      subst hA
      have hrf := run_fair L
      have hle := HI.out.2
      have hm3 : (runS L).m ≤ 900 := by omega
      have hR5 : (runR L).length ≤ 40000 := by omega
      have hlL : L.length ≤ 10000 := by omega
      obtain ⟨L', hL'⟩ : ∃ L', L ++ [(⟨K, F, T, M, X⟩ : S51)] = L' := ⟨_, rfl⟩
      have hS' : runS L' = opS (runS L) ⟨K, F, T, M, X⟩ := by rw [← hL', runS_app]
      have hR' : runR L' = opR (runR L) ⟨K, F, T, M, X⟩ := by rw [← hL', runR_app]
      have hrf' := run_fair L'
      have hll' : L'.length ≤ 300 := by rw [← hL', List.length_append, List.length_singleton]; omega
      have HI1 : Aside0 ((∀ o ∈ L, okO o) ∧ L.length ≤ k + 1) := ⟨HI.out.1, Nat.le_succ_of_le HI.out.2⟩
      have HI2 : okO (⟨K, F, T, M, X⟩ : S51) → (∀ o ∈ L', okO o) ∧ L'.length ≤ k + 1 := fun h => by
        rw [← hL']
        refine ⟨fun o ho => ?_, by rw [List.length_append, List.length_singleton]; omega⟩
        rcases List.mem_append.1 ho with ho | ho
        · exact HI.out.1 o ho
        · rw [List.mem_singleton] at ho; exact ho ▸ h
      clear hrf'
      by_cases h2 : K % 2 = 0
      · have hf : Int.tmod K 2 = 0 := by rw [Int.tmod_eq_emod_of_nonneg hK0.1]; exact h2
        have hput := fun wz zb (S : Sep w (fun ok w => WrAt ok w g Z (runS L) (runR L)) (R3 u7 (.slice none 0 0) (.slice none 0 0) L [] []) zb wz) => S.call1 (ow_wr g Z (runS L) (runR L)) (ow_wr g Z (Wr.put (runS L) F T M) (runR L)) (ow_r3 u7 (.slice none 0 0) (.slice none 0 0) L [] []) (fun ok hfr H => put_any ok g Z F T M (runS L) (runR L) wz hrf.1 hm3 hfr H)
        by_cases hok : Rd.ok F T M
        · have HI3 := Aside0.mk (HI2 ⟨hK0.1, hK0.2.1, by rw [if_pos h2]; exact hok⟩)
          have C1 : Aside0 (∀ wz zb, Sep w (fun ok w => WrAt ok w g Z (runS L) (runR L)) (R3 u7 (.slice none 0 0) (.slice none 0 0) L [] []) zb wz → Calls Tryd.prog 29 #[.pointer (some ⟨g, 0, none⟩), .int .i64 F, .int .i64 T, .int .i64 M] wz fun e w' => e = .returned (.int .i64 0) ∧ Sep w (fun ok w => WrAt ok w g Z (runS L') (runR L')) (R3 u7 (.slice none 0 0) (.slice none 0 0) L [] []) zb w') := ⟨fun wz zb S => by
            have h := hput wz zb S
            rw [if_pos hok] at h
            rw [hS', hR']
            unfold opS opR
            rw [if_pos h2, if_pos h2]
            exact h⟩
          clear HI2 hS' hR' hok h2 hK0 hrf hle hm3 hR5 hll' hput
          go_wp2_with (first
            | (go_at_call 29; (with_reducible refine (C1.out _ _ (Sep.box (ow_wr g Z (runS L) (runR L)) (ow_r3 u7 (.slice none 0 0) (.slice none 0 0) L [] []) HS.out _)).mono ?_); rintro e w1 ⟨rfl, hT⟩; have hh := (hT.hz _ rfl).2; have hv0 : w1.cell? ⟨wr.heap.size, 0, none⟩ = some (.int .u8 K) := (blk_cell hh 0).trans rfl; have hv1 : w1.cell? ⟨wr.heap.size, 1, none⟩ = some (.int .i64 F) := (blk_cell hh 1).trans rfl; have hv2 : w1.cell? ⟨wr.heap.size, 2, none⟩ = some (.int .i64 T) := (blk_cell hh 2).trans rfl; have hv3 : w1.cell? ⟨wr.heap.size, 3, none⟩ = some (.int .i64 M) := (blk_cell hh 3).trans rfl; have hv4 : w1.cell? ⟨wr.heap.size, 4, none⟩ = some (.int .u32 X) := (blk_cell hh 4).trans rfl; have m0 := Aside0.mk hT; clear hh HS hT; have HS := m0; clear m0)
            | ((with_reducible refine gate_builtin (b := .append) (xs := #[.tmp 62, .tmp 64]) rfl ?_); at_builtin; refine app_put HS.out (ow_wr g Z (runS L') (runR L')) rfl (.tmp 62) (.tmp 64) rfl rfl rfl ⟨K, F, T, M, X⟩ hlL ?_; intro v1 w2 hT; rw [hL'] at hT; clear hv0 hv1 hv2 hv3 hv4; have m0 := Aside0.mk hT; clear HS hT; have HS := m0; clear m0))
          exact ⟨⟨k + 1, L', by omega, congrArg (Value.int .i64) (by omega), ⟨HS.out.unbox⟩, HI3⟩, by simp [intOf]; omega⟩
        · have C1 : Aside0 (∀ wz zb, Sep w (fun ok w => WrAt ok w g Z (runS L) (runR L)) (R3 u7 (.slice none 0 0) (.slice none 0 0) L [] []) zb wz → Calls Tryd.prog 29 #[.pointer (some ⟨g, 0, none⟩), .int .i64 F, .int .i64 T, .int .i64 M] wz fun e w' => e = .returned (.int .i64 1) ∧ Sep w (fun ok w => WrAt ok w g Z (runS L) (runR L)) (R3 u7 (.slice none 0 0) (.slice none 0 0) L [] []) zb w') := ⟨fun wz zb S => by
            have h := hput wz zb S
            rw [if_neg hok, show Wr.put (runS L) F T M = runS L by unfold Wr.put; rw [if_neg hok]] at h
            exact h⟩
          clear HI2 hS' hR' hok h2 hK0 hrf hle hm3 hR5 hll' hput
          go_wp2_with (first
            | (go_at_call 29; (with_reducible refine (C1.out _ _ (Sep.box (ow_wr g Z (runS L) (runR L)) (ow_r3 u7 (.slice none 0 0) (.slice none 0 0) L [] []) HS.out _)).mono ?_); rintro e w1 ⟨rfl, hT⟩; have hh := (hT.hz _ rfl).2; have hv0 : w1.cell? ⟨wr.heap.size, 0, none⟩ = some (.int .u8 K) := (blk_cell hh 0).trans rfl; have hv1 : w1.cell? ⟨wr.heap.size, 1, none⟩ = some (.int .i64 F) := (blk_cell hh 1).trans rfl; have hv2 : w1.cell? ⟨wr.heap.size, 2, none⟩ = some (.int .i64 T) := (blk_cell hh 2).trans rfl; have hv3 : w1.cell? ⟨wr.heap.size, 3, none⟩ = some (.int .i64 M) := (blk_cell hh 3).trans rfl; have hv4 : w1.cell? ⟨wr.heap.size, 4, none⟩ = some (.int .u32 X) := (blk_cell hh 4).trans rfl; have m0 := Aside0.mk hT; clear hh HS hT; have HS := m0; clear m0))
          exact ⟨⟨k + 1, L, by omega, congrArg (Value.int .i64) (by omega), ⟨HS.out.unbox⟩, HI1⟩, by simp [intOf]; omega⟩
      · have hf : Int.tmod K 2 = 1 := by rw [Int.tmod_eq_emod_of_nonneg hK0.1]; omega
        have hraw := fun wz zb (S : Sep w (fun ok w => WrAt ok w g Z (runS L) (runR L)) (R3 u7 (.slice none 0 0) (.slice none 0 0) L [] []) zb wz) => S.call1 (ow_wr g Z (runS L) (runR L)) (ow_wr g Z (runS L) (runR L ++ rawN X T)) (ow_r3 u7 (.slice none 0 0) (.slice none 0 0) L [] []) (fun ok hfr H => wr_raw H X T hK0.2.1 hK0.2.2 (by omega) hfr)
        by_cases hok : Rw X T
        · have HI3 := Aside0.mk (HI2 ⟨hK0.1, hK0.2.1, by rw [if_neg h2]; exact hok⟩)
          have C1 : Aside0 (∀ wz zb, Sep w (fun ok w => WrAt ok w g Z (runS L) (runR L)) (R3 u7 (.slice none 0 0) (.slice none 0 0) L [] []) zb wz → Calls Tryd.prog 30 #[.pointer (some ⟨g, 0, none⟩), .int .u32 X, .int .i64 T] wz fun e w' => e = .returned (.int .i64 0) ∧ Sep w (fun ok w => WrAt ok w g Z (runS L') (runR L')) (R3 u7 (.slice none 0 0) (.slice none 0 0) L [] []) zb w') := ⟨fun wz zb S => by
            have h := hraw wz zb S
            rw [if_pos hok] at h
            rw [hS', hR']
            unfold opS opR
            rw [if_neg h2, if_neg h2]
            exact h⟩
          clear HI2 hS' hR' hok h2 hK0 hrf hle hm3 hR5 hll' hraw
          go_wp2_with (first
            | (go_at_call 30; (with_reducible refine (C1.out _ _ (Sep.box (ow_wr g Z (runS L) (runR L)) (ow_r3 u7 (.slice none 0 0) (.slice none 0 0) L [] []) HS.out _)).mono ?_); rintro e w1 ⟨rfl, hT⟩; have hh := (hT.hz _ rfl).2; have hv0 : w1.cell? ⟨wr.heap.size, 0, none⟩ = some (.int .u8 K) := (blk_cell hh 0).trans rfl; have hv1 : w1.cell? ⟨wr.heap.size, 1, none⟩ = some (.int .i64 F) := (blk_cell hh 1).trans rfl; have hv2 : w1.cell? ⟨wr.heap.size, 2, none⟩ = some (.int .i64 T) := (blk_cell hh 2).trans rfl; have hv3 : w1.cell? ⟨wr.heap.size, 3, none⟩ = some (.int .i64 M) := (blk_cell hh 3).trans rfl; have hv4 : w1.cell? ⟨wr.heap.size, 4, none⟩ = some (.int .u32 X) := (blk_cell hh 4).trans rfl; have m0 := Aside0.mk hT; clear hh HS hT; have HS := m0; clear m0)
            | ((with_reducible refine gate_builtin (b := .append) (xs := #[.tmp 62, .tmp 64]) rfl ?_); at_builtin; refine app_put HS.out (ow_wr g Z (runS L') (runR L')) rfl (.tmp 62) (.tmp 64) rfl rfl rfl ⟨K, F, T, M, X⟩ hlL ?_; intro v1 w2 hT; rw [hL'] at hT; clear hv0 hv1 hv2 hv3 hv4; have m0 := Aside0.mk hT; clear HS hT; have HS := m0; clear m0))
          exact ⟨⟨k + 1, L', by omega, congrArg (Value.int .i64) (by omega), ⟨HS.out.unbox⟩, HI3⟩, by simp [intOf]; omega⟩
        · have C1 : Aside0 (∀ wz zb, Sep w (fun ok w => WrAt ok w g Z (runS L) (runR L)) (R3 u7 (.slice none 0 0) (.slice none 0 0) L [] []) zb wz → Calls Tryd.prog 30 #[.pointer (some ⟨g, 0, none⟩), .int .u32 X, .int .i64 T] wz fun e w' => e = .returned (.int .i64 1) ∧ Sep w (fun ok w => WrAt ok w g Z (runS L) (runR L)) (R3 u7 (.slice none 0 0) (.slice none 0 0) L [] []) zb w') := ⟨fun wz zb S => by
            have h := hraw wz zb S
            rw [if_neg hok, show rawN X T = [] by unfold rawN; rw [if_neg hok], List.append_nil] at h
            exact h⟩
          clear HI2 hS' hR' hok h2 hK0 hrf hle hm3 hR5 hll' hraw
          go_wp2_with (first
            | (go_at_call 30; (with_reducible refine (C1.out _ _ (Sep.box (ow_wr g Z (runS L) (runR L)) (ow_r3 u7 (.slice none 0 0) (.slice none 0 0) L [] []) HS.out _)).mono ?_); rintro e w1 ⟨rfl, hT⟩; have hh := (hT.hz _ rfl).2; have hv0 : w1.cell? ⟨wr.heap.size, 0, none⟩ = some (.int .u8 K) := (blk_cell hh 0).trans rfl; have hv1 : w1.cell? ⟨wr.heap.size, 1, none⟩ = some (.int .i64 F) := (blk_cell hh 1).trans rfl; have hv2 : w1.cell? ⟨wr.heap.size, 2, none⟩ = some (.int .i64 T) := (blk_cell hh 2).trans rfl; have hv3 : w1.cell? ⟨wr.heap.size, 3, none⟩ = some (.int .i64 M) := (blk_cell hh 3).trans rfl; have hv4 : w1.cell? ⟨wr.heap.size, 4, none⟩ = some (.int .u32 X) := (blk_cell hh 4).trans rfl; have m0 := Aside0.mk hT; clear hh HS hT; have HS := m0; clear m0))
          exact ⟨⟨k + 1, L, by omega, congrArg (Value.int .i64) (by omega), ⟨HS.out.unbox⟩, HI1⟩, by simp [intOf]; omega⟩
    · obtain ⟨o1, o2, hw1, hq2, _, _, _⟩ := HS.out.ex
      have HB := Aside0.mk HS.out.hb
      have hp : Kd.R k51 51 wr 0 o2 u7 L := hq2
      obtain ⟨Ap, cp, rfl⟩ := Kd.R_slice hp
      clear hq2
      have hle := HI.out.2
      have hrf := run_fair L
      obtain ⟨nn, hnn⟩ : ∃ nn, L.length = nn := ⟨_, rfl⟩
      rw [hnn] at hp hle hrf
      rw [hnn]
      have HP := Aside0.mk hp
      have HBr := Aside0.mk (Below.refl wr.heap.size wr)
      obtain ⟨F, hF⟩ : ∃ F, runS L = F := ⟨_, rfl⟩
      obtain ⟨RF, hRF⟩ : ∃ RF, runR L = RF := ⟨_, rfl⟩
      rw [hF, hRF] at hw1 hrf
      have HFR := Aside0.mk (And.intro hF hRF)
      have HLN := Aside0.mk hnn
      have hnn2 : nn ≤ 200 := by omega
      have hmm : F.m ≤ 10000 ∧ RF.length ≤ 100000 := by omega
      obtain ⟨lw, hlw⟩ : ∃ x, 8 * ((Z : Int) - 3 - F.m) - RF.length = x := ⟨_, rfl⟩
      obtain ⟨gw, hgw⟩ : ∃ x, F.g = x := ⟨_, rfl⟩
      have CWL : Aside0 (∀ wz, Below wr.heap.size wr wz → Calls Tryd.prog 32 #[.pointer (some ⟨g, 0, none⟩)] wz fun e w' => e = .returned (.int .i64 lw) ∧ Below wz.heap.size wz w') := ⟨fun wz h => (left_at o1 g Z F.g _ _ RF wz (WrB.below hw1 h) (by have := HZ.out; omega) (by rw [Wr.dig_len]; exact hmm.1) hmm.2).mono (fun e w' hh => ⟨by rw [hh.1, Wr.dig_len, hlw], hh.2⟩)⟩
      have CWR : Aside0 (∀ wz, Below wr.heap.size wr wz → Calls Tryd.prog 33 #[.pointer (some ⟨g, 0, none⟩)] wz fun e w' => e = .returned (.int .u32 gw) ∧ Below wz.heap.size wz w') := ⟨fun wz h => hgw ▸ rng_at o1 g Z F.g _ _ RF wz (WrB.below hw1 h)⟩
      by_cases hfit : Fits Z F.m RF.length
      · obtain ⟨BB, hBB⟩ : ∃ BB, pk Z F.m F.V RF = BB := ⟨_, rfl⟩
        have HBY : Aside0 (Rd.Bytes BB ∧ BB.length = Z) := ⟨by rw [← hBB]; exact ⟨pk_in hfit, pk_len _ _ _ _⟩⟩
        have CD : Aside0 (Calls Tryd.prog 31 #[.pointer (some ⟨g, 0, none⟩)] wr fun e w' => ∃ gb, e = .returned (.tuple #[.slice (some ⟨gb, 0, none⟩) Z Z, .int .i64 0]) ∧ Kd.R (Kd.int .u8) 5 w' 0 (fun k => wr.heap.size ≤ k) (.slice (some ⟨gb, 0, none⟩) Z Z) BB ∧ Below wr.heap.size wr w') := ⟨hBB ▸ done_yes o1 g Z F RF wr hw1 (by have := HZ.out; omega) hfit⟩
        have HNEW : Aside0 (Rel F (Rd.new BB) (runS [])) := ⟨by rw [← hBB]; exact read_new hF hfit⟩
        have HRF : Aside0 (RF.length ≤ 90000) := ⟨by omega⟩
        have HFIT := Aside0.mk (And.intro hfit (And.intro hBB (And.intro hlw hgw)))
        have hZb : Z ≤ 1275 := HZ.out.2
        clear hw1 hp hfit hBB hF hRF hnn hrf hle hmm hlw hgw
        go_wp2_with (first
          | (go_at_call 31; (with_reducible refine CD.out.mono ?_); rintro e w1 ⟨gb, rfl, hRB, hb⟩; have HRB := Aside0.mk hRB; have HB1 := Aside0.mk (hb.mono (Nat.le_refl _)); clear hRB hb)
          | (go_at_call 10; (with_reducible refine (SwWalk.new_any BB HBY.out.1 Z HBY.out.2 (by omega) (some ⟨gb, 0, none⟩) Z _ (bytes_c HRB.out HBY.out.2) (Nat.le_refl _)).mono ?_); rintro e wn ⟨gr, rfl, hI, hb⟩; have HT := Aside0.mk hI.w0; have HB2 := Aside0.mk (below_step HB1.out hb); have HQ : Aside0 (Below w1.heap.size w1 wn) := ⟨hb⟩; have HP1 := Aside0.mk (Kd.R_below HP.out HB1.out); clear hI hb))
        have HLZ : Aside0 (∀ wz, Below w1.heap.size w1 wz → Laid wz) := ⟨fun wz h => HLD.out.below (below_step HB.out (below_step HB1.out h))⟩
        clear CD HRB HP
        have HINV : Aside0 (Rel F (Rd.new BB) (runS (L.take 0)) ∧ (Rd.new BB).r = (runR (L.take 0)).length ∧ Rd.Good (Rd.new BB) ∧ (Rd.new BB).t ≤ 3 + 2 * 0) := ⟨by
          rw [List.take_zero]
          exact ⟨HNEW.out, rfl, Rd.new_good HBY.out.1, by simp [Rd.new]⟩⟩
        clear HNEW
        go_loopw [81] (fun i wr => ∃ (j : Nat) (rs : Rd.St), j ≤ nn ∧ i = .int .i64 j ∧ Aside0 (SwW w1.heap.size wr gr BB rs) ∧ Aside0 (Below w1.heap.size w1 wr) ∧ Aside0 (Rel F rs (runS (L.take j)) ∧ rs.r = (runR (L.take j)).length ∧ Rd.Good rs ∧ rs.t ≤ 3 + 2 * j)) (fun i _ => nn - (intOf i).toNat)
        case atStart => exact ⟨0, Rd.new BB, Nat.zero_le _, rfl, HT, HQ, HINV⟩
        case round =>
          obtain ⟨j, rs, hj, rfl, HX, HQ2, HINV2⟩ := hrel
          clear HT HQ HINV
          have HQ := HQ2
          clear HQ2
          by_cases hjn : j < nn
          · obtain ⟨ad, hA, hc0, hc1, hc2, hc3, hc4⟩ := at_T51 (rows_c (Kd.R_below HP1.out HQ.out) HLN.out) (j : Int) (by omega) (by omega)
            rw [Int.toNat_natCast] at hc0 hc1 hc2 hc3 hc4
            obtain ⟨⟨K, F1, T, M, X⟩, ho⟩ : ∃ o, rd_T51 L j = o := ⟨_, rfl⟩
            rw [ho] at hc0 hc1 hc2 hc3 hc4
            simp only at hc0 hc1 hc2 hc3 hc4
            subst hA
            have hjL : j < L.length := by rw [HLN.out]; exact hjn
            have hsplit : L.take j ++ (⟨K, F1, T, M, X⟩ : S51) :: L.drop (j + 1) = L := by
              have e : L[j] = ⟨K, F1, T, M, X⟩ := by
                rw [← ho]; unfold rd_T51; rw [Int.toNat_natCast, List.getD_eq_getElem?_getD, List.getElem?_eq_getElem hjL]; rfl
              rw [← e, ← List.drop_eq_getElem_cons hjL, List.take_append_drop]
            have hnext : L.take j ++ [(⟨K, F1, T, M, X⟩ : S51)] = L.take (j + 1) := by
              have e : L[j] = ⟨K, F1, T, M, X⟩ := by
                rw [← ho]; unfold rd_T51; rw [Int.toNat_natCast, List.getD_eq_getElem?_getD, List.getElem?_eq_getElem hjL]; rfl
              rw [← e, List.take_succ_eq_append_getElem hjL]
            have hok : okO (⟨K, F1, T, M, X⟩ : S51) := HI.out.1 _ (by rw [← hsplit]; simp)
            have hrun := HFR.out
            have hstep := read_step (Z := Z) (F := F) (RF := RF) (by rw [hsplit]; exact hrun.1) (by rw [hsplit]; exact hrun.2) hok HFIT.out.1 HINV2.out.1 HINV2.out.2.1
            rw [hnext, HFIT.out.2.1] at hstep
            obtain ⟨hs1, hs2, hs3, hs4⟩ := hstep
            obtain ⟨r', hr'⟩ : ∃ r', rdO BB rs ⟨K, F1, T, M, X⟩ = r' := ⟨_, rfl⟩
            rw [hr'] at hs1 hs2
            have hgood : Rd.Good r' ∧ r'.t ≤ 3 + 2 * (j + 1) := ⟨by
              rw [← hr']; unfold rdO; split
              · exact Rd.take_good HBY.out.1 HINV2.out.2.2.1 _ _ _
              · exact ⟨HINV2.out.2.2.1.g0, HINV2.out.2.2.1.g1, HINV2.out.2.2.1.v0, HINV2.out.2.2.1.v1⟩, by
              rw [← hr']; unfold rdO; have := HINV2.out.2.2.2; split
              · have := (Rd.take_t BB rs F1 T M).2; simp only; omega
              · simp only; omega⟩
            have HNXT : Aside0 (Rel F r' (runS (L.take (j + 1))) ∧ r'.r = (runR (L.take (j + 1))).length ∧ Rd.Good r' ∧ r'.t ≤ 3 + 2 * (j + 1)) := ⟨⟨hs1, hs2, hgood.1, hgood.2⟩⟩
            have hbl : BB.length ≤ 10000 := by rw [HBY.out.2]; omega
            have hgrlt : gr < wr.heap.size := HX.out.lt
            have hge : w1.heap.size ≤ gr := HX.out.ge
            have hst : rs.t ≤ 9990 := by have := HINV2.out.2.2.2; omega
            have hsr : rs.r ≤ 90000 := by have h1 := HINV2.out.2.1; have h2 := (run_fair (L.take j)).2.2; rw [List.length_take] at h2; omega
            have hne : wr.heap.size ≠ gr := Nat.ne_of_gt hgrlt
            obtain ⟨bo, hbo⟩ : ∃ bo, (Obj.cells #[.int .u8 K, .int .i64 F1, .int .i64 T, .int .i64 M, .int .u32 X] 51 (0, 0)) = bo := ⟨_, rfl⟩
            have HBO := Aside0.mk hbo
            have HBX0 : Aside0 (RT w1 gr BB rs wr.heap.size bo (wr.alloc (.cells #[.int .u8 K, .int .i64 F1, .int .i64 T, .int .i64 M, .int .u32 X] 51))) := ⟨by subst hbo; exact ⟨HX.out.below (below_alloc (Below.refl _ _) _), below_alloc HQ.out _, blk_new wr _⟩⟩
            have HBX1 : Aside0 (RT w1 gr BB rs wr.heap.size bo (wr.alloc (.cells #[.int .u8 K, .int .i64 F1, .int .i64 T, .int .i64 M, .int .u32 X] 51)).drew) := ⟨RT.below HBX0.out (below_drew1 (Below.refl _ _))⟩
            have hjn' : (j : Int) < (nn : Int) := by omega
            by_cases h2 : K % 2 = 0
            · have hf : Int.tmod K 2 = 0 := by rw [Int.tmod_eq_emod_of_nonneg hok.1]; exact h2
              obtain ⟨Q, hQ⟩ : ∃ Q, Rd.get rs M = Q := ⟨_, rfl⟩
              have hs5 := hs3 h2
              simp only [hQ] at hs5
              have hokk : Rd.ok F1 T M := by have h := hok.2.2; rw [if_pos h2] at h; exact h
              have hI64 : SwWalk.I64 M := by unfold SwWalk.I64; omega
              have t1 : decide (Q < F1) = false := decide_eq_false (by omega)
              have t2 : decide (T ≤ Q) = false := decide_eq_false (by omega)
              have CG : Aside0 (∀ wz, RT w1 gr BB rs wr.heap.size bo wz → Calls Tryd.prog 12 #[.pointer (some ⟨gr, 0, none⟩), .int .i64 M] wz fun e w' => e = .returned (.int .i64 Q) ∧ RT w1 gr BB rs wr.heap.size bo w') := ⟨fun wz S => (SwWalk.sw_get' HINV2.out.2.2.1 hI64 (HLZ.out wz S.hb) S.x).mono (fun e w' h => ⟨by rw [h.1, hQ], S.step hge hne h.2.1 h.2.2.1 h.2.2.2⟩)⟩
              have CT : Aside0 (∀ wz, RT w1 gr BB rs wr.heap.size bo wz → Calls Tryd.prog 14 #[.pointer (some ⟨gr, 0, none⟩), .int .i64 F1, .int .i64 T, .int .i64 M] wz fun e w' => e = .returned (.tuple #[]) ∧ RT w1 gr BB r' wr.heap.size bo w') := ⟨fun wz S => (SwWalk.sw_take' HBY.out.1 hbl HINV2.out.2.2.1 hst F1 T hI64 (HLZ.out wz S.hb) S.x).mono (fun e w' h => ⟨h.1, S.step hge hne (by rw [← hr']; unfold rdO; rw [if_pos h2]; exact h.2.1) h.2.2.1 h.2.2.2⟩)⟩
              clear hsplit hnext hok hrun hs1 hs2 hs3 hs4 hs5 hr' hgood hbl hgrlt hge hst hsr hne hbo hQ h2 hjL ho hokk hI64
              go_wp2_with (first
                | (go_at_call 12; (with_reducible refine (CG.out _ HBX0.out).mono ?_); rintro e w2 ⟨rfl, hT⟩; have hz2 := hT.hz; rw [← HBO.out] at hz2; have hv1 : w2.cell? ⟨wr.heap.size, 1, none⟩ = some (.int .i64 F1) := (blk_cell hz2 1).trans rfl; have hv2 : w2.cell? ⟨wr.heap.size, 2, none⟩ = some (.int .i64 T) := (blk_cell hz2 2).trans rfl; have hv3 : w2.cell? ⟨wr.heap.size, 3, none⟩ = some (.int .i64 M) := (blk_cell hz2 3).trans rfl; have HT := Aside0.mk hT; clear hT hz2)
                | (go_at_call 14; (with_reducible refine (CT.out _ HT.out).mono ?_); rintro e w3 ⟨rfl, hT⟩; clear HT hv1 hv2 hv3; have HT := Aside0.mk hT; clear hT))
              exact ⟨⟨j + 1, r', by omega, congrArg (Value.int .i64) (by omega), ⟨HT.out.x⟩, ⟨HT.out.hb⟩, HNXT⟩, by simp [intOf]; omega⟩
            · have hf : Int.tmod K 2 = 1 := by have hK0 : 0 ≤ K := hok.1; rw [Int.tmod_eq_emod_of_nonneg hK0]; omega
              have hs5 := hs4 h2
              simp only at hs5
              have CW : Aside0 (∀ wz, RT w1 gr BB rs wr.heap.size bo wz → Calls Tryd.prog 16 #[.pointer (some ⟨gr, 0, none⟩), .int .i64 T] wz fun e w' => e = .returned (.int .u32 X) ∧ RT w1 gr BB r' wr.heap.size bo w') := ⟨fun wz S => (SwWalk.sw_raw HBY.out.1 hbl hsr T S.x).mono (fun e w' h => ⟨by rw [h.1, hs5], S.step hge hne (by rw [← hr']; unfold rdO; rw [if_neg h2]; exact h.2.1) h.2.2.1 h.2.2.2⟩)⟩
              clear hsplit hnext hok hrun hs1 hs2 hs3 hs4 hs5 hr' hgood hbl hgrlt hge hst hsr hne hbo h2 hjL ho
              go_wp2
              go_region_held3 (fun wz => wz.cell? ⟨wr.heap.size, 2, none⟩ = some (.int .i64 T) ∧ wz.cell? ⟨wr.heap.size, 4, none⟩ = some (.int .u32 X))
                (first | exact ⟨hv2, hv4⟩ | exact ⟨(blk_cell (blk_new wr _) 2).trans rfl, (blk_cell (blk_new wr _) 4).trans rfl⟩ | exact ⟨(blk_cell (blk_drew (blk_new wr _)) 2).trans rfl, (blk_cell (blk_drew (blk_new wr _)) 4).trans rfl⟩)
                (first
                | (go_at_call 16; (with_reducible refine (CW.out _ HBX0.out).mono ?_); rintro e w2 ⟨rfl, hT⟩; have hz2 := hT.hz; rw [← HBO.out] at hz2; have hv2 : w2.cell? ⟨wr.heap.size, 2, none⟩ = some (.int .i64 T) := (blk_cell hz2 2).trans rfl; have hv4 : w2.cell? ⟨wr.heap.size, 4, none⟩ = some (.int .u32 X) := (blk_cell hz2 4).trans rfl; have HT := Aside0.mk hT; clear hT hz2)
                | (go_at_call 16; (with_reducible refine (CW.out _ HBX1.out).mono ?_); rintro e w2 ⟨rfl, hT⟩; have hz2 := hT.hz; rw [← HBO.out] at hz2; have hv2 : w2.cell? ⟨wr.heap.size, 2, none⟩ = some (.int .i64 T) := (blk_cell hz2 2).trans rfl; have hv4 : w2.cell? ⟨wr.heap.size, 4, none⟩ = some (.int .u32 X) := (blk_cell hz2 4).trans rfl; have HT := Aside0.mk hT; clear hT hz2))
              all_goals (
                go_wp2
                exact ⟨⟨j + 1, r', by omega, congrArg (Value.int .i64) (by omega), ⟨HT.out.x⟩, ⟨HT.out.hb⟩, HNXT⟩, by simp [intOf]; omega⟩)
          · have hjn' : ¬ (j : Int) < (nn : Int) := by omega
            obtain rfl : j = nn := by omega
            have hin := HINV2.out
            rw [List.take_of_length_le (by rw [HLN.out]; exact Nat.le_refl _), HFR.out.1, HFR.out.2] at hin
            have hleft : SwWalk.left BB rs = lw := by unfold SwWalk.left; rw [← HFIT.out.2.2.1, HBY.out.2, hin.1.t, hin.2.1]; omega
            have hrng : rs.g = gw := by rw [hin.1.g]; exact HFIT.out.2.2.2
            have hrr : rs.r ≤ 100000 ∧ rs.t ≤ 10000 := by have h1 := hin.2.1; have h2 := hin.2.2.2; have h3 := HRF.out; omega
            have hbl : BB.length ≤ 10000 := by rw [HBY.out.2]; omega
            have hge : w1.heap.size ≤ gr := HX.out.ge
            have CSL : Aside0 (∀ wz, SwW w1.heap.size wz gr BB rs → Calls Tryd.prog 18 #[.pointer (some ⟨gr, 0, none⟩)] wz fun e w' => e = .returned (.int .i64 lw) ∧ SwW w1.heap.size w' gr BB rs ∧ Below w1.heap.size wz w') := ⟨fun wz S => (SwWalk.sw_left' hbl hrr.2 hrr.1 S).mono (fun e w' h => ⟨by rw [h.1, hleft], h.2.1, h.2.2.1.mono hge⟩)⟩
            have CSR : Aside0 (∀ wz, SwW w1.heap.size wz gr BB rs → Calls Tryd.prog 20 #[.pointer (some ⟨gr, 0, none⟩)] wz fun e w' => e = .returned (.int .u32 gw) ∧ SwW w1.heap.size w' gr BB rs ∧ Below w1.heap.size wz w') := ⟨fun wz S => (SwWalk.sw_rng' S).mono (fun e w' h => ⟨by rw [h.1, hrng], h.2.1, h.2.2.1.mono hge⟩)⟩
            clear hin hleft hrng hrr hbl hge
            go_wp2_with (first
              | (go_at_call 18; (with_reducible refine (CSL.out _ HX.out).mono ?_); rintro e w2 ⟨rfl, hS, hb⟩; have HX2 := Aside0.mk hS; have HQ2 := Aside0.mk (HQ.out.trans hb); clear hS hb)
              | (go_at_call 32; (with_reducible refine (CWL.out _ (below_step HB1.out HQ2.out)).mono ?_); rintro e w3 ⟨rfl, hb⟩; have HX3 := Aside0.mk (HX2.out.below hb); have HQ3 := Aside0.mk (HQ2.out.trans (hb.mono HQ2.out.size)); clear hb HX2)
              | (go_at_call 20; (with_reducible refine (CSR.out _ HX3.out).mono ?_); rintro e w4 ⟨rfl, hS, hb⟩; have HQ4 := Aside0.mk (HQ3.out.trans hb); clear hS hb)
              | (go_at_call 33; (with_reducible refine (CWR.out _ (below_step HB1.out HQ4.out)).mono ?_); rintro e w5 ⟨rfl, hb⟩; have HQ5 := Aside0.mk (HQ4.out.trans (hb.mono HQ4.out.size)); clear hb))
            go_ret
            exact ⟨rfl, below_step HB.out (below_step HB1.out HQ5.out)⟩
      · have CD : Aside0 (Calls Tryd.prog 31 #[.pointer (some ⟨g, 0, none⟩)] wr fun e w' => e = .returned (.tuple #[.slice none 0 0, .int .i64 4]) ∧ Below wr.heap.size wr w') := ⟨done_not o1 g Z F RF wr hw1 (by have := HZ.out; omega) hmm.1 hmm.2 hfit⟩
        have hneg : decide (lw < 0) = true := decide_eq_true (by rw [← hlw]; unfold Fits at hfit; omega)
        clear hw1 hp hfit hF hRF hnn hrf hle hmm hlw hgw
        go_wp2_with (first
          | (go_at_call 31; (with_reducible refine CD.out.mono ?_); rintro e w1 ⟨rfl, hb⟩; have HB1 := Aside0.mk (hb.mono (Nat.le_refl _)); clear hb)
          | (go_at_call 32; (with_reducible refine (CWL.out _ HB1.out).mono ?_); rintro e w2 ⟨rfl, hb⟩; have HB2 := Aside0.mk (below_step HB1.out hb); clear hb))
        go_ret
        exact ⟨rfl, below_step HB.out HB2.out⟩
theorem back_row (a0 : Int) (w0 : (Lit.int .u16 a0).wf = true) (a1 : Option Addr) (len1 cap1 : Nat) (z1 : List (List Int)) (w : World) (hLd : Laid w) (w1 : StructRows.Rows [.u8, .i64, .i64, .i64, .u32] w a1 len1 cap1 z1) :
    Calls Tryd.prog 7 #[.int .u16 a0, .slice a1 len1 cap1] w fun e w' => e = .returned (.bool true) ∧ Below w.heap.size w w' := by
  obtain ⟨hD, _, hop⟩ := ops51 w1
  have h0 := wf_u16 w0
  by_cases hn : len1 ≤ 200
  · exact back_at a0 (4 + a0 % 1272).toNat h0 (by omega) (z1.map to51) len1 hD.1 hn (fun o ho => ⟨(Math.wf_u8 (hop o ho).1).1, wf_u32 (hop o ho).2.2.2.2⟩) a1 cap1 w hLd hD
  · exact back_long _ _ _ _ _ hLd (decide_eq_true (by omega))
end Go.Proofs.YtdfgoahfaebooaaDoor.WrLaw
