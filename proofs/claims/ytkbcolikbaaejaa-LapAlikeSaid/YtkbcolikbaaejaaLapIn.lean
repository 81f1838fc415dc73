import Derived.Test.YtkbcolikbaaejaaLapPlain2
import Derived.Test.YtkbcolikbaaejaaArrs
import Derived.Deep.RegionHeld3
import Derived.BigRegion
import Derived.Deep.RegionLaw
import Derived.Outline
namespace Go.Proofs.Ytkbcolikbaaejaa.LapIn
open Go.RowKit Go.Proofs.Ytkbcolikbaaejaa.OLapTells Go.Proofs.YtkbcolikbaaejaaW.PrintWords Go.Proofs.YtkbcolikbaaejaaW.PrintLast Go.Proofs.YtkbcolikbaaejaaW.PrintMore
open Go.Proofs.Ytkbcolikbaaejaa.LapPlain
attribute [local go_sem] max2_int min2_int max_two min_two max_three min_three max_four min_four   -- for this text's walks alone
set_option linter.unusedVariables false
set_option linter.unusedSimpArgs false
set_option maxHeartbeats 1000000 in
set_option maxRecDepth 100000 in
theorem sat_q (x : Int) (w : World) : Calls Try.prog 21 #[.int .i64 x, .int .i64 24] w fun e w' => e = .returned (.int .i64 (s24 x)) ∧ w = w' := by
  have e2 : Go.bits .xor .i64 (if IntKind.i64.signed = true then -1 else 9223372036854775807) 8388607 = -8388608 := by decide +kernel
  go_enter Try.func21, Try.ntmps21
  go_wp2
  all_goals
    go_ret
    refine ⟨congrArg _ (congrArg (Value.int .i64) ?_), rfl⟩
    clear e2
    unfold s24
    omega
set_option maxHeartbeats 1000000 in
set_option maxRecDepth 100000 in
theorem sat32_q (x : Int) (w : World) : Calls Try.prog 23 #[.int .i64 x] w fun e w' => e = .returned (.int .i32 (s32 x)) ∧ w = w' := by
  go_enter Try.func23, Try.ntmps23
  go_wp2
  all_goals
    go_ret
    refine ⟨congrArg _ (congrArg (Value.int .i32) ?_), rfl⟩
    unfold s32
    omega
set_option maxHeartbeats 1000000 in
set_option maxRecDepth 100000 in
theorem round_q (x : Int) (h0 : -4611686018427387904 ≤ x) (h1 : x ≤ 4611686018427387904) (w : World) : Calls Try.prog 30 #[.int .i64 x, .int .i64 15] w fun e w' => e = .returned (.int .i64 ((x + 16384) / 32768)) ∧ Drawn0 w w' := by
  have e : bits .and .i64 (x / 16384) 1 = x / 16384 % 2 := Math.and_i64 _ 1 (by decide)
  have HD := Drawn0.refl w
  go_enter Try.func30, Try.ntmps30
  go_wp2
  go_quiet (fail)
  go_wp2
  go_ret
  clear e
  refine ⟨congrArg _ (congrArg (Value.int .i64) ?_), HD.step _⟩
  omega
set_option maxHeartbeats 1000000 in
set_option maxRecDepth 100000 in
theorem weighed_q (u v : Int) (hu : U u) (h0 : 0 ≤ v) (h1 : v ≤ 32767) (w : World) : Calls Try.prog 22 #[.int .i64 u, .int .i32 v] w fun e w' => e = .returned (.int .i64 (we u v)) ∧ Drawn0 w w' := by
  have hm := mul_w hu h0 h1
  have hw := Aside0.mk (fun w => round_q (u * v) (by omega) (by omega) w)
  have e : wrap64 (u * v) = u * v := Math.w64 (by omega) (by omega)
  clear hm
  go_enter Try.func22, Try.ntmps22
  go_wp2_with (go_at_call 30; (with_reducible refine (hw.out _).mono ?_); rintro e w1 ⟨rfl, hd⟩)
  go_ret
  exact ⟨rfl, hd⟩
theorem info21' : (Try.prog.info? 21).map (fun i => (i.zero, i.size, i.bytes)) = some (some (.int .i32 0), 1, 4) := by kernel_rfl
/-- The object that laps, its window so far. -/
def LapP (base : Nat) (w : World) (g : Nat) (xs : List Int) : Prop := ∃ v, w.heap[g]? = some (.cells #[v] 51 (0, 0)) ∧ base ≤ g ∧ Kd.R (Kd.int .i32) 21 w base (fun k => k ≠ g) v xs
theorem LapP.below {base g : Nat} {w w' : World} {xs : List Int} (h : LapP base w g xs) (hb : Below w.heap.size w w') : LapP base w' g xs := by
  obtain ⟨v, h1, h2, h3⟩ := h
  exact ⟨v, (hb.block g (blk_lt h1)).trans h1, h2, Kd.R_below h3 hb⟩
theorem LapP.push {base g : Nat} {w w2 : World} {v v1 : Value} {ys : List Int} (h1 : w.heap[g]? = some (.cells #[v] 51 (0, 0))) (h2 : base ≤ g) (h3 : Kd.R (Kd.int .i32) 21 w2 base (fun k => k ≠ g) v1 ys) (hg : w.grownBy w2 v.ownBlock) (hne : some g ≠ v.ownBlock) : w2.heap[g]? = some (.cells #[v] 51 (0, 0)) ∧ LapP base (w2.setCell ⟨g, 0, none⟩ v1) g ys := by
  have hb := blk_grown h1 hg hne
  exact ⟨hb, v1, blk_set hb 0 v1, h2, Kd.R_far h3 (fun k hk => hk) v1⟩
theorem wins_len (n j : Nat) : ((List.range j).map (fun i => wn n i)).length = j := by simp
set_option maxHeartbeats 4000000 in
set_option maxRecDepth 100000 in
theorem new_ok (n : Nat) (hth : Th n) (w : World) : Calls Try.prog 14 #[.int .i64 n] w fun e w' => ∃ g, e = .returned (.tuple #[.pointer (some ⟨g, 0, none⟩), .int .i64 0]) ∧ LapP w.heap.size w' g ((List.range n).map (fun i => wn n i)) ∧ Below w.heap.size w w' := by
  have HT := Aside0.mk (fun w => lap_there.calls (n : Int) true w (there_yes n hth))
  have hn32 : n ≤ 32 := by unfold Th at hth; omega
  have HW : Aside0 (∀ (j : Nat), j < n → ∀ w, ∃ r, wn n j = r ∧ Calls Try.prog 10 #[.int .i64 n, .int .i64 j] w fun e w' => e = .returned (.int .i32 r) ∧ Drawn0 w w') := ⟨fun j hj w => ⟨_, rfl, lap_Window.calls 100 n j _ w (win n j hth hj 100 (by omega)).1⟩⟩
  go_enter Try.func14, Try.ntmps14
  go_wp2_with (first | (go_at_call 18; (with_reducible refine (HT.out _).mono ?_); rintro e w1 ⟨rfl, hd⟩))
  have HB1 : Aside0 (Below w.heap.size w (w1.alloc (.cells #[.slice none 0 0] 51))) := ⟨below_alloc hd.below _⟩
  have HI : Aside0 (LapP w.heap.size (w1.alloc (.cells #[.slice none 0 0] 51)) w1.heap.size ((List.range 0).map (fun i => wn n i))) := ⟨_, heap_alloc_last _ _, hd.below.size, Kd.R_nil _ _ _ _ _⟩
  obtain ⟨g, hg⟩ : ∃ g, w1.heap.size = g := ⟨_, rfl⟩
  obtain ⟨w2, hw2⟩ : ∃ w2, w1.alloc (.cells #[.slice none 0 0] 51) = w2 := ⟨_, rfl⟩
  rw [hw2, hg] at HI
  rw [hw2] at HB1
  rw [hw2, hg]
  clear hw2 hg hd HT
  go_loopw [12] (fun i wr => ∃ j : Nat, j ≤ n ∧ i = .int .i64 j ∧ Aside0 (LapP w.heap.size wr g ((List.range j).map (fun i => wn n i))) ∧ Aside0 (Below w.heap.size w wr)) (fun i _ => (n - intOf i).toNat)
  case atStart => exact ⟨0, by omega, rfl, HI, HB1⟩
  case round =>
    obtain ⟨j, hj, rfl, HI2, HB2⟩ := hrel
    clear HI HB1
    by_cases hjt : j < n
    · obtain ⟨v, hg, hge, hR⟩ := HI2.out
      obtain ⟨A, c, rfl⟩ := Kd.R_slice hR
      rw [wins_len] at hg hR
      have hne := Kd.R_away hR (fun k hk => hk)
      have hc : wr.cell? ⟨g, 0, none⟩ = some (.slice A j c) := (blk_cell hg 0).trans rfl
      have hf := blk_frozen hg 0
      have HG := Aside0.mk hg
      have HGE := Aside0.mk hge
      have HR := Aside0.mk hR
      have HNE := Aside0.mk hne
      obtain ⟨r, hr, _⟩ := HW.out j hjt w
      have HC : Aside0 (∀ w, Calls Try.prog 10 #[.int .i64 n, .int .i64 j] w fun e w' => e = .returned (.int .i32 r) ∧ Drawn0 w w') := ⟨fun w => by obtain ⟨r', h1, h2⟩ := HW.out j hjt w; rw [hr] at h1; rw [h1]; exact h2⟩
      have HS : Aside0 ((List.range (j + 1)).map (fun i => wn n i) = (List.range j).map (fun i => wn n i) ++ [r]) := ⟨by rw [snoc, hr]⟩
      have hj' : (j : Int) < (n : Int) := by omega
      clear hg hge hR hne hr HI2
      go_wp2
      have HFR : Aside0 (∀ k, wr.heap.size ≤ k → k ≠ g) := ⟨fun k hk => by have := blk_lt HG.out; omega⟩
      go_region_law
        (first
          | (refine goes_ (N := some 22) Try.func10 (by kernel_rfl) rfl #[.int .i64 n, .int .i64 j] (by rfl) rfl rfl (by simp only [List.map_toArray, List.map_cons, List.map_nil]; rfl) ?_; (with_reducible refine (HC.out _).mono ?_); rintro e w3 ⟨rfl, hd⟩; refine ⟨_, rfl, ?_⟩; have HB3 := Aside0.mk (below_step (below_drew (Below.refl _ _)) hd.below : Below wr.heap.size wr w3); have hg3 := (HB3.out.block g (blk_lt HG.out)).trans HG.out; have hc3 : w3.cell? ⟨g, 0, none⟩ = some (.slice A j c) := (blk_cell hg3 0).trans rfl; have hf3 := blk_frozen hg3 0; have HG3 := Aside0.mk hg3; have HR3 := Aside0.mk (Kd.R_below HR.out HB3.out); have hg4 := blk_alloc hg3 (.cells #[.int .i32 r] 21); have hc4 : (w3.alloc (.cells #[.int .i32 r] 21)).cell? ⟨g, 0, none⟩ = some (.slice A j c) := (blk_cell hg4 0).trans rfl; have hf4 := blk_frozen hg4 0; clear hg3 hd hg4)
          | (refine Kd.R_append_step (Kd.int .i32) (w0 := w3) w.heap.size (by rfl) (.tmp 19) (.tmp 23) 30 21 (.int .i32 0) 4 rfl Try.underlying30 info21' rfl (by decide) (by decide) (.slice A j c) ((List.range j).map (fun i => wn n i)) r [.int .i32 r] (fun k => k ≠ g) (fun _ => False) ?aX ?aY ?aP (fun _ hk => hk.elim) ?aF ?aO ?aB ?aS ?aL ?_; (case aX => exact rfl); (case aY => exact rfl); (case aP => exact rfl); (case aF => exact (fun k hk => HFR.out k (Nat.le_trans HB3.out.size hk))); (case aO => exact HR3.out); (case aB => exact (Below.refl _ _)); (case aS => exact Nat.le_trans HB2.out.size HB3.out.size); (case aL => simp; omega); intro v1 w4 hR hb4 hgr hat; obtain ⟨A2, c2, rfl⟩ := Kd.R_slice hR; rw [← HS.out, wins_len] at hR; have hp := LapP.push HG3.out HGE.out hR hgr HNE.out; have HP := Aside0.mk hp.2; have hc5 : w4.cell? ⟨g, 0, none⟩ = some (.slice A j c) := (blk_cell hp.1 0).trans rfl; have hf5 := blk_frozen hp.1 0; have HB4 := Aside0.mk ((below_step HB2.out HB3.out).trans hb4); clear hR hb4 hgr hat hp))
      all_goals
        go_wp2
        go_roundw
        case rel => exact ⟨j + 1, by omega, by simp, HP, ⟨Below.setCell HB4.out (p := ⟨g, 0, none⟩) HGE.out _⟩⟩
        case measure => simp [intOf]; omega
    · obtain rfl : j = n := by omega
      obtain ⟨v, hg, hge, hR⟩ := HI2.out
      clear hg hge hR
      go_wp2
      go_ret2
      exact ⟨g, rfl, HI2.out, HB2.out⟩
end Go.Proofs.Ytkbcolikbaaejaa.LapIn
