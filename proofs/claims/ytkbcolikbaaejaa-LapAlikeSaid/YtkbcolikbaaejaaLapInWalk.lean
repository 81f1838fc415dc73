import Derived.Test.YtkbcolikbaaejaaLapSort
import Derived.Deep.CutBlock
namespace Go.Proofs.Ytkbcolikbaaejaa.LapIn
open Go.RowKit Go.Proofs.Ytkbcolikbaaejaa.OLapTells Go.Proofs.YtkbcolikbaaejaaW.PrintWords Go.Proofs.YtkbcolikbaaejaaW.PrintLast Go.Proofs.YtkbcolikbaaejaaW.PrintMore
open Go.Proofs.Ytkbcolikbaaejaa.LapPlain
set_option linter.unusedVariables false
set_option linter.unusedSimpArgs false
/-- The object that laps, whole: what it is made of lies below B. -/
def LapQ (B : Nat) (w : World) (g : Nat) (xs : List Int) : Prop := ∃ v, w.heap[g]? = some (.cells #[v] 51 (0, 0)) ∧ g < B ∧ Kd.R (Kd.int .i32) 21 w 0 (fun k => k ≠ g ∧ k < B) v xs
theorem LapQ.of {base g : Nat} {w : World} {xs : List Int} (h : LapP base w g xs) : LapQ w.heap.size w g xs := by
  obtain ⟨v, h1, h2, h3⟩ := h
  exact ⟨v, h1, blk_lt h1, Kd.R_mono (Kd.R_lower (Kd.R_bound h3) (Nat.zero_le _)) (fun k hk => ⟨hk.1, hk.2.2.1⟩)⟩
theorem LapQ.below {B g : Nat} {w w' : World} {xs : List Int} (h : LapQ B w g xs) (hb : Below B w w') : LapQ B w' g xs := by
  obtain ⟨v, h1, h2, h3⟩ := h
  exact ⟨v, (hb.block g h2).trans h1, h2, Kd.R_step h3 (fun k hk _ => hb.block k hk.2)⟩
/-- The samples on their way, and the tail. -/
def yst (Y T : List Int) (h q : Nat) : List Int := (List.range (2 * h)).map (fun j => if h - q ≤ j ∧ j < h + q then (if h ≤ j then ov Y T (j - h) else ov Y T (h + j)) else rd Y j)
def tst (Y T : List Int) (h q : Nat) : List Int := (List.range (2 * h)).map (fun j => if j < q ∨ 2 * h - q ≤ j then bv Y j else rd T j)
theorem yst_len (Y T : List Int) (h q : Nat) : (yst Y T h q).length = 2 * h := by simp [yst]
theorem tst_len (Y T : List Int) (h q : Nat) : (tst Y T h q).length = 2 * h := by simp [tst]
theorem list_range (X : List Int) (n : Nat) (hx : X.length = n) : (List.range n).map (fun j : Nat => rd X j) = X := by
  apply List.ext_getElem
  · simp [hx]
  · intro i h1 h2
    simp only [List.getElem_map, List.getElem_range]
    unfold rd
    rw [Int.toNat_natCast, List.getD_eq_getElem?_getD, List.getElem?_eq_getElem h2]; rfl
theorem yst_zero (Y T : List Int) (h : Nat) (hy : Y.length = 2 * h) : yst Y T h 0 = Y := by
  rw [← list_range Y (2 * h) hy]
  unfold yst
  apply List.map_congr_left
  intro j hj
  rw [if_neg (by omega), list_range Y (2 * h) hy]
theorem tst_zero (Y T : List Int) (h : Nat) (ht : T.length = 2 * h) : tst Y T h 0 = T := by
  conv => rhs; rw [← list_range T (2 * h) ht]
  unfold tst
  apply List.map_congr_left
  intro j hj
  have := List.mem_range.1 hj
  rw [if_neg (by omega)]
theorem yst_step (Y T : List Int) (h q : Nat) (hq : q < h) : ((yst Y T h q).set (h + q) (ov Y T q)).set (h - 1 - q) (ov Y T (2 * h - 1 - q)) = yst Y T h (q + 1) := by
  unfold yst
  rw [Arrs.set_range, Arrs.set_range]
  apply List.map_congr_left
  intro j hj
  by_cases h1 : j = h - 1 - q
  · rw [if_pos h1, if_pos (by omega), if_neg (by omega), show 2 * h - 1 - q = h + j by omega]
  · rw [if_neg h1]
    by_cases h2 : j = h + q
    · rw [if_pos h2, if_pos (by omega), if_pos (by omega), show j - h = q by omega]
    · rw [if_neg h2]
      by_cases h3 : h - q ≤ j ∧ j < h + q
      · rw [if_pos h3, if_pos (show h - (q + 1) ≤ j ∧ j < h + (q + 1) by omega)]
      · rw [if_neg h3, if_neg (by omega)]
theorem tst_step (Y T : List Int) (h q : Nat) (hq : q < h) : ((tst Y T h q).set q (bv Y q)).set (2 * h - 1 - q) (bv Y (2 * h - 1 - q)) = tst Y T h (q + 1) := by
  unfold tst
  rw [Arrs.set_range, Arrs.set_range]
  apply List.map_congr_left
  intro j hj
  have hj2 := List.mem_range.1 hj
  by_cases h1 : j = 2 * h - 1 - q
  · rw [if_pos h1, if_pos (by omega), h1]
  · rw [if_neg h1]
    by_cases h2 : j = q
    · rw [if_pos h2, if_pos (by omega), h2]
    · rw [if_neg h2]
      by_cases h3 : j < q ∨ 2 * h - q ≤ j
      · rw [if_pos h3, if_pos (by omega)]
      · rw [if_neg h3, if_neg (by omega)]
theorem yst_fin (Y T : List Int) (h : Nat) : so (yst Y T h h) h = (List.range (2 * h)).map (ov Y T) := by
  unfold so
  apply List.map_congr_left
  intro j hj
  have hj2 := List.mem_range.1 hj
  by_cases h1 : j < h
  · rw [if_pos h1]; unfold yst; rw [rd_range _ _ _ (by omega), if_pos (by omega), if_pos (by omega), show h + j - h = j by omega]
  · rw [if_neg h1]; unfold yst; rw [rd_range _ _ _ (by omega), if_pos (by omega), if_neg (by omega), show h + (j - h) = j by omega]
theorem tst_fin (Y T : List Int) (h : Nat) : tst Y T h h = (List.range (2 * h)).map (bv Y) := by
  unfold tst
  apply List.map_congr_left
  intro j hj
  rw [if_pos (by omega)]
/-- What a round reads, and what comes of it. -/
theorem round_vals (Y T : List Int) (h q : Nat) (hth : Th (2 * h)) (hq : q < h) (hy : Y.length = 2 * h) (hw : ∀ x ∈ Y, I32 x) (hv : ∀ x ∈ T, I32 x) :
    ∃ u v W V t0 t1 : Int, rd (yst Y T h q) (h + q : Nat) = u ∧ rd (yst Y T h q) (h - 1 - q : Nat) = v ∧ wn (2 * h) q = W ∧ wn (2 * h) (2 * h - 1 - q) = V ∧ rd (tst Y T h q) q = t0 ∧ rd (tst Y T h q) (2 * h - 1 - q : Nat) = t1 ∧
      I32 u ∧ I32 v ∧ (0 ≤ W ∧ W ≤ 32767) ∧ (0 ≤ V ∧ V ≤ 32767) ∧ I32 t0 ∧ I32 t1 ∧
      s24 (t0 + we u W) = ov Y T q ∧ s24 (t1 + we (-u) V) = ov Y T (2 * h - 1 - q) ∧ s32 (we (-v) V) = bv Y q ∧ s32 (we (-v) W) = bv Y (2 * h - 1 - q) := by
  obtain ⟨W, hW, _, w2, w3⟩ := win_ex (2 * h) q hth (by omega) 100 (by omega)
  obtain ⟨V, hV, _, v2, v3⟩ := win_ex (2 * h) (2 * h - 1 - q) hth (by omega) 100 (by omega)
  refine ⟨rd Y (h + q : Nat), rd Y (h - 1 - q : Nat), W, V, rd T q, rd T (2 * h - 1 - q : Nat), ?_, ?_, hW, hV, ?_, ?_, rd_in hw _, rd_in hw _, ⟨w2, w3⟩, ⟨v2, v3⟩, rd_in hv _, rd_in hv _, ?_, ?_, ?_, ?_⟩
  · unfold yst; rw [rd_range _ _ _ (by omega), if_neg (by omega)]
  · unfold yst; rw [rd_range _ _ _ (by omega), if_neg (by omega)]
  · unfold tst; rw [rd_range _ _ _ (by omega), if_neg (by omega)]
  · unfold tst; rw [rd_range _ _ _ (by omega), if_neg (by omega)]
  · unfold ov uu; rw [hy, if_pos (by omega), hW, show 2 * h / 2 + q = h + q by omega]
  · unfold ov uu; rw [hy, if_neg (by omega), if_pos (by omega), hV, show 3 * (2 * h) / 2 - 1 - (2 * h - 1 - q) = h + q by omega]
  · unfold bv uu; rw [hy, if_neg (by omega), if_pos (by omega), hV, show 3 * (2 * h) / 2 - 1 - (2 * h + q) = h - 1 - q by omega]
  · unfold bv uu; rw [hy, if_neg (by omega), if_neg (by omega), show 2 * h - 1 - (2 * h - 1 - q) = q by omega, hW, show 2 * h + (2 * h - 1 - q) - 3 * (2 * h) / 2 = h - 1 - q by omega]
theorem drawn_more {w w5 w6 : World} {m6 : Nat} (h : ∃ m, w5 = w.drewN m) (h6 : w6 = w5.drewN m6) : ∃ m, w6 = w.drewN m := by
  obtain ⟨m, rfl⟩ := h
  exact ⟨_, h6.trans (World.drewN_drewN _ _ _)⟩
theorem cell_same {w w6 : World} (h : ∃ m, w6 = w.drewN m) (p : Addr) : w6.cell? p = w.cell? p := by
  obtain ⟨m, rfl⟩ := h; rfl
theorem frozen_same {w w6 : World} (h : ∃ m, w6 = w.drewN m) (p : Addr) : w6.frozen? p = w.frozen? p := by
  obtain ⟨m, rfl⟩ := h; rfl
theorem R_same {w w6 : World} {base : Nat} {ok : Nat → Prop} {v : Value} {xs : List Int} (h : ∃ m, w6 = w.drewN m) (hR : Kd.R (Kd.int .i32) 21 w base ok v xs) : Kd.R (Kd.int .i32) 21 w6 base ok v xs := by
  obtain ⟨m, rfl⟩ := h
  exact Kd.R_drewN hR m
theorem R_past {w : World} {base g n c : Nat} {ok : Nat → Prop} {xs : List Int} (h : Kd.R (Kd.int .i32) 21 w base ok (.slice (some ⟨g, 0, none⟩) n c) xs) {p : Addr} (hne : g ≠ p.block) (u : Value) : Kd.R (Kd.int .i32) 21 (w.setCell p u) base ok (.slice (some ⟨g, 0, none⟩) n c) xs :=
  Kd.R_mono (Kd.R_step (Kd.R_tight2 rfl h) (fun k hk _ => Below.heap_setCell w p u k (by have := hk.1; simp [Value.ownBlock] at this; omega))) (fun k hk => hk.2)
theorem R_kept {w w' : World} {base g g' n c : Nat} {ok : Nat → Prop} {xs : List Int} (hne : g' ≠ g) (h : Kd.R (Kd.int .i32) 21 w base ok (.slice (some ⟨g, 0, none⟩) n c) xs) (hk : Kept w w' (fun k => k = g')) : Kd.R (Kd.int .i32) 21 w' base ok (.slice (some ⟨g, 0, none⟩) n c) xs :=
  Kd.R_mono (Kd.R_step (Kd.R_tight2 rfl h) (fun k h1 h2 => hk.2 k h2 (fun e => by have := h1.1; simp [Value.ownBlock] at this; omega))) (fun k hk => hk.2)
/-- A callee that only draws, met behind draws that are joined already. -/
theorem quiet_more {f : FuncId} {args : Array Value} {w : World} {j k : Nat} {x : Value} (c : ∀ W, Calls Try.prog f args W fun e w' => e = .returned x ∧ ∃ m, w' = W.drewN m) :
    Calls Try.prog f args (w.drewN (j + k)) fun e w2 => e = .returned x ∧ ∃ m, w2 = w.drewN (j + m) :=
  (c _).mono fun _ _ ⟨h1, m, h2⟩ => ⟨h1, k + m, by rw [h2, World.drewN_drewN, Nat.add_assoc]⟩
set_option maxHeartbeats 8000000 in
set_option maxRecDepth 100000 in
theorem in_any (B gl gy gt cy ct h n : Nat) (h1 : 1 ≤ h) (h16 : h ≤ 16) (hn : n = 2 * h) (hth : Th n) (Y T : List Int) (hw : ∀ x ∈ Y, I32 x) (hv : ∀ x ∈ T, I32 x) (oky okt : Nat → Prop) (hne : gy ≠ gt) (w : World) (HL0 : LapQ B w gl ((List.range n).map (fun i => wn n i)))
    (HY0 : Kd.R (Kd.int .i32) 21 w B oky (.slice (some ⟨gy, 0, none⟩) n cy) Y) (HT0 : Kd.R (Kd.int .i32) 21 w B okt (.slice (some ⟨gt, 0, none⟩) n ct) T) :
    Calls Try.prog 15 #[.pointer (some ⟨gl, 0, none⟩), .slice (some ⟨gy, 0, none⟩) n cy, .slice (some ⟨gt, 0, none⟩) n ct] w fun e w' => e = .returned (.bool true) ∧
      Kd.R (Kd.int .i32) 21 w' B oky (.slice (some ⟨gy, 0, none⟩) n cy) ((List.range n).map (ov Y T)) ∧ Kd.R (Kd.int .i32) 21 w' B okt (.slice (some ⟨gt, 0, none⟩) n ct) ((List.range n).map (bv Y)) ∧ Below B w w' ∧ Kept w w' (fun k => k = gy ∨ k = gt) := by
  have HY := Aside0.mk HY0
  have HT := Aside0.mk HT0
  have HL := Aside0.mk HL0
  have HN := Aside0.mk hn
  have hyl : Y.length = n := (Kd.R_reads' HY0).1.symm
  have htl : T.length = n := (Kd.R_reads' HT0).1.symm
  have HBY : Aside0 (B ≤ gy ∧ gy < w.heap.size) := ⟨by obtain ⟨cur, hg, _, _, _, _, _, hb, _⟩ := Arrs.R_open HY0; exact ⟨hb, blk_lt hg⟩⟩
  have HBT : Aside0 (B ≤ gt ∧ gt < w.heap.size) := ⟨by obtain ⟨cur, hg, _, _, _, _, _, hb, _⟩ := Arrs.R_open HT0; exact ⟨hb, blk_lt hg⟩⟩
  obtain ⟨v0, hg, hgB, hR⟩ := HL0
  obtain ⟨Aw, cw, rfl⟩ := Kd.R_slice hR
  rw [wins_len] at hg hR
  have HGL := Aside0.mk hg
  have HGB := Aside0.mk hgB
  have HRW := Aside0.mk hR
  have hc0 : w.cell? ⟨gl, 0, none⟩ = some (.slice Aw n cw) := (blk_cell hg 0).trans rfl
  have HYL := Aside0.mk (hyl.trans hn)
  have HTL := Aside0.mk (htl.trans hn)
  have hh : Int.tdiv (n : Int) 2 = (h : Int) := by rw [Int.tdiv_eq_ediv_of_nonneg (by omega)]; omega
  have hh2 : (n : Int) / 2 = (h : Int) := by omega
  have hb : n ≤ 32 := by omega
  have nn : ((n : Int) != (n : Int)) = false := by simp
  clear HY0 HT0 hg hgB hR hyl htl hn
  go_enter Try.func15, Try.ntmps15
  go_wp2
  have HI : Aside0 (Kd.R (Kd.int .i32) 21 w B oky (.slice (some ⟨gy, 0, none⟩) n cy) (yst Y T h 0) ∧ Kd.R (Kd.int .i32) 21 w B okt (.slice (some ⟨gt, 0, none⟩) n ct) (tst Y T h 0) ∧ Below B w w ∧ Kept w w (fun k => k = gy ∨ k = gt)) := ⟨by rw [yst_zero Y T h HYL.out]; exact HY.out, by rw [tst_zero Y T h HTL.out]; exact HT.out, Below.refl _ _, Kept.refl _ _⟩
  clear nn hh2 hc0
  go_loopw [35] (fun i wr => ∃ q : Nat, q ≤ h ∧ i = .int .i64 q ∧ Aside0 (Kd.R (Kd.int .i32) 21 wr B oky (.slice (some ⟨gy, 0, none⟩) n cy) (yst Y T h q) ∧ Kd.R (Kd.int .i32) 21 wr B okt (.slice (some ⟨gt, 0, none⟩) n ct) (tst Y T h q) ∧ Below B w wr ∧ Kept w wr (fun k => k = gy ∨ k = gt))) (fun i _ => (h - intOf i).toNat)
  case atStart => exact ⟨0, by omega, rfl, HI⟩
  case round =>
    obtain ⟨q, hq, rfl, HI2⟩ := hrel
    clear HI
    by_cases hqt : q < h
    · have hq' : (q : Int) < (h : Int) := by omega
      obtain ⟨a, ha⟩ : ∃ a : Nat, a = n - 1 - q := ⟨_, rfl⟩
      obtain ⟨b, hb'⟩ : ∃ b : Nat, b = h + q := ⟨_, rfl⟩
      obtain ⟨d, hd⟩ : ∃ d : Nat, d = h - 1 - q := ⟨_, rfl⟩
      obtain ⟨h', hh'⟩ : ∃ x : Nat, x = h - 1 := ⟨_, rfl⟩
      have hN := HN.out
      have HTH : Aside0 (Th (2 * h)) := ⟨by rw [← hN]; exact hth⟩
      obtain ⟨u, v, W, V, t0, t1, eu, ev, eW, eV, e0, e1, hu, hv', hW, hV, ht0, ht1, r1, r2, r3, r4⟩ := round_vals Y T h q HTH.out hqt HYL.out hw hv
      have hna : 2 * h - 1 - q = a := by omega
      rw [hna] at eV e1 r2 r4
      rw [← hb'] at eu
      rw [← hd] at ev
      obtain ⟨hRY, hRT, hBe, hKe⟩ := HI2.out
      have c1 := (Kd.R_celln (d := (0 : Int)) hRY (b : Int) (by omega) (by omega))
      have c2 := (Kd.R_celln (d := (0 : Int)) hRY (d : Int) (by omega) (by omega))
      have c3 := (Kd.R_celln (d := (0 : Int)) hRT (q : Int) (by omega) (by omega))
      have c4 := (Kd.R_celln (d := (0 : Int)) hRT (a : Int) (by omega) (by omega))
      rw [show rdOf (0 : Int) (yst Y T h q) (b : Int) = u from eu, Int.toNat_natCast] at c1
      rw [show rdOf (0 : Int) (yst Y T h q) (d : Int) = v from ev, Int.toNat_natCast] at c2
      rw [show rdOf (0 : Int) (tst Y T h q) (q : Int) = t0 from e0, Int.toNat_natCast] at c3
      rw [show rdOf (0 : Int) (tst Y T h q) (a : Int) = t1 from e1, Int.toNat_natCast] at c4
      obtain ⟨c1, f1⟩ := c1
      obtain ⟨c2, f2⟩ := c2
      obtain ⟨c3, f3⟩ := c3
      obtain ⟨c4, f4⟩ := c4
      have hc0 : wr.cell? ⟨gl, 0, none⟩ = some (.slice Aw n cw) := (blk_cell ((hBe.block gl HGB.out).trans HGL.out) 0).trans rfl
      have hRW := Kd.R_step HRW.out (fun k hk _ => hBe.block k hk.2)
      obtain ⟨aw, ew, c5⟩ := Kd.at_int (Kd.R_reads' hRW).2.2 (q : Int) (by omega) (by rw [wins_len]; omega)
      obtain ⟨aw', ew', c6⟩ := Kd.at_int (Kd.R_reads' hRW).2.2 (a : Int) (by omega) (by rw [wins_len]; omega)
      rw [ew] at ew'
      obtain rfl := Option.some.inj ew'
      rw [rd_range _ _ _ (by omega), hN, eW, Int.toNat_natCast] at c5
      rw [rd_range _ _ _ (by omega), hN, eV, Int.toNat_natCast] at c6
      subst ew
      unfold I32 at hu hv' ht0 ht1
      have q1 := we_in (u := u) (w := W) (by unfold U; omega) hW.1 hW.2
      have q2 := we_in (u := -u) (w := V) (by unfold U; omega) hV.1 hV.2
      have q3 := we_in (u := -v) (w := V) (by unfold U; omega) hV.1 hV.2
      have q4 := we_in (u := -v) (w := W) (by unfold U; omega) hW.1 hW.2
      have C1 : Aside0 (∀ w, Calls Try.prog 22 #[.int .i64 u, .int .i32 W] w fun e w' => e = .returned (.int .i64 (we u W)) ∧ ∃ m, w' = w.drewN m) := ⟨fun w => (weighed_q u W (by unfold U; omega) hW.1 hW.2 w).mono fun _ _ k => ⟨k.1, k.2.out⟩⟩
      have C2 : Aside0 (∀ w, Calls Try.prog 22 #[.int .i64 (-u), .int .i32 V] w fun e w' => e = .returned (.int .i64 (we (-u) V)) ∧ ∃ m, w' = w.drewN m) := ⟨fun w => (weighed_q (-u) V (by unfold U; omega) hV.1 hV.2 w).mono fun _ _ k => ⟨k.1, k.2.out⟩⟩
      have C3 : Aside0 (∀ w, Calls Try.prog 22 #[.int .i64 (-v), .int .i32 V] w fun e w' => e = .returned (.int .i64 (we (-v) V)) ∧ ∃ m, w' = w.drewN m) := ⟨fun w => (weighed_q (-v) V (by unfold U; omega) hV.1 hV.2 w).mono fun _ _ k => ⟨k.1, k.2.out⟩⟩
      have C4 : Aside0 (∀ w, Calls Try.prog 22 #[.int .i64 (-v), .int .i32 W] w fun e w' => e = .returned (.int .i64 (we (-v) W)) ∧ ∃ m, w' = w.drewN m) := ⟨fun w => (weighed_q (-v) W (by unfold U; omega) hW.1 hW.2 w).mono fun _ _ k => ⟨k.1, k.2.out⟩⟩
      have S1 : Aside0 (∀ w, Calls Try.prog 21 #[.int .i64 (t0 + we u W), .int .i64 24] w fun e w' => e = .returned (.int .i64 (ov Y T q)) ∧ ∃ m, w' = w.drewN m) := ⟨fun w => (sat_q (t0 + we u W) w).mono fun _ _ k => ⟨by rw [← r1]; exact k.1, 0, k.2.symm⟩⟩
      have S2 : Aside0 (∀ w, Calls Try.prog 21 #[.int .i64 (t1 + we (-u) V), .int .i64 24] w fun e w' => e = .returned (.int .i64 (ov Y T a)) ∧ ∃ m, w' = w.drewN m) := ⟨fun w => (sat_q (t1 + we (-u) V) w).mono fun _ _ k => ⟨by rw [← r2]; exact k.1, 0, k.2.symm⟩⟩
      have D1 : Aside0 (∀ w, Calls Try.prog 23 #[.int .i64 (we (-v) V)] w fun e w' => e = .returned (.int .i32 (bv Y q)) ∧ w = w') := ⟨fun w => by rw [← r3]; exact sat32_q _ w⟩
      have D2 : Aside0 (∀ w, Calls Try.prog 23 #[.int .i64 (we (-v) W)] w fun e w' => e = .returned (.int .i32 (bv Y a)) ∧ w = w') := ⟨fun w => by rw [← r4]; exact sat32_q _ w⟩
      have o1 : -8388608 ≤ ov Y T q ∧ ov Y T q ≤ 8388607 := by rw [← r1]; unfold s24; omega
      have o2 : -8388608 ≤ ov Y T a ∧ ov Y T a ≤ 8388607 := by rw [← r2]; unfold s24; omega
      clear r1 r2 r3 r4
      obtain ⟨p1, hp1⟩ : ∃ p, we u W = p := ⟨_, rfl⟩
      obtain ⟨p2, hp2⟩ : ∃ p, we (-u) V = p := ⟨_, rfl⟩
      obtain ⟨p3, hp3⟩ : ∃ p, we (-v) V = p := ⟨_, rfl⟩
      obtain ⟨p4, hp4⟩ : ∃ p, we (-v) W = p := ⟨_, rfl⟩
      obtain ⟨oA, hoA⟩ : ∃ x, ov Y T q = x := ⟨_, rfl⟩
      obtain ⟨oB, hoB⟩ : ∃ x, ov Y T a = x := ⟨_, rfl⟩
      obtain ⟨bA, hbA⟩ : ∃ x, bv Y q = x := ⟨_, rfl⟩
      obtain ⟨bB, hbB⟩ : ∃ x, bv Y a = x := ⟨_, rfl⟩
      obtain ⟨z1, hz1⟩ : ∃ x, t0 + p1 = x := ⟨_, rfl⟩
      obtain ⟨z2, hz2⟩ : ∃ x, t1 + p2 = x := ⟨_, rfl⟩
      obtain ⟨u', hu'⟩ : ∃ x, -u = x := ⟨_, rfl⟩
      rw [hp1] at C1 S1 q1
      rw [hp2] at C2 S2 q2
      rw [hp3] at C3 D1 q3
      rw [hp4] at C4 D2 q4
      rw [hoA] at S1 o1
      rw [hoB] at S2 o2
      rw [hbA] at D1
      rw [hbB] at D2
      rw [hz1] at S1
      rw [hz2] at S2
      rw [hu'] at C2
      have HST1 : Aside0 (((yst Y T h q).set b oA).set d oB = yst Y T h (q + 1)) := ⟨by rw [← yst_step Y T h q hqt, hna, hoA, hoB, hb', hd]⟩
      have HST2 : Aside0 (((tst Y T h q).set q bA).set a bB = tst Y T h (q + 1)) := ⟨by rw [← tst_step Y T h q hqt, hna, hbA, hbB]⟩
      have HRY := Aside0.mk hRY
      have HRT := Aside0.mk hRT
      have HBE := Aside0.mk hBe
      have HKE := Aside0.mk hKe
      have g1 : (q : Int) < (n : Int) := by omega
      have g2 : (a : Int) < (n : Int) := by omega
      have g3 : (b : Int) < (n : Int) := by omega
      have g4 : (d : Int) < (n : Int) := by omega
      have g5 : ¬ q = a := by omega
      have g7 : ¬ b = d := by omega
      have g6 : (0 : Int) ≤ (n : Int) := by omega
      have w1 : IntKind.i64.wrap u = u := by rw [Math.wrap_i64, Math.w64 (by omega) (by omega)]
      have w2 : IntKind.i64.wrap v = v := by rw [Math.wrap_i64, Math.w64 (by omega) (by omega)]
      have w3 : IntKind.i64.wrap t0 = t0 := by rw [Math.wrap_i64, Math.w64 (by omega) (by omega)]
      have w4 : IntKind.i64.wrap t1 = t1 := by rw [Math.wrap_i64, Math.w64 (by omega) (by omega)]
      have w5 : IntKind.i64.wrap (t0 + p1) = z1 := by rw [Math.wrap_i64, Math.w64 (by omega) (by omega), hz1]
      have w6 : IntKind.i64.wrap (t1 + p2) = z2 := by rw [Math.wrap_i64, Math.w64 (by omega) (by omega), hz2]
      have w7 : IntKind.i64.wrap (-u) = u' := by rw [Math.wrap_i64, Math.w64 (by omega) (by omega), hu']
      have s3 : IntKind.i64.wrap ((h : Int) + (q : Int)) = (b : Int) := by rw [Math.wrap_i64, Math.w64 (by omega) (by omega)]; omega
      have s4 : IntKind.i64.wrap ((h : Int) - 1) = (h' : Int) := by rw [Math.wrap_i64, Math.w64 (by omega) (by omega)]; omega
      have s5 : IntKind.i64.wrap ((h' : Int) - (q : Int)) = (d : Int) := by rw [Math.wrap_i64, Math.w64 (by omega) (by omega)]; omega
      have s6 : IntKind.i64.wrap (h : Int) = (h : Int) := by rw [Math.wrap_i64, Math.w64 (by omega) (by omega)]
      have i1 : (n : Int) - 1 - (q : Int) = (a : Int) := by omega
      have i2 : (h : Int) + (q : Int) = (b : Int) := by omega
      have i3 : (h : Int) - 1 - (q : Int) = (d : Int) := by omega
      have hh3 : (n : Int) / 2 = (h : Int) := by omega
      clear hz1 hz2 hu' hp1 hp2 hp3 hp4 hoA hoB hbA hbB ha hb' hd hh' hN eu ev eW eV e0 e1 hna hRY hRT hBe hKe hRW HI2
      go_wp2
      go_quiet (fail)
      go_wp2
      go_quiet (fail)
      go_wp2
      go_quiet ((first | (go_at_call 22; exact quiet_more C1.out) | (go_at_call 21; exact quiet_more S1.out)))
      go_wp2
      go_quiet ((first | (go_at_call 22; exact quiet_more C2.out) | (go_at_call 21; exact quiet_more S2.out)))
      clear w1 w2 w3 w4 w5 w6 w7 s3 s4 s5 s6 c5 c6 hc0 C1 C2 S1 S2
      go_wp2_with fail
      (refine (C3.out _).mono ?_); rintro e w5 ⟨rfl, m5, h5⟩; rw [World.drewN_drewN] at h5; have H5 := Aside0.mk (Exists.intro _ h5 : ∃ m, w5 = wr.drewN m); clear h5
      go_wp2_with fail
      (refine (C4.out _).mono ?_); rintro e w6 ⟨rfl, m6, h6⟩; replace h6 := drawn_more H5.out h6; have c1' := (cell_same h6 _).trans c1; have f1' := (frozen_same h6 _).trans f1; have c2' := (cell_same h6 _).trans c2; have f2' := (frozen_same h6 _).trans f2; have c3' := (cell_same h6 _).trans c3; have f3' := (frozen_same h6 _).trans f3; have c4' := (cell_same h6 _).trans c4; have f4' := (frozen_same h6 _).trans f4; have H6 := Aside0.mk h6; clear h6 H5 c1 c2 c3 c4 f1 f2 f3 f4
      go_wp2_with fail
      (refine (D1.out _).mono ?_); rintro e w7 ⟨rfl, rfl⟩
      go_wp2_with fail
      (refine (D2.out _).mono ?_); rintro e w7 ⟨rfl, rfl⟩
      go_wp2_with fail
      have hy6 := R_same H6.out HRY.out
      have ht6 := R_same H6.out HRT.out
      have kt := Kd.R_putn (Kd.R_putn ht6 (q : Int) bA) (a : Int) bB
      have ky := Kd.R_putn (Kd.R_putn (R_past (R_past hy6 hne (p := ⟨gt, q, none⟩) (.int .i32 bA)) hne (p := ⟨gt, a, none⟩) (.int .i32 bB)) (b : Int) oA) (d : Int) oB
      have kt2 := R_past (R_past kt (Ne.symm hne) (p := ⟨gy, b, none⟩) (.int .i32 oA)) (Ne.symm hne) (p := ⟨gy, d, none⟩) (.int .i32 oB)
      simp only [Int.toNat_natCast] at ky kt2
      rw [HST1.out] at ky
      rw [HST2.out] at kt2
      have kb : Below B w w6 := by obtain ⟨m, rfl⟩ := H6.out; exact pw_below_drewN HBE.out m
      have kk : Kept w w6 (fun k => k = gy ∨ k = gt) := by obtain ⟨m, rfl⟩ := H6.out; exact HKE.out.drewN m
      go_roundw
      case rel => exact ⟨q + 1, by omega, by simp, ⟨ky, kt2, Below.setCell (Below.setCell (Below.setCell (Below.setCell kb (p := ⟨gt, q, none⟩) HBT.out.1 _) (p := ⟨gt, a, none⟩) HBT.out.1 _) (p := ⟨gy, b, none⟩) HBY.out.1 _) (p := ⟨gy, d, none⟩) HBY.out.1 _, (((kk.setCell (p := ⟨gt, q, none⟩) (.inl (.inr rfl)) _).setCell (p := ⟨gt, a, none⟩) (.inl (.inr rfl)) _).setCell (p := ⟨gy, b, none⟩) (.inl (.inl rfl)) _).setCell (p := ⟨gy, d, none⟩) (.inl (.inl rfl)) _⟩⟩
      case measure => simp [intOf]; omega
    · obtain rfl : q = h := by omega
      have hq' : ¬ (q : Int) < (q : Int) := by omega
      obtain ⟨hRY, hRT, hBe, hKe⟩ := HI2.out
      have HS := Aside0.mk (fun w' (hR : Kd.R (Kd.int .i32) 21 w' B oky (.slice (some ⟨gy, 0, none⟩) n cy) (yst Y T q q)) => sort_any B gy cy q n (.pointer (some ⟨gl, 0, none⟩)) h1 h16 HN.out (yst Y T q q) oky w' hR)
      have HRY := Aside0.mk hRY
      have HRT := Aside0.mk hRT
      have HBE := Aside0.mk hBe
      have HKE := Aside0.mk hKe
      clear hRY hRT hBe hKe
      go_wp2_with (go_at_call 24; (with_reducible refine (HS.out _ HRY.out).mono ?_); rintro e w9 ⟨rfl, hR9, hB9, hK9⟩; have HR9 := Aside0.mk hR9; have HB9 := Aside0.mk hB9; have HK9 := Aside0.mk hK9; clear hR9 hB9 hK9)
      go_ret
      have e1 := yst_fin Y T q
      have e2 := tst_fin Y T q
      rw [← HN.out] at e1 e2
      refine ⟨rfl, ?_, ?_, HBE.out.trans HB9.out, HKE.out.then_ HK9.out (fun k hk => .inl (.inl hk))⟩
      · rw [← e1]; exact HR9.out
      · rw [← e2]; exact R_kept hne HRT.out HK9.out
end Go.Proofs.Ytkbcolikbaaejaa.LapIn
