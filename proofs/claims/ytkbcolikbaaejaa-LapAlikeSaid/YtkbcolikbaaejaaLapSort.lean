import Derived.Test.YtkbcolikbaaejaaLapIn
import Derived.Laws.CopyOwn
namespace Go.Proofs.Ytkbcolikbaaejaa.LapIn
open Go.RowKit Go.Proofs.Ytkbcolikbaaejaa.OLapTells Go.Proofs.YtkbcolikbaaejaaW.PrintWords Go.Proofs.YtkbcolikbaaejaaW.PrintLast Go.Proofs.YtkbcolikbaaejaaW.PrintMore
open Go.Proofs.Ytkbcolikbaaejaa.LapPlain
set_option linter.unusedVariables false
set_option linter.unusedSimpArgs false
/-- The numbers on their way to their places. -/
def soi (Y : List Int) (h i : Nat) : List Int := (List.range 32).map (fun j => if j < i then rd Y (h + j : Nat) else if 2 * h - i ≤ j ∧ j < 2 * h then rd Y (j - h : Nat) else 0)
/-- The numbers at their places. -/
def so (Y : List Int) (h : Nat) : List Int := (List.range (2 * h)).map (fun j => if j < h then rd Y (h + j : Nat) else rd Y (j - h : Nat))
theorem soi_len (Y : List Int) (h i : Nat) : (soi Y h i).length = 32 := by simp [soi]
theorem so_len (Y : List Int) (h : Nat) : (so Y h).length = 2 * h := by simp [so]
theorem soi_zero (Y : List Int) (h : Nat) : soi Y h 0 = List.replicate 32 0 := by
  have e : soi Y h 0 = (List.range 32).map (fun _ => (0 : Int)) := List.map_congr_left (fun j hj => by rw [if_neg (by omega), if_neg (by omega)])
  rw [e]
  rfl
theorem soi_step (Y : List Int) (h i : Nat) (hi : i < h) (h16 : h ≤ 16) : ((soi Y h i).set i (rd Y (h + i : Nat))).set (2 * h - 1 - i) (rd Y (h - 1 - i : Nat)) = soi Y h (i + 1) := by
  unfold soi
  rw [Arrs.set_range, Arrs.set_range]
  apply List.map_congr_left
  intro j hj
  by_cases h1 : j = 2 * h - 1 - i
  · rw [if_pos h1, if_neg (by omega), if_pos (by omega), show j - h = h - 1 - i by omega]
  · rw [if_neg h1]
    by_cases h2 : j = i
    · rw [if_pos h2, if_pos (by omega), h2]
    · rw [if_neg h2]
      by_cases h3 : j < i
      · rw [if_pos h3, if_pos (by omega)]
      · rw [if_neg h3, if_neg (show ¬ j < i + 1 by omega)]
        by_cases h4 : 2 * h - i ≤ j ∧ j < 2 * h
        · rw [if_pos h4, if_pos (by omega)]
        · rw [if_neg h4, if_neg (by omega)]
theorem soi_fin (Y : List Int) (h : Nat) (h16 : h ≤ 16) : (soi Y h h).take (2 * h) = so Y h := by
  unfold soi so
  rw [← List.map_take, List.take_range, Nat.min_eq_left (by omega)]
  apply List.map_congr_left
  intro j hj
  have := List.mem_range.1 hj
  by_cases h1 : j < h
  · rw [if_pos h1, if_pos h1]
  · rw [if_neg h1, if_neg h1, if_pos (by omega)]
theorem size21 : (Try.prog.info? 21).map (·.size) = some 1 := by kernel_rfl
theorem kept_setRow {w wr : World} (hb : Below w.heap.size w wr) (g : Nat) (cs : Array Value) : Kept w (wr.setRow g cs) (fun k => k = g) :=
  ⟨by have := hb.size; simp [World.setRow]; exact this, fun i hi hn => (setRow_other wr g i cs hn).trans (hb.block i hi)⟩
theorem blk_setRow {w : World} {g k : Nat} {cs : Array Value} {o : Obj} (h : w.heap[k]? = some o) (hne : k ≠ g) : (w.setRow g cs).heap[k]? = some o := (setRow_other w g k cs hne).trans h
theorem zero27 : ∀ w, (zeroValue 27).run Try.prog w = .ok (.agg (nums .i32 (List.replicate 32 0)).toArray) w := (zero_of_info (n := 32) (by kernel_rfl)).1
set_option maxHeartbeats 4000000 in
set_option maxRecDepth 100000 in
theorem sort_any (B gy cy h n : Nat) (p : Value) (h1 : 1 ≤ h) (h16 : h ≤ 16) (hn : n = 2 * h) (Y : List Int) (ok : Nat → Prop) (w : World) (HR0 : Kd.R (Kd.int .i32) 21 w B ok (.slice (some ⟨gy, 0, none⟩) n cy) Y) :
    Calls Try.prog 24 #[p, .slice (some ⟨gy, 0, none⟩) n cy] w fun e w' => e = .returned (.tuple #[]) ∧ Kd.R (Kd.int .i32) 21 w' B ok (.slice (some ⟨gy, 0, none⟩) n cy) (so Y h) ∧ Below B w w' ∧ Kept w w' (fun k => k = gy) := by
  have HR := Aside0.mk HR0
  have HN := Aside0.mk hn
  have HGW : Aside0 (gy < w.heap.size) := ⟨by obtain ⟨cur, hg, _⟩ := Arrs.R_open HR0; exact blk_lt hg⟩
  have hh : Int.tdiv (n : Int) 2 = (h : Int) := by rw [Int.tdiv_eq_ediv_of_nonneg (by omega)]; omega
  have hh2 : (n : Int) / 2 = (h : Int) := by omega
  have hb : n ≤ 32 := by omega
  clear HR0 hn
  have hz := zero27
  go_enter Try.func24, Try.ntmps24
  go_wp2
  have HO : Aside0 ((w.alloc (.cells (nums .i32 (soi Y h 0)).toArray 27)).heap[w.heap.size]? = some (.cells (nums .i32 (soi Y h 0)).toArray 27 (0, 0))) := ⟨heap_alloc_last _ _⟩
  have HB : Aside0 (Below w.heap.size w (w.alloc (.cells (nums .i32 (soi Y h 0)).toArray 27))) := ⟨below_alloc (Below.refl _ _) _⟩
  rw [soi_zero] at HO HB
  simp only [List.replicate] at HO HB
  obtain ⟨w1, hw1⟩ : ∃ w1, w.alloc (.cells (nums .i32 [0, 0, 0, 0, 0, 0, 0, 0, 0, 0, 0, 0, 0, 0, 0, 0, 0, 0, 0, 0, 0, 0, 0, 0, 0, 0, 0, 0, 0, 0, 0, 0]).toArray 27) = w1 := ⟨_, rfl⟩
  have e0 : soi Y h 0 = [0, 0, 0, 0, 0, 0, 0, 0, 0, 0, 0, 0, 0, 0, 0, 0, 0, 0, 0, 0, 0, 0, 0, 0, 0, 0, 0, 0, 0, 0, 0, 0] := soi_zero Y h
  rw [hw1, ← e0] at HO
  rw [hw1] at HB
  rw [hw1]
  clear hw1 e0 hz hh2
  go_loopw [11] (fun i wr => ∃ q : Nat, q ≤ h ∧ i = .int .i64 q ∧ Aside0 (wr.heap[w.heap.size]? = some (.cells (nums .i32 (soi Y h q)).toArray 27 (0, 0))) ∧ Aside0 (Below w.heap.size w wr)) (fun i _ => (h - intOf i).toNat)
  case atStart => exact ⟨0, by omega, rfl, HO, HB⟩
  case round =>
    obtain ⟨q, hq, rfl, HO2, HB2⟩ := hrel
    clear HO HB
    by_cases hqt : q < h
    · have hq' : (q : Int) < (h : Int) := by omega
      obtain ⟨n1, hn1⟩ : ∃ n1 : Nat, n1 = n - 1 := ⟨_, rfl⟩
      obtain ⟨h', hh'⟩ : ∃ x : Nat, x = h - 1 := ⟨_, rfl⟩
      obtain ⟨a, ha⟩ : ∃ a : Nat, a = n - 1 - q := ⟨_, rfl⟩
      obtain ⟨b, hb'⟩ : ∃ b : Nat, b = h + q := ⟨_, rfl⟩
      obtain ⟨d, hd⟩ : ∃ d : Nat, d = h - 1 - q := ⟨_, rfl⟩
      have hN := HN.out
      have hY : Y.length = n := (Kd.R_reads' HR.out).1.symm
      have c1 := Kd.R_celln (d := (0 : Int)) (Kd.R_below HR.out HB2.out) (b : Int) (by omega) (by omega)
      have c2 := Kd.R_celln (d := (0 : Int)) (Kd.R_below HR.out HB2.out) (d : Int) (by omega) (by omega)
      obtain ⟨y1, hy1⟩ : ∃ y1, rdOf (0 : Int) Y (b : Int) = y1 := ⟨_, rfl⟩
      obtain ⟨y2, hy2⟩ : ∃ y2, rdOf (0 : Int) Y (d : Int) = y2 := ⟨_, rfl⟩
      rw [hy1, Int.toNat_natCast] at c1
      rw [hy2, Int.toNat_natCast] at c2
      obtain ⟨c1, _⟩ := c1
      obtain ⟨c2, _⟩ := c2
      have c3 : wr.cell? ⟨w.heap.size, q, none⟩ = some (.int .i32 (rd (soi Y h q) q)) := by
        rw [cell_of_row _ _ _ _ _ _ HO2.out, List.getElem?_toArray, Arrs.nums_at (by rw [soi_len]; omega)]
      have c4 : wr.cell? ⟨w.heap.size, a, none⟩ = some (.int .i32 (rd (soi Y h q) a)) := by
        rw [cell_of_row _ _ _ _ _ _ HO2.out, List.getElem?_toArray, Arrs.nums_at (by rw [soi_len]; omega)]
      have f3 := blk_frozen HO2.out q
      have f4 := blk_frozen HO2.out a
      have HST : Aside0 (((soi Y h q).set q y1).set a y2 = soi Y h (q + 1)) := ⟨by
        rw [← soi_step Y h q hqt h16, ← hy1, ← hy2, ha, hb', hd, hN]; rfl⟩
      have g1 : (q : Int) < 32 := by omega
      have g2 : (a : Int) < 32 := by omega
      have g3 : (b : Int) < (n : Int) := by omega
      have g4 : (d : Int) < (n : Int) := by omega
      have g5 : ¬ q = a := by omega
      have g6 : (0 : Int) ≤ (n : Int) := by omega
      have s1 : IntKind.i64.wrap ((n : Int) - 1) = (n1 : Int) := by rw [Math.wrap_i64, Math.w64 (by omega) (by omega)]; omega
      have s2 : IntKind.i64.wrap ((n1 : Int) - (q : Int)) = (a : Int) := by rw [Math.wrap_i64, Math.w64 (by omega) (by omega)]; omega
      have s3 : IntKind.i64.wrap ((h : Int) + (q : Int)) = (b : Int) := by rw [Math.wrap_i64, Math.w64 (by omega) (by omega)]; omega
      have s4 : IntKind.i64.wrap ((h : Int) - 1) = (h' : Int) := by rw [Math.wrap_i64, Math.w64 (by omega) (by omega)]; omega
      have s5 : IntKind.i64.wrap ((h' : Int) - (q : Int)) = (d : Int) := by rw [Math.wrap_i64, Math.w64 (by omega) (by omega)]; omega
      have s6 : IntKind.i64.wrap (h : Int) = (h : Int) := by rw [Math.wrap_i64, Math.w64 (by omega) (by omega)]
      clear hy1 hy2 hn1 hh' ha hb' hd hN hY
      go_wp2
      go_region
      all_goals
        have HO3 : Aside0 (((wr.setCell ⟨w.heap.size, q, none⟩ (.int .i32 y1)).setCell ⟨w.heap.size, a, none⟩ (.int .i32 y2)).heap[w.heap.size]? = some (.cells (nums .i32 (soi Y h (q + 1))).toArray 27 (0, 0))) := ⟨by
          rw [← HST.out]; exact Arrs.blk_set2 HO2.out q a y1 y2⟩
        have HB3 : Aside0 (Below w.heap.size w ((wr.setCell ⟨w.heap.size, q, none⟩ (.int .i32 y1)).setCell ⟨w.heap.size, a, none⟩ (.int .i32 y2))) := ⟨Below.setCell (Below.setCell HB2.out (p := ⟨w.heap.size, q, none⟩) (Nat.le_refl _) _) (p := ⟨w.heap.size, a, none⟩) (Nat.le_refl _) _⟩
        clear s1 s2 s3 s4 s5 s6
        go_wp2
        go_roundw
        case rel => exact ⟨q + 1, by omega, by simp, HO3, ⟨below_drew HB3.out⟩⟩
        case measure => simp [intOf]; omega
    · obtain rfl : q = h := by omega
      have hq' : ¬ (q : Int) < (q : Int) := by omega
      have hn0 : (0 : Int) ≤ (n : Int) := by omega
      have hn1 : (n : Int) ≤ 32 := by omega
      obtain ⟨cur, hg, hl, hnc, hcm, hcs, htk, hbg, hok⟩ := Arrs.R_open (Kd.R_below HR.out HB2.out)
      have HG := Aside0.mk hg
      have HL := Aside0.mk hl
      have HX := Aside0.mk (And.intro hcs htk)
      have HBG := Aside0.mk hbg
      have HOK := Aside0.mk hok
      have HM := Aside0.mk hcm
      have hlen : (so Y q).length = n := by rw [so_len, HN.out]
      have HSO := Aside0.mk hlen
      have HSRC : Aside0 (∀ j v, (nums .i32 (so Y q))[j]? = some v → wr.cell? ((⟨w.heap.size, 0, none⟩ : Addr).add j) = some v) := ⟨fun j v hv => by
        rw [Addr.add_mid, Nat.zero_add, cell_of_row _ _ _ _ _ _ HO2.out, List.getElem?_toArray]
        rw [← soi_fin Y q h16, nums, List.getElem?_map, List.getElem?_take] at hv
        split at hv
        · rw [nums, List.getElem?_map]; exact hv
        · cases hv⟩
      clear hg hl hcs htk hbg hok hcm hlen
      go_wp2_with (refine wpList_copy_own rfl (.tmp 37) (.tmp 39) 30 30 rfl 21 Try.underlying30 size21 gy 0 n cy ⟨w.heap.size, 0, none⟩ n 32 rfl rfl cur 21 HG.out (nums .i32 (so Y q)) (by rw [nums_length, HSO.out]; exact (Nat.min_self n).symm) HSRC.out (by rw [nums_length, HSO.out, HX.out.1]; omega) (fun v hv => by obtain ⟨x, _, rfl⟩ := List.mem_map.1 hv; rfl) ?_)
      go_end0
      have hpart : (nums .i32 (so Y q) ++ cur.toList.drop (nums .i32 (so Y q)).length).toArray.size = cy := by
        have e1 := nums_length .i32 (so Y q)
        have e2 := HSO.out
        have e3 := HX.out.1
        simp only [List.size_toArray, List.length_append, List.length_drop, Array.length_toList]
        omega
      refine ⟨rfl, Arrs.R_close (setRow_heap _ _ _ _ _ _ HG.out) HSO.out hnc HM.out hpart ?_ HBG.out HOK.out, ?_, kept_setRow HB2.out gy _⟩
      · show List.take n (nums .i32 (so Y q) ++ cur.toList.drop (nums .i32 (so Y q)).length) = _
        rw [List.take_append_of_le_length (by rw [nums_length, HSO.out]; omega), List.take_of_length_le (by rw [nums_length, HSO.out]; omega)]
      · exact (HB2.out.mono (Nat.le_trans HBG.out (Nat.le_of_lt HGW.out))).trans (below_setRow (Below.refl _ _) HBG.out _)
end Go.Proofs.Ytkbcolikbaaejaa.LapIn
