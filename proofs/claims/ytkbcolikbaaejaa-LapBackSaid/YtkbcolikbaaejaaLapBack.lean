/- A frame's numbers don't hang on the tail but by adding it up; the tail behind a frame doesn't hang on the tail ahead of it. Conditions: none but that each number fits its type. -/
import Derived.Test.YtkbcolikbaaejaaLapPlain
import Derived.Test.YtkbcolikbaaejaaArrs
import Derived.Deep.RegionHeld3
namespace Go.Proofs.Ytkbcolikbaaejaa.LapBack
open Go.RowKit Go.Proofs.Ytkbcolikbaaejaa.OLapBack Go.Proofs.YtkbcolikbaaejaaW.PrintWords Go.Proofs.YtkbcolikbaaejaaW.PrintLast Go.Proofs.YtkbcolikbaaejaaW.PrintMore
open Go.Proofs.Ytkbcolikbaaejaa.LapPlain
set_option linter.unusedVariables false
set_option linter.unusedSimpArgs false
theorem awake_any (w : World) : Calls Try.prog 7 #[] w fun e w' => e = .returned (.bool true) ∧ Below w.heap.size w w' :=
  spinetlaw23_awake.calls 103 true w (by decide +kernel)
theorem heap_of {w w' : World} {g : Nat} {o : Obj} (hb : Below w.heap.size w w') (h : w.heap[g]? = some o) : w'.heap[g]? = some o := (hb.block g (blk_lt h)).trans h
theorem nums_app (k : IntKind) (a b : List Int) : nums k (a ++ b) = nums k a ++ nums k b := nums_append k a b
theorem size21 : (Try.prog.info? 21).map (·.size) = some 1 := by kernel_rfl
theorem size27 : (Try.prog.info? 27).map (·.size) = some 32 := by kernel_rfl
theorem fill3 (ys ts : List Int) (hy : ys.length = 32) (ht : ts.length = 64) (z : Array Value) (hz : z.size = 96) :
    Instr.fill (fun i => some (i * 32, 32)) z [(0, .agg (nums .i32 ys).toArray), (1, .agg (nums .i32 (ts.take 32)).toArray), (2, .agg (nums .i32 (ts.drop 32)).toArray)] = some (nums .i32 (ys ++ ts)).toArray := by
  have h := Great.fill_whole (s := 32) (by decide) [.agg (nums .i32 ys).toArray, .agg (nums .i32 (ts.take 32)).toArray, .agg (nums .i32 (ts.drop 32)).toArray] z (by
    intro v hv
    simp only [List.mem_cons, List.not_mem_nil, or_false] at hv
    rcases hv with rfl | rfl | rfl <;> simp [Value.cells, nums] <;> omega) (by simp; omega)
  have e : (nums .i32 (ys ++ ts)).toArray = (List.flatMap (fun v : Value => v.cells.toList) [.agg (nums .i32 ys).toArray, .agg (nums .i32 (ts.take 32)).toArray, .agg (nums .i32 (ts.drop 32)).toArray]).toArray := by
    congr 1
    simp only [List.flatMap_cons, List.flatMap_nil, List.append_nil, Value.cells]
    rw [← nums_app, ← nums_app, List.take_append_drop]
  rw [e]
  exact h
theorem info27 : (Try.prog.info? 27).map (fun i => (i.zero, i.size)) = some (some (.agg (Array.replicate 32 (.int .i32 0))), 32) := by kernel_rfl
theorem build3 {ops : Array Oper} {rest : List Oper} {o : Oper} {a : Act} {w : World} {Q : Exit → Act → World → Prop} (hg : o.guard = none) (ys ts : List Int) (hy : ys.length = 32) (ht : ts.length = 64)
    (ho : o.op = .buildSlice 29 3 #[(0, .tmp 22), (1, .tmp 24), (2, .tmp 26)]) (h0 : a.eval (.tmp 22) = .agg (nums .i32 ys).toArray) (h1 : a.eval (.tmp 24) = .agg (nums .i32 (ts.take 32)).toArray) (h2 : a.eval (.tmp 26) = .agg (nums .i32 (ts.drop 32)).toArray)
    (h : wpList Try.prog ops Q rest (a.put o.dst (.slice (some ⟨w.heap.size, 0, none⟩) 3 3)) (w.alloc (.cells (nums .i32 (ys ++ ts)).toArray 27))) : wpList Try.prog ops Q (o :: rest) a w := by
  obtain ⟨ie, hie, he⟩ := Option.map_eq_some_iff.1 info27
  obtain ⟨hz, hs⟩ := Prod.mk.inj he
  refine wpList_buildSlice hg 29 27 3 _ ho _ ie _ Try.underlying29 hie hz (by rw [hs]; decide) (by rw [hs]; decide) ?_ h
  simp only [List.map_toArray, List.map_cons, List.map_nil, h0, h1, h2, hs]
  exact fill3 ys ts hy ht _ (by simp [Array.size_map])
theorem after {w w1 w2 wz : World} (h1 : Below w.heap.size w w1) (h2 : Below w1.heap.size w1 w2) (h3 : Below w2.heap.size w2 wz) : Below w.heap.size w wz := below_step (below_step h1 h2) h3
theorem plain_at (n : Nat) (hth : Th n) (A0 A1 : Option Addr) (l0 l1 : List Int) (h0 : l0.length = n) (h1 : l1.length = n) (hs0 : ∀ x ∈ l0, Sm x) (hs1 : ∀ x ∈ l1, Sm x) (w : World) (C0 : Kd.C (Kd.int .i32) w A0 n l0) (C1 : Kd.C (Kd.int .i32) w A1 n l1) :
    Calls Try.prog 11 #[.slice A0 n 32, .slice A1 n 32] w fun e w' => ∃ A2 c2 A3 c3, e = .returned (.tuple #[.slice A2 n c2, .slice A3 n c3]) ∧ Kd.C (Kd.int .i32) w' A2 n ((List.range n).map (ov l0 l1)) ∧ Kd.C (Kd.int .i32) w' A3 n ((List.range n).map (bv l0)) ∧ Below w.heap.size w w' := by
  subst h0
  have hb : l0.length ≤ 32 := by unfold Th at hth; omega
  have hw : ∀ x : Int, Sm x → I32 x := fun x h => by unfold Sm at h; unfold I32; omega
  have hf := plain_is l0 l1 hth h1 (fun x hx => hw x (hs0 x hx)) (fun x hx => hw x (hs1 x hx)) 201 (by omega)
  have hc := lap_Plain.calls 201 A0 32 l0 A1 32 l1 _ _ w C0 hb (by rw [h1]; exact C1) (by omega) hf
  rw [h1] at hc
  refine hc.mono ?_
  rintro e w' ⟨v0, v1, rfl, r0, r1, hb⟩
  obtain ⟨A2, c2, rfl, _, k2⟩ := Kd.R_reads r0
  obtain ⟨A3, c3, rfl, _, k3⟩ := Kd.R_reads r1
  simp only [List.length_map, List.length_range] at k2 k3 ⊢
  exact ⟨A2, c2, A3, c3, rfl, k2, k3, hb⟩
theorem wrapI32 (x : Int) : IntKind.i32.wrap x = wrap32 x := by rw [IntKind.wrap_i32]; unfold wrap32; rfl
theorem rd_take (l : List Int) (n q : Nat) (h : q < n) : rd (l.take n) (q : Int) = rd l q := by
  unfold rd; rw [Int.toNat_natCast, List.getD_eq_getElem?_getD, List.getD_eq_getElem?_getD, List.getElem?_take, if_pos h]
theorem rd_drop2 (l : List Int) (n q : Nat) : rd (l.drop n) (q : Int) = rd l (n + q : Nat) := by
  unfold rd; rw [Int.toNat_natCast, Int.toNat_natCast, List.getD_eq_getElem?_getD, List.getD_eq_getElem?_getD, List.getElem?_drop]
theorem sums (n : Nat) (hth : Th n) (ys ts : List Int) (hy : ys.length = 32) (ht : ts.length = 64) (h0 : ∀ x ∈ ys.take n, Sm x) (h1 : ∀ x ∈ ts.take n, Sm x) (h2 : ∀ x ∈ (ts.drop 32).take n, Sm x) (q : Nat) (hq : q < n) :
    ∃ z a0 b0 t0 t1 : Int, rd ((List.range n).map (ov (ys.take n) (ts.take n))) q = a0 ∧ rd ((List.range n).map (ov (ys.take n) ((ts.drop 32).take n))) q = b0 ∧ rd ts q = t0 ∧ rd ts (32 + q : Nat) = t1 ∧ a0 = t0 + z ∧ b0 = t1 + z ∧ Sm t0 ∧ Sm t1 ∧ (-2147483648 ≤ z ∧ z ≤ 2147483648) := by
  have hn : n ≤ 32 := by unfold Th at hth; omega
  have ly : (ys.take n).length = n := by simp; omega
  have l1 : (ts.take n).length = n := by simp; omega
  have l2 : ((ts.drop 32).take n).length = n := by simp; omega
  have e1 := ov_small (ys.take n) (ts.take n) (by rw [ly]; exact hth) h0 h1 q (by omega)
  have e2 := ov_small (ys.take n) ((ts.drop 32).take n) (by rw [ly]; exact hth) h0 h2 q (by omega)
  rw [rd_take _ _ _ hq] at e1
  rw [rd_take _ _ _ hq, rd_drop2] at e2
  have m1 := rd_sm h1 q
  have m2 := rd_sm h2 q
  rw [rd_take _ _ _ hq] at m1
  rw [rd_take _ _ _ hq, rd_drop2] at m2
  refine ⟨we (uu (ys.take n) q) (wn (ys.take n).length q), _, _, _, _, rd_range _ _ _ hq, rd_range _ _ _ hq, rfl, rfl, e1, e2, m1, m2, ?_⟩
  obtain ⟨W, hW, _, w2, w3⟩ := win_ex n q hth hq 100 (by omega)
  rw [ly, hW]
  have hu := uu_sm (ys.take n) h0 q
  exact we_in (u := uu (ys.take n) q) (by unfold Sm at hu; unfold U; omega) w2 w3
set_option maxHeartbeats 4000000 in
set_option maxRecDepth 100000 in
theorem back_any (s : Int) (ys ts : List Int) (hy : ys.length = 32) (ht : ts.length = 64) (hs0 : 0 ≤ s) (hs1 : s ≤ 255) (n : Nat) (hn : wrap64 (8 * 2 ^ (s % 3).toNat) = (n : Int)) (hth : Th n) (w : World) :
    Calls Try.prog 4 #[.int .u8 s, .agg (nums .i32 ys).toArray, .agg (nums .i32 ts).toArray] w fun e w' => e = .returned (.bool true) ∧ Below w.heap.size w w' := by
  have H0 := Aside0.mk (heap_alloc2_old w (.cells (nums .i32 ys).toArray 27) (.cells (nums .i32 ts).toArray 28))
  have H1 := Aside0.mk (heap_alloc2_new w (.cells (nums .i32 ys).toArray 27) (.cells (nums .i32 ts).toArray 28))
  have HB := Aside0.mk (below_alloc (below_alloc (Below.refl w.heap.size w) (.cells (nums .i32 ys).toArray 27)) (.cells (nums .i32 ts).toArray 28))
  have Hy := Aside0.mk hy
  have Ht := Aside0.mk ht
  clear hy ht
  go_enter Try.func4, Try.ntmps4
  go_wp2_with (first
    | (go_at_call 7; (with_reducible refine (awake_any _).mono ?_); rintro e w1 ⟨rfl, hb⟩; have G0 := Aside0.mk (heap_of hb H0.out); have G1 := Aside0.mk (heap_of hb H1.out); have HB1 := Aside0.mk (below_step HB.out hb); clear hb H0 H1 HB)
    | (refine Arrs.load_nums rfl 27 (.tmp 4) rfl w.heap.size 0 rfl Try.underlying27 size27 .i32 ys Hy.out (Arrs.range_all G0.out) ?_)
    | (refine Arrs.load_nums rfl 27 (.tmp 23) rfl (w.heap.size + 1) 0 rfl Try.underlying27 size27 .i32 (ts.take 32) (by simp [Ht.out]) (Arrs.range_fst G1.out 32 (by rw [Ht.out]; decide)) ?_)
    | (refine Arrs.load_nums rfl 27 (.tmp 25) rfl (w.heap.size + 1) 32 rfl Try.underlying27 size27 .i32 (ts.drop 32) (by simp [Ht.out]) (Arrs.range_snd G1.out 32 (by rw [Ht.out]; decide)) ?_)
    | (refine build3 rfl ys ts Hy.out Ht.out rfl rfl rfl rfl ?_))
  clear hn
  obtain ⟨w2, hw2⟩ : ∃ w2, w1.alloc (.cells (nums .i32 (ys ++ ts)).toArray 27) = w2 := ⟨_, rfl⟩
  have HG2 : Aside0 (w2.heap[w1.heap.size]? = some (.cells (nums .i32 (ys ++ ts)).toArray 27 (0, 0))) := ⟨by rw [← hw2]; exact heap_alloc_last w1 _⟩
  have HB2 : Aside0 (Below w1.heap.size w1 w2) := ⟨by rw [← hw2]; exact below_alloc (Below.refl _ _) _⟩
  rw [hw2]
  clear hw2
  go_loopw [29] (fun i wr => ∃ m : Nat, m ≤ 3 ∧ i = .int .i64 m ∧ Aside0 (Below w2.heap.size w2 wr) ∧ Aside0 (∀ j : Nat, j < 32 * m → Sm (rd (ys ++ ts) j))) (fun i _ => (3 - intOf i).toNat)
  case atStart => exact ⟨0, by omega, rfl, ⟨Below.refl _ _⟩, ⟨fun j hj => by omega⟩⟩
  case round =>
    obtain ⟨m, hm, rfl, HW, HS⟩ := hrel
    by_cases hlt : m < 3
    · obtain ⟨L, hL⟩ : ∃ L, ((ys ++ ts).drop (m * 32)).take 32 = L := ⟨_, rfl⟩
      have HL : Aside0 (L.length = 32) := ⟨by rw [← hL]; simp [Hy.out, Ht.out]; omega⟩
      have HR : Aside0 (wr.rangeAt w1.heap.size (m * 32) (nums .i32 L)) := ⟨by rw [← hL]; exact Arrs.range_nums (heap_of HW.out HG2.out) (m * 32) 32 (by simp [Hy.out, Ht.out]; omega)⟩
      have HE : Aside0 (∀ j : Nat, j < 32 → rd L j = rd (ys ++ ts) (32 * m + j : Nat)) := ⟨fun j hj => by
        rw [← hL]; unfold rd
        simp only [Int.toNat_natCast, List.getD_eq_getElem?_getD, List.getElem?_take, if_pos hj, List.getElem?_drop]
        rw [Nat.mul_comm]⟩
      clear hL
      have hlt' : (m : Int) < 3 := by omega
      have hix := Arrs.index_arr (P := Try.prog) (k := .i32) Try.underlying27 size21 (by intro w; kernel_rfl) (xs := L) HL.out
      go_wp2_with (first
        | (refine Arrs.load_nums rfl 27 (.tmp 31) rfl w1.heap.size (m * 32) rfl Try.underlying27 size27 .i32 L HL.out HR.out ?_)
        | (refine Arrs.store_new rfl 27 (.tmp 9) (.tmp 32) rfl _ wr rfl rfl (by kernel_rfl) size27 .i32 L HL.out rfl ?_)
        | (refine Arrs.load_nums rfl 27 (.tmp 9) rfl wr.heap.size 0 rfl Try.underlying27 size27 .i32 L HL.out (Arrs.range_all (heap_alloc_last wr _)) ?_))
      clear HR
      obtain ⟨wz, hwz⟩ : ∃ wz, wr.alloc (.cells (nums .i32 L).toArray 27) = wz := ⟨_, rfl⟩
      have HZ : Aside0 (Below w2.heap.size w2 wz) := ⟨by rw [← hwz]; exact below_alloc HW.out _⟩
      rw [hwz]
      clear hwz hlt'
      go_loop [34] (fun i => ∃ j : Nat, j ≤ 32 ∧ i = .int .i64 j ∧ Aside0 (∀ q : Nat, q < j → Sm (rd L q))) (fun i => (32 - intOf i).toNat)
      case atStart => exact ⟨0, by omega, rfl, ⟨fun q hq => by omega⟩⟩
      case round =>
        obtain ⟨j, hj, rfl, HJ⟩ := hrel
        by_cases hjt : j < 32
        · have hj' : (j : Int) < 32 := by omega
          have hr := hix j hjt
          clear hix
          by_cases hx : Sm (rd L j)
          · have h1 : decide (1048576 < rd L (j : Int)) = false := decide_eq_false (by have := hx.2; omega)
            have h2 : decide (rd L (j : Int) < -1048576) = false := decide_eq_false (by have := hx.1; omega)
            have HX := Aside0.mk hx
            clear hx
            go_wp2
            go_round
            case rel => exact ⟨j + 1, by omega, by simp, ⟨fun q hq => by
              rcases Nat.lt_or_ge q j with h | h
              · exact HJ.out q h
              · obtain rfl : q = j := by omega
                exact HX.out⟩⟩
            case measure => simp [intOf]; omega
          · have hd : decide (1048576 < rd L (j : Int)) = true ∨ (decide (1048576 < rd L (j : Int)) = false ∧ decide (rd L (j : Int) < -1048576) = true) := by
              unfold Sm at hx
              simp only [decide_eq_true_eq, decide_eq_false_iff_not]
              omega
            clear hx
            rcases hd with h1 | ⟨h1, h2⟩
            · go_wp2
              go_ret
              exact ⟨rfl, after HB1.out HB2.out HZ.out⟩
            · go_wp2
              go_ret
              exact ⟨rfl, after HB1.out HB2.out HZ.out⟩
        · have hj' : ¬ (j : Int) < 32 := by omega
          clear hix
          go_wp2
          go_roundw
          case rel => exact ⟨m + 1, by omega, by simp, HZ, ⟨fun q hq => by
            rcases Nat.lt_or_ge q (32 * m) with h | h
            · exact HS.out q h
            · obtain ⟨x, rfl⟩ : ∃ x, q = 32 * m + x := ⟨q - 32 * m, by omega⟩
              rw [← HE.out x (by omega)]
              exact HJ.out x (by omega)⟩⟩
          case measure => simp [intOf]; omega
    · obtain rfl : m = 3 := by omega
      have HSy : Aside0 (∀ x ∈ ys.take n, Sm x) := ⟨fun x hx => by
        obtain ⟨j, hj, rfl⟩ := List.getElem_of_mem (List.mem_of_mem_take hx)
        have h := HS.out j (by have := Hy.out; omega)
        unfold rd at h
        rw [Int.toNat_natCast, List.getD_eq_getElem?_getD, List.getElem?_append_left hj, List.getElem?_eq_getElem hj] at h
        exact h⟩
      have hst : ∀ x ∈ ts, Sm x := fun x hx => by
        obtain ⟨j, hj, rfl⟩ := List.getElem_of_mem hx
        have h := HS.out (32 + j) (by have := Ht.out; omega)
        unfold rd at h
        rw [Int.toNat_natCast, List.getD_eq_getElem?_getD, List.getElem?_append_right (by rw [Hy.out]; omega), Hy.out, Nat.add_sub_cancel_left, List.getElem?_eq_getElem hj] at h
        exact h
      have HS0 : Aside0 (∀ x ∈ ts.take n, Sm x) := ⟨fun x hx => hst x (List.mem_of_mem_take hx)⟩
      have HS1 : Aside0 (∀ x ∈ (ts.drop 32).take n, Sm x) := ⟨fun x hx => hst x (List.mem_of_mem_drop (List.mem_of_mem_take hx))⟩
      clear hst
      have hlt' : ¬ (3 : Int) < 3 := by omega
      clear HS
      have hn32 : n ≤ 32 := by unfold Th at hth; omega
      have HBw : Aside0 (Below w1.heap.size w1 wr) := ⟨below_step HB2.out HW.out⟩
      have HP1 : Aside0 (∀ wq, Below w1.heap.size w1 wq → Calls Try.prog 11 #[.slice (some ⟨w.heap.size, 0, none⟩) n 32, .slice (some ⟨w.heap.size + 1, 0, none⟩) n 32] wq fun e w' => ∃ A2 c2 A3 c3, e = .returned (.tuple #[.slice A2 n c2, .slice A3 n c3]) ∧ Kd.C (Kd.int .i32) w' A2 n ((List.range n).map (ov (ys.take n) (ts.take n))) ∧ Kd.C (Kd.int .i32) w' A3 n ((List.range n).map (bv (ys.take n))) ∧ Below wq.heap.size wq w') := ⟨fun wq hb =>
        plain_at n hth _ _ _ _ (by simp [Hy.out]; omega) (by simp [Ht.out]; omega) HSy.out HS0.out wq (Kd.C_of_reads (d := (0 : Int)) (h1 := fun _ => rfl) (Arrs.reads_block (heap_of hb G0.out) 0 n (by rw [Hy.out]; omega) (by omega))) (Kd.C_of_reads (d := (0 : Int)) (h1 := fun _ => rfl) (Arrs.reads_block (heap_of hb G1.out) 0 n (by rw [Ht.out]; omega) (by omega)))⟩
      have HP2 : Aside0 (∀ wq, Below w1.heap.size w1 wq → Calls Try.prog 11 #[.slice (some ⟨w.heap.size, 0, none⟩) n 32, .slice (some ⟨w.heap.size + 1, 32, none⟩) n 32] wq fun e w' => ∃ A2 c2 A3 c3, e = .returned (.tuple #[.slice A2 n c2, .slice A3 n c3]) ∧ Kd.C (Kd.int .i32) w' A2 n ((List.range n).map (ov (ys.take n) ((ts.drop 32).take n))) ∧ Kd.C (Kd.int .i32) w' A3 n ((List.range n).map (bv (ys.take n))) ∧ Below wq.heap.size wq w') := ⟨fun wq hb =>
        plain_at n hth _ _ _ _ (by simp [Hy.out]; omega) (by simp [Ht.out]; omega) HSy.out HS1.out wq (Kd.C_of_reads (d := (0 : Int)) (h1 := fun _ => rfl) (Arrs.reads_block (heap_of hb G0.out) 0 n (by rw [Hy.out]; omega) (by omega))) (Kd.C_of_reads (d := (0 : Int)) (h1 := fun _ => rfl) (Arrs.reads_block (heap_of hb G1.out) 32 n (by rw [Ht.out]; omega) (by omega)))⟩
      have hn0 : (0 : Int) ≤ (n : Int) := by omega
      have hn33 : (n : Int) ≤ (32 : Int) := by omega
      go_wp2
      go_region_held3 (fun wq => Aside0 (Below w1.heap.size w1 wq))
        (first | exact ⟨below_step (Aside0.out (by assumption)) HB3.out⟩ | exact ⟨below_drew HBw.out⟩ | exact HBw)
        (first | (go_at_call 11; (with_reducible refine (HP1.out _ (Aside0.out (by assumption))).mono ?_); rintro e w3 ⟨A2, c2, A3, c3, rfl, ho, hbv, hb3⟩; have HO := Aside0.mk ho; have HV := Aside0.mk hbv; have HB3 := Aside0.mk hb3; clear ho hbv hb3))
      go_wp2
      go_region_held3 (fun wq => Aside0 (Below w1.heap.size w1 wq))
        (first | exact ⟨below_step (Aside0.out (by assumption)) HB4.out⟩ | exact ⟨below_drew (Aside0.out (by assumption))⟩)
        (first | (go_at_call 11; (with_reducible refine (HP2.out _ (Aside0.out (by assumption))).mono ?_); rintro e w4 ⟨A4, c4, A5, c5, rfl, ho, hbv, hb4⟩; have HO4 := Aside0.mk ho; have HV4 := Aside0.mk hbv; have HB4 := Aside0.mk hb4; clear ho hbv hb4))
      have HB34 : Below w3.heap.size w3 w4 := below_step (below_drew (Below.refl _ _)) HB4.out
      have HO2 := Aside0.mk (Kd.C_below HO.out HB34)
      have HV2 := Aside0.mk (Kd.C_below HV.out HB34)
      have HBA : Aside0 (Below w1.heap.size w1 w4) := by assumption
      have HBB : Aside0 (Below w.heap.size w w4) := ⟨below_step HB1.out HBA.out⟩
      clear HB34 HO HV HP1 HP2
      have nn : ((n : Int) != (n : Int)) = false := by simp
      go_wp2
      clear nn
      go_loopw [87] (fun i wv => ∃ q : Nat, q ≤ n ∧ i = .int .i64 q ∧ Aside0 (Below w4.heap.size w4 wv)) (fun i _ => (n - intOf i).toNat)
      case atStart => exact ⟨0, by omega, rfl, ⟨Below.refl _ _⟩⟩
      case round =>
        obtain ⟨q, hq, rfl, HQ⟩ := hrel
        by_cases hqt : q < n
        · obtain ⟨ad2, e2, k2⟩ := Kd.at_int (Kd.C_below HO2.out HQ.out) (q : Int) (by omega) (by omega)
          obtain ⟨ad3, e3, k3⟩ := Kd.at_int (Kd.C_below HV2.out HQ.out) (q : Int) (by omega) (by omega)
          obtain ⟨ad4, e4, k4⟩ := Kd.at_int (Kd.C_below HO4.out HQ.out) (q : Int) (by omega) (by omega)
          obtain ⟨ad5, e5, k5⟩ := Kd.at_int (Kd.C_below HV4.out HQ.out) (q : Int) (by omega) (by omega)
          subst e2 e3 e4 e5
          have hq' : (q : Int) < (n : Int) := by omega
          have hq3 : (q : Int) < 32 := by omega
          have hG1 := heap_of (below_step HBA.out HQ.out) G1.out
          have c1 : wr.cell? ⟨w.heap.size + 1, q, none⟩ = some (.int .i32 (rd ts q)) := by
            rw [cell_of_row _ _ _ _ _ _ hG1, List.getElem?_toArray, Arrs.nums_at (by rw [Ht.out]; omega)]
          have c2' : wr.cell? ⟨w.heap.size + 1, 32 + q, none⟩ = some (.int .i32 (rd ts (32 + q : Nat))) := by
            rw [cell_of_row _ _ _ _ _ _ hG1, List.getElem?_toArray, Arrs.nums_at (by rw [Ht.out]; omega)]
          obtain ⟨z, a0, b0, t0, t1, f1, f2, f3, f4, ha, hb, ht0, ht1, hz⟩ := sums n hth ys ts Hy.out Ht.out HSy.out HS0.out HS1.out q hqt
          rw [f1, Int.toNat_natCast] at k2
          rw [f2, Int.toNat_natCast] at k4
          rw [f3] at c1
          rw [f4] at c2'
          rw [LapPlain.rd_range _ _ _ hqt, Int.toNat_natCast] at k3 k5
          clear f1 f2 f3 f4 hG1
          have hw1 : IntKind.i32.wrap (a0 - t0) = wrap32 z := by rw [ha, wrapI32]; congr 1; omega
          have hw2 : IntKind.i32.wrap (b0 - t1) = wrap32 z := by rw [hb, wrapI32]; congr 1; omega
          have hw3 : wrap32 (a0 - t0) = wrap32 z := by rw [ha]; congr 1; omega
          have hw4 : wrap32 (b0 - t1) = wrap32 z := by rw [hb]; congr 1; omega
          obtain ⟨y, hy⟩ : ∃ y, wrap32 z = y := ⟨_, rfl⟩
          rw [hy] at hw1 hw2 hw3 hw4
          have hyy : (y != y) = false := by simp
          clear ha hb hy hz ht0 ht1
          go_wp2
          go_quiet (fail)
          go_wp2
          go_roundw
          case rel => exact ⟨q + 1, by omega, by simp, ⟨pw_below_drewN HQ.out _⟩⟩
          case measure => simp [intOf]; omega
        · have hq' : ¬ (q : Int) < (n : Int) := by omega
          go_wp2
          go_ret
          exact ⟨rfl, below_step HBB.out HQ.out⟩
theorem back_law (s : Int) (ys ts : List Int) (hy : ys.length = 32) (ht : ts.length = 64) (wf : (Lit.int .u8 s).wf = true) (w : World) :
    Calls Try.prog 4 #[.int .u8 s, .agg (nums .i32 ys).toArray, .agg (nums .i32 ts).toArray] w fun e w' => e = .returned (.bool true) ∧ Below w.heap.size w w' := by
  obtain ⟨h0, h1⟩ := Math.wf_u8 wf
  rcases (by omega : s % 3 = 0 ∨ s % 3 = 1 ∨ s % 3 = 2) with h | h | h
  · exact back_any s ys ts hy ht h0 h1 8 (by rw [h]; decide +kernel) (.inl rfl) w
  · exact back_any s ys ts hy ht h0 h1 16 (by rw [h]; decide +kernel) (.inr (.inl rfl)) w
  · exact back_any s ys ts hy ht h0 h1 32 (by rw [h]; decide +kernel) (.inr (.inr rfl)) w
end Go.Proofs.Ytkbcolikbaaejaa.LapBack
