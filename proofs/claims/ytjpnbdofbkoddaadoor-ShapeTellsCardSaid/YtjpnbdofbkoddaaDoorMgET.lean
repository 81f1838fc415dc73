import Derived.Test.YtjpnbdofbkoddaaDoorMgDT
import Derived.Test.YtjpnbdofbkoddaaDoorShoT
set_option linter.unusedVariables false
set_option linter.unusedSimpArgs false
namespace Go.Proofs.YtjpnbdofbkoddaaDoor.Sh
open Go.RowKit Go.Proofs.YtjpnbdofbkoddaaDoorW.PrintWords Go.Proofs.YtjpnbdofbkoddaaDoorW.PrintLast Go.Proofs.YtjpnbdofbkoddaaDoorW.PrintMore
open Go.Proofs.YtjpnbdofbkoddaaDoor.OShapeSeeds Go.Proofs.YtjpnbdofbkoddaaDoor.Sy Go.Proofs.YtjpnbdofbkoddaaDoor.SyWalk Go.Proofs.YtjpnbdofbkoddaaDoor.WrWalk
open Go.Proofs.YtjpnbdofbkoddaaDoor.Wr (St)
open Go.Proofs.YtjpnbdofbkoddaaDoor.RfWalk (RfAt RfB rleft_any rnew_any)
set_option maxHeartbeats 16000000 in
set_option maxRecDepth 100000 in
theorem fit_call (by_ : Int) (s c : Nat) (ps : List Int) (wc : Array Value) (si it : Bool) (sp tr : Int) (hw : Wish wc si it sp tr) (hby : 0 ≤ by_ ∧ by_ ≤ 2000) (hs : s ≤ 2) (hc1 : 1 ≤ c) (hc2 : c ≤ 2) (hp : ps.length = 10) (w : World) :
 Calls Tryd.prog 19 #[.int .i64 by_, .int .i64 s, .int .i64 c, .agg (ps.map (Value.int .i64)).toArray, .agg wc] w fun e w' => ∃ f : Fr, f.L.length = 92 ∧ (f.si = true ∨ FX f s c (s + 3) 0) ∧ e = .returned (.agg f.cells.toArray) ∧ Below w.heap.size w w' := by
 obtain ⟨y, hy, hy2⟩ : ∃ y, sp.tmod 4 = y ∧ 0 ≤ y ∧ y ≤ 3 := ⟨_, rfl, by rw [Int.tmod_eq_emod_of_nonneg hw.hsp.1]; omega, by rw [Int.tmod_eq_emod_of_nonneg hw.hsp.1]; omega⟩
 obtain ⟨z, hz, hz2⟩ : ∃ y, tr.tmod 8 = y ∧ 0 ≤ y ∧ y ≤ 7 := ⟨_, rfl, by rw [Int.tmod_eq_emod_of_nonneg hw.htr.1]; omega, by rw [Int.tmod_eq_emod_of_nonneg hw.htr.1]; omega⟩
 have ws1 : wrap64 sp = sp := sw64 (by have := hw.hsp; omega) (by have := hw.hsp; omega)
 have ws2 : wrap64 tr = tr := sw64 (by have := hw.htr; omega) (by have := hw.htr; omega)
 have HN := Aside0.mk (bands_call hs)
 have HS2 := Aside0.mk (And.intro hs (And.intro hc1 hc2))
 have HW := Aside0.mk hw
 have HP := Aside0.mk hp
 have HBY := Aside0.mk hby
 have HYZ := Aside0.mk (And.intro hy2 hz2)
 clear hw hs hc1 hc2 hp hby hy2 hz2
 cases si
 ·go_enter Tryd.func19, Tryd.ntmps19
  go_wp2_with (first
   | ((with_reducible refine alloc_FI ps wc rfl rfl rfl ?_); intro W hfi; have HI0 := Aside0.mk hfi; have c0 := hfi.wish HW.out.c0; have c1 := hfi.wish HW.out.c1; have c2 := hfi.wish HW.out.c2; have c3 := hfi.wish HW.out.c3; have k0 := (blk_cell hfi.fr 0).trans F0.cells_0; have k1 := (blk_cell hfi.fr 1).trans F0.cells_1; have k2 := hfi.cell (j := 0) (by decide); have k3 := hfi.cell (j := 1) (by decide); have f0 := hfi.frozen 0; have f1 := hfi.frozen 1; have f2 := hfi.frozen 2; have f3 := hfi.frozen 3; have HI3 := Aside0.mk (((hfi.set0 false).set1 it).setL 0 y); have HI4 := Aside0.mk ((((hfi.set0 false).set1 it).setL 0 y).setL 1 z); clear hfi HI0)
   | (with_reducible refine alloc_to rfl 62 rfl _ zero62 ?_)
   | (go_at_call 47; (with_reducible refine (HN.out _).mono ?_); rintro e w1 ⟨rfl, hb1⟩; have HI := Aside0.mk (HI4.out.below hb1); clear HI3 HI4 hb1))
  clear c0 c1 c2 c3 k0 k1 k2 k3 f0 f1 f2 f3 hy hz ws1 ws2
  go_loopw [13] (fun bv wr => ∃ (b : Nat) (f : Fr), b ≤ s + 3 ∧ bv = .int .i64 b ∧ Aside0 (FI w wr ps wc f) ∧ Aside0 (FG f)) (fun bv _ => (s + 3 - intOf bv).toNat)
  case atStart => exact ⟨0, _, by omega, rfl, HI, ⟨FG.start y z HYZ.out.1 HYZ.out.2 false it⟩⟩
  case round =>
   obtain ⟨b, f, hb, rfl, HI2, HF⟩ := hrel
   clear HI
   have HI := HI2
   clear HI2
   by_cases ht : b < s + 3
   ·have d1 : decide ((b : Int) < (s : Int) + 3) = true := decide_eq_true (by omega)
    have HBB : Aside0 (b + 1 ≤ s + 3 ∧ b ≤ 4) := ⟨by omega, by have := HS2.out; omega⟩
    clear ht hb
    go_wp2
    clear d1
    go_loopw [14] (fun qv wr => ∃ (q : Nat) (f : Fr), q ≤ c ∧ qv = .int .i64 q ∧ Aside0 (FI w wr ps wc f) ∧ Aside0 (FG f)) (fun qv _ => (c - intOf qv).toNat)
    case atStart => exact ⟨0, f, by omega, rfl, HI, HF⟩
    case round =>
     obtain ⟨q, f, hq, rfl, HI2, HF2⟩ := hrel
     clear HI HF
     have HI := HI2
     have HF := HF2
     clear HI2 HF2
     by_cases ht : q < c
     ·have d2 : decide ((q : Int) < (c : Int)) = true := decide_eq_true (by omega)
      have HQQ : Aside0 (q + 1 ≤ c ∧ q ≤ 1) := ⟨by omega, by have := HS2.out; omega⟩
      clear hq
      obtain ⟨x, hx, hx0⟩ := HW.out.st (q * 5 + b) (by have := HQQ.out; have := HBB.out; omega)
      have hcell := HI.out.wish hx
      have i1 : (0 : Int) ≤ (q : Int) := by omega
      have i2 : (q : Int) < 2 := by have := HQQ.out; omega
      have i3 : (0 : Int) ≤ (b : Int) := by omega
      have i4 : (b : Int) < 5 := by have := HBB.out; omega
      have hx1 : wr.cell? ⟨w.heap.size + 1, 4 + q * 5 + b, none⟩ = some (.int .i8 x) := by rw [Nat.add_assoc]; exact hcell
      have HCE := Aside0.mk hx1
      have wx : wrap64 x = x := sw64 (by omega) (by omega)
      have HC49 := Aside0.mk (fun w => guess_call f ps HI.out.fl HP.out HQQ.out.2 HBB.out.2 w)
      have HC48 := Aside0.mk held_call
      clear hx hcell hx0
      obtain ⟨G, hG⟩ : ∃ G, guessOf f ps q b = G := ⟨_, rfl⟩
      rw [hG] at HC49
      clear hG
      rcases (by omega : x < -7 ∨ (-7 ≤ x ∧ 7 < x) ∨ (-7 ≤ x ∧ x ≤ 7)) with h1 | ⟨h1, h2⟩ | ⟨h1, h2⟩
      ·have e1 : decide (x < -7) = true := decide_eq_true h1
       clear h1
       go_wp2
       refine wp_region_any (by kernel_rfl) ?_
       change wpAny _ _ _ _ _ _ _ (World.drew _)
       refine zT (v := ?_) 0 rfl ?h ?_
       case h => (intro w1; go_simp; (try with_reducible rfl))
       (try simp only [Act.put, zA1, zA2, zA3])
       refine zT (v := ?_) 1 rfl ?h ?_
       case h => (intro w1; go_simp; (try with_reducible rfl))
       (try simp only [Act.put, zA1, zA2, zA3])
       refine zT (v := ?_) 4 rfl ?h ?_
       case h => (intro w1; go_simp; (try with_reducible rfl))
       (try simp only [Act.put, zA1, zA2, zA3])
       refine zT (v := ?_) 5 rfl ?h ?_
       case h => (intro w1; go_simp; (try with_reducible rfl))
       (try simp only [Act.put, zA1, zA2, zA3])
       refine zT (v := ?_) 7 rfl ?h ?_
       case h => (intro w1; go_simp; (try with_reducible rfl))
       (try simp only [Act.put, zA1, zA2, zA3])
       refine zT (v := ?_) 10 rfl ?h ?_
       case h => (intro w1; go_simp; (try with_reducible rfl))
       (try simp only [Act.put, zA1, zA2, zA3])
       refine zT (v := ?_) 11 rfl ?h ?_
       case h => (intro w1; go_simp; (try with_reducible rfl))
       (try simp only [Act.put, zA1, zA2, zA3])
       refine wpAny_ready (rs := [2, 3]) (by kernel_rfl) (by simp) ?_
       refine AllReady.cons (o := ⟨_, _, _, _, _, _⟩) rfl (fun K hK => ?_) ?_
       ·rw [if_pos (by rfl)]
        refine wp_load_row 62 (.tmp 11) rfl (w.heap.size + 1 + 1 + 1) rfl 62 f.cells.toArray (0, 0) _ (HI.out.below (drew_self _)).fr Tryd.underlying62 rfl (fr_sz f HI.out.fl) ?_
        refine hK _ _ ?_
        clear hK K
        (try simp only [Act.put, zA1, zA2, zA3])
        refine zO 3 rfl fun K hK => ?_
        rw [if_pos (by rfl)]
        refine wp_load_row 55 (.tmp 8) rfl w.heap.size rfl 55 (ps.map (Value.int .i64)).toArray (0, 0) _ (HI.out.below (drew_self _)).p Tryd.underlying55 rfl (ps_sz ps HP.out) ?_
        refine hK _ _ ?_
        clear hK K
        (try simp only [Act.put, zA1, zA2, zA3])
        refine zO 6 rfl fun K hK => ?_
        refine goes_ (N := some 75) Tryd.func49 (by kernel_rfl) rfl #[.agg f.cells.toArray, .agg (ps.map (Value.int .i64)).toArray, .int .i64 q, .int .i64 b] (by rfl) rfl rfl (by first | rfl | (simp only [List.map_toArray, List.map_cons, List.map_nil]; rfl)) ?_
        (with_reducible refine (HC49.out _).mono ?_); rintro e w1 ⟨rfl, hb1⟩
        refine ⟨_, rfl, ?_⟩
        refine hK _ _ ?_
        clear hK K
        (try simp only [Act.put, zA1, zA2, zA3])
        refine zT (v := ?_) 8 rfl ?h ?_
        case h => (intro w1; go_simp; (try with_reducible rfl))
        (try simp only [Act.put, zA1, zA2, zA3])
        refine zO 9 rfl fun K hK => ?_
        refine goes_ (N := some 78) Tryd.func48 (by kernel_rfl) rfl #[.int .i64 _] (by rfl) rfl rfl (by first | rfl | (simp only [List.map_toArray, List.map_cons, List.map_nil]; rfl)) ?_
        (with_reducible refine (HC48.out _ _).mono ?_); rintro e w2 ⟨rfl, hb2⟩
        refine ⟨_, rfl, ?_⟩
        refine hK _ _ ?_
        clear hK K
        (try simp only [Act.put, zA1, zA2, zA3])
        have HI1 := Aside0.mk (((HI.out.below (drew_self _)).below hb1).below hb2)
        clear HI hb1 hb2 wx e1 hx1
        (try clear e2)
        have hk1 := (FI.cellE HI1.out HQQ.out.2 HBB.out.2)
        have hf1 := HI1.out.frozen (5 + q * 5 + b)
        refine zT (v := ?_) 12 rfl ?h ?_
        case h => (intro w1; go_simp; (try with_reducible rfl))
        (try simp only [Act.put, zA1, zA2, zA3])
        refine zO 13 rfl fun K hK => ?_
        go_simp
        refine hK _ _ ?_
        clear hK K
        (try simp only [Act.put, zA1, zA2, zA3])
        refine wpAny_done (by kernel_rfl) ?_ _
        go_wp2
        go_roundw
        case rel => exact ⟨q + 1, _, HQQ.out.1, congrArg (Value.int .i64) (by omega), ⟨HI1.out.setE q b _⟩, ⟨HF.out.set (by omega) _⟩⟩
        case measure => exact meas_q HQQ.out.1
       refine AllReady.cons (o := ⟨_, _, _, _, _, _⟩) rfl (fun K hK => ?_) ?_
       ·rw [if_pos (by rfl)]
        refine wp_load_row 55 (.tmp 8) rfl w.heap.size rfl 55 (ps.map (Value.int .i64)).toArray (0, 0) _ (HI.out.below (drew_self _)).p Tryd.underlying55 rfl (ps_sz ps HP.out) ?_
        refine hK _ _ ?_
        clear hK K
        (try simp only [Act.put, zA1, zA2, zA3])
        refine zO 2 rfl fun K hK => ?_
        rw [if_pos (by rfl)]
        refine wp_load_row 62 (.tmp 11) rfl (w.heap.size + 1 + 1 + 1) rfl 62 f.cells.toArray (0, 0) _ (HI.out.below (drew_self _)).fr Tryd.underlying62 rfl (fr_sz f HI.out.fl) ?_
        refine hK _ _ ?_
        clear hK K
        (try simp only [Act.put, zA1, zA2, zA3])
        refine zO 6 rfl fun K hK => ?_
        refine goes_ (N := some 75) Tryd.func49 (by kernel_rfl) rfl #[.agg f.cells.toArray, .agg (ps.map (Value.int .i64)).toArray, .int .i64 q, .int .i64 b] (by rfl) rfl rfl (by first | rfl | (simp only [List.map_toArray, List.map_cons, List.map_nil]; rfl)) ?_
        (with_reducible refine (HC49.out _).mono ?_); rintro e w1 ⟨rfl, hb1⟩
        refine ⟨_, rfl, ?_⟩
        refine hK _ _ ?_
        clear hK K
        (try simp only [Act.put, zA1, zA2, zA3])
        refine zT (v := ?_) 8 rfl ?h ?_
        case h => (intro w1; go_simp; (try with_reducible rfl))
        (try simp only [Act.put, zA1, zA2, zA3])
        refine zO 9 rfl fun K hK => ?_
        refine goes_ (N := some 78) Tryd.func48 (by kernel_rfl) rfl #[.int .i64 _] (by rfl) rfl rfl (by first | rfl | (simp only [List.map_toArray, List.map_cons, List.map_nil]; rfl)) ?_
        (with_reducible refine (HC48.out _ _).mono ?_); rintro e w2 ⟨rfl, hb2⟩
        refine ⟨_, rfl, ?_⟩
        refine hK _ _ ?_
        clear hK K
        (try simp only [Act.put, zA1, zA2, zA3])
        have HI1 := Aside0.mk (((HI.out.below (drew_self _)).below hb1).below hb2)
        clear HI hb1 hb2 wx e1 hx1
        (try clear e2)
        have hk1 := (FI.cellE HI1.out HQQ.out.2 HBB.out.2)
        have hf1 := HI1.out.frozen (5 + q * 5 + b)
        refine zT (v := ?_) 12 rfl ?h ?_
        case h => (intro w1; go_simp; (try with_reducible rfl))
        (try simp only [Act.put, zA1, zA2, zA3])
        refine zO 13 rfl fun K hK => ?_
        go_simp
        refine hK _ _ ?_
        clear hK K
        (try simp only [Act.put, zA1, zA2, zA3])
        refine wpAny_done (by kernel_rfl) ?_ _
        go_wp2
        go_roundw
        case rel => exact ⟨q + 1, _, HQQ.out.1, congrArg (Value.int .i64) (by omega), ⟨HI1.out.setE q b _⟩, ⟨HF.out.set (by omega) _⟩⟩
        case measure => exact meas_q HQQ.out.1
       exact AllReady.nil
      ·have e1 : decide (x < -7) = false := decide_eq_false (by omega)
       have e2 : decide (7 < x) = true := decide_eq_true h2
       clear h1 h2
       go_wp2
       refine wp_region_any (by kernel_rfl) ?_
       change wpAny _ _ _ _ _ _ _ (World.drew _)
       refine zT (v := ?_) 0 rfl ?h ?_
       case h => (intro w1; go_simp; (try with_reducible rfl))
       (try simp only [Act.put, zA1, zA2, zA3])
       refine zT (v := ?_) 1 rfl ?h ?_
       case h => (intro w1; go_simp; (try with_reducible rfl))
       (try simp only [Act.put, zA1, zA2, zA3])
       refine zT (v := ?_) 4 rfl ?h ?_
       case h => (intro w1; go_simp; (try with_reducible rfl))
       (try simp only [Act.put, zA1, zA2, zA3])
       refine zT (v := ?_) 5 rfl ?h ?_
       case h => (intro w1; go_simp; (try with_reducible rfl))
       (try simp only [Act.put, zA1, zA2, zA3])
       refine zT (v := ?_) 7 rfl ?h ?_
       case h => (intro w1; go_simp; (try with_reducible rfl))
       (try simp only [Act.put, zA1, zA2, zA3])
       refine zT (v := ?_) 10 rfl ?h ?_
       case h => (intro w1; go_simp; (try with_reducible rfl))
       (try simp only [Act.put, zA1, zA2, zA3])
       refine zT (v := ?_) 11 rfl ?h ?_
       case h => (intro w1; go_simp; (try with_reducible rfl))
       (try simp only [Act.put, zA1, zA2, zA3])
       refine wpAny_ready (rs := [2, 3]) (by kernel_rfl) (by simp) ?_
       refine AllReady.cons (o := ⟨_, _, _, _, _, _⟩) rfl (fun K hK => ?_) ?_
       ·rw [if_pos (by rfl)]
        refine wp_load_row 62 (.tmp 11) rfl (w.heap.size + 1 + 1 + 1) rfl 62 f.cells.toArray (0, 0) _ (HI.out.below (drew_self _)).fr Tryd.underlying62 rfl (fr_sz f HI.out.fl) ?_
        refine hK _ _ ?_
        clear hK K
        (try simp only [Act.put, zA1, zA2, zA3])
        refine zO 3 rfl fun K hK => ?_
        rw [if_pos (by rfl)]
        refine wp_load_row 55 (.tmp 8) rfl w.heap.size rfl 55 (ps.map (Value.int .i64)).toArray (0, 0) _ (HI.out.below (drew_self _)).p Tryd.underlying55 rfl (ps_sz ps HP.out) ?_
        refine hK _ _ ?_
        clear hK K
        (try simp only [Act.put, zA1, zA2, zA3])
        refine zO 6 rfl fun K hK => ?_
        refine goes_ (N := some 75) Tryd.func49 (by kernel_rfl) rfl #[.agg f.cells.toArray, .agg (ps.map (Value.int .i64)).toArray, .int .i64 q, .int .i64 b] (by rfl) rfl rfl (by first | rfl | (simp only [List.map_toArray, List.map_cons, List.map_nil]; rfl)) ?_
        (with_reducible refine (HC49.out _).mono ?_); rintro e w1 ⟨rfl, hb1⟩
        refine ⟨_, rfl, ?_⟩
        refine hK _ _ ?_
        clear hK K
        (try simp only [Act.put, zA1, zA2, zA3])
        refine zT (v := ?_) 8 rfl ?h ?_
        case h => (intro w1; go_simp; (try with_reducible rfl))
        (try simp only [Act.put, zA1, zA2, zA3])
        refine zO 9 rfl fun K hK => ?_
        refine goes_ (N := some 78) Tryd.func48 (by kernel_rfl) rfl #[.int .i64 _] (by rfl) rfl rfl (by first | rfl | (simp only [List.map_toArray, List.map_cons, List.map_nil]; rfl)) ?_
        (with_reducible refine (HC48.out _ _).mono ?_); rintro e w2 ⟨rfl, hb2⟩
        refine ⟨_, rfl, ?_⟩
        refine hK _ _ ?_
        clear hK K
        (try simp only [Act.put, zA1, zA2, zA3])
        have HI1 := Aside0.mk (((HI.out.below (drew_self _)).below hb1).below hb2)
        clear HI hb1 hb2 wx e1 hx1
        (try clear e2)
        have hk1 := (FI.cellE HI1.out HQQ.out.2 HBB.out.2)
        have hf1 := HI1.out.frozen (5 + q * 5 + b)
        refine zT (v := ?_) 12 rfl ?h ?_
        case h => (intro w1; go_simp; (try with_reducible rfl))
        (try simp only [Act.put, zA1, zA2, zA3])
        refine zO 13 rfl fun K hK => ?_
        go_simp
        refine hK _ _ ?_
        clear hK K
        (try simp only [Act.put, zA1, zA2, zA3])
        refine wpAny_done (by kernel_rfl) ?_ _
        go_wp2
        go_roundw
        case rel => exact ⟨q + 1, _, HQQ.out.1, congrArg (Value.int .i64) (by omega), ⟨HI1.out.setE q b _⟩, ⟨HF.out.set (by omega) _⟩⟩
        case measure => exact meas_q HQQ.out.1
       refine AllReady.cons (o := ⟨_, _, _, _, _, _⟩) rfl (fun K hK => ?_) ?_
       ·rw [if_pos (by rfl)]
        refine wp_load_row 55 (.tmp 8) rfl w.heap.size rfl 55 (ps.map (Value.int .i64)).toArray (0, 0) _ (HI.out.below (drew_self _)).p Tryd.underlying55 rfl (ps_sz ps HP.out) ?_
        refine hK _ _ ?_
        clear hK K
        (try simp only [Act.put, zA1, zA2, zA3])
        refine zO 2 rfl fun K hK => ?_
        rw [if_pos (by rfl)]
        refine wp_load_row 62 (.tmp 11) rfl (w.heap.size + 1 + 1 + 1) rfl 62 f.cells.toArray (0, 0) _ (HI.out.below (drew_self _)).fr Tryd.underlying62 rfl (fr_sz f HI.out.fl) ?_
        refine hK _ _ ?_
        clear hK K
        (try simp only [Act.put, zA1, zA2, zA3])
        refine zO 6 rfl fun K hK => ?_
        refine goes_ (N := some 75) Tryd.func49 (by kernel_rfl) rfl #[.agg f.cells.toArray, .agg (ps.map (Value.int .i64)).toArray, .int .i64 q, .int .i64 b] (by rfl) rfl rfl (by first | rfl | (simp only [List.map_toArray, List.map_cons, List.map_nil]; rfl)) ?_
        (with_reducible refine (HC49.out _).mono ?_); rintro e w1 ⟨rfl, hb1⟩
        refine ⟨_, rfl, ?_⟩
        refine hK _ _ ?_
        clear hK K
        (try simp only [Act.put, zA1, zA2, zA3])
        refine zT (v := ?_) 8 rfl ?h ?_
        case h => (intro w1; go_simp; (try with_reducible rfl))
        (try simp only [Act.put, zA1, zA2, zA3])
        refine zO 9 rfl fun K hK => ?_
        refine goes_ (N := some 78) Tryd.func48 (by kernel_rfl) rfl #[.int .i64 _] (by rfl) rfl rfl (by first | rfl | (simp only [List.map_toArray, List.map_cons, List.map_nil]; rfl)) ?_
        (with_reducible refine (HC48.out _ _).mono ?_); rintro e w2 ⟨rfl, hb2⟩
        refine ⟨_, rfl, ?_⟩
        refine hK _ _ ?_
        clear hK K
        (try simp only [Act.put, zA1, zA2, zA3])
        have HI1 := Aside0.mk (((HI.out.below (drew_self _)).below hb1).below hb2)
        clear HI hb1 hb2 wx e1 hx1
        (try clear e2)
        have hk1 := (FI.cellE HI1.out HQQ.out.2 HBB.out.2)
        have hf1 := HI1.out.frozen (5 + q * 5 + b)
        refine zT (v := ?_) 12 rfl ?h ?_
        case h => (intro w1; go_simp; (try with_reducible rfl))
        (try simp only [Act.put, zA1, zA2, zA3])
        refine zO 13 rfl fun K hK => ?_
        go_simp
        refine hK _ _ ?_
        clear hK K
        (try simp only [Act.put, zA1, zA2, zA3])
        refine wpAny_done (by kernel_rfl) ?_ _
        go_wp2
        go_roundw
        case rel => exact ⟨q + 1, _, HQQ.out.1, congrArg (Value.int .i64) (by omega), ⟨HI1.out.setE q b _⟩, ⟨HF.out.set (by omega) _⟩⟩
        case measure => exact meas_q HQQ.out.1
       exact AllReady.nil
      ·have e1 : decide (x < -7) = false := decide_eq_false (by omega)
       have e2 : decide (7 < x) = false := decide_eq_false (by omega)
       clear h1 h2
       go_wp2
       refine wp_region_any (by kernel_rfl) ?_
       change wpAny _ _ _ _ _ _ _ (World.drew _)
       refine zT (v := ?_) 0 rfl ?h ?_
       case h => (intro w1; go_simp; (try with_reducible rfl))
       (try simp only [Act.put, zA1, zA2, zA3])
       refine zT (v := ?_) 1 rfl ?h ?_
       case h => (intro w1; go_simp; (try with_reducible rfl))
       (try simp only [Act.put, zA1, zA2, zA3])
       refine zT (v := ?_) 4 rfl ?h ?_
       case h => (intro w1; go_simp; (try with_reducible rfl))
       (try simp only [Act.put, zA1, zA2, zA3])
       refine zT (v := ?_) 5 rfl ?h ?_
       case h => (intro w1; go_simp; (try with_reducible rfl))
       (try simp only [Act.put, zA1, zA2, zA3])
       refine zT (v := ?_) 7 rfl ?h ?_
       case h => (intro w1; go_simp; (try with_reducible rfl))
       (try simp only [Act.put, zA1, zA2, zA3])
       refine zT (v := ?_) 10 rfl ?h ?_
       case h => (intro w1; go_simp; (try with_reducible rfl))
       (try simp only [Act.put, zA1, zA2, zA3])
       refine zT (v := ?_) 11 rfl ?h ?_
       case h => (intro w1; go_simp; (try with_reducible rfl))
       (try simp only [Act.put, zA1, zA2, zA3])
       refine wpAny_ready (rs := [2, 3]) (by kernel_rfl) (by simp) ?_
       refine AllReady.cons (o := ⟨_, _, _, _, _, _⟩) rfl (fun K hK => ?_) ?_
       ·rw [if_pos (by rfl)]
        refine wp_load_row 62 (.tmp 11) rfl (w.heap.size + 1 + 1 + 1) rfl 62 f.cells.toArray (0, 0) _ (HI.out.below (drew_self _)).fr Tryd.underlying62 rfl (fr_sz f HI.out.fl) ?_
        refine hK _ _ ?_
        clear hK K
        (try simp only [Act.put, zA1, zA2, zA3])
        refine zO 3 rfl fun K hK => ?_
        rw [if_pos (by rfl)]
        refine wp_load_row 55 (.tmp 8) rfl w.heap.size rfl 55 (ps.map (Value.int .i64)).toArray (0, 0) _ (HI.out.below (drew_self _)).p Tryd.underlying55 rfl (ps_sz ps HP.out) ?_
        refine hK _ _ ?_
        clear hK K
        (try simp only [Act.put, zA1, zA2, zA3])
        refine zO 6 rfl fun K hK => ?_
        refine goes_ (N := some 75) Tryd.func49 (by kernel_rfl) rfl #[.agg f.cells.toArray, .agg (ps.map (Value.int .i64)).toArray, .int .i64 q, .int .i64 b] (by rfl) rfl rfl (by first | rfl | (simp only [List.map_toArray, List.map_cons, List.map_nil]; rfl)) ?_
        (with_reducible refine (HC49.out _).mono ?_); rintro e w1 ⟨rfl, hb1⟩
        refine ⟨_, rfl, ?_⟩
        refine hK _ _ ?_
        clear hK K
        (try simp only [Act.put, zA1, zA2, zA3])
        refine zT (v := ?_) 8 rfl ?h ?_
        case h => (intro w1; go_simp; (try with_reducible rfl))
        (try simp only [Act.put, zA1, zA2, zA3])
        refine zO 9 rfl fun K hK => ?_
        refine goes_ (N := some 78) Tryd.func48 (by kernel_rfl) rfl #[.int .i64 _] (by rfl) rfl rfl (by first | rfl | (simp only [List.map_toArray, List.map_cons, List.map_nil]; rfl)) ?_
        (with_reducible refine (HC48.out _ _).mono ?_); rintro e w2 ⟨rfl, hb2⟩
        refine ⟨_, rfl, ?_⟩
        refine hK _ _ ?_
        clear hK K
        (try simp only [Act.put, zA1, zA2, zA3])
        have HI1 := Aside0.mk (((HI.out.below (drew_self _)).below hb1).below hb2)
        clear HI hb1 hb2 wx e1 hx1
        (try clear e2)
        have hk1 := (FI.cellE HI1.out HQQ.out.2 HBB.out.2)
        have hf1 := HI1.out.frozen (5 + q * 5 + b)
        refine zT (v := ?_) 12 rfl ?h ?_
        case h => (intro w1; go_simp; (try with_reducible rfl))
        (try simp only [Act.put, zA1, zA2, zA3])
        refine zO 13 rfl fun K hK => ?_
        go_simp
        refine hK _ _ ?_
        clear hK K
        (try simp only [Act.put, zA1, zA2, zA3])
        refine wpAny_done (by kernel_rfl) ?_ _
        go_wp2
        go_roundw
        case rel => exact ⟨q + 1, _, HQQ.out.1, congrArg (Value.int .i64) (by omega), ⟨HI1.out.setE q b _⟩, ⟨HF.out.set (by omega) _⟩⟩
        case measure => exact meas_q HQQ.out.1
       refine AllReady.cons (o := ⟨_, _, _, _, _, _⟩) rfl (fun K hK => ?_) ?_
       ·rw [if_pos (by rfl)]
        refine wp_load_row 55 (.tmp 8) rfl w.heap.size rfl 55 (ps.map (Value.int .i64)).toArray (0, 0) _ (HI.out.below (drew_self _)).p Tryd.underlying55 rfl (ps_sz ps HP.out) ?_
        refine hK _ _ ?_
        clear hK K
        (try simp only [Act.put, zA1, zA2, zA3])
        refine zO 2 rfl fun K hK => ?_
        rw [if_pos (by rfl)]
        refine wp_load_row 62 (.tmp 11) rfl (w.heap.size + 1 + 1 + 1) rfl 62 f.cells.toArray (0, 0) _ (HI.out.below (drew_self _)).fr Tryd.underlying62 rfl (fr_sz f HI.out.fl) ?_
        refine hK _ _ ?_
        clear hK K
        (try simp only [Act.put, zA1, zA2, zA3])
        refine zO 6 rfl fun K hK => ?_
        refine goes_ (N := some 75) Tryd.func49 (by kernel_rfl) rfl #[.agg f.cells.toArray, .agg (ps.map (Value.int .i64)).toArray, .int .i64 q, .int .i64 b] (by rfl) rfl rfl (by first | rfl | (simp only [List.map_toArray, List.map_cons, List.map_nil]; rfl)) ?_
        (with_reducible refine (HC49.out _).mono ?_); rintro e w1 ⟨rfl, hb1⟩
        refine ⟨_, rfl, ?_⟩
        refine hK _ _ ?_
        clear hK K
        (try simp only [Act.put, zA1, zA2, zA3])
        refine zT (v := ?_) 8 rfl ?h ?_
        case h => (intro w1; go_simp; (try with_reducible rfl))
        (try simp only [Act.put, zA1, zA2, zA3])
        refine zO 9 rfl fun K hK => ?_
        refine goes_ (N := some 78) Tryd.func48 (by kernel_rfl) rfl #[.int .i64 _] (by rfl) rfl rfl (by first | rfl | (simp only [List.map_toArray, List.map_cons, List.map_nil]; rfl)) ?_
        (with_reducible refine (HC48.out _ _).mono ?_); rintro e w2 ⟨rfl, hb2⟩
        refine ⟨_, rfl, ?_⟩
        refine hK _ _ ?_
        clear hK K
        (try simp only [Act.put, zA1, zA2, zA3])
        have HI1 := Aside0.mk (((HI.out.below (drew_self _)).below hb1).below hb2)
        clear HI hb1 hb2 wx e1 hx1
        (try clear e2)
        have hk1 := (FI.cellE HI1.out HQQ.out.2 HBB.out.2)
        have hf1 := HI1.out.frozen (5 + q * 5 + b)
        refine zT (v := ?_) 12 rfl ?h ?_
        case h => (intro w1; go_simp; (try with_reducible rfl))
        (try simp only [Act.put, zA1, zA2, zA3])
        refine zO 13 rfl fun K hK => ?_
        go_simp
        refine hK _ _ ?_
        clear hK K
        (try simp only [Act.put, zA1, zA2, zA3])
        refine wpAny_done (by kernel_rfl) ?_ _
        go_wp2
        go_roundw
        case rel => exact ⟨q + 1, _, HQQ.out.1, congrArg (Value.int .i64) (by omega), ⟨HI1.out.setE q b _⟩, ⟨HF.out.set (by omega) _⟩⟩
        case measure => exact meas_q HQQ.out.1
       exact AllReady.nil
     ·obtain rfl : q = c := by omega
      have d2 : decide ((q : Int) < (q : Int)) = false := decide_eq_false (by omega)
      clear ht hq
      have i3 : (0 : Int) ≤ (b : Int) := by omega
      have i4 : (b : Int) < 5 := by have := HBB.out; omega
      go_wp2
      go_roundw
      case rel => exact ⟨b + 1, f, HBB.out.1, congrArg (Value.int .i64) (by omega), HI, HF⟩
      case measure => exact meas_b HBB.out.1
   ·obtain rfl : b = s + 3 := by omega
    have d1 : decide ((s : Int) + 3 < (s : Int) + 3) = false := decide_eq_false (by omega)
    clear ht hb
    obtain ⟨T, hT⟩ : ∃ T, ga f.L 1 = T := ⟨_, rfl⟩
    have HT := Aside0.mk hT
    have HOK1 : Aside0 (okU (headOf f) 32) := ⟨by
     have h := HF.out.1
     unfold headOf okU
     split <;> split <;> omega⟩
    have HOK2 : Aside0 (okU T 8) := ⟨by have h := HF.out.2; rw [hT] at h; unfold okU; omega⟩
    have HC52 := Aside0.mk (fun w => head_call f HI.out.fl HF.out.1 w)
    obtain ⟨Hd, hHd⟩ : ∃ x, headOf f = x := ⟨_, rfl⟩
    rw [hHd] at HOK1 HC52
    clear hT hHd
    go_wp2_with (first
     | (go_at_call 50; (with_reducible refine (rnew_any by_ _).mono ?_); rintro e w1 ⟨g, rfl, hr, hb1⟩; obtain ⟨N, HH⟩ : ∃ N, Aside0 (WI w w1 ps wc f g N by_ 0 0) := ⟨_, ⟨WI.start HI.out hr hb1⟩⟩; clear HI hr hb1)
     | (refine wpList_load_row rfl 62 (.tmp 11) rfl (w.heap.size + 1 + 1 + 1) rfl 62 f.cells.toArray (0, 0) _ HH.out.fi.fr Tryd.underlying62 rfl (fr_sz f HH.out.fi.fl) ?_)
     | (refine wpList_load_row rfl 55 (.tmp 8) rfl w.heap.size rfl 55 (ps.map (Value.int .i64)).toArray (0, 0) _ HH.out.fi.p Tryd.underlying55 rfl (ps_sz ps HP.out) ?_)
     | (go_at_call 52; (with_reducible refine (HC52.out _).mono ?_); rintro e w2 ⟨rfl, hb1⟩; have HH1 := Aside0.mk (HH.out.below hb1); clear HH hb1; have HH := HH1; clear HH1)
     | (go_at_call 51; (with_reducible refine (HH.out.uint HOK1.out (by decide) (by decide)).mono ?_); rintro e w3 ⟨rfl, hi⟩; have HH1 := Aside0.mk hi; clear HH hi; have HH := HH1; clear HH1; have hct : w3.cell? ⟨w.heap.size + 1 + 1 + 1, 3, none⟩ = some (.int .i64 T) := (HH.out.fi.cell (j := 1) (by decide)).trans (by rw [HT.out]))
     | (go_at_call 51; (with_reducible refine (HH.out.uint HOK2.out (by decide) (by decide)).mono ?_); rintro e w4 ⟨rfl, hi⟩; have HH1 := Aside0.mk hi; clear HH hi hct; have HH := HH1; clear HH1)
     | (go_at_call 53; (with_reducible refine (HH.out.energies HP.out HS2.out.1 HS2.out.2.1 HS2.out.2.2 (by decide)).mono ?_); rintro e w5 ⟨⟨v5, rfl⟩, hi⟩; have HH1 := Aside0.mk hi; clear HH hi; have HH := HH1; clear HH1)
     | (go_at_call 55; (with_reducible refine (HH.out.left ⟨by have := HBY.out; omega, by have := HBY.out; omega⟩ (by decide) (by decide)).mono ?_); rintro e w6 ⟨⟨L6, rfl, hL6⟩, hb1⟩; have HL6 := Aside0.mk hL6; have HH1 := Aside0.mk (HH.out.below hb1); clear HH hb1 hL6; have HH := HH1; clear HH1)
     | (go_at_call 54; (with_reducible refine (fines_call HL6.out HS2.out.2.1 HS2.out.2.2 _).mono ?_); rintro e w7 ⟨⟨r, rfl, hr⟩, hb1⟩; have HR3 := Aside0.mk hr; have HH1 := Aside0.mk (HH.out.below hb1); clear HH hb1 hr; have HH := HH1; clear HH1; have hc4 := HH.out.fi.cell (j := 2) (by decide); have hf4 := HH.out.fi.frozen 4; have HH2 := Aside0.mk (WI.put HH.out (p := ⟨w.heap.size + 1 + 1 + 1, 4, none⟩) rfl (HH.out.fi.setL 2 r)); have HI0fl := Aside0.mk HH.out.fi.fl; clear HH))
    have HF2 : Aside0 (FG (f.setL 2 r) ∧ ga (f.setL 2 r).L 2 = r) := ⟨HF.out.set (by decide) _, (at_put HI0fl.out (by decide) _ 2).trans (if_pos rfl)⟩
    generalize f.setL 2 r = f2 at HH2 HF2
    obtain ⟨wq, hwq⟩ : ∃ x, w7.setCell ⟨w.heap.size + 1 + 1 + 1, 4, none⟩ (.int .i64 r) = x := ⟨_, rfl⟩
    rw [hwq] at HH2 ⊢
    clear hwq hc4 hf4 HF HT HOK1 HOK2 HC52 HL6
    have HH := HH2
    have HF := HF2
    clear HH2 HF2
    go_loopw [17, 18] (fun pv iv wr => ∃ (i : Nat) (P : Int), i ≤ r ∧ pv = .int .i64 P ∧ iv = .int .i64 i ∧ Aside0 (P = 2 ^ i) ∧ Aside0 (WI w wr ps wc f2 g N by_ 24 32)) (fun pv iv _ => (r - intOf iv).toNat)
    case atStart => exact ⟨0, 1, by omega, rfl, rfl, ⟨rfl⟩, HH⟩
    case round =>
     obtain ⟨i, P, hi, rfl, rfl, HPP, HH2⟩ := hrel
     clear HH
     have HH := HH2
     clear HH2
     have hc4 : wr.cell? ⟨w.heap.size + 1 + 1 + 1, 4, none⟩ = some (.int .i64 r) := (HH.out.fi.cell (j := 2) (by decide)).trans (by rw [HF.out.2])
     by_cases ht : i < r
     ·have HII : Aside0 (i + 1 ≤ r) := ⟨ht⟩
      have i3 : (0 : Int) ≤ (i : Int) := by omega
      have i4 : (i : Int) < 3 := by have := HR3.out; omega
      have hpb := pow_16 (k := i) (by have := HR3.out; omega)
      rw [← HPP.out] at hpb
      have wP : wrap64 (P * 2) = P * 2 := sw64 (by omega) (by omega)
      clear hi hpb
      go_wp2
      go_roundw
      case rel => exact ⟨i + 1, P * 2, HII.out, congrArg (Value.int .i64) (by first | rfl | exact wP), congrArg (Value.int .i64) (by omega), ⟨by rw [HPP.out, Int.pow_succ]⟩, HH⟩
      case measure => exact meas_q HII.out
     ·obtain rfl : i = r := by omega
      clear ht hi
      have HPB : Aside0 (1 ≤ P ∧ P ≤ 8) := ⟨by
       have h3 := HR3.out
       rw [HPP.out]
       rcases (by omega : i = 0 ∨ i = 1 ∨ i = 2 ∨ i = 3) with rfl | rfl | rfl | rfl <;> decide⟩
      go_wp2
      clear hc4
      go_loopw [19] (fun bv wr => ∃ (b : Nat) (f : Fr), b ≤ s + 3 ∧ bv = .int .i64 b ∧ Aside0 (WI w wr ps wc f g N by_ 24 (32 + 32 * b)) ∧ Aside0 (FG f ∧ ga f.L 2 = i)) (fun bv _ => (s + 3 - intOf bv).toNat)
      case atStart => exact ⟨0, f2, by omega, rfl, HH, HF⟩
      case round =>
       obtain ⟨b, f, hb, rfl, HH2, HF2⟩ := hrel
       clear HH HF
       have HH := HH2
       have HF := HF2
       clear HH2 HF2
       by_cases ht : b < s + 3
       ·have d1 : decide ((b : Int) < (s : Int) + 3) = true := decide_eq_true (by omega)
        have HBB : Aside0 (b + 1 ≤ s + 3 ∧ b ≤ 4) := ⟨by omega, by have := HS2.out; omega⟩
        clear ht hb
        go_wp2
        clear d1
        go_loopw [20] (fun qv wr => ∃ (q : Nat) (f : Fr), q ≤ c ∧ qv = .int .i64 q ∧ Aside0 (WI w wr ps wc f g N by_ 24 (32 + 32 * b + 16 * q)) ∧ Aside0 (FG f ∧ ga f.L 2 = i)) (fun qv _ => (c - intOf qv).toNat)
        case atStart => exact ⟨0, f, by omega, rfl, HH, HF⟩
        case round =>
         obtain ⟨q, f, hq, rfl, HH2, HF2⟩ := hrel
         clear HH HF
         have HH := HH2
         have HF := HF2
         clear HH2 HF2
         by_cases ht : q < c
         ·have HQQ : Aside0 (q + 1 ≤ c ∧ q ≤ 1) := ⟨by omega, by have := HS2.out; omega⟩
          clear hq
          obtain ⟨x, hx, hx0⟩ := HW.out.fi (q * 5 + b) (by have := HQQ.out; have := HBB.out; omega)
          have hcell := HH.out.fi.wish hx
          have i1 : (0 : Int) ≤ (q : Int) := by omega
          have i2 : (q : Int) < 2 := by have := HQQ.out; omega
          have i3 : (0 : Int) ≤ (b : Int) := by omega
          have i4 : (b : Int) < 5 := by have := HBB.out; omega
          have hx1 : wr.cell? ⟨w.heap.size + 1, 14 + q * 5 + b, none⟩ = some (.int .u8 x) := by rw [Nat.add_assoc]; exact hcell
          have hP0 : ¬ P = 0 := by have := HPB.out; omega
          obtain ⟨Y, hY, hY2⟩ : ∃ Y, x.tmod P = Y ∧ 0 ≤ Y ∧ Y < P := ⟨_, rfl, by rw [Int.tmod_eq_emod_of_nonneg hx0.1]; exact Int.emod_nonneg _ hP0, by rw [Int.tmod_eq_emod_of_nonneg hx0.1]; exact Int.emod_lt_of_pos _ (by have := HPB.out; omega)⟩
          have HY := Aside0.mk hY2
          have wx : wrap64 x = x := sw64 (by omega) (by omega)
          have wxb : IntKind.i64.wrap x = x := by rw [i64_w]; exact wx
          have hk1 := HH.out.fi.cellQ HQQ.out.2 HBB.out.2
          have hf1 := HH.out.fi.frozen (15 + q * 5 + b)
          clear hx hcell hx0 hY2
          go_wp2
          refine wp_region_any (by kernel_rfl) ?_
          change wpAny _ _ _ _ _ _ _ (World.drew _)
          refine zT (v := ?_) 0 rfl ?h ?_
          case h => (intro w1; go_simp; (try with_reducible rfl))
          (try simp only [Act.put, zA1, zA2, zA3])
          refine zT (v := ?_) 1 rfl ?h ?_
          case h => (intro w1; go_simp; (try with_reducible rfl))
          (try simp only [Act.put, zA1, zA2, zA3])
          refine zT (v := ?_) 2 rfl ?h ?_
          case h => (intro w1; go_simp; (try with_reducible rfl))
          (try simp only [Act.put, zA1, zA2, zA3])
          refine zT (v := ?_) 3 rfl ?h ?_
          case h => (intro w1; go_simp; (try with_reducible rfl))
          (try simp only [Act.put, zA1, zA2, zA3])
          refine zT (v := ?_) 4 rfl ?h ?_
          case h => (intro w1; go_simp; (try with_reducible rfl))
          (try simp only [Act.put, zA1, zA2, zA3])
          refine zT (v := ?_) 5 rfl ?h ?_
          case h => (intro w1; go_simp; (try with_reducible rfl))
          (try simp only [Act.put, zA1, zA2, zA3])
          refine zT (v := ?_) 6 rfl ?h ?_
          case h => (intro w1; go_simp; (try with_reducible rfl))
          (try simp only [Act.put, zA1, zA2, zA3])
          refine zT (v := ?_) 9 rfl ?h ?_
          case h => (intro w1; go_simp; (try with_reducible rfl))
          (try simp only [Act.put, zA1, zA2, zA3])
          refine zT (v := ?_) 11 rfl ?h ?_
          case h => (intro w1; go_simp; (try with_reducible rfl))
          (try simp only [Act.put, zA1, zA2, zA3])
          refine zT (v := ?_) 12 rfl ?h ?_
          case h => (intro w1; go_simp; (try with_reducible rfl))
          (try simp only [Act.put, zA1, zA2, zA3])
          refine zO 7 rfl fun K hK => ?_
          go_simp
          refine hK _ _ ?_
          clear hK K
          (try simp only [Act.put, zA1, zA2, zA3])
          refine zT (v := ?_) 8 rfl ?h ?_
          case h => (intro w1; go_simp; (try with_reducible rfl))
          (try simp only [Act.put, zA1, zA2, zA3])
          refine zT (v := ?_) 10 rfl ?h ?_
          case h => (intro w1; go_simp; (try with_reducible rfl))
          (try simp only [Act.put, zA1, zA2, zA3])
          refine zT (v := ?_) 13 rfl ?h ?_
          case h => (intro w1; go_simp; (try with_reducible rfl))
          (try simp only [Act.put, zA1, zA2, zA3])
          refine zO 14 rfl fun K hK => ?_
          go_simp
          refine hK _ _ ?_
          clear hK K
          (try simp only [Act.put, zA1, zA2, zA3])
          refine wpAny_done (by kernel_rfl) ?_ _
          go_wp2
          have HH1 := Aside0.mk ((HH.out.put (p := ⟨w.heap.size + 1 + 1 + 1, 15 + q * 5 + b, none⟩) rfl (HH.out.fi.setQ q b Y)).below (drew_self _))
          have HF1 : Aside0 (FG (f.setL (13 + (q * 5 + b)) Y) ∧ ga (f.setL (13 + (q * 5 + b)) Y).L 2 = i) := ⟨HF.out.1.set (by omega) _, (ga_ne (by omega) _).trans HF.out.2⟩
          have hcq : ga (f.setL (13 + (q * 5 + b)) Y).L (13 + (q * 5 + b)) = Y := (at_put HH.out.fi.fl (by have := HQQ.out; have := HBB.out; omega) _ _).trans (if_pos rfl)
          clear HH HF hk1 hf1 hx1 wx wxb hY
          generalize f.setL (13 + (q * 5 + b)) Y = f3 at HH1 HF1 hcq
          obtain ⟨wq, hwq⟩ : ∃ x, (wr.setCell ⟨w.heap.size + 1 + 1 + 1, 15 + q * 5 + b, none⟩ (.int .i64 Y)).drew = x := ⟨_, rfl⟩
          rw [hwq] at HH1 ⊢
          clear hwq
          have hk2 := HH1.out.fi.cellQ HQQ.out.2 HBB.out.2
          rw [hcq] at hk2
          have hc4 : wq.cell? ⟨w.heap.size + 1 + 1 + 1, 4, none⟩ = some (.int .i64 i) := (HH1.out.fi.cell (j := 2) (by decide)).trans (by rw [HF1.out.2])
          have HRL : Aside0 (32 + 32 * b + 16 * q ≤ 40000) := ⟨by have := HQQ.out; have := HBB.out; omega⟩
          have HY3 : Aside0 (Y < 2 ^ i) := ⟨by rw [← HPP.out]; exact HY.out.2⟩
          clear hcq
          refine wp_region_any (by kernel_rfl) ?_
          change wpAny _ _ _ _ _ _ _ (World.drew _)
          refine zT (v := ?_) 0 rfl ?h ?_
          case h => (intro w1; go_simp; (try with_reducible rfl))
          (try simp only [Act.put, zA1, zA2, zA3])
          refine zT (v := ?_) 1 rfl ?h ?_
          case h => (intro w1; go_simp; (try with_reducible rfl))
          (try simp only [Act.put, zA1, zA2, zA3])
          refine zT (v := ?_) 2 rfl ?h ?_
          case h => (intro w1; go_simp; (try with_reducible rfl))
          (try simp only [Act.put, zA1, zA2, zA3])
          refine zT (v := ?_) 3 rfl ?h ?_
          case h => (intro w1; go_simp; (try with_reducible rfl))
          (try simp only [Act.put, zA1, zA2, zA3])
          refine zT (v := ?_) 4 rfl ?h ?_
          case h => (intro w1; go_simp; (try with_reducible rfl))
          (try simp only [Act.put, zA1, zA2, zA3])
          refine zT (v := ?_) 5 rfl ?h ?_
          case h => (intro w1; go_simp; (try with_reducible rfl))
          (try simp only [Act.put, zA1, zA2, zA3])
          refine zT (v := ?_) 7 rfl ?h ?_
          case h => (intro w1; go_simp; (try with_reducible rfl))
          (try simp only [Act.put, zA1, zA2, zA3])
          refine wpAny_ready (rs := [6, 8]) (by kernel_rfl) (by simp) ?_
          refine AllReady.cons (o := ⟨_, _, _, _, _, _⟩) rfl (fun K hK => ?_) ?_
          ·go_simp
           refine hK _ _ ?_
           clear hK K
           (try simp only [Act.put, zA1, zA2, zA3])
           refine zO 8 rfl fun K hK => ?_
           go_simp
           refine hK _ _ ?_
           clear hK K
           (try simp only [Act.put, zA1, zA2, zA3])
           refine zO 9 rfl fun K hK => ?_
           refine goes_ (N := some 144) Tryd.func56 (by kernel_rfl) rfl #[.pointer (some ⟨g, 0, none⟩), .int .i64 Y, .int .i64 i] (by rfl) rfl rfl (by first | rfl | (simp only [List.map_toArray, List.map_cons, List.map_nil]; rfl)) ?_
           (with_reducible refine ((HH1.out.below (drew_self _)).raw HY.out.1 HY3.out HR3.out HRL.out).mono ?_); rintro e w8 ⟨rfl, hi8⟩
           refine ⟨_, rfl, ?_⟩
           refine hK _ _ ?_
           clear hK K
           (try simp only [Act.put, zA1, zA2, zA3])
           refine wpAny_done (by kernel_rfl) ?_ _
           go_wp2
           go_roundw
           case rel => exact ⟨q + 1, _, HQQ.out.1, congrArg (Value.int .i64) (by omega), ⟨hi8.up (Nat.le_refl _) (by omega)⟩, HF1⟩
           case measure => exact meas_q HQQ.out.1
          refine AllReady.cons (o := ⟨_, _, _, _, _, _⟩) rfl (fun K hK => ?_) ?_
          ·go_simp
           refine hK _ _ ?_
           clear hK K
           (try simp only [Act.put, zA1, zA2, zA3])
           refine zO 6 rfl fun K hK => ?_
           go_simp
           refine hK _ _ ?_
           clear hK K
           (try simp only [Act.put, zA1, zA2, zA3])
           refine zO 9 rfl fun K hK => ?_
           refine goes_ (N := some 144) Tryd.func56 (by kernel_rfl) rfl #[.pointer (some ⟨g, 0, none⟩), .int .i64 Y, .int .i64 i] (by rfl) rfl rfl (by first | rfl | (simp only [List.map_toArray, List.map_cons, List.map_nil]; rfl)) ?_
           (with_reducible refine ((HH1.out.below (drew_self _)).raw HY.out.1 HY3.out HR3.out HRL.out).mono ?_); rintro e w8 ⟨rfl, hi8⟩
           refine ⟨_, rfl, ?_⟩
           refine hK _ _ ?_
           clear hK K
           (try simp only [Act.put, zA1, zA2, zA3])
           refine wpAny_done (by kernel_rfl) ?_ _
           go_wp2
           go_roundw
           case rel => exact ⟨q + 1, _, HQQ.out.1, congrArg (Value.int .i64) (by omega), ⟨hi8.up (Nat.le_refl _) (by omega)⟩, HF1⟩
           case measure => exact meas_q HQQ.out.1
          exact AllReady.nil
         ·obtain rfl : q = c := by omega
          clear ht hq
          have i3 : (0 : Int) ≤ (b : Int) := by omega
          have i4 : (b : Int) < 5 := by have := HBB.out; omega
          go_wp2
          go_roundw
          case rel => exact ⟨b + 1, f, HBB.out.1, congrArg (Value.int .i64) (by omega), ⟨HH.out.up (Nat.le_refl _) (by have := HS2.out; omega)⟩, HF⟩
          case measure => exact meas_b HBB.out.1
       ·obtain rfl : b = s + 3 := by omega
        have d1 : decide ((s : Int) + 3 < (s : Int) + 3) = false := decide_eq_false (by omega)
        clear ht hb
        go_wp2
        obtain ⟨T, hT⟩ : ∃ T : Nat, ga f.L 1 = (T : Int) := ⟨(ga f.L 1).toNat, by have := HF.out.1.2; omega⟩
        have HT7 : Aside0 (T ≤ 7) := ⟨by have := HF.out.1.2; omega⟩
        have hc3 : wr.cell? ⟨w.heap.size + 1 + 1 + 1, 3, none⟩ = some (.int .i64 (T : Int)) := (HH.out.fi.cell (j := 1) (by decide)).trans (by rw [hT])
        have HT := Aside0.mk hT
        have HRL : Aside0 (32 + 32 * (s + 3) ≤ 40000 ∧ 0 ≤ by_ ∧ by_ ≤ 10000) := ⟨by have := HS2.out; omega, by have := HBY.out; omega, by have := HBY.out; omega⟩
        clear hT
        refine wp_region_held_drew (S := (fun w1 => w1.cell? ⟨w.heap.size + 1 + 1 + 1, 3, none⟩ = some (.int .i64 (T : Int)))) (by kernel_rfl) ?hS0 (fun hHeld => ?_)
        case hS0 => exact hc3
        refine zTH (v := ?_) 0 rfl hHeld ?h ?_
        case h => (intro w1 h1; go_simp; (try with_reducible rfl))
        (try simp only [Act.put, zA1, zA2, zA3])
        refine zTH (v := ?_) 1 rfl hHeld ?h ?_
        case h => (intro w1 h1; go_simp; (try with_reducible rfl))
        (try simp only [Act.put, zA1, zA2, zA3])
        refine zTH (v := ?_) 2 rfl hHeld ?h ?_
        case h => (intro w1 h1; go_simp; (try with_reducible rfl))
        (try simp only [Act.put, zA1, zA2, zA3])
        refine zTH (v := ?_) 4 rfl hHeld ?h ?_
        case h => (intro w1 h1; go_simp; (try with_reducible rfl))
        (try simp only [Act.put, zA1, zA2, zA3])
        refine zTH (v := ?_) 3 rfl hHeld ?h ?_
        case h => (intro w1 h1; go_simp; (try with_reducible rfl))
        (try simp only [Act.put, zA1, zA2, zA3])
        refine zOH 5 rfl fun K hK => ?_
        refine goes_ (N := some 150) Tryd.func55 (by kernel_rfl) rfl #[.pointer (some ⟨g, 0, none⟩)] (by rfl) rfl rfl (by first | rfl | (simp only [List.map_toArray, List.map_cons, List.map_nil]; rfl)) ?_
        (with_reducible refine ((HH.out.below (drew_self _)).left HRL.out.2 (by decide) HRL.out.1).mono ?_); rintro e w8 ⟨⟨L9, rfl, hL9⟩, hb9⟩
        refine ⟨_, rfl, ?_⟩
        refine hK.out _ _ ?hSn63 (fun hHeld => ?_)
        case hSn63 => exact pw_cell_below hb9 hHeld
        clear hK K
        (try simp only [Act.put, zA1, zA2, zA3])
        have HH9 := (HH.out.below (drew_self _)).below hb9
        refine zTH (v := ?_) 6 rfl hHeld ?h ?_
        case h => (intro w1 h1; go_simp; (try with_reducible rfl))
        (try simp only [Act.put, zA1, zA2, zA3])
        refine zOH 7 rfl fun K hK => ?_
        refine goes_ (N := some 152) Tryd.func57 (by kernel_rfl) rfl #[.int .i64 s, .int .i64 c, .int .i64 T, .int .i64 _] (by rfl) rfl rfl (by first | rfl | (simp only [List.map_toArray, List.map_cons, List.map_nil]; rfl)) ?_
        (with_reducible refine (alloc_call (ch := c) (tr := T) _ HS2.out.1 HT7.out _).mono ?_); rintro e w9 ⟨ks, hkl, hkb, rfl, hb10⟩
        refine ⟨_, rfl, ?_⟩
        refine hK.out _ _ ?hSn65 (fun hHeld => ?_)
        case hSn65 => exact pw_cell_below hb10 hHeld
        clear hK K
        (try simp only [Act.put, zA1, zA2, zA3])
        have hfi := HH9.fi.below hb10
        refine zTH (v := ?_) 8 rfl hHeld ?h ?_
        case h => (intro w1 h1; go_simp; (try with_reducible rfl))
        (try simp only [Act.put, zA1, zA2, zA3])
        refine zOH 9 rfl fun K hK => ?_
        rw [if_pos (by rfl)]
        refine wp_store_mid 54 (.tmp 153) (.tmp 152) rfl (w.heap.size + 1 + 1 + 1) 25 (ks.map (Value.int .i64)).toArray rfl rfl (hfi.thereK hkl) (by rw [row_sz hkl]; kernel_rfl) (row_one _) ?_
        refine hK.out _ _ ?hSn67 (fun hHeld => ?_)
        case hSn67 => exact ((hfi.setK hkl).cell (j := 1) (by decide)).trans (by rw [setK_1, HT.out])
        clear hK K
        (try simp only [Act.put, zA1, zA2, zA3])
        refine wpAnyH_done (by kernel_rfl) ?_ _
        have HI := Aside0.mk (hfi.setK hkl)
        have HX := Aside0.mk (FX.start (f := f.setK ks) (s := s) (c := c) (fun j hj => by rw [setK_at f hfi.fl ks j hj]; exact hkb j hj))
        clear HH HF HT HT7 HPB hfi hkb HH9 hb9 hb10 HRL hHeld hc3
        generalize f.setK ks = f4 at HI HX
        obtain ⟨wq, hwq⟩ : ∃ x, w9.setCells (w.heap.size + 1 + 1 + 1) 25 (ks.map (Value.int .i64)).toArray.toList = x := ⟨_, rfl⟩
        rw [hwq] at HI ⊢
        clear hwq hkl
        go_wp2
        go_loopw [21] (fun bv wr => ∃ (b : Nat) (f : Fr), b ≤ s + 3 ∧ bv = .int .i64 b ∧ Aside0 (FI w wr ps wc f) ∧ Aside0 (FX f s c b 0)) (fun bv _ => (s + 3 - intOf bv).toNat)
        case atStart => exact ⟨0, f4, by omega, rfl, HI, HX⟩
        case round =>
         obtain ⟨b, f, hb, rfl, HI2, HX2⟩ := hrel
         clear HI HX
         have HI := HI2
         have HX := HX2
         clear HI2 HX2
         by_cases ht : b < s + 3
         ·have d1 : decide ((b : Int) < (s : Int) + 3) = true := decide_eq_true (by omega)
          have HBB : Aside0 (b + 1 ≤ s + 3 ∧ b ≤ 4) := ⟨by omega, by have := HS2.out; omega⟩
          have HC58 := Aside0.mk (band_call HBB.out.2)
          rw [bf_is HBB.out.2] at HC58
          clear ht hb
          go_wp2_with (first
           | (go_at_call 58; (with_reducible refine (HC58.out _).mono ?_); rintro e w10 ⟨rfl, hb1⟩; have HI1 := Aside0.mk (HI.out.below hb1); clear HI hb1; have HI := HI1; clear HI1))
          clear d1
          go_loopw [24] (fun qv wr => ∃ (q : Nat) (f : Fr), q ≤ c ∧ qv = .int .i64 q ∧ Aside0 (FI w wr ps wc f) ∧ Aside0 (FX f s c b q)) (fun qv _ => (c - intOf qv).toNat)
          case atStart => exact ⟨0, f, by omega, rfl, HI, HX⟩
          case round =>
           obtain ⟨q, f, hq, rfl, HI2, HX2⟩ := hrel
           clear HI HX
           have HI := HI2
           have HX := HX2
           clear HI2 HX2
           by_cases ht : q < c
           ·have HQQ : Aside0 (q + 1 ≤ c ∧ q ≤ 1) := ⟨by omega, by have := HS2.out; omega⟩
            clear hq
            obtain ⟨x, hx, hx0⟩ := HW.out.ra (q * 5 + b) (by have := HQQ.out; have := HBB.out; omega)
            have hcell := HI.out.wish hx
            have i1 : (0 : Int) ≤ (q : Int) := by omega
            have i2 : (q : Int) < 2 := by have := HQQ.out; omega
            have i3 : (0 : Int) ≤ (b : Int) := by omega
            have i4 : (b : Int) < 5 := by have := HBB.out; omega
            have hx1 : wr.cell? ⟨w.heap.size + 1, 24 + q * 5 + b, none⟩ = some (.int .u64 x) := by rw [Nat.add_assoc]; exact hcell
            obtain ⟨Kb, hKb⟩ : ∃ K : Nat, ga f.L (23 + b) = (K : Int) := ⟨(ga f.L (23 + b)).toNat, by have := HX.out.k b (by have := HBB.out; omega); omega⟩
            have hK32 : Kb ≤ 32 := by have := HX.out.k b (by have := HBB.out; omega); omega
            have hk1 := HI.out.cellK HBB.out.2
            rw [hKb] at hk1
            obtain ⟨l, hl1, hl2, hl3⟩ := wish_call HBB.out.2 hK32 hx0.1 hx0.2
            have HL : Aside0 (l.length = bw b ∧ asum l = ga f.L (23 + b)) := ⟨hl1, hl2.trans hKb.symm⟩
            have HC59 := Aside0.mk hl3
            clear hx hcell hx0 hKb hK32 hl1 hl2 hl3
            go_wp2
            refine wp_region_any (by kernel_rfl) ?_
            change wpAny _ _ _ _ _ _ _ (World.drew _)
            refine zT (v := ?_) 0 rfl ?h ?_
            case h => (intro w1; go_simp; (try with_reducible rfl))
            (try simp only [Act.put, zA1, zA2, zA3])
            refine zT (v := ?_) 1 rfl ?h ?_
            case h => (intro w1; go_simp; (try with_reducible rfl))
            (try simp only [Act.put, zA1, zA2, zA3])
            refine zT (v := ?_) 2 rfl ?h ?_
            case h => (intro w1; go_simp; (try with_reducible rfl))
            (try simp only [Act.put, zA1, zA2, zA3])
            refine zT (v := ?_) 3 rfl ?h ?_
            case h => (intro w1; go_simp; (try with_reducible rfl))
            (try simp only [Act.put, zA1, zA2, zA3])
            refine zT (v := ?_) 5 rfl ?h ?_
            case h => (intro w1; go_simp; (try with_reducible rfl))
            (try simp only [Act.put, zA1, zA2, zA3])
            refine zT (v := ?_) 6 rfl ?h ?_
            case h => (intro w1; go_simp; (try with_reducible rfl))
            (try simp only [Act.put, zA1, zA2, zA3])
            refine zT (v := ?_) 7 rfl ?h ?_
            case h => (intro w1; go_simp; (try with_reducible rfl))
            (try simp only [Act.put, zA1, zA2, zA3])
            refine zT (v := ?_) 8 rfl ?h ?_
            case h => (intro w1; go_simp; (try with_reducible rfl))
            (try simp only [Act.put, zA1, zA2, zA3])
            refine zT (v := ?_) 9 rfl ?h ?_
            case h => (intro w1; go_simp; (try with_reducible rfl))
            (try simp only [Act.put, zA1, zA2, zA3])
            refine wpAny_ready (rs := [4, 10]) (by kernel_rfl) (by simp) ?_
            refine AllReady.cons (o := ⟨_, _, _, _, _, _⟩) rfl (fun K hK => ?_) ?_
            ·go_simp
             refine hK _ _ ?_
             clear hK K
             (try simp only [Act.put, zA1, zA2, zA3])
             refine zO 10 rfl fun K hK => ?_
             go_simp
             refine hK _ _ ?_
             clear hK K
             (try simp only [Act.put, zA1, zA2, zA3])
             refine zO 11 rfl fun K hK => ?_
             refine goes_ (N := some 180) Tryd.func59 (by kernel_rfl) rfl #[.int .i64 (bw b : Int), .int .i64 (Kb : Int), .int .u64 x] (by rfl) rfl rfl (by first | rfl | (simp only [List.map_toArray, List.map_cons, List.map_nil]; rfl)) ?_
             (with_reducible refine (HC59.out _).mono ?_); rintro e w11 ⟨v, rfl, hv, hb11⟩
             refine ⟨_, rfl, ?_⟩
             refine hK _ _ ?_
             clear hK K
             (try simp only [Act.put, zA1, zA2, zA3])
             obtain ⟨gv, cv, rfl⟩ := RfWalk.R_openI hv (by rw [HL.out.1]; have := bfN_in HBB.out.2; omega)
             refine zT (v := ?_) 12 rfl ?h ?_
             case h => (intro w1; go_simp; (try with_reducible rfl))
             (try simp only [Act.put, zA1, zA2, zA3])
             refine wpAny_done (by kernel_rfl) ?_ _
             have HI1 := Aside0.mk ((HI.out.below (drew_self _)).below hb11)
             obtain ⟨B0, HV⟩ : ∃ B0, Aside0 (Kd.R (Kd.int .i64) 3 w11 B0 (fun _ => True) (.slice (some ⟨gv, 0, none⟩) l.length cv) l) := ⟨_, ⟨hv⟩⟩
             clear HI hv hb11 hx1 hk1 HC59
             have HI := HI1
             clear HI1
             rw [HL.out.1] at HV ⊢
             go_wp2
             go_loopw [26] (fun iv wr => ∃ (i : Nat) (f : Fr), i ≤ bw b ∧ iv = .int .i64 i ∧ Aside0 (FI w wr ps wc f) ∧ Aside0 (FX f s c b q) ∧ Aside0 (asum l = ga f.L (23 + b)) ∧ Aside0 (∀ t, t < i → ga f.L (28 + (q * 32 + (bfN b + t))) = ga l t) ∧ Aside0 (Kd.R (Kd.int .i64) 3 wr B0 (fun _ => True) (.slice (some ⟨gv, 0, none⟩) (bw b) cv) l)) (fun iv _ => ((bw b : Int) - intOf iv).toNat)
             case atStart => exact ⟨0, f, by omega, rfl, HI, HX, ⟨HL.out.2⟩, ⟨fun t ht => by omega⟩, HV⟩
             case round =>
              obtain ⟨i, f, hi, rfl, HI2, HX2, HA, HT, HV2⟩ := hrel
              clear HI HX HV
              have HI := HI2
              have HX := HX2
              have HV := HV2
              clear HI2 HX2 HV2
              by_cases ht3 : i < bw b
              ·have hrc := Kd.R_cell (xs := l) (0 : Int) (by rw [HL.out.1]; exact HV.out) (i : Int) (by omega) (by rw [HL.out.1]; omega)
               rw [show rdOf (0 : Int) l (i : Int) = ga l i by unfold rdOf ga; rw [Int.toNat_natCast], Int.toNat_natCast] at hrc
               obtain ⟨hck, hfk⟩ := hrc
               obtain ⟨Y, hY⟩ : ∃ Y, ga l i = Y := ⟨_, rfl⟩
               rw [hY] at hck
               have hbn := bfN_in HBB.out.2
               have h1 : (0 : Int) ≤ (i : Int) := by omega
               have h2 : (i : Int) < (bw b : Int) := by omega
               have j0 : IntKind.i64.wrap ((bfN b : Int) + (i : Int)) = (bfN b : Int) + (i : Int) := by rw [i64_w]; exact sw64 (by omega) (by omega)
               have j1 : (0 : Int) ≤ (bfN b : Int) + (i : Int) := by omega
               have j2 : (bfN b : Int) + (i : Int) < 32 := by omega
               obtain ⟨j, hj⟩ : ∃ j, ((bfN b : Int) + (i : Int)).toNat = j := ⟨_, rfl⟩
               have HJ : Aside0 (j = bfN b + i) := ⟨by omega⟩
               have hkx := HI.out.cellX HQQ.out.2 (j := j) (by omega)
               have hfx := HI.out.frozen (30 + q * 32 + j)
               have hi16 : (i : Int) < 16 := by omega
               have HIB : Aside0 (i + 1 ≤ bw b) := ⟨ht3⟩
               clear hi hbn
               go_wp2
               refine wp_region_any (by kernel_rfl) ?_
               change wpAny _ _ _ _ _ _ _ (World.drew _)
               refine zT (v := ?_) 0 rfl ?h ?_
               case h => (intro w1; go_simp; (try with_reducible rfl))
               (try simp only [Act.put, zA1, zA2, zA3])
               refine zT (v := ?_) 1 rfl ?h ?_
               case h => (intro w1; go_simp; (try with_reducible rfl))
               (try simp only [Act.put, zA1, zA2, zA3])
               refine zT (v := ?_) 2 rfl ?h ?_
               case h => (intro w1; go_simp; (try with_reducible rfl))
               (try simp only [Act.put, zA1, zA2, zA3])
               refine zT (v := ?_) 3 rfl ?h ?_
               case h => (intro w1; go_simp; (try with_reducible rfl))
               (try simp only [Act.put, zA1, zA2, zA3])
               refine zT (v := ?_) 4 rfl ?h ?_
               case h => (intro w1; go_simp; (try with_reducible rfl))
               (try simp only [Act.put, zA1, zA2, zA3])
               refine zT (v := ?_) 5 rfl ?h ?_
               case h => (intro w1; go_simp; (try with_reducible rfl))
               (try simp only [Act.put, zA1, zA2, zA3])
               refine zT (v := ?_) 6 rfl ?h ?_
               case h => (intro w1; go_simp; (try with_reducible rfl))
               (try simp only [Act.put, zA1, zA2, zA3])
               refine zT (v := ?_) 8 rfl ?h ?_
               case h => (intro w1; go_simp; (try with_reducible rfl))
               (try simp only [Act.put, zA1, zA2, zA3])
               refine zT (v := ?_) 9 rfl ?h ?_
               case h => (intro w1; go_simp; (try with_reducible rfl))
               (try simp only [Act.put, zA1, zA2, zA3])
               refine zO 7 rfl fun K hK => ?_
               go_simp
               refine hK _ _ ?_
               clear hK K
               (try simp only [Act.put, zA1, zA2, zA3])
               refine zT (v := ?_) 10 rfl ?h ?_
               case h => (intro w1; go_simp; (try with_reducible rfl))
               (try simp only [Act.put, zA1, zA2, zA3])
               refine zO 11 rfl fun K hK => ?_
               go_simp
               refine hK _ _ ?_
               clear hK K
               (try simp only [Act.put, zA1, zA2, zA3])
               refine wpAny_done (by kernel_rfl) ?_ _
               go_wp2
               go_roundw
               case rel => exact ⟨i + 1, f.setL (28 + (q * 32 + j)) Y, HIB.out, congrArg (Value.int .i64) (by omega), ⟨(HI.out.setX q j Y).below (drew_self _)⟩, ⟨by rw [HJ.out]; exact HX.out.set HBB.out.2 HQQ.out.2 HS2.out.2.2 HIB.out Y⟩, ⟨by rw [HJ.out]; exact HA.out.trans (ga_ne (by have := HBB.out; omega) Y).symm⟩, ⟨by rw [HJ.out]; exact xs_next2 HI.out.fl HT.out (by have := bfN_in HBB.out.2; have := HIB.out; have := HQQ.out; omega) hY⟩, ⟨Kd.R_below (Kd.R_set HV.out HI.out.fr (by simp [Kd.int, Kd.scalar]) _ _) (drew_self _)⟩⟩
               case measure => exact meas_q HIB.out
              ·obtain rfl : i = bw b := by omega
               clear ht3 hi
               go_wp2
               go_roundw
               case rel => repeat (first | exact ⟨⟨q + 1, f, HQQ.out.1, congrArg (Value.int .i64) (by omega), HI, ⟨HX.out.next HL.out.1 HA.out HT.out⟩⟩, rfl⟩ | exact ⟨q + 1, f, HQQ.out.1, congrArg (Value.int .i64) (by omega), HI, ⟨HX.out.next HL.out.1 HA.out HT.out⟩⟩ | apply Exists.intro)
               case measure => exact meas_q HQQ.out.1
            refine AllReady.cons (o := ⟨_, _, _, _, _, _⟩) rfl (fun K hK => ?_) ?_
            ·go_simp
             refine hK _ _ ?_
             clear hK K
             (try simp only [Act.put, zA1, zA2, zA3])
             refine zO 4 rfl fun K hK => ?_
             go_simp
             refine hK _ _ ?_
             clear hK K
             (try simp only [Act.put, zA1, zA2, zA3])
             refine zO 11 rfl fun K hK => ?_
             refine goes_ (N := some 180) Tryd.func59 (by kernel_rfl) rfl #[.int .i64 (bw b : Int), .int .i64 (Kb : Int), .int .u64 x] (by rfl) rfl rfl (by first | rfl | (simp only [List.map_toArray, List.map_cons, List.map_nil]; rfl)) ?_
             (with_reducible refine (HC59.out _).mono ?_); rintro e w11 ⟨v, rfl, hv, hb11⟩
             refine ⟨_, rfl, ?_⟩
             refine hK _ _ ?_
             clear hK K
             (try simp only [Act.put, zA1, zA2, zA3])
             obtain ⟨gv, cv, rfl⟩ := RfWalk.R_openI hv (by rw [HL.out.1]; have := bfN_in HBB.out.2; omega)
             refine zT (v := ?_) 12 rfl ?h ?_
             case h => (intro w1; go_simp; (try with_reducible rfl))
             (try simp only [Act.put, zA1, zA2, zA3])
             refine wpAny_done (by kernel_rfl) ?_ _
             have HI1 := Aside0.mk ((HI.out.below (drew_self _)).below hb11)
             obtain ⟨B0, HV⟩ : ∃ B0, Aside0 (Kd.R (Kd.int .i64) 3 w11 B0 (fun _ => True) (.slice (some ⟨gv, 0, none⟩) l.length cv) l) := ⟨_, ⟨hv⟩⟩
             clear HI hv hb11 hx1 hk1 HC59
             have HI := HI1
             clear HI1
             rw [HL.out.1] at HV ⊢
             go_wp2
             go_loopw [26] (fun iv wr => ∃ (i : Nat) (f : Fr), i ≤ bw b ∧ iv = .int .i64 i ∧ Aside0 (FI w wr ps wc f) ∧ Aside0 (FX f s c b q) ∧ Aside0 (asum l = ga f.L (23 + b)) ∧ Aside0 (∀ t, t < i → ga f.L (28 + (q * 32 + (bfN b + t))) = ga l t) ∧ Aside0 (Kd.R (Kd.int .i64) 3 wr B0 (fun _ => True) (.slice (some ⟨gv, 0, none⟩) (bw b) cv) l)) (fun iv _ => ((bw b : Int) - intOf iv).toNat)
             case atStart => exact ⟨0, f, by omega, rfl, HI, HX, ⟨HL.out.2⟩, ⟨fun t ht => by omega⟩, HV⟩
             case round =>
              obtain ⟨i, f, hi, rfl, HI2, HX2, HA, HT, HV2⟩ := hrel
              clear HI HX HV
              have HI := HI2
              have HX := HX2
              have HV := HV2
              clear HI2 HX2 HV2
              by_cases ht3 : i < bw b
              ·have hrc := Kd.R_cell (xs := l) (0 : Int) (by rw [HL.out.1]; exact HV.out) (i : Int) (by omega) (by rw [HL.out.1]; omega)
               rw [show rdOf (0 : Int) l (i : Int) = ga l i by unfold rdOf ga; rw [Int.toNat_natCast], Int.toNat_natCast] at hrc
               obtain ⟨hck, hfk⟩ := hrc
               obtain ⟨Y, hY⟩ : ∃ Y, ga l i = Y := ⟨_, rfl⟩
               rw [hY] at hck
               have hbn := bfN_in HBB.out.2
               have h1 : (0 : Int) ≤ (i : Int) := by omega
               have h2 : (i : Int) < (bw b : Int) := by omega
               have j0 : IntKind.i64.wrap ((bfN b : Int) + (i : Int)) = (bfN b : Int) + (i : Int) := by rw [i64_w]; exact sw64 (by omega) (by omega)
               have j1 : (0 : Int) ≤ (bfN b : Int) + (i : Int) := by omega
               have j2 : (bfN b : Int) + (i : Int) < 32 := by omega
               obtain ⟨j, hj⟩ : ∃ j, ((bfN b : Int) + (i : Int)).toNat = j := ⟨_, rfl⟩
               have HJ : Aside0 (j = bfN b + i) := ⟨by omega⟩
               have hkx := HI.out.cellX HQQ.out.2 (j := j) (by omega)
               have hfx := HI.out.frozen (30 + q * 32 + j)
               have hi16 : (i : Int) < 16 := by omega
               have HIB : Aside0 (i + 1 ≤ bw b) := ⟨ht3⟩
               clear hi hbn
               go_wp2
               refine wp_region_any (by kernel_rfl) ?_
               change wpAny _ _ _ _ _ _ _ (World.drew _)
               refine zT (v := ?_) 0 rfl ?h ?_
               case h => (intro w1; go_simp; (try with_reducible rfl))
               (try simp only [Act.put, zA1, zA2, zA3])
               refine zT (v := ?_) 1 rfl ?h ?_
               case h => (intro w1; go_simp; (try with_reducible rfl))
               (try simp only [Act.put, zA1, zA2, zA3])
               refine zT (v := ?_) 2 rfl ?h ?_
               case h => (intro w1; go_simp; (try with_reducible rfl))
               (try simp only [Act.put, zA1, zA2, zA3])
               refine zT (v := ?_) 3 rfl ?h ?_
               case h => (intro w1; go_simp; (try with_reducible rfl))
               (try simp only [Act.put, zA1, zA2, zA3])
               refine zT (v := ?_) 4 rfl ?h ?_
               case h => (intro w1; go_simp; (try with_reducible rfl))
               (try simp only [Act.put, zA1, zA2, zA3])
               refine zT (v := ?_) 5 rfl ?h ?_
               case h => (intro w1; go_simp; (try with_reducible rfl))
               (try simp only [Act.put, zA1, zA2, zA3])
               refine zT (v := ?_) 6 rfl ?h ?_
               case h => (intro w1; go_simp; (try with_reducible rfl))
               (try simp only [Act.put, zA1, zA2, zA3])
               refine zT (v := ?_) 8 rfl ?h ?_
               case h => (intro w1; go_simp; (try with_reducible rfl))
               (try simp only [Act.put, zA1, zA2, zA3])
               refine zT (v := ?_) 9 rfl ?h ?_
               case h => (intro w1; go_simp; (try with_reducible rfl))
               (try simp only [Act.put, zA1, zA2, zA3])
               refine zO 7 rfl fun K hK => ?_
               go_simp
               refine hK _ _ ?_
               clear hK K
               (try simp only [Act.put, zA1, zA2, zA3])
               refine zT (v := ?_) 10 rfl ?h ?_
               case h => (intro w1; go_simp; (try with_reducible rfl))
               (try simp only [Act.put, zA1, zA2, zA3])
               refine zO 11 rfl fun K hK => ?_
               go_simp
               refine hK _ _ ?_
               clear hK K
               (try simp only [Act.put, zA1, zA2, zA3])
               refine wpAny_done (by kernel_rfl) ?_ _
               go_wp2
               go_roundw
               case rel => exact ⟨i + 1, f.setL (28 + (q * 32 + j)) Y, HIB.out, congrArg (Value.int .i64) (by omega), ⟨(HI.out.setX q j Y).below (drew_self _)⟩, ⟨by rw [HJ.out]; exact HX.out.set HBB.out.2 HQQ.out.2 HS2.out.2.2 HIB.out Y⟩, ⟨by rw [HJ.out]; exact HA.out.trans (ga_ne (by have := HBB.out; omega) Y).symm⟩, ⟨by rw [HJ.out]; exact xs_next2 HI.out.fl HT.out (by have := bfN_in HBB.out.2; have := HIB.out; have := HQQ.out; omega) hY⟩, ⟨Kd.R_below (Kd.R_set HV.out HI.out.fr (by simp [Kd.int, Kd.scalar]) _ _) (drew_self _)⟩⟩
               case measure => exact meas_q HIB.out
              ·obtain rfl : i = bw b := by omega
               clear ht3 hi
               go_wp2
               go_roundw
               case rel => repeat (first | exact ⟨⟨q + 1, f, HQQ.out.1, congrArg (Value.int .i64) (by omega), HI, ⟨HX.out.next HL.out.1 HA.out HT.out⟩⟩, rfl⟩ | exact ⟨q + 1, f, HQQ.out.1, congrArg (Value.int .i64) (by omega), HI, ⟨HX.out.next HL.out.1 HA.out HT.out⟩⟩ | apply Exists.intro)
               case measure => exact meas_q HQQ.out.1
            exact AllReady.nil
           ·obtain rfl : q = c := by omega
            clear ht hq
            have i3 : (0 : Int) ≤ (b : Int) := by omega
            have i4 : (b : Int) < 5 := by have := HBB.out; omega
            go_wp2
            go_roundw
            case rel => repeat (first | exact ⟨⟨b + 1, f, HBB.out.1, congrArg (Value.int .i64) (by omega), HI, ⟨HX.out.nextb⟩⟩, rfl⟩ | exact ⟨b + 1, f, HBB.out.1, congrArg (Value.int .i64) (by omega), HI, ⟨HX.out.nextb⟩⟩ | apply Exists.intro)
            case measure => exact meas_b HBB.out.1
         ·obtain rfl : b = s + 3 := by omega
          have d1 : decide ((s : Int) + 3 < (s : Int) + 3) = false := decide_eq_false (by omega)
          clear ht hb
          go_wp2_with (first
           | (refine wpList_load_row rfl 62 (.tmp 11) rfl (w.heap.size + 1 + 1 + 1) rfl 62 f.cells.toArray (0, 0) _ HI.out.fr Tryd.underlying62 rfl (fr_sz f HI.out.fl) ?_)
           | (refine wpList_store_row rfl 62 (.tmp 10) (.tmp 197) rfl (w.heap.size + 1 + 1) f.cells.toArray rfl rfl 62 _ HI.out.r (fr_sz f HI.out.fl) (by simp [Fr.cells, F0, HI.out.fl]) (fr_one f) ?_))
          refine bodyPost_ret (results_cell_row rfl _ _ (w.heap.size + 1 + 1) 62 _ _ _ rfl (setRow_heap _ _ _ _ _ _ HI.out.r) Tryd.underlying62 rfl (fr_sz f HI.out.fl)) rfl ?_
          exact ⟨f, HI.out.fl, .inr HX.out, rfl, below_setRow HI.out.b (by omega) _⟩
 ·go_enter Tryd.func19, Tryd.ntmps19
  go_wp2_with (first
   | ((with_reducible refine alloc_FI ps wc rfl rfl rfl ?_); intro W hfi; have c0 := hfi.wish HW.out.c0; have c1 := hfi.wish HW.out.c1; have c2 := hfi.wish HW.out.c2; have k0 := (blk_cell hfi.fr 0).trans F0.cells_0; have k1 := (blk_cell hfi.fr 1).trans F0.cells_1; have k2 := hfi.cell (j := 0) (by decide); have f0 := hfi.frozen 0; have f1 := hfi.frozen 1; have f2 := hfi.frozen 2; have HI3 := Aside0.mk (((hfi.set0 true).set1 it).setL 0 y); clear hfi)
   | (with_reducible refine alloc_to rfl 62 rfl _ zero62 ?_)
   | (refine wpList_load_row rfl 62 (.tmp 11) rfl (w.heap.size + 1 + 1 + 1) rfl 62 _ (0, 0) _ HI3.out.fr Tryd.underlying62 rfl (fr_sz _ HI3.out.fl) ?_)
   | (refine wpList_store_row rfl 62 (.tmp 10) (.tmp 40) rfl (w.heap.size + 1 + 1) _ rfl rfl 62 _ HI3.out.r (fr_sz _ HI3.out.fl) (by simp [Fr.cells, F0, Fr.setL]) (fr_one _) ?_))
  refine bodyPost_ret (results_cell_row rfl _ _ (w.heap.size + 1 + 1) 62 _ _ _ rfl (setRow_heap _ _ _ _ _ _ HI3.out.r) Tryd.underlying62 rfl (fr_sz _ HI3.out.fl)) rfl ?_
  exact ⟨_, HI3.out.fl, .inl rfl, rfl, below_setRow HI3.out.b (by omega) _⟩
end Go.Proofs.YtjpnbdofbkoddaaDoor.Sh
