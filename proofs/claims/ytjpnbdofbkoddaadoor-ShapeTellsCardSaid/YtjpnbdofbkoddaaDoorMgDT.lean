import Derived.Test.YtjpnbdofbkoddaaDoorMgCT
set_option linter.unusedVariables false
set_option linter.unusedSimpArgs false
namespace Go.Proofs.YtjpnbdofbkoddaaDoor.Sh
open Go.RowKit Go.Proofs.YtjpnbdofbkoddaaDoorW.PrintWords Go.Proofs.YtjpnbdofbkoddaaDoorW.PrintLast Go.Proofs.YtjpnbdofbkoddaaDoorW.PrintMore
open Go.Proofs.YtjpnbdofbkoddaaDoor.OShapeSeeds Go.Proofs.YtjpnbdofbkoddaaDoor.Sy Go.Proofs.YtjpnbdofbkoddaaDoor.SyWalk Go.Proofs.YtjpnbdofbkoddaaDoor.WrWalk
open Go.Proofs.YtjpnbdofbkoddaaDoor.Wr (St)
open Go.Proofs.YtjpnbdofbkoddaaDoor.RfWalk (RfAt RfB rleft_any rnew_any)
theorem fr_sz (f : Fr) (hl : f.L.length = 92) : (Tryd.prog.info? 62).map (·.size) = some f.cells.toArray.size := by
 rw [show f.cells.toArray.size = 94 by simp [Fr.cells, hl]]; kernel_rfl
theorem ps_sz (ps : List Int) (hl : ps.length = 10) : (Tryd.prog.info? 55).map (·.size) = some (ps.map (Value.int .i64)).toArray.size := by
 rw [row_sz hl]; kernel_rfl
theorem fr_one (f : Fr) : f.cells.toArray.all (·.oneCell') = true := all_oneCell_toArray (fun v hv => by
 simp only [Fr.cells, List.mem_cons, List.mem_map] at hv
 rcases hv with rfl | rfl | ⟨x, _, rfl⟩ <;> rfl)
structure EI (ok : Nat → Prop) (w0 w : World) (f : Fr) (ps : List Int) (g : Nat) (sz : Int) (m : Nat) (R : List Bool) : Prop where
 fr : w.heap[w0.heap.size]? = some (.cells f.cells.toArray 62 (0, 0))
 pr : w.heap[w0.heap.size + 1]? = some (.cells (ps.map (Value.int .i64)).toArray 55 (0, 0))
 wr : ∃ s, RfAt (fun k => ok k ∧ k ≠ w0.heap.size ∧ k ≠ w0.heap.size + 1) w g sz s R ∧ Wr.Fair s 65537 ∧ s.m ≤ m
 ft : Foot (fun k => ok k ∧ k ≠ w0.heap.size ∧ k ≠ w0.heap.size + 1) (w0.alloc (.cells f.cells.toArray 62) |>.alloc (.cells (ps.map (Value.int .i64)).toArray 55)) w
theorem EI.below {ok : Nat → Prop} {w0 w w1 : World} {f : Fr} {ps : List Int} {g : Nat} {sz : Int} {m : Nat} {R : List Bool} (h : EI ok w0 w f ps g sz m R) (hb : Below w.heap.size w w1) : EI ok w0 w1 f ps g sz m R := by
 obtain ⟨h1, h2, ⟨s, h3, h4, h5⟩, h6⟩ := h
 exact ⟨blk_below h1 hb, blk_below h2 hb, ⟨s, rf_below h3 hb, h4, h5⟩, h6.step hb⟩
theorem EI.size {ok : Nat → Prop} {w0 w : World} {f : Fr} {ps : List Int} {g : Nat} {sz : Int} {m : Nat} {R : List Bool} (h : EI ok w0 w f ps g sz m R) : w0.heap.size + 2 ≤ w.heap.size := by
 have := h.ft.b.size
 have e : (w0.alloc (.cells f.cells.toArray 62) |>.alloc (.cells (ps.map (Value.int .i64)).toArray 55)).heap.size = w0.heap.size + 2 := by simp [World.alloc_eq]
 omega
theorem EI.put {ok : Nat → Prop} {w0 w : World} {f : Fr} {ps : List Int} {g : Nat} {sz : Int} {m : Nat} {R : List Bool} (hfr : ∀ k, w0.heap.size ≤ k → ok k) (h : EI ok w0 w f ps g sz m R) (hm : m ≤ 900) {v : Int} (hv : okS v) :
 Calls Tryd.prog 80 #[.pointer (some ⟨g, 0, none⟩), .int .i64 v] w fun e w' => e = .returned (.tuple #[]) ∧ EI ok w0 w' f ps g sz (m + 2) R := by
 have hs := h.size
 obtain ⟨h1, h2, ⟨s, h3, h4, h5⟩, h6⟩ := h
 refine (rsput_any _ g v sz s R w hv h4 (by omega) (fun k hk => ⟨hfr k (by omega), by omega, by omega⟩) h3).mono ?_
 rintro e w' ⟨rfl, hr, hf⟩
 refine ⟨rfl, (hf.k _ (by omega) (by omega)).trans h1, (hf.k _ (by omega) (by omega)).trans h2, ⟨_, hr, sput_fair h4 v, ?_⟩, h6.trans hf⟩
 have := (sput_m s v).2
 omega
theorem EI.start {ok : Nat → Prop} {w0 : World} {f : Fr} {ps : List Int} {g : Nat} {sz : Int} {s : St} {R : List Bool} (hs : Wr.Fair s 65537) (H : RfAt ok w0 g sz s R) :
 EI ok w0 (w0.alloc (.cells f.cells.toArray 62) |>.alloc (.cells (ps.map (Value.int .i64)).toArray 55)) f ps g sz s.m R := by
 have n1 := blk_new w0 (.cells f.cells.toArray 62)
 have n2 := blk_new (w0.alloc (.cells f.cells.toArray 62)) (.cells (ps.map (Value.int .i64)).toArray 55)
 rw [show (w0.alloc (.cells f.cells.toArray 62)).heap.size = w0.heap.size + 1 by simp [World.alloc_eq]] at n2
 refine ⟨blk_alloc n1 _, n2, ⟨s, ?_, hs, Nat.le_refl _⟩, Foot.refl _ _⟩
 have H1 : RfAt (fun k => ok k ∧ k ≠ w0.heap.size ∧ k ≠ w0.heap.size + 1) w0 g sz s R := RfB.mono H (fun k hk hl => ⟨hk, by omega, by omega⟩)
 exact rf_below (rf_below H1 (below_alloc (Below.refl _ _) _)) (below_alloc (Below.refl _ _) _)
theorem EI.up {ok : Nat → Prop} {w0 w : World} {f : Fr} {ps : List Int} {g : Nat} {sz : Int} {m m' : Nat} {R : List Bool} (h : EI ok w0 w f ps g sz m R) (hm : m ≤ m') : EI ok w0 w f ps g sz m' R := by
 obtain ⟨h1, h2, ⟨s, h3, h4, h5⟩, h6⟩ := h
 exact ⟨h1, h2, ⟨s, h3, h4, by omega⟩, h6⟩
theorem EI.done {ok : Nat → Prop} {w0 w : World} {f : Fr} {ps : List Int} {g : Nat} {sz : Int} {m : Nat} {R : List Bool} (h : EI ok w0 w f ps g sz m R) {M : Nat} (hm : m ≤ M) : ∃ s, RfAt ok w g sz s R ∧ Wr.Fair s 65537 ∧ s.m ≤ M ∧ Foot ok w0 w := by
 obtain ⟨h1, h2, ⟨s, h3, h4, h5⟩, h6⟩ := h
 refine ⟨s, RfB.mono h3 (fun k hk _ => hk.1), h4, by omega, ?_⟩
 have h7 : Foot ok (w0.alloc (.cells f.cells.toArray 62) |>.alloc (.cells (ps.map (Value.int .i64)).toArray 55)) w := h6.mono (fun k _ hk => hk.1)
 exact ((Foot.of_below (below_alloc (below_alloc (Below.refl _ _) _) _)).trans h7)
set_option maxHeartbeats 16000000 in
set_option maxRecDepth 100000 in
theorem enput_call (ok : Nat → Prop) (g : Nat) (sz : Int) (m : Nat) (R : List Bool) (f : Fr) (ps : List Int) (s c : Nat) (hl : f.L.length = 92) (hp : ps.length = 10) (hs2 : s ≤ 2) (hc1 : 1 ≤ c) (hc2 : c ≤ 2) (w : World) (hm : m ≤ 800) (hfr : ∀ k, w.heap.size ≤ k → ok k)
 (H : ∃ s, RfAt ok w g sz s R ∧ Wr.Fair s 65537 ∧ s.m ≤ m) :
 Calls Tryd.prog 53 #[.pointer (some ⟨g, 0, none⟩), .agg f.cells.toArray, .int .i64 s, .int .i64 c, .agg (ps.map (Value.int .i64)).toArray] w fun e w' => (∃ v, e = .returned v) ∧ ∃ s', RfAt ok w' g sz s' R ∧ Wr.Fair s' 65537 ∧ s'.m ≤ m + 20 ∧ Foot ok w w' := by
 obtain ⟨s0, H1, H2, H3⟩ := H
 have HI0 : Aside0 (EI ok w (w.alloc (.cells f.cells.toArray 62) |>.alloc (.cells (ps.map (Value.int .i64)).toArray 55)) f ps g sz m R) := ⟨by
  obtain ⟨a, b, ⟨s, c1, c2, c3⟩, d⟩ := EI.start (f := f) (ps := ps) H2 H1
  exact ⟨a, b, ⟨s, c1, c2, by omega⟩, d⟩⟩
 have HS := Aside0.mk (fr_sz f hl)
 have HP := Aside0.mk (ps_sz ps hp)
 have HG := Aside0.mk (fun (c b : Nat) (hc : c ≤ 1) (hb : b ≤ 4) w => guess_call f ps hl hp hc hb w)
 have HN := Aside0.mk (bands_call hs2)
 have HFR := Aside0.mk hfr
 have HA := Aside0.mk (And.intro hl hp)
 have HM := Aside0.mk hm
 obtain ⟨cs, hcs⟩ : ∃ cs, f.cells.toArray = cs := ⟨_, rfl⟩
 obtain ⟨qs, hqs⟩ : ∃ qs, (ps.map (Value.int .i64)).toArray = qs := ⟨_, rfl⟩
 have HCS := Aside0.mk hcs
 have HQS := Aside0.mk hqs
 rw [hcs, hqs] at HI0
 rw [hcs] at HS
 rw [hqs] at HP
 have HG2 : Aside0 (∀ (c b : Nat), c ≤ 1 → b ≤ 4 → ∀ w, Calls Tryd.prog 49 #[.agg cs, .agg qs, .int .i64 c, .int .i64 b] w fun e w' => e = .returned (.int .i64 (guessOf f ps c b)) ∧ Below w.heap.size w w') := ⟨by rw [← hcs, ← hqs]; exact HG.out⟩
 rw [hcs, hqs]
 clear hl hp hfr H1 H2 H3 hcs hqs HG hm
 go_enter Tryd.func53, Tryd.ntmps53
 go_wp2
 go_loopw [11] (fun i wr => ∃ b : Nat, b ≤ s + 3 ∧ i = .int .i64 b ∧ Aside0 (EI ok w wr f ps g sz (m + 4 * b) R)) (fun i _ => (s + 3 - intOf i).toNat)
 case atStart => exact ⟨0, by omega, rfl, HI0⟩
 case round =>
  obtain ⟨b, hb, rfl, HI⟩ := hrel
  clear HI0
  by_cases ht : b < s + 3
  ·have d1 : decide ((b : Int) < ((s + 3 : Nat) : Int)) = true := decide_eq_true (by omega)
   go_wp2_with (first
    | (go_at_call 47; (with_reducible refine (HN.out _).mono ?_); rintro e w1 ⟨rfl, hb1⟩; have HI1 := Aside0.mk (HI.out.below hb1); clear HI hb1; have HI := HI1; clear HI1))
   clear d1
   go_loopw [12] (fun i wr => ∃ q : Nat, q ≤ c ∧ i = .int .i64 q ∧ Aside0 (EI ok w wr f ps g sz (m + 4 * b + 2 * q) R)) (fun i _ => (c - intOf i).toNat)
   case atStart => exact ⟨0, by omega, rfl, HI⟩
   case round =>
    obtain ⟨q, hq, rfl, HI2⟩ := hrel
    clear HI
    have HI := HI2
    clear HI2
    by_cases ht2 : q < c
    ·have d2 : decide ((q : Int) < ((c : Nat) : Int)) = true := decide_eq_true (by omega)
     have HQ4 : Aside0 (q ≤ 1 ∧ b ≤ 4) := ⟨by omega, by omega⟩
     have HCC : Aside0 (q + 1 ≤ c ∧ b ≤ s + 3) := ⟨by omega, by omega⟩
     have HL : Aside0 (m + 4 * b + 2 * q ≤ 900) := ⟨by have := HM.out; omega⟩
     obtain ⟨G, hG⟩ : ∃ G, guessOf f ps q b = G := ⟨_, rfl⟩
     have HGG : Aside0 (∀ w, Calls Tryd.prog 49 #[.agg cs, .agg qs, .int .i64 q, .int .i64 b] w fun e w' => e = .returned (.int .i64 G) ∧ Below w.heap.size w w') := ⟨by rw [← hG]; exact HG2.out q b HQ4.out.1 HQ4.out.2⟩
     obtain ⟨E, hE⟩ : ∃ E, ga f.L (3 + (q * 5 + b)) = E := ⟨_, rfl⟩
     have hcell0 := f.cells_at (3 + (q * 5 + b)) (by rw [HA.out.1]; have := HQ4.out; omega)
     rw [hE, HCS.out] at hcell0
     have HCE := Aside0.mk hcell0
     have hx : E < 0 ∨ (0 ≤ E ∧ 31 < E) ∨ (0 ≤ E ∧ E ≤ 31 ∧ G < E - 7) ∨ (0 ≤ E ∧ E ≤ 31 ∧ E - 7 ≤ G ∧ E + 7 < G) ∨ (0 ≤ E ∧ E ≤ 31 ∧ E - 7 ≤ G ∧ G ≤ E + 7) := by omega
     have HX := Aside0.mk hx
     clear hG hE hcell0 hx ht ht2 hq hb
     rcases (by have := HQ4.out; omega : q = 0 ∨ q = 1) with rfl | rfl <;> rcases (by have := HQ4.out; omega : b = 0 ∨ b = 1 ∨ b = 2 ∨ b = 3 ∨ b = 4) with rfl | rfl | rfl | rfl | rfl
     ·have d2 : decide ((0 : Int) < ((c : Nat) : Int)) = true := decide_eq_true (by have := HCC.out; omega)
      have HGC : Aside0 (∀ w, Calls Tryd.prog 49 #[.agg cs, .agg qs, .int .i64 0, .int .i64 0] w fun e w' => e = .returned (.int .i64 G) ∧ Below w.heap.size w w') := ⟨HGG.out⟩
      clear HGG
      rcases HX.out with hx | ⟨x1, hx⟩ | ⟨x1, x2, hx⟩ | ⟨x1, x2, x3, hx⟩ | ⟨x1, x2, x3, x4⟩
      ·have f1 : decide (E < 0) = true := decide_eq_true (by omega)
       clear hx
       go_wp2_with (first
       | (refine wpList_load_row rfl 62 (.tmp 6) rfl w.heap.size rfl 62 cs (0, 0) _ (by rw [← HCS.out]; exact HI.out.fr) Tryd.underlying62 rfl HS.out ?_)
       | (refine wpList_load_row rfl 55 (.tmp 9) rfl (w.heap.size + 1) rfl 55 qs (0, 0) _ (by rw [← HQS.out]; exact HI.out.pr) Tryd.underlying55 rfl HP.out ?_)
       | (go_at_call 49; (with_reducible refine (HGC.out _).mono ?_); rintro e w1 ⟨rfl, hb1⟩; have HI1 := Aside0.mk (HI.out.below hb1); clear HI hb1; have HI := HI1; clear HI1; have hce := (blk_cell (by rw [← HCS.out]; exact HI.out.fr) 5).trans HCE.out)
       | (go_at_call 80; (with_reducible refine (EI.put HFR.out HI.out HL.out HV.out).mono ?_); rintro e w2 ⟨rfl, hi⟩; have HI1 := Aside0.mk hi; clear HI hi; have HI := HI1; clear HI1))
       go_ret
       exact ⟨⟨_, rfl⟩, HI.out.done (by omega)⟩
      ·have f1 : decide (E < 0) = false := decide_eq_false (by omega)
       have f2 : decide (31 < E) = true := decide_eq_true (by omega)
       clear hx x1
       go_wp2_with (first
       | (refine wpList_load_row rfl 62 (.tmp 6) rfl w.heap.size rfl 62 cs (0, 0) _ (by rw [← HCS.out]; exact HI.out.fr) Tryd.underlying62 rfl HS.out ?_)
       | (refine wpList_load_row rfl 55 (.tmp 9) rfl (w.heap.size + 1) rfl 55 qs (0, 0) _ (by rw [← HQS.out]; exact HI.out.pr) Tryd.underlying55 rfl HP.out ?_)
       | (go_at_call 49; (with_reducible refine (HGC.out _).mono ?_); rintro e w1 ⟨rfl, hb1⟩; have HI1 := Aside0.mk (HI.out.below hb1); clear HI hb1; have HI := HI1; clear HI1; have hce := (blk_cell (by rw [← HCS.out]; exact HI.out.fr) 5).trans HCE.out)
       | (go_at_call 80; (with_reducible refine (EI.put HFR.out HI.out HL.out HV.out).mono ?_); rintro e w2 ⟨rfl, hi⟩; have HI1 := Aside0.mk hi; clear HI hi; have HI := HI1; clear HI1))
       go_ret
       exact ⟨⟨_, rfl⟩, HI.out.done (by omega)⟩
      ·have f1 : decide (E < 0) = false := decide_eq_false (by omega)
       have f2 : decide (31 < E) = false := decide_eq_false (by omega)
       have w1 : wrap64 (E - 7) = E - 7 := sw64 (by omega) (by omega)
       have f3 : decide (G < E - 7) = true := decide_eq_true (by omega)
       clear hx x1 x2
       go_wp2_with (first
       | (refine wpList_load_row rfl 62 (.tmp 6) rfl w.heap.size rfl 62 cs (0, 0) _ (by rw [← HCS.out]; exact HI.out.fr) Tryd.underlying62 rfl HS.out ?_)
       | (refine wpList_load_row rfl 55 (.tmp 9) rfl (w.heap.size + 1) rfl 55 qs (0, 0) _ (by rw [← HQS.out]; exact HI.out.pr) Tryd.underlying55 rfl HP.out ?_)
       | (go_at_call 49; (with_reducible refine (HGC.out _).mono ?_); rintro e w1 ⟨rfl, hb1⟩; have HI1 := Aside0.mk (HI.out.below hb1); clear HI hb1; have HI := HI1; clear HI1; have hce := (blk_cell (by rw [← HCS.out]; exact HI.out.fr) 5).trans HCE.out)
       | (go_at_call 80; (with_reducible refine (EI.put HFR.out HI.out HL.out HV.out).mono ?_); rintro e w2 ⟨rfl, hi⟩; have HI1 := Aside0.mk hi; clear HI hi; have HI := HI1; clear HI1))
       go_ret
       exact ⟨⟨_, rfl⟩, HI.out.done (by omega)⟩
      ·have f1 : decide (E < 0) = false := decide_eq_false (by omega)
       have f2 : decide (31 < E) = false := decide_eq_false (by omega)
       have w1 : wrap64 (E - 7) = E - 7 := sw64 (by omega) (by omega)
       have w2 : wrap64 (E + 7) = E + 7 := sw64 (by omega) (by omega)
       have f3 : decide (G < E - 7) = false := decide_eq_false (by omega)
       have f4 : decide (E + 7 < G) = true := decide_eq_true (by omega)
       clear hx x1 x2 x3
       go_wp2_with (first
       | (refine wpList_load_row rfl 62 (.tmp 6) rfl w.heap.size rfl 62 cs (0, 0) _ (by rw [← HCS.out]; exact HI.out.fr) Tryd.underlying62 rfl HS.out ?_)
       | (refine wpList_load_row rfl 55 (.tmp 9) rfl (w.heap.size + 1) rfl 55 qs (0, 0) _ (by rw [← HQS.out]; exact HI.out.pr) Tryd.underlying55 rfl HP.out ?_)
       | (go_at_call 49; (with_reducible refine (HGC.out _).mono ?_); rintro e w1 ⟨rfl, hb1⟩; have HI1 := Aside0.mk (HI.out.below hb1); clear HI hb1; have HI := HI1; clear HI1; have hce := (blk_cell (by rw [← HCS.out]; exact HI.out.fr) 5).trans HCE.out)
       | (go_at_call 80; (with_reducible refine (EI.put HFR.out HI.out HL.out HV.out).mono ?_); rintro e w2 ⟨rfl, hi⟩; have HI1 := Aside0.mk hi; clear HI hi; have HI := HI1; clear HI1))
       go_ret
       exact ⟨⟨_, rfl⟩, HI.out.done (by omega)⟩
      ·have f1 : decide (E < 0) = false := decide_eq_false (by omega)
       have f2 : decide (31 < E) = false := decide_eq_false (by omega)
       have w1 : wrap64 (E - 7) = E - 7 := sw64 (by omega) (by omega)
       have w2 : wrap64 (E + 7) = E + 7 := sw64 (by omega) (by omega)
       have f3 : decide (G < E - 7) = false := decide_eq_false (by omega)
       have f4 : decide (E + 7 < G) = false := decide_eq_false (by omega)
       have w3 : wrap64 (E - G) = E - G := sw64 (by omega) (by omega)
       have HV : Aside0 (okS (E - G)) := ⟨by omega, by omega⟩
       clear x1 x2 x3 x4
       go_wp2_with (first
       | (refine wpList_load_row rfl 62 (.tmp 6) rfl w.heap.size rfl 62 cs (0, 0) _ (by rw [← HCS.out]; exact HI.out.fr) Tryd.underlying62 rfl HS.out ?_)
       | (refine wpList_load_row rfl 55 (.tmp 9) rfl (w.heap.size + 1) rfl 55 qs (0, 0) _ (by rw [← HQS.out]; exact HI.out.pr) Tryd.underlying55 rfl HP.out ?_)
       | (go_at_call 49; (with_reducible refine (HGC.out _).mono ?_); rintro e w1 ⟨rfl, hb1⟩; have HI1 := Aside0.mk (HI.out.below hb1); clear HI hb1; have HI := HI1; clear HI1; have hce := (blk_cell (by rw [← HCS.out]; exact HI.out.fr) 5).trans HCE.out)
       | (go_at_call 80; (with_reducible refine (EI.put HFR.out HI.out HL.out HV.out).mono ?_); rintro e w2 ⟨rfl, hi⟩; have HI1 := Aside0.mk hi; clear HI hi; have HI := HI1; clear HI1))
       go_roundw
       case rel => repeat (first | exact ⟨⟨0 + 1, by have := HCC.out; omega, rfl, HI⟩, rfl⟩ | apply Exists.intro)
       case measure => simp [intOf]; have := HCC.out; omega
     ·have d2 : decide ((0 : Int) < ((c : Nat) : Int)) = true := decide_eq_true (by have := HCC.out; omega)
      have HGC : Aside0 (∀ w, Calls Tryd.prog 49 #[.agg cs, .agg qs, .int .i64 0, .int .i64 1] w fun e w' => e = .returned (.int .i64 G) ∧ Below w.heap.size w w') := ⟨HGG.out⟩
      clear HGG
      rcases HX.out with hx | ⟨x1, hx⟩ | ⟨x1, x2, hx⟩ | ⟨x1, x2, x3, hx⟩ | ⟨x1, x2, x3, x4⟩
      ·have f1 : decide (E < 0) = true := decide_eq_true (by omega)
       clear hx
       go_wp2_with (first
       | (refine wpList_load_row rfl 62 (.tmp 6) rfl w.heap.size rfl 62 cs (0, 0) _ (by rw [← HCS.out]; exact HI.out.fr) Tryd.underlying62 rfl HS.out ?_)
       | (refine wpList_load_row rfl 55 (.tmp 9) rfl (w.heap.size + 1) rfl 55 qs (0, 0) _ (by rw [← HQS.out]; exact HI.out.pr) Tryd.underlying55 rfl HP.out ?_)
       | (go_at_call 49; (with_reducible refine (HGC.out _).mono ?_); rintro e w1 ⟨rfl, hb1⟩; have HI1 := Aside0.mk (HI.out.below hb1); clear HI hb1; have HI := HI1; clear HI1; have hce := (blk_cell (by rw [← HCS.out]; exact HI.out.fr) 6).trans HCE.out)
       | (go_at_call 80; (with_reducible refine (EI.put HFR.out HI.out HL.out HV.out).mono ?_); rintro e w2 ⟨rfl, hi⟩; have HI1 := Aside0.mk hi; clear HI hi; have HI := HI1; clear HI1))
       go_ret
       exact ⟨⟨_, rfl⟩, HI.out.done (by omega)⟩
      ·have f1 : decide (E < 0) = false := decide_eq_false (by omega)
       have f2 : decide (31 < E) = true := decide_eq_true (by omega)
       clear hx x1
       go_wp2_with (first
       | (refine wpList_load_row rfl 62 (.tmp 6) rfl w.heap.size rfl 62 cs (0, 0) _ (by rw [← HCS.out]; exact HI.out.fr) Tryd.underlying62 rfl HS.out ?_)
       | (refine wpList_load_row rfl 55 (.tmp 9) rfl (w.heap.size + 1) rfl 55 qs (0, 0) _ (by rw [← HQS.out]; exact HI.out.pr) Tryd.underlying55 rfl HP.out ?_)
       | (go_at_call 49; (with_reducible refine (HGC.out _).mono ?_); rintro e w1 ⟨rfl, hb1⟩; have HI1 := Aside0.mk (HI.out.below hb1); clear HI hb1; have HI := HI1; clear HI1; have hce := (blk_cell (by rw [← HCS.out]; exact HI.out.fr) 6).trans HCE.out)
       | (go_at_call 80; (with_reducible refine (EI.put HFR.out HI.out HL.out HV.out).mono ?_); rintro e w2 ⟨rfl, hi⟩; have HI1 := Aside0.mk hi; clear HI hi; have HI := HI1; clear HI1))
       go_ret
       exact ⟨⟨_, rfl⟩, HI.out.done (by omega)⟩
      ·have f1 : decide (E < 0) = false := decide_eq_false (by omega)
       have f2 : decide (31 < E) = false := decide_eq_false (by omega)
       have w1 : wrap64 (E - 7) = E - 7 := sw64 (by omega) (by omega)
       have f3 : decide (G < E - 7) = true := decide_eq_true (by omega)
       clear hx x1 x2
       go_wp2_with (first
       | (refine wpList_load_row rfl 62 (.tmp 6) rfl w.heap.size rfl 62 cs (0, 0) _ (by rw [← HCS.out]; exact HI.out.fr) Tryd.underlying62 rfl HS.out ?_)
       | (refine wpList_load_row rfl 55 (.tmp 9) rfl (w.heap.size + 1) rfl 55 qs (0, 0) _ (by rw [← HQS.out]; exact HI.out.pr) Tryd.underlying55 rfl HP.out ?_)
       | (go_at_call 49; (with_reducible refine (HGC.out _).mono ?_); rintro e w1 ⟨rfl, hb1⟩; have HI1 := Aside0.mk (HI.out.below hb1); clear HI hb1; have HI := HI1; clear HI1; have hce := (blk_cell (by rw [← HCS.out]; exact HI.out.fr) 6).trans HCE.out)
       | (go_at_call 80; (with_reducible refine (EI.put HFR.out HI.out HL.out HV.out).mono ?_); rintro e w2 ⟨rfl, hi⟩; have HI1 := Aside0.mk hi; clear HI hi; have HI := HI1; clear HI1))
       go_ret
       exact ⟨⟨_, rfl⟩, HI.out.done (by omega)⟩
      ·have f1 : decide (E < 0) = false := decide_eq_false (by omega)
       have f2 : decide (31 < E) = false := decide_eq_false (by omega)
       have w1 : wrap64 (E - 7) = E - 7 := sw64 (by omega) (by omega)
       have w2 : wrap64 (E + 7) = E + 7 := sw64 (by omega) (by omega)
       have f3 : decide (G < E - 7) = false := decide_eq_false (by omega)
       have f4 : decide (E + 7 < G) = true := decide_eq_true (by omega)
       clear hx x1 x2 x3
       go_wp2_with (first
       | (refine wpList_load_row rfl 62 (.tmp 6) rfl w.heap.size rfl 62 cs (0, 0) _ (by rw [← HCS.out]; exact HI.out.fr) Tryd.underlying62 rfl HS.out ?_)
       | (refine wpList_load_row rfl 55 (.tmp 9) rfl (w.heap.size + 1) rfl 55 qs (0, 0) _ (by rw [← HQS.out]; exact HI.out.pr) Tryd.underlying55 rfl HP.out ?_)
       | (go_at_call 49; (with_reducible refine (HGC.out _).mono ?_); rintro e w1 ⟨rfl, hb1⟩; have HI1 := Aside0.mk (HI.out.below hb1); clear HI hb1; have HI := HI1; clear HI1; have hce := (blk_cell (by rw [← HCS.out]; exact HI.out.fr) 6).trans HCE.out)
       | (go_at_call 80; (with_reducible refine (EI.put HFR.out HI.out HL.out HV.out).mono ?_); rintro e w2 ⟨rfl, hi⟩; have HI1 := Aside0.mk hi; clear HI hi; have HI := HI1; clear HI1))
       go_ret
       exact ⟨⟨_, rfl⟩, HI.out.done (by omega)⟩
      ·have f1 : decide (E < 0) = false := decide_eq_false (by omega)
       have f2 : decide (31 < E) = false := decide_eq_false (by omega)
       have w1 : wrap64 (E - 7) = E - 7 := sw64 (by omega) (by omega)
       have w2 : wrap64 (E + 7) = E + 7 := sw64 (by omega) (by omega)
       have f3 : decide (G < E - 7) = false := decide_eq_false (by omega)
       have f4 : decide (E + 7 < G) = false := decide_eq_false (by omega)
       have w3 : wrap64 (E - G) = E - G := sw64 (by omega) (by omega)
       have HV : Aside0 (okS (E - G)) := ⟨by omega, by omega⟩
       clear x1 x2 x3 x4
       go_wp2_with (first
       | (refine wpList_load_row rfl 62 (.tmp 6) rfl w.heap.size rfl 62 cs (0, 0) _ (by rw [← HCS.out]; exact HI.out.fr) Tryd.underlying62 rfl HS.out ?_)
       | (refine wpList_load_row rfl 55 (.tmp 9) rfl (w.heap.size + 1) rfl 55 qs (0, 0) _ (by rw [← HQS.out]; exact HI.out.pr) Tryd.underlying55 rfl HP.out ?_)
       | (go_at_call 49; (with_reducible refine (HGC.out _).mono ?_); rintro e w1 ⟨rfl, hb1⟩; have HI1 := Aside0.mk (HI.out.below hb1); clear HI hb1; have HI := HI1; clear HI1; have hce := (blk_cell (by rw [← HCS.out]; exact HI.out.fr) 6).trans HCE.out)
       | (go_at_call 80; (with_reducible refine (EI.put HFR.out HI.out HL.out HV.out).mono ?_); rintro e w2 ⟨rfl, hi⟩; have HI1 := Aside0.mk hi; clear HI hi; have HI := HI1; clear HI1))
       go_roundw
       case rel => repeat (first | exact ⟨⟨0 + 1, by have := HCC.out; omega, rfl, HI⟩, rfl⟩ | apply Exists.intro)
       case measure => simp [intOf]; have := HCC.out; omega
     ·have d2 : decide ((0 : Int) < ((c : Nat) : Int)) = true := decide_eq_true (by have := HCC.out; omega)
      have HGC : Aside0 (∀ w, Calls Tryd.prog 49 #[.agg cs, .agg qs, .int .i64 0, .int .i64 2] w fun e w' => e = .returned (.int .i64 G) ∧ Below w.heap.size w w') := ⟨HGG.out⟩
      clear HGG
      rcases HX.out with hx | ⟨x1, hx⟩ | ⟨x1, x2, hx⟩ | ⟨x1, x2, x3, hx⟩ | ⟨x1, x2, x3, x4⟩
      ·have f1 : decide (E < 0) = true := decide_eq_true (by omega)
       clear hx
       go_wp2_with (first
       | (refine wpList_load_row rfl 62 (.tmp 6) rfl w.heap.size rfl 62 cs (0, 0) _ (by rw [← HCS.out]; exact HI.out.fr) Tryd.underlying62 rfl HS.out ?_)
       | (refine wpList_load_row rfl 55 (.tmp 9) rfl (w.heap.size + 1) rfl 55 qs (0, 0) _ (by rw [← HQS.out]; exact HI.out.pr) Tryd.underlying55 rfl HP.out ?_)
       | (go_at_call 49; (with_reducible refine (HGC.out _).mono ?_); rintro e w1 ⟨rfl, hb1⟩; have HI1 := Aside0.mk (HI.out.below hb1); clear HI hb1; have HI := HI1; clear HI1; have hce := (blk_cell (by rw [← HCS.out]; exact HI.out.fr) 7).trans HCE.out)
       | (go_at_call 80; (with_reducible refine (EI.put HFR.out HI.out HL.out HV.out).mono ?_); rintro e w2 ⟨rfl, hi⟩; have HI1 := Aside0.mk hi; clear HI hi; have HI := HI1; clear HI1))
       go_ret
       exact ⟨⟨_, rfl⟩, HI.out.done (by omega)⟩
      ·have f1 : decide (E < 0) = false := decide_eq_false (by omega)
       have f2 : decide (31 < E) = true := decide_eq_true (by omega)
       clear hx x1
       go_wp2_with (first
       | (refine wpList_load_row rfl 62 (.tmp 6) rfl w.heap.size rfl 62 cs (0, 0) _ (by rw [← HCS.out]; exact HI.out.fr) Tryd.underlying62 rfl HS.out ?_)
       | (refine wpList_load_row rfl 55 (.tmp 9) rfl (w.heap.size + 1) rfl 55 qs (0, 0) _ (by rw [← HQS.out]; exact HI.out.pr) Tryd.underlying55 rfl HP.out ?_)
       | (go_at_call 49; (with_reducible refine (HGC.out _).mono ?_); rintro e w1 ⟨rfl, hb1⟩; have HI1 := Aside0.mk (HI.out.below hb1); clear HI hb1; have HI := HI1; clear HI1; have hce := (blk_cell (by rw [← HCS.out]; exact HI.out.fr) 7).trans HCE.out)
       | (go_at_call 80; (with_reducible refine (EI.put HFR.out HI.out HL.out HV.out).mono ?_); rintro e w2 ⟨rfl, hi⟩; have HI1 := Aside0.mk hi; clear HI hi; have HI := HI1; clear HI1))
       go_ret
       exact ⟨⟨_, rfl⟩, HI.out.done (by omega)⟩
      ·have f1 : decide (E < 0) = false := decide_eq_false (by omega)
       have f2 : decide (31 < E) = false := decide_eq_false (by omega)
       have w1 : wrap64 (E - 7) = E - 7 := sw64 (by omega) (by omega)
       have f3 : decide (G < E - 7) = true := decide_eq_true (by omega)
       clear hx x1 x2
       go_wp2_with (first
       | (refine wpList_load_row rfl 62 (.tmp 6) rfl w.heap.size rfl 62 cs (0, 0) _ (by rw [← HCS.out]; exact HI.out.fr) Tryd.underlying62 rfl HS.out ?_)
       | (refine wpList_load_row rfl 55 (.tmp 9) rfl (w.heap.size + 1) rfl 55 qs (0, 0) _ (by rw [← HQS.out]; exact HI.out.pr) Tryd.underlying55 rfl HP.out ?_)
       | (go_at_call 49; (with_reducible refine (HGC.out _).mono ?_); rintro e w1 ⟨rfl, hb1⟩; have HI1 := Aside0.mk (HI.out.below hb1); clear HI hb1; have HI := HI1; clear HI1; have hce := (blk_cell (by rw [← HCS.out]; exact HI.out.fr) 7).trans HCE.out)
       | (go_at_call 80; (with_reducible refine (EI.put HFR.out HI.out HL.out HV.out).mono ?_); rintro e w2 ⟨rfl, hi⟩; have HI1 := Aside0.mk hi; clear HI hi; have HI := HI1; clear HI1))
       go_ret
       exact ⟨⟨_, rfl⟩, HI.out.done (by omega)⟩
      ·have f1 : decide (E < 0) = false := decide_eq_false (by omega)
       have f2 : decide (31 < E) = false := decide_eq_false (by omega)
       have w1 : wrap64 (E - 7) = E - 7 := sw64 (by omega) (by omega)
       have w2 : wrap64 (E + 7) = E + 7 := sw64 (by omega) (by omega)
       have f3 : decide (G < E - 7) = false := decide_eq_false (by omega)
       have f4 : decide (E + 7 < G) = true := decide_eq_true (by omega)
       clear hx x1 x2 x3
       go_wp2_with (first
       | (refine wpList_load_row rfl 62 (.tmp 6) rfl w.heap.size rfl 62 cs (0, 0) _ (by rw [← HCS.out]; exact HI.out.fr) Tryd.underlying62 rfl HS.out ?_)
       | (refine wpList_load_row rfl 55 (.tmp 9) rfl (w.heap.size + 1) rfl 55 qs (0, 0) _ (by rw [← HQS.out]; exact HI.out.pr) Tryd.underlying55 rfl HP.out ?_)
       | (go_at_call 49; (with_reducible refine (HGC.out _).mono ?_); rintro e w1 ⟨rfl, hb1⟩; have HI1 := Aside0.mk (HI.out.below hb1); clear HI hb1; have HI := HI1; clear HI1; have hce := (blk_cell (by rw [← HCS.out]; exact HI.out.fr) 7).trans HCE.out)
       | (go_at_call 80; (with_reducible refine (EI.put HFR.out HI.out HL.out HV.out).mono ?_); rintro e w2 ⟨rfl, hi⟩; have HI1 := Aside0.mk hi; clear HI hi; have HI := HI1; clear HI1))
       go_ret
       exact ⟨⟨_, rfl⟩, HI.out.done (by omega)⟩
      ·have f1 : decide (E < 0) = false := decide_eq_false (by omega)
       have f2 : decide (31 < E) = false := decide_eq_false (by omega)
       have w1 : wrap64 (E - 7) = E - 7 := sw64 (by omega) (by omega)
       have w2 : wrap64 (E + 7) = E + 7 := sw64 (by omega) (by omega)
       have f3 : decide (G < E - 7) = false := decide_eq_false (by omega)
       have f4 : decide (E + 7 < G) = false := decide_eq_false (by omega)
       have w3 : wrap64 (E - G) = E - G := sw64 (by omega) (by omega)
       have HV : Aside0 (okS (E - G)) := ⟨by omega, by omega⟩
       clear x1 x2 x3 x4
       go_wp2_with (first
       | (refine wpList_load_row rfl 62 (.tmp 6) rfl w.heap.size rfl 62 cs (0, 0) _ (by rw [← HCS.out]; exact HI.out.fr) Tryd.underlying62 rfl HS.out ?_)
       | (refine wpList_load_row rfl 55 (.tmp 9) rfl (w.heap.size + 1) rfl 55 qs (0, 0) _ (by rw [← HQS.out]; exact HI.out.pr) Tryd.underlying55 rfl HP.out ?_)
       | (go_at_call 49; (with_reducible refine (HGC.out _).mono ?_); rintro e w1 ⟨rfl, hb1⟩; have HI1 := Aside0.mk (HI.out.below hb1); clear HI hb1; have HI := HI1; clear HI1; have hce := (blk_cell (by rw [← HCS.out]; exact HI.out.fr) 7).trans HCE.out)
       | (go_at_call 80; (with_reducible refine (EI.put HFR.out HI.out HL.out HV.out).mono ?_); rintro e w2 ⟨rfl, hi⟩; have HI1 := Aside0.mk hi; clear HI hi; have HI := HI1; clear HI1))
       go_roundw
       case rel => repeat (first | exact ⟨⟨0 + 1, by have := HCC.out; omega, rfl, HI⟩, rfl⟩ | apply Exists.intro)
       case measure => simp [intOf]; have := HCC.out; omega
     ·have d2 : decide ((0 : Int) < ((c : Nat) : Int)) = true := decide_eq_true (by have := HCC.out; omega)
      have HGC : Aside0 (∀ w, Calls Tryd.prog 49 #[.agg cs, .agg qs, .int .i64 0, .int .i64 3] w fun e w' => e = .returned (.int .i64 G) ∧ Below w.heap.size w w') := ⟨HGG.out⟩
      clear HGG
      rcases HX.out with hx | ⟨x1, hx⟩ | ⟨x1, x2, hx⟩ | ⟨x1, x2, x3, hx⟩ | ⟨x1, x2, x3, x4⟩
      ·have f1 : decide (E < 0) = true := decide_eq_true (by omega)
       clear hx
       go_wp2_with (first
       | (refine wpList_load_row rfl 62 (.tmp 6) rfl w.heap.size rfl 62 cs (0, 0) _ (by rw [← HCS.out]; exact HI.out.fr) Tryd.underlying62 rfl HS.out ?_)
       | (refine wpList_load_row rfl 55 (.tmp 9) rfl (w.heap.size + 1) rfl 55 qs (0, 0) _ (by rw [← HQS.out]; exact HI.out.pr) Tryd.underlying55 rfl HP.out ?_)
       | (go_at_call 49; (with_reducible refine (HGC.out _).mono ?_); rintro e w1 ⟨rfl, hb1⟩; have HI1 := Aside0.mk (HI.out.below hb1); clear HI hb1; have HI := HI1; clear HI1; have hce := (blk_cell (by rw [← HCS.out]; exact HI.out.fr) 8).trans HCE.out)
       | (go_at_call 80; (with_reducible refine (EI.put HFR.out HI.out HL.out HV.out).mono ?_); rintro e w2 ⟨rfl, hi⟩; have HI1 := Aside0.mk hi; clear HI hi; have HI := HI1; clear HI1))
       go_ret
       exact ⟨⟨_, rfl⟩, HI.out.done (by omega)⟩
      ·have f1 : decide (E < 0) = false := decide_eq_false (by omega)
       have f2 : decide (31 < E) = true := decide_eq_true (by omega)
       clear hx x1
       go_wp2_with (first
       | (refine wpList_load_row rfl 62 (.tmp 6) rfl w.heap.size rfl 62 cs (0, 0) _ (by rw [← HCS.out]; exact HI.out.fr) Tryd.underlying62 rfl HS.out ?_)
       | (refine wpList_load_row rfl 55 (.tmp 9) rfl (w.heap.size + 1) rfl 55 qs (0, 0) _ (by rw [← HQS.out]; exact HI.out.pr) Tryd.underlying55 rfl HP.out ?_)
       | (go_at_call 49; (with_reducible refine (HGC.out _).mono ?_); rintro e w1 ⟨rfl, hb1⟩; have HI1 := Aside0.mk (HI.out.below hb1); clear HI hb1; have HI := HI1; clear HI1; have hce := (blk_cell (by rw [← HCS.out]; exact HI.out.fr) 8).trans HCE.out)
       | (go_at_call 80; (with_reducible refine (EI.put HFR.out HI.out HL.out HV.out).mono ?_); rintro e w2 ⟨rfl, hi⟩; have HI1 := Aside0.mk hi; clear HI hi; have HI := HI1; clear HI1))
       go_ret
       exact ⟨⟨_, rfl⟩, HI.out.done (by omega)⟩
      ·have f1 : decide (E < 0) = false := decide_eq_false (by omega)
       have f2 : decide (31 < E) = false := decide_eq_false (by omega)
       have w1 : wrap64 (E - 7) = E - 7 := sw64 (by omega) (by omega)
       have f3 : decide (G < E - 7) = true := decide_eq_true (by omega)
       clear hx x1 x2
       go_wp2_with (first
       | (refine wpList_load_row rfl 62 (.tmp 6) rfl w.heap.size rfl 62 cs (0, 0) _ (by rw [← HCS.out]; exact HI.out.fr) Tryd.underlying62 rfl HS.out ?_)
       | (refine wpList_load_row rfl 55 (.tmp 9) rfl (w.heap.size + 1) rfl 55 qs (0, 0) _ (by rw [← HQS.out]; exact HI.out.pr) Tryd.underlying55 rfl HP.out ?_)
       | (go_at_call 49; (with_reducible refine (HGC.out _).mono ?_); rintro e w1 ⟨rfl, hb1⟩; have HI1 := Aside0.mk (HI.out.below hb1); clear HI hb1; have HI := HI1; clear HI1; have hce := (blk_cell (by rw [← HCS.out]; exact HI.out.fr) 8).trans HCE.out)
       | (go_at_call 80; (with_reducible refine (EI.put HFR.out HI.out HL.out HV.out).mono ?_); rintro e w2 ⟨rfl, hi⟩; have HI1 := Aside0.mk hi; clear HI hi; have HI := HI1; clear HI1))
       go_ret
       exact ⟨⟨_, rfl⟩, HI.out.done (by omega)⟩
      ·have f1 : decide (E < 0) = false := decide_eq_false (by omega)
       have f2 : decide (31 < E) = false := decide_eq_false (by omega)
       have w1 : wrap64 (E - 7) = E - 7 := sw64 (by omega) (by omega)
       have w2 : wrap64 (E + 7) = E + 7 := sw64 (by omega) (by omega)
       have f3 : decide (G < E - 7) = false := decide_eq_false (by omega)
       have f4 : decide (E + 7 < G) = true := decide_eq_true (by omega)
       clear hx x1 x2 x3
       go_wp2_with (first
       | (refine wpList_load_row rfl 62 (.tmp 6) rfl w.heap.size rfl 62 cs (0, 0) _ (by rw [← HCS.out]; exact HI.out.fr) Tryd.underlying62 rfl HS.out ?_)
       | (refine wpList_load_row rfl 55 (.tmp 9) rfl (w.heap.size + 1) rfl 55 qs (0, 0) _ (by rw [← HQS.out]; exact HI.out.pr) Tryd.underlying55 rfl HP.out ?_)
       | (go_at_call 49; (with_reducible refine (HGC.out _).mono ?_); rintro e w1 ⟨rfl, hb1⟩; have HI1 := Aside0.mk (HI.out.below hb1); clear HI hb1; have HI := HI1; clear HI1; have hce := (blk_cell (by rw [← HCS.out]; exact HI.out.fr) 8).trans HCE.out)
       | (go_at_call 80; (with_reducible refine (EI.put HFR.out HI.out HL.out HV.out).mono ?_); rintro e w2 ⟨rfl, hi⟩; have HI1 := Aside0.mk hi; clear HI hi; have HI := HI1; clear HI1))
       go_ret
       exact ⟨⟨_, rfl⟩, HI.out.done (by omega)⟩
      ·have f1 : decide (E < 0) = false := decide_eq_false (by omega)
       have f2 : decide (31 < E) = false := decide_eq_false (by omega)
       have w1 : wrap64 (E - 7) = E - 7 := sw64 (by omega) (by omega)
       have w2 : wrap64 (E + 7) = E + 7 := sw64 (by omega) (by omega)
       have f3 : decide (G < E - 7) = false := decide_eq_false (by omega)
       have f4 : decide (E + 7 < G) = false := decide_eq_false (by omega)
       have w3 : wrap64 (E - G) = E - G := sw64 (by omega) (by omega)
       have HV : Aside0 (okS (E - G)) := ⟨by omega, by omega⟩
       clear x1 x2 x3 x4
       go_wp2_with (first
       | (refine wpList_load_row rfl 62 (.tmp 6) rfl w.heap.size rfl 62 cs (0, 0) _ (by rw [← HCS.out]; exact HI.out.fr) Tryd.underlying62 rfl HS.out ?_)
       | (refine wpList_load_row rfl 55 (.tmp 9) rfl (w.heap.size + 1) rfl 55 qs (0, 0) _ (by rw [← HQS.out]; exact HI.out.pr) Tryd.underlying55 rfl HP.out ?_)
       | (go_at_call 49; (with_reducible refine (HGC.out _).mono ?_); rintro e w1 ⟨rfl, hb1⟩; have HI1 := Aside0.mk (HI.out.below hb1); clear HI hb1; have HI := HI1; clear HI1; have hce := (blk_cell (by rw [← HCS.out]; exact HI.out.fr) 8).trans HCE.out)
       | (go_at_call 80; (with_reducible refine (EI.put HFR.out HI.out HL.out HV.out).mono ?_); rintro e w2 ⟨rfl, hi⟩; have HI1 := Aside0.mk hi; clear HI hi; have HI := HI1; clear HI1))
       go_roundw
       case rel => repeat (first | exact ⟨⟨0 + 1, by have := HCC.out; omega, rfl, HI⟩, rfl⟩ | apply Exists.intro)
       case measure => simp [intOf]; have := HCC.out; omega
     ·have d2 : decide ((0 : Int) < ((c : Nat) : Int)) = true := decide_eq_true (by have := HCC.out; omega)
      have HGC : Aside0 (∀ w, Calls Tryd.prog 49 #[.agg cs, .agg qs, .int .i64 0, .int .i64 4] w fun e w' => e = .returned (.int .i64 G) ∧ Below w.heap.size w w') := ⟨HGG.out⟩
      clear HGG
      rcases HX.out with hx | ⟨x1, hx⟩ | ⟨x1, x2, hx⟩ | ⟨x1, x2, x3, hx⟩ | ⟨x1, x2, x3, x4⟩
      ·have f1 : decide (E < 0) = true := decide_eq_true (by omega)
       clear hx
       go_wp2_with (first
       | (refine wpList_load_row rfl 62 (.tmp 6) rfl w.heap.size rfl 62 cs (0, 0) _ (by rw [← HCS.out]; exact HI.out.fr) Tryd.underlying62 rfl HS.out ?_)
       | (refine wpList_load_row rfl 55 (.tmp 9) rfl (w.heap.size + 1) rfl 55 qs (0, 0) _ (by rw [← HQS.out]; exact HI.out.pr) Tryd.underlying55 rfl HP.out ?_)
       | (go_at_call 49; (with_reducible refine (HGC.out _).mono ?_); rintro e w1 ⟨rfl, hb1⟩; have HI1 := Aside0.mk (HI.out.below hb1); clear HI hb1; have HI := HI1; clear HI1; have hce := (blk_cell (by rw [← HCS.out]; exact HI.out.fr) 9).trans HCE.out)
       | (go_at_call 80; (with_reducible refine (EI.put HFR.out HI.out HL.out HV.out).mono ?_); rintro e w2 ⟨rfl, hi⟩; have HI1 := Aside0.mk hi; clear HI hi; have HI := HI1; clear HI1))
       go_ret
       exact ⟨⟨_, rfl⟩, HI.out.done (by omega)⟩
      ·have f1 : decide (E < 0) = false := decide_eq_false (by omega)
       have f2 : decide (31 < E) = true := decide_eq_true (by omega)
       clear hx x1
       go_wp2_with (first
       | (refine wpList_load_row rfl 62 (.tmp 6) rfl w.heap.size rfl 62 cs (0, 0) _ (by rw [← HCS.out]; exact HI.out.fr) Tryd.underlying62 rfl HS.out ?_)
       | (refine wpList_load_row rfl 55 (.tmp 9) rfl (w.heap.size + 1) rfl 55 qs (0, 0) _ (by rw [← HQS.out]; exact HI.out.pr) Tryd.underlying55 rfl HP.out ?_)
       | (go_at_call 49; (with_reducible refine (HGC.out _).mono ?_); rintro e w1 ⟨rfl, hb1⟩; have HI1 := Aside0.mk (HI.out.below hb1); clear HI hb1; have HI := HI1; clear HI1; have hce := (blk_cell (by rw [← HCS.out]; exact HI.out.fr) 9).trans HCE.out)
       | (go_at_call 80; (with_reducible refine (EI.put HFR.out HI.out HL.out HV.out).mono ?_); rintro e w2 ⟨rfl, hi⟩; have HI1 := Aside0.mk hi; clear HI hi; have HI := HI1; clear HI1))
       go_ret
       exact ⟨⟨_, rfl⟩, HI.out.done (by omega)⟩
      ·have f1 : decide (E < 0) = false := decide_eq_false (by omega)
       have f2 : decide (31 < E) = false := decide_eq_false (by omega)
       have w1 : wrap64 (E - 7) = E - 7 := sw64 (by omega) (by omega)
       have f3 : decide (G < E - 7) = true := decide_eq_true (by omega)
       clear hx x1 x2
       go_wp2_with (first
       | (refine wpList_load_row rfl 62 (.tmp 6) rfl w.heap.size rfl 62 cs (0, 0) _ (by rw [← HCS.out]; exact HI.out.fr) Tryd.underlying62 rfl HS.out ?_)
       | (refine wpList_load_row rfl 55 (.tmp 9) rfl (w.heap.size + 1) rfl 55 qs (0, 0) _ (by rw [← HQS.out]; exact HI.out.pr) Tryd.underlying55 rfl HP.out ?_)
       | (go_at_call 49; (with_reducible refine (HGC.out _).mono ?_); rintro e w1 ⟨rfl, hb1⟩; have HI1 := Aside0.mk (HI.out.below hb1); clear HI hb1; have HI := HI1; clear HI1; have hce := (blk_cell (by rw [← HCS.out]; exact HI.out.fr) 9).trans HCE.out)
       | (go_at_call 80; (with_reducible refine (EI.put HFR.out HI.out HL.out HV.out).mono ?_); rintro e w2 ⟨rfl, hi⟩; have HI1 := Aside0.mk hi; clear HI hi; have HI := HI1; clear HI1))
       go_ret
       exact ⟨⟨_, rfl⟩, HI.out.done (by omega)⟩
      ·have f1 : decide (E < 0) = false := decide_eq_false (by omega)
       have f2 : decide (31 < E) = false := decide_eq_false (by omega)
       have w1 : wrap64 (E - 7) = E - 7 := sw64 (by omega) (by omega)
       have w2 : wrap64 (E + 7) = E + 7 := sw64 (by omega) (by omega)
       have f3 : decide (G < E - 7) = false := decide_eq_false (by omega)
       have f4 : decide (E + 7 < G) = true := decide_eq_true (by omega)
       clear hx x1 x2 x3
       go_wp2_with (first
       | (refine wpList_load_row rfl 62 (.tmp 6) rfl w.heap.size rfl 62 cs (0, 0) _ (by rw [← HCS.out]; exact HI.out.fr) Tryd.underlying62 rfl HS.out ?_)
       | (refine wpList_load_row rfl 55 (.tmp 9) rfl (w.heap.size + 1) rfl 55 qs (0, 0) _ (by rw [← HQS.out]; exact HI.out.pr) Tryd.underlying55 rfl HP.out ?_)
       | (go_at_call 49; (with_reducible refine (HGC.out _).mono ?_); rintro e w1 ⟨rfl, hb1⟩; have HI1 := Aside0.mk (HI.out.below hb1); clear HI hb1; have HI := HI1; clear HI1; have hce := (blk_cell (by rw [← HCS.out]; exact HI.out.fr) 9).trans HCE.out)
       | (go_at_call 80; (with_reducible refine (EI.put HFR.out HI.out HL.out HV.out).mono ?_); rintro e w2 ⟨rfl, hi⟩; have HI1 := Aside0.mk hi; clear HI hi; have HI := HI1; clear HI1))
       go_ret
       exact ⟨⟨_, rfl⟩, HI.out.done (by omega)⟩
      ·have f1 : decide (E < 0) = false := decide_eq_false (by omega)
       have f2 : decide (31 < E) = false := decide_eq_false (by omega)
       have w1 : wrap64 (E - 7) = E - 7 := sw64 (by omega) (by omega)
       have w2 : wrap64 (E + 7) = E + 7 := sw64 (by omega) (by omega)
       have f3 : decide (G < E - 7) = false := decide_eq_false (by omega)
       have f4 : decide (E + 7 < G) = false := decide_eq_false (by omega)
       have w3 : wrap64 (E - G) = E - G := sw64 (by omega) (by omega)
       have HV : Aside0 (okS (E - G)) := ⟨by omega, by omega⟩
       clear x1 x2 x3 x4
       go_wp2_with (first
       | (refine wpList_load_row rfl 62 (.tmp 6) rfl w.heap.size rfl 62 cs (0, 0) _ (by rw [← HCS.out]; exact HI.out.fr) Tryd.underlying62 rfl HS.out ?_)
       | (refine wpList_load_row rfl 55 (.tmp 9) rfl (w.heap.size + 1) rfl 55 qs (0, 0) _ (by rw [← HQS.out]; exact HI.out.pr) Tryd.underlying55 rfl HP.out ?_)
       | (go_at_call 49; (with_reducible refine (HGC.out _).mono ?_); rintro e w1 ⟨rfl, hb1⟩; have HI1 := Aside0.mk (HI.out.below hb1); clear HI hb1; have HI := HI1; clear HI1; have hce := (blk_cell (by rw [← HCS.out]; exact HI.out.fr) 9).trans HCE.out)
       | (go_at_call 80; (with_reducible refine (EI.put HFR.out HI.out HL.out HV.out).mono ?_); rintro e w2 ⟨rfl, hi⟩; have HI1 := Aside0.mk hi; clear HI hi; have HI := HI1; clear HI1))
       go_roundw
       case rel => repeat (first | exact ⟨⟨0 + 1, by have := HCC.out; omega, rfl, HI⟩, rfl⟩ | apply Exists.intro)
       case measure => simp [intOf]; have := HCC.out; omega
     ·have d2 : decide ((1 : Int) < ((c : Nat) : Int)) = true := decide_eq_true (by have := HCC.out; omega)
      have HGC : Aside0 (∀ w, Calls Tryd.prog 49 #[.agg cs, .agg qs, .int .i64 1, .int .i64 0] w fun e w' => e = .returned (.int .i64 G) ∧ Below w.heap.size w w') := ⟨HGG.out⟩
      clear HGG
      rcases HX.out with hx | ⟨x1, hx⟩ | ⟨x1, x2, hx⟩ | ⟨x1, x2, x3, hx⟩ | ⟨x1, x2, x3, x4⟩
      ·have f1 : decide (E < 0) = true := decide_eq_true (by omega)
       clear hx
       go_wp2_with (first
       | (refine wpList_load_row rfl 62 (.tmp 6) rfl w.heap.size rfl 62 cs (0, 0) _ (by rw [← HCS.out]; exact HI.out.fr) Tryd.underlying62 rfl HS.out ?_)
       | (refine wpList_load_row rfl 55 (.tmp 9) rfl (w.heap.size + 1) rfl 55 qs (0, 0) _ (by rw [← HQS.out]; exact HI.out.pr) Tryd.underlying55 rfl HP.out ?_)
       | (go_at_call 49; (with_reducible refine (HGC.out _).mono ?_); rintro e w1 ⟨rfl, hb1⟩; have HI1 := Aside0.mk (HI.out.below hb1); clear HI hb1; have HI := HI1; clear HI1; have hce := (blk_cell (by rw [← HCS.out]; exact HI.out.fr) 10).trans HCE.out)
       | (go_at_call 80; (with_reducible refine (EI.put HFR.out HI.out HL.out HV.out).mono ?_); rintro e w2 ⟨rfl, hi⟩; have HI1 := Aside0.mk hi; clear HI hi; have HI := HI1; clear HI1))
       go_ret
       exact ⟨⟨_, rfl⟩, HI.out.done (by omega)⟩
      ·have f1 : decide (E < 0) = false := decide_eq_false (by omega)
       have f2 : decide (31 < E) = true := decide_eq_true (by omega)
       clear hx x1
       go_wp2_with (first
       | (refine wpList_load_row rfl 62 (.tmp 6) rfl w.heap.size rfl 62 cs (0, 0) _ (by rw [← HCS.out]; exact HI.out.fr) Tryd.underlying62 rfl HS.out ?_)
       | (refine wpList_load_row rfl 55 (.tmp 9) rfl (w.heap.size + 1) rfl 55 qs (0, 0) _ (by rw [← HQS.out]; exact HI.out.pr) Tryd.underlying55 rfl HP.out ?_)
       | (go_at_call 49; (with_reducible refine (HGC.out _).mono ?_); rintro e w1 ⟨rfl, hb1⟩; have HI1 := Aside0.mk (HI.out.below hb1); clear HI hb1; have HI := HI1; clear HI1; have hce := (blk_cell (by rw [← HCS.out]; exact HI.out.fr) 10).trans HCE.out)
       | (go_at_call 80; (with_reducible refine (EI.put HFR.out HI.out HL.out HV.out).mono ?_); rintro e w2 ⟨rfl, hi⟩; have HI1 := Aside0.mk hi; clear HI hi; have HI := HI1; clear HI1))
       go_ret
       exact ⟨⟨_, rfl⟩, HI.out.done (by omega)⟩
      ·have f1 : decide (E < 0) = false := decide_eq_false (by omega)
       have f2 : decide (31 < E) = false := decide_eq_false (by omega)
       have w1 : wrap64 (E - 7) = E - 7 := sw64 (by omega) (by omega)
       have f3 : decide (G < E - 7) = true := decide_eq_true (by omega)
       clear hx x1 x2
       go_wp2_with (first
       | (refine wpList_load_row rfl 62 (.tmp 6) rfl w.heap.size rfl 62 cs (0, 0) _ (by rw [← HCS.out]; exact HI.out.fr) Tryd.underlying62 rfl HS.out ?_)
       | (refine wpList_load_row rfl 55 (.tmp 9) rfl (w.heap.size + 1) rfl 55 qs (0, 0) _ (by rw [← HQS.out]; exact HI.out.pr) Tryd.underlying55 rfl HP.out ?_)
       | (go_at_call 49; (with_reducible refine (HGC.out _).mono ?_); rintro e w1 ⟨rfl, hb1⟩; have HI1 := Aside0.mk (HI.out.below hb1); clear HI hb1; have HI := HI1; clear HI1; have hce := (blk_cell (by rw [← HCS.out]; exact HI.out.fr) 10).trans HCE.out)
       | (go_at_call 80; (with_reducible refine (EI.put HFR.out HI.out HL.out HV.out).mono ?_); rintro e w2 ⟨rfl, hi⟩; have HI1 := Aside0.mk hi; clear HI hi; have HI := HI1; clear HI1))
       go_ret
       exact ⟨⟨_, rfl⟩, HI.out.done (by omega)⟩
      ·have f1 : decide (E < 0) = false := decide_eq_false (by omega)
       have f2 : decide (31 < E) = false := decide_eq_false (by omega)
       have w1 : wrap64 (E - 7) = E - 7 := sw64 (by omega) (by omega)
       have w2 : wrap64 (E + 7) = E + 7 := sw64 (by omega) (by omega)
       have f3 : decide (G < E - 7) = false := decide_eq_false (by omega)
       have f4 : decide (E + 7 < G) = true := decide_eq_true (by omega)
       clear hx x1 x2 x3
       go_wp2_with (first
       | (refine wpList_load_row rfl 62 (.tmp 6) rfl w.heap.size rfl 62 cs (0, 0) _ (by rw [← HCS.out]; exact HI.out.fr) Tryd.underlying62 rfl HS.out ?_)
       | (refine wpList_load_row rfl 55 (.tmp 9) rfl (w.heap.size + 1) rfl 55 qs (0, 0) _ (by rw [← HQS.out]; exact HI.out.pr) Tryd.underlying55 rfl HP.out ?_)
       | (go_at_call 49; (with_reducible refine (HGC.out _).mono ?_); rintro e w1 ⟨rfl, hb1⟩; have HI1 := Aside0.mk (HI.out.below hb1); clear HI hb1; have HI := HI1; clear HI1; have hce := (blk_cell (by rw [← HCS.out]; exact HI.out.fr) 10).trans HCE.out)
       | (go_at_call 80; (with_reducible refine (EI.put HFR.out HI.out HL.out HV.out).mono ?_); rintro e w2 ⟨rfl, hi⟩; have HI1 := Aside0.mk hi; clear HI hi; have HI := HI1; clear HI1))
       go_ret
       exact ⟨⟨_, rfl⟩, HI.out.done (by omega)⟩
      ·have f1 : decide (E < 0) = false := decide_eq_false (by omega)
       have f2 : decide (31 < E) = false := decide_eq_false (by omega)
       have w1 : wrap64 (E - 7) = E - 7 := sw64 (by omega) (by omega)
       have w2 : wrap64 (E + 7) = E + 7 := sw64 (by omega) (by omega)
       have f3 : decide (G < E - 7) = false := decide_eq_false (by omega)
       have f4 : decide (E + 7 < G) = false := decide_eq_false (by omega)
       have w3 : wrap64 (E - G) = E - G := sw64 (by omega) (by omega)
       have HV : Aside0 (okS (E - G)) := ⟨by omega, by omega⟩
       clear x1 x2 x3 x4
       go_wp2_with (first
       | (refine wpList_load_row rfl 62 (.tmp 6) rfl w.heap.size rfl 62 cs (0, 0) _ (by rw [← HCS.out]; exact HI.out.fr) Tryd.underlying62 rfl HS.out ?_)
       | (refine wpList_load_row rfl 55 (.tmp 9) rfl (w.heap.size + 1) rfl 55 qs (0, 0) _ (by rw [← HQS.out]; exact HI.out.pr) Tryd.underlying55 rfl HP.out ?_)
       | (go_at_call 49; (with_reducible refine (HGC.out _).mono ?_); rintro e w1 ⟨rfl, hb1⟩; have HI1 := Aside0.mk (HI.out.below hb1); clear HI hb1; have HI := HI1; clear HI1; have hce := (blk_cell (by rw [← HCS.out]; exact HI.out.fr) 10).trans HCE.out)
       | (go_at_call 80; (with_reducible refine (EI.put HFR.out HI.out HL.out HV.out).mono ?_); rintro e w2 ⟨rfl, hi⟩; have HI1 := Aside0.mk hi; clear HI hi; have HI := HI1; clear HI1))
       go_roundw
       case rel => repeat (first | exact ⟨⟨1 + 1, by have := HCC.out; omega, rfl, HI⟩, rfl⟩ | apply Exists.intro)
       case measure => simp [intOf]; have := HCC.out; omega
     ·have d2 : decide ((1 : Int) < ((c : Nat) : Int)) = true := decide_eq_true (by have := HCC.out; omega)
      have HGC : Aside0 (∀ w, Calls Tryd.prog 49 #[.agg cs, .agg qs, .int .i64 1, .int .i64 1] w fun e w' => e = .returned (.int .i64 G) ∧ Below w.heap.size w w') := ⟨HGG.out⟩
      clear HGG
      rcases HX.out with hx | ⟨x1, hx⟩ | ⟨x1, x2, hx⟩ | ⟨x1, x2, x3, hx⟩ | ⟨x1, x2, x3, x4⟩
      ·have f1 : decide (E < 0) = true := decide_eq_true (by omega)
       clear hx
       go_wp2_with (first
       | (refine wpList_load_row rfl 62 (.tmp 6) rfl w.heap.size rfl 62 cs (0, 0) _ (by rw [← HCS.out]; exact HI.out.fr) Tryd.underlying62 rfl HS.out ?_)
       | (refine wpList_load_row rfl 55 (.tmp 9) rfl (w.heap.size + 1) rfl 55 qs (0, 0) _ (by rw [← HQS.out]; exact HI.out.pr) Tryd.underlying55 rfl HP.out ?_)
       | (go_at_call 49; (with_reducible refine (HGC.out _).mono ?_); rintro e w1 ⟨rfl, hb1⟩; have HI1 := Aside0.mk (HI.out.below hb1); clear HI hb1; have HI := HI1; clear HI1; have hce := (blk_cell (by rw [← HCS.out]; exact HI.out.fr) 11).trans HCE.out)
       | (go_at_call 80; (with_reducible refine (EI.put HFR.out HI.out HL.out HV.out).mono ?_); rintro e w2 ⟨rfl, hi⟩; have HI1 := Aside0.mk hi; clear HI hi; have HI := HI1; clear HI1))
       go_ret
       exact ⟨⟨_, rfl⟩, HI.out.done (by omega)⟩
      ·have f1 : decide (E < 0) = false := decide_eq_false (by omega)
       have f2 : decide (31 < E) = true := decide_eq_true (by omega)
       clear hx x1
       go_wp2_with (first
       | (refine wpList_load_row rfl 62 (.tmp 6) rfl w.heap.size rfl 62 cs (0, 0) _ (by rw [← HCS.out]; exact HI.out.fr) Tryd.underlying62 rfl HS.out ?_)
       | (refine wpList_load_row rfl 55 (.tmp 9) rfl (w.heap.size + 1) rfl 55 qs (0, 0) _ (by rw [← HQS.out]; exact HI.out.pr) Tryd.underlying55 rfl HP.out ?_)
       | (go_at_call 49; (with_reducible refine (HGC.out _).mono ?_); rintro e w1 ⟨rfl, hb1⟩; have HI1 := Aside0.mk (HI.out.below hb1); clear HI hb1; have HI := HI1; clear HI1; have hce := (blk_cell (by rw [← HCS.out]; exact HI.out.fr) 11).trans HCE.out)
       | (go_at_call 80; (with_reducible refine (EI.put HFR.out HI.out HL.out HV.out).mono ?_); rintro e w2 ⟨rfl, hi⟩; have HI1 := Aside0.mk hi; clear HI hi; have HI := HI1; clear HI1))
       go_ret
       exact ⟨⟨_, rfl⟩, HI.out.done (by omega)⟩
      ·have f1 : decide (E < 0) = false := decide_eq_false (by omega)
       have f2 : decide (31 < E) = false := decide_eq_false (by omega)
       have w1 : wrap64 (E - 7) = E - 7 := sw64 (by omega) (by omega)
       have f3 : decide (G < E - 7) = true := decide_eq_true (by omega)
       clear hx x1 x2
       go_wp2_with (first
       | (refine wpList_load_row rfl 62 (.tmp 6) rfl w.heap.size rfl 62 cs (0, 0) _ (by rw [← HCS.out]; exact HI.out.fr) Tryd.underlying62 rfl HS.out ?_)
       | (refine wpList_load_row rfl 55 (.tmp 9) rfl (w.heap.size + 1) rfl 55 qs (0, 0) _ (by rw [← HQS.out]; exact HI.out.pr) Tryd.underlying55 rfl HP.out ?_)
       | (go_at_call 49; (with_reducible refine (HGC.out _).mono ?_); rintro e w1 ⟨rfl, hb1⟩; have HI1 := Aside0.mk (HI.out.below hb1); clear HI hb1; have HI := HI1; clear HI1; have hce := (blk_cell (by rw [← HCS.out]; exact HI.out.fr) 11).trans HCE.out)
       | (go_at_call 80; (with_reducible refine (EI.put HFR.out HI.out HL.out HV.out).mono ?_); rintro e w2 ⟨rfl, hi⟩; have HI1 := Aside0.mk hi; clear HI hi; have HI := HI1; clear HI1))
       go_ret
       exact ⟨⟨_, rfl⟩, HI.out.done (by omega)⟩
      ·have f1 : decide (E < 0) = false := decide_eq_false (by omega)
       have f2 : decide (31 < E) = false := decide_eq_false (by omega)
       have w1 : wrap64 (E - 7) = E - 7 := sw64 (by omega) (by omega)
       have w2 : wrap64 (E + 7) = E + 7 := sw64 (by omega) (by omega)
       have f3 : decide (G < E - 7) = false := decide_eq_false (by omega)
       have f4 : decide (E + 7 < G) = true := decide_eq_true (by omega)
       clear hx x1 x2 x3
       go_wp2_with (first
       | (refine wpList_load_row rfl 62 (.tmp 6) rfl w.heap.size rfl 62 cs (0, 0) _ (by rw [← HCS.out]; exact HI.out.fr) Tryd.underlying62 rfl HS.out ?_)
       | (refine wpList_load_row rfl 55 (.tmp 9) rfl (w.heap.size + 1) rfl 55 qs (0, 0) _ (by rw [← HQS.out]; exact HI.out.pr) Tryd.underlying55 rfl HP.out ?_)
       | (go_at_call 49; (with_reducible refine (HGC.out _).mono ?_); rintro e w1 ⟨rfl, hb1⟩; have HI1 := Aside0.mk (HI.out.below hb1); clear HI hb1; have HI := HI1; clear HI1; have hce := (blk_cell (by rw [← HCS.out]; exact HI.out.fr) 11).trans HCE.out)
       | (go_at_call 80; (with_reducible refine (EI.put HFR.out HI.out HL.out HV.out).mono ?_); rintro e w2 ⟨rfl, hi⟩; have HI1 := Aside0.mk hi; clear HI hi; have HI := HI1; clear HI1))
       go_ret
       exact ⟨⟨_, rfl⟩, HI.out.done (by omega)⟩
      ·have f1 : decide (E < 0) = false := decide_eq_false (by omega)
       have f2 : decide (31 < E) = false := decide_eq_false (by omega)
       have w1 : wrap64 (E - 7) = E - 7 := sw64 (by omega) (by omega)
       have w2 : wrap64 (E + 7) = E + 7 := sw64 (by omega) (by omega)
       have f3 : decide (G < E - 7) = false := decide_eq_false (by omega)
       have f4 : decide (E + 7 < G) = false := decide_eq_false (by omega)
       have w3 : wrap64 (E - G) = E - G := sw64 (by omega) (by omega)
       have HV : Aside0 (okS (E - G)) := ⟨by omega, by omega⟩
       clear x1 x2 x3 x4
       go_wp2_with (first
       | (refine wpList_load_row rfl 62 (.tmp 6) rfl w.heap.size rfl 62 cs (0, 0) _ (by rw [← HCS.out]; exact HI.out.fr) Tryd.underlying62 rfl HS.out ?_)
       | (refine wpList_load_row rfl 55 (.tmp 9) rfl (w.heap.size + 1) rfl 55 qs (0, 0) _ (by rw [← HQS.out]; exact HI.out.pr) Tryd.underlying55 rfl HP.out ?_)
       | (go_at_call 49; (with_reducible refine (HGC.out _).mono ?_); rintro e w1 ⟨rfl, hb1⟩; have HI1 := Aside0.mk (HI.out.below hb1); clear HI hb1; have HI := HI1; clear HI1; have hce := (blk_cell (by rw [← HCS.out]; exact HI.out.fr) 11).trans HCE.out)
       | (go_at_call 80; (with_reducible refine (EI.put HFR.out HI.out HL.out HV.out).mono ?_); rintro e w2 ⟨rfl, hi⟩; have HI1 := Aside0.mk hi; clear HI hi; have HI := HI1; clear HI1))
       go_roundw
       case rel => repeat (first | exact ⟨⟨1 + 1, by have := HCC.out; omega, rfl, HI⟩, rfl⟩ | apply Exists.intro)
       case measure => simp [intOf]; have := HCC.out; omega
     ·have d2 : decide ((1 : Int) < ((c : Nat) : Int)) = true := decide_eq_true (by have := HCC.out; omega)
      have HGC : Aside0 (∀ w, Calls Tryd.prog 49 #[.agg cs, .agg qs, .int .i64 1, .int .i64 2] w fun e w' => e = .returned (.int .i64 G) ∧ Below w.heap.size w w') := ⟨HGG.out⟩
      clear HGG
      rcases HX.out with hx | ⟨x1, hx⟩ | ⟨x1, x2, hx⟩ | ⟨x1, x2, x3, hx⟩ | ⟨x1, x2, x3, x4⟩
      ·have f1 : decide (E < 0) = true := decide_eq_true (by omega)
       clear hx
       go_wp2_with (first
       | (refine wpList_load_row rfl 62 (.tmp 6) rfl w.heap.size rfl 62 cs (0, 0) _ (by rw [← HCS.out]; exact HI.out.fr) Tryd.underlying62 rfl HS.out ?_)
       | (refine wpList_load_row rfl 55 (.tmp 9) rfl (w.heap.size + 1) rfl 55 qs (0, 0) _ (by rw [← HQS.out]; exact HI.out.pr) Tryd.underlying55 rfl HP.out ?_)
       | (go_at_call 49; (with_reducible refine (HGC.out _).mono ?_); rintro e w1 ⟨rfl, hb1⟩; have HI1 := Aside0.mk (HI.out.below hb1); clear HI hb1; have HI := HI1; clear HI1; have hce := (blk_cell (by rw [← HCS.out]; exact HI.out.fr) 12).trans HCE.out)
       | (go_at_call 80; (with_reducible refine (EI.put HFR.out HI.out HL.out HV.out).mono ?_); rintro e w2 ⟨rfl, hi⟩; have HI1 := Aside0.mk hi; clear HI hi; have HI := HI1; clear HI1))
       go_ret
       exact ⟨⟨_, rfl⟩, HI.out.done (by omega)⟩
      ·have f1 : decide (E < 0) = false := decide_eq_false (by omega)
       have f2 : decide (31 < E) = true := decide_eq_true (by omega)
       clear hx x1
       go_wp2_with (first
       | (refine wpList_load_row rfl 62 (.tmp 6) rfl w.heap.size rfl 62 cs (0, 0) _ (by rw [← HCS.out]; exact HI.out.fr) Tryd.underlying62 rfl HS.out ?_)
       | (refine wpList_load_row rfl 55 (.tmp 9) rfl (w.heap.size + 1) rfl 55 qs (0, 0) _ (by rw [← HQS.out]; exact HI.out.pr) Tryd.underlying55 rfl HP.out ?_)
       | (go_at_call 49; (with_reducible refine (HGC.out _).mono ?_); rintro e w1 ⟨rfl, hb1⟩; have HI1 := Aside0.mk (HI.out.below hb1); clear HI hb1; have HI := HI1; clear HI1; have hce := (blk_cell (by rw [← HCS.out]; exact HI.out.fr) 12).trans HCE.out)
       | (go_at_call 80; (with_reducible refine (EI.put HFR.out HI.out HL.out HV.out).mono ?_); rintro e w2 ⟨rfl, hi⟩; have HI1 := Aside0.mk hi; clear HI hi; have HI := HI1; clear HI1))
       go_ret
       exact ⟨⟨_, rfl⟩, HI.out.done (by omega)⟩
      ·have f1 : decide (E < 0) = false := decide_eq_false (by omega)
       have f2 : decide (31 < E) = false := decide_eq_false (by omega)
       have w1 : wrap64 (E - 7) = E - 7 := sw64 (by omega) (by omega)
       have f3 : decide (G < E - 7) = true := decide_eq_true (by omega)
       clear hx x1 x2
       go_wp2_with (first
       | (refine wpList_load_row rfl 62 (.tmp 6) rfl w.heap.size rfl 62 cs (0, 0) _ (by rw [← HCS.out]; exact HI.out.fr) Tryd.underlying62 rfl HS.out ?_)
       | (refine wpList_load_row rfl 55 (.tmp 9) rfl (w.heap.size + 1) rfl 55 qs (0, 0) _ (by rw [← HQS.out]; exact HI.out.pr) Tryd.underlying55 rfl HP.out ?_)
       | (go_at_call 49; (with_reducible refine (HGC.out _).mono ?_); rintro e w1 ⟨rfl, hb1⟩; have HI1 := Aside0.mk (HI.out.below hb1); clear HI hb1; have HI := HI1; clear HI1; have hce := (blk_cell (by rw [← HCS.out]; exact HI.out.fr) 12).trans HCE.out)
       | (go_at_call 80; (with_reducible refine (EI.put HFR.out HI.out HL.out HV.out).mono ?_); rintro e w2 ⟨rfl, hi⟩; have HI1 := Aside0.mk hi; clear HI hi; have HI := HI1; clear HI1))
       go_ret
       exact ⟨⟨_, rfl⟩, HI.out.done (by omega)⟩
      ·have f1 : decide (E < 0) = false := decide_eq_false (by omega)
       have f2 : decide (31 < E) = false := decide_eq_false (by omega)
       have w1 : wrap64 (E - 7) = E - 7 := sw64 (by omega) (by omega)
       have w2 : wrap64 (E + 7) = E + 7 := sw64 (by omega) (by omega)
       have f3 : decide (G < E - 7) = false := decide_eq_false (by omega)
       have f4 : decide (E + 7 < G) = true := decide_eq_true (by omega)
       clear hx x1 x2 x3
       go_wp2_with (first
       | (refine wpList_load_row rfl 62 (.tmp 6) rfl w.heap.size rfl 62 cs (0, 0) _ (by rw [← HCS.out]; exact HI.out.fr) Tryd.underlying62 rfl HS.out ?_)
       | (refine wpList_load_row rfl 55 (.tmp 9) rfl (w.heap.size + 1) rfl 55 qs (0, 0) _ (by rw [← HQS.out]; exact HI.out.pr) Tryd.underlying55 rfl HP.out ?_)
       | (go_at_call 49; (with_reducible refine (HGC.out _).mono ?_); rintro e w1 ⟨rfl, hb1⟩; have HI1 := Aside0.mk (HI.out.below hb1); clear HI hb1; have HI := HI1; clear HI1; have hce := (blk_cell (by rw [← HCS.out]; exact HI.out.fr) 12).trans HCE.out)
       | (go_at_call 80; (with_reducible refine (EI.put HFR.out HI.out HL.out HV.out).mono ?_); rintro e w2 ⟨rfl, hi⟩; have HI1 := Aside0.mk hi; clear HI hi; have HI := HI1; clear HI1))
       go_ret
       exact ⟨⟨_, rfl⟩, HI.out.done (by omega)⟩
      ·have f1 : decide (E < 0) = false := decide_eq_false (by omega)
       have f2 : decide (31 < E) = false := decide_eq_false (by omega)
       have w1 : wrap64 (E - 7) = E - 7 := sw64 (by omega) (by omega)
       have w2 : wrap64 (E + 7) = E + 7 := sw64 (by omega) (by omega)
       have f3 : decide (G < E - 7) = false := decide_eq_false (by omega)
       have f4 : decide (E + 7 < G) = false := decide_eq_false (by omega)
       have w3 : wrap64 (E - G) = E - G := sw64 (by omega) (by omega)
       have HV : Aside0 (okS (E - G)) := ⟨by omega, by omega⟩
       clear x1 x2 x3 x4
       go_wp2_with (first
       | (refine wpList_load_row rfl 62 (.tmp 6) rfl w.heap.size rfl 62 cs (0, 0) _ (by rw [← HCS.out]; exact HI.out.fr) Tryd.underlying62 rfl HS.out ?_)
       | (refine wpList_load_row rfl 55 (.tmp 9) rfl (w.heap.size + 1) rfl 55 qs (0, 0) _ (by rw [← HQS.out]; exact HI.out.pr) Tryd.underlying55 rfl HP.out ?_)
       | (go_at_call 49; (with_reducible refine (HGC.out _).mono ?_); rintro e w1 ⟨rfl, hb1⟩; have HI1 := Aside0.mk (HI.out.below hb1); clear HI hb1; have HI := HI1; clear HI1; have hce := (blk_cell (by rw [← HCS.out]; exact HI.out.fr) 12).trans HCE.out)
       | (go_at_call 80; (with_reducible refine (EI.put HFR.out HI.out HL.out HV.out).mono ?_); rintro e w2 ⟨rfl, hi⟩; have HI1 := Aside0.mk hi; clear HI hi; have HI := HI1; clear HI1))
       go_roundw
       case rel => repeat (first | exact ⟨⟨1 + 1, by have := HCC.out; omega, rfl, HI⟩, rfl⟩ | apply Exists.intro)
       case measure => simp [intOf]; have := HCC.out; omega
     ·have d2 : decide ((1 : Int) < ((c : Nat) : Int)) = true := decide_eq_true (by have := HCC.out; omega)
      have HGC : Aside0 (∀ w, Calls Tryd.prog 49 #[.agg cs, .agg qs, .int .i64 1, .int .i64 3] w fun e w' => e = .returned (.int .i64 G) ∧ Below w.heap.size w w') := ⟨HGG.out⟩
      clear HGG
      rcases HX.out with hx | ⟨x1, hx⟩ | ⟨x1, x2, hx⟩ | ⟨x1, x2, x3, hx⟩ | ⟨x1, x2, x3, x4⟩
      ·have f1 : decide (E < 0) = true := decide_eq_true (by omega)
       clear hx
       go_wp2_with (first
       | (refine wpList_load_row rfl 62 (.tmp 6) rfl w.heap.size rfl 62 cs (0, 0) _ (by rw [← HCS.out]; exact HI.out.fr) Tryd.underlying62 rfl HS.out ?_)
       | (refine wpList_load_row rfl 55 (.tmp 9) rfl (w.heap.size + 1) rfl 55 qs (0, 0) _ (by rw [← HQS.out]; exact HI.out.pr) Tryd.underlying55 rfl HP.out ?_)
       | (go_at_call 49; (with_reducible refine (HGC.out _).mono ?_); rintro e w1 ⟨rfl, hb1⟩; have HI1 := Aside0.mk (HI.out.below hb1); clear HI hb1; have HI := HI1; clear HI1; have hce := (blk_cell (by rw [← HCS.out]; exact HI.out.fr) 13).trans HCE.out)
       | (go_at_call 80; (with_reducible refine (EI.put HFR.out HI.out HL.out HV.out).mono ?_); rintro e w2 ⟨rfl, hi⟩; have HI1 := Aside0.mk hi; clear HI hi; have HI := HI1; clear HI1))
       go_ret
       exact ⟨⟨_, rfl⟩, HI.out.done (by omega)⟩
      ·have f1 : decide (E < 0) = false := decide_eq_false (by omega)
       have f2 : decide (31 < E) = true := decide_eq_true (by omega)
       clear hx x1
       go_wp2_with (first
       | (refine wpList_load_row rfl 62 (.tmp 6) rfl w.heap.size rfl 62 cs (0, 0) _ (by rw [← HCS.out]; exact HI.out.fr) Tryd.underlying62 rfl HS.out ?_)
       | (refine wpList_load_row rfl 55 (.tmp 9) rfl (w.heap.size + 1) rfl 55 qs (0, 0) _ (by rw [← HQS.out]; exact HI.out.pr) Tryd.underlying55 rfl HP.out ?_)
       | (go_at_call 49; (with_reducible refine (HGC.out _).mono ?_); rintro e w1 ⟨rfl, hb1⟩; have HI1 := Aside0.mk (HI.out.below hb1); clear HI hb1; have HI := HI1; clear HI1; have hce := (blk_cell (by rw [← HCS.out]; exact HI.out.fr) 13).trans HCE.out)
       | (go_at_call 80; (with_reducible refine (EI.put HFR.out HI.out HL.out HV.out).mono ?_); rintro e w2 ⟨rfl, hi⟩; have HI1 := Aside0.mk hi; clear HI hi; have HI := HI1; clear HI1))
       go_ret
       exact ⟨⟨_, rfl⟩, HI.out.done (by omega)⟩
      ·have f1 : decide (E < 0) = false := decide_eq_false (by omega)
       have f2 : decide (31 < E) = false := decide_eq_false (by omega)
       have w1 : wrap64 (E - 7) = E - 7 := sw64 (by omega) (by omega)
       have f3 : decide (G < E - 7) = true := decide_eq_true (by omega)
       clear hx x1 x2
       go_wp2_with (first
       | (refine wpList_load_row rfl 62 (.tmp 6) rfl w.heap.size rfl 62 cs (0, 0) _ (by rw [← HCS.out]; exact HI.out.fr) Tryd.underlying62 rfl HS.out ?_)
       | (refine wpList_load_row rfl 55 (.tmp 9) rfl (w.heap.size + 1) rfl 55 qs (0, 0) _ (by rw [← HQS.out]; exact HI.out.pr) Tryd.underlying55 rfl HP.out ?_)
       | (go_at_call 49; (with_reducible refine (HGC.out _).mono ?_); rintro e w1 ⟨rfl, hb1⟩; have HI1 := Aside0.mk (HI.out.below hb1); clear HI hb1; have HI := HI1; clear HI1; have hce := (blk_cell (by rw [← HCS.out]; exact HI.out.fr) 13).trans HCE.out)
       | (go_at_call 80; (with_reducible refine (EI.put HFR.out HI.out HL.out HV.out).mono ?_); rintro e w2 ⟨rfl, hi⟩; have HI1 := Aside0.mk hi; clear HI hi; have HI := HI1; clear HI1))
       go_ret
       exact ⟨⟨_, rfl⟩, HI.out.done (by omega)⟩
      ·have f1 : decide (E < 0) = false := decide_eq_false (by omega)
       have f2 : decide (31 < E) = false := decide_eq_false (by omega)
       have w1 : wrap64 (E - 7) = E - 7 := sw64 (by omega) (by omega)
       have w2 : wrap64 (E + 7) = E + 7 := sw64 (by omega) (by omega)
       have f3 : decide (G < E - 7) = false := decide_eq_false (by omega)
       have f4 : decide (E + 7 < G) = true := decide_eq_true (by omega)
       clear hx x1 x2 x3
       go_wp2_with (first
       | (refine wpList_load_row rfl 62 (.tmp 6) rfl w.heap.size rfl 62 cs (0, 0) _ (by rw [← HCS.out]; exact HI.out.fr) Tryd.underlying62 rfl HS.out ?_)
       | (refine wpList_load_row rfl 55 (.tmp 9) rfl (w.heap.size + 1) rfl 55 qs (0, 0) _ (by rw [← HQS.out]; exact HI.out.pr) Tryd.underlying55 rfl HP.out ?_)
       | (go_at_call 49; (with_reducible refine (HGC.out _).mono ?_); rintro e w1 ⟨rfl, hb1⟩; have HI1 := Aside0.mk (HI.out.below hb1); clear HI hb1; have HI := HI1; clear HI1; have hce := (blk_cell (by rw [← HCS.out]; exact HI.out.fr) 13).trans HCE.out)
       | (go_at_call 80; (with_reducible refine (EI.put HFR.out HI.out HL.out HV.out).mono ?_); rintro e w2 ⟨rfl, hi⟩; have HI1 := Aside0.mk hi; clear HI hi; have HI := HI1; clear HI1))
       go_ret
       exact ⟨⟨_, rfl⟩, HI.out.done (by omega)⟩
      ·have f1 : decide (E < 0) = false := decide_eq_false (by omega)
       have f2 : decide (31 < E) = false := decide_eq_false (by omega)
       have w1 : wrap64 (E - 7) = E - 7 := sw64 (by omega) (by omega)
       have w2 : wrap64 (E + 7) = E + 7 := sw64 (by omega) (by omega)
       have f3 : decide (G < E - 7) = false := decide_eq_false (by omega)
       have f4 : decide (E + 7 < G) = false := decide_eq_false (by omega)
       have w3 : wrap64 (E - G) = E - G := sw64 (by omega) (by omega)
       have HV : Aside0 (okS (E - G)) := ⟨by omega, by omega⟩
       clear x1 x2 x3 x4
       go_wp2_with (first
       | (refine wpList_load_row rfl 62 (.tmp 6) rfl w.heap.size rfl 62 cs (0, 0) _ (by rw [← HCS.out]; exact HI.out.fr) Tryd.underlying62 rfl HS.out ?_)
       | (refine wpList_load_row rfl 55 (.tmp 9) rfl (w.heap.size + 1) rfl 55 qs (0, 0) _ (by rw [← HQS.out]; exact HI.out.pr) Tryd.underlying55 rfl HP.out ?_)
       | (go_at_call 49; (with_reducible refine (HGC.out _).mono ?_); rintro e w1 ⟨rfl, hb1⟩; have HI1 := Aside0.mk (HI.out.below hb1); clear HI hb1; have HI := HI1; clear HI1; have hce := (blk_cell (by rw [← HCS.out]; exact HI.out.fr) 13).trans HCE.out)
       | (go_at_call 80; (with_reducible refine (EI.put HFR.out HI.out HL.out HV.out).mono ?_); rintro e w2 ⟨rfl, hi⟩; have HI1 := Aside0.mk hi; clear HI hi; have HI := HI1; clear HI1))
       go_roundw
       case rel => repeat (first | exact ⟨⟨1 + 1, by have := HCC.out; omega, rfl, HI⟩, rfl⟩ | apply Exists.intro)
       case measure => simp [intOf]; have := HCC.out; omega
     ·have d2 : decide ((1 : Int) < ((c : Nat) : Int)) = true := decide_eq_true (by have := HCC.out; omega)
      have HGC : Aside0 (∀ w, Calls Tryd.prog 49 #[.agg cs, .agg qs, .int .i64 1, .int .i64 4] w fun e w' => e = .returned (.int .i64 G) ∧ Below w.heap.size w w') := ⟨HGG.out⟩
      clear HGG
      rcases HX.out with hx | ⟨x1, hx⟩ | ⟨x1, x2, hx⟩ | ⟨x1, x2, x3, hx⟩ | ⟨x1, x2, x3, x4⟩
      ·have f1 : decide (E < 0) = true := decide_eq_true (by omega)
       clear hx
       go_wp2_with (first
       | (refine wpList_load_row rfl 62 (.tmp 6) rfl w.heap.size rfl 62 cs (0, 0) _ (by rw [← HCS.out]; exact HI.out.fr) Tryd.underlying62 rfl HS.out ?_)
       | (refine wpList_load_row rfl 55 (.tmp 9) rfl (w.heap.size + 1) rfl 55 qs (0, 0) _ (by rw [← HQS.out]; exact HI.out.pr) Tryd.underlying55 rfl HP.out ?_)
       | (go_at_call 49; (with_reducible refine (HGC.out _).mono ?_); rintro e w1 ⟨rfl, hb1⟩; have HI1 := Aside0.mk (HI.out.below hb1); clear HI hb1; have HI := HI1; clear HI1; have hce := (blk_cell (by rw [← HCS.out]; exact HI.out.fr) 14).trans HCE.out)
       | (go_at_call 80; (with_reducible refine (EI.put HFR.out HI.out HL.out HV.out).mono ?_); rintro e w2 ⟨rfl, hi⟩; have HI1 := Aside0.mk hi; clear HI hi; have HI := HI1; clear HI1))
       go_ret
       exact ⟨⟨_, rfl⟩, HI.out.done (by omega)⟩
      ·have f1 : decide (E < 0) = false := decide_eq_false (by omega)
       have f2 : decide (31 < E) = true := decide_eq_true (by omega)
       clear hx x1
       go_wp2_with (first
       | (refine wpList_load_row rfl 62 (.tmp 6) rfl w.heap.size rfl 62 cs (0, 0) _ (by rw [← HCS.out]; exact HI.out.fr) Tryd.underlying62 rfl HS.out ?_)
       | (refine wpList_load_row rfl 55 (.tmp 9) rfl (w.heap.size + 1) rfl 55 qs (0, 0) _ (by rw [← HQS.out]; exact HI.out.pr) Tryd.underlying55 rfl HP.out ?_)
       | (go_at_call 49; (with_reducible refine (HGC.out _).mono ?_); rintro e w1 ⟨rfl, hb1⟩; have HI1 := Aside0.mk (HI.out.below hb1); clear HI hb1; have HI := HI1; clear HI1; have hce := (blk_cell (by rw [← HCS.out]; exact HI.out.fr) 14).trans HCE.out)
       | (go_at_call 80; (with_reducible refine (EI.put HFR.out HI.out HL.out HV.out).mono ?_); rintro e w2 ⟨rfl, hi⟩; have HI1 := Aside0.mk hi; clear HI hi; have HI := HI1; clear HI1))
       go_ret
       exact ⟨⟨_, rfl⟩, HI.out.done (by omega)⟩
      ·have f1 : decide (E < 0) = false := decide_eq_false (by omega)
       have f2 : decide (31 < E) = false := decide_eq_false (by omega)
       have w1 : wrap64 (E - 7) = E - 7 := sw64 (by omega) (by omega)
       have f3 : decide (G < E - 7) = true := decide_eq_true (by omega)
       clear hx x1 x2
       go_wp2_with (first
       | (refine wpList_load_row rfl 62 (.tmp 6) rfl w.heap.size rfl 62 cs (0, 0) _ (by rw [← HCS.out]; exact HI.out.fr) Tryd.underlying62 rfl HS.out ?_)
       | (refine wpList_load_row rfl 55 (.tmp 9) rfl (w.heap.size + 1) rfl 55 qs (0, 0) _ (by rw [← HQS.out]; exact HI.out.pr) Tryd.underlying55 rfl HP.out ?_)
       | (go_at_call 49; (with_reducible refine (HGC.out _).mono ?_); rintro e w1 ⟨rfl, hb1⟩; have HI1 := Aside0.mk (HI.out.below hb1); clear HI hb1; have HI := HI1; clear HI1; have hce := (blk_cell (by rw [← HCS.out]; exact HI.out.fr) 14).trans HCE.out)
       | (go_at_call 80; (with_reducible refine (EI.put HFR.out HI.out HL.out HV.out).mono ?_); rintro e w2 ⟨rfl, hi⟩; have HI1 := Aside0.mk hi; clear HI hi; have HI := HI1; clear HI1))
       go_ret
       exact ⟨⟨_, rfl⟩, HI.out.done (by omega)⟩
      ·have f1 : decide (E < 0) = false := decide_eq_false (by omega)
       have f2 : decide (31 < E) = false := decide_eq_false (by omega)
       have w1 : wrap64 (E - 7) = E - 7 := sw64 (by omega) (by omega)
       have w2 : wrap64 (E + 7) = E + 7 := sw64 (by omega) (by omega)
       have f3 : decide (G < E - 7) = false := decide_eq_false (by omega)
       have f4 : decide (E + 7 < G) = true := decide_eq_true (by omega)
       clear hx x1 x2 x3
       go_wp2_with (first
       | (refine wpList_load_row rfl 62 (.tmp 6) rfl w.heap.size rfl 62 cs (0, 0) _ (by rw [← HCS.out]; exact HI.out.fr) Tryd.underlying62 rfl HS.out ?_)
       | (refine wpList_load_row rfl 55 (.tmp 9) rfl (w.heap.size + 1) rfl 55 qs (0, 0) _ (by rw [← HQS.out]; exact HI.out.pr) Tryd.underlying55 rfl HP.out ?_)
       | (go_at_call 49; (with_reducible refine (HGC.out _).mono ?_); rintro e w1 ⟨rfl, hb1⟩; have HI1 := Aside0.mk (HI.out.below hb1); clear HI hb1; have HI := HI1; clear HI1; have hce := (blk_cell (by rw [← HCS.out]; exact HI.out.fr) 14).trans HCE.out)
       | (go_at_call 80; (with_reducible refine (EI.put HFR.out HI.out HL.out HV.out).mono ?_); rintro e w2 ⟨rfl, hi⟩; have HI1 := Aside0.mk hi; clear HI hi; have HI := HI1; clear HI1))
       go_ret
       exact ⟨⟨_, rfl⟩, HI.out.done (by omega)⟩
      ·have f1 : decide (E < 0) = false := decide_eq_false (by omega)
       have f2 : decide (31 < E) = false := decide_eq_false (by omega)
       have w1 : wrap64 (E - 7) = E - 7 := sw64 (by omega) (by omega)
       have w2 : wrap64 (E + 7) = E + 7 := sw64 (by omega) (by omega)
       have f3 : decide (G < E - 7) = false := decide_eq_false (by omega)
       have f4 : decide (E + 7 < G) = false := decide_eq_false (by omega)
       have w3 : wrap64 (E - G) = E - G := sw64 (by omega) (by omega)
       have HV : Aside0 (okS (E - G)) := ⟨by omega, by omega⟩
       clear x1 x2 x3 x4
       go_wp2_with (first
       | (refine wpList_load_row rfl 62 (.tmp 6) rfl w.heap.size rfl 62 cs (0, 0) _ (by rw [← HCS.out]; exact HI.out.fr) Tryd.underlying62 rfl HS.out ?_)
       | (refine wpList_load_row rfl 55 (.tmp 9) rfl (w.heap.size + 1) rfl 55 qs (0, 0) _ (by rw [← HQS.out]; exact HI.out.pr) Tryd.underlying55 rfl HP.out ?_)
       | (go_at_call 49; (with_reducible refine (HGC.out _).mono ?_); rintro e w1 ⟨rfl, hb1⟩; have HI1 := Aside0.mk (HI.out.below hb1); clear HI hb1; have HI := HI1; clear HI1; have hce := (blk_cell (by rw [← HCS.out]; exact HI.out.fr) 14).trans HCE.out)
       | (go_at_call 80; (with_reducible refine (EI.put HFR.out HI.out HL.out HV.out).mono ?_); rintro e w2 ⟨rfl, hi⟩; have HI1 := Aside0.mk hi; clear HI hi; have HI := HI1; clear HI1))
       go_roundw
       case rel => repeat (first | exact ⟨⟨1 + 1, by have := HCC.out; omega, rfl, HI⟩, rfl⟩ | apply Exists.intro)
       case measure => simp [intOf]; have := HCC.out; omega
    ·obtain rfl : q = c := by omega
     have d2 : decide ((q : Int) < (q : Int)) = false := decide_eq_false (by omega)
     go_wp2
     go_roundw
     case rel => exact ⟨b + 1, by omega, congrArg (Value.int .i64) (by omega), ⟨HI.out.up (by omega)⟩⟩
     case measure => simp [intOf]; omega
  ·obtain rfl : b = s + 3 := by omega
   have d1 : decide (((s + 3 : Nat) : Int) < ((s + 3 : Nat) : Int)) = false := decide_eq_false (by omega)
   go_wp2_with (first
    | (go_at_call 47; (with_reducible refine (HN.out _).mono ?_); rintro e w1 ⟨rfl, hb1⟩; have HI1 := Aside0.mk (HI.out.below hb1); clear HI hb1; have HI := HI1; clear HI1))
   go_ret
   exact ⟨⟨_, rfl⟩, HI.out.done (by omega)⟩
open Go.Proofs.YtjpnbdofbkoddaaDoor.OShapeSeeds Go.Proofs.YtjpnbdofbkoddaaDoor.Sy Go.Proofs.YtjpnbdofbkoddaaDoor.SyWalk
theorem slope_q {t b : Nat} (ht : t ≤ 7) (hb : b ≤ 4) (w : World) : Calls Tryd.prog 82 #[.int .i64 t, .int .i64 b] w fun e w' => e = .returned (.int .i64 (slo t b)) ∧ Drawn0 w w' := by
 have CB : Aside0 (∀ w, Calls Tryd.prog 58 #[.int .i64 b] w fun e w' => e = .returned (.tuple #[.int .i64 (bf b), .int .i64 (bw b)]) ∧ Drawn0 w w') := ⟨fun w => spinetref05_Band.calls 20 b _ _ w (band_is b hb)⟩
 have d1 : decide ((t : Int) < 0) = false := decide_eq_false (by omega)
 have d2 : decide ((7 : Int) < (t : Int)) = false := decide_eq_false (by omega)
 have hw := bw_in hb
 obtain ⟨W, hW⟩ : ∃ W : Int, (bw b : Int) = W := ⟨_, rfl⟩
 obtain ⟨T, hT⟩ : ∃ T : Int, (t : Int) = T := ⟨_, rfl⟩
 obtain ⟨F, hF⟩ : ∃ F, bf b = F := ⟨_, rfl⟩
 obtain ⟨P, hP⟩ : ∃ P : Int, (8 - T) * (b : Int) = P := ⟨_, rfl⟩
 obtain ⟨Q, hQ⟩ : ∃ Q : Int, 64 / W = Q := ⟨_, rfl⟩
 have hP1 : 0 ≤ P ∧ P ≤ 32 := by
  rw [← hP]
  rcases (by omega : b = 0 ∨ b = 1 ∨ b = 2 ∨ b = 3 ∨ b = 4) with rfl | rfl | rfl | rfl | rfl <;> omega
 have hQ1 : 0 ≤ Q ∧ Q ≤ 64 := by rw [← hQ]; exact ⟨Int.ediv_nonneg (by omega) (by omega), Int.ediv_le_self _ (by omega)⟩
 have hs : slo t b = Q + P := by unfold slo; rw [hW, hT, hQ, hP]
 rw [hs]
 rw [hT] at d1 d2 ⊢
 rw [hW, hF] at CB
 have e0 : ¬ W = 0 := by omega
 have e1 : Int.tdiv 64 W = Q := by rw [Int.tdiv_eq_ediv_of_nonneg (by omega), hQ]
 have e2 : wrap64 (Int.tdiv 64 W) = Q := by rw [e1]; exact sw64 (by omega) (by omega)
 have e2b : IntKind.i64.wrap (Int.tdiv 64 W) = Q := by rw [i64_w]; exact e2
 have e3 : wrap64 (8 - T) = 8 - T := sw64 (by omega) (by omega)
 have e3b : IntKind.i64.wrap (8 - T) = 8 - T := by rw [i64_w]; exact e3
 have e4 : wrap64 ((8 - T) * (b : Int)) = P := by rw [hP]; exact sw64 (by omega) (by omega)
 have e4b : IntKind.i64.wrap ((8 - T) * (b : Int)) = P := by rw [i64_w]; exact e4
 have e5 : wrap64 (Q + P) = Q + P := sw64 (by omega) (by omega)
 have e5b : IntKind.i64.wrap (Q + P) = Q + P := by rw [i64_w]; exact e5
 clear hs hW hT hF hP hQ hP1 hQ1 hw e1
 go_enter Tryd.func82, Tryd.ntmps82
 go_wp2_with (first
  | (go_at_call 58; (with_reducible refine (CB.out _).mono ?_); rintro e w1 ⟨rfl, ⟨nd, rfl⟩⟩))
 go_ret
 exact ⟨rfl, by repeat (first | exact Drawn0.refl _ | apply Drawn0.step)⟩
theorem lev_up {L : Nat} (h : L ≤ 3000) : wrap64 ((L : Int) + 1) = ((L + 1 : Nat) : Int) := (sw64 (by omega) (by omega)).trans (by omega)
theorem lev_meas {L : Nat} (h : L ≤ 3000) : (3001 - intOf (Value.int .i64 ((L + 1 : Nat) : Int))).toNat < (3001 - intOf (Value.int .i64 (L : Int))).toNat := by
 simp only [intOf]
 omega
theorem meas_up {s b : Nat} (hs : s ≤ 2) (h : b + 1 ≤ s + 3) : ((s : Int) + 3 - intOf (Value.int .i64 (wrap64 ((b : Int) + 1)))).toNat < ((s : Int) + 3 - intOf (Value.int .i64 (b : Int))).toNat := by
 rw [sw64 (x := (b : Int) + 1) (by omega) (by omega)]
 simp only [intOf]
 omega
theorem info113 : (Tryd.prog.info? 113).map (fun i => (i.zero, i.size, i.bytes)) = some (some (.slice none 0 0), 1, 24) := by kernel_rfl
def rowsTo (n : Nat) : List (List Int) := (List.range n).map (fun i => rowOf (bw i))
theorem rowsTo_succ (n : Nat) : rowsTo (n + 1) = rowsTo n ++ [rowOf (bw n)] := by simp [rowsTo, List.range_succ]
theorem rowsTo_len (n : Nat) : (rowsTo n).length = n := by simp [rowsTo]
theorem rowsTo_at {n i : Nat} (h : i < n) : (rowsTo n)[i]? = some (rowOf (bw i)) := by simp [rowsTo, h]
structure AI (w0 w : World) (ks : List Int) (v : Value) (n : Nat) : Prop where
 b : Below w0.heap.size w0 w
 k0 : ∃ zs : List Int, zs.length = 5 ∧ w.heap[w0.heap.size]? = some (.cells (zs.map (Value.int .i64)).toArray 54 (0, 0))
 k1 : w.heap[w0.heap.size + 1]? = some (.cells (ks.map (Value.int .i64)).toArray 54 (0, 0))
 kl : ks.length = 5
 kb : ∀ j, j < 5 → 0 ≤ ga ks j ∧ ga ks j ≤ 32
 r : Kd.R (Kd.slice 3 (Kd.int .i64)) 113 w w0.heap.size (fun _ => True) v (rowsTo n)
section
variable {w0 w w1 : World} {ks : List Int} {v : Value} {n : Nat}
theorem AI.below (h : AI w0 w ks v n) (hb : Below w.heap.size w w1) : AI w0 w1 ks v n := by
 obtain ⟨b, ⟨zs, hz, k0⟩, k1, kl, kb, r⟩ := h
 exact ⟨below_step b hb, ⟨zs, hz, blk_below k0 hb⟩, blk_below k1 hb, kl, kb, Kd.R_below r hb⟩
theorem ga_set {ks : List Int} {b : Nat} (h : b < ks.length) (y : Int) (j : Nat) : ga (ks.set b y) j = if j = b then y else ga ks j := by
 unfold ga
 rw [List.getD_eq_getElem?_getD, List.getD_eq_getElem?_getD, List.getElem?_set]
 by_cases e : b = j
 ·subst e; simp [h]
 ·rw [if_neg e, if_neg (fun h => e h.symm)]
theorem AI.set (h : AI w0 w ks v n) {b : Nat} (hb : b < 5) {y : Int} (hy : 0 ≤ y ∧ y ≤ 32) : AI w0 (w.setCell ⟨w0.heap.size + 1, b, none⟩ (.int .i64 y)) (ks.set b y) v n := by
 obtain ⟨b0, ⟨zs, hz, k0⟩, k1, kl, kb, r⟩ := h
 refine ⟨b0.setCell (p := ⟨w0.heap.size + 1, b, none⟩) (by show w0.heap.size ≤ w0.heap.size + 1; omega) _, ⟨zs, hz, blk_far k0 (p := ⟨w0.heap.size + 1, b, none⟩) (by show w0.heap.size ≠ w0.heap.size + 1; omega) _⟩, Arrs.blk_set1 (k := .i64) k1 b y, by simpa using kl, fun j hj => ?_, Kd.R_set r k1 (by simp [Kd.slice, Kd.int, Kd.scalar]) b _⟩
 rw [ga_set (by omega)]
 split
 ·exact hy
 ·exact kb j hj
theorem AI.start (w0 : World) : AI w0 ((w0.alloc (.cells #[.int .i64 0, .int .i64 0, .int .i64 0, .int .i64 0, .int .i64 0] 54)).alloc (.cells #[.int .i64 0, .int .i64 0, .int .i64 0, .int .i64 0, .int .i64 0] 54)) [0, 0, 0, 0, 0] (.slice none 0 0) 0 := by
 have n1 := blk_new w0 (.cells #[.int .i64 0, .int .i64 0, .int .i64 0, .int .i64 0, .int .i64 0] 54)
 have n2 := blk_new (w0.alloc (.cells #[.int .i64 0, .int .i64 0, .int .i64 0, .int .i64 0, .int .i64 0] 54)) (.cells #[.int .i64 0, .int .i64 0, .int .i64 0, .int .i64 0, .int .i64 0] 54)
 rw [show (w0.alloc (.cells #[.int .i64 0, .int .i64 0, .int .i64 0, .int .i64 0, .int .i64 0] 54)).heap.size = w0.heap.size + 1 by simp [World.alloc_eq]] at n2
 refine ⟨below_alloc (below_alloc (Below.refl _ _) _) _, ⟨[0, 0, 0, 0, 0], rfl, blk_alloc n1 _⟩, n2, rfl, ?_, Kd.R_nil _ _ _ _ _⟩
 intro j hj
 rcases (by omega : j = 0 ∨ j = 1 ∨ j = 2 ∨ j = 3 ∨ j = 4) with rfl | rfl | rfl | rfl | rfl <;> decide
theorem AI.grow (h : AI w0 w ks v n) {v1 : Value} (hR : Kd.R (Kd.slice 3 (Kd.int .i64)) 113 w1 w0.heap.size (fun _ => True) v1 (rowsTo n ++ [rowOf (bw n)])) (hb : Below w0.heap.size w0 w1) (hg : w.grownBy w1 v.ownBlock) : AI w0 w1 ks v1 (n + 1) := by
 obtain ⟨b, ⟨zs, hz, k0⟩, k1, kl, kb, r⟩ := h
 exact ⟨hb, ⟨zs, hz, blk_grown k0 hg (Kd.R_ne r k0 (by decide))⟩, blk_grown k1 hg (Kd.R_ne r k1 (by decide)), kl, kb, by rw [rowsTo_succ]; exact hR⟩
theorem AI.row {gb c : Nat} (h : AI w0 w ks (.slice (some ⟨gb, 0, none⟩) n c) n) {i : Nat} (hi : i < n) : ∃ Ab cb, w.cell? ⟨gb, i, none⟩ = some (.slice Ab (rowOf (bw i)).length cb) ∧ Kd.C (Kd.int .i64) w Ab (rowOf (bw i)).length (rowOf (bw i)) := by
 obtain ⟨A0, c1, hv, hl, hC⟩ := Kd.R_reads h.r
 rw [rowsTo_len] at hv hC
 injection hv with e1 e2 e3
 subst e1
 obtain ⟨ad, hA, hcell⟩ := hC.2.2 (by omega)
 injection hA with hA
 subst hA
 obtain ⟨cs, hcl, hK, hc⟩ := hcell i _ (rowsTo_at hi)
 obtain ⟨Ab, cb, rfl, hle, hCb⟩ := hK
 have := hc 0 _ rfl
 rw [Addr.add_mid] at this
 refine ⟨Ab, cb, ?_, hCb⟩
 simpa [Kd.slice] using this
theorem AI.slice (h : AI w0 w ks v n) (hn : 0 < n) : ∃ gb c, v = .slice (some ⟨gb, 0, none⟩) n c := by
 obtain ⟨inner, ho⟩ := Kd.R_own h.r
 rw [rowsTo_len] at ho
 rcases ho.2 with ⟨h1, h2⟩ | ⟨gb, cap, cur, h1, _⟩
 ·omega
 ·exact ⟨gb, cap, h1⟩
theorem row_len {b : Nat} (hb : b ≤ 4) : 1 ≤ (rowOf (bw b)).length ∧ (rowOf (bw b)).length ≤ 33 := (row_is ⟨b, by omega⟩).2.1 |> fun h => ⟨h, (row_is ⟨b, by omega⟩).2.2.1⟩
end
set_option maxHeartbeats 16000000 in
set_option maxRecDepth 100000 in
theorem alloc_call {s ch tr : Nat} (bud : Int) (hs : s ≤ 2) (htr : tr ≤ 7) (w : World) : Calls Tryd.prog 57 #[.int .i64 s, .int .i64 ch, .int .i64 tr, .int .i64 bud] w fun e w' => ∃ ks : List Int, ks.length = 5 ∧ (∀ j, j < 5 → 0 ≤ ga ks j ∧ ga ks j ≤ 32) ∧ e = .returned (.agg (ks.map (Value.int .i64)).toArray) ∧ Below w.heap.size w w' := by
 have HN := Aside0.mk (bands_call hs)
 have HI0 := Aside0.mk (AI.start w)
 have HS2 := Aside0.mk hs
 have HT := Aside0.mk htr
 clear hs htr
 go_enter Tryd.func57, Tryd.ntmps57
 go_wp2_with (first
  | (go_at_call 47; (with_reducible refine (HN.out _).mono ?_); rintro e w1 ⟨rfl, hb1⟩; have HI := Aside0.mk (HI0.out.below hb1); clear HI0 hb1))
 go_loopw [10, 12] (fun rv iv wr => ∃ (b : Nat) (A0 : Option Addr) (c0 : Nat), b ≤ s + 3 ∧ rv = .slice A0 b c0 ∧ iv = .int .i64 b ∧ Aside0 (AI w wr [0, 0, 0, 0, 0] (.slice A0 b c0) b)) (fun rv iv _ => (s + 3 - intOf iv).toNat)
 case atStart => exact ⟨0, none, 0, by omega, rfl, rfl, HI⟩
 case round =>
  obtain ⟨b, A0, c0, hb, rfl, rfl, HI2⟩ := hrel
  clear HI
  have HI := HI2
  clear HI2
  by_cases ht : b < s + 3
  ·have d1 : decide ((b : Int) < (s : Int) + 3) = true := decide_eq_true (by omega)
   have HB4 : Aside0 (b ≤ 4) := ⟨by have := HS2.out; omega⟩
   have HBB : Aside0 (b + 1 ≤ s + 3) := ⟨by omega⟩
   have HC58 := Aside0.mk (band_call HB4.out)
   have HC81 := Aside0.mk (row_call HB4.out)
   obtain ⟨W, hW⟩ : ∃ W : Int, (bw b : Int) = W := ⟨_, rfl⟩
   obtain ⟨row, hrow⟩ : ∃ r, rowOf (bw b) = r := ⟨_, rfl⟩
   rw [hW] at HC58 HC81
   rw [hrow] at HC81
   have HROW := Aside0.mk hrow
   clear hW ht hb hrow
   have wb : wrap64 ((b : Int) + 1) = (b : Int) + 1 := sw64 (by have := HB4.out; omega) (by have := HB4.out; omega)
   go_wp2_with (first
    | (go_at_call 58; (with_reducible refine (HC58.out _).mono ?_); rintro e w1 ⟨rfl, hb1⟩; have HI1 := Aside0.mk (HI.out.below hb1); clear HI hb1; have HI := HI1; clear HI1)
    | (go_at_call 81; (with_reducible refine (HC81.out _).mono ?_); rintro e w2 ⟨v, rfl, hv, hb1⟩; obtain ⟨Ab, cb, rfl⟩ := Kd.R_slice hv; have HMM := Aside0.mk (Kd.R_lower (Kd.R_new hv (Kd.R_own HI.out.r).choose_spec) HI.out.b.size); have HI1 := Aside0.mk (HI.out.below hb1); clear HI hb1 hv; have HI := HI1; clear HI1)
    | ((with_reducible refine gate_builtin (b := .append) (xs := #[.tmp 31, .tmp 34]) rfl ?_); at_builtin; refine Kd.R_append (Kd.slice 3 (Kd.int .i64)) (w0 := w) w.heap.size rfl (.tmp 31) (.tmp 34) 134 113 (.slice none 0 0) 24 rfl Tryd.underlying134 info113 rfl (by decide) (by decide) (.slice A0 b c0) (rowsTo b) row [.slice Ab row.length cb] (fun _ => True) (fun k => True ∧ some k ≠ (Value.slice A0 b c0).ownBlock) rfl rfl ⟨_, rfl, HMM.out⟩ (fun _ hk => hk) (fun _ _ => trivial) HI.out.r HI.out.b HI.out.b.size (by rw [rowsTo_len]; have := HB4.out; omega) ?_; intro v1 w3 hR hb2 hgr hat; have HI1 := Aside0.mk (HI.out.grow (by rw [HROW.out]; exact hR) hb2 hgr); obtain ⟨A2, c2, hv1⟩ := Kd.R_slice hR; rw [← HROW.out, ← rowsTo_succ, rowsTo_len] at hv1; subst hv1; clear HI hR hb2 hgr hat; have HI := HI1; clear HI1))
   go_roundw
   case rel => exact ⟨b + 1, A2, c2, HBB.out, rfl, congrArg (Value.int .i64) (by omega), HI⟩
   case measure => exact meas_up HS2.out HBB.out
  ·obtain rfl : b = s + 3 := by omega
   clear ht hb
   have d1 : decide ((s : Int) + 3 < (s : Int) + 3) = false := decide_eq_false (by omega)
   obtain ⟨gb, c1, hv⟩ := HI.out.slice (by omega)
   injection hv with e1 e2 e3
   subst e1 e3
   clear e2
   have d2 : (((1 : Nat) : Int)) = 1 := rfl
   go_wp2
   go_loopw [15, 16] (fun sv lv wr => ∃ (S : Int) (L : Nat) (ks : List Int), L ≤ 3001 ∧ sv = .int .i64 S ∧ lv = .int .i64 L ∧ Aside0 (AI w wr ks (.slice (some ⟨gb, 0, none⟩) (s + 3) c0) (s + 3))) (fun sv lv _ => (3001 - intOf lv).toNat)
   case atStart => exact ⟨0, 1, [0, 0, 0, 0, 0], by omega, rfl, rfl, HI⟩
   case round =>
    obtain ⟨S, L, ks, hL, rfl, rfl, HI2⟩ := hrel
    clear HI
    have HI := HI2
    clear HI2
    by_cases ht : L ≤ 3000
    ·have d1 : decide ((L : Int) ≤ 3000) = true := decide_eq_true (by omega)
     have HLL : Aside0 (L ≤ 3000) := ⟨ht⟩
     clear ht hL
     go_wp2
     clear d1
     go_loopw [15, 17] (fun sv bv wr => ∃ (S : Int) (b : Nat) (ks : List Int), b ≤ s + 3 ∧ sv = .int .i64 S ∧ bv = .int .i64 b ∧ Aside0 (AI w wr ks (.slice (some ⟨gb, 0, none⟩) (s + 3) c0) (s + 3))) (fun sv bv _ => (s + 3 - intOf bv).toNat)
     case atStart => exact ⟨S, 0, ks, by omega, rfl, rfl, HI⟩
     case round =>
      obtain ⟨S, b, ks, hb, rfl, rfl, HI2⟩ := hrel
      clear HI
      have HI := HI2
      clear HI2
      by_cases ht : b < s + 3
      ·have HBB : Aside0 (b + 1 ≤ s + 3 ∧ b ≤ 4) := ⟨by have := HS2.out; omega⟩
       obtain ⟨Ab, cb, hr0, hC⟩ := HI.out.row ht
       obtain ⟨K, hK⟩ : ∃ K, ga ks b = K := ⟨_, rfl⟩
       have hk0 := (blk_cell HI.out.k1 b).trans (nums_at' ks b (by rw [HI.out.kl]; have := HBB.out; omega))
       have hkf := blk_frozen HI.out.k1 b
       have hK2 := HI.out.kb b (by have := HBB.out; omega)
       have hrl := row_len HBB.out.2
       rw [hK] at hk0 hK2
       obtain ⟨rl, hrl2⟩ : ∃ n, (rowOf (bw b)).length = n := ⟨_, rfl⟩
       obtain ⟨row, hrow⟩ : ∃ n, rowOf (bw b) = n := ⟨_, rfl⟩
       rw [hrl2] at hr0 hC hrl
       rw [hrow] at hC
       have HC := Aside0.mk hC
       clear hrl2 hrow hC hK
       obtain ⟨SL, hSL⟩ : ∃ x, slo tr b = x := ⟨_, rfl⟩
       have HCS0 := Aside0.mk (slope_q (t := tr) (b := b) HT.out HBB.out.2)
       rw [hSL] at HCS0
       clear hSL
       have HB5 : Aside0 (b < s + 3) := ⟨ht⟩
       have wk : wrap64 (K + 1) = K + 1 := sw64 (by omega) (by omega)
       have wkb : IntKind.i64.wrap (K + 1) = K + 1 := by rw [i64_w]; exact wk
       obtain ⟨M, hM⟩ : ∃ M, wrap64 ((K + 1) * SL) = M := ⟨_, rfl⟩
       have hMb : IntKind.i64.wrap ((K + 1) * SL) = M := by rw [i64_w]; exact hM
       have HK3 := Aside0.mk (And.intro hK2 hrl)
       have hK0 : 0 ≤ K := hK2.1
       have HW : Aside0 (wrap64 (K + 1) = K + 1 ∧ IntKind.i64.wrap (K + 1) = K + 1 ∧ wrap64 ((K + 1) * SL) = M ∧ IntKind.i64.wrap ((K + 1) * SL) = M) := ⟨⟨wk, wkb, hM, hMb⟩⟩
       clear hK2 hrl ht hb wk wkb hM hMb
       rcases (by have := HBB.out; omega : b = 0 ∨ b = 1 ∨ b = 2 ∨ b = 3 ∨ b = 4) with rfl | rfl | rfl | rfl | rfl
       ·have d3 : decide ((0 : Int) < ((s : Int) + 3)) = true := decide_eq_true (by have := HBB.out; omega)
        have hk : wr.cell? ⟨w.heap.size + 1, 0, none⟩ = some (.int .i64 K) := hk0
        have hkf2 : wr.frozen? ⟨w.heap.size + 1, 0, none⟩ = false := hkf
        have hr : wr.cell? ⟨gb, 0, none⟩ = some (.slice Ab rl cb) := hr0
        clear hk0 hr0 hkf
        have HCS : Aside0 (∀ w, Calls Tryd.prog 82 #[.int .i64 tr, .int .i64 0] w fun e w' => e = .returned (.int .i64 SL) ∧ Drawn0 w w') := ⟨HCS0.out⟩
        clear HCS0
        by_cases c1 : (rl : Int) ≤ K + 1
        ·have f1 : decide ((rl : Int) ≤ K + 1) = true := decide_eq_true c1
         clear c1
         obtain ⟨wk, wkb, hM, hMb⟩ := HW.out
         go_wp2
         repeat (go_quiet (first | (go_at_call 82; (with_reducible refine (HCS.out _).mono ?_); rintro e w' ⟨rfl, ⟨nd, rfl⟩⟩; (try first | exact ⟨rfl, _, World.drewN_drewN _ _ _⟩ | exact ⟨rfl, _, Eq.trans (World.drewN_drewN _ _ _) (congrArg (World.drewN _) (Nat.add_assoc _ _ _))⟩))); try go_wp2)
         go_roundw
         case rel => exact ⟨S, 0 + 1, ks, HBB.out.1, rfl, rfl, ⟨HI.out.below (by repeat (first | exact Below.refl _ _ | apply below_drew1 | apply pw_below_drewN))⟩⟩
         case measure => clear wk wkb hM hMb; simp [intOf]; have := HBB.out; omega
        ·have f1 : decide ((rl : Int) ≤ K + 1) = false := decide_eq_false c1
         have HR1 : Aside0 (K + 1 < rl) := ⟨by omega⟩
         clear c1
         by_cases c2 : M = (L : Int)
         ·have f2 : (M != (L : Int)) = false := bne_eq_false_iff_eq.mpr c2
          clear c2
          obtain ⟨adb, hAb, hc1⟩ := Kd.at_int HC.out (K + 1) (by omega) HR1.out
          obtain ⟨ad2, hAb2, hc0⟩ := Kd.at_int HC.out K hK0 (by have := HR1.out; omega)
          rw [hAb] at hAb2
          injection hAb2 with hAb2
          subst hAb2 hAb
          obtain ⟨R1, hR1⟩ : ∃ x, rd row (K + 1) = x := ⟨_, rfl⟩
          obtain ⟨R0, hR0⟩ : ∃ x, rd row K = x := ⟨_, rfl⟩
          rw [hR1] at hc1
          rw [hR0] at hc0
          have hK1 : 0 ≤ K + 1 := by omega
          have hK1' : K + 1 < (rl : Int) := HR1.out
          have hK0' : K < (rl : Int) := by omega
          have HK4 : Aside0 (0 ≤ K + 1 ∧ K + 1 ≤ 32) := ⟨by have := HK3.out; omega, by have := HK3.out; omega⟩
          clear hR1 hR0
          obtain ⟨D, hD⟩ : ∃ x, wrap64 (R1 - R0) = x := ⟨_, rfl⟩
          have hDb : IntKind.i64.wrap (R1 - R0) = D := by rw [i64_w]; exact hD
          obtain ⟨M2, hM2⟩ : ∃ x, wrap64 ((ch : Int) * D) = x := ⟨_, rfl⟩
          have hM2b : IntKind.i64.wrap ((ch : Int) * D) = M2 := by rw [i64_w]; exact hM2
          obtain ⟨S2, hS2⟩ : ∃ x, wrap64 (S + M2) = x := ⟨_, rfl⟩
          obtain ⟨wk, wkb, hM, hMb⟩ := HW.out
          by_cases c3 : bud < S2
          ·have f3 : decide (bud < S2) = true := decide_eq_true c3
           clear c3
           obtain ⟨zs, hzl, hzb⟩ := HI.out.k0
           have HZ := Aside0.mk hzl
           have HZB := Aside0.mk hzb
           have HK1 := Aside0.mk HI.out.k1
           have HKL := Aside0.mk HI.out.kl
           clear hzl hzb
           go_wp2
           go_quiet (first | (go_at_call 82; (with_reducible refine (HCS.out _).mono ?_); rintro e w' ⟨rfl, ⟨nd, rfl⟩⟩; (try first | exact ⟨rfl, _, World.drewN_drewN _ _ _⟩ | exact ⟨rfl, _, Eq.trans (World.drewN_drewN _ _ _) (congrArg (World.drewN _) (Nat.add_assoc _ _ _))⟩)))
           go_wp2
           go_quiet (fail)
           go_wp2_with (first
            | (refine wpList_load_row rfl 54 (.tmp 9) rfl (w.heap.size + 1) rfl 54 (ks.map (Value.int .i64)).toArray (0, 0) _ HK1.out Tryd.underlying54 rfl (by rw [row_sz HKL.out]; kernel_rfl) ?_)
            | (refine wpList_store_row rfl 54 (.tmp 8) (.tmp 94) rfl w.heap.size (ks.map (Value.int .i64)).toArray rfl rfl 54 _ HZB.out (by rw [row_sz HKL.out]; kernel_rfl) (by rw [row_sz HZ.out, row_sz HKL.out]) (row_one _) ?_))
           clear wk wkb hM hMb hD hDb hM2 hM2b hS2
           refine bodyPost_ret (results_cell_row rfl _ _ w.heap.size 54 _ _ _ rfl (setRow_heap _ _ _ _ _ _ HZB.out) Tryd.underlying54 rfl (by rw [row_sz HKL.out]; kernel_rfl)) rfl ?_
           exact ⟨ks, HKL.out, HI.out.kb, rfl, below_setRow (below_step HI.out.b (by repeat (first | exact Below.refl _ _ | apply below_drew1 | apply pw_below_drewN))) (Nat.le_refl _) _⟩
          ·have f3 : decide (bud < S2) = false := decide_eq_false c3
           clear c3
           go_wp2
           go_quiet (first | (go_at_call 82; (with_reducible refine (HCS.out _).mono ?_); rintro e w' ⟨rfl, ⟨nd, rfl⟩⟩; (try first | exact ⟨rfl, _, World.drewN_drewN _ _ _⟩ | exact ⟨rfl, _, Eq.trans (World.drewN_drewN _ _ _) (congrArg (World.drewN _) (Nat.add_assoc _ _ _))⟩)))
           go_wp2
           go_quiet (fail)
           go_wp2
           go_roundw
           case rel => exact ⟨S2, 0 + 1, ks.set 0 (K + 1), HBB.out.1, congrArg (Value.int .i64) hS2, rfl, ⟨(HI.out.below (by repeat (first | exact Below.refl _ _ | apply below_drew1 | apply pw_below_drewN))).set (by decide) HK4.out⟩⟩
           case measure => clear wk wkb hM hMb hD hDb hM2 hM2b hS2; simp [intOf]; have := HBB.out; omega
         ·have f2 : (M != (L : Int)) = true := bne_iff_ne.mpr c2
          clear c2
          obtain ⟨wk, wkb, hM, hMb⟩ := HW.out
          go_wp2
          repeat (go_quiet (first | (go_at_call 82; (with_reducible refine (HCS.out _).mono ?_); rintro e w' ⟨rfl, ⟨nd, rfl⟩⟩; (try first | exact ⟨rfl, _, World.drewN_drewN _ _ _⟩ | exact ⟨rfl, _, Eq.trans (World.drewN_drewN _ _ _) (congrArg (World.drewN _) (Nat.add_assoc _ _ _))⟩))); try go_wp2)
          go_roundw
          case rel => exact ⟨S, 0 + 1, ks, HBB.out.1, rfl, rfl, ⟨HI.out.below (by repeat (first | exact Below.refl _ _ | apply below_drew1 | apply pw_below_drewN))⟩⟩
          case measure => clear wk wkb hM hMb; simp [intOf]; have := HBB.out; omega
       ·have d3 : decide ((1 : Int) < ((s : Int) + 3)) = true := decide_eq_true (by have := HBB.out; omega)
        have hk : wr.cell? ⟨w.heap.size + 1, 1, none⟩ = some (.int .i64 K) := hk0
        have hkf2 : wr.frozen? ⟨w.heap.size + 1, 1, none⟩ = false := hkf
        have hr : wr.cell? ⟨gb, 1, none⟩ = some (.slice Ab rl cb) := hr0
        clear hk0 hr0 hkf
        have HCS : Aside0 (∀ w, Calls Tryd.prog 82 #[.int .i64 tr, .int .i64 1] w fun e w' => e = .returned (.int .i64 SL) ∧ Drawn0 w w') := ⟨HCS0.out⟩
        clear HCS0
        by_cases c1 : (rl : Int) ≤ K + 1
        ·have f1 : decide ((rl : Int) ≤ K + 1) = true := decide_eq_true c1
         clear c1
         obtain ⟨wk, wkb, hM, hMb⟩ := HW.out
         go_wp2
         repeat (go_quiet (first | (go_at_call 82; (with_reducible refine (HCS.out _).mono ?_); rintro e w' ⟨rfl, ⟨nd, rfl⟩⟩; (try first | exact ⟨rfl, _, World.drewN_drewN _ _ _⟩ | exact ⟨rfl, _, Eq.trans (World.drewN_drewN _ _ _) (congrArg (World.drewN _) (Nat.add_assoc _ _ _))⟩))); try go_wp2)
         go_roundw
         case rel => exact ⟨S, 1 + 1, ks, HBB.out.1, rfl, rfl, ⟨HI.out.below (by repeat (first | exact Below.refl _ _ | apply below_drew1 | apply pw_below_drewN))⟩⟩
         case measure => clear wk wkb hM hMb; simp [intOf]; have := HBB.out; omega
        ·have f1 : decide ((rl : Int) ≤ K + 1) = false := decide_eq_false c1
         have HR1 : Aside0 (K + 1 < rl) := ⟨by omega⟩
         clear c1
         by_cases c2 : M = (L : Int)
         ·have f2 : (M != (L : Int)) = false := bne_eq_false_iff_eq.mpr c2
          clear c2
          obtain ⟨adb, hAb, hc1⟩ := Kd.at_int HC.out (K + 1) (by omega) HR1.out
          obtain ⟨ad2, hAb2, hc0⟩ := Kd.at_int HC.out K hK0 (by have := HR1.out; omega)
          rw [hAb] at hAb2
          injection hAb2 with hAb2
          subst hAb2 hAb
          obtain ⟨R1, hR1⟩ : ∃ x, rd row (K + 1) = x := ⟨_, rfl⟩
          obtain ⟨R0, hR0⟩ : ∃ x, rd row K = x := ⟨_, rfl⟩
          rw [hR1] at hc1
          rw [hR0] at hc0
          have hK1 : 0 ≤ K + 1 := by omega
          have hK1' : K + 1 < (rl : Int) := HR1.out
          have hK0' : K < (rl : Int) := by omega
          have HK4 : Aside0 (0 ≤ K + 1 ∧ K + 1 ≤ 32) := ⟨by have := HK3.out; omega, by have := HK3.out; omega⟩
          clear hR1 hR0
          obtain ⟨D, hD⟩ : ∃ x, wrap64 (R1 - R0) = x := ⟨_, rfl⟩
          have hDb : IntKind.i64.wrap (R1 - R0) = D := by rw [i64_w]; exact hD
          obtain ⟨M2, hM2⟩ : ∃ x, wrap64 ((ch : Int) * D) = x := ⟨_, rfl⟩
          have hM2b : IntKind.i64.wrap ((ch : Int) * D) = M2 := by rw [i64_w]; exact hM2
          obtain ⟨S2, hS2⟩ : ∃ x, wrap64 (S + M2) = x := ⟨_, rfl⟩
          obtain ⟨wk, wkb, hM, hMb⟩ := HW.out
          by_cases c3 : bud < S2
          ·have f3 : decide (bud < S2) = true := decide_eq_true c3
           clear c3
           obtain ⟨zs, hzl, hzb⟩ := HI.out.k0
           have HZ := Aside0.mk hzl
           have HZB := Aside0.mk hzb
           have HK1 := Aside0.mk HI.out.k1
           have HKL := Aside0.mk HI.out.kl
           clear hzl hzb
           go_wp2
           go_quiet (first | (go_at_call 82; (with_reducible refine (HCS.out _).mono ?_); rintro e w' ⟨rfl, ⟨nd, rfl⟩⟩; (try first | exact ⟨rfl, _, World.drewN_drewN _ _ _⟩ | exact ⟨rfl, _, Eq.trans (World.drewN_drewN _ _ _) (congrArg (World.drewN _) (Nat.add_assoc _ _ _))⟩)))
           go_wp2
           go_quiet (fail)
           go_wp2_with (first
            | (refine wpList_load_row rfl 54 (.tmp 9) rfl (w.heap.size + 1) rfl 54 (ks.map (Value.int .i64)).toArray (0, 0) _ HK1.out Tryd.underlying54 rfl (by rw [row_sz HKL.out]; kernel_rfl) ?_)
            | (refine wpList_store_row rfl 54 (.tmp 8) (.tmp 94) rfl w.heap.size (ks.map (Value.int .i64)).toArray rfl rfl 54 _ HZB.out (by rw [row_sz HKL.out]; kernel_rfl) (by rw [row_sz HZ.out, row_sz HKL.out]) (row_one _) ?_))
           clear wk wkb hM hMb hD hDb hM2 hM2b hS2
           refine bodyPost_ret (results_cell_row rfl _ _ w.heap.size 54 _ _ _ rfl (setRow_heap _ _ _ _ _ _ HZB.out) Tryd.underlying54 rfl (by rw [row_sz HKL.out]; kernel_rfl)) rfl ?_
           exact ⟨ks, HKL.out, HI.out.kb, rfl, below_setRow (below_step HI.out.b (by repeat (first | exact Below.refl _ _ | apply below_drew1 | apply pw_below_drewN))) (Nat.le_refl _) _⟩
          ·have f3 : decide (bud < S2) = false := decide_eq_false c3
           clear c3
           go_wp2
           go_quiet (first | (go_at_call 82; (with_reducible refine (HCS.out _).mono ?_); rintro e w' ⟨rfl, ⟨nd, rfl⟩⟩; (try first | exact ⟨rfl, _, World.drewN_drewN _ _ _⟩ | exact ⟨rfl, _, Eq.trans (World.drewN_drewN _ _ _) (congrArg (World.drewN _) (Nat.add_assoc _ _ _))⟩)))
           go_wp2
           go_quiet (fail)
           go_wp2
           go_roundw
           case rel => exact ⟨S2, 1 + 1, ks.set 1 (K + 1), HBB.out.1, congrArg (Value.int .i64) hS2, rfl, ⟨(HI.out.below (by repeat (first | exact Below.refl _ _ | apply below_drew1 | apply pw_below_drewN))).set (by decide) HK4.out⟩⟩
           case measure => clear wk wkb hM hMb hD hDb hM2 hM2b hS2; simp [intOf]; have := HBB.out; omega
         ·have f2 : (M != (L : Int)) = true := bne_iff_ne.mpr c2
          clear c2
          obtain ⟨wk, wkb, hM, hMb⟩ := HW.out
          go_wp2
          repeat (go_quiet (first | (go_at_call 82; (with_reducible refine (HCS.out _).mono ?_); rintro e w' ⟨rfl, ⟨nd, rfl⟩⟩; (try first | exact ⟨rfl, _, World.drewN_drewN _ _ _⟩ | exact ⟨rfl, _, Eq.trans (World.drewN_drewN _ _ _) (congrArg (World.drewN _) (Nat.add_assoc _ _ _))⟩))); try go_wp2)
          go_roundw
          case rel => exact ⟨S, 1 + 1, ks, HBB.out.1, rfl, rfl, ⟨HI.out.below (by repeat (first | exact Below.refl _ _ | apply below_drew1 | apply pw_below_drewN))⟩⟩
          case measure => clear wk wkb hM hMb; simp [intOf]; have := HBB.out; omega
       ·have d3 : decide ((2 : Int) < ((s : Int) + 3)) = true := decide_eq_true (by have := HBB.out; omega)
        have hk : wr.cell? ⟨w.heap.size + 1, 2, none⟩ = some (.int .i64 K) := hk0
        have hkf2 : wr.frozen? ⟨w.heap.size + 1, 2, none⟩ = false := hkf
        have hr : wr.cell? ⟨gb, 2, none⟩ = some (.slice Ab rl cb) := hr0
        clear hk0 hr0 hkf
        have HCS : Aside0 (∀ w, Calls Tryd.prog 82 #[.int .i64 tr, .int .i64 2] w fun e w' => e = .returned (.int .i64 SL) ∧ Drawn0 w w') := ⟨HCS0.out⟩
        clear HCS0
        by_cases c1 : (rl : Int) ≤ K + 1
        ·have f1 : decide ((rl : Int) ≤ K + 1) = true := decide_eq_true c1
         clear c1
         obtain ⟨wk, wkb, hM, hMb⟩ := HW.out
         go_wp2
         repeat (go_quiet (first | (go_at_call 82; (with_reducible refine (HCS.out _).mono ?_); rintro e w' ⟨rfl, ⟨nd, rfl⟩⟩; (try first | exact ⟨rfl, _, World.drewN_drewN _ _ _⟩ | exact ⟨rfl, _, Eq.trans (World.drewN_drewN _ _ _) (congrArg (World.drewN _) (Nat.add_assoc _ _ _))⟩))); try go_wp2)
         go_roundw
         case rel => exact ⟨S, 2 + 1, ks, HBB.out.1, rfl, rfl, ⟨HI.out.below (by repeat (first | exact Below.refl _ _ | apply below_drew1 | apply pw_below_drewN))⟩⟩
         case measure => clear wk wkb hM hMb; simp [intOf]; have := HBB.out; omega
        ·have f1 : decide ((rl : Int) ≤ K + 1) = false := decide_eq_false c1
         have HR1 : Aside0 (K + 1 < rl) := ⟨by omega⟩
         clear c1
         by_cases c2 : M = (L : Int)
         ·have f2 : (M != (L : Int)) = false := bne_eq_false_iff_eq.mpr c2
          clear c2
          obtain ⟨adb, hAb, hc1⟩ := Kd.at_int HC.out (K + 1) (by omega) HR1.out
          obtain ⟨ad2, hAb2, hc0⟩ := Kd.at_int HC.out K hK0 (by have := HR1.out; omega)
          rw [hAb] at hAb2
          injection hAb2 with hAb2
          subst hAb2 hAb
          obtain ⟨R1, hR1⟩ : ∃ x, rd row (K + 1) = x := ⟨_, rfl⟩
          obtain ⟨R0, hR0⟩ : ∃ x, rd row K = x := ⟨_, rfl⟩
          rw [hR1] at hc1
          rw [hR0] at hc0
          have hK1 : 0 ≤ K + 1 := by omega
          have hK1' : K + 1 < (rl : Int) := HR1.out
          have hK0' : K < (rl : Int) := by omega
          have HK4 : Aside0 (0 ≤ K + 1 ∧ K + 1 ≤ 32) := ⟨by have := HK3.out; omega, by have := HK3.out; omega⟩
          clear hR1 hR0
          obtain ⟨D, hD⟩ : ∃ x, wrap64 (R1 - R0) = x := ⟨_, rfl⟩
          have hDb : IntKind.i64.wrap (R1 - R0) = D := by rw [i64_w]; exact hD
          obtain ⟨M2, hM2⟩ : ∃ x, wrap64 ((ch : Int) * D) = x := ⟨_, rfl⟩
          have hM2b : IntKind.i64.wrap ((ch : Int) * D) = M2 := by rw [i64_w]; exact hM2
          obtain ⟨S2, hS2⟩ : ∃ x, wrap64 (S + M2) = x := ⟨_, rfl⟩
          obtain ⟨wk, wkb, hM, hMb⟩ := HW.out
          by_cases c3 : bud < S2
          ·have f3 : decide (bud < S2) = true := decide_eq_true c3
           clear c3
           obtain ⟨zs, hzl, hzb⟩ := HI.out.k0
           have HZ := Aside0.mk hzl
           have HZB := Aside0.mk hzb
           have HK1 := Aside0.mk HI.out.k1
           have HKL := Aside0.mk HI.out.kl
           clear hzl hzb
           go_wp2
           go_quiet (first | (go_at_call 82; (with_reducible refine (HCS.out _).mono ?_); rintro e w' ⟨rfl, ⟨nd, rfl⟩⟩; (try first | exact ⟨rfl, _, World.drewN_drewN _ _ _⟩ | exact ⟨rfl, _, Eq.trans (World.drewN_drewN _ _ _) (congrArg (World.drewN _) (Nat.add_assoc _ _ _))⟩)))
           go_wp2
           go_quiet (fail)
           go_wp2_with (first
            | (refine wpList_load_row rfl 54 (.tmp 9) rfl (w.heap.size + 1) rfl 54 (ks.map (Value.int .i64)).toArray (0, 0) _ HK1.out Tryd.underlying54 rfl (by rw [row_sz HKL.out]; kernel_rfl) ?_)
            | (refine wpList_store_row rfl 54 (.tmp 8) (.tmp 94) rfl w.heap.size (ks.map (Value.int .i64)).toArray rfl rfl 54 _ HZB.out (by rw [row_sz HKL.out]; kernel_rfl) (by rw [row_sz HZ.out, row_sz HKL.out]) (row_one _) ?_))
           clear wk wkb hM hMb hD hDb hM2 hM2b hS2
           refine bodyPost_ret (results_cell_row rfl _ _ w.heap.size 54 _ _ _ rfl (setRow_heap _ _ _ _ _ _ HZB.out) Tryd.underlying54 rfl (by rw [row_sz HKL.out]; kernel_rfl)) rfl ?_
           exact ⟨ks, HKL.out, HI.out.kb, rfl, below_setRow (below_step HI.out.b (by repeat (first | exact Below.refl _ _ | apply below_drew1 | apply pw_below_drewN))) (Nat.le_refl _) _⟩
          ·have f3 : decide (bud < S2) = false := decide_eq_false c3
           clear c3
           go_wp2
           go_quiet (first | (go_at_call 82; (with_reducible refine (HCS.out _).mono ?_); rintro e w' ⟨rfl, ⟨nd, rfl⟩⟩; (try first | exact ⟨rfl, _, World.drewN_drewN _ _ _⟩ | exact ⟨rfl, _, Eq.trans (World.drewN_drewN _ _ _) (congrArg (World.drewN _) (Nat.add_assoc _ _ _))⟩)))
           go_wp2
           go_quiet (fail)
           go_wp2
           go_roundw
           case rel => exact ⟨S2, 2 + 1, ks.set 2 (K + 1), HBB.out.1, congrArg (Value.int .i64) hS2, rfl, ⟨(HI.out.below (by repeat (first | exact Below.refl _ _ | apply below_drew1 | apply pw_below_drewN))).set (by decide) HK4.out⟩⟩
           case measure => clear wk wkb hM hMb hD hDb hM2 hM2b hS2; simp [intOf]; have := HBB.out; omega
         ·have f2 : (M != (L : Int)) = true := bne_iff_ne.mpr c2
          clear c2
          obtain ⟨wk, wkb, hM, hMb⟩ := HW.out
          go_wp2
          repeat (go_quiet (first | (go_at_call 82; (with_reducible refine (HCS.out _).mono ?_); rintro e w' ⟨rfl, ⟨nd, rfl⟩⟩; (try first | exact ⟨rfl, _, World.drewN_drewN _ _ _⟩ | exact ⟨rfl, _, Eq.trans (World.drewN_drewN _ _ _) (congrArg (World.drewN _) (Nat.add_assoc _ _ _))⟩))); try go_wp2)
          go_roundw
          case rel => exact ⟨S, 2 + 1, ks, HBB.out.1, rfl, rfl, ⟨HI.out.below (by repeat (first | exact Below.refl _ _ | apply below_drew1 | apply pw_below_drewN))⟩⟩
          case measure => clear wk wkb hM hMb; simp [intOf]; have := HBB.out; omega
       ·have d3 : decide ((3 : Int) < ((s : Int) + 3)) = true := decide_eq_true (by have := HBB.out; omega)
        have e1 : 0 < s := by have := HBB.out; omega
        have e2 : (0 : Int) < (s : Int) := by omega
        have hk : wr.cell? ⟨w.heap.size + 1, 3, none⟩ = some (.int .i64 K) := hk0
        have hkf2 : wr.frozen? ⟨w.heap.size + 1, 3, none⟩ = false := hkf
        have hr : wr.cell? ⟨gb, 3, none⟩ = some (.slice Ab rl cb) := hr0
        clear hk0 hr0 hkf
        have HCS : Aside0 (∀ w, Calls Tryd.prog 82 #[.int .i64 tr, .int .i64 3] w fun e w' => e = .returned (.int .i64 SL) ∧ Drawn0 w w') := ⟨HCS0.out⟩
        clear HCS0
        by_cases c1 : (rl : Int) ≤ K + 1
        ·have f1 : decide ((rl : Int) ≤ K + 1) = true := decide_eq_true c1
         clear c1
         obtain ⟨wk, wkb, hM, hMb⟩ := HW.out
         go_wp2
         repeat (go_quiet (first | (go_at_call 82; (with_reducible refine (HCS.out _).mono ?_); rintro e w' ⟨rfl, ⟨nd, rfl⟩⟩; (try first | exact ⟨rfl, _, World.drewN_drewN _ _ _⟩ | exact ⟨rfl, _, Eq.trans (World.drewN_drewN _ _ _) (congrArg (World.drewN _) (Nat.add_assoc _ _ _))⟩))); try go_wp2)
         go_roundw
         case rel => exact ⟨S, 3 + 1, ks, HBB.out.1, rfl, rfl, ⟨HI.out.below (by repeat (first | exact Below.refl _ _ | apply below_drew1 | apply pw_below_drewN))⟩⟩
         case measure => clear wk wkb hM hMb; simp [intOf]; have := HBB.out; omega
        ·have f1 : decide ((rl : Int) ≤ K + 1) = false := decide_eq_false c1
         have HR1 : Aside0 (K + 1 < rl) := ⟨by omega⟩
         clear c1
         by_cases c2 : M = (L : Int)
         ·have f2 : (M != (L : Int)) = false := bne_eq_false_iff_eq.mpr c2
          clear c2
          obtain ⟨adb, hAb, hc1⟩ := Kd.at_int HC.out (K + 1) (by omega) HR1.out
          obtain ⟨ad2, hAb2, hc0⟩ := Kd.at_int HC.out K hK0 (by have := HR1.out; omega)
          rw [hAb] at hAb2
          injection hAb2 with hAb2
          subst hAb2 hAb
          obtain ⟨R1, hR1⟩ : ∃ x, rd row (K + 1) = x := ⟨_, rfl⟩
          obtain ⟨R0, hR0⟩ : ∃ x, rd row K = x := ⟨_, rfl⟩
          rw [hR1] at hc1
          rw [hR0] at hc0
          have hK1 : 0 ≤ K + 1 := by omega
          have hK1' : K + 1 < (rl : Int) := HR1.out
          have hK0' : K < (rl : Int) := by omega
          have HK4 : Aside0 (0 ≤ K + 1 ∧ K + 1 ≤ 32) := ⟨by have := HK3.out; omega, by have := HK3.out; omega⟩
          clear hR1 hR0
          obtain ⟨D, hD⟩ : ∃ x, wrap64 (R1 - R0) = x := ⟨_, rfl⟩
          have hDb : IntKind.i64.wrap (R1 - R0) = D := by rw [i64_w]; exact hD
          obtain ⟨M2, hM2⟩ : ∃ x, wrap64 ((ch : Int) * D) = x := ⟨_, rfl⟩
          have hM2b : IntKind.i64.wrap ((ch : Int) * D) = M2 := by rw [i64_w]; exact hM2
          obtain ⟨S2, hS2⟩ : ∃ x, wrap64 (S + M2) = x := ⟨_, rfl⟩
          obtain ⟨wk, wkb, hM, hMb⟩ := HW.out
          by_cases c3 : bud < S2
          ·have f3 : decide (bud < S2) = true := decide_eq_true c3
           clear c3
           obtain ⟨zs, hzl, hzb⟩ := HI.out.k0
           have HZ := Aside0.mk hzl
           have HZB := Aside0.mk hzb
           have HK1 := Aside0.mk HI.out.k1
           have HKL := Aside0.mk HI.out.kl
           clear hzl hzb
           go_wp2
           go_quiet (first | (go_at_call 82; (with_reducible refine (HCS.out _).mono ?_); rintro e w' ⟨rfl, ⟨nd, rfl⟩⟩; (try first | exact ⟨rfl, _, World.drewN_drewN _ _ _⟩ | exact ⟨rfl, _, Eq.trans (World.drewN_drewN _ _ _) (congrArg (World.drewN _) (Nat.add_assoc _ _ _))⟩)))
           go_wp2
           go_quiet (fail)
           go_wp2_with (first
            | (refine wpList_load_row rfl 54 (.tmp 9) rfl (w.heap.size + 1) rfl 54 (ks.map (Value.int .i64)).toArray (0, 0) _ HK1.out Tryd.underlying54 rfl (by rw [row_sz HKL.out]; kernel_rfl) ?_)
            | (refine wpList_store_row rfl 54 (.tmp 8) (.tmp 94) rfl w.heap.size (ks.map (Value.int .i64)).toArray rfl rfl 54 _ HZB.out (by rw [row_sz HKL.out]; kernel_rfl) (by rw [row_sz HZ.out, row_sz HKL.out]) (row_one _) ?_))
           clear wk wkb hM hMb hD hDb hM2 hM2b hS2
           refine bodyPost_ret (results_cell_row rfl _ _ w.heap.size 54 _ _ _ rfl (setRow_heap _ _ _ _ _ _ HZB.out) Tryd.underlying54 rfl (by rw [row_sz HKL.out]; kernel_rfl)) rfl ?_
           exact ⟨ks, HKL.out, HI.out.kb, rfl, below_setRow (below_step HI.out.b (by repeat (first | exact Below.refl _ _ | apply below_drew1 | apply pw_below_drewN))) (Nat.le_refl _) _⟩
          ·have f3 : decide (bud < S2) = false := decide_eq_false c3
           clear c3
           go_wp2
           go_quiet (first | (go_at_call 82; (with_reducible refine (HCS.out _).mono ?_); rintro e w' ⟨rfl, ⟨nd, rfl⟩⟩; (try first | exact ⟨rfl, _, World.drewN_drewN _ _ _⟩ | exact ⟨rfl, _, Eq.trans (World.drewN_drewN _ _ _) (congrArg (World.drewN _) (Nat.add_assoc _ _ _))⟩)))
           go_wp2
           go_quiet (fail)
           go_wp2
           go_roundw
           case rel => exact ⟨S2, 3 + 1, ks.set 3 (K + 1), HBB.out.1, congrArg (Value.int .i64) hS2, rfl, ⟨(HI.out.below (by repeat (first | exact Below.refl _ _ | apply below_drew1 | apply pw_below_drewN))).set (by decide) HK4.out⟩⟩
           case measure => clear wk wkb hM hMb hD hDb hM2 hM2b hS2; simp [intOf]; have := HBB.out; omega
         ·have f2 : (M != (L : Int)) = true := bne_iff_ne.mpr c2
          clear c2
          obtain ⟨wk, wkb, hM, hMb⟩ := HW.out
          go_wp2
          repeat (go_quiet (first | (go_at_call 82; (with_reducible refine (HCS.out _).mono ?_); rintro e w' ⟨rfl, ⟨nd, rfl⟩⟩; (try first | exact ⟨rfl, _, World.drewN_drewN _ _ _⟩ | exact ⟨rfl, _, Eq.trans (World.drewN_drewN _ _ _) (congrArg (World.drewN _) (Nat.add_assoc _ _ _))⟩))); try go_wp2)
          go_roundw
          case rel => exact ⟨S, 3 + 1, ks, HBB.out.1, rfl, rfl, ⟨HI.out.below (by repeat (first | exact Below.refl _ _ | apply below_drew1 | apply pw_below_drewN))⟩⟩
          case measure => clear wk wkb hM hMb; simp [intOf]; have := HBB.out; omega
       ·have d3 : decide ((4 : Int) < ((s : Int) + 3)) = true := decide_eq_true (by have := HBB.out; omega)
        have e1 : 1 < s := by have := HBB.out; omega
        have e2 : (1 : Int) < (s : Int) := by omega
        have hk : wr.cell? ⟨w.heap.size + 1, 4, none⟩ = some (.int .i64 K) := hk0
        have hkf2 : wr.frozen? ⟨w.heap.size + 1, 4, none⟩ = false := hkf
        have hr : wr.cell? ⟨gb, 4, none⟩ = some (.slice Ab rl cb) := hr0
        clear hk0 hr0 hkf
        have HCS : Aside0 (∀ w, Calls Tryd.prog 82 #[.int .i64 tr, .int .i64 4] w fun e w' => e = .returned (.int .i64 SL) ∧ Drawn0 w w') := ⟨HCS0.out⟩
        clear HCS0
        by_cases c1 : (rl : Int) ≤ K + 1
        ·have f1 : decide ((rl : Int) ≤ K + 1) = true := decide_eq_true c1
         clear c1
         obtain ⟨wk, wkb, hM, hMb⟩ := HW.out
         go_wp2
         repeat (go_quiet (first | (go_at_call 82; (with_reducible refine (HCS.out _).mono ?_); rintro e w' ⟨rfl, ⟨nd, rfl⟩⟩; (try first | exact ⟨rfl, _, World.drewN_drewN _ _ _⟩ | exact ⟨rfl, _, Eq.trans (World.drewN_drewN _ _ _) (congrArg (World.drewN _) (Nat.add_assoc _ _ _))⟩))); try go_wp2)
         go_roundw
         case rel => exact ⟨S, 4 + 1, ks, HBB.out.1, rfl, rfl, ⟨HI.out.below (by repeat (first | exact Below.refl _ _ | apply below_drew1 | apply pw_below_drewN))⟩⟩
         case measure => clear wk wkb hM hMb; simp [intOf]; have := HBB.out; omega
        ·have f1 : decide ((rl : Int) ≤ K + 1) = false := decide_eq_false c1
         have HR1 : Aside0 (K + 1 < rl) := ⟨by omega⟩
         clear c1
         by_cases c2 : M = (L : Int)
         ·have f2 : (M != (L : Int)) = false := bne_eq_false_iff_eq.mpr c2
          clear c2
          obtain ⟨adb, hAb, hc1⟩ := Kd.at_int HC.out (K + 1) (by omega) HR1.out
          obtain ⟨ad2, hAb2, hc0⟩ := Kd.at_int HC.out K hK0 (by have := HR1.out; omega)
          rw [hAb] at hAb2
          injection hAb2 with hAb2
          subst hAb2 hAb
          obtain ⟨R1, hR1⟩ : ∃ x, rd row (K + 1) = x := ⟨_, rfl⟩
          obtain ⟨R0, hR0⟩ : ∃ x, rd row K = x := ⟨_, rfl⟩
          rw [hR1] at hc1
          rw [hR0] at hc0
          have hK1 : 0 ≤ K + 1 := by omega
          have hK1' : K + 1 < (rl : Int) := HR1.out
          have hK0' : K < (rl : Int) := by omega
          have HK4 : Aside0 (0 ≤ K + 1 ∧ K + 1 ≤ 32) := ⟨by have := HK3.out; omega, by have := HK3.out; omega⟩
          clear hR1 hR0
          obtain ⟨D, hD⟩ : ∃ x, wrap64 (R1 - R0) = x := ⟨_, rfl⟩
          have hDb : IntKind.i64.wrap (R1 - R0) = D := by rw [i64_w]; exact hD
          obtain ⟨M2, hM2⟩ : ∃ x, wrap64 ((ch : Int) * D) = x := ⟨_, rfl⟩
          have hM2b : IntKind.i64.wrap ((ch : Int) * D) = M2 := by rw [i64_w]; exact hM2
          obtain ⟨S2, hS2⟩ : ∃ x, wrap64 (S + M2) = x := ⟨_, rfl⟩
          obtain ⟨wk, wkb, hM, hMb⟩ := HW.out
          by_cases c3 : bud < S2
          ·have f3 : decide (bud < S2) = true := decide_eq_true c3
           clear c3
           obtain ⟨zs, hzl, hzb⟩ := HI.out.k0
           have HZ := Aside0.mk hzl
           have HZB := Aside0.mk hzb
           have HK1 := Aside0.mk HI.out.k1
           have HKL := Aside0.mk HI.out.kl
           clear hzl hzb
           go_wp2
           go_quiet (first | (go_at_call 82; (with_reducible refine (HCS.out _).mono ?_); rintro e w' ⟨rfl, ⟨nd, rfl⟩⟩; (try first | exact ⟨rfl, _, World.drewN_drewN _ _ _⟩ | exact ⟨rfl, _, Eq.trans (World.drewN_drewN _ _ _) (congrArg (World.drewN _) (Nat.add_assoc _ _ _))⟩)))
           go_wp2
           go_quiet (fail)
           go_wp2_with (first
            | (refine wpList_load_row rfl 54 (.tmp 9) rfl (w.heap.size + 1) rfl 54 (ks.map (Value.int .i64)).toArray (0, 0) _ HK1.out Tryd.underlying54 rfl (by rw [row_sz HKL.out]; kernel_rfl) ?_)
            | (refine wpList_store_row rfl 54 (.tmp 8) (.tmp 94) rfl w.heap.size (ks.map (Value.int .i64)).toArray rfl rfl 54 _ HZB.out (by rw [row_sz HKL.out]; kernel_rfl) (by rw [row_sz HZ.out, row_sz HKL.out]) (row_one _) ?_))
           clear wk wkb hM hMb hD hDb hM2 hM2b hS2
           refine bodyPost_ret (results_cell_row rfl _ _ w.heap.size 54 _ _ _ rfl (setRow_heap _ _ _ _ _ _ HZB.out) Tryd.underlying54 rfl (by rw [row_sz HKL.out]; kernel_rfl)) rfl ?_
           exact ⟨ks, HKL.out, HI.out.kb, rfl, below_setRow (below_step HI.out.b (by repeat (first | exact Below.refl _ _ | apply below_drew1 | apply pw_below_drewN))) (Nat.le_refl _) _⟩
          ·have f3 : decide (bud < S2) = false := decide_eq_false c3
           clear c3
           go_wp2
           go_quiet (first | (go_at_call 82; (with_reducible refine (HCS.out _).mono ?_); rintro e w' ⟨rfl, ⟨nd, rfl⟩⟩; (try first | exact ⟨rfl, _, World.drewN_drewN _ _ _⟩ | exact ⟨rfl, _, Eq.trans (World.drewN_drewN _ _ _) (congrArg (World.drewN _) (Nat.add_assoc _ _ _))⟩)))
           go_wp2
           go_quiet (fail)
           go_wp2
           go_roundw
           case rel => exact ⟨S2, 4 + 1, ks.set 4 (K + 1), HBB.out.1, congrArg (Value.int .i64) hS2, rfl, ⟨(HI.out.below (by repeat (first | exact Below.refl _ _ | apply below_drew1 | apply pw_below_drewN))).set (by decide) HK4.out⟩⟩
           case measure => clear wk wkb hM hMb hD hDb hM2 hM2b hS2; simp [intOf]; have := HBB.out; omega
         ·have f2 : (M != (L : Int)) = true := bne_iff_ne.mpr c2
          clear c2
          obtain ⟨wk, wkb, hM, hMb⟩ := HW.out
          go_wp2
          repeat (go_quiet (first | (go_at_call 82; (with_reducible refine (HCS.out _).mono ?_); rintro e w' ⟨rfl, ⟨nd, rfl⟩⟩; (try first | exact ⟨rfl, _, World.drewN_drewN _ _ _⟩ | exact ⟨rfl, _, Eq.trans (World.drewN_drewN _ _ _) (congrArg (World.drewN _) (Nat.add_assoc _ _ _))⟩))); try go_wp2)
          go_roundw
          case rel => exact ⟨S, 4 + 1, ks, HBB.out.1, rfl, rfl, ⟨HI.out.below (by repeat (first | exact Below.refl _ _ | apply below_drew1 | apply pw_below_drewN))⟩⟩
          case measure => clear wk wkb hM hMb; simp [intOf]; have := HBB.out; omega
      ·obtain rfl : b = s + 3 := by omega
       have d3 : decide ((s : Int) + 3 < (s : Int) + 3) = false := decide_eq_false (by omega)
       clear ht hb
       have wl : wrap64 ((L : Int) + 1) = ((L + 1 : Nat) : Int) := lev_up HLL.out
       go_wp2
       go_roundw
       case rel => exact ⟨S, L + 1, ks, Nat.succ_le_succ HLL.out, rfl, congrArg (Value.int .i64) wl, HI⟩
       case measure => rw [wl]; exact lev_meas HLL.out
    ·obtain rfl : L = 3001 := by omega
     have d1 : decide ((3001 : Int) ≤ 3000) = false := rfl
     obtain ⟨zs, hzl, hzb⟩ := HI.out.k0
     have HZ := Aside0.mk hzl
     have HZB := Aside0.mk hzb
     have HK1 := Aside0.mk HI.out.k1
     have HKL := Aside0.mk HI.out.kl
     clear hzl hzb
     go_wp2_with (first
      | (refine wpList_load_row rfl 54 (.tmp 9) rfl (w.heap.size + 1) rfl 54 (ks.map (Value.int .i64)).toArray (0, 0) _ HK1.out Tryd.underlying54 rfl (by rw [row_sz HKL.out]; kernel_rfl) ?_)
      | (refine wpList_store_row rfl 54 (.tmp 8) (.tmp 103) rfl w.heap.size (ks.map (Value.int .i64)).toArray rfl rfl 54 _ HZB.out (by rw [row_sz HKL.out]; kernel_rfl) (by rw [row_sz HZ.out, row_sz HKL.out]) (row_one _) ?_))
     refine bodyPost_ret (results_cell_row rfl _ _ w.heap.size 54 _ _ _ rfl (setRow_heap _ _ _ _ _ _ HZB.out) Tryd.underlying54 rfl (by rw [row_sz HKL.out]; kernel_rfl)) rfl ?_
     exact ⟨ks, HKL.out, HI.out.kb, rfl, below_setRow HI.out.b (Nat.le_refl _) _⟩
section
variable {P : Program}
theorem alloc_to {ops : Array Oper} {rest : List Oper} {o : Oper} {a : Act} {w : World} {Q : Exit → Act → World → Prop} (hg : o.guard = none) (ty : TypeId) (ho : o.op = .alloc ty) (cs : Array Value)
 (hz : (P.info? ty).map (·.zero) = some (some (.agg cs))) (h : wpList P ops Q rest (a.put o.dst (.pointer (some ⟨w.heap.size, 0, none⟩))) (w.alloc (.cells cs ty))) : wpList P ops Q (o :: rest) a w := by
 refine wpList_plain hg fun K hK => ?_
 cases hq : P.info? ty with
 | none => simp [hq] at hz
 | some i =>
  have hz2 : i.zero = some (.agg cs) := by simpa [hq] using hz
  have hrun : (Instr.alloc ty true (.tuple #[])).run P w = .ok (.pointer (some ⟨w.heap.size, 0, none⟩)) (w.alloc (.cells cs ty)) := by
   simp [Instr.alloc, zeroValue, typeInfo, Sem.run_bind, hq, hz2, newVar, newRow, newObj, Value.cells, World.alloc_eq]; rfl
  unfold Oper.wp execOp
  simp only [ho, Sem.run_bind, hrun, Result.andThen_ok]
  exact hK _ _ h
end
def F0 : Fr := ⟨false, false, List.replicate 92 0⟩
theorem zero62 : (Tryd.prog.info? 62).map (·.zero) = some (some (.agg F0.cells.toArray)) := by kernel_rfl
def Fr.setL (f : Fr) (i : Nat) (y : Int) : Fr := ⟨f.si, f.it, f.L.set i y⟩
theorem Fr.cells_setL (f : Fr) (i : Nat) (y : Int) : f.cells.toArray.setIfInBounds (i + 2) (.int .i64 y) = (f.setL i y).cells.toArray := by
 simp [Fr.cells, Fr.setL, List.map_set]
structure FI (w0 w : World) (ps : List Int) (wc : Array Value) (f : Fr) : Prop where
 b : Below w0.heap.size w0 w
 p : w.heap[w0.heap.size]? = some (.cells (ps.map (Value.int .i64)).toArray 55 (0, 0))
 q : w.heap[w0.heap.size + 1]? = some (.cells wc 49 (0, 0))
 r : w.heap[w0.heap.size + 1 + 1]? = some (.cells F0.cells.toArray 62 (0, 0))
 fr : w.heap[w0.heap.size + 1 + 1 + 1]? = some (.cells f.cells.toArray 62 (0, 0))
 fl : f.L.length = 92
section
variable {w0 w w1 : World} {ps : List Int} {wc : Array Value} {f : Fr}
theorem FI.start (w0 : World) (ps : List Int) (wc : Array Value) : FI w0 ((((w0.alloc (.cells (ps.map (Value.int .i64)).toArray 55)).alloc (.cells wc 49)).alloc (.cells F0.cells.toArray 62)).alloc (.cells F0.cells.toArray 62)) ps wc F0 := by
 have n1 := blk_new w0 (.cells (ps.map (Value.int .i64)).toArray 55)
 have n2 := blk_new (w0.alloc (.cells (ps.map (Value.int .i64)).toArray 55)) (.cells wc 49)
 have n3 := blk_new ((w0.alloc (.cells (ps.map (Value.int .i64)).toArray 55)).alloc (.cells wc 49)) (.cells F0.cells.toArray 62)
 have n4 := blk_new (((w0.alloc (.cells (ps.map (Value.int .i64)).toArray 55)).alloc (.cells wc 49)).alloc (.cells F0.cells.toArray 62)) (.cells F0.cells.toArray 62)
 rw [show (w0.alloc (.cells (ps.map (Value.int .i64)).toArray 55)).heap.size = w0.heap.size + 1 by simp [World.alloc_eq]] at n2
 rw [show ((w0.alloc (.cells (ps.map (Value.int .i64)).toArray 55)).alloc (.cells wc 49)).heap.size = w0.heap.size + 1 + 1 by simp [World.alloc_eq]] at n3
 rw [show (((w0.alloc (.cells (ps.map (Value.int .i64)).toArray 55)).alloc (.cells wc 49)).alloc (.cells F0.cells.toArray 62)).heap.size = w0.heap.size + 1 + 1 + 1 by simp [World.alloc_eq]] at n4
 exact ⟨below_alloc (below_alloc (below_alloc (below_alloc (Below.refl _ _) _) _) _) _, blk_alloc (blk_alloc (blk_alloc n1 _) _) _, blk_alloc (blk_alloc n2 _) _, blk_alloc n3 _, n4, by simp [F0]⟩
theorem FI.below (h : FI w0 w ps wc f) (hb : Below w.heap.size w w1) : FI w0 w1 ps wc f :=
 ⟨below_step h.b hb, blk_below h.p hb, blk_below h.q hb, blk_below h.r hb, blk_below h.fr hb, h.fl⟩
theorem FI.size (h : FI w0 w ps wc f) : w0.heap.size + 4 ≤ w.heap.size := by have := blk_lt h.fr; omega
theorem FI.foot (h : FI w0 w ps wc f) {ok : Nat → Prop} (hf : Foot ok w w1) (hok : ∀ k, ok k → w0.heap.size + 4 ≤ k) : FI w0 w1 ps wc f := by
 have hs := h.size
 have e : ∀ k, k < w0.heap.size + 4 → w1.heap[k]? = w.heap[k]? := fun k hk => hf.k k (by omega) (fun ho => by have := hok k ho; omega)
 exact ⟨h.b.trans (Foot.below hf (B := w0.heap.size) (fun k hk => by have := hok k hk; omega) (by omega)), (e _ (by omega)).trans h.p, (e _ (by omega)).trans h.q, (e _ (by omega)).trans h.r, (e _ (by omega)).trans h.fr, h.fl⟩
theorem FI.put (h : FI w0 w ps wc f) (i : Nat) (v : Value) {f' : Fr} (he : f.cells.toArray.setIfInBounds i v = f'.cells.toArray) (hl : f'.L.length = 92) : FI w0 (w.setCell ⟨w0.heap.size + 1 + 1 + 1, i, none⟩ v) ps wc f' :=
 ⟨h.b.setCell (p := ⟨w0.heap.size + 1 + 1 + 1, i, none⟩) (by show w0.heap.size ≤ w0.heap.size + 1 + 1 + 1; omega) _, blk_far h.p (p := ⟨w0.heap.size + 1 + 1 + 1, i, none⟩) (by show w0.heap.size ≠ w0.heap.size + 1 + 1 + 1; omega) _, blk_far h.q (p := ⟨w0.heap.size + 1 + 1 + 1, i, none⟩) (by show w0.heap.size + 1 ≠ w0.heap.size + 1 + 1 + 1; omega) _, blk_far h.r (p := ⟨w0.heap.size + 1 + 1 + 1, i, none⟩) (by show w0.heap.size + 1 + 1 ≠ w0.heap.size + 1 + 1 + 1; omega) _, blk_put h.fr i v he, hl⟩
theorem FI.set0 (h : FI w0 w ps wc f) (b : Bool) : FI w0 (w.setCell ⟨w0.heap.size + 1 + 1 + 1, 0, none⟩ (.bool b)) ps wc ⟨b, f.it, f.L⟩ := h.put 0 _ (by simp [Fr.cells]) h.fl
theorem FI.set1 (h : FI w0 w ps wc f) (b : Bool) : FI w0 (w.setCell ⟨w0.heap.size + 1 + 1 + 1, 1, none⟩ (.bool b)) ps wc ⟨f.si, b, f.L⟩ := h.put 1 _ (by simp [Fr.cells]) h.fl
theorem FI.setL (h : FI w0 w ps wc f) (i : Nat) (y : Int) : FI w0 (w.setCell ⟨w0.heap.size + 1 + 1 + 1, i + 2, none⟩ (.int .i64 y)) ps wc (f.setL i y) := h.put (i + 2) _ (f.cells_setL i y) (by simp [Fr.setL, h.fl])
theorem FI.frozen (h : FI w0 w ps wc f) (j : Nat) : w.frozen? ⟨w0.heap.size + 1 + 1 + 1, j, none⟩ = false := blk_frozen h.fr j
theorem FI.cell (h : FI w0 w ps wc f) {j : Nat} (hj : j < 92) : w.cell? ⟨w0.heap.size + 1 + 1 + 1, j + 2, none⟩ = some (.int .i64 (ga f.L j)) := (blk_cell h.fr _).trans (f.cells_at j (by rw [h.fl]; exact hj))
theorem FI.cellE (h : FI w0 w ps wc f) {q b : Nat} (hq : q ≤ 1) (hb : b ≤ 4) : w.cell? ⟨w0.heap.size + 1 + 1 + 1, 5 + q * 5 + b, none⟩ = some (.int .i64 (ga f.L (3 + (q * 5 + b)))) := by
 have := h.cell (j := 3 + (q * 5 + b)) (by omega)
 rwa [show 3 + (q * 5 + b) + 2 = 5 + q * 5 + b by omega] at this
theorem FI.setE (h : FI w0 w ps wc f) (q b : Nat) (y : Int) : FI w0 (w.setCell ⟨w0.heap.size + 1 + 1 + 1, 5 + q * 5 + b, none⟩ (.int .i64 y)) ps wc (f.setL (3 + (q * 5 + b)) y) := by
 have := h.setL (3 + (q * 5 + b)) y
 rwa [show 3 + (q * 5 + b) + 2 = 5 + q * 5 + b by omega] at this
theorem FI.wish (h : FI w0 w ps wc f) {j : Nat} {v : Value} (hj : wc[j]? = some v) : w.cell? ⟨w0.heap.size + 1, j, none⟩ = some v := (blk_cell h.q _).trans hj
end
theorem alloc_FI {ops : Array Oper} {rest : List Oper} {o : Oper} {a : Act} {w0 : World} {Q : Exit → Act → World → Prop} (ps : List Int) (wc : Array Value) (hg : o.guard = none) (ho : o.op = .alloc 62) (hd : o.dst = some 11)
 (h : ∀ W, FI w0 W ps wc F0 → wpList Tryd.prog ops Q rest (a.put (some 11) (.pointer (some ⟨w0.heap.size + 1 + 1 + 1, 0, none⟩))) W) : wpList Tryd.prog ops Q (o :: rest) a (((w0.alloc (.cells (ps.map (Value.int .i64)).toArray 55)).alloc (.cells wc 49)).alloc (.cells F0.cells.toArray 62)) := by
 refine alloc_to hg 62 ho _ zero62 ?_
 rw [hd, show (((w0.alloc (.cells (ps.map (Value.int .i64)).toArray 55)).alloc (.cells wc 49)).alloc (.cells F0.cells.toArray 62)).heap.size = w0.heap.size + 1 + 1 + 1 by simp [World.alloc_eq]]
 exact h _ (FI.start w0 ps wc)
def FG (f : Fr) : Prop := (0 ≤ ga f.L 0 ∧ ga f.L 0 ≤ 3) ∧ (0 ≤ ga f.L 1 ∧ ga f.L 1 ≤ 7)
theorem ga_ne {l : List Int} {i j : Nat} (h : i ≠ j) (y : Int) : ga (l.set i y) j = ga l j := by
 unfold ga
 rw [List.getD_eq_getElem?_getD, List.getD_eq_getElem?_getD, List.getElem?_set_ne h]
theorem FG.set {f : Fr} (h : FG f) {i : Nat} (hi : 2 ≤ i) (y : Int) : FG (f.setL i y) := by
 unfold FG Fr.setL at *
 simp only
 rw [ga_ne (by omega), ga_ne (by omega)]
 exact h
theorem FG.start (y z : Int) (hy : 0 ≤ y ∧ y ≤ 3) (hz : 0 ≤ z ∧ z ≤ 7) (si it : Bool) : FG ((Fr.setL ⟨si, it, (F0.setL 0 y).L⟩ 1 z)) := by
 unfold FG Fr.setL F0
 simp only
 rw [ga_ne (by decide), ga_set (by simp), ga_set (by simp)]
 simp only [if_true]
 exact ⟨hy, hz⟩
theorem meas_q {q c : Nat} (h : q + 1 ≤ c) : ((c : Int) - intOf (Value.int .i64 ((q : Int) + 1))).toNat < ((c : Int) - intOf (Value.int .i64 (q : Int))).toNat := by
 simp only [intOf]
 omega
theorem meas_b {s b : Nat} (h : b + 1 ≤ s + 3) : ((s : Int) + 3 - intOf (Value.int .i64 ((b : Int) + 1))).toNat < ((s : Int) + 3 - intOf (Value.int .i64 (b : Int))).toNat := by
 simp only [intOf]
 omega
structure Wish (wc : Array Value) (si it : Bool) (sp tr : Int) : Prop where
 c0 : wc[0]? = some (.bool si)
 c1 : wc[1]? = some (.bool it)
 c2 : wc[2]? = some (.int .u8 sp)
 c3 : wc[3]? = some (.int .u8 tr)
 hsp : 0 ≤ sp ∧ sp ≤ 255
 htr : 0 ≤ tr ∧ tr ≤ 255
 st : ∀ j, j < 10 → ∃ x : Int, wc[4 + j]? = some (.int .i8 x) ∧ -128 ≤ x ∧ x ≤ 127
 fi : ∀ j, j < 10 → ∃ x : Int, wc[14 + j]? = some (.int .u8 x) ∧ 0 ≤ x ∧ x ≤ 255
 ra : ∀ j, j < 10 → ∃ x : Int, wc[24 + j]? = some (.int .u64 x) ∧ 0 ≤ x ∧ x < 18446744073709551616
structure WI (w0 w : World) (ps : List Int) (wc : Array Value) (f : Fr) (g N : Nat) (sz : Int) (m rl : Nat) : Prop where
 fi : FI w0 w ps wc f
 n0 : w0.heap.size + 4 ≤ N
 n1 : N ≤ w.heap.size
 wr : ∃ s R, RfAt (fun k => N ≤ k) w g sz s R ∧ Wr.Fair s 65537 ∧ s.m ≤ m ∧ R.length ≤ rl
section
variable {w0 w w1 : World} {ps : List Int} {wc : Array Value} {f : Fr} {g N : Nat} {sz : Int} {m rl : Nat}
theorem WI.start (h : FI w0 w ps wc f) (hr : RfAt (fun k => w.heap.size ≤ k) w1 g sz Wr.new []) (hb : Below w.heap.size w w1) : WI w0 w1 ps wc f g w.heap.size sz 0 0 :=
 ⟨h.below hb, h.size, hb.size, ⟨_, _, hr, Wr.new_fair, Nat.le_refl _, Nat.le_refl _⟩⟩
theorem WI.below (h : WI w0 w ps wc f g N sz m rl) (hb : Below w.heap.size w w1) : WI w0 w1 ps wc f g N sz m rl := by
 obtain ⟨fi, n0, n1, s, R, a, b, c, d⟩ := h
 exact ⟨fi.below hb, n0, Nat.le_trans n1 hb.size, s, R, rf_below a hb, b, c, d⟩
theorem WI.up (h : WI w0 w ps wc f g N sz m rl) {m' rl' : Nat} (hm : m ≤ m') (hr : rl ≤ rl') : WI w0 w ps wc f g N sz m' rl' := by
 obtain ⟨fi, n0, n1, s, R, a, b, c, d⟩ := h
 exact ⟨fi, n0, n1, s, R, a, b, by omega, by omega⟩
theorem WI.put (h : WI w0 w ps wc f g N sz m rl) {f' : Fr} {p : Addr} {v : Value} (hp : p.block = w0.heap.size + 1 + 1 + 1) (hf : FI w0 (w.setCell p v) ps wc f') : WI w0 (w.setCell p v) ps wc f' g N sz m rl := by
 obtain ⟨fi, n0, n1, s, R, a, b, c, d⟩ := h
 have hF : Foot (fun k => k = w0.heap.size + 1 + 1 + 1) w (w.setCell p v) := Foot.set_ (Foot.refl _ _) hp v
 exact ⟨hf, n0, Nat.le_trans n1 hF.b.size, s, R, RfB.foot a hF (fun k hk _ h => by omega), b, c, d⟩
theorem WI.uint (h : WI w0 w ps wc f g N sz m rl) {v n : Int} (hv : okU v n) (hm : m ≤ 800) (hr : rl ≤ 40000) :
 Calls Tryd.prog 51 #[.pointer (some ⟨g, 0, none⟩), .int .i64 v, .int .i64 n] w fun e w' => e = .returned (.tuple #[]) ∧ WI w0 w' ps wc f g N sz (m + 2) (rl + 16) := by
 obtain ⟨fi, n0, n1, s, R, a, b, c, d⟩ := h
 refine (ruput_any _ g v n sz s R w hv b (by omega) (by omega) (fun k hk => Nat.le_trans n1 hk) a).mono ?_
 rintro e w' ⟨rfl, hw, hf⟩
 refine ⟨rfl, fi.foot hf (fun k hk => Nat.le_trans n0 hk), n0, Nat.le_trans n1 hf.b.size, _, _, hw, uput_fair b v n, ?_, ?_⟩
 ·have := (uput_m s v n).2; omega
 ·have := uraw_len v n; rw [List.length_append]; omega
theorem WI.energies (h : WI w0 w ps wc f g N sz m rl) {s c : Nat} (hp : ps.length = 10) (hs2 : s ≤ 2) (hc1 : 1 ≤ c) (hc2 : c ≤ 2) (hm : m ≤ 800) :
 Calls Tryd.prog 53 #[.pointer (some ⟨g, 0, none⟩), .agg f.cells.toArray, .int .i64 s, .int .i64 c, .agg (ps.map (Value.int .i64)).toArray] w fun e w' => (∃ v, e = .returned v) ∧ WI w0 w' ps wc f g N sz (m + 20) rl := by
 obtain ⟨fi, n0, n1, s1, R, a, b, c1, d⟩ := h
 refine (enput_call _ g sz m R f ps s c fi.fl hp hs2 hc1 hc2 w hm (fun k hk => Nat.le_trans n1 hk) ⟨s1, a, b, c1⟩).mono ?_
 rintro e w' ⟨he, s', h1, h2, h3, hf⟩
 exact ⟨he, fi.foot hf (fun k hk => Nat.le_trans n0 hk), n0, Nat.le_trans n1 hf.b.size, s', R, h1, h2, h3, d⟩
theorem WI.left (h : WI w0 w ps wc f g N sz m rl) (hsz : 0 ≤ sz ∧ sz ≤ 10000) (hm : m ≤ 9000) (hr : rl ≤ 40000) :
 Calls Tryd.prog 55 #[.pointer (some ⟨g, 0, none⟩)] w fun e w' => (∃ L : Int, e = .returned (.int .i64 L) ∧ -200000 ≤ L ∧ L ≤ 200000) ∧ Below w.heap.size w w' := by
 obtain ⟨fi, n0, n1, s, R, a, b, c, d⟩ := h
 have hdl : (Wr.dig s.V (s.m + 3)).length = s.m + 3 := Wr.dig_len _ _
 refine (rleft_any _ g sz s.g _ _ w a hsz (by rw [hdl]; omega) (by rw [List.length_map]; omega)).mono ?_
 rintro e w' ⟨rfl, hb⟩
 rw [hdl, List.length_map]
 exact ⟨⟨_, rfl, by omega, by omega⟩, hb⟩
theorem WI.raw (h : WI w0 w ps wc f g N sz m rl) {x : Int} {k : Nat} (hx : 0 ≤ x) (hx2 : x < 2 ^ k) (hk : k ≤ 3) (hr : rl ≤ 40000) :
 Calls Tryd.prog 56 #[.pointer (some ⟨g, 0, none⟩), .int .i64 x, .int .i64 (k : Int)] w fun e w' => e = .returned (.tuple #[]) ∧ WI w0 w' ps wc f g N sz m (rl + 16) := by
 obtain ⟨fi, n0, n1, s, R, a, b, c, d⟩ := h
 have hx3 : x < 4294967296 := by
  have : (2 : Int) ^ k ≤ 65536 := (pow_16 (by omega)).2
  omega
 refine (rraw_at _ g sz x k s R w ⟨by omega, by omega, by rw [Int.toNat_natCast]; exact hx2⟩ hx hx3 (by omega) (fun k hk => Nat.le_trans n1 hk) a).mono ?_
 rintro e w' ⟨rfl, hw, hf⟩
 refine ⟨rfl, fi.foot hf (fun k hk => Nat.le_trans n0 hk), n0, Nat.le_trans n1 hf.b.size, _, _, hw, b, c, ?_⟩
 have := WrLaw.rawN_len x (k : Int)
 rw [List.length_append]; omega
end
theorem fines_call {L : Int} {c : Nat} (hL : -200000 ≤ L ∧ L ≤ 200000) (hc1 : 1 ≤ c) (hc2 : c ≤ 2) (w : World) : Calls Tryd.prog 54 #[.int .i64 L, .int .i64 c] w fun e w' => (∃ r : Nat, e = .returned (.int .i64 (r : Int)) ∧ r ≤ 3) ∧ Below w.heap.size w w' := by
 have h : ∃ r : Nat, spinetref16_Fines.f 5 L c = some (r : Int) ∧ r ≤ 3 := by
  unfold spinetref16_Fines.f
  split
  ·exact ⟨0, rfl, by omega⟩
  ·rename_i hp
   have e1 : wrap64 (Int.tdiv L 64) = L / 64 := by rw [Int.tdiv_eq_ediv_of_nonneg (by omega)]; exact sw64 (by omega) (by omega)
   have h1 : 0 ≤ L / 64 := by omega
   have e2 : wrap64 (Int.tdiv (L / 64) (c : Int)) = L / 64 / (c : Int) := by
    rw [Int.tdiv_eq_ediv_of_nonneg h1]
    have a1 := Int.ediv_nonneg h1 (show (0 : Int) ≤ (c : Int) by omega)
    have a2 := Int.ediv_le_self (c : Int) h1
    exact sw64 (by omega) (by omega)
   have h2 := Int.ediv_nonneg h1 (show (0 : Int) ≤ (c : Int) by omega)
   simp only [spinetref16_Fines.j0]
   rw [if_neg (by simp; omega), if_neg (by omega), e1, e2]
   split
   ·exact ⟨3, rfl, by omega⟩
   ·exact ⟨(L / 64 / (c : Int)).toNat, by rw [Int.toNat_of_nonneg h2], by omega⟩
 obtain ⟨r, hr, hr3⟩ := h
 exact (spinetref16_Fines.calls 5 L c r w hr).mono (by rintro e w' ⟨he, hd⟩; exact ⟨⟨r, he, hr3⟩, hd.below⟩)
theorem wish_call {b k : Nat} (hb : b ≤ 4) (hk : k ≤ 32) {x : Int} (hx : 0 ≤ x) (hx2 : x < 18446744073709551616) : ∃ l : List Int, l.length = bw b ∧ asum l = k ∧ ∀ w, Calls Tryd.prog 59 #[.int .i64 (bw b : Int), .int .i64 (k : Int), .int .u64 x] w fun e w' => ∃ v, e = .returned v ∧ Kd.R (Kd.int .i64) 3 w' w.heap.size (fun _ => True) v l ∧ Below w.heap.size w w' := by
 by_cases h4 : b = 4
 ·subst h4
  obtain ⟨l, h1, h2, h3⟩ := wished_16 hk hx hx2 (f := 660) (by omega)
  exact ⟨l, h1, h2, fun w => spinetref17_wished.calls _ _ _ _ _ w h3⟩
 ·have hw : 1 ≤ bw b ∧ bw b ≤ 8 := by
   rcases (by omega : b = 0 ∨ b = 1 ∨ b = 2 ∨ b = 3) with rfl | rfl | rfl | rfl <;> decide
  obtain ⟨l, h1, h2, h3⟩ := wished_8 hw.1 hw.2 hk hx (f := 660) (by omega)
  exact ⟨l, h1, h2, fun w => spinetref17_wished.calls _ _ _ _ _ w h3⟩
theorem FI.cellQ {w0 w : World} {ps : List Int} {wc : Array Value} {f : Fr} (h : FI w0 w ps wc f) {q b : Nat} (hq : q ≤ 1) (hb : b ≤ 4) : w.cell? ⟨w0.heap.size + 1 + 1 + 1, 15 + q * 5 + b, none⟩ = some (.int .i64 (ga f.L (13 + (q * 5 + b)))) := by
 have := h.cell (j := 13 + (q * 5 + b)) (by omega)
 rwa [show 13 + (q * 5 + b) + 2 = 15 + q * 5 + b by omega] at this
theorem FI.setQ {w0 w : World} {ps : List Int} {wc : Array Value} {f : Fr} (h : FI w0 w ps wc f) (q b : Nat) (y : Int) : FI w0 (w.setCell ⟨w0.heap.size + 1 + 1 + 1, 15 + q * 5 + b, none⟩ (.int .i64 y)) ps wc (f.setL (13 + (q * 5 + b)) y) := by
 have := h.setL (13 + (q * 5 + b)) y
 rwa [show 13 + (q * 5 + b) + 2 = 15 + q * 5 + b by omega] at this
def Fr.setK (f : Fr) (ks : List Int) : Fr := ((((f.setL 23 (ga ks 0)).setL 24 (ga ks 1)).setL 25 (ga ks 2)).setL 26 (ga ks 3)).setL 27 (ga ks 4)
theorem FI.setK {w0 w : World} {ps : List Int} {wc : Array Value} {f : Fr} (h : FI w0 w ps wc f) {ks : List Int} (hl : ks.length = 5) : FI w0 (w.setCells (w0.heap.size + 1 + 1 + 1) 25 (ks.map (Value.int .i64)).toArray.toList) ps wc (f.setK ks) := by
 match ks, hl with
 | [a, b, c, d, e], _ => exact ((((h.setL 23 a).setL 24 b).setL 25 c).setL 26 d).setL 27 e
theorem FI.thereK {w0 w : World} {ps : List Int} {wc : Array Value} {f : Fr} (h : FI w0 w ps wc f) {ks : List Int} (hl : ks.length = 5) : w.there (w0.heap.size + 1 + 1 + 1) 25 (ks.map (Value.int .i64)).toArray.size := by
 rw [row_sz hl]
 intro j hj
 have := h.cell (j := 23 + j) (by omega)
 rw [show 23 + j + 2 = 25 + j by omega] at this
 exact ⟨by rw [this]; rfl, h.frozen _⟩
theorem setK_at (f : Fr) (hf : f.L.length = 92) (ks : List Int) (j : Nat) (hj : j < 5) : ga (f.setK ks).L (23 + j) = ga ks j := by
 unfold Fr.setK Fr.setL
 simp only
 rw [ga_set (by simp; omega), ga_set (by simp; omega), ga_set (by simp; omega), ga_set (by simp; omega), ga_set (by omega)]
 rcases (by omega : j = 0 ∨ j = 1 ∨ j = 2 ∨ j = 3 ∨ j = 4) with rfl | rfl | rfl | rfl | rfl <;> simp
theorem setK_1 (f : Fr) (ks : List Int) : ga (f.setK ks).L 1 = ga f.L 1 := by
 unfold Fr.setK Fr.setL
 simp only
 rw [ga_ne (by decide), ga_ne (by decide), ga_ne (by decide), ga_ne (by decide), ga_ne (by decide)]
theorem FI.cellK {w0 w : World} {ps : List Int} {wc : Array Value} {f : Fr} (h : FI w0 w ps wc f) {b : Nat} (hb : b ≤ 4) : w.cell? ⟨w0.heap.size + 1 + 1 + 1, 25 + b, none⟩ = some (.int .i64 (ga f.L (23 + b))) := by
 have := h.cell (j := 23 + b) (by omega)
 rwa [show 23 + b + 2 = 25 + b by omega] at this
def bfN (b : Nat) : Nat := [0, 2, 4, 8, 16].getD b 0
theorem bf_is {b : Nat} (hb : b ≤ 4) : bf b = (bfN b : Int) := by
 rcases (by omega : b = 0 ∨ b = 1 ∨ b = 2 ∨ b = 3 ∨ b = 4) with rfl | rfl | rfl | rfl | rfl <;> rfl
theorem bfN_in {b : Nat} (hb : b ≤ 4) : bfN b + bw b ≤ 32 ∧ 2 ≤ bw b ∧ bw b ≤ 16 := by
 rcases (by omega : b = 0 ∨ b = 1 ∨ b = 2 ∨ b = 3 ∨ b = 4) with rfl | rfl | rfl | rfl | rfl <;> decide
theorem FI.cellX {w0 w : World} {ps : List Int} {wc : Array Value} {f : Fr} (h : FI w0 w ps wc f) {q j : Nat} (hq : q ≤ 1) (hj : j < 32) : w.cell? ⟨w0.heap.size + 1 + 1 + 1, 30 + q * 32 + j, none⟩ = some (.int .i64 (ga f.L (28 + (q * 32 + j)))) := by
 have := h.cell (j := 28 + (q * 32 + j)) (by omega)
 rwa [show 28 + (q * 32 + j) + 2 = 30 + q * 32 + j by omega] at this
theorem FI.setX {w0 w : World} {ps : List Int} {wc : Array Value} {f : Fr} (h : FI w0 w ps wc f) (q j : Nat) (y : Int) : FI w0 (w.setCell ⟨w0.heap.size + 1 + 1 + 1, 30 + q * 32 + j, none⟩ (.int .i64 y)) ps wc (f.setL (28 + (q * 32 + j)) y) := by
 have := h.setL (28 + (q * 32 + j)) y
 rwa [show 28 + (q * 32 + j) + 2 = 30 + q * 32 + j by omega] at this
def XB (f : Fr) (q b : Nat) : Prop := ∃ l : List Int, l.length = bw b ∧ asum l = ga f.L (23 + b) ∧ ∀ t, t < bw b → ga f.L (28 + (q * 32 + (bfN b + t))) = ga l t
structure FX (f : Fr) (s c b q : Nat) : Prop where
 k : ∀ j, j < 5 → 0 ≤ ga f.L (23 + j) ∧ ga f.L (23 + j) ≤ 32
 d : ∀ b', b' < b → ∀ q', q' < c → XB f q' b'
 e : ∀ q', q' < q → XB f q' b
theorem far_of {b b' q q' t i : Nat} (hb : b ≤ 4) (hb' : b' ≤ 4) (hq : q ≤ 1) (hq' : q' ≤ 1) (ht : t < bw b') (hi : i < bw b) (h : b ≠ b' ∨ q ≠ q') : q' * 32 + (bfN b' + t) ≠ q * 32 + (bfN b + i) := by
 have e1 := bfN_in hb
 have e2 := bfN_in hb'
 by_cases hqq : q = q'
 ·subst hqq
  rcases (by omega : b = 0 ∨ b = 1 ∨ b = 2 ∨ b = 3 ∨ b = 4) with rfl | rfl | rfl | rfl | rfl <;> rcases (by omega : b' = 0 ∨ b' = 1 ∨ b' = 2 ∨ b' = 3 ∨ b' = 4) with rfl | rfl | rfl | rfl | rfl <;> simp [bw, bfN] at * <;> omega
 ·omega
theorem XB.set {f : Fr} {q' b' : Nat} (h : XB f q' b') {q b i : Nat} (hb : b ≤ 4) (hb' : b' ≤ 4) (hq : q ≤ 1) (hq' : q' ≤ 1) (hi : i < bw b) (hne : b ≠ b' ∨ q ≠ q') (y : Int) : XB (f.setL (28 + (q * 32 + (bfN b + i))) y) q' b' := by
 obtain ⟨l, h1, h2, h3⟩ := h
 refine ⟨l, h1, ?_, fun t ht => ?_⟩
 ·rw [h2]; exact (ga_ne (by omega) y).symm
 ·rw [← h3 t ht]
  exact ga_ne (by have := far_of hb hb' hq hq' ht hi hne; omega) y
theorem FX.set {f : Fr} {s c b q : Nat} (h : FX f s c b q) (hb : b ≤ 4) (hq : q ≤ 1) (hc : c ≤ 2) {i : Nat} (hi : i < bw b) (y : Int) : FX (f.setL (28 + (q * 32 + (bfN b + i))) y) s c b q :=
 ⟨fun j hj => by rw [show ga (f.setL (28 + (q * 32 + (bfN b + i))) y).L (23 + j) = ga f.L (23 + j) from ga_ne (by omega) y]; exact h.k j hj,
  fun b' hb' q' hq' => (h.d b' hb' q' hq').set hb (by omega) hq (by omega) hi (.inl (by omega)) y,
  fun q' hq' => (h.e q' hq').set hb hb hq (by omega) hi (.inr (by omega)) y⟩
theorem FX.next {f : Fr} {s c b q : Nat} (h : FX f s c b q) {l : List Int} (h1 : l.length = bw b) (h2 : asum l = ga f.L (23 + b)) (h3 : ∀ t, t < bw b → ga f.L (28 + (q * 32 + (bfN b + t))) = ga l t) : FX f s c b (q + 1) :=
 ⟨h.k, h.d, fun q' hq' => by
  by_cases e : q' = q
  ·subst e; exact ⟨l, h1, h2, h3⟩
  ·exact h.e q' (by omega)⟩
theorem FX.nextb {f : Fr} {s c b : Nat} (h : FX f s c b c) : FX f s c (b + 1) 0 :=
 ⟨h.k, fun b' hb' q' hq' => by
  by_cases e : b' = b
  ·subst e; exact h.e q' hq'
  ·exact h.d b' (by omega) q' hq', fun q' hq' => by omega⟩
theorem xs_next {f : Fr} {o i : Nat} {l : List Int} (hf : f.L.length = 92) (h : ∀ t, t < i → ga f.L (28 + (o + t)) = ga l t) (hb : o + i < 64) {Y : Int} (hY : ga l i = Y) : ∀ t, t < i + 1 → ga (f.setL (28 + (o + i)) Y).L (28 + (o + t)) = ga l t := fun t ht => by
 rw [show ga (f.setL (28 + (o + i)) Y).L (28 + (o + t)) = if 28 + (o + t) = 28 + (o + i) then Y else ga f.L (28 + (o + t)) from ga_set (by omega) Y _]
 by_cases e : t = i
 ·subst e; rw [if_pos rfl, hY]
 ·rw [if_neg (by omega)]; exact h t (by omega)
theorem xs_next2 {f : Fr} {q o i : Nat} {l : List Int} (hf : f.L.length = 92) (h : ∀ t, t < i → ga f.L (28 + (q * 32 + (o + t))) = ga l t) (hb : q * 32 + o + i < 64) {Y : Int} (hY : ga l i = Y) : ∀ t, t < i + 1 → ga (f.setL (28 + (q * 32 + (o + i))) Y).L (28 + (q * 32 + (o + t))) = ga l t := by
 have e : ∀ t, 28 + (q * 32 + (o + t)) = 28 + ((q * 32 + o) + t) := fun t => by omega
 intro t ht
 rw [e, e]
 exact xs_next hf (fun t ht => by rw [← e]; exact h t ht) hb hY t ht
theorem FX.start {f : Fr} {s c : Nat} (h : ∀ j, j < 5 → 0 ≤ ga f.L (23 + j) ∧ ga f.L (23 + j) ≤ 32) : FX f s c 0 0 := ⟨h, fun b' hb' => by omega, fun q' hq' => by omega⟩
theorem at_put {f : Fr} (hf : f.L.length = 92) {i : Nat} (hi : i < 92) (y : Int) (j : Nat) : ga (f.setL i y).L j = if j = i then y else ga f.L j := ga_set (by rw [hf]; exact hi) y j
end Go.Proofs.YtjpnbdofbkoddaaDoor.Sh
