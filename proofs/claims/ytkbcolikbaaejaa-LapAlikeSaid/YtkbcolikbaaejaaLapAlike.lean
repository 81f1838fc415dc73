/- Frame by frame, both ways lap alike, each over the tail that the one ahead left. Conditions: none but that each number fits its type. -/
import Derived.Test.YtkbcolikbaaejaaLapRef
import Derived.Test.YtkbcolikbaaejaaLapNo
import Derived.Deep.DrawnRows
namespace Go.Proofs.Ytkbcolikbaaejaa.LapAlike
open Go.RowKit Go.Proofs.Ytkbcolikbaaejaa.OLapTells Go.Proofs.YtkbcolikbaaejaaW.PrintWords Go.Proofs.YtkbcolikbaaejaaW.PrintLast Go.Proofs.YtkbcolikbaaejaaW.PrintMore
open Go.Proofs.Ytkbcolikbaaejaa.LapPlain Go.Proofs.Ytkbcolikbaaejaa.LapIn
set_option linter.unusedVariables false
set_option linter.unusedSimpArgs false
theorem awake_any (w : World) : Calls Try.prog 7 #[] w fun e w' => e = .returned (.bool true) ∧ Below w.heap.size w w' :=
  spinetlaw23_awake.calls 103 true w (by decide +kernel)
abbrev C32 := Kd.C (Kd.int .i32)
abbrev C64 := Kd.C (Kd.int .i64)
theorem wide_any (n : Nat) (hn : n ≤ 1000) (A : Option Addr) (c : Nat) (hc : n ≤ c) (l : List Int) (hl : l.length = n) (hw : ∀ x ∈ l, I32 x) (w : World) (C : C32 w A n l) :
    Calls Try.prog 12 #[.slice A n c] w fun e w' => ∃ A2 c2, e = .returned (.slice A2 n c2) ∧ C64 w' A2 n l ∧ n ≤ c2 ∧ Below w.heap.size w w' := by
  subst hl
  refine (spinetlaw18_Wide.calls 1001 A c l l w C hc (wide_fn l hn hw)).mono ?_
  rintro e w' ⟨v, rfl, hR, hb⟩
  obtain ⟨A2, c2, rfl, hc2, k2⟩ := Kd.R_reads hR
  exact ⟨A2, c2, rfl, k2, hc2, hb⟩
theorem same_any (n : Nat) (hn : n ≤ 1000) (A : Option Addr) (c : Nat) (hc : n ≤ c) (A2 : Option Addr) (c2 : Nat) (hc2 : n ≤ c2) (l : List Int) (hl : l.length = n) (hw : ∀ x ∈ l, I32 x) (w : World) (C : C32 w A n l) (C2 : C64 w A2 n l) :
    Calls Try.prog 13 #[.slice A n c, .slice A2 n c2] w fun e w' => e = .returned (.bool true) ∧ Below w.heap.size w w' := by
  subst hl
  exact (spinetlaw18_Same.calls 1001 A c l A2 c2 l true w C hc C2 hc2 (same_fn l hn hw)).mono fun e w' h => ⟨h.1, h.2.below⟩
theorem plain_any (n : Nat) (hth : Th n) (A0 A1 : Option Addr) (c0 c1 : Nat) (h0 : n ≤ c0) (h1 : n ≤ c1) (l0 l1 : List Int) (hl0 : l0.length = n) (hl1 : l1.length = n) (hs0 : ∀ x ∈ l0, I32 x) (hs1 : ∀ x ∈ l1, I32 x) (w : World) (C0 : C32 w A0 n l0) (C1 : C32 w A1 n l1) :
    Calls Try.prog 11 #[.slice A0 n c0, .slice A1 n c1] w fun e w' => ∃ v2 v3, e = .returned (.tuple #[v2, v3]) ∧ Kd.R (Kd.int .i32) 21 w' w.heap.size (fun _ => True) v2 ((List.range n).map (ov l0 l1)) ∧ Kd.R (Kd.int .i32) 21 w' w.heap.size (fun _ => True) v3 ((List.range n).map (bv l0)) ∧ Below w.heap.size w w' := by
  subst hl0
  have hf := plain_is l0 l1 hth hl1 hs0 hs1 201 (by omega)
  have hc := lap_Plain.calls 201 A0 c0 l0 A1 c1 l1 _ _ w C0 h0 (by rw [hl1]; exact C1) (by omega) hf
  rw [hl1] at hc
  refine hc.mono ?_
  rintro e w' ⟨v0, v1, rfl, r0, r1, hb⟩
  exact ⟨v0, v1, rfl, Kd.R_mono r0 (fun _ _ => trivial), Kd.R_mono r1 (fun _ _ => trivial), hb⟩
theorem plain_none (n k : Nat) (h : ¬ Th n ∨ k ≠ n) (A0 A1 : Option Addr) (c0 c1 : Nat) (h0 : n ≤ c0) (h1 : k ≤ c1) (l0 l1 : List Int) (hl0 : l0.length = n) (hl1 : l1.length = k) (w : World) (C0 : C32 w A0 n l0) (C1 : C32 w A1 k l1) :
    Calls Try.prog 11 #[.slice A0 n c0, .slice A1 k c1] w fun e w' => ∃ A2 c2 A3 c3, e = .returned (.tuple #[.slice A2 0 c2, .slice A3 0 c3]) ∧ Below w.heap.size w w' := by
  subst hl0 hl1
  refine (lap_Plain.calls 201 A0 c0 l0 A1 c1 l1 _ _ w C0 h0 C1 h1 (plain_no l0 l1 h 201 (by omega))).mono ?_
  rintro e w' ⟨v0, v1, rfl, r0, r1, hb⟩
  obtain ⟨A2, c2, rfl⟩ := Kd.R_slice r0
  obtain ⟨A3, c3, rfl⟩ := Kd.R_slice r1
  exact ⟨A2, c2, A3, c3, rfl, hb⟩
theorem ref_any (n : Nat) (hth : Th n) (A0 A1 : Option Addr) (c0 c1 : Nat) (h0 : n ≤ c0) (h1 : n ≤ c1) (l0 l1 : List Int) (hl0 : l0.length = n) (hl1 : l1.length = n) (hs0 : ∀ x ∈ l0, I32 x) (hs1 : ∀ x ∈ l1, I32 x) (w : World) (C0 : C64 w A0 n l0) (C1 : C64 w A1 n l1) :
    Calls Try.prog 16 #[.slice A0 n c0, .slice A1 n c1] w fun e w' => ∃ A2 c2 A3 c3, e = .returned (.tuple #[.slice A2 n c2, .slice A3 n c3]) ∧ n ≤ c2 ∧ n ≤ c3 ∧ C64 w' A2 n ((List.range n).map (ov l0 l1)) ∧ C64 w' A3 n ((List.range n).map (bv l0)) ∧ Below w.heap.size w w' := by
  subst hl0
  have hf := ref_is l0 l1 hth hl1 hs0 hs1
  have hc := spinetref23_Lap.calls 201 A0 c0 l0 A1 c1 l1 _ _ w C0 h0 (by rw [hl1]; exact C1) (by omega) hf
  rw [hl1] at hc
  refine hc.mono ?_
  rintro e w' ⟨v0, v1, rfl, r0, r1, hb⟩
  obtain ⟨A2, c2, rfl, m2, k2⟩ := Kd.R_reads r0
  obtain ⟨A3, c3, rfl, m3, k3⟩ := Kd.R_reads r1
  simp only [List.length_map, List.length_range] at k2 k3 m2 m3 ⊢
  exact ⟨A2, c2, A3, c3, rfl, m2, m3, k2, k3, hb⟩
theorem there_any (n : Nat) (w : World) : Calls Try.prog 8 #[.int .i64 n] w fun e w' => e = .returned (.bool (decide (n = 8 ∨ n = 16 ∨ n = 32))) ∧ Below w.heap.size w w' :=
  (spinetref23_There.calls (n : Int) _ w (there_ref n)).mono fun e w' h => ⟨h.1, h.2.below⟩
theorem ov_all (y t : List Int) (n : Nat) : ∀ x ∈ (List.range n).map (ov y t), I32 x := fun x hx => by obtain ⟨i, _, rfl⟩ := List.mem_map.1 hx; exact ov_in y t i
theorem bv_all (y : List Int) (n : Nat) : ∀ x ∈ (List.range n).map (bv y), I32 x := fun x hx => by obtain ⟨i, _, rfl⟩ := List.mem_map.1 hx; exact bv_in y i
theorem row_reads {w : World} {A : Option Addr} {n c base : Nat} {ok : Nat → Prop} {xs : List Int} (h : Kd.R (Kd.int .i32) 21 w base ok (.slice A n c) xs) : n ≤ c ∧ C32 w A n xs := by
  obtain ⟨rfl, h2, h3⟩ := Kd.R_reads' h
  exact ⟨h2, h3⟩
theorem map_len (f : Nat → Int) (n : Nat) : ((List.range n).map f).length = n := by simp
theorem row_up {w : World} {A : Option Addr} {n c base : Nat} {xs : List Int} (h : Kd.R (Kd.int .i32) 21 w base (fun _ => True) (.slice A n c) xs) (B g : Nat) (hB : B ≤ base) (hg : g < base) : Kd.R (Kd.int .i32) 21 w B (fun k => k ≠ g) (.slice A n c) xs :=
  Kd.R_mono (Kd.R_lower (Kd.R_bound h) hB) (fun k hk => by have := hk.2.1; omega)
theorem row_keep {w w' : World} {v : Value} {base g g' : Nat} {xs : List Int} (h : Kd.R (Kd.int .i32) 21 w base (fun _ => True) v xs) (hk : Kept w w' (fun k => k = g ∨ k = g')) (hg : g < base) (hg' : g' < base) : Kd.R (Kd.int .i32) 21 w' base (fun _ => True) v xs :=
  Kd.R_mono (Kd.R_step (Kd.R_bound h) (fun k h1 h2 => hk.2 k h2 (by have := h1.2.1; omega))) (fun _ _ => trivial)
theorem lt_size {w : World} {g n c base : Nat} {ok : Nat → Prop} {xs : List Int} (h : Kd.R (Kd.int .i32) 21 w base ok (.slice (some ⟨g, 0, none⟩) n c) xs) : g < w.heap.size := by
  obtain ⟨cur, hg, _⟩ := Arrs.R_open h
  exact blk_lt hg
theorem made_two (w : World) (n : Nat) (hn : n ≤ 1000) :
    Kd.R (Kd.int .i32) 21 ((w.alloc (.cells (madeCells #[.int .i32 0] n) 21)).alloc (.cells (madeCells #[.int .i32 0] n) 21)).drew w.heap.size (fun k => k ≠ w.heap.size + 1) (.slice (some ⟨w.heap.size + 0, 0, none⟩) n n) (List.replicate n 0) ∧
    Kd.R (Kd.int .i32) 21 ((w.alloc (.cells (madeCells #[.int .i32 0] n) 21)).alloc (.cells (madeCells #[.int .i32 0] n) 21)).drew w.heap.size (fun k => k ≠ w.heap.size + 0) (.slice (some ⟨w.heap.size + 1, 0, none⟩) n n) (List.replicate n 0) ∧
    Below w.heap.size w ((w.alloc (.cells (madeCells #[.int .i32 0] n) 21)).alloc (.cells (madeCells #[.int .i32 0] n) 21)).drew ∧ ((w.alloc (.cells (madeCells #[.int .i32 0] n) 21)).alloc (.cells (madeCells #[.int .i32 0] n) 21)).drew.heap.size = w.heap.size + 2 := by
  have h1 := Kd.R_of_own (ok := fun _ => True) (h1 := fun _ => rfl) (own_made' w w.heap.size 21 .i32 n (Nat.le_refl _) (by omega)) (fun _ _ => trivial)
  have h2 := Kd.R_of_own (ok := fun _ => True) (h1 := fun _ => rfl) (own_made' (w.alloc (.cells (madeCells #[.int .i32 0] n) 21)) (w.alloc (.cells (madeCells #[.int .i32 0] n) 21)).heap.size 21 .i32 n (Nat.le_refl _) (by omega)) (fun _ _ => trivial)
  have hs : (w.alloc (.cells (madeCells #[.int .i32 0] n) 21)).heap.size = w.heap.size + 1 := by simp
  refine ⟨Kd.R_drew (Kd.R_alloc (Kd.R_mono (Kd.R_bound h1) (fun k hk => by have := hk.2.2.1; rw [hs] at this; omega)) _), Kd.R_drew ?_, below_drew (below_alloc (below_alloc (Below.refl _ _) _) _), by simp⟩
  have h3 := Kd.R_mono (ok' := fun k => k ≠ w.heap.size + 0) (Kd.R_bound h2) (fun k hk => by have := hk.2.1; rw [hs] at this; omega)
  rw [hs] at h3
  exact Kd.R_lower h3 (by omega)
theorem size27 : (Try.prog.info? 27).map (·.size) = some 32 := by kernel_rfl
theorem zeros_in (n : Nat) : ∀ x ∈ List.replicate n (0 : Int), I32 x := fun x hx => by rw [List.eq_of_mem_replicate hx]; exact ⟨by decide, by decide⟩
theorem take_in {l : List Int} {n : Nat} (h : ∀ x ∈ l, I32 x) : ∀ x ∈ l.take n, I32 x := fun x hx => h x (List.mem_of_mem_take hx)
set_option maxHeartbeats 8000000 in
set_option maxRecDepth 100000 in
theorem alike_any (s : Int) (hs0 : 0 ≤ s) (hs1 : s ≤ 255) (n : Nat) (hn : wrap64 (8 * 2 ^ (s % 3).toNat) = (n : Int)) (hth : Th n) (Al : Option Addr) (m cl : Nat) (hm : m ≤ 8) (zs : List (List Int)) (w : World) (hR : Arrs.ARows .i32 32 w Al m cl zs) :
    Calls Try.prog 6 #[.int .u8 s, .slice Al m cl] w fun e w' => e = .returned (.bool true) ∧ Below w.heap.size w w' := by
  have hn8 : 8 ≤ n := by unfold Th at hth; omega
  have hn32 : n ≤ 32 := by unfold Th at hth; omega
  obtain ⟨h, hh⟩ : ∃ h, n = 2 * h := ⟨n / 2, by unfold Th at hth; omega⟩
  have HH := Aside0.mk hh
  have H1 : Aside0 (1 ≤ h ∧ h ≤ 16) := ⟨by omega⟩
  clear hh
  have HB := Aside0.mk (Below.refl w.heap.size w)
  have HR := Aside0.mk hR
  clear hR
  have hmk := print_make (P := Try.prog) 30 21 .i32 4 Try.underlying30 (by kernel_rfl) (by decide) n (by omega)
  have dm : decide ((8 : Int) < (m : Int)) = false := decide_eq_false (by omega)
  go_enter Try.func6, Try.ntmps6
  go_wp2_with fail
  (refine (awake_any _).mono ?_); rintro e w1 ⟨rfl, hb⟩; have m0 := Aside0.mk (below_step HB.out hb); clear HB; have HB := m0; clear m0;clear hb
  go_wp2_with fail
  (refine (new_ok n hth _).mono ?_); rintro e wN ⟨gl, rfl, hl, hb⟩; have m0 := Aside0.mk (below_step HB.out hb); clear HB; have HB := m0; clear m0;have HL := Aside0.mk (LapQ.of hl); have HBN := Aside0.mk (Below.refl wN.heap.size wN); clear hb hl
  go_wp2
  go_region
  · have hm2 := made_two wN n (by omega)
    obtain ⟨g8, e8⟩ : ∃ g, g = wN.heap.size + 0 := ⟨_, rfl⟩
    obtain ⟨g9, e9⟩ : ∃ g, g = wN.heap.size + 1 := ⟨_, rfl⟩
    obtain ⟨wL, eL⟩ : ∃ x, ((wN.alloc (.cells (madeCells #[.int .i32 0] n) 21)).alloc (.cells (madeCells #[.int .i32 0] n) 21)).drew = x := ⟨_, rfl⟩
    rw [eL] at hm2
    have HT0 : Aside0 (Kd.R (Kd.int .i32) 21 wL wN.heap.size (fun k => k ≠ g9) (.slice (some ⟨g8, 0, none⟩) n n) (List.replicate n 0)) := ⟨by rw [e8, e9]; exact hm2.1⟩
    have HI0 : Aside0 (Kd.R (Kd.int .i32) 21 wL wN.heap.size (fun _ => True) (.slice (some ⟨g9, 0, none⟩) n n) (List.replicate n 0)) := ⟨by rw [e9]; exact Kd.R_mono hm2.2.1 (fun _ _ => trivial)⟩
    have HBL : Aside0 (Below wN.heap.size wN wL) := ⟨hm2.2.2.1⟩
    have HG9 : Aside0 (g9 < wL.heap.size) := ⟨by rw [hm2.2.2.2, e9]; omega⟩
    clear hm2
    rw [eL]
    rw [Nat.add_zero] at e8; rw [← e9, ← e8]
    clear e8 e9 eL hmk
    go_wp2
    go_loopw [8, 39] (fun v8 i wr => ∃ (q : Nat) (Tl : List Int) (A8 : Option Addr) (c8 : Nat), q ≤ m ∧ i = .int .i64 q ∧ v8 = .slice A8 n c8 ∧ Aside0 (Tl.length = n ∧ ∀ x ∈ Tl, I32 x) ∧ Aside0 (Kd.R (Kd.int .i32) 21 wr wN.heap.size (fun k => k ≠ g9) (.slice A8 n c8) Tl) ∧ Aside0 (Kd.R (Kd.int .i32) 21 wr wN.heap.size (fun _ => True) (.slice (some ⟨g9, 0, none⟩) n n) Tl) ∧ Aside0 (Below wN.heap.size wN wr) ∧ Aside0 (g9 < wr.heap.size)) (fun _ i _ => (m - intOf i).toNat)
    case atStart => exact ⟨0, _, _, _, by omega, rfl, rfl, ⟨by simp, zeros_in n⟩, HT0, HI0, HBL, HG9⟩
    case round =>
      obtain ⟨q, Tl, A8, c8, hq, rfl, rfl, HTl, HT2, HIN, HBN2, HG⟩ := hrel
      clear HT0 HI0 HBL HG9
      by_cases hqt : q < m
      · have hc8 := (row_reads HT2.out).1
        obtain ⟨ad, hA, hcell⟩ := (HR.out.below (HB.out.trans (HBN2.out.mono HB.out.size))).2.2.2.2 (by omega)
        subst hA
        have hlen := HR.out.2.1
        obtain ⟨f, hf⟩ : ∃ f, zs[q]? = some f := ⟨zs[q]'(by omega), List.getElem?_eq_getElem (by omega)⟩
        have hfm := HR.out.2.2.2.1 f (List.mem_of_getElem? hf)
        have HF : Aside0 (f.length = 32 ∧ ∀ x ∈ f, I32 x) := ⟨hfm.1, fun x hx => Math.wf_i32 (hfm.2 x hx)⟩
        have HC : Aside0 (∀ j v, (nums .i32 f)[j]? = some v → wr.cell? ((ad.add (q * 32)).add j) = some v) := ⟨hcell q f hf⟩
        have hqm : (q : Int) < (m : Int) := by omega
        have hn0 : (0 : Int) ≤ (n : Int) := by omega
        have hn33 : (n : Int) ≤ 32 := by omega
        clear hcell hlen hf hfm
        go_wp2_with (first
          | (refine Arrs.load_at rfl 27 (.tmp 41) rfl (ad.add (q * 32)) rfl Try.underlying27 size27 .i32 f HF.out.1 HC.out ?_)
          | (refine Arrs.store_new rfl 27 (.tmp 11) (.tmp 42) rfl _ wr rfl rfl (by kernel_rfl) size27 .i32 f HF.out.1 rfl ?_; have HW : Aside0 (Below wr.heap.size wr (wr.alloc (.cells (nums .i32 f).toArray 27))) := ⟨below_alloc (Below.refl _ _) _⟩; have HFB : Aside0 ((wr.alloc (.cells (nums .i32 f).toArray 27)).heap[wr.heap.size]? = some (.cells (nums .i32 f).toArray 27 (0, 0))) := ⟨heap_alloc_last _ _⟩; obtain ⟨wz, hwz⟩ : ∃ wz, wr.alloc (.cells (nums .i32 f).toArray 27) = wz := ⟨_, rfl⟩; rw [hwz] at HW HFB ⊢; clear hwz; have HZ : Aside0 (C32 wz (some ⟨wr.heap.size, 0, none⟩) n (f.take n)) := ⟨Kd.C_of_reads (d := (0 : Int)) (h1 := fun _ => rfl) (by have h := Arrs.reads_block HFB.out 0 n (by rw [HF.out.1]; omega) (by omega); rwa [List.drop_zero] at h)⟩; have HWZ := Aside0.mk HW.out.size; have HFL : Aside0 ((f.take n).length = n) := ⟨by simp [HF.out.1]; omega⟩; clear HFB)
          | ((with_reducible refine gate_builtin (b := .append) (xs := #[.tmp 43, .tmp 45]) rfl ?_); at_builtin; refine Kd.R_append_row (Value.int .i32) (0 : Int) (h1 := fun _ => rfl) (w0 := wz) wz.heap.size rfl (.tmp 43) (.tmp 45) 30 21 (.int .i32 0) 4 rfl Try.underlying30 info21' rfl (by decide) (.slice (some ⟨wz.heap.size, 0, none⟩) 0 0) [] (f.take n) (some ⟨wr.heap.size, 0, none⟩) n 32 (fun _ => True) rfl rfl (fun _ _ => trivial) ((Kd.R_of_own (own_lit wz wz.heap.size 21 .i32 [] (Nat.le_refl _) (by decide)) (fun _ _ => trivial))) (Kd.C_below HZ.out (below_alloc (Below.refl _ _) _)) (below_alloc (Below.refl _ _) _) (by simp) (by simp [HFL.out]; omega) ?_; intro v1 wy hR hb hg hat; clear hg hat; obtain ⟨gy, cy, rfl, hge, hlt, _⟩ := Kd.R_form hR (by simp [HFL.out]; omega); rw [List.nil_append, HFL.out] at hR ⊢; have HY := Aside0.mk hR; have HGY := Aside0.mk (And.intro hge hlt); have HZ2 := Aside0.mk (Kd.C_below HZ.out hb); have HWY := Aside0.mk (below_step HW.out hb); clear hb hR hge hlt HZ HW)
          | (go_at_call 11; (with_reducible refine (plain_any n hth _ _ _ _ (by omega) hc8 (f.take n) Tl HFL.out HTl.out.1 (take_in HF.out.2) HTl.out.2 _ HZ2.out (row_reads (Kd.R_below HT2.out HWY.out)).2).mono ?_); rintro e w5 ⟨v2, v3, rfl, r2, r3, hb⟩; obtain ⟨A7, c7, rfl⟩ := Kd.R_slice r2; obtain ⟨A8', c8', rfl⟩ := Kd.R_slice r3; rw [map_len, map_len] at *; have HP := Aside0.mk r2; have HQ := Aside0.mk r3; have HY2 := Aside0.mk (Kd.R_below HY.out hb); have HIN2 := Aside0.mk (Kd.R_below HIN.out (below_step HWY.out hb)); have HB5 := Aside0.mk (below_step HWY.out hb); have HWY2 := Aside0.mk HWY.out.size; clear hb r2 r3 HY HZ2))
        have HNE : Aside0 (gy ≠ g9) := ⟨by have := HGY.out.1; have := HWZ.out; have := HG.out; omega⟩
        have HLO : Aside0 (wN.heap.size ≤ wz.heap.size ∧ wN.heap.size ≤ wy.heap.size ∧ gy < wy.heap.size ∧ g9 < wy.heap.size) := ⟨by have := HBN2.out.size; have := HWZ.out; have := HWY2.out; have := HGY.out; have := HG.out; omega⟩
        (refine (in_any wN.heap.size gl gy g9 cy n h n H1.out.1 H1.out.2 HH.out hth (f.take n) Tl (take_in HF.out.2) HTl.out.2 (fun _ => True) (fun _ => True) HNE.out _ (LapQ.below HL.out (HBN2.out.trans (HB5.out.mono HBN2.out.size))) (Kd.R_lower HY2.out HLO.out.1) HIN2.out).mono ?_); rintro e w6 ⟨rfl, hs, ht, hb, hk⟩
        have HS3 := Aside0.mk hs
        have HT3 := Aside0.mk ht
        have HP3 := Aside0.mk (row_keep HP.out hk HLO.out.2.2.1 HLO.out.2.2.2)
        have HQ3 := Aside0.mk (row_keep HQ.out hk HLO.out.2.2.1 HLO.out.2.2.2)
        have HBN3 := Aside0.mk ((HBN2.out.trans (HB5.out.mono HBN2.out.size)).trans hb)
        clear hs ht hb hk HP HQ HY2 HIN2 HIN HT2 HB5 HWY
        go_wp2_with fail
        (refine (wide_any n (by omega) _ cy (row_reads HS3.out).1 _ (map_len _ n) (ov_all _ _ n) _ (row_reads HS3.out).2).mono ?_); rintro e w7 ⟨A9, c9, rfl, ha, hc9, hb⟩; have m0 := Aside0.mk (below_step HBN3.out hb); clear HBN3; have HBN3 := m0; clear m0; have m0 := Aside0.mk (Kd.R_below HS3.out hb); clear HS3; have HS3 := m0; clear m0; have m0 := Aside0.mk (Kd.R_below HT3.out hb); clear HT3; have HT3 := m0; clear m0; have m0 := Aside0.mk (Kd.R_below HP3.out hb); clear HP3; have HP3 := m0; clear m0; have m0 := Aside0.mk (Kd.R_below HQ3.out hb); clear HQ3; have HQ3 := m0; clear m0;have HX := Aside0.mk ha; clear hb ha
        go_wp2_with fail
        (refine (same_any n (by omega) _ c7 (row_reads HP3.out).1 A9 c9 hc9 _ (map_len _ n) (ov_all _ _ n) _ (row_reads HP3.out).2 HX.out).mono ?_); rintro e w8 ⟨rfl, hb⟩; have m0 := Aside0.mk (below_step HBN3.out hb); clear HBN3; have HBN3 := m0; clear m0; have m0 := Aside0.mk (Kd.R_below HS3.out hb); clear HS3; have HS3 := m0; clear m0; have m0 := Aside0.mk (Kd.R_below HT3.out hb); clear HT3; have HT3 := m0; clear m0; have m0 := Aside0.mk (Kd.R_below HP3.out hb); clear HP3; have HP3 := m0; clear m0; have m0 := Aside0.mk (Kd.R_below HQ3.out hb); clear HQ3; have HQ3 := m0; clear m0;clear hb HX
        go_wp2_with fail
        (refine (wide_any n (by omega) _ n (row_reads HT3.out).1 _ (map_len _ n) (bv_all _ n) _ (row_reads HT3.out).2).mono ?_); rintro e w9 ⟨A10, c10, rfl, ha, hc10, hb⟩; have m0 := Aside0.mk (below_step HBN3.out hb); clear HBN3; have HBN3 := m0; clear m0; have m0 := Aside0.mk (Kd.R_below HS3.out hb); clear HS3; have HS3 := m0; clear m0; have m0 := Aside0.mk (Kd.R_below HT3.out hb); clear HT3; have HT3 := m0; clear m0; have m0 := Aside0.mk (Kd.R_below HP3.out hb); clear HP3; have HP3 := m0; clear m0; have m0 := Aside0.mk (Kd.R_below HQ3.out hb); clear HQ3; have HQ3 := m0; clear m0;have HX := Aside0.mk ha; clear hb ha
        go_wp2_with fail
        (refine (same_any n (by omega) _ c8' (row_reads HQ3.out).1 A10 c10 hc10 _ (map_len _ n) (bv_all _ n) _ (row_reads HQ3.out).2 HX.out).mono ?_); rintro e wF ⟨rfl, hb⟩; have m0 := Aside0.mk (below_step HBN3.out hb); clear HBN3; have HBN3 := m0; clear m0; have m0 := Aside0.mk (Kd.R_below HS3.out hb); clear HS3; have HS3 := m0; clear m0; have m0 := Aside0.mk (Kd.R_below HT3.out hb); clear HT3; have HT3 := m0; clear m0; have m0 := Aside0.mk (Kd.R_below HP3.out hb); clear HP3; have HP3 := m0; clear m0; have m0 := Aside0.mk (Kd.R_below HQ3.out hb); clear HQ3; have HQ3 := m0; clear m0;clear hb HX; have HSZ3 := Aside0.mk (lt_size HT3.out)
        go_wp2
        go_roundw
        case rel => exact ⟨q + 1, _, A8', c8', by omega, by simp, rfl, ⟨map_len _ n, bv_all _ n⟩, ⟨row_up HQ3.out _ _ HLO.out.2.1 HLO.out.2.2.2⟩, HT3, HBN3, ⟨HSZ3.out⟩⟩
        case measure => simp [intOf]; omega
      · have hqm : ¬ (q : Int) < (m : Int) := by omega
        go_wp2
        go_ret
        exact ⟨rfl, HB.out.trans (HBN2.out.mono HB.out.size)⟩
  · have hm2 := made_two wN n (by omega)
    obtain ⟨g8, e8⟩ : ∃ g, g = wN.heap.size + 1 := ⟨_, rfl⟩
    obtain ⟨g9, e9⟩ : ∃ g, g = wN.heap.size + 0 := ⟨_, rfl⟩
    obtain ⟨wL, eL⟩ : ∃ x, ((wN.alloc (.cells (madeCells #[.int .i32 0] n) 21)).alloc (.cells (madeCells #[.int .i32 0] n) 21)).drew = x := ⟨_, rfl⟩
    rw [eL] at hm2
    have HT0 : Aside0 (Kd.R (Kd.int .i32) 21 wL wN.heap.size (fun k => k ≠ g9) (.slice (some ⟨g8, 0, none⟩) n n) (List.replicate n 0)) := ⟨by rw [e8, e9]; exact hm2.2.1⟩
    have HI0 : Aside0 (Kd.R (Kd.int .i32) 21 wL wN.heap.size (fun _ => True) (.slice (some ⟨g9, 0, none⟩) n n) (List.replicate n 0)) := ⟨by rw [e9]; exact Kd.R_mono hm2.1 (fun _ _ => trivial)⟩
    have HBL : Aside0 (Below wN.heap.size wN wL) := ⟨hm2.2.2.1⟩
    have HG9 : Aside0 (g9 < wL.heap.size) := ⟨by rw [hm2.2.2.2, e9]; omega⟩
    clear hm2
    rw [eL]
    rw [Nat.add_zero] at e9; rw [← e8, ← e9]
    clear e8 e9 eL hmk
    go_wp2
    go_loopw [8, 39] (fun v8 i wr => ∃ (q : Nat) (Tl : List Int) (A8 : Option Addr) (c8 : Nat), q ≤ m ∧ i = .int .i64 q ∧ v8 = .slice A8 n c8 ∧ Aside0 (Tl.length = n ∧ ∀ x ∈ Tl, I32 x) ∧ Aside0 (Kd.R (Kd.int .i32) 21 wr wN.heap.size (fun k => k ≠ g9) (.slice A8 n c8) Tl) ∧ Aside0 (Kd.R (Kd.int .i32) 21 wr wN.heap.size (fun _ => True) (.slice (some ⟨g9, 0, none⟩) n n) Tl) ∧ Aside0 (Below wN.heap.size wN wr) ∧ Aside0 (g9 < wr.heap.size)) (fun _ i _ => (m - intOf i).toNat)
    case atStart => exact ⟨0, _, _, _, by omega, rfl, rfl, ⟨by simp, zeros_in n⟩, HT0, HI0, HBL, HG9⟩
    case round =>
      obtain ⟨q, Tl, A8, c8, hq, rfl, rfl, HTl, HT2, HIN, HBN2, HG⟩ := hrel
      clear HT0 HI0 HBL HG9
      by_cases hqt : q < m
      · have hc8 := (row_reads HT2.out).1
        obtain ⟨ad, hA, hcell⟩ := (HR.out.below (HB.out.trans (HBN2.out.mono HB.out.size))).2.2.2.2 (by omega)
        subst hA
        have hlen := HR.out.2.1
        obtain ⟨f, hf⟩ : ∃ f, zs[q]? = some f := ⟨zs[q]'(by omega), List.getElem?_eq_getElem (by omega)⟩
        have hfm := HR.out.2.2.2.1 f (List.mem_of_getElem? hf)
        have HF : Aside0 (f.length = 32 ∧ ∀ x ∈ f, I32 x) := ⟨hfm.1, fun x hx => Math.wf_i32 (hfm.2 x hx)⟩
        have HC : Aside0 (∀ j v, (nums .i32 f)[j]? = some v → wr.cell? ((ad.add (q * 32)).add j) = some v) := ⟨hcell q f hf⟩
        have hqm : (q : Int) < (m : Int) := by omega
        have hn0 : (0 : Int) ≤ (n : Int) := by omega
        have hn33 : (n : Int) ≤ 32 := by omega
        clear hcell hlen hf hfm
        go_wp2_with (first
          | (refine Arrs.load_at rfl 27 (.tmp 41) rfl (ad.add (q * 32)) rfl Try.underlying27 size27 .i32 f HF.out.1 HC.out ?_)
          | (refine Arrs.store_new rfl 27 (.tmp 11) (.tmp 42) rfl _ wr rfl rfl (by kernel_rfl) size27 .i32 f HF.out.1 rfl ?_; have HW : Aside0 (Below wr.heap.size wr (wr.alloc (.cells (nums .i32 f).toArray 27))) := ⟨below_alloc (Below.refl _ _) _⟩; have HFB : Aside0 ((wr.alloc (.cells (nums .i32 f).toArray 27)).heap[wr.heap.size]? = some (.cells (nums .i32 f).toArray 27 (0, 0))) := ⟨heap_alloc_last _ _⟩; obtain ⟨wz, hwz⟩ : ∃ wz, wr.alloc (.cells (nums .i32 f).toArray 27) = wz := ⟨_, rfl⟩; rw [hwz] at HW HFB ⊢; clear hwz; have HZ : Aside0 (C32 wz (some ⟨wr.heap.size, 0, none⟩) n (f.take n)) := ⟨Kd.C_of_reads (d := (0 : Int)) (h1 := fun _ => rfl) (by have h := Arrs.reads_block HFB.out 0 n (by rw [HF.out.1]; omega) (by omega); rwa [List.drop_zero] at h)⟩; have HWZ := Aside0.mk HW.out.size; have HFL : Aside0 ((f.take n).length = n) := ⟨by simp [HF.out.1]; omega⟩; clear HFB)
          | ((with_reducible refine gate_builtin (b := .append) (xs := #[.tmp 43, .tmp 45]) rfl ?_); at_builtin; refine Kd.R_append_row (Value.int .i32) (0 : Int) (h1 := fun _ => rfl) (w0 := wz) wz.heap.size rfl (.tmp 43) (.tmp 45) 30 21 (.int .i32 0) 4 rfl Try.underlying30 info21' rfl (by decide) (.slice (some ⟨wz.heap.size, 0, none⟩) 0 0) [] (f.take n) (some ⟨wr.heap.size, 0, none⟩) n 32 (fun _ => True) rfl rfl (fun _ _ => trivial) ((Kd.R_of_own (own_lit wz wz.heap.size 21 .i32 [] (Nat.le_refl _) (by decide)) (fun _ _ => trivial))) (Kd.C_below HZ.out (below_alloc (Below.refl _ _) _)) (below_alloc (Below.refl _ _) _) (by simp) (by simp [HFL.out]; omega) ?_; intro v1 wy hR hb hg hat; clear hg hat; obtain ⟨gy, cy, rfl, hge, hlt, _⟩ := Kd.R_form hR (by simp [HFL.out]; omega); rw [List.nil_append, HFL.out] at hR ⊢; have HY := Aside0.mk hR; have HGY := Aside0.mk (And.intro hge hlt); have HZ2 := Aside0.mk (Kd.C_below HZ.out hb); have HWY := Aside0.mk (below_step HW.out hb); clear hb hR hge hlt HZ HW)
          | (go_at_call 11; (with_reducible refine (plain_any n hth _ _ _ _ (by omega) hc8 (f.take n) Tl HFL.out HTl.out.1 (take_in HF.out.2) HTl.out.2 _ HZ2.out (row_reads (Kd.R_below HT2.out HWY.out)).2).mono ?_); rintro e w5 ⟨v2, v3, rfl, r2, r3, hb⟩; obtain ⟨A7, c7, rfl⟩ := Kd.R_slice r2; obtain ⟨A8', c8', rfl⟩ := Kd.R_slice r3; rw [map_len, map_len] at *; have HP := Aside0.mk r2; have HQ := Aside0.mk r3; have HY2 := Aside0.mk (Kd.R_below HY.out hb); have HIN2 := Aside0.mk (Kd.R_below HIN.out (below_step HWY.out hb)); have HB5 := Aside0.mk (below_step HWY.out hb); have HWY2 := Aside0.mk HWY.out.size; clear hb r2 r3 HY HZ2))
        have HNE : Aside0 (gy ≠ g9) := ⟨by have := HGY.out.1; have := HWZ.out; have := HG.out; omega⟩
        have HLO : Aside0 (wN.heap.size ≤ wz.heap.size ∧ wN.heap.size ≤ wy.heap.size ∧ gy < wy.heap.size ∧ g9 < wy.heap.size) := ⟨by have := HBN2.out.size; have := HWZ.out; have := HWY2.out; have := HGY.out; have := HG.out; omega⟩
        (refine (in_any wN.heap.size gl gy g9 cy n h n H1.out.1 H1.out.2 HH.out hth (f.take n) Tl (take_in HF.out.2) HTl.out.2 (fun _ => True) (fun _ => True) HNE.out _ (LapQ.below HL.out (HBN2.out.trans (HB5.out.mono HBN2.out.size))) (Kd.R_lower HY2.out HLO.out.1) HIN2.out).mono ?_); rintro e w6 ⟨rfl, hs, ht, hb, hk⟩
        have HS3 := Aside0.mk hs
        have HT3 := Aside0.mk ht
        have HP3 := Aside0.mk (row_keep HP.out hk HLO.out.2.2.1 HLO.out.2.2.2)
        have HQ3 := Aside0.mk (row_keep HQ.out hk HLO.out.2.2.1 HLO.out.2.2.2)
        have HBN3 := Aside0.mk ((HBN2.out.trans (HB5.out.mono HBN2.out.size)).trans hb)
        clear hs ht hb hk HP HQ HY2 HIN2 HIN HT2 HB5 HWY
        go_wp2_with fail
        (refine (wide_any n (by omega) _ cy (row_reads HS3.out).1 _ (map_len _ n) (ov_all _ _ n) _ (row_reads HS3.out).2).mono ?_); rintro e w7 ⟨A9, c9, rfl, ha, hc9, hb⟩; have m0 := Aside0.mk (below_step HBN3.out hb); clear HBN3; have HBN3 := m0; clear m0; have m0 := Aside0.mk (Kd.R_below HS3.out hb); clear HS3; have HS3 := m0; clear m0; have m0 := Aside0.mk (Kd.R_below HT3.out hb); clear HT3; have HT3 := m0; clear m0; have m0 := Aside0.mk (Kd.R_below HP3.out hb); clear HP3; have HP3 := m0; clear m0; have m0 := Aside0.mk (Kd.R_below HQ3.out hb); clear HQ3; have HQ3 := m0; clear m0;have HX := Aside0.mk ha; clear hb ha
        go_wp2_with fail
        (refine (same_any n (by omega) _ c7 (row_reads HP3.out).1 A9 c9 hc9 _ (map_len _ n) (ov_all _ _ n) _ (row_reads HP3.out).2 HX.out).mono ?_); rintro e w8 ⟨rfl, hb⟩; have m0 := Aside0.mk (below_step HBN3.out hb); clear HBN3; have HBN3 := m0; clear m0; have m0 := Aside0.mk (Kd.R_below HS3.out hb); clear HS3; have HS3 := m0; clear m0; have m0 := Aside0.mk (Kd.R_below HT3.out hb); clear HT3; have HT3 := m0; clear m0; have m0 := Aside0.mk (Kd.R_below HP3.out hb); clear HP3; have HP3 := m0; clear m0; have m0 := Aside0.mk (Kd.R_below HQ3.out hb); clear HQ3; have HQ3 := m0; clear m0;clear hb HX
        go_wp2_with fail
        (refine (wide_any n (by omega) _ n (row_reads HT3.out).1 _ (map_len _ n) (bv_all _ n) _ (row_reads HT3.out).2).mono ?_); rintro e w9 ⟨A10, c10, rfl, ha, hc10, hb⟩; have m0 := Aside0.mk (below_step HBN3.out hb); clear HBN3; have HBN3 := m0; clear m0; have m0 := Aside0.mk (Kd.R_below HS3.out hb); clear HS3; have HS3 := m0; clear m0; have m0 := Aside0.mk (Kd.R_below HT3.out hb); clear HT3; have HT3 := m0; clear m0; have m0 := Aside0.mk (Kd.R_below HP3.out hb); clear HP3; have HP3 := m0; clear m0; have m0 := Aside0.mk (Kd.R_below HQ3.out hb); clear HQ3; have HQ3 := m0; clear m0;have HX := Aside0.mk ha; clear hb ha
        go_wp2_with fail
        (refine (same_any n (by omega) _ c8' (row_reads HQ3.out).1 A10 c10 hc10 _ (map_len _ n) (bv_all _ n) _ (row_reads HQ3.out).2 HX.out).mono ?_); rintro e wF ⟨rfl, hb⟩; have m0 := Aside0.mk (below_step HBN3.out hb); clear HBN3; have HBN3 := m0; clear m0; have m0 := Aside0.mk (Kd.R_below HS3.out hb); clear HS3; have HS3 := m0; clear m0; have m0 := Aside0.mk (Kd.R_below HT3.out hb); clear HT3; have HT3 := m0; clear m0; have m0 := Aside0.mk (Kd.R_below HP3.out hb); clear HP3; have HP3 := m0; clear m0; have m0 := Aside0.mk (Kd.R_below HQ3.out hb); clear HQ3; have HQ3 := m0; clear m0;clear hb HX; have HSZ3 := Aside0.mk (lt_size HT3.out)
        go_wp2
        go_roundw
        case rel => exact ⟨q + 1, _, A8', c8', by omega, by simp, rfl, ⟨map_len _ n, bv_all _ n⟩, ⟨row_up HQ3.out _ _ HLO.out.2.1 HLO.out.2.2.2⟩, HT3, HBN3, ⟨HSZ3.out⟩⟩
        case measure => simp [intOf]; omega
      · have hqm : ¬ (q : Int) < (m : Int) := by omega
        go_wp2
        go_ret
        exact ⟨rfl, HB.out.trans (HBN2.out.mono HB.out.size)⟩
set_option maxHeartbeats 1000000 in
theorem alike_long (s : Int) (Al : Option Addr) (m cl : Nat) (d1 : decide ((8 : Int) < (m : Int)) = true) (w : World) : Calls Try.prog 6 #[.int .u8 s, .slice Al m cl] w fun e w' => e = .returned (.bool true) ∧ Below w.heap.size w w' := by
  have HB := Aside0.mk (Below.refl w.heap.size w)
  go_enter Try.func6, Try.ntmps6
  go_wp2_with fail
  (refine (awake_any _).mono ?_); rintro e w1 ⟨rfl, hb⟩; have m0 := Aside0.mk (below_step HB.out hb); clear HB; have HB := m0; clear m0;clear hb
  go_wp2
  go_ret
  exact ⟨rfl, HB.out⟩
theorem alike_row (s : Int) (Al : Option Addr) (m cl : Nat) (zs : List (List Int)) (w : World) (wf : (Lit.int .u8 s).wf = true) (hR : Arrs.ARows .i32 32 w Al m cl zs) :
    Calls Try.prog 6 #[.int .u8 s, .slice Al m cl] w fun e w' => e = .returned (.bool true) ∧ Below w.heap.size w w' := by
  obtain ⟨h0, h1⟩ := Math.wf_u8 wf
  by_cases hm : m ≤ 8
  · rcases (by omega : s % 3 = 0 ∨ s % 3 = 1 ∨ s % 3 = 2) with h | h | h
    · exact alike_any s h0 h1 8 (by rw [h]; decide +kernel) (.inl rfl) Al m cl hm zs w hR
    · exact alike_any s h0 h1 16 (by rw [h]; decide +kernel) (.inr (.inl rfl)) Al m cl hm zs w hR
    · exact alike_any s h0 h1 32 (by rw [h]; decide +kernel) (.inr (.inr rfl)) Al m cl hm zs w hR
  · exact alike_long s Al m cl (decide_eq_true (by omega)) w
end Go.Proofs.Ytkbcolikbaaejaa.LapAlike
