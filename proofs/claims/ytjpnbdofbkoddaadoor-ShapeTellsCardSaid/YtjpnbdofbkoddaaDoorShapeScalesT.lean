import Derived.Test.YtjpnbdofbkoddaaDoorShapePlainT
import Derived.LoopTactic
set_option linter.unusedVariables false
set_option linter.unusedSimpArgs false
namespace Go.Proofs.YtjpnbdofbkoddaaDoor.Shape
open Go.RowKit Go.Proofs.YtjpnbdofbkoddaaDoorW.PrintWords Go.Proofs.YtjpnbdofbkoddaaDoorW.PrintLast Go.Proofs.YtjpnbdofbkoddaaDoorW.PrintMore
open Go.Proofs.YtjpnbdofbkoddaaDoor.ShapePlain (I32 sc sc_len sc_in len len_in pv)
theorem info21 : (Tryd.prog.info? 21).map (fun i => (i.zero, i.size, i.bytes)) = some (some (.int .i32 0), 1, 4) := by kernel_rfl
set_option maxHeartbeats 4000000 in
set_option maxRecDepth 100000 in
theorem scale_at (g L : Int) (p : Int → Int) (e : Int) (xs : List Int) (n : Nat) (hn : xs.length = n) (hl : n ≤ 1000) (hw : ∀ x ∈ xs, I32 x)
 (hE : ∀ w, Laid w → Calls Tryd.prog 32 #[.int .i64 e] w fun en w' => en = .returned (.int .i64 g) ∧ Below w.heap.size w w')
 (hG : ∀ w (A : Option Addr) (c : Nat), Kd.C (Kd.int .i32) w A n xs → n ≤ c → Calls Tryd.prog 33 #[.slice A n c] w fun en w' => en = .returned (.int .u64 L) ∧ Below w.heap.size w w')
 (hP : ∀ x, I32 x → ∀ w, Calls Tryd.prog 34 #[.int .i32 x, .int .i64 g, .int .u64 L] w fun en w' => en = .returned (.int .i32 (p x)) ∧ Below w.heap.size w w')
 (A : Option Addr) (c : Nat) (w : World) (hC : Kd.C (Kd.int .i32) w A n xs) (hc : n ≤ c) (hL : Laid w) :
 Calls Tryd.prog 11 #[.slice A n c, .int .i64 e] w fun en w' => ∃ v : Value, en = .returned v ∧ Kd.R (Kd.int .i32) 21 w' w.heap.size (fun _ => True) v (xs.map p) ∧ Below w.heap.size w w' := by
 have HB := Aside0.mk (Below.refl w.heap.size w)
 have HL := Aside0.mk hL
 have HX := Aside0.mk hC
 have HXW := Aside0.mk hC
 have HN := Aside0.mk hn
 have HW := Aside0.mk hw
 have HE := Aside0.mk hE
 have HG := Aside0.mk hG
 have HP := Aside0.mk hP
 clear hL hC hn hw hE hG hP
 go_enter Tryd.func11, Tryd.ntmps11
 go_wp2_with (first
  | (go_at_call 32; (with_reducible refine (HE.out _ HL.out).mono ?_); rintro en w1 ⟨rfl, hb⟩; have m0 := Aside0.mk (below_step HB.out hb); have m1 := Aside0.mk (HL.out.below hb); have m2 := Aside0.mk (Kd.C_below HX.out hb); clear HB HL HX; have HB := m0; have HL := m1; have HX := m2; clear m0 m1 m2; clear hb)
  | (go_at_call 33; (with_reducible refine (HG.out _ A c HX.out hc).mono ?_); rintro en w1 ⟨rfl, hb⟩; have m0 := Aside0.mk (below_step HB.out hb); have m1 := Aside0.mk (HL.out.below hb); have m2 := Aside0.mk (Kd.C_below HX.out hb); clear HB HL HX; have HB := m0; have HL := m1; have HX := m2; clear m0 m1 m2; clear hb))
 go_loopw [5, 16] (fun v i wr => ∃ m : Nat, m ≤ n ∧ i = .int .i64 m ∧ Aside0 (Kd.R (Kd.int .i32) 21 wr w.heap.size (fun _ => True) v ((xs.take m).map p)) ∧ Aside0 (Kd.C (Kd.int .i32) wr A n xs) ∧ Aside0 (Below w.heap.size w wr)) (fun _ i _ => (n - intOf i).toNat)
 case atStart => exact ⟨0, by omega, rfl, ⟨Kd.R_nil _ _ _ _ _⟩, HX, HB⟩
 case round v =>
  obtain ⟨m, hm, rfl, HR, HX2, HB2⟩ := hrel
  clear HX HB HL
  have HX := HX2
  have HB := HB2
  clear HX2 HB2
  by_cases ht : m < n
  ·obtain ⟨ad, rfl, hcell⟩ := Kd.at_int HX.out (m : Int) (by omega) (by omega)
   rw [Int.toNat_natCast] at hcell
   have hx : I32 (rd xs m) := HW.out _ (Math.rd_mem (by have := HN.out; omega))
   have HT := Aside0.mk (ShapePlain.take_map p xs m (by have := HN.out; omega))
   have hlen : ((xs.take m).map p).length = m := by rw [List.length_map, List.length_take]; have := HN.out; omega
   have HLEN := Aside0.mk hlen
   generalize rd xs m = x at *
   generalize (xs.take m).map p = acc at *
   have HPx := Aside0.mk (HP.out x hx)
   generalize p x = y at *
   clear hx hlen
   go_wp2_with (first
    | (go_at_call 34; (with_reducible refine (HPx.out _).mono ?_); rintro en w2 ⟨rfl, hb⟩; have m0 := Aside0.mk (below_step HB.out hb); have m2 := Aside0.mk (Kd.C_below HX.out hb); have m3 := Aside0.mk (Kd.R_below HR.out hb); clear HB HX HR hb; have HB := m0; have HX := m2; have HR := m3; clear m0 m2 m3)
    | ((with_reducible refine gate_builtin (b := .append) (xs := #[.tmp 20, .tmp 25]) rfl ?_); at_builtin; refine Kd.R_append (Kd.int .i32) (w0 := w) w.heap.size rfl (.tmp 20) (.tmp 25) 22 21 (.int .i32 0) 4 rfl Tryd.underlying22 info21 rfl (by decide) (by omega) _ acc y [.int .i32 y] (fun _ => True) (fun _ => False) rfl rfl rfl (fun _ hk => hk.elim) (fun _ _ => trivial) HR.out HB.out (below_size HB.out) (by have := HLEN.out; omega) ?_; intro v3 w3 hR hb hg hat; rw [HT.out] at hR; have m0 := Aside0.mk hR; have m1 := Aside0.mk hb; clear HR HB hR hb hg hat; have HR := m0; have HB := m1; clear m0 m1))
   go_roundw
   case rel => exact ⟨m + 1, by omega, by simp, HR, ⟨Kd.C_below HXW.out HB.out⟩, HB⟩
   case measure => simp [intOf]; omega
  ·have HT : Aside0 ((xs.take m).map p = xs.map p) := ⟨by rw [List.take_of_length_le (by have := HN.out; omega)]⟩
   go_wp2
   go_ret
   exact ⟨_, rfl, by rw [← HT.out]; exact HR.out, HB.out⟩
theorem scale_read (e : Int) (l : List Int) (n : Nat) (hn : l.length = n) (hl : n ≤ 1000) (hw : ∀ x ∈ l, I32 x) (A : Option Addr) (c : Nat) (w : World) (hC : Kd.C (Kd.int .i32) w A n l) (hc : n ≤ c) (hL : Laid w) :
 Calls Tryd.prog 11 #[.slice A n c, .int .i64 e] w fun en w' => ∃ A' c', en = .returned (.slice A' n c') ∧ Kd.C (Kd.int .i32) w' A' n (sc e l) ∧ n ≤ c' ∧ Below w.heap.size w w' := by
 refine (scale_at (ex (ld e)) (len l) (pv (ex (ld e)) (len l)) e l n hn hl hw (exp_any e) ?_ ?_ A c w hC hc hL).mono ?_
 ·intro w A c hC hc
  subst hn
  exact OShapeScales.root_Length.calls 4294967300 A c l (len l) w hC hc (ShapePlain.length_fn l)
 ·intro x hx w
  exact OShapeScales.shape_part.calls x _ _ _ w (ShapePlain.part_fn _ _ x hx (len_in l))
 ·rintro en w' ⟨v, rfl, hR, hb⟩
  obtain ⟨A', c', rfl⟩ := Kd.R_slice hR
  have h := Kd.R_reads' hR
  rw [List.length_map, hn] at h ⊢
  exact ⟨A', c', rfl, h.2.2, h.2.1, hb⟩
theorem same_read (l : List Int) (n : Nat) (hn : l.length = n) (hl : n ≤ 1000) (hw : ∀ x ∈ l, I32 x) (A A' : Option Addr) (c c' : Nat) (w : World) (hC : Kd.C (Kd.int .i32) w A n l) (hc : n ≤ c) (hC' : Kd.C (Kd.int .i64) w A' n l) (hc' : n ≤ c') :
 Calls Tryd.prog 10 #[.slice A n c, .slice A' n c'] w fun e w' => e = .returned (.bool true) ∧ Below w.heap.size w w' := by
 subst hn
 exact (OShapeScales.spinetlaw18_Same.calls (l.length + 1) A c l A' c' l true w hC hc hC' hc' (ShapePlain.same18_is l (by omega) hw _ (by omega))).mono fun e w' h => ⟨h.1, h.2.below⟩
set_option maxHeartbeats 2000000 in
set_option maxRecDepth 100000 in
theorem awake_any (w : World) (hL : Laid w) : Calls Tryd.prog 8 #[] w fun e w' => e = .returned (.bool true) ∧ Below w.heap.size w w' := by
 have hu53 := Tryd.underlying53
 have HB := Aside0.mk (Below.refl w.heap.size w)
 have HL := Aside0.mk hL
 clear hL
 have HO : Aside0 (Kd.C (Kd.int .i32) (w.alloc (Obj.cells #[.int .i32 3, .int .i32 4] 21)) (some ⟨w.heap.size, 0, none⟩) 2 [3, 4]) :=
  ⟨(Kd.R_reads' (Kd.R_of_own (ok := fun _ => True) (h1 := fun _ => rfl) (own_lit w w.heap.size 21 .i32 [3, 4] (Nat.le_refl _) (by decide)) (fun _ _ => trivial))).2.2⟩
 go_enter Tryd.func8, Tryd.ntmps8
 go_wp2_with (first | (go_at_call 11; (with_reducible refine (scale_read 160 [3, 4] 2 rfl (by decide) (by unfold I32; decide) _ 2 _ HO.out (by decide) (HL.out.below (below_alloc (Below.refl _ _) _))).mono ?_); rintro e w1 ⟨A, c, rfl, hC, hc, hb⟩; have n0 := Aside0.mk (below_step (below_alloc HB.out _) hb); clear HB hb; have HB := n0; clear n0; obtain ⟨ad, rfl, h0⟩ := Kd.at_int hC 0 (by decide) (by decide); obtain ⟨ad1, e1, h1⟩ := Kd.at_int hC 1 (by decide) (by decide); cases e1; rw [show rd (sc 160 [3, 4]) 0 = 614 by decide +kernel] at h0; rw [show rd (sc 160 [3, 4]) 1 = 819 by decide +kernel] at h1; (have h0s : w1.cell? ad = some (.int .i32 614) := by simpa [Addr.add] using h0); (have h1s : w1.cell? ⟨ad.block, ad.off + 1, none⟩ = some (.int .i32 819) := by simpa [Addr.add] using h1); clear hC h0 h1) | (go_at_call 27; (with_reducible refine (new_any 0 0 _).mono ?_); rintro e w2 ⟨pa, rfl, hb⟩; have n0 := Aside0.mk (below_step HB.out hb); clear HB hb; have HB := n0; clear n0))
 go_ret
 exact ⟨rfl, HB.out⟩
end Go.Proofs.YtjpnbdofbkoddaaDoor.Shape
