import Derived.Test.YthccifjjmigklaaRdTwo
namespace Go.Proofs.Ythccifjjmigklaa.RdLaw
open Go.RowKit Go.Proofs.YthccifjjmigklaaW.PrintWords Go.Proofs.YthccifjjmigklaaW.PrintLast Go.Proofs.YthccifjjmigklaaW.PrintMore
open Go.Proofs.Ythccifjjmigklaa.Rd (St by_ Bytes)
open Go.Proofs.Ythccifjjmigklaa.RdWalk
set_option linter.unusedVariables false
set_option linter.unusedSimpArgs false
theorem cell_C {w : World} {A : Option Addr} {n : Nat} {xs : List Int} (h : Kd.C (Kd.int .u8) w A n xs) {i : Nat} (hi : i < n) : ∃ ad, A = some ad ∧ w.cell? (ad.add i) = some (.int .u8 (xs.getD i 0)) := by
  obtain ⟨ad, c, e, _, hK, hc⟩ := Kd.C_get h (0 : Int) (i : Int) (by omega) (by omega)
  have hK' : c = [Value.int .u8 (xs.getD ((i : Int)).toNat 0)] := hK
  subst hK'
  have h1 := hc 0 _ rfl
  rw [Int.toNat_natCast] at h1
  have h2 : w.cell? (ad.add (i * 1 + 0)) = some (.int .u8 (xs.getD i 0)) := h1
  rw [Nat.mul_one, Nat.add_zero] at h2
  exact ⟨ad, e, h2⟩
theorem C_cut {w : World} {b : Nat} {A : Option Addr} {n : Nat} {xs : List Int} (h : Kd.C (Kd.int .u8) w A n xs) (hb : ∀ ad, A = some ad → 0 < n → ad.block < b) : Kd.C (Kd.int .u8) (cutW w b) A n xs := by
  refine ⟨h.1, h.2.1, fun hn => ?_⟩
  obtain ⟨ad, he, hc⟩ := h.2.2 hn
  refine ⟨ad, he, fun j p hj => ?_⟩
  obtain ⟨c, h1, h2, h3⟩ := hc j p hj
  refine ⟨c, h1, h2, fun i u hu => ?_⟩
  have h4 := h3 i u hu
  have h5 : (ad.add (j * (Kd.int .u8).sz + i)).block < b := by rw [add_block]; exact hb ad he hn
  simp only [World.cell?] at h4 ⊢
  rw [cut_get h5]
  exact h4
set_option maxHeartbeats 2000000 in
set_option maxRecDepth 100000 in
theorem next_in (g m c k : Nat) (ad : Addr) (x G v : Int) (hk : k < m) (hm : m ≤ 10000) (hx : 0 ≤ x ∧ x ≤ 255) (w : World) (hg : w.heap[g]? = some (.cells #[.slice (some ad) m c, .int .i64 k, .int .i64 0, .int .u32 G, .int .u32 v] 59 (0, 0))) (hb : w.cell? (ad.add k) = some (.int .u8 x)) (hne : Aside0 ((ad.add k).block ≠ g)) :
    Calls Try.prog 27 #[.pointer (some ⟨g, 0, none⟩)] w fun e w' => e = .returned (.int .u32 x) ∧ w'.heap[g]? = some (.cells #[.slice (some ad) m c, .int .i64 ((k + 1 : Nat) : Int), .int .i64 0, .int .u32 G, .int .u32 v] 59 (0, 0)) ∧ KeepBut w w' g none ∧ Below g w w' := by
  have hc0 : w.cell? ⟨g, 0, none⟩ = some (.slice (some ad) m c) := (blk_cell hg 0).trans rfl
  have hc1 : w.cell? ⟨g, 1, none⟩ = some (.int .i64 k) := (blk_cell hg 1).trans rfl
  have hf1 := blk_frozen hg 1
  have HG := Aside0.mk hg
  have HK := Aside0.mk (KeepBut.refl w g none)
  have HB := Aside0.mk (Below.refl g w)
  clear hg
  have hkm : k + 1 ≤ m := hk
  have f0 : ¬ (m : Int) < (k : Int) + 1 := by omega
  have f1 : wrap64 ((k : Int) + 1) = (k : Int) + 1 := w64n (by omega) (by omega)
  have f2 : IntKind.u32.wrap x = x := by rw [wrap_u32]; omega
  have f3 : IntKind.i64.wrap ((k : Int) + 1 - 1) = (k : Int) := by rw [IntWalk.i64_in _ (by omega)]; omega
  have hb2 := keep_cell (KeepBut.set_ (KeepBut.refl w g none) 1 (.int .i64 ((k : Int) + 1))) hb hne.out
  clear hx hb
  go_enter Try.func27, Try.ntmps27
  go_wp2
  repeat (go_quiet (fail); try go_wp2)
  go_ret
  exact ⟨rfl, by simpa using blk_set HG.out 1 (.int .i64 ((k : Int) + 1)), by repeat (first | (with_reducible first | exact HK.out | apply KeepBut.set_ | apply keep_drewN | apply keep_drew) | exact HK.out), by (repeat (first | (with_reducible apply pw_below_drewN) | (with_reducible apply below_drew1))); exact Below.setCell HB.out (p := ⟨g, 1, none⟩) (Nat.le_refl _) _⟩
set_option maxHeartbeats 2000000 in
set_option maxRecDepth 100000 in
theorem next_out (g m c k : Nat) (A : Option Addr) (G v : Int) (hk : m ≤ k) (hm : k ≤ 10000) (w : World) (hg : w.heap[g]? = some (.cells #[.slice A m c, .int .i64 k, .int .i64 0, .int .u32 G, .int .u32 v] 59 (0, 0))) :
    Calls Try.prog 27 #[.pointer (some ⟨g, 0, none⟩)] w fun e w' => e = .returned (.int .u32 0) ∧ w'.heap[g]? = some (.cells #[.slice A m c, .int .i64 ((k + 1 : Nat) : Int), .int .i64 0, .int .u32 G, .int .u32 v] 59 (0, 0)) ∧ KeepBut w w' g none ∧ Below g w w' := by
  have hc0 : w.cell? ⟨g, 0, none⟩ = some (.slice A m c) := (blk_cell hg 0).trans rfl
  have hc1 : w.cell? ⟨g, 1, none⟩ = some (.int .i64 k) := (blk_cell hg 1).trans rfl
  have hf1 := blk_frozen hg 1
  have HG := Aside0.mk hg
  have HK := Aside0.mk (KeepBut.refl w g none)
  have HB := Aside0.mk (Below.refl g w)
  clear hg
  have f0 : (m : Int) < (k : Int) + 1 := by omega
  have f1 : wrap64 ((k : Int) + 1) = (k : Int) + 1 := w64n (by omega) (by omega)
  go_enter Try.func27, Try.ntmps27
  go_wp2
  repeat (go_quiet (fail); try go_wp2)
  go_ret
  exact ⟨rfl, by simpa using blk_set HG.out 1 (.int .i64 ((k : Int) + 1)), by repeat (first | (with_reducible first | exact HK.out | apply KeepBut.set_ | apply keep_drewN | apply keep_drew) | exact HK.out), by (repeat (first | (with_reducible apply pw_below_drewN) | (with_reducible apply below_drew1))); exact Below.setCell HB.out (p := ⟨g, 1, none⟩) (Nat.le_refl _) _⟩
theorem next_own (g m c k : Nat) (A : Option Addr) (B : List Int) (hm : B.length = m) (hB : Bytes B) (hl : m ≤ 10000) (hk : k ≤ 10000) (G v : Int) (w : World) (hg : w.heap[g]? = some (.cells #[.slice A m c, .int .i64 k, .int .i64 0, .int .u32 G, .int .u32 v] 59 (0, 0))) (hC : Kd.C (Kd.int .u8) w A m B) (hne : ∀ ad, A = some ad → 0 < m → ad.block ≠ g) :
    Calls Try.prog 27 #[.pointer (some ⟨g, 0, none⟩)] w fun e w' => e = .returned (.int .u32 (by_ B k)) ∧ w'.heap[g]? = some (.cells #[.slice A m c, .int .i64 ((k + 1 : Nat) : Int), .int .i64 0, .int .u32 G, .int .u32 v] 59 (0, 0)) ∧ Kd.C (Kd.int .u8) w' A m B ∧ KeepBut w w' g none ∧ Below g w w' := by
  by_cases h : k < m
  · obtain ⟨ad, rfl, hb⟩ := cell_C hC h
    refine (next_in g m c k ad _ G v h hl (Rd.by_in hB k) w hg hb ⟨by rw [add_block]; exact hne ad rfl (by omega)⟩).mono ?_
    rintro e w' ⟨rfl, h1, h2, h3⟩
    exact ⟨rfl, h1, Kd.C_foot_ne (fun h => h) hC hne _ h2, h2, h3⟩
  · refine (next_out g m c k A G v (by omega) hk w hg).mono ?_
    rintro e w' ⟨rfl, h1, h2, h3⟩
    exact ⟨by rw [show by_ B k = 0 by unfold by_; rw [List.getD_eq_getElem?_getD, List.getElem?_eq_none (by omega)]; rfl], h1, Kd.C_foot_ne (fun h => h) hC hne _ h2, h2, h3⟩
set_option maxHeartbeats 4000000 in
set_option maxRecDepth 100000 in
/-- A new reader: what it reads stands whatever happens to a block that was there before. -/
theorem new_own (B : List Int) (m : Nat) (hm : B.length = m) (hB : Bytes B) (hl : m ≤ 10000) (A : Option Addr) (c : Nat) (w : World) (hC : Kd.C (Kd.int .u8) w A m B) (hc : m ≤ c) :
    Calls Try.prog 9 #[.slice A m c] w fun e w' => ∃ g, e = .returned (.pointer (some ⟨g, 0, none⟩)) ∧ (∀ h W, h < w.heap.size → KeepBut w' W h none → RdAt W g B (Rd.new B)) ∧ w.heap.size ≤ g ∧ g < w'.heap.size ∧ Below w.heap.size w w' := by
  have HM := Aside0.mk hm
  have HBy := Aside0.mk hB
  have HC := Aside0.mk hC
  clear hm hB hC
  go_enter Try.func9, Try.ntmps9
  go_wp2_with (first
    | (go_at_call 26; (with_reducible refine (clone_m B m HM.out A c _ HC.out hc hl).mono ?_); rintro e w0 ⟨A', c', rfl, hR, hb⟩; have HR := Aside0.mk hR; have HB := Aside0.mk hb; clear hR hb))
  have HCB := Aside0.mk (clone_in HR.out HM.out)
  have HNE : Aside0 (∀ ad, A' = some ad → 0 < m → w.heap.size ≤ ad.block ∧ ad.block < w0.heap.size) := ⟨fun ad he hn => by
    subst he
    obtain ⟨g', cap', e_, hg0, hg1, _⟩ := Kd.R_form HR.out (by rw [HM.out]; omega)
    injection e_ with e1 e2 e3
    injection e1 with e1
    subst e1
    exact ⟨hg0, hg1⟩⟩
  have HO : Aside0 ((w0.alloc (.cells #[.slice A' m c', .int .i64 0, .int .i64 0, .int .u32 16777216, .int .u32 0] 59)).heap[w0.heap.size]? = some (.cells #[.slice A' m c', .int .i64 0, .int .i64 0, .int .u32 16777216, .int .u32 (vk B 0)] 59 (0, 0))) := ⟨by simpa [vk] using heap_alloc_new w0 _⟩
  have HCA : Aside0 (Kd.C (Kd.int .u8) (w0.alloc (.cells #[.slice A' m c', .int .i64 0, .int .i64 0, .int .u32 16777216, .int .u32 0] 59)) A' m B) := ⟨Kd.C_below HCB.out (below_alloc (Below.refl _ _) _)⟩
  have HWA : Aside0 (Below w0.heap.size w0 (w0.alloc (.cells #[.slice A' m c', .int .i64 0, .int .i64 0, .int .u32 16777216, .int .u32 0] 59))) := ⟨below_alloc (Below.refl _ _) _⟩
  go_loopw [8] (fun i wr => ∃ (k : Nat), k ≤ 3 ∧ i = .int .i64 k ∧ Aside0 (wr.heap[w0.heap.size]? = some (.cells #[.slice A' m c', .int .i64 k, .int .i64 0, .int .u32 16777216, .int .u32 (vk B k)] 59 (0, 0))) ∧ Aside0 (Kd.C (Kd.int .u8) wr A' m B) ∧ Aside0 (Below w0.heap.size w0 wr)) (fun i _ => (3 - intOf i).toNat)
  case atStart => exact ⟨0, by omega, rfl, HO, HCA, HWA⟩
  case round =>
    clear HO HCA HWA
    obtain ⟨k, hk, rfl, HI, HCW, HW⟩ := hrel
    by_cases ht : k < 3
    · have hc4 : wr.cell? ⟨w0.heap.size, 4, none⟩ = some (.int .u32 (vk B k)) := (blk_cell HI.out 4).trans rfl
      have hf4 := blk_frozen HI.out 4
      have hv := vk_in B HBy.out k
      have hv2 : vk B k < 16777216 := by
        rcases (by omega : k = 0 ∨ k = 1 ∨ k = 2) with rfl | rfl | rfl <;> (simp only [Int.reducePow] at hv; omega)
      have HV := Aside0.mk hv.1
      have HV2 := Aside0.mk hv2
      obtain ⟨v, hv'⟩ : ∃ v, vk B k = v := ⟨_, rfl⟩
      obtain ⟨d, hd'⟩ : ∃ d, by_ B k = d := ⟨_, rfl⟩
      have HD := Aside0.mk (Rd.by_in HBy.out k)
      rw [hv'] at hc4 HI HV HV2
      rw [hd'] at HD
      have HH : Aside0 (∀ w1, w1.heap[w0.heap.size]? = some (.cells #[.slice A' m c', .int .i64 k, .int .i64 0, .int .u32 16777216, .int .u32 v] 59 (0, 0)) → Kd.C (Kd.int .u8) w1 A' m B → Below w0.heap.size w0 w1 → Calls Try.prog 27 #[.pointer (some ⟨w0.heap.size, 0, none⟩)] w1 fun e w' => e = .returned (.int .u32 d) ∧ w'.heap[w0.heap.size]? = some (.cells #[.slice A' m c', .int .i64 ((k + 1 : Nat) : Int), .int .i64 0, .int .u32 16777216, .int .u32 v] 59 (0, 0)) ∧ Kd.C (Kd.int .u8) w' A' m B ∧ Below w0.heap.size w0 w') :=
        ⟨fun w1 hI hC hb => (next_own w0.heap.size m c' k A' B HM.out HBy.out hl (by omega) 16777216 v w1 hI hC (fun ad he hn => Nat.ne_of_lt (HNE.out ad he hn).2)).mono (fun e w' h => ⟨hd' ▸ h.1, h.2.1, h.2.2.1, hb.trans h.2.2.2.2⟩)⟩
      have HVD : Aside0 (vk B (k + 1) = v * 256 + d) := ⟨by rw [vk, hv', hd']⟩
      have eo : bits .or .u32 (v * 256) d = v * 256 + d := or_byte HV.out HV2.out HD.out.1 HD.out.2
      have ew : IntKind.u32.wrap (v * 256) = v * 256 := by have := HV.out; have := HV2.out; rw [wrap_u32]; omega
      have HId : Aside0 (wr.drew.heap[w0.heap.size]? = some (.cells #[.slice A' m c', .int .i64 k, .int .i64 0, .int .u32 16777216, .int .u32 v] 59 (0, 0))) := ⟨HI.out⟩
      have HCd : Aside0 (Kd.C (Kd.int .u8) wr.drew A' m B) := ⟨Kd.C_below HCW.out (below_drew1 (Below.refl _ _))⟩
      have HWd : Aside0 (Below w0.heap.size w0 wr.drew) := ⟨below_drew1 HW.out⟩
      clear hv hv2 hv' hd'
      go_wp2
      go_region_with (first | (go_at_call 27; (first | (with_reducible refine (HH.out _ HI.out HCW.out HW.out).mono ?_) | (with_reducible refine (HH.out _ HId.out HCd.out HWd.out).mono ?_)); rintro e w2 ⟨rfl, hI2, hC2, hb2⟩; have hk4 : w2.cell? ⟨w0.heap.size, 4, none⟩ = some (.int .u32 v) := (blk_cell hI2 4).trans rfl; have hkf := blk_frozen hI2 4))
      all_goals (
        go_wp2
        go_roundw
        case rel => exact ⟨k + 1, by omega, by simp, ⟨by have h := blk_set hI2 4 (.int .u32 (v * 256 + d)); rw [HVD.out]; simpa using h⟩, ⟨Kd.C_foot_ne (fun h => h) hC2 (fun ad he hn => Nat.ne_of_lt (HNE.out ad he hn).2) _ (KeepBut.set_ (KeepBut.refl _ _ _) 4 _)⟩, ⟨below_set hb2 (Nat.le_refl _)⟩⟩
        case measure => simp [intOf]; omega)
    · have hk3 : k = 3 := by omega
      subst hk3
      have HV3 := Aside0.mk (show vk B 3 = by_ B 0 * 65536 + by_ B 1 * 256 + by_ B 2 by simp only [vk]; omega)
      clear ht
      go_wp2
      go_ret
      refine ⟨w0.heap.size, rfl, fun h W hh hk => ?_, HB.out.size, blk_lt HI.out, below_step HB.out HW.out⟩
      have hgW := (hk.2 w0.heap.size (blk_lt HI.out) (Nat.ne_of_gt (Nat.lt_of_lt_of_le hh HB.out.size)) (by simp)).trans HI.out
      have hCW := Kd.C_foot_ne (fun h => h) HCW.out (fun ad he hn => Nat.ne_of_gt (Nat.lt_of_lt_of_le hh (HNE.out ad he hn).1)) _ hk
      have hz : (cutW W w0.heap.size).heap.size = w0.heap.size := cut_size (Nat.le_of_lt (blk_lt hgW))
      refine ⟨A', c', by rw [HM.out]; unfold Rd.new; rw [← HV3.out]; exact hgW, by rw [hz]; exact Nat.le_refl _, ?_⟩
      rw [HM.out]
      exact C_cut hCW (fun ad he hn => (HNE.out ad he hn).2)
end Go.Proofs.Ythccifjjmigklaa.RdLaw
