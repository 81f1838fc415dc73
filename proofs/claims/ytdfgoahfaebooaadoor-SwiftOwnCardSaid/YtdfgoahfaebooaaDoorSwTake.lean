import Derived.Test.YtdfgoahfaebooaaDoorSwTakeA
import Derived.Test.YtdfgoahfaebooaaDoorSwTakeB
import Derived.Test.YtdfgoahfaebooaaDoorSwTakeC
namespace Go.Proofs.YtdfgoahfaebooaaDoor.SwWalk
open Go.RowKit Go.Proofs.YtdfgoahfaebooaaDoorW.PrintWords Go.Proofs.YtdfgoahfaebooaaDoorW.PrintLast Go.Proofs.YtdfgoahfaebooaaDoorW.PrintMore
open Go.Proofs.YtdfgoahfaebooaaDoor.Rd (St by_ Bytes)
attribute [local go_sem] max2_int min2_int max_two min_two max_three min_three max_four min_four   -- for this text's walks alone
set_option linter.unusedVariables false
set_option linter.unusedSimpArgs false
set_option maxHeartbeats 2000000 in
set_option maxRecDepth 100000 in
theorem take_none (g : Nat) (a b n k k2 : Int) (b0 b1 b2 b3 : Bool) (i1 : wrap64 (n - 1) = k) (i2 : IntKind.u64.wrap k = k2) (d0 : decide ((4096 : Int) ≤ k2) = b0) (d1 : decide (a < 0) = b1) (d2 : decide (b ≤ a) = b2) (d3 : decide (n < b) = b3) (h : Aside0 ((b0 || b1 || b2 || b3) = true)) (w : World) :
    Calls Tryd.prog 14 #[.pointer (some ⟨g, 0, none⟩), .int .i64 a, .int .i64 b, .int .i64 n] w fun e w' => e = .returned (.tuple #[]) ∧ Below w.heap.size w w' := by
  have HB := Aside0.mk (Below.refl w.heap.size w)
  cases b0 <;> cases b1 <;> cases b2 <;> cases b3 <;> first | (exfalso; exact absurd h.out (by decide)) | (
    clear h
    go_enter Tryd.func14, Tryd.ntmps14
    go_wp2
    first | go_end0 | ((try simp only [Exit.inBlock, Exit.then]); refine bodyPost_ret (results_none rfl _ _ _) rfl ?_)
    exact ⟨rfl, HB.out⟩)
theorem step_pos {B : List Int} {s : St} (h : s.g ≤ 65536) : Rd.step B s = Rd.stp B s := by unfold Rd.step; rw [if_pos h]
theorem step_neg {B : List Int} {s : St} (h : ¬ s.g ≤ 65536) : Rd.step B s = s := by unfold Rd.step; rw [if_neg h]
theorem bitLen_pos (x : Nat) (h0 : 1 ≤ x) (h1 : x < 18446744073709551616) : 1 ≤ Lib.bitLen x := by
  have := Lib.bitLen_half x (by omega) h1
  omega
theorem len_any (R : Int) (h0 : 1 ≤ R) (h1 : R ≤ 16777216) : ∃ L : Int, (∀ w, Calls Tryd.prog 36 #[.int .u32 (R - 1)] w fun e w' => e = .returned (.int .i64 L) ∧ w' = w) ∧ 0 ≤ L ∧ L ≤ 24 ∧ (16 ≤ R → R ≤ 256 → (24 - L) / 8 = 2) ∧ (256 < R → R ≤ 65536 → (24 - L) / 8 = 1) ∧ (65536 < R → (24 - L) / 8 = 0) := by
  refine ⟨(Lib.bitLen (R - 1).toNat : Nat), fun w => Len.bits_Len32 (R - 1) w (by omega) (by omega), by omega, ?_, ?_, ?_, ?_⟩
  · have := Lib.bitLen_le (R - 1).toNat 24 (by decide) (by rw [show (2 : Nat) ^ 24 = 16777216 from rfl]; omega)
    omega
  · intro h2 h3
    have := Lib.bitLen_le (R - 1).toNat 8 (by decide) (by rw [show (2 : Nat) ^ 8 = 256 from rfl]; omega)
    have h4 := Lib.bitLen_shift 3 (R - 1).toNat (by omega) (by rw [show (2 : Nat) ^ 64 = 18446744073709551616 from rfl]; omega)
    omega
  · intro h2 h3
    have := Lib.bitLen_le (R - 1).toNat 16 (by decide) (by rw [show (2 : Nat) ^ 16 = 65536 from rfl]; omega)
    have h4 := Lib.bitLen_shift8 (R - 1).toNat (by omega) (by omega)
    have h5 := Lib.bitLen_shift 0 ((R - 1).toNat / 256) (by rw [Nat.pow_zero]; omega) (by rw [show (2 : Nat) ^ 64 = 18446744073709551616 from rfl]; omega)
    have h6 := bitLen_pos ((R - 1).toNat / 256) (by omega) (by omega)
    omega
  · intro h2
    have h4 := Lib.bitLen_shift16 (R - 1).toNat (by omega) (by omega)
    have h6 := bitLen_pos ((R - 1).toNat / 65536) (by omega) (by omega)
    have := Lib.bitLen_le (R - 1).toNat 24 (by decide) (by rw [show (2 : Nat) ^ 24 = 16777216 from rfl]; omega)
    omega
theorem take_any (base g h : Nat) (B : List Int) (hB : Bytes B) (hl : B.length ≤ 10000) (s : St) (hs : Rd.Good s) (ht : s.t ≤ 9990) (a b n : Int) (hn : I64 n) (w : World) (hL : Laid w) (H : SwAt base w g B s h) :
    Calls Tryd.prog 14 #[.pointer (some ⟨g, 0, none⟩), .int .i64 a, .int .i64 b, .int .i64 n] w fun e w' => e = .returned (.tuple #[]) ∧ SwAt base w' g B (Rd.take B s a b n) h ∧ KeepBut w w' g none ∧ Below g w w' := by
  unfold Rd.take
  by_cases hk : Rd.ok a b n
  · rw [if_pos hk]
    obtain ⟨p0, p1, o0, o1, s0, s1⟩ := Rd.part_is hs.g0 hs.g1 hk
    have hrg := Rd.rg_in hs.g0 hs.g1 hk
    have hF := Rd.cut_fair hs hk
    obtain ⟨k0, k1, k2, k3⟩ := hk
    have hg0 := hs.g0
    have hg1 := hs.g1
    have hv0 := hs.v0
    have hv1 := hs.v1
    have hpart := fun w hL H => part_any base g h B s hs n (by omega) k3 w hL H
    obtain ⟨tk, rw, G, V⟩ := s
    simp only at ht hrg hg0 hg1 hv0 hv1 p0 p1 o0 o1 s0 s1 hpart
    have hw : ∀ x : Int, 0 ≤ x → x ≤ 4294967295 → IntKind.u32.wrap x = x := fun x h0 h1 => by rw [wrap_u32]; omega
    obtain ⟨p, hp⟩ : ∃ p, G / n = p := ⟨_, rfl⟩
    have hc : Rd.cut ⟨tk, rw, G, V⟩ a b n = ⟨tk, rw, Rd.rg G a b n, min (V - min (a * p) V) (Rd.rg G a b n - 1)⟩ := by simp only [Rd.cut]; rw [hp]
    rw [hc] at hF ⊢
    have hrg2 : Rd.rg G a b n = if b = n then G - a * p else (b - a) * p := by unfold Rd.rg; rw [hp]
    rw [hp] at p0 p1 o0 o1 s0 s1 hrg hpart
    obtain ⟨R, hR⟩ : ∃ R, Rd.rg G a b n = R := ⟨_, rfl⟩
    rw [hR] at hF hrg hrg2 ⊢
    obtain ⟨o, ho⟩ : ∃ o, a * p = o := ⟨_, rfl⟩
    rw [ho] at o0 o1 s1 hrg hrg2 hF ⊢
    obtain ⟨z, hz⟩ : ∃ z, min (V - min o V) (R - 1) = z := ⟨_, rfl⟩
    rw [hz] at hF ⊢
    have hzv := hF.v0
    have hzv1 := hF.v1
    simp only at hzv hzv1
    obtain ⟨L, hlen, hL0, hL1, hm2, hm1, hm0⟩ := len_any R (by omega) (by omega)
    have hpair := fun w H => pair_any base g h B hB hl ⟨tk, rw, G, z⟩ w H
    simp only at hpair
    have hP0 := Rd.by_in hB tk
    have hP1 := Rd.by_in hB (tk + 1)
    obtain ⟨t1, t2⟩ := tot_in (n := n) (by omega)
    have i3 : ¬ (4096 : Int) ≤ n - 1 := by omega
    have d1 : decide (a < 0) = false := decide_eq_false (by omega)
    have d2 : decide (b ≤ a) = false := decide_eq_false (by omega)
    have d3 : decide (n < b) = false := decide_eq_false (by omega)
    have m1 : (if V < o then V else o) = min o V := by split <;> omega
    have m2 : (if R - 1 < V - min o V then R - 1 else V - min o V) = z := by rw [← hz]; split <;> omega
    have l1 : wrap64 (24 - L) = 24 - L := by unfold wrap64; omega
    have x1 := hw n (by omega) (by omega)
    have x2 := hw a (by omega) (by omega)
    have x3 : IntKind.u32.wrap (a * p) = o := by rw [ho]; exact hw _ (by omega) (by omega)
    have x4 := hw (b - a) (by omega) (by omega)
    have x5 : wrap64 (b - a) = b - a := by unfold wrap64; omega
    have x6 : IntKind.u32.wrap (V - min o V) = V - min o V := hw _ (by omega) (by omega)
    have x7 : IntKind.u32.wrap (R - 1) = R - 1 := hw _ (by omega) (by omega)
    have x8 : IntKind.u32.wrap ((b - a) * p) = (b - a) * p := hw _ (by omega) (by omega)
    by_cases h2 : R ≤ 256
    · have e1 : Rd.step B (Rd.step B ⟨tk, rw, R, z⟩) = ⟨tk + 2, rw, R * 65536, z * 65536 + pr B tk⟩ := by
        rw [step_pos (s := ⟨tk, rw, R, z⟩) (show R ≤ 65536 by omega), step_pos (s := Rd.stp B ⟨tk, rw, R, z⟩) (show R * 256 ≤ 65536 by omega)]
        show (⟨tk + 1 + 1, rw, R * 256 * 256, (z * 256 + by_ B tk) * 256 + by_ B (tk + 1)⟩ : St) = _
        rw [Int.mul_assoc, show (z * 256 + by_ B tk) * 256 + by_ B (tk + 1) = z * 65536 + pr B tk by unfold pr; omega]
        rfl
      rw [e1]
      have f1 : IntKind.u32.wrap (z * 65536) = z * 65536 := hw _ (by omega) (by omega)
      have f2 : bits .or .u32 (z * 65536) (pr B tk) = z * 65536 + pr B tk := or_small (i := 16) (by decide) hzv (by simp only [Int.reducePow]; omega) (by unfold pr; omega) (by simp only [Int.reducePow]; unfold pr; omega)
      have f3 : IntKind.u32.wrap (R * 65536) = R * 65536 := hw _ (by omega) (by omega)
      by_cases hbn : b = n
      · rw [if_pos hbn] at hrg2
        exact take_e2 base g h B hB hl tk rw G V a b n p o _ _ _ z R _ _ L _ _ ht w hL H hpart hpair hlen t1 t2 i3 d1 d2 d3 (beq_iff_eq.2 hbn) x1 x2 x3 x4 x5 x8 (by rw [← hrg2]; exact hw _ (by omega) (by omega)) m1 x6 m2 x7 l1 (hm2 (by omega) h2) f1 f2 f3
      · rw [if_neg hbn] at hrg2
        exact take_m2 base g h B hB hl tk rw G V a b n p o 0 _ _ z R _ _ L _ _ ht w hL H hpart hpair hlen t1 t2 i3 d1 d2 d3 (beq_eq_false_iff_ne.2 hbn) x1 x2 x3 x4 x5 (by rw [x8, hrg2]) m1 x6 m2 x7 l1 (hm2 (by omega) h2) f1 f2 f3
    · by_cases h3 : R ≤ 65536
      · have e1 : Rd.step B (Rd.step B ⟨tk, rw, R, z⟩) = ⟨tk + 1, rw, R * 256, z * 256 + by_ B tk⟩ := by
          rw [step_pos (s := ⟨tk, rw, R, z⟩) h3, step_neg (s := Rd.stp B ⟨tk, rw, R, z⟩) (show ¬ R * 256 ≤ 65536 by omega)]
          rfl
        rw [e1]
        have f0 : pr B tk / 256 = by_ B tk := by unfold pr; omega
        have f1 : IntKind.u32.wrap (z * 256) = z * 256 := hw _ (by omega) (by omega)
        have f2 : bits .or .u32 (z * 256) (pr B tk / 256) = z * 256 + by_ B tk := by rw [f0]; exact or_small (i := 8) (by decide) hzv (by simp only [Int.reducePow]; omega) hP0.1 (by simp only [Int.reducePow]; omega)
        have f3 : IntKind.u32.wrap (R * 256) = R * 256 := hw _ (by omega) (by omega)
        by_cases hbn : b = n
        · rw [if_pos hbn] at hrg2
          exact take_e1 base g h B hB hl tk rw G V a b n p o _ _ _ z R _ _ L _ _ ht w hL H hpart hpair hlen t1 t2 i3 d1 d2 d3 (beq_iff_eq.2 hbn) x1 x2 x3 x4 x5 x8 (by rw [← hrg2]; exact hw _ (by omega) (by omega)) m1 x6 m2 x7 l1 (hm1 (by omega) h3) f1 f2 f3
        · rw [if_neg hbn] at hrg2
          exact take_m1 base g h B hB hl tk rw G V a b n p o 0 _ _ z R _ _ L _ _ ht w hL H hpart hpair hlen t1 t2 i3 d1 d2 d3 (beq_eq_false_iff_ne.2 hbn) x1 x2 x3 x4 x5 (by rw [x8, hrg2]) m1 x6 m2 x7 l1 (hm1 (by omega) h3) f1 f2 f3
      · have e1 : Rd.step B (Rd.step B ⟨tk, rw, R, z⟩) = ⟨tk + 0, rw, R, z⟩ := by
          rw [step_neg (s := ⟨tk, rw, R, z⟩) h3, step_neg (s := ⟨tk, rw, R, z⟩) h3]
          rfl
        rw [e1]
        have f0 : pr B tk / 65536 = 0 := by unfold pr; omega
        have f1 : IntKind.u32.wrap z = z := hw _ (by omega) (by omega)
        have f2 : bits .or .u32 z (pr B tk / 65536) = z := by
          rw [f0]
          have h := or_small (v := z) (x := 0) (i := 0) (by decide) hzv (by simp only [Int.reducePow]; omega) (by omega) (by simp only [Int.reducePow]; omega)
          simp only [Int.reducePow, Int.mul_one, Int.add_zero] at h
          exact h
        have f3 : IntKind.u32.wrap R = R := hw _ (by omega) (by omega)
        by_cases hbn : b = n
        · rw [if_pos hbn] at hrg2
          exact take_e0 base g h B hB hl tk rw G V a b n p o _ _ _ z R _ _ L _ _ ht w hL H hpart hpair hlen t1 t2 i3 d1 d2 d3 (beq_iff_eq.2 hbn) x1 x2 x3 x4 x5 x8 (by rw [← hrg2]; exact hw _ (by omega) (by omega)) m1 x6 m2 x7 l1 (hm0 (by omega)) f1 f2 f3
        · rw [if_neg hbn] at hrg2
          exact take_m0 base g h B hB hl tk rw G V a b n p o 0 _ _ z R _ _ L _ _ ht w hL H hpart hpair hlen t1 t2 i3 d1 d2 d3 (beq_eq_false_iff_ne.2 hbn) x1 x2 x3 x4 x5 (by rw [x8, hrg2]) m1 x6 m2 x7 l1 (hm0 (by omega)) f1 f2 f3
  · rw [if_neg hk]
    refine (take_none g a b n _ _ _ _ _ _ rfl rfl rfl rfl rfl rfl ⟨?_⟩ w).mono ?_
    · by_cases hr : 1 ≤ n ∧ n ≤ 4096
      · simp only [Rd.ok] at hk
        simp only [Bool.or_eq_true, decide_eq_true_eq]
        omega
      · rw [tot_out hn hr]; rfl
    · rintro e w' ⟨rfl, hb⟩
      exact ⟨rfl, H.below hb, KeepBut.of_below hb g none, hb.mono (Nat.le_of_lt H.lt)⟩
end Go.Proofs.YtdfgoahfaebooaaDoor.SwWalk
