import Derived.Test.YtdfgoahfaebooaaDoorSwPart
namespace Go.Proofs.YtdfgoahfaebooaaDoor.SwWalk
open Go.RowKit Go.Proofs.YtdfgoahfaebooaaDoorW.PrintWords Go.Proofs.YtdfgoahfaebooaaDoorW.PrintLast Go.Proofs.YtdfgoahfaebooaaDoorW.PrintMore
open Go.Proofs.YtdfgoahfaebooaaDoor.Rd (St by_ Bytes)
attribute [local go_sem] max2_int min2_int max_two min_two max_three min_three max_four min_four   -- for this text's walks alone
set_option linter.unusedVariables false
set_option linter.unusedSimpArgs false
theorem cell_C {w : World} {A : Option Addr} {n : Nat} {xs : List Int} (h : Kd.C (Kd.int .u8) w A n xs) {i : Nat} (hi : i < n) : ∃ ad, A = some ad ∧ w.cell? (ad.add i) = some (.int .u8 (xs.getD i 0)) := by
  obtain ⟨ad, c, e, _, hK, hc⟩ := Kd.C_get h (0 : Int) (i : Int) (by omega) (by omega)
  have hK' : c = [Value.int .u8 (xs.getD ((i : Int)).toNat 0)] := hK
  subst hK'
  have h1 := hc 0 _ rfl
  rw [Int.toNat_natCast] at h1
  have h2 : w.cell? (ad.add (i * 1 + 0)) = some (.int .u8 (xs.getD i 0)) := h1
  rw [Nat.mul_one, Nat.add_zero] at h2
  exact ⟨ad, e, h2⟩
theorem buf_get (B : List Int) (i : Nat) : (B ++ [0, 0, 0]).getD i 0 = by_ B i := Rd.by_zeros B 3 i
/-- A cell of the row. -/
theorem SwAt.row {base g h : Nat} {w : World} {B : List Int} {s : St} (H : SwAt base w g B s h) : ∃ (A : Option Addr) (c : Nat), w.cell? ⟨g, 0, none⟩ = some (.slice A (B.length + 3) c) ∧ ∀ i, i < B.length + 3 → ∃ ad, A = some ad ∧ w.cell? (ad.add i) = some (.int .u8 (by_ B i)) := by
  obtain ⟨A, c, hg, _, hR⟩ := H
  refine ⟨A, c, (blk_cell hg 0).trans rfl, fun i hi => ?_⟩
  have hC : Kd.C (Kd.int .u8) w A (B ++ [0, 0, 0]).length (B ++ [0, 0, 0]) := (Kd.R_reads' hR).2.2
  rw [show (B ++ ([0, 0, 0] : List Int) : List Int).length = B.length + 3 by simp] at hC
  obtain ⟨ad, e, h⟩ := cell_C hC hi
  exact ⟨ad, e, by rw [h, buf_get]⟩
set_option maxHeartbeats 1000000 in
set_option maxRecDepth 100000 in
theorem pair_in (g m t c : Nat) (ad : Addr) (x y z : Int) (ht : t ≤ m) (hm : m ≤ 10000) (hx : 0 ≤ x ∧ x ≤ 255) (hy : 0 ≤ y ∧ y ≤ 255) (hz : bits .or .u32 (x * 256) y = z) (w : World)
    (h0 : w.cell? ⟨g, 0, none⟩ = some (.slice (some ad) (m + 3) c)) (h1 : w.cell? ⟨g, 1, none⟩ = some (.int .i64 m)) (h2 : w.cell? ⟨g, 2, none⟩ = some (.int .i64 t)) (hcx : w.cell? (ad.add t) = some (.int .u8 x)) (hcy : w.cell? (ad.add (t + 1)) = some (.int .u8 y)) :
    Calls Tryd.prog 37 #[.pointer (some ⟨g, 0, none⟩)] w fun e w' => e = .returned (.int .u32 z) ∧ Below w.heap.size w w' := by
  have HB := Aside0.mk (Below.refl w.heap.size w)
  have f0 : ¬ (m : Int) < (t : Int) := by omega
  have f1 : IntKind.u32.wrap x = x := by rw [wrap_u32]; omega
  have f2 : IntKind.u32.wrap y = y := by rw [wrap_u32]; omega
  have f3 : IntKind.u32.wrap (x * 256) = x * 256 := by rw [wrap_u32]; omega
  have f4 : IntKind.i64.wrap ((t : Int) + 1) = (t : Int) + 1 := IntWalk.i64_in _ (by omega)
  have f5 : (0 : Int) ≤ (t : Int) + 1 := by omega
  have f6 : ((t : Int) + 1).toNat = t + 1 := by omega
  have f7 : (t : Int) < (m : Int) + 3 := by omega
  have f8 : (t : Int) + 1 < (m : Int) + 3 := by omega
  have hcy2 : w.cell? ⟨ad.block, ad.off + (t + 1), none⟩ = some (.int .u8 y) := by simpa [Addr.add] using hcy
  have f9 : t < m + 3 := by omega
  have f10 : t + 1 < m + 3 := by omega
  clear hx hy
  go_enter Tryd.func37, Tryd.ntmps37
  go_wp2
  repeat (go_quiet (fail); try go_wp2)
  go_ret
  exact ⟨rfl, by repeat (first | (with_reducible first | exact HB.out | apply pw_below_drewN | apply below_drew1) | exact HB.out)⟩
set_option maxHeartbeats 1000000 in
set_option maxRecDepth 100000 in
theorem pair_out (g m t : Nat) (ht : m < t) (w : World)
    (h1 : w.cell? ⟨g, 1, none⟩ = some (.int .i64 m)) (h2 : w.cell? ⟨g, 2, none⟩ = some (.int .i64 t)) :
    Calls Tryd.prog 37 #[.pointer (some ⟨g, 0, none⟩)] w fun e w' => e = .returned (.int .u32 0) ∧ Below w.heap.size w w' := by
  have HB := Aside0.mk (Below.refl w.heap.size w)
  have f0 : (m : Int) < (t : Int) := by omega
  go_enter Tryd.func37, Tryd.ntmps37
  go_wp2
  repeat (go_quiet (fail); try go_wp2)
  go_ret
  exact ⟨rfl, by repeat (first | (with_reducible first | exact HB.out | apply pw_below_drewN | apply below_drew1) | exact HB.out)⟩
theorem or_small {v x : Int} {i : Nat} (hi : i ≤ 16) (h0 : 0 ≤ v) (h1 : v * 2 ^ i < 4294967296) (h2 : 0 ≤ x) (h3 : x < 2 ^ i) : bits .or .u32 (v * 2 ^ i) x = v * 2 ^ i + x := by
  obtain ⟨a, rfl⟩ := Int.eq_ofNat_of_zero_le h0
  obtain ⟨b, rfl⟩ := Int.eq_ofNat_of_zero_le h2
  have hpc : ((2 ^ i : Nat) : Int) = 2 ^ i := by rw [Int.natCast_pow]; rfl
  have hp : 2 ^ i ≤ 2 ^ 16 := Nat.pow_le_pow_right (by decide) hi
  have hp' : 2 ^ i ≤ 65536 := hp
  have h3' : b < 2 ^ i := by rw [← hpc] at h3; omega
  have e1 : ((a : Int) * 2 ^ i) = ((a <<< i : Nat) : Int) := by rw [Nat.shiftLeft_eq, Int.natCast_mul, hpc]
  rw [e1] at h1 ⊢
  have e2 : a <<< i < 4294967296 := by omega
  have e3 : a <<< i + b < 4294967296 := by
    have hd : 2 ^ i ∣ a <<< i := by rw [Nat.shiftLeft_eq]; exact Nat.dvd_mul_left _ _
    have hd2 : 2 ^ i ∣ 4294967296 := ⟨2 ^ (32 - i), by rw [← Nat.pow_add, show i + (32 - i) = 32 by omega]⟩
    obtain ⟨k1, hk1⟩ := hd
    obtain ⟨k2, hk2⟩ := hd2
    have hpp : 0 < 2 ^ i := Nat.two_pow_pos i
    rw [hk1, hk2] at e2
    have hlt : k1 < k2 := Nat.lt_of_mul_lt_mul_left e2
    have : 2 ^ i * (k1 + 1) ≤ 2 ^ i * k2 := Nat.mul_le_mul_left _ hlt
    rw [Nat.mul_add, Nat.mul_one] at this
    rw [hk1, hk2]
    omega
  have key : ((BitVec.ofInt 32 ((a <<< i : Nat) : Int)) ||| (BitVec.ofInt 32 (b : Int))).toNat = a <<< i + b := by
    rw [BitVec.toNat_or, BitVec.ofInt_natCast, BitVec.ofInt_natCast, BitVec.toNat_ofNat, BitVec.toNat_ofNat, Nat.mod_eq_of_lt (by omega), Nat.mod_eq_of_lt (by omega), ← Nat.shiftLeft_add_eq_or_of_lt h3']
  show IntKind.u32.wrap (((BitVec.ofInt 32 ((a <<< i : Nat) : Int)) ||| (BitVec.ofInt 32 (b : Int))).toNat) = _
  rw [key, wrap_u32]
  omega
/-- The next two bytes. -/
def pr (B : List Int) (t : Nat) : Int := by_ B t * 256 + by_ B (t + 1)
theorem pair_any (base g h : Nat) (B : List Int) (hB : Bytes B) (hl : B.length ≤ 10000) (s : St) (w : World) (H : SwAt base w g B s h) :
    Calls Tryd.prog 37 #[.pointer (some ⟨g, 0, none⟩)] w fun e w' => e = .returned (.int .u32 (pr B s.t)) ∧ Below w.heap.size w w' := by
  obtain ⟨h1, h2, _⟩ := H.cells
  by_cases ht : s.t ≤ B.length
  · obtain ⟨A, c, h0, hr⟩ := H.row
    obtain ⟨ad, rfl, hx⟩ := hr s.t (by omega)
    obtain ⟨ad2, e, hy⟩ := hr (s.t + 1) (by omega)
    injection e with e
    subst e
    have b0 := Rd.by_in hB s.t
    have b1 := Rd.by_in hB (s.t + 1)
    exact pair_in g B.length s.t c ad _ _ _ ht hl b0 b1 (or_small (i := 8) (by decide) b0.1 (by simp only [Int.reducePow]; omega) b1.1 (by simp only [Int.reducePow]; omega)) w h0 h1 h2 hx hy
  · have e0 : pr B s.t = 0 := by
      unfold pr by_
      rw [List.getD_eq_getElem?_getD, List.getD_eq_getElem?_getD, List.getElem?_eq_none (by omega), List.getElem?_eq_none (by omega)]; rfl
    rw [e0]
    exact pair_out g B.length s.t (by omega) w h1 h2
abbrev I64 (n : Int) : Prop := -9223372036854775808 ≤ n ∧ n ≤ 9223372036854775807
theorem wrap_u64 (n : Int) : IntKind.u64.wrap n = n % 18446744073709551616 := by simp [IntKind.wrap, IntKind.bits, IntKind.signed]
theorem tot_in {n : Int} (h : 1 ≤ n ∧ n ≤ 4096) : wrap64 (n - 1) = n - 1 ∧ IntKind.u64.wrap (n - 1) = n - 1 := by
  refine ⟨by unfold wrap64; omega, by rw [wrap_u64]; omega⟩
theorem tot_out {n : Int} (hn : I64 n) (h : ¬ (1 ≤ n ∧ n ≤ 4096)) : decide (4096 ≤ IntKind.u64.wrap (wrap64 (n - 1))) = true := by
  apply decide_eq_true
  rw [wrap_u64]
  unfold wrap64
  omega
set_option maxHeartbeats 1000000 in
set_option maxRecDepth 100000 in
theorem get_out (g : Nat) (n k k2 : Int) (e1 : wrap64 (n - 1) = k) (e2 : IntKind.u64.wrap k = k2) (d : (4096 : Int) ≤ k2) (w : World) :
    Calls Tryd.prog 12 #[.pointer (some ⟨g, 0, none⟩), .int .i64 n] w fun e w' => e = .returned (.int .i64 0) ∧ Below w.heap.size w w' := by
  have HB := Aside0.mk (Below.refl w.heap.size w)
  go_enter Tryd.func12, Tryd.ntmps12
  go_wp2
  go_ret
  exact ⟨rfl, HB.out⟩
set_option maxHeartbeats 1000000 in
set_option maxRecDepth 100000 in
theorem get_in (base g h : Nat) (B : List Int) (s : St) (hs : Rd.Good s) (n p Q V z : Int) (hn : 1 ≤ n ∧ n ≤ 4096) (hp : s.g / n = p) (hp0 : ¬ p = 0) (hV : s.v = V) (e3 : IntKind.u32.wrap (V.tdiv p) = Q) (hQ : 0 ≤ Q ∧ Q ≤ 4294967295) (m1 : (if n - 1 < Q then n - 1 else Q) = z) (w : World) (hL : Laid w) (H : SwAt base w g B s h) :
    Calls Tryd.prog 12 #[.pointer (some ⟨g, 0, none⟩), .int .i64 n] w fun e w' => e = .returned (.int .i64 z) ∧ Below w.heap.size w w' := by
  have HB := Aside0.mk (Below.refl w.heap.size w)
  have hc5 := H.cells.2.2.2.2.1
  rw [hV] at hc5
  have HT : Aside0 (∀ w, Laid w → SwAt base w g B s h → Calls Tryd.prog 35 #[.pointer (some ⟨g, 0, none⟩), .int .u32 n] w fun e w' => e = .returned (.int .u32 p) ∧ Below w.heap.size w w') := ⟨fun w hL H => hp ▸ part_any base g h B s hs n hn.1 hn.2 w hL H⟩
  have HI : Aside0 (Laid w ∧ SwAt base w g B s h) := ⟨hL, H⟩
  have HId : Aside0 (Laid w.drew) ∧ Aside0 (SwAt base w.drew g B s h) ∧ Aside0 (Below w.heap.size w w.drew) := ⟨⟨hL.below (below_drew1 (Below.refl _ _))⟩, ⟨H.below (below_drew1 (Below.refl _ _))⟩, ⟨below_drew1 (Below.refl _ _)⟩⟩
  have HId := Aside0.mk HId
  obtain ⟨t1, t2⟩ := tot_in hn
  have t3 : ¬ (4096 : Int) ≤ n - 1 := by omega
  have t4 : IntKind.u32.wrap n = n := by rw [wrap_u32]; omega
  have t5 : IntKind.i64.wrap Q = Q := IntWalk.i64_in _ (by omega)
  have t6 : IntKind.i64.wrap (n - 1) = n - 1 := IntWalk.i64_in _ (by omega)
  clear hL H hs hp hV hn hQ
  go_enter Tryd.func12, Tryd.ntmps12
  go_wp2
  go_region_held3 (fun w' => w'.cell? ⟨g, 5, none⟩ = some (.int .u32 V) ∧ Aside0 (Laid w') ∧ Aside0 (SwAt base w' g B s h) ∧ Aside0 (Below w.heap.size w w'))
    (first | exact ⟨(World.cell?_drew _ _).trans hc5, HId.out⟩ | (go_split_ands; exact ⟨pw_cell_below hb (by assumption), ⟨Laid.below (Aside0.out (by assumption)) hb⟩, ⟨SwAt.below (Aside0.out (by assumption)) hb⟩, ⟨below_step (Aside0.out (by assumption)) hb⟩⟩))
    (first | (go_at_call 35; (go_split_ands; (with_reducible refine (HT.out _ (Aside0.out (by assumption)) (Aside0.out (by assumption))).mono ?_)); rintro e w3 ⟨rfl, hb⟩))
  all_goals (
    rename_i hH
    have HB2 := hH.2.2.2.out
    clear hH
    go_wp2
    go_ret
    exact ⟨rfl, HB2⟩)
theorem get_any (base g h : Nat) (B : List Int) (s : St) (hs : Rd.Good s) (n : Int) (hn : I64 n) (w : World) (hL : Laid w) (H : SwAt base w g B s h) :
    Calls Tryd.prog 12 #[.pointer (some ⟨g, 0, none⟩), .int .i64 n] w fun e w' => e = .returned (.int .i64 (Rd.get s n)) ∧ Below w.heap.size w w' := by
  by_cases h1 : 1 ≤ n ∧ n ≤ 4096
  · have hg0 := hs.g0
    have hg1 := hs.g1
    have hv0 := hs.v0
    have hv1 := hs.v1
    have hp : 16 ≤ s.g / n := by
      have := Int.ediv_le_ediv (a := 65536) (b := s.g) (c := n) (by omega) (by omega)
      have h2 : (16 : Int) ≤ 65536 / n := (Int.le_ediv_iff_mul_le (by omega)).mpr (by omega)
      omega
    have h5 : 0 ≤ s.v / (s.g / n) := Int.ediv_nonneg (by omega) (by omega)
    have h6 : s.v / (s.g / n) ≤ s.v := Int.ediv_le_self _ (by omega)
    refine get_in base g h B s hs n _ (s.v / (s.g / n)) _ _ h1 rfl (by omega) rfl (by rw [Int.tdiv_eq_ediv_of_nonneg (by omega), wrap_u32]; omega) (by omega) ?_ w hL H
    unfold Rd.get
    rw [if_pos h1]
    split <;> omega
  · rw [show Rd.get s n = 0 by unfold Rd.get; rw [if_neg h1]]
    exact get_out g n _ _ rfl rfl (of_decide_eq_true (tot_out hn h1)) w
set_option maxHeartbeats 1000000 in
set_option maxRecDepth 100000 in
theorem rng_any (base g h : Nat) (B : List Int) (s : St) (w : World) (H : SwAt base w g B s h) :
    Calls Tryd.prog 20 #[.pointer (some ⟨g, 0, none⟩)] w fun e w' => e = .returned (.int .u32 s.g) ∧ Below w.heap.size w w' := by
  have HB := Aside0.mk (Below.refl w.heap.size w)
  have hc4 := H.cells.2.2.2.1
  clear H
  go_enter Tryd.func20, Tryd.ntmps20
  go_wp2
  go_ret
  exact ⟨rfl, HB.out⟩
def left (B : List Int) (s : St) : Int := 8 * ((B.length : Int) - s.t) - s.r
set_option maxHeartbeats 1000000 in
set_option maxRecDepth 100000 in
theorem left_any (base g h : Nat) (B : List Int) (hl : B.length ≤ 10000) (s : St) (ht : s.t ≤ 10000) (hr : s.r ≤ 100000) (w : World) (H : SwAt base w g B s h) :
    Calls Tryd.prog 18 #[.pointer (some ⟨g, 0, none⟩)] w fun e w' => e = .returned (.int .i64 (left B s)) ∧ Below w.heap.size w w' := by
  have HB := Aside0.mk (Below.refl w.heap.size w)
  obtain ⟨hc1, hc2, hc3, _⟩ := H.cells
  unfold left
  obtain ⟨m, hm⟩ : ∃ m, B.length = m := ⟨_, rfl⟩
  obtain ⟨t, ht'⟩ : ∃ t, s.t = t := ⟨_, rfl⟩
  obtain ⟨r, hr'⟩ : ∃ r, s.r = r := ⟨_, rfl⟩
  rw [hm] at hl hc1 ⊢
  rw [ht'] at ht hc2 ⊢
  rw [hr'] at hr hc3 ⊢
  have f1 : IntKind.i64.wrap ((m : Int) - t) = (m : Int) - t := IntWalk.i64_in _ (by omega)
  have f2 : IntKind.i64.wrap (8 * ((m : Int) - t)) = 8 * ((m : Int) - t) := IntWalk.i64_in _ (by omega)
  have f3 : IntKind.i64.wrap (8 * ((m : Int) - t) - r) = 8 * ((m : Int) - t) - r := IntWalk.i64_in _ (by omega)
  have g1 : wrap64 ((m : Int) - t) = (m : Int) - t := by unfold wrap64; omega
  have g2 : wrap64 (8 * ((m : Int) - t)) = 8 * ((m : Int) - t) := by unfold wrap64; omega
  have g3 : wrap64 (8 * ((m : Int) - t) - r) = 8 * ((m : Int) - t) - r := by unfold wrap64; omega
  clear H hm ht' hr' hl ht hr
  go_enter Tryd.func18, Tryd.ntmps18
  go_wp2
  repeat (go_quiet (fail); try go_wp2)
  go_ret
  exact ⟨rfl, by repeat (first | (with_reducible first | exact HB.out | apply pw_below_drewN | apply below_drew1) | exact HB.out)⟩
end Go.Proofs.YtdfgoahfaebooaaDoor.SwWalk
