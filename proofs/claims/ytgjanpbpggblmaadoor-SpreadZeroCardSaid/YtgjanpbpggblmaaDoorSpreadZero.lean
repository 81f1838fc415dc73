import Derived.Test.YtgjanpbpggblmaaDoorSpreadTells
import Derived.Deep.RegionHeld3
import Derived.Deep.DrawnRows
namespace Go.Proofs.YtgjanpbpggblmaaDoor.Spread
open Go.RowKit Go.Proofs.YtgjanpbpggblmaaDoorW.PrintWords Go.Proofs.YtgjanpbpggblmaaDoorW.PrintLast Go.Proofs.YtgjanpbpggblmaaDoorW.PrintMore
open Go.Proofs.YtgjanpbpggblmaaDoor.SpreadPlain (I32)
set_option linter.unusedVariables false
set_option linter.unusedSimpArgs false
theorem ta_zero (c s : Int) : ta c s 0 0 = 0 := by
  unfold ta
  rw [show wrap64 0 = 0 by decide +kernel, Int.mul_zero, Int.mul_zero, show wrap64 0 = 0 by decide +kernel]
  decide +kernel
theorem tb_zero (c s : Int) : tb c s 0 0 = 0 := by
  unfold tb
  rw [show wrap64 0 = 0 by decide +kernel, Int.mul_zero, Int.mul_zero, show wrap64 0 = 0 by decide +kernel]
  decide +kernel
theorem rd_zeros (k : Nat) (i : Int) : rd (List.replicate k 0) i = 0 := by
  unfold rd
  simp [List.getD]
  cases h : (List.replicate k (0 : Int))[i.toNat]? with
  | none => rfl
  | some v => have := List.mem_of_getElem? h; rw [List.eq_of_mem_replicate this]; rfl
theorem tn_zero (c s : Int) (i k : Nat) : tn c s i (List.replicate k 0) = List.replicate k 0 := by
  unfold tn
  rw [rd_zeros, rd_zeros, ta_zero, tb_zero]
  apply List.ext_getElem
  · simp
  · intro j h1 h2
    simp [List.getElem_set]
theorem upw_zero (c s : Int) (k : Nat) : ∀ (d i : Nat), upw c s d i (List.replicate k 0) = List.replicate k 0
  | 0, _ => rfl
  | d + 1, i => by rw [upw, tn_zero]; exact upw_zero c s k d (i + 1)
theorem dnw_zero (c s : Int) (k : Nat) : ∀ m : Nat, dnw c s m (List.replicate k 0) = List.replicate k 0
  | 0 => rfl
  | m + 1 => by rw [dnw, tn_zero]; exact dnw_zero c s k m
theorem sp_zero (a : Int) (k : Nat) : sp a (List.replicate k 0) = List.replicate k 0 := by
  unfold sp
  split
  · rfl
  · rw [upw_zero, dnw_zero]
theorem sp_one (a x : Int) : sp a [x] = [x] := by
  unfold sp
  split
  · rfl
  · rfl
theorem sp_le (a : Int) (l : List Int) (h : a ≤ 0) : sp a l = l := by
  unfold sp si row
  rw [if_pos h, if_pos (by decide)]
theorem lit_read (w : World) (l : List Int) (n : Nat) (hn : l.length = n) (h : n ≤ 1000) : Kd.C (Kd.int .i32) (w.alloc (Obj.cells (nums .i32 l).toArray 21)) (some ⟨w.heap.size, 0, none⟩) n l := by
  subst hn
  exact (Kd.R_reads' (Kd.R_of_own (ok := fun _ => True) (h1 := fun _ => rfl) (own_lit w w.heap.size 21 .i32 l (Nat.le_refl _) (by omega)) (fun _ _ => trivial))).2.2
theorem below_born {w w' : World} {o : Obj} (h : Below (w.alloc o).heap.size (w.alloc o) w') : Below w.heap.size w w' := below_step (below_alloc (Below.refl _ _) _) h
theorem copy_one (a x : Int) (w : World) (hL : Laid w) :
    Calls Tryd.prog 10 #[.slice (some ⟨w.heap.size, 0, none⟩) 1 1, .int .i64 a] (w.alloc (Obj.cells #[.int .i32 x] 21)) fun e w' => ∃ ad c, e = .returned (.slice (some ad) 1 c) ∧ w'.cell? ad = some (.int .i32 x) ∧ Below w.heap.size w w' := by
  refine (copy_read a [x] 1 rfl (by decide) _ 1 _ (lit_read w [x] 1 rfl (by decide)) (by decide) (hL.below (below_alloc (Below.refl _ _) _))).mono ?_
  rintro e w' ⟨A, c, rfl, hC, hc, hb⟩
  rw [sp_one] at hC
  obtain ⟨ad, rfl, h0⟩ := Kd.at_int hC 0 (by decide) (by decide)
  exact ⟨ad, c, rfl, by simpa [Addr.add, rd] using h0, below_born hb⟩
theorem copy_two (a x y : Int) (ha : a ≤ 0) (w : World) (hL : Laid w) :
    Calls Tryd.prog 10 #[.slice (some ⟨w.heap.size, 0, none⟩) 2 2, .int .i64 a] (w.alloc (Obj.cells #[.int .i32 x, .int .i32 y] 21)) fun e w' => ∃ ad c, e = .returned (.slice (some ad) 2 c) ∧ w'.cell? ad = some (.int .i32 x) ∧ w'.cell? ⟨ad.block, ad.off + 1, none⟩ = some (.int .i32 y) ∧ Below w.heap.size w w' := by
  refine (copy_read a [x, y] 2 rfl (by decide) _ 2 _ (lit_read w [x, y] 2 rfl (by decide)) (by decide) (hL.below (below_alloc (Below.refl _ _) _))).mono ?_
  rintro e w' ⟨A, c, rfl, hC, hc, hb⟩
  rw [sp_le a _ ha] at hC
  obtain ⟨ad, rfl, h0⟩ := Kd.at_int hC 0 (by decide) (by decide)
  obtain ⟨ad1, e1, h1⟩ := Kd.at_int hC 1 (by decide) (by decide)
  cases e1
  exact ⟨ad, c, rfl, by simpa [Addr.add, rd] using h0, by simpa [Addr.add, rd] using h1, below_born hb⟩
theorem copy_two_any (a x y : Int) (w : World) (hL : Laid w) :
    Calls Tryd.prog 10 #[.slice (some ⟨w.heap.size, 0, none⟩) 2 2, .int .i64 a] (w.alloc (Obj.cells #[.int .i32 x, .int .i32 y] 21)) fun e w' => ∃ ad c, e = .returned (.slice (some ad) 2 c) ∧ Below w.heap.size w w' := by
  refine (copy_read a [x, y] 2 rfl (by decide) _ 2 _ (lit_read w [x, y] 2 rfl (by decide)) (by decide) (hL.below (below_alloc (Below.refl _ _) _))).mono ?_
  rintro e w' ⟨A, c, rfl, hC, hc, hb⟩
  obtain ⟨ad, rfl, h0⟩ := Kd.at_int hC 0 (by decide) (by decide)
  exact ⟨ad, c, rfl, below_born hb⟩
theorem copy_three (x y : Int) (w : World) (hL : Laid w) :
    Calls Tryd.prog 10 #[.slice (some ⟨w.heap.size, 0, none⟩) 3 3, .int .i64 0] (w.alloc (Obj.cells #[.int .i32 x, .int .i32 y, .int .i32 0] 21)) fun e w' => ∃ ad c, e = .returned (.slice (some ad) 3 c) ∧ w'.cell? ad = some (.int .i32 x) ∧ w'.cell? ⟨ad.block, ad.off + 1, none⟩ = some (.int .i32 y) ∧ Below w.heap.size w w' := by
  refine (copy_read 0 [x, y, 0] 3 rfl (by decide) _ 3 _ (lit_read w [x, y, 0] 3 rfl (by decide)) (by decide) (hL.below (below_alloc (Below.refl _ _) _))).mono ?_
  rintro e w' ⟨A, c, rfl, hC, hc, hb⟩
  rw [sp_le 0 _ (by decide)] at hC
  obtain ⟨ad, rfl, h0⟩ := Kd.at_int hC 0 (by decide) (by decide)
  obtain ⟨ad1, e1, h1⟩ := Kd.at_int hC 1 (by decide) (by decide)
  cases e1
  exact ⟨ad, c, rfl, by simpa [Addr.add, rd] using h0, by simpa [Addr.add, rd] using h1, below_born hb⟩
theorem in_zero (a : Int) (k : Nat) (hk : k ≤ 1000) (w : World) (hL : Laid w) :
    Calls Tryd.prog 12 #[.slice (some ⟨w.heap.size, 0, none⟩) k k, .int .i64 a] (w.alloc (.cells (madeCells #[.int .i32 0] k) 21)) fun e w' => e = .returned (.tuple #[]) ∧ Kd.C (Kd.int .i32) w' (some ⟨w.heap.size, 0, none⟩) k (List.replicate k 0) ∧ Below w.heap.size w w' := by
  refine (in_slice a (List.replicate k 0) k (by simp) hk _ k w _ (below_alloc (Below.refl _ _) _) (Kd.R_of_own (own_made' w w.heap.size 21 .i32 k (Nat.le_refl _) (by omega)) (fun _ _ => trivial)) hL).mono ?_
  rintro e w' ⟨rfl, hC, hc, hb⟩
  rw [sp_zero] at hC
  exact ⟨rfl, hC, hb⟩

set_option maxHeartbeats 8000000 in
set_option maxRecDepth 100000 in
theorem zero_le (a x y u : Int) (k : Nat) (hu : u % 64 = (k : Int)) (hu0 : 0 ≤ u) (hu1 : u ≤ 255) (hk : k < 64) (ha : a ≤ 0) (w : World) (hL : Laid w) :
    Calls Tryd.prog 4 #[.int .u8 u, .agg #[.int .i32 x, .int .i32 y], .int .i64 a] w fun e w' => e = .returned (.bool true) ∧ Below w.heap.size w w' := by
  have HL := Aside0.mk (hL.below (below_alloc (Below.refl _ _) (Obj.cells #[Value.int IntKind.i32 x, Value.int IntKind.i32 y] 33)))
  have HB := Aside0.mk (below_alloc (Below.refl w.heap.size w) (Obj.cells #[Value.int IntKind.i32 x, Value.int IntKind.i32 y] 33))
  have c0 : (w.alloc (Obj.cells #[Value.int IntKind.i32 x, Value.int IntKind.i32 y] 33)).cell? ⟨w.heap.size, 0, none⟩ = some (.int .i32 x) := by simp
  have c1 : (w.alloc (Obj.cells #[Value.int IntKind.i32 x, Value.int IntKind.i32 y] 33)).cell? ⟨w.heap.size, 1, none⟩ = some (.int .i32 y) := by simp
  have hmk := print_make (P := Tryd.prog) 22 21 .i32 4 Tryd.underlying22 (by kernel_rfl) (by decide) k (by omega)
  clear hL
  go_enter Tryd.func4, Tryd.ntmps4
  go_wp2_with (first
    | (go_at_call 7; (with_reducible refine (awake_any _ HL.out).mono ?_); rintro e w1 ⟨rfl, hb⟩; have m0 := Aside0.mk (below_step HB.out hb); have m1 := Aside0.mk (HL.out.below hb); clear HB HL; have HB := m0; have HL := m1; clear m0 m1; have m0 := pw_cell_below hb c0; clear c0; have c0 := m0; clear m0; have m0 := pw_cell_below hb c1; clear c1; have c1 := m0; clear m0; clear hb)
    | (go_at_call 12; (with_reducible refine (in_zero a k (by omega) w1 HL.out).mono ?_); rintro e w2 ⟨rfl, hC, hb⟩; have HC := Aside0.mk hC; have m0 := Aside0.mk (below_step HB.out hb); have m1 := Aside0.mk (HL.out.below hb); clear HB HL; have HB := m0; have HL := m1; clear m0 m1; have m0 := pw_cell_below hb c0; clear c0; have c0 := m0; clear m0; have m0 := pw_cell_below hb c1; clear c1; have c1 := m0; clear m0; clear hb hC))
  clear hu hmk
  go_loopw [24] (fun i wr => ∃ m : Nat, m ≤ k ∧ i = .int .i64 m ∧ wr = w2) (fun i _ => (k - intOf i).toNat)
  case atStart => exact ⟨0, by omega, rfl, rfl⟩
  case round =>
    obtain ⟨m, hm, rfl, rfl⟩ := hrel
    by_cases ht : m < k
    · obtain ⟨ad, e1, hcell⟩ := Kd.at_int HC.out (m : Int) (by omega) (by omega)
      have e2 : ad = ⟨w1.heap.size, 0, none⟩ := (Option.some.inj e1).symm
      subst e2
      rw [rd_zeros, add_plain, Int.toNat_natCast] at hcell
      clear e1
      go_wp2
      go_roundw
      case rel => exact ⟨m + 1, by omega, by simp, by first | rfl | trivial⟩
      case measure => simp [intOf]; omega
    · clear HC
      go_wp2_with (first
        | (go_at_call 10; (with_reducible refine (copy_one a x _ HL.out).mono ?_); rintro e w3 ⟨ad1, d1, rfl, o10, hb⟩; have m0 := Aside0.mk (below_step HB.out hb); have m1 := Aside0.mk (HL.out.below hb); clear HB HL; have HB := m0; have HL := m1; clear m0 m1; have m0 := pw_cell_below hb c0; clear c0; have c0 := m0; clear m0; have m0 := pw_cell_below hb c1; clear c1; have c1 := m0; clear m0; clear hb)
        | (go_at_call 10; (with_reducible refine (copy_two a x y ha _ HL.out).mono ?_); rintro e w3 ⟨ad2, d2, rfl, o20, o21, hb⟩; have m0 := Aside0.mk (below_step HB.out hb); have m1 := Aside0.mk (HL.out.below hb); clear HB HL; have HB := m0; have HL := m1; clear m0 m1; have m0 := pw_cell_below hb c0; clear c0; have c0 := m0; clear m0; have m0 := pw_cell_below hb c1; clear c1; have c1 := m0; clear m0; have m0 := pw_cell_below hb o10; clear o10; have o10 := m0; clear m0; clear hb)
        | (go_at_call 10; (with_reducible refine (copy_three x y _ HL.out).mono ?_); rintro e w3 ⟨ad3, d3, rfl, o30, o31, hb⟩; have m0 := Aside0.mk (below_step HB.out hb); have m1 := Aside0.mk (HL.out.below hb); clear HB HL; have HB := m0; have HL := m1; clear m0 m1; have m0 := pw_cell_below hb c0; clear c0; have c0 := m0; clear m0; have m0 := pw_cell_below hb c1; clear c1; have c1 := m0; clear m0; have m0 := pw_cell_below hb o10; clear o10; have o10 := m0; clear m0; have m0 := pw_cell_below hb o20; clear o20; have o20 := m0; clear m0; have m0 := pw_cell_below hb o21; clear o21; have o21 := m0; clear m0; clear hb))
      go_quiet (fail)
      go_wp2
      go_ret
      exact ⟨congrArg Ending.returned (congrArg Value.bool (by simp)), pw_below_drewN HB.out _⟩

set_option maxHeartbeats 8000000 in
set_option maxRecDepth 100000 in
theorem zero_gt (a x y u : Int) (k : Nat) (hu : u % 64 = (k : Int)) (hu0 : 0 ≤ u) (hu1 : u ≤ 255) (hk : k < 64) (ha : 0 < a) (w : World) (hL : Laid w) :
    Calls Tryd.prog 4 #[.int .u8 u, .agg #[.int .i32 x, .int .i32 y], .int .i64 a] w fun e w' => e = .returned (.bool true) ∧ Below w.heap.size w w' := by
  have HL := Aside0.mk (hL.below (below_alloc (Below.refl _ _) (Obj.cells #[Value.int IntKind.i32 x, Value.int IntKind.i32 y] 33)))
  have HB := Aside0.mk (below_alloc (Below.refl w.heap.size w) (Obj.cells #[Value.int IntKind.i32 x, Value.int IntKind.i32 y] 33))
  have c0 : (w.alloc (Obj.cells #[Value.int IntKind.i32 x, Value.int IntKind.i32 y] 33)).cell? ⟨w.heap.size, 0, none⟩ = some (.int .i32 x) := by simp
  have c1 : (w.alloc (Obj.cells #[Value.int IntKind.i32 x, Value.int IntKind.i32 y] 33)).cell? ⟨w.heap.size, 1, none⟩ = some (.int .i32 y) := by simp
  have hmk := print_make (P := Tryd.prog) 22 21 .i32 4 Tryd.underlying22 (by kernel_rfl) (by decide) k (by omega)
  clear hL
  go_enter Tryd.func4, Tryd.ntmps4
  go_wp2_with (first
    | (go_at_call 7; (with_reducible refine (awake_any _ HL.out).mono ?_); rintro e w1 ⟨rfl, hb⟩; have m0 := Aside0.mk (below_step HB.out hb); have m1 := Aside0.mk (HL.out.below hb); clear HB HL; have HB := m0; have HL := m1; clear m0 m1; have m0 := pw_cell_below hb c0; clear c0; have c0 := m0; clear m0; have m0 := pw_cell_below hb c1; clear c1; have c1 := m0; clear m0; clear hb)
    | (go_at_call 12; (with_reducible refine (in_zero a k (by omega) w1 HL.out).mono ?_); rintro e w2 ⟨rfl, hC, hb⟩; have HC := Aside0.mk hC; have m0 := Aside0.mk (below_step HB.out hb); have m1 := Aside0.mk (HL.out.below hb); clear HB HL; have HB := m0; have HL := m1; clear m0 m1; have m0 := pw_cell_below hb c0; clear c0; have c0 := m0; clear m0; have m0 := pw_cell_below hb c1; clear c1; have c1 := m0; clear m0; clear hb hC))
  clear hu hmk
  go_loopw [24] (fun i wr => ∃ m : Nat, m ≤ k ∧ i = .int .i64 m ∧ wr = w2) (fun i _ => (k - intOf i).toNat)
  case atStart => exact ⟨0, by omega, rfl, rfl⟩
  case round =>
    obtain ⟨m, hm, rfl, rfl⟩ := hrel
    by_cases ht : m < k
    · obtain ⟨ad, e1, hcell⟩ := Kd.at_int HC.out (m : Int) (by omega) (by omega)
      have e2 : ad = ⟨w1.heap.size, 0, none⟩ := (Option.some.inj e1).symm
      subst e2
      rw [rd_zeros, add_plain, Int.toNat_natCast] at hcell
      clear e1
      go_wp2
      go_roundw
      case rel => exact ⟨m + 1, by omega, by simp, by first | rfl | trivial⟩
      case measure => simp [intOf]; omega
    · clear HC
      go_wp2_with (first
        | (go_at_call 10; (with_reducible refine (copy_one a x _ HL.out).mono ?_); rintro e w3 ⟨ad1, d1, rfl, o10, hb⟩; have m0 := Aside0.mk (below_step HB.out hb); have m1 := Aside0.mk (HL.out.below hb); clear HB HL; have HB := m0; have HL := m1; clear m0 m1; have m0 := pw_cell_below hb c0; clear c0; have c0 := m0; clear m0; have m0 := pw_cell_below hb c1; clear c1; have c1 := m0; clear m0; clear hb)
        | (go_at_call 10; (with_reducible refine (copy_two_any a x y _ HL.out).mono ?_); rintro e w3 ⟨ad2, d2, rfl, hb⟩; have m0 := Aside0.mk (below_step HB.out hb); have m1 := Aside0.mk (HL.out.below hb); clear HB HL; have HB := m0; have HL := m1; clear m0 m1; have m0 := pw_cell_below hb c0; clear c0; have c0 := m0; clear m0; have m0 := pw_cell_below hb c1; clear c1; have c1 := m0; clear m0; have m0 := pw_cell_below hb o10; clear o10; have o10 := m0; clear m0; clear hb)
        | (go_at_call 10; (with_reducible refine (copy_three x y _ HL.out).mono ?_); rintro e w3 ⟨ad3, d3, rfl, o30, o31, hb⟩; have m0 := Aside0.mk (below_step HB.out hb); have m1 := Aside0.mk (HL.out.below hb); clear HB HL; have HB := m0; have HL := m1; clear m0 m1; have m0 := pw_cell_below hb c0; clear c0; have c0 := m0; clear m0; have m0 := pw_cell_below hb c1; clear c1; have c1 := m0; clear m0; have m0 := pw_cell_below hb o10; clear o10; have o10 := m0; clear m0; clear hb))
      go_quiet (fail)
      go_wp2
      go_ret
      exact ⟨congrArg Ending.returned (congrArg Value.bool (by simp)), pw_below_drewN HB.out _⟩

theorem zero_any (a x y u : Int) (wu : (Lit.int .u8 u).wf = true) (w : World) (hL : Laid w) :
    Calls Tryd.prog 4 #[.int .u8 u, .agg #[.int .i32 x, .int .i32 y], .int .i64 a] w fun e w' => e = .returned (.bool true) ∧ Below w.heap.size w w' := by
  have hu := Math.wf_u8 wu
  obtain ⟨k, hk⟩ := Int.eq_ofNat_of_zero_le (show 0 ≤ u % 64 by omega)
  by_cases ha : a ≤ 0
  · exact zero_le a x y u k hk hu.1 hu.2 (by omega) ha w hL
  · exact zero_gt a x y u k hk hu.1 hu.2 (by omega) (by omega) w hL
end Go.Proofs.YtgjanpbpggblmaaDoor.Spread
