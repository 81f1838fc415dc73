/- The window is what the document says; it rises, and the squares of what stands opposite add up to 2^30, but for 2^17. Conditions: none but that the numbers fit their types. -/
import Derived.Test.YtkbcolikbaaejaaOLapWindowsx3
namespace Go.Proofs.Ytkbcolikbaaejaa.Pure
open Go.RowKit Go.Proofs.Ytkbcolikbaaejaa.OLapWindows Go.Proofs.YtkbcolikbaaejaaW.PrintWords Go.Proofs.YtkbcolikbaaejaaW.PrintLast
set_option linter.unusedVariables false
theorem awake : spinetlaw23_awake.f 103 = some true := by decide +kernel
theorem there_no (a : Int) (h0 : a ≠ 8) (h1 : a ≠ 16) (h2 : a ≠ 32) : lap_there.f a = some false := by
  unfold lap_there.f
  split
  · split
    · have : ∀ n : Nat, n < 33 → n ≠ 8 → n ≠ 16 → n ≠ 32 → 8 ≤ n → ((Go.bits .and .i64 (n : Int) (wrap64 ((n : Int) - 1))) == 0) = false := by decide +kernel
      obtain ⟨n, rfl⟩ := Int.eq_ofNat_of_zero_le (show 0 ≤ a by omega)
      rw [this n (by omega) (by omega) (by omega) (by omega) (by omega)]
    · rfl
  · rfl
theorem window_no (k : Nat) (a n : Int) (h : ¬ (a = 8 ∨ a = 16 ∨ a = 32) ∨ n < 0 ∨ n ≥ a) : lap_Window.f k a n = some 0 := by
  unfold lap_Window.f
  by_cases ht : a = 8 ∨ a = 16 ∨ a = 32
  · have : lap_there.f a = some true := by
      rcases ht with rfl | rfl | rfl <;> decide +kernel
    rw [this, Option.bind_some, if_pos rfl]
    by_cases h0 : n < 0
    · rw [if_pos h0]
    · rw [if_neg h0, if_pos (by omega)]
  · rw [there_no a (by omega) (by omega) (by omega), Option.bind_some, if_neg (by decide)]
theorem there_ref (a : Int) : spinetref23_There.f a = some (decide (a = 8 ∨ a = 16 ∨ a = 32)) := by
  unfold spinetref23_There.f
  by_cases h : a = 8
  · rw [if_pos h, decide_eq_true (by omega)]
  rw [if_neg h]
  by_cases h1 : a = 16
  · rw [if_pos h1, decide_eq_true (by omega)]
  rw [if_neg h1]
  by_cases h2 : a = 32
  · subst h2; decide
  · rw [decide_eq_false (by omega), beq_eq_false_iff_ne.mpr h2]
theorem rounds8 : spinetlaw23_LapWindows.l0 101 8 0 = some true := by decide +kernel
theorem rounds16 : spinetlaw23_LapWindows.l0 101 16 0 = some true := by decide +kernel
theorem rounds32 : spinetlaw23_LapWindows.l0 101 32 0 = some true := by decide +kernel
theorem rounds (s : Int) (h0 : 0 ≤ s) : 0 ≤ Int.tmod s 3 ∧ spinetlaw23_LapWindows.l0 101 (shl .i64 8 (Int.tmod s 3)) 0 = some true := by
  have ha : 0 ≤ Int.tmod s 3 := Int.tmod_nonneg 3 h0
  have hb : Int.tmod s 3 < 3 := Int.tmod_lt_of_pos s (by decide)
  refine ⟨ha, ?_⟩
  generalize Int.tmod s 3 = m at *
  have : m = 0 ∨ m = 1 ∨ m = 2 := by omega
  rcases this with rfl | rfl | rfl
  · rw [show shl .i64 8 0 = 8 by decide +kernel]; exact rounds8
  · rw [show shl .i64 8 1 = 16 by decide +kernel]; exact rounds16
  · rw [show shl .i64 8 2 = 32 by decide +kernel]; exact rounds32
theorem last (s a n x : Int) (h0 : 0 ≤ s) (h : (lap_Window.f 101 a n).map wrap64 = some x) : spinetlaw23_LapWindows.j1 102 s a n x = some true := by
  obtain ⟨h1, h2⟩ := rounds s h0
  show ((lap_Window.f 101 a n).bind fun t156 => (if (wrap64 (t156)) = x then (if 0 ≤ (Int.tmod s 3) then (spinetlaw23_LapWindows.l0 101 (shl .i64 8 (Int.tmod s 3)) 0) else (none)) else (some false))) = some true
  cases hw : lap_Window.f 101 a n with
  | none => rw [hw] at h; cases h
  | some y =>
    rw [hw] at h
    rw [Option.bind_some, if_pos (by injection h), if_pos h1, h2]
theorem all8 : ∀ n : Nat, n < 8 → (lap_Window.f 101 8 n).map wrap64 = spinetref23_Window.f 102 8 n := by decide +kernel
theorem all16 : ∀ n : Nat, n < 16 → (lap_Window.f 101 16 n).map wrap64 = spinetref23_Window.f 102 16 n := by decide +kernel
theorem all32 : ∀ n : Nat, n < 32 → (lap_Window.f 101 32 n).map wrap64 = spinetref23_Window.f 102 32 n := by decide +kernel
theorem some8 : ∀ n : Nat, n < 8 → (spinetref23_Window.f 102 8 n).isSome = true := by decide +kernel
theorem some16 : ∀ n : Nat, n < 16 → (spinetref23_Window.f 102 16 n).isSome = true := by decide +kernel
theorem some32 : ∀ n : Nat, n < 32 → (spinetref23_Window.f 102 32 n).isSome = true := by decide +kernel
theorem inside (a n : Int) (ht : a = 8 ∨ a = 16 ∨ a = 32) (h0 : 0 ≤ n) (h1 : n < a) : ∃ x, spinetref23_Window.f 102 a n = some x ∧ (lap_Window.f 101 a n).map wrap64 = some x := by
  obtain ⟨m, rfl⟩ := Int.eq_ofNat_of_zero_le h0
  rcases ht with rfl | rfl | rfl
  · have hs := some8 m (by omega)
    obtain ⟨x, hx⟩ := Option.isSome_iff_exists.mp hs
    exact ⟨x, hx, (all8 m (by omega)).trans hx⟩
  · have hs := some16 m (by omega)
    obtain ⟨x, hx⟩ := Option.isSome_iff_exists.mp hs
    exact ⟨x, hx, (all16 m (by omega)).trans hx⟩
  · have hs := some32 m (by omega)
    obtain ⟨x, hx⟩ := Option.isSome_iff_exists.mp hs
    exact ⟨x, hx, (all32 m (by omega)).trans hx⟩
theorem LapWindows : spinetlaw23_LapWindows.Pure := by
  intro s a n hs _ _
  have h0 : 0 ≤ s := by
    have : 0 ≤ s ∧ s ≤ 255 := by simpa [Lit.wf, IntKind.min, IntKind.max, IntKind.signed, IntKind.bits] using hs
    exact this.1
  refine ⟨103, ?_⟩
  unfold spinetlaw23_LapWindows.f
  rw [awake, Option.bind_some, if_pos rfl, there_ref, Option.bind_some]
  have hout : (¬ (a = 8 ∨ a = 16 ∨ a = 32) ∨ n < 0 ∨ n ≥ a) → spinetlaw23_LapWindows.j0 103 s a n 0 false = some true := fun h => by
    show (if false = true then ((spinetref23_Window.f 102 a n).bind fun t155 => (spinetlaw23_LapWindows.j1 102 s a n t155)) else spinetlaw23_LapWindows.j1 102 s a n 0) = some true
    rw [if_neg (by decide)]
    exact last s a n 0 h0 (by rw [window_no 101 a n h]; decide +kernel)
  by_cases ht : a = 8 ∨ a = 16 ∨ a = 32
  · rw [decide_eq_true ht, if_pos rfl]
    by_cases hn : n ≥ 0
    · rw [if_pos hn]
      by_cases hl : n < a
      · rw [decide_eq_true hl]
        obtain ⟨x, hx, hy⟩ := inside a n ht hn hl
        show (if true = true then ((spinetref23_Window.f 102 a n).bind fun t155 => (spinetlaw23_LapWindows.j1 102 s a n t155)) else spinetlaw23_LapWindows.j1 102 s a n 0) = some true
        rw [if_pos rfl, hx, Option.bind_some]
        exact last s a n x h0 hy
      · rw [decide_eq_false hl]
        exact hout (by omega)
    · rw [if_neg hn]
      exact hout (by omega)
  · rw [decide_eq_false ht, if_neg (by decide)]
    exact hout (by omega)
end Go.Proofs.Ytkbcolikbaaejaa.Pure
