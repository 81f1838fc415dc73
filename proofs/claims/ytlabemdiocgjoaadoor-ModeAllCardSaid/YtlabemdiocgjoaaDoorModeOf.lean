import Derived.Test.YtlabemdiocgjoaaDoorModeTells
namespace Go.Proofs.YtlabemdiocgjoaaDoor.Mode
open Go.RowKit Go.Proofs.YtlabemdiocgjoaaDoorW.PrintWords Go.Proofs.YtlabemdiocgjoaaDoorW.PrintLast Go.Proofs.YtlabemdiocgjoaaDoorW.PrintMore
set_option linter.unusedVariables false
set_option linter.unusedSimpArgs false
def six : List PModeOf.S24 := [⟨0, 1⟩, ⟨0, 2⟩, ⟨1, 1⟩, ⟨1, 2⟩, ⟨2, 1⟩, ⟨2, 2⟩]
theorem six_is : PModeOf.mode_All.f 20 = some six := by kernel_rfl
theorem six_facts : ∀ i : Nat, i < 6 → (PModeOf.rd_T24 six i).f0 = ((i / 2 : Nat) : Int) ∧ (PModeOf.rd_T24 six i).f1 = ((i % 2 : Nat) : Int) + 1 ∧ PModeOf.mode_Mode_N.f ((i / 2 : Nat) : Int) (((i % 2 : Nat) : Int) + 1) = some (ns ((i / 2 : Nat) : Int)) ∧ wrap64 ((i : Int) + 1) = ((i + 1 : Nat) : Int) := by decide +kernel
theorem of_step (k : Nat) (n c : Int) (i : Nat) (hi : i < 6) (hm : ¬ (ns ((i / 2 : Nat) : Int) = n ∧ ((i % 2 : Nat) : Int) + 1 = c)) :
    PModeOf.mode_Of.l0 (k + 1) n c six 6 i = PModeOf.mode_Of.l0 k n c six 6 ((i + 1 : Nat) : Int) := by
  obtain ⟨f0, f1, f2, f3⟩ := six_facts i hi
  have hl : (i : Int) < (six.length : Int) := by show (i : Int) < 6; omega
  simp only [PModeOf.mode_Of.l0]
  rw [if_pos (by omega), if_pos (by omega), if_pos hl, f0, f1, f2, Option.bind_some, f3]
  by_cases h : ns ((i / 2 : Nat) : Int) = n
  · rw [if_pos h, if_neg (fun h2 => hm ⟨h, h2⟩)]
  · rw [if_neg h]
theorem of_hit : ∀ s : Nat, s < 3 → ∀ c : Nat, c < 2 → PModeOf.mode_Of.f 20 (ns s) ((c : Int) + 1) = some ((s : Int), (c : Int) + 1, 0) := by decide +kernel
theorem of_miss (n c : Int) (hm : ∀ i : Nat, i < 6 → ¬ (ns ((i / 2 : Nat) : Int) = n ∧ ((i % 2 : Nat) : Int) + 1 = c)) : PModeOf.mode_Of.f 20 n c = some (0, 0, 2) := by
  unfold PModeOf.mode_Of.f
  rw [six_is, Option.bind_some]
  show PModeOf.mode_Of.l0 20 n c six 6 ((0 : Nat) : Int) = _
  rw [of_step 19 n c 0 (by decide) (hm 0 (by decide)), of_step 18 n c 1 (by decide) (hm 1 (by decide)), of_step 17 n c 2 (by decide) (hm 2 (by decide)), of_step 16 n c 3 (by decide) (hm 3 (by decide)), of_step 15 n c 4 (by decide) (hm 4 (by decide)), of_step 14 n c 5 (by decide) (hm 5 (by decide))]
  simp only [PModeOf.mode_Of.l0]
  rw [if_neg (by decide)]
abbrev Of (n c a b e : Int) : Prop := ∀ w, Calls Tryd.prog 8 #[.int .i64 n, .int .i64 c] w fun en w' => en = .returned (.tuple #[.agg #[.int .i64 a, .int .i64 b], .int .i64 e]) ∧ Below w.heap.size w w'
set_option maxHeartbeats 2000000 in
set_option maxRecDepth 100000 in
theorem of_yes (n c : Int) (s : Nat) (hs : s < 3) (hn : ns s = n) (hu : ∀ i : Nat, i < s → ns i ≠ n) (h1 : Of n c s c 0) (h2 : ∀ i : Nat, i < 3 → Rn i (ns i)) (h3 : Rr s c true) (w : World) (hL : Laid w) :
    Calls Tryd.prog 3 #[.int .i64 n, .int .i64 c] w fun e w' => e = .returned (.bool true) ∧ Below w.heap.size w w' := by
  have hu24 := Tryd.underlying24
  have HB := Aside0.mk (Below.refl w.heap.size w)
  have HL := Aside0.mk hL
  have H1 := Aside0.mk h1
  have H3 := Aside0.mk h3
  have HU := Aside0.mk hu
  have HN := Aside0.mk hn
  have H2 := Aside0.mk h2
  clear hL h1 h2 h3 hu hn
  go_enter Tryd.func3, Tryd.ntmps3
  go_wp2_with (first | (go_at_call 7; (with_reducible refine (awake _ HL.out).mono ?_); rintro e w1 ⟨rfl, hb⟩; have n0 := Aside0.mk (below_step HB.out hb); clear HB; have HB := n0; clear n0; have m0 := Aside0.mk (HL.out.below hb); clear HL; have HL := m0; clear m0;  clear hb) | (go_at_call 8; (with_reducible refine (H1.out _).mono ?_); rintro e wm ⟨rfl, hb⟩; have n0 := Aside0.mk (below_step HB.out hb); clear HB; have HB := n0; clear n0; have m0 := Aside0.mk (HL.out.below hb); clear HL; have HL := m0; clear m0;  clear hb))
  go_loopw [7] (fun i wr => ∃ m : Nat, m ≤ s ∧ i = .int .i64 m ∧ wr.cell? ⟨wm.heap.size, 0, none⟩ = some (.int .i64 s) ∧ wr.cell? ⟨wm.heap.size, 1, none⟩ = some (.int .i64 c) ∧ Aside0 (Below w.heap.size w wr)) (fun i _ => (5 - intOf i).toNat)
  case atStart => exact ⟨0, by omega, rfl, by simp, by simp, ⟨below_alloc HB.out _⟩⟩
  case round =>
    obtain ⟨m, hm, rfl, hc0, hc1, HB2⟩ := hrel
    clear HL HB
    have HB := HB2
    clear HB2
    have H4 : Aside0 (Rn m (ns m)) := ⟨H2.out m (by omega)⟩
    by_cases ht : m < s
    · have hne := HU.out m ht
      go_wp2_with (first | (go_at_call 9; (with_reducible refine (H4.out _).mono ?_); rintro e w2 ⟨rfl, hb⟩; have n0 := Aside0.mk (below_step HB.out hb); clear HB; have HB := n0; clear n0; have m0 := pw_cell_below hb hc0; have m1 := pw_cell_below hb hc1; clear hc0 hc1; have hc0 := m0; have hc1 := m1; clear m0 m1 hb))
      go_roundw
      case rel => exact ⟨m + 1, by omega, by simp, hc0, hc1, HB⟩
      case measure => simp [intOf]; omega
    · have e : m = s := by omega
      subst e
      have hne := HN.out
      go_wp2_with (first | (go_at_call 9; (with_reducible refine (H4.out _).mono ?_); rintro e w2 ⟨rfl, hb⟩; have n0 := Aside0.mk (below_step HB.out hb); clear HB; have HB := n0; clear n0; have m0 := pw_cell_below hb hc0; have m1 := pw_cell_below hb hc1; clear hc0 hc1; have hc0 := m0; have hc1 := m1; clear m0 m1 hb) | (go_at_call 10; (with_reducible refine (H3.out _).mono ?_); rintro e w2 ⟨rfl, hb⟩; have n0 := Aside0.mk (below_step HB.out hb); clear HB; have HB := n0; clear n0; have m0 := pw_cell_below hb hc0; have m1 := pw_cell_below hb hc1; clear hc0 hc1; have hc0 := m0; have hc1 := m1; clear m0 m1 hb))
      go_ret
      exact ⟨congrArg Ending.returned (congrArg Value.bool (by simp)), HB.out⟩
set_option maxHeartbeats 2000000 in
set_option maxRecDepth 100000 in
theorem of_no (n c : Int) (hm : ∀ i : Nat, i < 3 → ns i ≠ n ∨ ns i = n ∧ Rr i c false) (h1 : Of n c 0 0 2) (h2 : ∀ i : Nat, i < 3 → Rn i (ns i)) (w : World) (hL : Laid w) :
    Calls Tryd.prog 3 #[.int .i64 n, .int .i64 c] w fun e w' => e = .returned (.bool true) ∧ Below w.heap.size w w' := by
  have hu24 := Tryd.underlying24
  have HB := Aside0.mk (Below.refl w.heap.size w)
  have HL := Aside0.mk hL
  have H1 := Aside0.mk h1
  have HU := Aside0.mk hm
  have H2 := Aside0.mk h2
  clear hL h1 h2 hm
  go_enter Tryd.func3, Tryd.ntmps3
  go_wp2_with (first | (go_at_call 7; (with_reducible refine (awake _ HL.out).mono ?_); rintro e w1 ⟨rfl, hb⟩; have n0 := Aside0.mk (below_step HB.out hb); clear HB; have HB := n0; clear n0; have m0 := Aside0.mk (HL.out.below hb); clear HL; have HL := m0; clear m0;  clear hb) | (go_at_call 8; (with_reducible refine (H1.out _).mono ?_); rintro e wm ⟨rfl, hb⟩; have n0 := Aside0.mk (below_step HB.out hb); clear HB; have HB := n0; clear n0; have m0 := Aside0.mk (HL.out.below hb); clear HL; have HL := m0; clear m0;  clear hb))
  go_loopw [7] (fun i wr => ∃ m : Nat, m ≤ 3 ∧ i = .int .i64 m ∧ wr.cell? ⟨wm.heap.size, 0, none⟩ = some (.int .i64 0) ∧ wr.cell? ⟨wm.heap.size, 1, none⟩ = some (.int .i64 0) ∧ Aside0 (Below w.heap.size w wr)) (fun i _ => (5 - intOf i).toNat)
  case atStart => exact ⟨0, by omega, rfl, by simp, by simp, ⟨below_alloc HB.out _⟩⟩
  case round =>
    obtain ⟨m, hm, rfl, hc0, hc1, HB2⟩ := hrel
    clear HL HB
    have HB := HB2
    clear HB2
    by_cases ht : m < 3
    · have H4 : Aside0 (Rn m (ns m)) := ⟨H2.out m (by omega)⟩
      rcases HU.out m ht with hne | ⟨hne, h3⟩
      · go_wp2_with (first | (go_at_call 9; (with_reducible refine (H4.out _).mono ?_); rintro e w2 ⟨rfl, hb⟩; have n0 := Aside0.mk (below_step HB.out hb); clear HB; have HB := n0; clear n0; have m0 := pw_cell_below hb hc0; have m1 := pw_cell_below hb hc1; clear hc0 hc1; have hc0 := m0; have hc1 := m1; clear m0 m1 hb))
        go_roundw
        case rel => exact ⟨m + 1, by omega, by simp, hc0, hc1, HB⟩
        case measure => simp [intOf]; omega
      · have H3 := Aside0.mk h3
        clear h3
        go_wp2_with (first | (go_at_call 9; (with_reducible refine (H4.out _).mono ?_); rintro e w2 ⟨rfl, hb⟩; have n0 := Aside0.mk (below_step HB.out hb); clear HB; have HB := n0; clear n0; have m0 := pw_cell_below hb hc0; have m1 := pw_cell_below hb hc1; clear hc0 hc1; have hc0 := m0; have hc1 := m1; clear m0 m1 hb) | (go_at_call 10; (with_reducible refine (H3.out _).mono ?_); rintro e w2 ⟨rfl, hb⟩; have n0 := Aside0.mk (below_step HB.out hb); clear HB; have HB := n0; clear n0; have m0 := pw_cell_below hb hc0; have m1 := pw_cell_below hb hc1; clear hc0 hc1; have hc0 := m0; have hc1 := m1; clear m0 m1 hb))
        go_roundw
        case rel => exact ⟨m + 1, by omega, by simp, hc0, hc1, HB⟩
        case measure => simp [intOf]; omega
    · go_wp2
      go_ret
      exact ⟨congrArg Ending.returned (congrArg Value.bool (by simp)), HB.out⟩
theorem rr (s c : Int) (r : Bool) (h : decide (0 ≤ s ∧ s < 3 ∧ 1 ≤ c ∧ c ≤ 2) = r) : Rr s c r := fun w => (PModeTells.spinetref05_Right.calls s c r w (by rw [ref_right_is, h])).mono fun e w' h => ⟨h.1, h.2.below⟩
theorem rn : ∀ i : Nat, i < 3 → Rn i (ns i) := fun i hi w => (PModeTells.spinetref05_N.calls i _ w (ref_n_is i 1 (by omega))).mono fun e w' h => ⟨h.1, h.2.below⟩
theorem ns_one : ∀ i : Nat, i < 3 → ∀ j : Nat, j < 3 → ns i = ns j → i = j := by decide +kernel
theorem of (n c : Int) (w : World) (hL : Laid w) :
    Calls Tryd.prog 3 #[.int .i64 n, .int .i64 c] w fun e w' => e = .returned (.bool true) ∧ Below w.heap.size w w' := by
  by_cases h : ∃ s : Nat, s < 3 ∧ ns s = n ∧ 1 ≤ c ∧ c ≤ 2
  · obtain ⟨s, hs, hn, hc1, hc2⟩ := h
    obtain ⟨d, hd⟩ := Int.eq_ofNat_of_zero_le (show 0 ≤ c - 1 by omega)
    have hc : c = (d : Int) + 1 := by omega
    have h1 : Of n c s c 0 := fun w => PModeOf.mode_Of.calls 20 n c s c 0 w (by rw [← hn, hc]; exact of_hit s hs d (by omega))
    exact of_yes n c s hs hn (fun i hi he => by have := ns_one i (by omega) s hs (he.trans hn.symm); omega) h1 rn (rr s c true (decide_eq_true (by omega))) w hL
  · refine of_no n c (fun i hi => ?_) (fun w => PModeOf.mode_Of.calls 20 n c 0 0 2 w (of_miss n c (fun i hi hh => h ⟨i / 2, by omega, hh.1, by omega, by omega⟩))) rn w hL
    by_cases hi2 : ns i = n
    · exact .inr ⟨hi2, rr i c false (decide_eq_false (fun hh => h ⟨i, hi, hi2, hh.2.2.1, hh.2.2.2⟩))⟩
    · exact .inl hi2
end Go.Proofs.YtlabemdiocgjoaaDoor.Mode
