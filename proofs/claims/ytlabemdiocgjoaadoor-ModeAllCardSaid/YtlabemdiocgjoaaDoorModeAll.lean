import Derived.Test.YtlabemdiocgjoaaDoorModeOf
namespace Go.Proofs.YtlabemdiocgjoaaDoor.Mode
open Go.RowKit Go.Proofs.YtlabemdiocgjoaaDoorW.PrintWords Go.Proofs.YtlabemdiocgjoaaDoorW.PrintLast Go.Proofs.YtlabemdiocgjoaaDoorW.PrintMore
set_option linter.unusedVariables false
set_option linter.unusedSimpArgs false
/-- The six modes lie one behind the other. -/
def Six (w : World) (ad : Addr) : Prop := ∀ i : Nat, i < 6 → w.cell? (ad.add (i * 2)) = some (.int .i64 ((i : Int) / 2)) ∧ w.cell? ⟨(ad.add (i * 2)).block, (ad.add (i * 2)).off + 1, none⟩ = some (.int .i64 ((i : Int) % 2 + 1))
theorem Six.below {w w' : World} {ad : Addr} (h : Six w ad) (hb : Below w.heap.size w w') : Six w' ad := fun i hi => ⟨pw_cell_below hb (h i hi).1, pw_cell_below hb (h i hi).2⟩
theorem six_vals : ∀ i : Nat, i < 6 → (PModeOf.rd_T24 six i).f0 = (i : Int) / 2 ∧ (PModeOf.rd_T24 six i).f1 = (i : Int) % 2 + 1 := by decide +kernel
theorem all_any (w : World) : Calls Tryd.prog 11 #[] w fun e w' => ∃ (ad : Addr) (co : Nat), e = .returned (.slice (some ad) 6 co) ∧ Six w' ad ∧ Below w.heap.size w w' := by
  refine (PModeOf.mode_All.calls 20 six w six_is).mono ?_
  rintro e w' ⟨v, rfl, hR, hb⟩
  obtain ⟨A, co, rfl⟩ := Kd.R_slice hR
  have hC := (Kd.R_reads' hR).2.2
  obtain ⟨ad, rfl, _⟩ := PModeOf.at_T24 hC 0 (by omega) (by decide)
  refine ⟨ad, co, rfl, fun i hi => ?_, hb⟩
  obtain ⟨ad2, e2, h0, h1⟩ := PModeOf.at_T24 hC (i : Int) (by omega) (by show (i : Int) < 6; omega)
  cases e2
  obtain ⟨v0, v1⟩ := six_vals i hi
  rw [v0] at h0
  rw [v1] at h1
  rw [Int.toNat_natCast] at h0 h1
  exact ⟨h0, h1⟩
/-- Is it among the first ones? -/
def inn (s c : Int) : Nat → Bool
  | 0 => false
  | m + 1 => inn s c m || (decide ((m : Int) / 2 = s) && decide ((m : Int) % 2 + 1 = c))
theorem inn_six (s c : Int) : inn s c 6 = decide (0 ≤ s ∧ s < 3 ∧ 1 ≤ c ∧ c ≤ 2) := by
  by_cases h : 0 ≤ s ∧ s < 3 ∧ 1 ≤ c ∧ c ≤ 2
  · rw [decide_eq_true h]
    exact case_all (fun s c => inn s c 6 = true) (by decide +kernel) s c h
  · rw [decide_eq_false h]
    have h2 : ∀ m : Nat, m ≤ 6 → inn s c m = false := by
      intro m
      induction m with
      | zero => intro _; rfl
      | succ m ih =>
        intro hm
        unfold inn
        rw [ih (by omega), Bool.false_or]
        by_cases e1 : (m : Int) / 2 = s
        · rw [decide_eq_true e1, Bool.true_and]
          exact decide_eq_false (by omega)
        · rw [decide_eq_false e1, Bool.false_and]
    exact h2 6 (by omega)
set_option maxHeartbeats 2000000 in
set_option maxRecDepth 100000 in
theorem all_at (I : Nat → Bool) (a s c : Int) (j : Nat) (hI0 : I 0 = false) (hI : ∀ m : Nat, m < 6 → I (m + 1) = (I m || (decide ((m : Int) / 2 = s) && decide ((m : Int) % 2 + 1 = c)))) (hR : Rt s c (I 6)) (hj : a % 6 = (j : Int)) (hj6 : j < 6) (ha0 : 0 ≤ a) (ha : a ≤ 255) (w : World) (hL : Laid w) :
    Calls Tryd.prog 4 #[.int .u8 a, .int .i64 s, .int .i64 c] w fun e w' => e = .returned (.bool true) ∧ Below w.heap.size w w' := by
  have hu24 := Tryd.underlying24
  have HB := Aside0.mk (Below.refl w.heap.size w)
  have HL := Aside0.mk hL
  have HR := Aside0.mk hR
  have HI0 := Aside0.mk hI0
  have HI := Aside0.mk hI
  clear hL hR hI hI0
  go_enter Tryd.func4, Tryd.ntmps4
  go_wp2_with (first | (go_at_call 7; (with_reducible refine (awake _ HL.out).mono ?_); rintro e w1 ⟨rfl, hb⟩; have n0 := Aside0.mk (below_step HB.out hb); clear HB; have HB := n0; clear n0; have m0 := Aside0.mk (HL.out.below hb); clear HL; have HL := m0; clear m0;  clear hb) | (go_at_call 11; (with_reducible refine (all_any _).mono ?_); rintro e w2 ⟨ad, co, rfl, h6, hb⟩; have n0 := Aside0.mk (below_step HB.out hb); clear HB; have HB := n0; clear n0; have H6 := Aside0.mk h6; obtain ⟨hc0, hc1⟩ := h6 j hj6; clear h6 hb))
  clear hj
  go_loopw [8, 38] (fun f i wr => ∃ m : Nat, m ≤ 6 ∧ f = .bool (I m) ∧ i = .int .i64 m ∧ Aside0 (Six wr ad) ∧ Aside0 (Below w.heap.size w wr)) (fun _ i _ => (6 - intOf i).toNat)
  case atStart => exact ⟨0, by omega, by rw [HI0.out], rfl, H6, HB⟩
  case round =>
    obtain ⟨m, hm, rfl, rfl, H6', HB2⟩ := hrel
    clear HL HB H6 hc0 hc1
    have HB := HB2
    have H6 := H6'
    clear HB2 H6'
    by_cases ht : m < 6
    · have hn := HI.out m ht
      obtain ⟨hc0, hc1⟩ := H6.out m ht
      generalize I m = b at *
      generalize (m : Int) / 2 = x at *
      generalize (m : Int) % 2 + 1 = y at *
      have HN := Aside0.mk hn
      clear hn
      cases b
      · by_cases e1 : x = s
        · by_cases e2 : y = c
          all_goals
            go_wp2
            go_roundw
            case rel => exact ⟨m + 1, by omega, by rw [HN.out]; simp [e1, e2], by simp, ⟨H6.out.below (below_alloc (Below.refl _ _) _)⟩, ⟨below_alloc HB.out _⟩⟩
            case measure => simp [intOf]; omega
        · go_wp2
          go_roundw
          case rel => exact ⟨m + 1, by omega, by rw [HN.out]; simp [e1], by simp, ⟨H6.out.below (below_alloc (Below.refl _ _) _)⟩, ⟨below_alloc HB.out _⟩⟩
          case measure => simp [intOf]; omega
      · go_wp2
        go_roundw
        case rel => exact ⟨m + 1, by omega, by rw [HN.out]; simp, by simp, ⟨H6.out.below (below_alloc (Below.refl _ _) _)⟩, ⟨below_alloc HB.out _⟩⟩
        case measure => simp [intOf]; omega
    · have e : m = 6 := by omega
      subst e
      go_wp2_with (first | (go_at_call 12; (with_reducible refine (HR.out _).mono ?_); rintro e w1 ⟨rfl, hb⟩; have n0 := Aside0.mk (below_step HB.out hb); clear HB; have HB := n0; clear n0;  clear hb))
      go_ret
      exact ⟨congrArg Ending.returned (congrArg Value.bool (by simp)), HB.out⟩
theorem all (a s c : Int) (wa : (Lit.int .u8 a).wf = true) (w : World) (hL : Laid w) :
    Calls Tryd.prog 4 #[.int .u8 a, .int .i64 s, .int .i64 c] w fun e w' => e = .returned (.bool true) ∧ Below w.heap.size w w' := by
  have ha : 0 ≤ a ∧ a ≤ 255 := by simpa [Lit.wf, IntKind.min, IntKind.max, IntKind.signed, IntKind.bits] using wa
  obtain ⟨j, hj⟩ := Int.eq_ofNat_of_zero_le (show 0 ≤ a % 6 by omega)
  exact all_at (inn s c) a s c j rfl (fun m _ => rfl) (fun w => PModeTells.mode_Mode_Right.calls s c _ w (by rw [right_is, inn_six])) hj (by omega) ha.1 ha.2 w hL
end Go.Proofs.YtlabemdiocgjoaaDoor.Mode
