import Derived.Test.YtlabemdiocgjoaaDoorModeTells
namespace Go.Proofs.YtlabemdiocgjoaaDoor.Mode
open Go.RowKit Go.Proofs.YtlabemdiocgjoaaDoorW.PrintWords Go.Proofs.YtlabemdiocgjoaaDoorW.PrintLast Go.Proofs.YtlabemdiocgjoaaDoorW.PrintMore
set_option linter.unusedVariables false
set_option linter.unusedSimpArgs false
theorem fr_facts : ∀ n : Nat, n < 5 → wrap64 (fr n + widths.getD n 0) = fr (n + 1) ∧ 2 ≤ widths.getD n 0 := by decide +kernel
theorem wd_in' (s c : Int) (h : 0 ≤ s ∧ s < 3 ∧ 1 ≤ c ∧ c ≤ 2) (m : Nat) (hm : (m : Int) < 3 + s) : Wd s c m (widths.getD m 0) :=
  wd_in s c m (by omega) (by rw [has_of, decide_eq_true (by omega)])
theorem fr_in' (s c : Int) (h : 0 ≤ s ∧ s < 3 ∧ 1 ≤ c ∧ c ≤ 2) (m : Nat) (hm : (m : Int) < 3 + s) : Fr s c m (fr m) :=
  fr_in s c m (by omega) (by rw [has_of, decide_eq_true (by omega)])
set_option maxHeartbeats 2000000 in
set_option maxRecDepth 100000 in
theorem bands_at (f wd : Nat → Int) (N : Int) (hf0 : f 0 = 0) (hff : ∀ n : Nat, n < 5 → wrap64 (f n + wd n) = f (n + 1) ∧ 2 ≤ wd n) (a b s d : Int) (hend : ∀ n : Nat, (n : Int) = 3 + s → f n = N) (h2 : Nn s (d + 1) N) (h3 : Bd s (d + 1) (3 + s)) (h4 : ∀ n : Nat, (n : Int) < 3 + s → Wd s (d + 1) n (wd n)) (h5 : ∀ n : Nat, (n : Int) < 3 + s → Fr s (d + 1) n (f n)) (hs : Int.tmod a 3 = s) (hd : b % 2 = d) (ha0 : 0 ≤ a) (ha : a ≤ 255) (hb0 : 0 ≤ b) (hb : b ≤ 255) (h : 0 ≤ s ∧ s < 3 ∧ 1 ≤ d + 1 ∧ d + 1 ≤ 2) (w : World) (hL : Laid w) :
    Calls Tryd.prog 6 #[.int .u8 a, .int .u8 b] w fun e w' => e = .returned (.bool true) ∧ Below w.heap.size w w' := by
  have hu24 := Tryd.underlying24
  have HB := Aside0.mk (Below.refl w.heap.size w)
  have HL := Aside0.mk hL
  have H := Aside0.mk h
  have H2 := Aside0.mk h2
  have H3 := Aside0.mk h3
  have HF0 := Aside0.mk hf0
  have HFF := Aside0.mk hff
  have HE := Aside0.mk hend
  have HW := Aside0.mk h4
  have HR := Aside0.mk h5
  clear hL h h2 h3 hf0 hff hend h4 h5
  go_enter Tryd.func6, Tryd.ntmps6
  go_wp2_with (first | (go_at_call 7; (with_reducible refine (awake _ HL.out).mono ?_); rintro e w1 ⟨rfl, hb⟩; have n0 := Aside0.mk (below_step HB.out hb); clear HB; have HB := n0; clear n0; have m0 := Aside0.mk (HL.out.below hb); clear HL; have HL := m0; clear m0;  clear hb))
  clear hs hd
  go_loopw [6, 7] (fun at_ i wr => ∃ n : Nat, (n : Int) ≤ 3 + s ∧ at_ = .int .i64 (f n) ∧ i = .int .i64 n ∧ wr.cell? ⟨w1.heap.size, 0, none⟩ = some (.int .i64 s) ∧ wr.cell? ⟨w1.heap.size, 1, none⟩ = some (.int .i64 (d + 1)) ∧ Aside0 (Laid wr) ∧ Aside0 (Below w.heap.size w wr)) (fun _ i _ => (5 - intOf i).toNat)
  case atStart => exact ⟨0, by have := H.out; omega, by rw [HF0.out], rfl, by simp, by simp, ⟨HL.out.below (below_alloc (Below.refl _ _) _)⟩, ⟨below_alloc HB.out _⟩⟩
  case round =>
    obtain ⟨n, hn, rfl, rfl, hc0, hc1, HL2, HB2⟩ := hrel
    clear HL HB
    have HL := HL2
    have HB := HB2
    clear HL2 HB2
    by_cases ht : (n : Int) < 3 + s
    · have H4 : Aside0 (Wd s (d + 1) n (wd n)) := ⟨HW.out n ht⟩
      have H5 : Aside0 (Fr s (d + 1) n (f n)) := ⟨HR.out n ht⟩
      obtain ⟨hf1, hf2⟩ := HFF.out n (by have := H.out; omega)
      generalize wd n = x at *
      generalize hfn : f n = fn at *
      clear hfn
      have HF := Aside0.mk hf1
      have hn5 : n < 5 := by have := H.out; omega
      clear hf1
      go_wp2_with (first | (go_at_call 14; (with_reducible refine (H3.out _).mono ?_); rintro e w2 ⟨rfl, hb⟩; have n0 := Aside0.mk (below_step HB.out hb); clear HB; have HB := n0; clear n0; have m0 := Aside0.mk (HL.out.below hb); clear HL; have HL := m0; clear m0; have m0 := pw_cell_below hb hc0; have m1 := pw_cell_below hb hc1; clear hc0 hc1; have hc0 := m0; have hc1 := m1; clear m0 m1 hb) | (go_at_call 16; (with_reducible refine (H5.out _ HL.out).mono ?_); rintro e w2 ⟨rfl, hb⟩; have n0 := Aside0.mk (below_step HB.out hb); clear HB; have HB := n0; clear n0; have m0 := Aside0.mk (HL.out.below hb); clear HL; have HL := m0; clear m0; have m0 := pw_cell_below hb hc0; have m1 := pw_cell_below hb hc1; clear hc0 hc1; have hc0 := m0; have hc1 := m1; clear m0 m1 hb) | (go_at_call 15; (with_reducible refine (H4.out _ HL.out).mono ?_); rintro e w2 ⟨rfl, hb⟩; have n0 := Aside0.mk (below_step HB.out hb); clear HB; have HB := n0; clear n0; have m0 := Aside0.mk (HL.out.below hb); clear HL; have HL := m0; clear m0; have m0 := pw_cell_below hb hc0; have m1 := pw_cell_below hb hc1; clear hc0 hc1; have hc0 := m0; have hc1 := m1; clear m0 m1 hb))
      go_roundw
      case rel => exact ⟨n + 1, by omega, by rw [HF.out], by simp, hc0, hc1, HL, HB⟩
      case measure => simp [intOf]; omega
    · have e : (n : Int) = 3 + s := by omega
      have hfr := HE.out n e
      have hpos : 0 < 3 + s := by have := H.out; omega
      rw [hfr]
      clear hfr
      go_wp2_with (first | (go_at_call 14; (with_reducible refine (H3.out _).mono ?_); rintro e w2 ⟨rfl, hb⟩; have n0 := Aside0.mk (below_step HB.out hb); clear HB; have HB := n0; clear n0; have m0 := Aside0.mk (HL.out.below hb); clear HL; have HL := m0; clear m0; have m0 := pw_cell_below hb hc0; have m1 := pw_cell_below hb hc1; clear hc0 hc1; have hc0 := m0; have hc1 := m1; clear m0 m1 hb) | (go_at_call 13; (with_reducible refine (H2.out _).mono ?_); rintro e w2 ⟨rfl, hb⟩; have n0 := Aside0.mk (below_step HB.out hb); clear HB; have HB := n0; clear n0; have m0 := Aside0.mk (HL.out.below hb); clear HL; have HL := m0; clear m0; have m0 := pw_cell_below hb hc0; have m1 := pw_cell_below hb hc1; clear hc0 hc1; have hc0 := m0; have hc1 := m1; clear m0 m1 hb))
      go_ret
      exact ⟨congrArg Ending.returned (congrArg Value.bool (by simp)), HB.out⟩
theorem bands (a b : Int) (wa : (Lit.int .u8 a).wf = true) (wb : (Lit.int .u8 b).wf = true) (w : World) (hL : Laid w) :
    Calls Tryd.prog 6 #[.int .u8 a, .int .u8 b] w fun e w' => e = .returned (.bool true) ∧ Below w.heap.size w w' := by
  have ha : 0 ≤ a ∧ a ≤ 255 := by simpa [Lit.wf, IntKind.min, IntKind.max, IntKind.signed, IntKind.bits] using wa
  have hb : 0 ≤ b ∧ b ≤ 255 := by simpa [Lit.wf, IntKind.min, IntKind.max, IntKind.signed, IntKind.bits] using wb
  have e : Int.tmod a 3 = a % 3 := Int.tmod_eq_emod_of_nonneg ha.1
  have h : 0 ≤ a % 3 ∧ a % 3 < 3 ∧ 1 ≤ b % 2 + 1 ∧ b % 2 + 1 ≤ 2 := by omega
  refine bands_at fr (fun n => widths.getD n 0) (ns (a % 3)) rfl fr_facts a b _ _ (fun n hn => ?_) (fun w => PModeTells.mode_Mode_N.calls _ _ _ w (n_is _ _ h)) (fun w => PModeTells.mode_Mode_Bands.calls _ _ _ w (bands_is _ _ h)) (wd_in' _ _ h) (fr_in' _ _ h) e rfl ha.1 ha.2 hb.1 hb.2 (by omega) w hL
  have : ∀ m : Nat, m < 3 → fr (3 + m) = ns m := by decide +kernel
  obtain ⟨m, hm⟩ := Int.eq_ofNat_of_zero_le h.1
  rw [hm] at hn h ⊢
  have e2 : n = 3 + m := by omega
  rw [e2]; exact this m (by omega)
end Go.Proofs.YtlabemdiocgjoaaDoor.Mode
