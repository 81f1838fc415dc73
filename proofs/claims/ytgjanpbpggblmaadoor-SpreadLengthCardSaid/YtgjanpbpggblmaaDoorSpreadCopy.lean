import Derived.Test.YtgjanpbpggblmaaDoorSpreadIn
import Derived.Lib.SliceRun
namespace Go.Proofs.YtgjanpbpggblmaaDoor.Spread
open Go.RowKit Go.Proofs.YtgjanpbpggblmaaDoorW.PrintWords Go.Proofs.YtgjanpbpggblmaaDoorW.PrintLast Go.Proofs.YtgjanpbpggblmaaDoorW.PrintMore
set_option linter.unusedVariables false
set_option linter.unusedSimpArgs false
theorem info21 : (Tryd.prog.info? 21).map (fun i => (i.zero, i.size, i.bytes)) = some (some (.int .i32 0), 1, 4) := by kernel_rfl
set_option maxHeartbeats 2000000 in
set_option maxRecDepth 100000 in
theorem clone_some (xs : List Int) (ad : Addr) (c : Nat) (w : World) (hC : Kd.C (Kd.int .i32) w (some ad) xs.length xs) (hc : xs.length ≤ c) (hl : xs.length ≤ 1000) :
    Calls Tryd.prog 17 #[.slice (some ad) xs.length c] w fun e w' => ∃ v : Value, e = .returned v ∧ Kd.R (Kd.int .i32) 21 w' w.heap.size (fun _ => True) v xs ∧ Below w.heap.size w w' := by
  have HB := Aside0.mk (Below.refl w.heap.size w)
  have HC := Aside0.mk hC
  clear hC
  have q22 : ∀ (w : World) (a : Option Addr) (n c n' c' : Nat), (binOp .eql 22 (.slice a n c) (.slice none n' c')).run Tryd.prog w = .ok (.bool a.isNone) w := fun w a n c n' c' => Lib.run_eql_slice_nil w _ _ a n c n' c' Tryd.underlying22
  go_enter Tryd.func17, Tryd.ntmps17
  have HO : Aside0 (Kd.R (Kd.int .i32) 21 (w.alloc (Obj.cells #[] 21)) w.heap.size (fun _ => True) (.slice (some ⟨w.heap.size, 0, none⟩) 0 0) []) := ⟨Kd.R_of_own (own_lit w w.heap.size 21 .i32 [] (Nat.le_refl _) (by decide)) (fun _ _ => trivial)⟩
  go_wp2_with (first | ((with_reducible refine gate_builtin (b := .append) (xs := #[.tmp 5, .tmp 6]) rfl ?_); at_builtin; refine Kd.R_append_row (Value.int .i32) (0 : Int) (h1 := fun _ => rfl) (w0 := w) w.heap.size rfl (.tmp 5) (.tmp 6) 22 21 (.int .i32 0) 4 rfl Tryd.underlying22 info21 rfl (by decide) (.slice (some ⟨w.heap.size, 0, none⟩) 0 0) [] xs (some ad) xs.length c (fun _ => True) rfl rfl (fun _ _ => trivial) HO.out (Kd.C_below HC.out (below_alloc (Below.refl _ _) _)) (below_alloc HB.out _) (by simp) (by simp; omega) ?_; intro v1 w1 hR hb hg hat))
  go_ret
  exact ⟨v1, rfl, hR, hb⟩
set_option maxHeartbeats 2000000 in
set_option maxRecDepth 100000 in
theorem clone_none (c : Nat) (w : World) :
    Calls Tryd.prog 17 #[.slice none 0 c] w fun e w' => ∃ v : Value, e = .returned v ∧ Kd.R (Kd.int .i32) 21 w' w.heap.size (fun _ => True) v [] ∧ Below w.heap.size w w' := by
  have HB := Aside0.mk (Below.refl w.heap.size w)
  have q22 : ∀ (w : World) (a : Option Addr) (n c n' c' : Nat), (binOp .eql 22 (.slice a n c) (.slice none n' c')).run Tryd.prog w = .ok (.bool a.isNone) w := fun w a n c n' c' => Lib.run_eql_slice_nil w _ _ a n c n' c' Tryd.underlying22
  go_enter Tryd.func17, Tryd.ntmps17
  go_wp2
  go_ret
  exact ⟨_, rfl, Kd.R_nil _ _ _ _ _, HB.out⟩
theorem clone_any (xs : List Int) (A : Option Addr) (c : Nat) (w : World) (hC : Kd.C (Kd.int .i32) w A xs.length xs) (hc : xs.length ≤ c) (hl : xs.length ≤ 1000) :
    Calls Tryd.prog 17 #[.slice A xs.length c] w fun e w' => ∃ v : Value, e = .returned v ∧ Kd.R (Kd.int .i32) 21 w' w.heap.size (fun _ => True) v xs ∧ Below w.heap.size w w' := by
  cases A with
  | some ad => exact clone_some xs ad c w hC hc hl
  | none =>
    have : xs = [] := by
      cases xs with
      | nil => rfl
      | cons x l =>
        obtain ⟨ad, h, _⟩ := hC.2.2 (by simp)
        cases h
    subst this
    exact clone_none c w
set_option maxHeartbeats 2000000 in
set_option maxRecDepth 100000 in
theorem copy_any (a : Int) (xs : List Int) (A : Option Addr) (c : Nat) (w : World) (hC : Kd.C (Kd.int .i32) w A xs.length xs) (hc : xs.length ≤ c) (hl : xs.length ≤ 1000) (hL : Laid w) :
    Calls Tryd.prog 10 #[.slice A xs.length c, .int .i64 a] w fun e w' => ∃ v : Value, e = .returned v ∧ Kd.R (Kd.int .i32) 21 w' w.heap.size (fun _ => True) v (sp a xs) ∧ Below w.heap.size w w' := by
  have HC := Aside0.mk hC
  have HL := Aside0.mk hL
  clear hC hL
  go_enter Tryd.func10, Tryd.ntmps10
  go_wp2_with (first | (go_at_call 17; (with_reducible refine (clone_any xs A c _ HC.out hc hl).mono ?_); rintro e w1 ⟨v, rfl, hR, hb⟩; have HR := Aside0.mk (Kd.R_reok (ok := fun k => some k = v.ownBlock) rfl hR (fun k hk => hk.symm)); have HB := Aside0.mk hb; clear hR hb) | (go_at_call 12; (with_reducible refine (in_any a xs v w w1 hl HB.out HR.out HL.out).mono ?_); rintro e w2 ⟨rfl, hR2, hB2, hK⟩; have HR2 := Aside0.mk hR2; have HB2 := Aside0.mk hB2; clear hR2 hB2 hK))
  go_ret
  exact ⟨_, rfl, Kd.R_mono HR2.out (fun _ _ => trivial), HB2.out⟩
end Go.Proofs.YtgjanpbpggblmaaDoor.Spread
