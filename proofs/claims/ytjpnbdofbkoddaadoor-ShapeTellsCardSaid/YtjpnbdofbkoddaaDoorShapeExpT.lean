import Derived.Test.YtjpnbdofbkoddaaDoorOShapeScalesx0T
import Derived.Test.YtjpnbdofbkoddaaDoorOShapeScalesx1T
import Derived.LoopTactic
import Derived.Test.YtjpnbdofbkoddaaDoorRows
import Derived.Lib.LaidTab
import Derived.LaidMore
import Derived.Stop.Joined
set_option linter.unusedVariables false
set_option linter.unusedSimpArgs false
namespace Go.Proofs.YtjpnbdofbkoddaaDoor.Shape
open Go.RowKit Go.Proofs.YtjpnbdofbkoddaaDoorW.PrintWords Go.Proofs.YtjpnbdofbkoddaaDoorW.PrintLast Go.Proofs.YtjpnbdofbkoddaaDoorW.PrintMore
attribute [local go_sem] max2_int min2_int max_two min_two max_three min_three max_four min_four
def steps : List Int := [32768, 34219, 35734, 37316, 38968, 40693, 42495, 44376, 46341, 48393, 50535, 52773, 55109, 57549, 60097, 62757]
def Laid (w : World) : Prop := ∀ i : Nat, i < 16 → w.cell? ⟨1, i, none⟩ = some (.int .i64 (steps.getD i 0))
theorem Laid.below {w w' : World} (h : Laid w) (hb : Below w.heap.size w w') : Laid w' := fun i hi => pw_cell_below hb (h i hi)
def ex (n : Nat) : Int := steps.getD (n % 16) 0 * 2 ^ (n / 16) / 32768
theorem gSteps : Tryd.prog.globalNamed "spinet/pow.steps" = some 1 := by kernel_rfl
theorem of_laid {W : World} (h : laidMetH Tryd.prog [("spinet/pow.steps", Rows.laid_spinet_pow_steps)] W) : Laid W := by
 rw [MakeChecks.laidMetH_plain _ _ _ (by kernel_rfl)] at h
 have hT := Lib.tabIs_of_head (k := .i64) (zs := steps) (rest := []) gSteps (t := 126) (e := 2) (n := 16) (by kernel_rfl) Tryd.underlying126 Tryd.underlying2 (by kernel_rfl) (by kernel_rfl) h
 exact fun i hi => hT.cell gSteps i hi
theorem held_any (e : Int) (n : Nat) (hn : min (max e 0) 320 = (n : Int)) (w : World) :
 Calls Tryd.prog 70 #[.int .i64 e, .int .i64 0, .int .i64 320] w fun e w' => e = .returned (.int .i64 n) ∧ Below w.heap.size w w' :=
 OShapeScales.pow_held.calls e 0 320 n w (by unfold OShapeScales.pow_held.f mx mn; congr 1; omega)
set_option maxHeartbeats 1000000 in
set_option maxRecDepth 100000 in
theorem exp_nat (e : Int) (n i q : Nat) (T : Int) (hn : min (max e 0) 320 = (n : Int)) (hn0 : n ≤ 320) (hi : (n : Int) % 16 = (i : Int)) (hi0 : i < 16) (hq : (n : Int) / 16 = (q : Int)) (hq0 : q ≤ 20) (w : World) (hT : w.cell? ⟨1, i, none⟩ = some (.int .i64 T)) :
 Calls Tryd.prog 32 #[.int .i64 e] w fun e w' => e = .returned (.int .i64 (wrap64 (T * 2 ^ q) / 32768)) ∧ Below w.heap.size w w' := by
 have HN := Aside0.mk hn
 have HB := Aside0.mk (Below.refl w.heap.size w)
 clear hn
 go_enter Tryd.func32, Tryd.ntmps32
 go_wp2_with (first | (go_at_call 70; refine (held_any _ _ HN.out _).mono ?_; rintro e w1 ⟨rfl, hb⟩; have n0 := Aside0.mk (below_step HB.out hb); clear HB; have HB := n0; clear n0; have m0 := pw_cell_below hb hT; clear hT hb; have hT := m0; clear m0))
 go_ret
 exact ⟨rfl, HB.out⟩
theorem ex_fits : ∀ n : Nat, n < 321 → wrap64 (steps.getD (n % 16) 0 * 2 ^ (n / 16)) / 32768 = ex n ∧ 0 ≤ ex n ∧ ex n ≤ 2097152 := by decide +kernel
def ld (e : Int) : Nat := (min (max e 0) 320).toNat
theorem ld_is (e : Int) : min (max e 0) 320 = ((ld e : Nat) : Int) ∧ ld e ≤ 320 := by unfold ld; omega
theorem exp_any (e : Int) (w : World) (hL : Laid w) :
 Calls Tryd.prog 32 #[.int .i64 e] w fun en w' => en = .returned (.int .i64 (ex (ld e))) ∧ Below w.heap.size w w' := by
 obtain ⟨hn, h320⟩ := ld_is e
 generalize ld e = n at *
 have h := exp_nat e n (n % 16) (n / 16) _ hn (by omega) (by omega) (by omega) (by omega) (by omega) w (hL (n % 16) (by omega))
 rw [(ex_fits n (by omega)).1] at h
 exact h
set_option maxHeartbeats 1000000 in
set_option maxRecDepth 100000 in
theorem new_any (a b : Int) (w : World) : Calls Tryd.prog 27 #[.agg #[.int .i64 a, .int .i64 b]] w fun e w' => ∃ ad, e = .returned (.pointer (some ad)) ∧ Below w.heap.size w w' := by
 have hu53 := Tryd.underlying53
 have hu120 := Tryd.underlying120
 have HB := Aside0.mk (Below.refl w.heap.size w)
 go_enter Tryd.func27, Tryd.ntmps27
 go_wp2
 go_ret
 exact ⟨_, rfl, below_alloc (below_alloc HB.out _) _⟩
end Go.Proofs.YtjpnbdofbkoddaaDoor.Shape
