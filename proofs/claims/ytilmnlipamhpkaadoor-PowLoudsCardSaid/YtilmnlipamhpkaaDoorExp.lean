import Derived.Test.YtilmnlipamhpkaaDoorPPowTellsx1
import Derived.LoopTactic
import Derived.Test.YtilmnlipamhpkaaDoorRows
import Derived.Lib.LaidTab
import Derived.LaidMore
import Derived.Stop.Joined
namespace Go.Proofs.YtilmnlipamhpkaaDoor.Pow
open Go.RowKit Go.Proofs.YtilmnlipamhpkaaDoorW.PrintWords Go.Proofs.YtilmnlipamhpkaaDoorW.PrintLast Go.Proofs.YtilmnlipamhpkaaDoorW.PrintMore
attribute [local go_sem] max2_int min2_int max_two min_two max_three min_three max_four min_four   -- for this text's walks alone
set_option linter.unusedVariables false
set_option linter.unusedSimpArgs false

def steps : List Int := [32768, 34219, 35734, 37316, 38968, 40693, 42495, 44376, 46341, 48393, 50535, 52773, 55109, 57549, 60097, 62757]
/-- The table lies in its variable. -/
def Laid (w : World) : Prop := ∀ i : Nat, i < 16 → w.cell? ⟨0, i, none⟩ = some (.int .i64 (steps.getD i 0))
theorem Laid.below {w w' : World} (h : Laid w) (hb : Below w.heap.size w w') : Laid w' := fun i hi => pw_cell_below hb (h i hi)
/-- A loudness's gain. -/
def ex (n : Nat) : Int := steps.getD (n % 16) 0 * 2 ^ (n / 16) / 32768

theorem gSteps : Tryd.prog.globalNamed "spinet/pow.steps" = some 0 := by kernel_rfl
/-- What the row's condition gives the walks. -/
theorem of_laid {W : World} (h : laidMetH Tryd.prog [("spinet/pow.steps", Rows.laid_spinet_pow_steps)] W) : Laid W := by
  rw [MakeChecks.laidMetH_plain _ _ _ (by kernel_rfl)] at h
  have hT := Lib.tabIs_of_head (k := .i64) (zs := steps) (rest := []) gSteps (t := 34) (e := 2) (n := 16) (by kernel_rfl) Tryd.underlying34 Tryd.underlying2 (by kernel_rfl) (by kernel_rfl) h
  exact fun i hi => hT.cell gSteps i hi
theorem held_any (e : Int) (n : Nat) (hn : min (max e 0) 320 = (n : Int)) (w : World) :
    Calls Tryd.prog 17 #[.int .i64 e, .int .i64 0, .int .i64 320] w fun e w' => e = .returned (.int .i64 n) ∧ Below w.heap.size w w' :=
  PPowTells.pow_held.calls e 0 320 n w (by unfold PPowTells.pow_held.f mx mn; congr 1; omega)

set_option maxHeartbeats 1000000 in
set_option maxRecDepth 100000 in
theorem exp_nat (e : Int) (n i q : Nat) (T : Int) (hn : min (max e 0) 320 = (n : Int)) (hn0 : n ≤ 320) (hi : (n : Int) % 16 = (i : Int)) (hi0 : i < 16) (hq : (n : Int) / 16 = (q : Int)) (hq0 : q ≤ 20) (w : World) (hT : w.cell? ⟨0, i, none⟩ = some (.int .i64 T)) :
    Calls Tryd.prog 9 #[.int .i64 e] w fun e w' => e = .returned (.int .i64 (wrap64 (T * 2 ^ q) / 32768)) ∧ Below w.heap.size w w' := by
  have HN := Aside0.mk hn
  have HB := Aside0.mk (Below.refl w.heap.size w)
  clear hn
  go_enter Tryd.func9, Tryd.ntmps9
  go_wp2_with (first | (go_at_call 17; refine (held_any _ _ HN.out _).mono ?_; rintro e w1 ⟨rfl, hb⟩; have n0 := Aside0.mk (below_step HB.out hb); clear HB; have HB := n0; clear n0; have m0 := pw_cell_below hb hT; clear hT hb; have hT := m0; clear m0))
  go_ret
  exact ⟨rfl, HB.out⟩

theorem ex_fits : ∀ n : Nat, n < 321 → wrap64 (steps.getD (n % 16) 0 * 2 ^ (n / 16)) / 32768 = ex n ∧ 0 ≤ ex n ∧ ex n ≤ 2097152 := by decide +kernel
theorem ex_rises1 : ∀ n : Nat, n < 320 → ex n ≤ ex (n + 1) := by decide +kernel
theorem ex_rises {m n : Nat} (h : m ≤ n) (hn : n ≤ 320) : ex m ≤ ex n := by
  induction n with
  | zero => have : m = 0 := by omega
            subst this; exact Int.le_refl _
  | succ n ih =>
    by_cases e : m = n + 1
    · subst e; exact Int.le_refl _
    · exact Int.le_trans (ih (by omega) (by omega)) (ex_rises1 n (by omega))

/-- pow.Exp, whatever it is asked. -/
theorem exp_any (e : Int) (n : Nat) (hn : min (max e 0) 320 = (n : Int)) (w : World) (hL : Laid w) :
    Calls Tryd.prog 9 #[.int .i64 e] w fun e w' => e = .returned (.int .i64 (ex n)) ∧ Below w.heap.size w w' := by
  have h := exp_nat e n (n % 16) (n / 16) _ hn (by omega) (by omega) (by omega) (by omega) (by omega) w (hL (n % 16) (by omega))
  rw [(ex_fits n (by omega)).1] at h
  exact h

/-- The greatest loudness whose gain isn't above v, from n down. -/
def lg (v : Int) : Nat → Nat
  | 0 => 0
  | n + 1 => if ex (n + 1) ≤ v then n + 1 else lg v n
theorem lg_le (v : Int) : ∀ n, lg v n ≤ n
  | 0 => Nat.le_refl _
  | n + 1 => by unfold lg; split; exact Nat.le_refl _; exact Nat.le_succ_of_le (lg_le v n)
theorem lg_fits (v : Int) : ∀ n, lg v n = 0 ∨ ex (lg v n) ≤ v
  | 0 => .inl rfl
  | n + 1 => by unfold lg; split; exact .inr (by assumption); exact lg_fits v n
theorem lg_above (v : Int) : ∀ n m, lg v n < m → m ≤ n → v < ex m
  | 0, m => fun h h2 => by omega
  | n + 1, m => by
    unfold lg
    split
    · intro h h2; omega
    · intro h h2
      by_cases e : m = n + 1
      · subst e; omega
      · exact lg_above v n m h (by omega)
/-- What lies between two, one of which is too great. -/
theorem lg_of {v : Int} {l : Nat} (hl : l = 0 ∨ ex l ≤ v) (hh : l = 320 ∨ v < ex (l + 1)) (h : l ≤ 320) : lg v 320 = l := by
  have h1 := lg_le v 320
  rcases Nat.lt_trichotomy (lg v 320) l with h2 | h2 | h2
  · have := lg_above v 320 l h2 h
    rcases hl with h3 | h3 <;> omega
  · exact h2
  · rcases hh with h3 | h3
    · omega
    · have h4 := ex_rises (m := l + 1) (n := lg v 320) (by omega) h1
      rcases lg_fits v 320 with h5 | h5 <;> omega

set_option maxHeartbeats 2000000 in
set_option maxRecDepth 100000 in
theorem log_any (v : Int) (w : World) (hL : Laid w) :
    Calls Tryd.prog 11 #[.int .i64 v] w fun e w' => e = .returned (.int .i64 (lg v 320)) ∧ Below w.heap.size w w' := by
  have HL := Aside0.mk hL
  clear hL
  go_enter Tryd.func11, Tryd.ntmps11
  go_wp2
  go_loopw [3, 4] (fun lo hi wr => ∃ l h : Nat, l < h ∧ h ≤ 321 ∧ lo = .int .i64 l ∧ hi = .int .i64 h ∧ Aside0 (l = 0 ∨ ex l ≤ v) ∧ Aside0 (h = 321 ∨ v < ex h) ∧ Aside0 (Laid wr) ∧ Aside0 (Below w.heap.size w wr)) (fun lo hi _ => (intOf hi - intOf lo).toNat)
  case atStart => exact ⟨0, 321, by omega, by omega, rfl, rfl, ⟨.inl rfl⟩, ⟨.inl rfl⟩, HL, ⟨Below.refl _ _⟩⟩
  case round =>
    obtain ⟨l, h, hlh, hh, rfl, rfl, Hl, Hh, HL2, HB⟩ := hrel
    clear HL
    by_cases ht : l + 1 < h
    · obtain ⟨m, hm, hm1, hm2⟩ : ∃ m : Nat, ((l : Int) + (h : Int)) / 2 = (m : Int) ∧ l < m ∧ m < h := ⟨(l + h) / 2, by omega, by omega, by omega⟩
      by_cases hx : ex m ≤ v
      all_goals
        go_wp2_with (first | (go_at_call 9; refine (exp_any _ m (by omega) _ HL2.out).mono ?_; rintro e w1 ⟨rfl, hb⟩; have n0 := Aside0.mk (below_step HB.out hb); clear HB; have HB := n0; clear n0; have n1 := Aside0.mk (HL2.out.below hb); clear HL2; have HL2 := n1; clear n1 hb))
        go_roundw
        case rel => first | exact ⟨m, h, by omega, by omega, rfl, rfl, ⟨.inr (by assumption)⟩, Hh, HL2, HB⟩ | exact ⟨l, m, by omega, by omega, rfl, rfl, Hl, ⟨.inr (by omega)⟩, HL2, HB⟩
        case measure => simp [intOf]; omega
    · have e : h = l + 1 := by omega
      have hr := lg_of (v := v) (l := l) Hl.out (by rcases Hh.out with h1 | h1; exact .inl (by omega); exact .inr (e ▸ h1)) (by omega)
      have HR := Aside0.mk hr
      clear hr e Hl Hh
      go_wp2
      go_ret
      exact ⟨by rw [HR.out]; rfl, HB.out⟩

end Go.Proofs.YtilmnlipamhpkaaDoor.Pow
