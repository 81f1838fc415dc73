/- For any two numbers of 32 bits, the next number by chance is what the document says, and two unlike numbers never lead to one. Conditions: none but that each number fits its type. -/
import Derived.Test.YtdacjcbeclbfjaaPFixChancex1
import Derived.Test.YtdacjcbeclbfjaaMath
namespace Go.Proofs.Ytdacjcbeclbfjaa.Pure
open Go.RowKit Go.Proofs.Ytdacjcbeclbfjaa.PFixChance Go.Proofs.YtdacjcbeclbfjaaW.PrintWords Go.Proofs.YtdacjcbeclbfjaaW.PrintLast
open Go.Proofs.Ytdacjcbeclbfjaa.Math

theorem awake_chance : spinetlaw01_awake.f = some true := by decide +kernel

theorem FixChance : spinetlaw01_FixChance.Pure := by
  intro a0 a1 w0 w1
  obtain ⟨h0, h1⟩ := wf_u32 w0
  obtain ⟨g0, g1⟩ := wf_u32 w1
  unfold spinetlaw01_FixChance.f fix_Lcg.f spinetref01_Lcg.f
  rw [awake_chance]
  have e : ((a0 * 1664525 % 4294967296) + 1013904223) % 4294967296 = (Int.tmod (IntKind.u64.wrap ((IntKind.u64.wrap ((IntKind.u64.wrap (a0)) * 1664525)) + 1013904223)) 4294967296) % 4294967296 := by
    rw [Int.tmod_eq_emod_of_nonneg (by rw [wrap_u64]; omega)]
    simp only [wrap_u64]; omega
  have inj : ((a0 * 1664525 % 4294967296) + 1013904223) % 4294967296 = ((a1 * 1664525 % 4294967296) + 1013904223) % 4294967296 → a0 = a1 := by
    intro h
    have h2 : (a0 * 1664525) % 4294967296 = (a1 * 1664525) % 4294967296 := by omega
    have h3 : ((a0 * 1664525) * 4276115653) % 4294967296 = ((a1 * 1664525) * 4276115653) % 4294967296 := by
      rw [Int.mul_emod, h2, ← Int.mul_emod]
    have h4 : ∀ x : Int, 0 ≤ x → x ≤ 4294967295 → ((x * 1664525) * 4276115653) % 4294967296 = x := by
      intro x hx0 hx1; omega
    rw [h4 a0 h0 h1, h4 a1 g0 g1] at h3
    exact h3
  simp only [Option.bind_some, if_true]
  rw [if_pos e]
  congr 1
  by_cases h : a0 = a1
  · subst h; simp
  · have hn : ¬ ((a0 * 1664525 % 4294967296) + 1013904223) % 4294967296 = ((a1 * 1664525 % 4294967296) + 1013904223) % 4294967296 := fun h' => h (inj h')
    rw [beq_eq_false_iff_ne.mpr hn, beq_eq_false_iff_ne.mpr h]; rfl

end Go.Proofs.Ytdacjcbeclbfjaa.Pure
