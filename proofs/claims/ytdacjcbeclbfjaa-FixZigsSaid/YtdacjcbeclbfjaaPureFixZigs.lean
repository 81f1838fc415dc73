/- For any number with a sign and any without one, Zig answers as the document says, and Zig and Zag lead to one another. Conditions: none but that each number fits its type. -/
import Derived.Test.YtdacjcbeclbfjaaPFixZigsx1
import Derived.Test.YtdacjcbeclbfjaaMath
namespace Go.Proofs.Ytdacjcbeclbfjaa.Pure
open Go.RowKit Go.Proofs.Ytdacjcbeclbfjaa.PFixZigs Go.Proofs.YtdacjcbeclbfjaaW.PrintWords Go.Proofs.YtdacjcbeclbfjaaW.PrintLast
open Go.Proofs.Ytdacjcbeclbfjaa.Math

theorem awake_zigs : spinetlaw01_awake.f = some true := by decide +kernel

theorem zig_is {x : Int} (h0 : -9223372036854775808 ≤ x) (h1 : x ≤ 9223372036854775807) :
    fix_Zig.f x = some (if x < 0 then -2 * x - 1 else 2 * x) := by
  unfold fix_Zig.f
  by_cases h : x < 0
  · have e1 : IntKind.u64.wrap (x / 9223372036854775808) = 18446744073709551615 := by rw [wrap_u64]; omega
    have e2 : IntKind.u64.wrap (wrap64 (x * 2)) = 2 * x + 18446744073709551616 := by rw [wrap_u64]; unfold wrap64; omega
    rw [if_pos h, e1, e2, xor_u64_1 (by omega) (by omega)]
    congr 1; omega
  · have e1 : IntKind.u64.wrap (x / 9223372036854775808) = 0 := by rw [wrap_u64]; omega
    have e2 : IntKind.u64.wrap (wrap64 (x * 2)) = 2 * x := by rw [wrap_u64]; unfold wrap64; omega
    rw [if_neg h, e1, e2, xor_u64_0 (by omega) (by omega)]
theorem ref_zig_is {x : Int} (h0 : -9223372036854775808 ≤ x) (h1 : x ≤ 9223372036854775807) :
    spinetref01_Zig.f x = some (if x < 0 then -2 * x - 1 else 2 * x) := by
  unfold spinetref01_Zig.f
  by_cases h : x < 0
  · rw [if_pos h, if_pos h]; congr 1; simp only [wrap_u64]; unfold wrap64; omega
  · rw [if_neg h, if_neg h]; congr 1; simp only [wrap_u64]; omega
theorem zag_is {u : Int} (h0 : 0 ≤ u) (h1 : u ≤ 18446744073709551615) :
    fix_Zag.f u = some (if u % 2 = 0 then u / 2 else -1 - u / 2) := by
  unfold fix_Zag.f
  have ha : bits .and .u64 u 1 = u % 2 := and_u64 u 1 (by decide)
  have hd : wrap64 (u / 2) = u / 2 := w64 (by omega) (by omega)
  rw [ha, hd]
  by_cases h : u % 2 = 0
  · have e : wrap64 (-(wrap64 (u % 2))) = 0 := by rw [h]; decide +kernel
    rw [e, if_pos h, xor_i64_0 (by omega) (by omega)]
  · have h' : u % 2 = 1 := by omega
    have e : wrap64 (-(wrap64 (u % 2))) = -1 := by rw [h']; decide +kernel
    rw [e, if_neg h, xor_i64_1 (by omega) (by omega)]

theorem FixZigs : spinetlaw01_FixZigs.Pure := by
  intro a0 a1 w0 w1
  obtain ⟨h0, h1⟩ := wf_i64 w0
  obtain ⟨g0, g1⟩ := wf_u64 w1
  unfold spinetlaw01_FixZigs.f
  rw [awake_zigs, zig_is h0 h1, ref_zig_is h0 h1]
  simp only [Option.bind_some, if_true]
  have hz : fix_Zag.f (if a0 < 0 then -2 * a0 - 1 else 2 * a0) = some a0 := by
    by_cases h : a0 < 0
    · rw [if_pos h, zag_is (by omega) (by omega), if_neg (by omega)]; congr 1; omega
    · rw [if_neg h, zag_is (by omega) (by omega), if_pos (by omega)]; congr 1; omega
  rw [hz, zag_is g0 g1]
  simp only [Option.bind_some, if_true]
  have hy : fix_Zig.f (if a1 % 2 = 0 then a1 / 2 else -1 - a1 / 2) = some a1 := by
    by_cases h : a1 % 2 = 0
    · rw [if_pos h, zig_is (by omega) (by omega), if_neg (by omega)]; congr 1; omega
    · rw [if_neg h, zig_is (by omega) (by omega), if_pos (by omega)]; congr 1; omega
  rw [hy]
  simp

end Go.Proofs.Ytdacjcbeclbfjaa.Pure
