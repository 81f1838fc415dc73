import Derived.Test.YtkbcolikbaaejaaLapInWalk
namespace Go.Proofs.Ytkbcolikbaaejaa.LapIn
open Go.RowKit Go.Proofs.Ytkbcolikbaaejaa.OLapTells Go.Proofs.YtkbcolikbaaejaaW.PrintWords Go.Proofs.YtkbcolikbaaejaaW.PrintLast Go.Proofs.YtkbcolikbaaejaaW.PrintMore
open Go.Proofs.Ytkbcolikbaaejaa.LapPlain
set_option linter.unusedVariables false
set_option linter.unusedSimpArgs false
set_option maxHeartbeats 1000000 in
set_option maxRecDepth 100000 in
theorem new_no (n : Nat) (hth : ¬ Th n) (w : World) : Calls Try.prog 14 #[.int .i64 n] w fun e w' => e = .returned (.tuple #[.pointer none, .int .i64 2]) ∧ Below w.heap.size w w' := by
  have HT := Aside0.mk (fun w => lap_there.calls (n : Int) false w (there_no n (by unfold Th at hth; omega) (by unfold Th at hth; omega) (by unfold Th at hth; omega)))
  go_enter Try.func14, Try.ntmps14
  go_wp2_with (first | (go_at_call 18; (with_reducible refine (HT.out _).mono ?_); rintro e w1 ⟨rfl, hd⟩))
  go_ret2
  exact ⟨rfl, hd.below⟩
set_option maxHeartbeats 1000000 in
set_option maxRecDepth 100000 in
theorem in_no (B gl n m k cy ct : Nat) (Ay At : Option Addr) (hmk : ((m : Int) != (n : Int)) = false) (hkn : ((k : Int) != (n : Int)) = true) (w : World) (HL : LapQ B w gl ((List.range n).map (fun i => wn n i))) :
    Calls Try.prog 15 #[.pointer (some ⟨gl, 0, none⟩), .slice Ay m cy, .slice At k ct] w fun e w' => e = .returned (.bool false) ∧ w = w' := by
  obtain ⟨v0, hg, hgB, hR⟩ := HL
  obtain ⟨Aw, cw, rfl⟩ := Kd.R_slice hR
  rw [wins_len] at hg
  have hc0 : w.cell? ⟨gl, 0, none⟩ = some (.slice Aw n cw) := (blk_cell hg 0).trans rfl
  clear hg hgB hR
  go_enter Try.func15, Try.ntmps15
  go_wp2
  go_ret
  exact ⟨rfl, rfl⟩
end Go.Proofs.Ytkbcolikbaaejaa.LapIn
