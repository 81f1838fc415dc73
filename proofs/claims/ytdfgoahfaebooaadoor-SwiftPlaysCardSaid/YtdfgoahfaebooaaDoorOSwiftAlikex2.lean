import Derived.Test.YtdfgoahfaebooaaDoorOSwiftAlikex0
import Derived.Test.YtdfgoahfaebooaaDoorOSwiftAlikex1
namespace Go.Proofs.YtdfgoahfaebooaaDoor.OSwiftAlike
open Go.RowKit Go.Proofs.YtdfgoahfaebooaaDoorW.PrintWords Go.Proofs.YtdfgoahfaebooaaDoorW.PrintLast Go.Proofs.YtdfgoahfaebooaaDoorW.PrintMore
attribute [local go_sem] max2_int min2_int max_two min_two max_three min_three max_four min_four   -- for this text's walks alone
set_option linter.unusedVariables false
set_option linter.unusedSimpArgs false

/-! ### reader_Reader_Left: function 26 -/
def reader_Reader_Left.f (s0_0 : List Int) (s0_1 : Int) (s0_2 : Int) (s0_3 : Int) (s0_4 : Int) : Option (Int × Int × Int × Int × Int) := some (wrap64 ((wrap64 (8 * (wrap64 ((s0_0.length : Int) - s0_1)))) - s0_2), s0_1, s0_2, s0_3, s0_4)
set_option maxHeartbeats 8000000 in
set_option maxRecDepth 100000 in
theorem reader_Reader_Left.calls (g : Nat) (s0_0 : List Int) (s0_1 : Int) (s0_2 : Int) (s0_3 : Int) (s0_4 : Int) (r1 : Int) (r2 : Int) (r3 : Int) (r4 : Int) (r5 : Int) (w0 w : World) (hI : IsS65 w0 w g s0_0 s0_1 s0_2 s0_3 s0_4) (hB : Below w0.heap.size w0 w) (h : reader_Reader_Left.f s0_0 s0_1 s0_2 s0_3 s0_4 = some (r1, r2, r3, r4, r5)) :
    Calls Tryd.prog 26 #[.pointer (some ⟨g, 0, none⟩)] w fun e w' => e = .returned (.int .i64 r1) ∧ IsS65 w0 w' g s0_0 r2 r3 r4 r5 ∧ Below w0.heap.size w0 w' ∧ KeepBut w w' g none := by
  have HI0 := Aside0.mk hI
  have HK := Aside0.mk (KeepBut.refl w g none)
  have HL := Aside0.mk hB.size
  clear hI
  have HW0 := Aside0.mk hB.size
  have HB := Aside0.mk hB
  clear hB
  have H : (some (wrap64 ((wrap64 (8 * (wrap64 ((s0_0.length : Int) - s0_1)))) - s0_2), s0_1, s0_2, s0_3, s0_4)) = some (r1, r2, r3, r4, r5) := h
  clear h
  simp only [Option.some.injEq, Prod.mk.injEq] at H
  obtain ⟨rfl, rfl, rfl, rfl, rfl⟩ := H
  obtain ⟨ASz2_0, cSz2_0, HGz2, hgz2, HSz2_0⟩ := HI0.out
  have hcz2_0 := cellS65_0 HGz2
  have hcz2_1 := cellS65_1 HGz2
  have hcz2_2 := cellS65_2 HGz2
  have hcz2_3 := cellS65_3 HGz2
  have hcz2_4 := cellS65_4 HGz2
  have hfz2_1 := blk_frozen HGz2 1
  have hfz2_2 := blk_frozen HGz2 2
  have hfz2_3 := blk_frozen HGz2 3
  have hfz2_4 := blk_frozen HGz2 4
  clear HGz2 hgz2
  go_enter Tryd.func26, Tryd.ntmps26
  go_wp2
  repeat (go_quiet (fail); try go_wp2)
  go_ret
  exact ⟨by first | rfl | (simp [errW_none, errW_some] <;> rfl) | (simp [*, errW_none, errW_some] <;> rfl), by repeat (first | (with_reducible first | exact HI0.out | apply IsS65.alloc | apply IsS65.drewN | apply IsS65.drew | apply IsS65.set_1 | apply IsS65.set_2 | apply IsS65.set_3 | apply IsS65.set_4) | exact HI0.out), by repeat (first | (with_reducible first | exact HB.out | apply below_alloc | apply pw_below_drewN | apply below_drew1 | refine below_set ?_ (IsS65.ge HI0.out)) | exact HB.out), by repeat (first | (with_reducible first | exact HK.out | apply KeepBut.set_ | apply keep_drewN | apply keep_drew | apply keep_alloc) | exact HK.out)⟩

/-! ### reader_Reader_Rng: function 27 -/
def reader_Reader_Rng.f (s0_0 : List Int) (s0_1 : Int) (s0_2 : Int) (s0_3 : Int) (s0_4 : Int) : Option (Int × Int × Int × Int × Int) := some (s0_3, s0_1, s0_2, s0_3, s0_4)
set_option maxHeartbeats 8000000 in
set_option maxRecDepth 100000 in
theorem reader_Reader_Rng.calls (g : Nat) (s0_0 : List Int) (s0_1 : Int) (s0_2 : Int) (s0_3 : Int) (s0_4 : Int) (r1 : Int) (r2 : Int) (r3 : Int) (r4 : Int) (r5 : Int) (w0 w : World) (hI : IsS65 w0 w g s0_0 s0_1 s0_2 s0_3 s0_4) (hB : Below w0.heap.size w0 w) (h : reader_Reader_Rng.f s0_0 s0_1 s0_2 s0_3 s0_4 = some (r1, r2, r3, r4, r5)) :
    Calls Tryd.prog 27 #[.pointer (some ⟨g, 0, none⟩)] w fun e w' => e = .returned (.int .u32 r1) ∧ IsS65 w0 w' g s0_0 r2 r3 r4 r5 ∧ Below w0.heap.size w0 w' ∧ KeepBut w w' g none := by
  have HI0 := Aside0.mk hI
  have HK := Aside0.mk (KeepBut.refl w g none)
  have HL := Aside0.mk hB.size
  clear hI
  have HW0 := Aside0.mk hB.size
  have HB := Aside0.mk hB
  clear hB
  have H : (some (s0_3, s0_1, s0_2, s0_3, s0_4)) = some (r1, r2, r3, r4, r5) := h
  clear h
  simp only [Option.some.injEq, Prod.mk.injEq] at H
  obtain ⟨rfl, rfl, rfl, rfl, rfl⟩ := H
  obtain ⟨ASz2_0, cSz2_0, HGz2, hgz2, HSz2_0⟩ := HI0.out
  have hcz2_0 := cellS65_0 HGz2
  have hcz2_1 := cellS65_1 HGz2
  have hcz2_2 := cellS65_2 HGz2
  have hcz2_3 := cellS65_3 HGz2
  have hcz2_4 := cellS65_4 HGz2
  have hfz2_1 := blk_frozen HGz2 1
  have hfz2_2 := blk_frozen HGz2 2
  have hfz2_3 := blk_frozen HGz2 3
  have hfz2_4 := blk_frozen HGz2 4
  clear HGz2 hgz2
  go_enter Tryd.func27, Tryd.ntmps27
  go_wp2
  go_ret
  exact ⟨by first | rfl | (simp [errW_none, errW_some] <;> rfl) | (simp [*, errW_none, errW_some] <;> rfl), by repeat (first | (with_reducible first | exact HI0.out | apply IsS65.alloc | apply IsS65.drewN | apply IsS65.drew | apply IsS65.set_1 | apply IsS65.set_2 | apply IsS65.set_3 | apply IsS65.set_4) | exact HI0.out), by repeat (first | (with_reducible first | exact HB.out | apply below_alloc | apply pw_below_drewN | apply below_drew1 | refine below_set ?_ (IsS65.ge HI0.out)) | exact HB.out), by repeat (first | (with_reducible first | exact HK.out | apply KeepBut.set_ | apply keep_drewN | apply keep_drew | apply keep_alloc) | exact HK.out)⟩

-- NOT PRINTED: function 6 (spinetlaw08_SwiftAlike)

end Go.Proofs.YtdfgoahfaebooaaDoor.OSwiftAlike
