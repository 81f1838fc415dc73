import Derived.Test.YtlabemdiocgjoaaDoorPModeOfx1
import Derived.Test.YtlabemdiocgjoaaDoorPModeTellsx1
import Derived.LoopTactic
import Derived.Test.YtlabemdiocgjoaaDoorRows
import Derived.Lib.LaidTab
import Derived.LaidMore
import Derived.Stop.Joined
namespace Go.Proofs.YtlabemdiocgjoaaDoor.Mode
open Go.RowKit Go.Proofs.YtlabemdiocgjoaaDoorW.PrintWords Go.Proofs.YtlabemdiocgjoaaDoorW.PrintLast Go.Proofs.YtlabemdiocgjoaaDoorW.PrintMore
set_option linter.unusedVariables false
set_option linter.unusedSimpArgs false

def widths : List Int := [2, 2, 4, 8, 16]
/-- The table lies in its variable. -/
def Laid (w : World) : Prop := ∀ i : Nat, i < 5 → w.cell? ⟨0, i, none⟩ = some (.int .i64 (widths.getD i 0))
theorem Laid.below {w w' : World} (h : Laid w) (hb : Below w.heap.size w w') : Laid w' := fun i hi => pw_cell_below hb (h i hi)
theorem gWidths : Tryd.prog.globalNamed "spinet/mode.widths" = some 0 := by kernel_rfl
theorem of_laid {W : World} (h : laidMetH Tryd.prog [("spinet/mode.widths", Rows.laid_spinet_mode_widths)] W) : Laid W := by
  rw [MakeChecks.laidMetH_plain _ _ _ (by kernel_rfl)] at h
  have hT := Lib.tabIs_of_head (k := .i64) (zs := widths) (rest := []) gWidths (t := 39) (e := 3) (n := 5) (by kernel_rfl) Tryd.underlying39 Tryd.underlying3 (by kernel_rfl) (by kernel_rfl) h
  exact fun i hi => hT.cell gWidths i hi

theorem has_any (s c b : Int) (r : Bool) (h : PModeTells.mode_Mode_has.f s c b = some r) (w : World) :
    Calls Tryd.prog 20 #[.agg #[.int .i64 s, .int .i64 c], .int .i64 b] w fun e w' => e = .returned (.bool r) ∧ Below w.heap.size w w' := PModeTells.mode_Mode_has.calls s c b r w h

set_option maxHeartbeats 1000000 in
set_option maxRecDepth 100000 in
theorem width_in (s c : Int) (b : Nat) (x : Int) (hb5 : b < 5) (h : PModeTells.mode_Mode_has.f s c b = some true) (w : World) (hT : w.cell? ⟨0, b, none⟩ = some (.int .i64 x)) :
    Calls Tryd.prog 15 #[.agg #[.int .i64 s, .int .i64 c], .int .i64 b] w fun e w' => e = .returned (.int .i64 x) ∧ Below w.heap.size w w' := by
  have hu24 := Tryd.underlying24
  have HB := Aside0.mk (Below.refl w.heap.size w)
  have H := Aside0.mk h
  clear h
  go_enter Tryd.func15, Tryd.ntmps15
  go_wp2_with (first | ((with_reducible refine gate_dst (N := 2) rfl ?_); refine box_event ?hg (N := 2) ?hd (cs := #[.int .i64 s, .int .i64 c]) (t := 24) ?hr ?_; (case hd => rfl); (case hg => rfl); (case hr => first | (go_simp; done) | (go_simp; rfl)); intro gb hg wb hbox hb; have n0_ := Aside0.mk (below_step HB.out hb); have n2_ := Aside0.mk ((by rw [hg]; exact below_size HB.out) : w.heap.size ≤ gb); clear HB; have HB := n0_; have GW := n2_; clear n0_ n2_; have BK := Aside0.mk hbox; have hc0 : wb.cell? ⟨gb, 0, none⟩ = some (.int .i64 s) := (blk_cell BK.out 0).trans rfl; have hf0 := blk_frozen BK.out 0; have hc1 : wb.cell? ⟨gb, 1, none⟩ = some (.int .i64 c) := (blk_cell BK.out 1).trans rfl; have hf1 := blk_frozen BK.out 1; have m0 := pw_cell_below hb hT; clear hT; have hT := m0; clear m0; clear hb hbox hg) | (go_at_call 20; (with_reducible refine (has_any _ _ _ _ H.out _).mono ?_); rintro e w1 ⟨rfl, hb⟩; have n0 := Aside0.mk (below_step HB.out hb); clear HB; have HB := n0; clear n0; have n1 := Aside0.mk (blk_below BK.out hb); clear BK; have BK := n1; clear n1; clear hc0 hf0; clear hc1 hf1; have hc0 : w1.cell? ⟨gb, 0, none⟩ = some (.int .i64 s) := (blk_cell BK.out 0).trans rfl; have hf0 := blk_frozen BK.out 0; have hc1 : w1.cell? ⟨gb, 1, none⟩ = some (.int .i64 c) := (blk_cell BK.out 1).trans rfl; have hf1 := blk_frozen BK.out 1; have m0 := pw_cell_below hb hT; clear hT; have hT := m0; clear m0; clear hb))
  go_ret
  exact ⟨rfl, HB.out⟩

set_option maxHeartbeats 1000000 in
set_option maxRecDepth 100000 in
theorem width_out (s c b : Int) (h : PModeTells.mode_Mode_has.f s c b = some false) (w : World) :
    Calls Tryd.prog 15 #[.agg #[.int .i64 s, .int .i64 c], .int .i64 b] w fun e w' => e = .returned (.int .i64 0) ∧ Below w.heap.size w w' := by
  have hu24 := Tryd.underlying24
  have HB := Aside0.mk (Below.refl w.heap.size w)
  have H := Aside0.mk h
  clear h
  go_enter Tryd.func15, Tryd.ntmps15
  go_wp2_with (first | ((with_reducible refine gate_dst (N := 2) rfl ?_); refine box_event ?hg (N := 2) ?hd (cs := #[.int .i64 s, .int .i64 c]) (t := 24) ?hr ?_; (case hd => rfl); (case hg => rfl); (case hr => first | (go_simp; done) | (go_simp; rfl)); intro gb hg wb hbox hb; have n0_ := Aside0.mk (below_step HB.out hb); have n2_ := Aside0.mk ((by rw [hg]; exact below_size HB.out) : w.heap.size ≤ gb); clear HB; have HB := n0_; have GW := n2_; clear n0_ n2_; have BK := Aside0.mk hbox; have hc0 : wb.cell? ⟨gb, 0, none⟩ = some (.int .i64 s) := (blk_cell BK.out 0).trans rfl; have hf0 := blk_frozen BK.out 0; have hc1 : wb.cell? ⟨gb, 1, none⟩ = some (.int .i64 c) := (blk_cell BK.out 1).trans rfl; have hf1 := blk_frozen BK.out 1;  clear hb hbox hg) | (go_at_call 20; (with_reducible refine (has_any _ _ _ _ H.out _).mono ?_); rintro e w1 ⟨rfl, hb⟩; have n0 := Aside0.mk (below_step HB.out hb); clear HB; have HB := n0; clear n0; have n1 := Aside0.mk (blk_below BK.out hb); clear BK; have BK := n1; clear n1; clear hc0 hf0; clear hc1 hf1; have hc0 : w1.cell? ⟨gb, 0, none⟩ = some (.int .i64 s) := (blk_cell BK.out 0).trans rfl; have hf0 := blk_frozen BK.out 0; have hc1 : w1.cell? ⟨gb, 1, none⟩ = some (.int .i64 c) := (blk_cell BK.out 1).trans rfl; have hf1 := blk_frozen BK.out 1;  clear hb))
  go_ret
  exact ⟨rfl, HB.out⟩

set_option maxHeartbeats 1000000 in
set_option maxRecDepth 100000 in
theorem from_out (s c b : Int) (h : PModeTells.mode_Mode_has.f s c b = some false) (w : World) :
    Calls Tryd.prog 16 #[.agg #[.int .i64 s, .int .i64 c], .int .i64 b] w fun e w' => e = .returned (.int .i64 0) ∧ Below w.heap.size w w' := by
  have hu24 := Tryd.underlying24
  have HB := Aside0.mk (Below.refl w.heap.size w)
  have H := Aside0.mk h
  clear h
  go_enter Tryd.func16, Tryd.ntmps16
  go_wp2_with (first | ((with_reducible refine gate_dst (N := 2) rfl ?_); refine box_event ?hg (N := 2) ?hd (cs := #[.int .i64 s, .int .i64 c]) (t := 24) ?hr ?_; (case hd => rfl); (case hg => rfl); (case hr => first | (go_simp; done) | (go_simp; rfl)); intro gb hg wb hbox hb; have n0_ := Aside0.mk (below_step HB.out hb); have n2_ := Aside0.mk ((by rw [hg]; exact below_size HB.out) : w.heap.size ≤ gb); clear HB; have HB := n0_; have GW := n2_; clear n0_ n2_; have BK := Aside0.mk hbox; have hc0 : wb.cell? ⟨gb, 0, none⟩ = some (.int .i64 s) := (blk_cell BK.out 0).trans rfl; have hf0 := blk_frozen BK.out 0; have hc1 : wb.cell? ⟨gb, 1, none⟩ = some (.int .i64 c) := (blk_cell BK.out 1).trans rfl; have hf1 := blk_frozen BK.out 1;  clear hb hbox hg) | (go_at_call 20; (with_reducible refine (has_any _ _ _ _ H.out _).mono ?_); rintro e w1 ⟨rfl, hb⟩; have n0 := Aside0.mk (below_step HB.out hb); clear HB; have HB := n0; clear n0; have n1 := Aside0.mk (blk_below BK.out hb); clear BK; have BK := n1; clear n1; clear hc0 hf0; clear hc1 hf1; have hc0 : w1.cell? ⟨gb, 0, none⟩ = some (.int .i64 s) := (blk_cell BK.out 0).trans rfl; have hf0 := blk_frozen BK.out 0; have hc1 : w1.cell? ⟨gb, 1, none⟩ = some (.int .i64 c) := (blk_cell BK.out 1).trans rfl; have hf1 := blk_frozen BK.out 1;  clear hb))
  go_ret
  exact ⟨rfl, HB.out⟩

/-- Where a band begins. -/
def fr : Nat → Int
  | 0 => 0
  | n + 1 => fr n + widths.getD n 0
set_option maxHeartbeats 1000000 in
set_option maxRecDepth 100000 in
theorem from_in (s c : Int) (b : Nat) (hb5 : b < 6) (h : PModeTells.mode_Mode_has.f s c b = some true) (w : World) (hL : Laid w) :
    Calls Tryd.prog 16 #[.agg #[.int .i64 s, .int .i64 c], .int .i64 b] w fun e w' => e = .returned (.int .i64 (fr b)) ∧ Below w.heap.size w w' := by
  have hu24 := Tryd.underlying24
  have HB := Aside0.mk (Below.refl w.heap.size w)
  have H := Aside0.mk h
  have HL := Aside0.mk hL
  clear h hL
  go_enter Tryd.func16, Tryd.ntmps16
  go_wp2_with (first | ((with_reducible refine gate_dst (N := 2) rfl ?_); refine box_event ?hg (N := 2) ?hd (cs := #[.int .i64 s, .int .i64 c]) (t := 24) ?hr ?_; (case hd => rfl); (case hg => rfl); (case hr => first | (go_simp; done) | (go_simp; rfl)); intro gb hg wb hbox hb; have n0_ := Aside0.mk (below_step HB.out hb); have n2_ := Aside0.mk ((by rw [hg]; exact below_size HB.out) : w.heap.size ≤ gb); clear HB; have HB := n0_; have GW := n2_; clear n0_ n2_; have BK := Aside0.mk hbox; have hc0 : wb.cell? ⟨gb, 0, none⟩ = some (.int .i64 s) := (blk_cell BK.out 0).trans rfl; have hf0 := blk_frozen BK.out 0; have hc1 : wb.cell? ⟨gb, 1, none⟩ = some (.int .i64 c) := (blk_cell BK.out 1).trans rfl; have hf1 := blk_frozen BK.out 1; have m0 := Aside0.mk (HL.out.below hb); clear HL; have HL := m0; clear m0; clear hb hbox hg) | (go_at_call 20; (with_reducible refine (has_any _ _ _ _ H.out _).mono ?_); rintro e w1 ⟨rfl, hb⟩; have n0 := Aside0.mk (below_step HB.out hb); clear HB; have HB := n0; clear n0; have n1 := Aside0.mk (blk_below BK.out hb); clear BK; have BK := n1; clear n1; clear hc0 hf0; clear hc1 hf1; have hc0 : w1.cell? ⟨gb, 0, none⟩ = some (.int .i64 s) := (blk_cell BK.out 0).trans rfl; have hf0 := blk_frozen BK.out 0; have hc1 : w1.cell? ⟨gb, 1, none⟩ = some (.int .i64 c) := (blk_cell BK.out 1).trans rfl; have hf1 := blk_frozen BK.out 1; have m0 := Aside0.mk (HL.out.below hb); clear HL; have HL := m0; clear m0; clear hb))
  go_loopw [5, 12] (fun f i wr => ∃ n : Nat, n ≤ b ∧ f = .int .i64 (fr n) ∧ i = .int .i64 n ∧ Aside0 (Laid wr) ∧ Aside0 (Below w.heap.size w wr)) (fun _ i _ => (b - intOf i).toNat)
  case atStart => exact ⟨0, by omega, rfl, rfl, HL, HB⟩
  case round =>
    obtain ⟨n, hn, rfl, rfl, HL2, HB2⟩ := hrel
    clear HL HB
    by_cases ht : n < b
    · have hw := HL2.out n (by omega)
      have fs : wrap64 (fr n + widths.getD n 0) = fr (n + 1) := by
        have : ∀ m : Nat, m < 5 → wrap64 (fr m + widths.getD m 0) = fr (m + 1) := by decide +kernel
        exact this n (by omega)
      generalize widths.getD n 0 = x at *
      go_wp2
      go_roundw
      case rel => exact ⟨n + 1, by omega, by rw [fs], by simp, HL2, HB2⟩
      case measure => simp [intOf]; omega
    · have e : n = b := by omega
      subst e
      go_wp2
      go_ret
      exact ⟨rfl, HB2.out⟩
end Go.Proofs.YtlabemdiocgjoaaDoor.Mode
