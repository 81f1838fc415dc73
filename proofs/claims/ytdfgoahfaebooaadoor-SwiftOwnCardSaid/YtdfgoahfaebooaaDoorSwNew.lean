import Derived.Test.YtdfgoahfaebooaaDoorSwRaw
namespace Go.Proofs.YtdfgoahfaebooaaDoor.SwWalk
open Go.RowKit Go.Proofs.YtdfgoahfaebooaaDoorW.PrintWords Go.Proofs.YtdfgoahfaebooaaDoorW.PrintLast Go.Proofs.YtdfgoahfaebooaaDoorW.PrintMore
open Go.Proofs.YtdfgoahfaebooaaDoor.Rd (St by_ Bytes)
attribute [local go_sem] max2_int min2_int max_two min_two max_three min_three max_four min_four   -- for this text's walks alone
set_option linter.unusedVariables false
set_option linter.unusedSimpArgs false
theorem infoE : (Tryd.prog.info? 5).map (fun i => (i.zero, i.size, i.bytes)) = some (some (.int .u8 0), 1, 1) := by kernel_rfl
set_option maxHeartbeats 2000000 in
set_option maxRecDepth 100000 in
theorem reset_nil (base g : Nat) (B : List Int) (hB : Bytes B) (m : Nat) (hm : B.length = m) (hl : m ≤ 10000) (A0 : Option Addr) (c0 : Nat)  (x1 x2 x3 x4 x5 x6 x7 x8 : Int) (w : World) (hbase : base ≤ g)
    (hg : w.heap[g]? = some (.cells #[.slice none 0 0, .int .i64 x1, .int .i64 x2, .int .i64 x3, .int .u32 x4, .int .u32 x5, .int .u64 x6, .int .i64 x7, .int .i64 x8] 59 (0, 0))) (hC : Kd.C (Kd.int .u8) w A0 m B) (hc : m ≤ c0) (hR9 : Kd.R (Kd.int .u8) 5 w base (fun k => k ≠ g) (.slice none 0 0) []) :
    Calls Tryd.prog 21 #[.pointer (some ⟨g, 0, none⟩), .slice A0 m c0] w fun e w' => e = .returned (.tuple #[]) ∧ SwAt base w' g B (Rd.new B) 0 ∧ Below base w w' := by
  have HM := Aside0.mk hm
  have HBy := Aside0.mk hB
  have HC := Aside0.mk hC
  have HB := Aside0.mk (Below.refl base w)
  have HG := Aside0.mk hg
  have HR := Aside0.mk hR9
  have hlt := blk_lt hg
  have hsz : base ≤ w.heap.size := by omega
  have hf0 := blk_frozen hg 0
  have hc0' : w.cell? ⟨g, 0, none⟩ = some (.slice none 0 0) := (blk_cell hg 0).trans rfl
  have HLT := Aside0.mk hlt
  have HSZ := Aside0.mk hsz
  have hu59 := Tryd.underlying59
  clear hm hB hC hg hR9 hlt hsz
  go_enter Tryd.func21, Tryd.ntmps21
  go_upto_region 1 with (first
    | ((with_reducible refine gate_builtin (b := .append) (xs := #[.tmp 9, .tmp 10]) rfl ?_); at_builtin; refine Kd.R_append_row (Value.int .u8) (0 : Int) (h1 := fun _ => rfl) (w0 := w) base rfl (.tmp 9) (.tmp 10) 22 5 (.int .u8 0) 1 rfl Tryd.underlying22 infoE rfl (by decide) (.slice none 0 0) [] B A0 m c0 (fun k => k ≠ g) rfl rfl (fun k hk => by have := HLT.out; omega) HR.out HC.out HB.out HSZ.out (by simp [HM.out]; omega) ?_; intro v1 w1 hR hb2 hgr hat; have HR1 : Aside0 (Kd.R (Kd.int .u8) 5 w1 base (fun k => k ≠ g) v1 B) := ⟨hR⟩; have HB1 := Aside0.mk hb2; have HG1 := Aside0.mk (blk_grown HG.out hgr (fun e => (Kd.R_ne HR.out HG.out (by decide)) e)); have HSZ1 := Aside0.mk (Nat.le_trans HSZ.out hgr.size); have HLT1 := Aside0.mk (blk_lt HG1.out); clear hR hb2 hgr hat)
    | ((with_reducible refine gate_builtin (b := .append) (xs := #[.tmp 11, .const (.int .i64 3)]) rfl ?_); at_builtin; refine Kd.R_append_zeros (Kd.int .u8) (w0 := w) base rfl (.tmp 11) (.const (.int .i64 3)) 22 3 5 (.int .u8 0) 1 rfl Tryd.underlying22 Tryd.underlying3 infoE rfl (by decide) (by decide) v1 B (0 : Int) 3 (fun k => k ≠ g) rfl rfl rfl (fun k hk => by have := HLT1.out; omega) HR1.out (by decide) HB1.out HSZ1.out (by simp [HM.out]; omega) ?_; intro v2 w2 hR2 hb2 hgr hat; obtain ⟨A2, c2, rfl⟩ := Kd.R_slice hR2; rw [show (B ++ List.replicate (Int.toNat 3) (0 : Int)).length = m + 3 by simp [HM.out]] at hR2 ⊢; have HR2 := Aside0.mk hR2; have HB2 := Aside0.mk hb2; have HG2 := Aside0.mk (blk_grown HG1.out hgr (fun e => (Kd.R_ne HR1.out HG1.out (by decide)) e)); have hf0 := blk_frozen HG2.out 0; have hq0 : w2.cell? ⟨g, 0, none⟩ = some (.slice none 0 0) := (blk_cell HG2.out 0).trans rfl; clear hR2 hb2 hgr hat))
  have HMB : Aside0 ((B ++ ([0, 0, 0] : List Int) : List Int).length = m + 3) := ⟨by simp [HM.out]⟩
  have HR3 : Aside0 (Kd.R (Kd.int .u8) 5 w2 base (fun k => k ≠ g) (.slice A2 (m + 3) c2) (B ++ [0, 0, 0])) := ⟨HR2.out⟩
  have hd : ∀ k, w2.frozen? ⟨g, k, none⟩ = false := fun k => blk_frozen HG2.out k
  have hq1 : w2.cell? ⟨g, 1, none⟩ = some (.int .i64 x1) := (blk_cell HG2.out 1).trans rfl
  have hq2 : w2.cell? ⟨g, 2, none⟩ = some (.int .i64 x2) := (blk_cell HG2.out 2).trans rfl
  have hq3 : w2.cell? ⟨g, 3, none⟩ = some (.int .i64 x3) := (blk_cell HG2.out 3).trans rfl
  have hq4 : w2.cell? ⟨g, 4, none⟩ = some (.int .u32 x4) := (blk_cell HG2.out 4).trans rfl
  have hq5 : w2.cell? ⟨g, 5, none⟩ = some (.int .u32 x5) := (blk_cell HG2.out 5).trans rfl
  have hq6 : w2.cell? ⟨g, 6, none⟩ = some (.int .u64 x6) := (blk_cell HG2.out 6).trans rfl
  have hq7 : w2.cell? ⟨g, 7, none⟩ = some (.int .i64 x7) := (blk_cell HG2.out 7).trans rfl
  have hq8 : w2.cell? ⟨g, 8, none⟩ = some (.int .i64 x8) := (blk_cell HG2.out 8).trans rfl
  go_cut [] from 15 (fun wc => Aside0 (wc.heap[g]? = some (.cells #[.slice A2 (m + 3) c2, .int .i64 m, .int .i64 3, .int .i64 0, .int .u32 16777216, .int .u32 0, .int .u64 0, .int .i64 0, .int .i64 m] 59 (0, 0))) ∧ Aside0 (Kd.R (Kd.int .u8) 5 wc base (fun k => k ≠ g) (.slice A2 (m + 3) c2) (B ++ [0, 0, 0])) ∧ Aside0 (Below base w wc))
  case first =>
    go_wp2
    go_meet
    case rel =>
      refine ⟨⟨?_⟩, ⟨Kd.R_keep HR3.out (KeepBut.set_ (KeepBut.set_ (KeepBut.set_ (KeepBut.set_ (KeepBut.set_ (KeepBut.set_ (KeepBut.set_ (KeepBut.set_ (KeepBut.set_ (KeepBut.set_ (KeepBut.refl w2 g none) 0 _) 0 _) 1 _) 2 _) 3 _) 4 _) 5 _) 6 _) 7 _) 8 _) (fun k hk => hk)⟩, ⟨Below.setCell (Below.setCell (Below.setCell (Below.setCell (Below.setCell (Below.setCell (Below.setCell (Below.setCell (Below.setCell (Below.setCell HB2.out (p := ⟨g, 0, none⟩) hbase _) (p := ⟨g, 0, none⟩) hbase _) (p := ⟨g, 1, none⟩) hbase _) (p := ⟨g, 2, none⟩) hbase _) (p := ⟨g, 3, none⟩) hbase _) (p := ⟨g, 4, none⟩) hbase _) (p := ⟨g, 5, none⟩) hbase _) (p := ⟨g, 6, none⟩) hbase _) (p := ⟨g, 7, none⟩) hbase _) (p := ⟨g, 8, none⟩) hbase _⟩⟩
      have h := blk_set (blk_set (blk_set (blk_set (blk_set (blk_set (blk_set (blk_set (blk_set (blk_set HG2.out 0 (.slice A2 (m + 3) c2)) 0 (.slice A2 (m + 3) c2)) 1 (.int .i64 (m : Int))) 2 (.int .i64 3)) 3 (.int .i64 0)) 4 (.int .u32 16777216)) 5 (.int .u32 0)) 6 (.int .u64 0)) 7 (.int .i64 0)) 8 (.int .i64 (m : Int))
      simpa using h
  case rest =>
    clear HG HR HB HR1 HB1 HG1 HSZ1 HLT1 HR2 HB2 HG2 HR3 hd hq0 hq1 hq2 hq3 hq4 hq5 hq6 hq7 hq8 hf0 hc0'
    obtain ⟨HG, HR, HB⟩ := hcut
    have hB0 := Rd.by_in HBy.out 0
    have hB1 := Rd.by_in HBy.out 1
    have hB2 := Rd.by_in HBy.out 2
    have H0 : Aside0 (SwAt base wc g B ⟨3, 0, 16777216, 0⟩ 0) := ⟨⟨A2, c2, by rw [HM.out]; exact HG.out, hbase, by rw [HM.out]; exact HR.out⟩⟩
    obtain ⟨gb, c3, hg3, hne3, _, hR3, hrow⟩ := H0.out.own m HM.out
    have hA : A2 = some ⟨gb, 0, none⟩ ∧ c2 = c3 := by
      have h := HG.out.symm.trans hg3
      injection h with h
      injection h with h
      have h1 := congrArg (fun a : Array Value => a[0]?) h
      simp only [List.getElem?_toArray, List.getElem?_cons_zero, Option.some.injEq, Value.slice.injEq] at h1
      exact ⟨h1.1, h1.2.2⟩
    obtain ⟨rfl, rfl⟩ := hA
    have r0 := hrow 0 (by omega)
    have r1 := hrow 1 (by omega)
    have r2 := hrow 2 (by omega)
    obtain ⟨y0, hy0⟩ : ∃ y, by_ B 0 = y := ⟨_, rfl⟩
    obtain ⟨y1, hy1⟩ : ∃ y, by_ B 1 = y := ⟨_, rfl⟩
    obtain ⟨y2, hy2⟩ : ∃ y, by_ B 2 = y := ⟨_, rfl⟩
    rw [hy0] at r0 hB0
    rw [hy1] at r1 hB1
    rw [hy2] at r2 hB2
    have HNEW : Aside0 (Rd.new B = ⟨3, 0, 16777216, y0 * 65536 + y1 * 256 + y2⟩) := ⟨by unfold Rd.new; rw [hy0, hy1, hy2]⟩
    have hc0 : wc.cell? ⟨g, 0, none⟩ = some (.slice (some ⟨gb, 0, none⟩) (m + 3) c2) := (blk_cell HG.out 0).trans rfl
    have hc5 : wc.cell? ⟨g, 5, none⟩ = some (.int .u32 0) := (blk_cell HG.out 5).trans rfl
    have hf5 := blk_frozen HG.out 5
    have u0 : IntKind.u32.wrap y0 = y0 := by rw [wrap_u32]; omega
    have u1 : IntKind.u32.wrap y1 = y1 := by rw [wrap_u32]; omega
    have u2 : IntKind.u32.wrap y2 = y2 := by rw [wrap_u32]; omega
    have u3 : IntKind.u32.wrap (y0 * 65536) = y0 * 65536 := by rw [wrap_u32]; omega
    have u4 : IntKind.u32.wrap (y1 * 256) = y1 * 256 := by rw [wrap_u32]; omega
    have u5 : bits .or .u32 (y0 * 65536) (y1 * 256) = y0 * 65536 + y1 * 256 := or_small (i := 16) (by decide) hB0.1 (by simp only [Int.reducePow]; omega) (by omega) (by simp only [Int.reducePow]; omega)
    have u6 : bits .or .u32 (y0 * 65536 + y1 * 256) y2 = y0 * 65536 + y1 * 256 + y2 := by
      have h := or_small (v := y0 * 256 + y1) (x := y2) (i := 8) (by decide) (by omega) (by simp only [Int.reducePow]; omega) hB2.1 (by simp only [Int.reducePow]; omega)
      simp only [Int.reducePow] at h
      rw [show (y0 * 256 + y1) * 256 = y0 * 65536 + y1 * 256 by omega] at h
      exact h
    have m3 : (0 : Int) < (m : Int) + 3 := by omega
    have m4 : (1 : Int) < (m : Int) + 3 := by omega
    have m5 : (2 : Int) < (m : Int) + 3 := by omega
    clear hg3 hne3 hR3 hrow hy0 hy1 hy2 hB0 hB1 hB2
    go_wp2
    go_region
    all_goals (
      go_wp2
      first | go_end0 | ((try simp only [Exit.inBlock, Exit.then]); refine bodyPost_ret (results_none rfl _ _ _) rfl ?_)
      refine ⟨rfl, ?_, ?_⟩
      · rw [HNEW.out]
        exact (H0.out.set_val _).below (by repeat (first | exact Below.refl _ _ | apply below_drew1 | apply pw_below_drewN))
      · repeat (first | exact Below.setCell HB.out (p := ⟨g, 5, none⟩) hbase _ | apply below_drew1 | apply pw_below_drewN))
set_option maxHeartbeats 2000000 in
set_option maxRecDepth 100000 in
theorem reset_own (base g : Nat) (B : List Int) (hB : Bytes B) (m : Nat) (hm : B.length = m) (hl : m ≤ 10000) (A0 : Option Addr) (c0 : Nat) (gz n9 c9 : Nat) (x1 x2 x3 x4 x5 x6 x7 x8 : Int) (w : World) (hbase : base ≤ g)
    (hg : w.heap[g]? = some (.cells #[.slice (some ⟨gz, 0, none⟩) n9 c9, .int .i64 x1, .int .i64 x2, .int .i64 x3, .int .u32 x4, .int .u32 x5, .int .u64 x6, .int .i64 x7, .int .i64 x8] 59 (0, 0))) (hC : Kd.C (Kd.int .u8) w A0 m B) (hc : m ≤ c0) (hR9 : Kd.R (Kd.int .u8) 5 w base (fun k => k ≠ g) (.slice (some ⟨gz, 0, none⟩) 0 c9) []) :
    Calls Tryd.prog 21 #[.pointer (some ⟨g, 0, none⟩), .slice A0 m c0] w fun e w' => e = .returned (.tuple #[]) ∧ SwAt base w' g B (Rd.new B) 0 ∧ Below base w w' := by
  have HM := Aside0.mk hm
  have HBy := Aside0.mk hB
  have HC := Aside0.mk hC
  have HB := Aside0.mk (Below.refl base w)
  have HG := Aside0.mk hg
  have HR := Aside0.mk hR9
  have hlt := blk_lt hg
  have hsz : base ≤ w.heap.size := by omega
  have hf0 := blk_frozen hg 0
  have hc0' : w.cell? ⟨g, 0, none⟩ = some (.slice (some ⟨gz, 0, none⟩) n9 c9) := (blk_cell hg 0).trans rfl
  have HLT := Aside0.mk hlt
  have HSZ := Aside0.mk hsz
  have hu59 := Tryd.underlying59
  clear hm hB hC hg hR9 hlt hsz
  go_enter Tryd.func21, Tryd.ntmps21
  go_upto_region 1 with (first
    | ((with_reducible refine gate_builtin (b := .append) (xs := #[.tmp 9, .tmp 10]) rfl ?_); at_builtin; refine Kd.R_append_row (Value.int .u8) (0 : Int) (h1 := fun _ => rfl) (w0 := w) base rfl (.tmp 9) (.tmp 10) 22 5 (.int .u8 0) 1 rfl Tryd.underlying22 infoE rfl (by decide) (.slice (some ⟨gz, 0, none⟩) 0 c9) [] B A0 m c0 (fun k => k ≠ g) rfl rfl (fun k hk => by have := HLT.out; omega) HR.out HC.out HB.out HSZ.out (by simp [HM.out]; omega) ?_; intro v1 w1 hR hb2 hgr hat; have HR1 : Aside0 (Kd.R (Kd.int .u8) 5 w1 base (fun k => k ≠ g) v1 B) := ⟨hR⟩; have HB1 := Aside0.mk hb2; have HG1 := Aside0.mk (blk_grown HG.out hgr (fun e => (Kd.R_ne HR.out HG.out (by decide)) e)); have HSZ1 := Aside0.mk (Nat.le_trans HSZ.out hgr.size); have HLT1 := Aside0.mk (blk_lt HG1.out); clear hR hb2 hgr hat)
    | ((with_reducible refine gate_builtin (b := .append) (xs := #[.tmp 11, .const (.int .i64 3)]) rfl ?_); at_builtin; refine Kd.R_append_zeros (Kd.int .u8) (w0 := w) base rfl (.tmp 11) (.const (.int .i64 3)) 22 3 5 (.int .u8 0) 1 rfl Tryd.underlying22 Tryd.underlying3 infoE rfl (by decide) (by decide) v1 B (0 : Int) 3 (fun k => k ≠ g) rfl rfl rfl (fun k hk => by have := HLT1.out; omega) HR1.out (by decide) HB1.out HSZ1.out (by simp [HM.out]; omega) ?_; intro v2 w2 hR2 hb2 hgr hat; obtain ⟨A2, c2, rfl⟩ := Kd.R_slice hR2; rw [show (B ++ List.replicate (Int.toNat 3) (0 : Int)).length = m + 3 by simp [HM.out]] at hR2 ⊢; have HR2 := Aside0.mk hR2; have HB2 := Aside0.mk hb2; have HG2 := Aside0.mk (blk_grown HG1.out hgr (fun e => (Kd.R_ne HR1.out HG1.out (by decide)) e)); have hf0 := blk_frozen HG2.out 0; have hq0 : w2.cell? ⟨g, 0, none⟩ = some (.slice (some ⟨gz, 0, none⟩) n9 c9) := (blk_cell HG2.out 0).trans rfl; clear hR2 hb2 hgr hat))
  have HMB : Aside0 ((B ++ ([0, 0, 0] : List Int) : List Int).length = m + 3) := ⟨by simp [HM.out]⟩
  have HR3 : Aside0 (Kd.R (Kd.int .u8) 5 w2 base (fun k => k ≠ g) (.slice A2 (m + 3) c2) (B ++ [0, 0, 0])) := ⟨HR2.out⟩
  have hd : ∀ k, w2.frozen? ⟨g, k, none⟩ = false := fun k => blk_frozen HG2.out k
  have hq1 : w2.cell? ⟨g, 1, none⟩ = some (.int .i64 x1) := (blk_cell HG2.out 1).trans rfl
  have hq2 : w2.cell? ⟨g, 2, none⟩ = some (.int .i64 x2) := (blk_cell HG2.out 2).trans rfl
  have hq3 : w2.cell? ⟨g, 3, none⟩ = some (.int .i64 x3) := (blk_cell HG2.out 3).trans rfl
  have hq4 : w2.cell? ⟨g, 4, none⟩ = some (.int .u32 x4) := (blk_cell HG2.out 4).trans rfl
  have hq5 : w2.cell? ⟨g, 5, none⟩ = some (.int .u32 x5) := (blk_cell HG2.out 5).trans rfl
  have hq6 : w2.cell? ⟨g, 6, none⟩ = some (.int .u64 x6) := (blk_cell HG2.out 6).trans rfl
  have hq7 : w2.cell? ⟨g, 7, none⟩ = some (.int .i64 x7) := (blk_cell HG2.out 7).trans rfl
  have hq8 : w2.cell? ⟨g, 8, none⟩ = some (.int .i64 x8) := (blk_cell HG2.out 8).trans rfl
  go_cut [] from 15 (fun wc => Aside0 (wc.heap[g]? = some (.cells #[.slice A2 (m + 3) c2, .int .i64 m, .int .i64 3, .int .i64 0, .int .u32 16777216, .int .u32 0, .int .u64 0, .int .i64 0, .int .i64 m] 59 (0, 0))) ∧ Aside0 (Kd.R (Kd.int .u8) 5 wc base (fun k => k ≠ g) (.slice A2 (m + 3) c2) (B ++ [0, 0, 0])) ∧ Aside0 (Below base w wc))
  case first =>
    go_wp2
    go_meet
    case rel =>
      refine ⟨⟨?_⟩, ⟨Kd.R_keep HR3.out (KeepBut.set_ (KeepBut.set_ (KeepBut.set_ (KeepBut.set_ (KeepBut.set_ (KeepBut.set_ (KeepBut.set_ (KeepBut.set_ (KeepBut.set_ (KeepBut.set_ (KeepBut.refl w2 g none) 0 _) 0 _) 1 _) 2 _) 3 _) 4 _) 5 _) 6 _) 7 _) 8 _) (fun k hk => hk)⟩, ⟨Below.setCell (Below.setCell (Below.setCell (Below.setCell (Below.setCell (Below.setCell (Below.setCell (Below.setCell (Below.setCell (Below.setCell HB2.out (p := ⟨g, 0, none⟩) hbase _) (p := ⟨g, 0, none⟩) hbase _) (p := ⟨g, 1, none⟩) hbase _) (p := ⟨g, 2, none⟩) hbase _) (p := ⟨g, 3, none⟩) hbase _) (p := ⟨g, 4, none⟩) hbase _) (p := ⟨g, 5, none⟩) hbase _) (p := ⟨g, 6, none⟩) hbase _) (p := ⟨g, 7, none⟩) hbase _) (p := ⟨g, 8, none⟩) hbase _⟩⟩
      have h := blk_set (blk_set (blk_set (blk_set (blk_set (blk_set (blk_set (blk_set (blk_set (blk_set HG2.out 0 (.slice A2 (m + 3) c2)) 0 (.slice A2 (m + 3) c2)) 1 (.int .i64 (m : Int))) 2 (.int .i64 3)) 3 (.int .i64 0)) 4 (.int .u32 16777216)) 5 (.int .u32 0)) 6 (.int .u64 0)) 7 (.int .i64 0)) 8 (.int .i64 (m : Int))
      simpa using h
  case rest =>
    clear HG HR HB HR1 HB1 HG1 HSZ1 HLT1 HR2 HB2 HG2 HR3 hd hq0 hq1 hq2 hq3 hq4 hq5 hq6 hq7 hq8 hf0 hc0'
    obtain ⟨HG, HR, HB⟩ := hcut
    have hB0 := Rd.by_in HBy.out 0
    have hB1 := Rd.by_in HBy.out 1
    have hB2 := Rd.by_in HBy.out 2
    have H0 : Aside0 (SwAt base wc g B ⟨3, 0, 16777216, 0⟩ 0) := ⟨⟨A2, c2, by rw [HM.out]; exact HG.out, hbase, by rw [HM.out]; exact HR.out⟩⟩
    obtain ⟨gb, c3, hg3, hne3, _, hR3, hrow⟩ := H0.out.own m HM.out
    have hA : A2 = some ⟨gb, 0, none⟩ ∧ c2 = c3 := by
      have h := HG.out.symm.trans hg3
      injection h with h
      injection h with h
      have h1 := congrArg (fun a : Array Value => a[0]?) h
      simp only [List.getElem?_toArray, List.getElem?_cons_zero, Option.some.injEq, Value.slice.injEq] at h1
      exact ⟨h1.1, h1.2.2⟩
    obtain ⟨rfl, rfl⟩ := hA
    have r0 := hrow 0 (by omega)
    have r1 := hrow 1 (by omega)
    have r2 := hrow 2 (by omega)
    obtain ⟨y0, hy0⟩ : ∃ y, by_ B 0 = y := ⟨_, rfl⟩
    obtain ⟨y1, hy1⟩ : ∃ y, by_ B 1 = y := ⟨_, rfl⟩
    obtain ⟨y2, hy2⟩ : ∃ y, by_ B 2 = y := ⟨_, rfl⟩
    rw [hy0] at r0 hB0
    rw [hy1] at r1 hB1
    rw [hy2] at r2 hB2
    have HNEW : Aside0 (Rd.new B = ⟨3, 0, 16777216, y0 * 65536 + y1 * 256 + y2⟩) := ⟨by unfold Rd.new; rw [hy0, hy1, hy2]⟩
    have hc0 : wc.cell? ⟨g, 0, none⟩ = some (.slice (some ⟨gb, 0, none⟩) (m + 3) c2) := (blk_cell HG.out 0).trans rfl
    have hc5 : wc.cell? ⟨g, 5, none⟩ = some (.int .u32 0) := (blk_cell HG.out 5).trans rfl
    have hf5 := blk_frozen HG.out 5
    have u0 : IntKind.u32.wrap y0 = y0 := by rw [wrap_u32]; omega
    have u1 : IntKind.u32.wrap y1 = y1 := by rw [wrap_u32]; omega
    have u2 : IntKind.u32.wrap y2 = y2 := by rw [wrap_u32]; omega
    have u3 : IntKind.u32.wrap (y0 * 65536) = y0 * 65536 := by rw [wrap_u32]; omega
    have u4 : IntKind.u32.wrap (y1 * 256) = y1 * 256 := by rw [wrap_u32]; omega
    have u5 : bits .or .u32 (y0 * 65536) (y1 * 256) = y0 * 65536 + y1 * 256 := or_small (i := 16) (by decide) hB0.1 (by simp only [Int.reducePow]; omega) (by omega) (by simp only [Int.reducePow]; omega)
    have u6 : bits .or .u32 (y0 * 65536 + y1 * 256) y2 = y0 * 65536 + y1 * 256 + y2 := by
      have h := or_small (v := y0 * 256 + y1) (x := y2) (i := 8) (by decide) (by omega) (by simp only [Int.reducePow]; omega) hB2.1 (by simp only [Int.reducePow]; omega)
      simp only [Int.reducePow] at h
      rw [show (y0 * 256 + y1) * 256 = y0 * 65536 + y1 * 256 by omega] at h
      exact h
    have m3 : (0 : Int) < (m : Int) + 3 := by omega
    have m4 : (1 : Int) < (m : Int) + 3 := by omega
    have m5 : (2 : Int) < (m : Int) + 3 := by omega
    clear hg3 hne3 hR3 hrow hy0 hy1 hy2 hB0 hB1 hB2
    go_wp2
    go_region
    all_goals (
      go_wp2
      first | go_end0 | ((try simp only [Exit.inBlock, Exit.then]); refine bodyPost_ret (results_none rfl _ _ _) rfl ?_)
      refine ⟨rfl, ?_, ?_⟩
      · rw [HNEW.out]
        exact (H0.out.set_val _).below (by repeat (first | exact Below.refl _ _ | apply below_drew1 | apply pw_below_drewN))
      · repeat (first | exact Below.setCell HB.out (p := ⟨g, 5, none⟩) hbase _ | apply below_drew1 | apply pw_below_drewN))
end Go.Proofs.YtdfgoahfaebooaaDoor.SwWalk
