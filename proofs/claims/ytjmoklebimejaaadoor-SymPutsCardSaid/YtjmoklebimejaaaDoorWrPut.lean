import Derived.Test.YtjmoklebimejaaaDoorWrWalk
namespace Go.Proofs.YtjmoklebimejaaaDoor.WrWalk
open Go.RowKit Go.Proofs.YtjmoklebimejaaaDoorW.PrintWords Go.Proofs.YtjmoklebimejaaaDoorW.PrintLast Go.Proofs.YtjmoklebimejaaaDoorW.PrintMore
open Go.Proofs.YtjmoklebimejaaaDoor.Wr (St dig crow)
attribute [local go_sem] max2_int min2_int max_two min_two max_three min_three max_four min_four   -- for this text's walks alone
set_option linter.unusedVariables false
set_option linter.unusedSimpArgs false
theorem and_u32 (x : Int) (i : Nat) (hi : i ≤ 32) (h0 : 0 ≤ x) (h1 : x < 4294967296) : bits .and .u32 x (2 ^ i - 1) = x % 2 ^ i := by
  have hpos : 0 < 2 ^ i := Nat.two_pow_pos i
  have hle : 2 ^ i ≤ 2 ^ 32 := Nat.pow_le_pow_right (by decide) hi
  have hle' : 2 ^ i ≤ 4294967296 := hle
  obtain ⟨a, rfl⟩ := Int.eq_ofNat_of_zero_le h0
  have hc : ((2 : Int) ^ i - 1) = ((2 ^ i - 1 : Nat) : Int) := by rw [Int.natCast_sub hpos, Int.natCast_pow]; rfl
  have key : ((BitVec.ofInt 32 (a : Int)) &&& (BitVec.ofInt 32 ((2 : Int) ^ i - 1))).toNat = a % 2 ^ i := by
    rw [BitVec.toNat_and, hc, BitVec.ofInt_natCast, BitVec.ofInt_natCast, BitVec.toNat_ofNat, BitVec.toNat_ofNat, Nat.mod_eq_of_lt (by omega), Nat.mod_eq_of_lt (by omega), Nat.and_two_pow_sub_one_eq_mod]
  show IntKind.u32.wrap (((BitVec.ofInt 32 (a : Int)) &&& (BitVec.ofInt 32 ((2 : Int) ^ i - 1))).toNat) = _
  have h2 : a % 2 ^ i ≤ a := Nat.mod_le _ _
  rw [key, wrap_u32, Int.natCast_emod, Int.natCast_pow]
  rw [Int.emod_eq_of_lt]
  · rfl
  · exact Int.emod_nonneg _ (by have := Int.pow_pos (n := 2) (m := i) (by decide); omega)
  · have : ((a % 2 ^ i : Nat) : Int) ≤ a := by omega
    rw [Int.natCast_emod, Int.natCast_pow] at this
    exact Int.lt_of_le_of_lt this (by omega)
/-- A writer, told by what was put. -/
def WrAt (ok : Nat → Prop) (w : World) (g : Nat) (sz : Int) (s : St) (R : List Bool) : Prop := WrB ok w g sz s.g (s.V % 16777216) (dig (s.V / 16777216) s.m) R
theorem stp_dig {s : St} : dig ((Wr.stp s).V / 16777216) (Wr.stp s).m = dig (s.V / 16777216) s.m ++ [s.V % 16777216 / 65536] := by
  rw [Wr.dig_app _ _ _ (by omega) (by omega)]
  simp only [Wr.stp]
  congr 1
  omega
theorem stp_low {s : St} : (Wr.stp s).V % 16777216 = s.V % 16777216 % 65536 * 256 := by
  simp only [Wr.stp]
  omega
theorem step_ge {s : St} (h : 16 ≤ s.g) : 65536 < (Wr.step (Wr.step s)).g := by
  have h1 : ∀ s : St, (Wr.step s).g = if s.g ≤ 65536 then s.g * 256 else s.g := fun s => by unfold Wr.step; split <;> rfl
  rw [h1, h1]
  by_cases a : s.g ≤ 65536
  · rw [if_pos a]
    split <;> omega
  · rw [if_neg a, if_neg a]
    omega
theorem step_id {s : St} (h : 65536 < s.g) : Wr.step s = s := by unfold Wr.step; rw [if_neg (by omega)]
theorem step_stp {s : St} (h0 : 16 ≤ s.g) (h : s.g ≤ 65536) : Wr.step (Wr.step (Wr.stp s)) = Wr.step (Wr.step s) := by
  have e : Wr.step s = Wr.stp s := by unfold Wr.step; rw [if_pos h]
  rw [← e]
  exact step_id (step_ge h0)
section
variable {ok : Nat → Prop} {w w1 : World} {g : Nat} {sz rg lo : Int} {bs : List Int} {R : List Bool}
/-- A byte was appended: its row goes into the writer. -/
theorem WrB.push {vb vr v1 : Value} {d : Int} (hg : w.heap[g]? = some (.cells #[.int .i64 sz, .int .u32 rg, .int .u32 lo, vb, vr] 65 (0, 0))) (ho : ok g) (h1 : Kd.R (Kd.int .u8) 5 w 0 (fun k => ok k ∧ k ≠ g) vb bs) (h2 : Kd.R Kd.bool 4 w 0 (fun k => ok k ∧ k ≠ g) vr R) (hR : Kd.R (Kd.int .u8) 5 w1 0 (fun k => ok k ∧ k ≠ g) v1 (bs ++ [d])) (hgr : w.grownBy w1 vb.ownBlock) :
    WrB ok (w1.setCell ⟨g, 3, none⟩ v1) g sz rg lo (bs ++ [d]) R ∧ w1.heap[g]? = some (.cells #[.int .i64 sz, .int .u32 rg, .int .u32 lo, vb, vr] 65 (0, 0)) := by
  have hg1 : w1.heap[g]? = some (.cells #[.int .i64 sz, .int .u32 rg, .int .u32 lo, vb, vr] 65 (0, 0)) := blk_grown hg hgr (fun e => Kd.R_ne h1 hg (by decide) e)
  refine ⟨⟨v1, vr, by simpa using blk_set hg1 3 v1, ho, Kd.R_far hR (fun k hk => hk.2) _, Kd.R_far ?_ (fun k hk => hk.2) _⟩, hg1⟩
  exact Kd.R_over h2 h1 (fun q hq => by rcases List.mem_cons.1 hq with h | h; exact h ▸ (by decide); exact nomatch (show q ∈ ([] : List Nat) from h)) hgr
/-- A bit was appended. -/
theorem WrB.pushR {vb vr v1 : Value} {d : Bool} (hg : w.heap[g]? = some (.cells #[.int .i64 sz, .int .u32 rg, .int .u32 lo, vb, vr] 65 (0, 0))) (ho : ok g) (h1 : Kd.R (Kd.int .u8) 5 w 0 (fun k => ok k ∧ k ≠ g) vb bs) (h2 : Kd.R Kd.bool 4 w 0 (fun k => ok k ∧ k ≠ g) vr R) (hR : Kd.R Kd.bool 4 w1 0 (fun k => ok k ∧ k ≠ g) v1 (R ++ [d])) (hgr : w.grownBy w1 vr.ownBlock) :
    WrB ok (w1.setCell ⟨g, 4, none⟩ v1) g sz rg lo bs (R ++ [d]) ∧ w1.heap[g]? = some (.cells #[.int .i64 sz, .int .u32 rg, .int .u32 lo, vb, vr] 65 (0, 0)) := by
  have hg1 : w1.heap[g]? = some (.cells #[.int .i64 sz, .int .u32 rg, .int .u32 lo, vb, vr] 65 (0, 0)) := blk_grown hg hgr (fun e => Kd.R_ne h2 hg (by decide) e)
  refine ⟨⟨vb, v1, by simpa using blk_set hg1 4 v1, ho, Kd.R_far ?_ (fun k hk => hk.2) _, Kd.R_far hR (fun k hk => hk.2) _⟩, hg1⟩
  exact Kd.R_over h1 h2 (fun q hq => by rcases List.mem_cons.1 hq with h | h; exact h ▸ (by decide); exact nomatch (show q ∈ ([] : List Nat) from h)) hgr
end
theorem info8 : (Tryd.prog.info? 5).map (fun i => (i.zero, i.size, i.bytes)) = some (some (.int .u8 0), 1, 1) := by kernel_rfl
theorem infoB : (Tryd.prog.info? 4).map (fun i => (i.zero, i.size, i.bytes)) = some (some (.bool false), 1, 1) := by kernel_rfl
theorem alloc_drew (w : World) (o : Obj) : (w.alloc o).drew = w.drew.alloc o := rfl
theorem grown_drew {w w2 : World} {row : Option Nat} (h : w.drew.grownBy w2 row) : w.grownBy w2 row := ⟨h.os, h.tape, h.output, h.size, h.block⟩
def rgOf (w : World) (g : Nat) : Int := intOf ((w.cell? ⟨g, 1, none⟩).getD undef)
theorem rgOf_is {ok : Nat → Prop} {w : World} {g : Nat} {sz rg lo : Int} {bs : List Int} {R : List Bool} (H : WrB ok w g sz rg lo bs R) : rgOf w g = rg := by
  unfold rgOf; rw [H.cells.2.1]; rfl
set_option maxHeartbeats 2000000 in
set_option maxRecDepth 100000 in
theorem put_tt (ok : Nat → Prop) (g m : Nat) (sz G lo W a b n p o l1 l2 r1 : Int) (R : List Bool) (fin : St) (w : World) (hm : m ≤ 900) (hfr : ∀ k, w.heap.size ≤ k → ok k) (H : WrB ok w g sz G lo (dig W m) R)
    (d1 : decide (a < 0) = false) (d2 : decide (b ≤ a) = false) (d3 : decide (n < b) = false) (d4 : decide ((4096 : Int) < n) = false) (d5 : (b == n) = true) (hn0 : ¬ n = 0)
    (e1 : IntKind.u32.wrap n = n) (e2 : IntKind.u32.wrap (G.tdiv n) = p) (e3 : IntKind.u32.wrap a = a) (e4 : IntKind.u32.wrap (a * p) = o) (e5 : IntKind.u32.wrap (lo + o) = l1) (e10 : wrap64 (b - a) = b - a) (e6 : IntKind.u32.wrap (G - o) = r1) (e8 : decide ((16777216 : Int) ≤ l1) = true) (e9 : IntKind.u32.wrap (l1 - 16777216) = l2)
    (hW : 0 ≤ W ∧ W + 1 < 256 ^ m) (hV : 0 ≤ W + 1 ∧ 0 ≤ l2 ∧ l2 < 16777216 ∧ 16 ≤ r1 ∧ r1 ≤ 16777216) (hfin : fin = Wr.step (Wr.step ⟨m, (W + 1) * 16777216 + l2, r1⟩)) :
    Calls Tryd.prog 67 #[.pointer (some ⟨g, 0, none⟩), .int .i64 a, .int .i64 b, .int .i64 n] w fun e w' => e = .returned (.int .i64 0) ∧ WrAt ok w' g sz fin R ∧ Foot ok w w' := by
  have HL0 := Aside0.mk H
  have HFR := Aside0.mk hfr
  have HV := Aside0.mk hV
  have HFIN := Aside0.mk hfin
  obtain ⟨_, hc1, hc2, _⟩ := H.cells
  have hf1 := H.frozen 1
  have hf2 := H.frozen 2
  have HLF := Aside0.mk (Foot.refl ok w)
  have HC : Aside0 (∀ w, WrB ok w g sz r1 l2 (dig W m) R → Calls Tryd.prog 69 #[.pointer (some ⟨g, 0, none⟩)] w fun e w' => e = .returned (.tuple #[]) ∧ WrB ok w' g sz r1 l2 (dig (W + 1) m) R ∧ Foot ok w w') := ⟨fun w H => carry_bs ok g sz r1 l2 W m R w H (by omega) hW.1 hW.2⟩
  have HOG := Aside0.mk H.okg
  clear H hfr hV hfin hW
  go_enter Tryd.func67, Tryd.ntmps67
  go_wp2_with (go_at_call 69; (with_reducible refine (HC.out _ (by first | exact ((HL0.out.set2 l1).set1 r1).set2 l2 | exact (((HL0.out.set2 l1).set1 r1).set2 l2).drew | exact ((((HL0.out.set2 l1).set1 r1).set2 l2).drew).drew)).mono ?_); rintro e w1 ⟨rfl, hI, hf⟩; have HI := Aside0.mk hI; have HF1 := Aside0.mk ((by repeat (first | exact Foot.refl ok w | apply Foot.drew | (refine Foot.set_ ?_ (p := ⟨g, _, none⟩) HOG.out _)) : Foot ok w _).trans hf); clear hI hf)
  have HS0 : Aside0 (WrAt ok w1 g sz ⟨m, (W + 1) * 16777216 + l2, r1⟩ R) := ⟨by
    have h := HV.out
    unfold WrAt
    simp only
    rw [show ((W + 1) * 16777216 + l2) % 16777216 = l2 by omega, show ((W + 1) * 16777216 + l2) / 16777216 = W + 1 by omega]
    exact HI.out⟩
  have HS1 : Aside0 (16 ≤ (⟨m, (W + 1) * 16777216 + l2, r1⟩ : St).g ∧ (⟨m, (W + 1) * 16777216 + l2, r1⟩ : St).g ≤ 16777216 ∧ Wr.step (Wr.step (⟨m, (W + 1) * 16777216 + l2, r1⟩ : St)) = fin ∧ fin.m ≤ 902) := ⟨HV.out.2.2.2.1, HV.out.2.2.2.2, HFIN.out.symm, by
    have h1 := (Wr.step_m (⟨m, (W + 1) * 16777216 + l2, r1⟩ : St)).2
    have h2 := (Wr.step_m (Wr.step (⟨m, (W + 1) * 16777216 + l2, r1⟩ : St))).2
    rw [HFIN.out]
    simp only at h1
    omega⟩
  skip
  clear HI HC HL0 hc1 hc2 hf1 hf2 HLF HV HFIN d1 d2 d3 d4 e1 e2 e3 e4 e5 e6 e9 e10
  go_loopw [] (fun wr => ∃ s : St, Aside0 (WrAt ok wr g sz s R) ∧ Aside0 (16 ≤ s.g ∧ s.g ≤ 16777216 ∧ Wr.step (Wr.step s) = fin ∧ fin.m ≤ 902) ∧ Aside0 (Foot ok w wr)) (fun wr => (65537 - rgOf wr g).toNat)
  case atStart => exact ⟨_, HS0, HS1, HF1⟩
  case round =>
    obtain ⟨s, HA, HS, HF⟩ := hrel
    clear HS0 HS1 HF1
    obtain ⟨G1, hG1⟩ : ∃ x, s.g = x := ⟨_, rfl⟩
    have hc1 : wr.cell? ⟨g, 1, none⟩ = some (.int .u32 G1) := hG1 ▸ HA.out.cells.2.1
    have hr1 : rgOf wr g = G1 := hG1 ▸ rgOf_is HA.out
    have hg16 : 16 ≤ G1 ∧ G1 ≤ 16777216 := by have := HS.out; omega
    by_cases hle : G1 ≤ 65536
    · have hmm : s.m + 1 ≤ 902 := by
        have h := HS.out
        have e : Wr.step s = Wr.stp s := by unfold Wr.step; rw [if_pos (by omega)]
        have h1 := (Wr.step_m (Wr.step s)).1
        have h2 : (Wr.step s).m = s.m + 1 := by rw [e]; rfl
        have h3 : (Wr.step (Wr.step s)).m ≤ 902 := by rw [h.2.2.1]; exact h.2.2.2
        omega
      have HS' : Aside0 (16 ≤ (Wr.stp s).g ∧ (Wr.stp s).g ≤ 16777216 ∧ Wr.step (Wr.step (Wr.stp s)) = fin ∧ fin.m ≤ 902) := ⟨by simp only [Wr.stp]; omega, by simp only [Wr.stp]; omega, by rw [step_stp (by omega) (by omega)]; exact HS.out.2.2.1, HS.out.2.2.2⟩
      obtain ⟨X, hX⟩ : ∃ x, s.V % 16777216 = x := ⟨_, rfl⟩
      obtain ⟨bs, hbs⟩ : ∃ x, dig (s.V / 16777216) s.m = x := ⟨_, rfl⟩
      have hbl : bs.length = s.m := by rw [← hbs, Wr.dig_len]
      have hX0 : 0 ≤ X ∧ X < 16777216 := by omega
      have hnew : ∀ w2 : World, WrB ok w2 g sz (G1 * 256) (X % 65536 * 256) (bs ++ [X / 65536]) R → WrAt ok w2 g sz (Wr.stp s) R := fun w2 h => by
        unfold WrAt
        rw [stp_dig, stp_low, hbs, hX, show (Wr.stp s).g = G1 * 256 by simp only [Wr.stp]; rw [hG1]]
        exact h
      have HNEW := Aside0.mk hnew
      have hA := HA.out
      unfold WrAt at hA
      rw [hG1, hX, hbs] at hA
      obtain ⟨vb, vr, hg, ho, h1, h2⟩ := hA
      obtain ⟨A3, c3, rfl⟩ := Kd.R_slice h1
      obtain ⟨mm, hmm2⟩ : ∃ x, bs.length = x := ⟨_, rfl⟩
      rw [hmm2] at h1 hg
      have hc2 : wr.cell? ⟨g, 2, none⟩ = some (.int .u32 X) := (blk_cell hg 2).trans rfl
      have hc3 : wr.cell? ⟨g, 3, none⟩ = some (.slice A3 mm c3) := (blk_cell hg 3).trans rfl
      have hf1 := blk_frozen hg 1
      have hf2 := blk_frozen hg 2
      have hf3 := blk_frozen hg 3
      have HG := Aside0.mk hg
      have HR1 := Aside0.mk h1
      have HR2 := Aside0.mk h2
      have HFR2 : Aside0 (∀ k, wr.heap.size ≤ k → ok k ∧ k ≠ g) := ⟨fun k hk => ⟨HFR.out k (Nat.le_trans HF.out.b.size hk), by have := blk_lt hg; omega⟩⟩
      have HB0 := Aside0.mk (Below.refl 0 wr)
      have hmm3 : mm ≤ 902 := by omega
      have HML := Aside0.mk hmm2
      have HGL := Aside0.mk (And.intro hg16 hle)
      have HX0 := Aside0.mk hX0
      have u0 : IntKind.u8.wrap (X / 65536) = X / 65536 := by rw [show IntKind.u8.wrap (X / 65536) = (X / 65536) % 256 by simp [IntKind.wrap, IntKind.bits, IntKind.signed]]; omega
      have u1 : bits .and .u32 X 65535 = X % 65536 := and_u32 X 16 (by decide) hX0.1 (by omega)
      have u2 : IntKind.u32.wrap (X % 65536 * 256) = X % 65536 * 256 := by rw [wrap_u32]; omega
      have u3 : IntKind.u32.wrap (G1 * 256) = G1 * 256 := by rw [wrap_u32]; omega
      have hcA : (wr.alloc (.cells #[.int .u8 (X / 65536)] 5)).cell? ⟨g, 2, none⟩ = some (.int .u32 X) := (blk_cell (blk_alloc hg _) 2).trans rfl
      have hcB : (wr.alloc (.cells #[.int .u8 (X / 65536)] 5)).cell? ⟨g, 3, none⟩ = some (.slice A3 mm c3) := (blk_cell (blk_alloc hg _) 3).trans rfl
      clear HA HS hG1 hX hbs hbl hX0 hnew hg h1 h2 hmm hmm2 hg16
      go_upto_region 1 with (fail)
      go_region_law (first | ((try rw [alloc_drew]); refine Kd.R_append_step (Kd.int .u8) (w0 := wr) 0 (by rfl) (.tmp 90) (.tmp 97) 38 5 (.int .u8 0) 1 rfl Tryd.underlying38 info8 rfl (by decide) (by decide) (.slice A3 mm c3) bs (X / 65536) [.int .u8 (X / 65536)] (fun k => ok k ∧ k ≠ g) (fun _ => False) ?aX ?aY ?aP (fun _ hk => hk.elim) ?aF ?aO ?aB ?aS ?aL ?_; (case aX => exact rfl); (case aY => exact rfl); (case aP => exact rfl); (case aF => exact HFR2.out); (case aO => exact (by first | exact HR1.out | exact Kd.R_drew HR1.out)); (case aB => exact (by first | exact HB0.out | exact below_drew1 HB0.out)); (case aS => exact Nat.zero_le _); (case aL => rw [HML.out]; omega); intro v1 w2 hR hb2 hgr hat; have hgr := grown_drew hgr; obtain ⟨A2, c2, rfl⟩ := Kd.R_slice hR; rw [show (bs ++ [X / 65536]).length = bs.length + 1 from by simp] at hR; have HP := Aside0.mk (WrB.push HG.out HOG.out HR1.out HR2.out hR hgr); have HF2 := Aside0.mk (Foot.grown HF.out hb2 hgr (fun k hk => (HR1.out.1 k hk).1)); have hc1 : w2.cell? ⟨g, 1, none⟩ = some (.int .u32 G1) := (blk_cell HP.out.2 1).trans rfl; have hc2 : w2.cell? ⟨g, 2, none⟩ = some (.int .u32 X) := (blk_cell HP.out.2 2).trans rfl; have hc3 : w2.cell? ⟨g, 3, none⟩ = some (.slice A3 mm c3) := (blk_cell HP.out.2 3).trans rfl; have hf1 := blk_frozen HP.out.2 1; have hf2 := blk_frozen HP.out.2 2; have hf3 := blk_frozen HP.out.2 3; clear hR hb2 hgr hat))
      all_goals
        go_wp2
        have HN := Aside0.mk ((HP.out.1.set2 (X % 65536 * 256)).set1 (G1 * 256))
        go_roundw
        case rel => exact ⟨Wr.stp s, ⟨HNEW.out _ HN.out⟩, HS', ⟨Foot.set_ (Foot.set_ (Foot.set_ HF2.out (p := ⟨g, 3, none⟩) HOG.out _) (p := ⟨g, 2, none⟩) HOG.out _) (p := ⟨g, 1, none⟩) HOG.out _⟩⟩
        case measure =>
          rw [rgOf_is HN.out, hr1]
          have := HGL.out
          omega
    · have HE : Aside0 (WrAt ok wr g sz fin R) := ⟨by
        have h := HS.out
        have e : Wr.step s = s := step_id (by omega)
        rw [e, e] at h
        rw [← h.2.2.1]
        exact HA.out⟩
      clear HA HS hr1 hG1
      go_wp2
      go_ret
      exact ⟨rfl, HE.out, HF.out⟩
set_option maxHeartbeats 2000000 in
set_option maxRecDepth 100000 in
theorem put_ft (ok : Nat → Prop) (g m : Nat) (sz G lo W a b n p o l1 l2 r1 : Int) (R : List Bool) (fin : St) (w : World) (hm : m ≤ 900) (hfr : ∀ k, w.heap.size ≤ k → ok k) (H : WrB ok w g sz G lo (dig W m) R)
    (d1 : decide (a < 0) = false) (d2 : decide (b ≤ a) = false) (d3 : decide (n < b) = false) (d4 : decide ((4096 : Int) < n) = false) (d5 : (b == n) = false) (hn0 : ¬ n = 0)
    (e1 : IntKind.u32.wrap n = n) (e2 : IntKind.u32.wrap (G.tdiv n) = p) (e3 : IntKind.u32.wrap a = a) (e4 : IntKind.u32.wrap (a * p) = o) (e5 : IntKind.u32.wrap (lo + o) = l1) (e10 : wrap64 (b - a) = b - a) (e6 : IntKind.u32.wrap (b - a) = b - a) (e7 : IntKind.u32.wrap ((b - a) * p) = r1) (e8 : decide ((16777216 : Int) ≤ l1) = true) (e9 : IntKind.u32.wrap (l1 - 16777216) = l2)
    (hW : 0 ≤ W ∧ W + 1 < 256 ^ m) (hV : 0 ≤ W + 1 ∧ 0 ≤ l2 ∧ l2 < 16777216 ∧ 16 ≤ r1 ∧ r1 ≤ 16777216) (hfin : fin = Wr.step (Wr.step ⟨m, (W + 1) * 16777216 + l2, r1⟩)) :
    Calls Tryd.prog 67 #[.pointer (some ⟨g, 0, none⟩), .int .i64 a, .int .i64 b, .int .i64 n] w fun e w' => e = .returned (.int .i64 0) ∧ WrAt ok w' g sz fin R ∧ Foot ok w w' := by
  have HL0 := Aside0.mk H
  have HFR := Aside0.mk hfr
  have HV := Aside0.mk hV
  have HFIN := Aside0.mk hfin
  obtain ⟨_, hc1, hc2, _⟩ := H.cells
  have hf1 := H.frozen 1
  have hf2 := H.frozen 2
  have HLF := Aside0.mk (Foot.refl ok w)
  have HC : Aside0 (∀ w, WrB ok w g sz r1 l2 (dig W m) R → Calls Tryd.prog 69 #[.pointer (some ⟨g, 0, none⟩)] w fun e w' => e = .returned (.tuple #[]) ∧ WrB ok w' g sz r1 l2 (dig (W + 1) m) R ∧ Foot ok w w') := ⟨fun w H => carry_bs ok g sz r1 l2 W m R w H (by omega) hW.1 hW.2⟩
  have HOG := Aside0.mk H.okg
  clear H hfr hV hfin hW
  go_enter Tryd.func67, Tryd.ntmps67
  go_wp2_with (go_at_call 69; (with_reducible refine (HC.out _ (by first | exact ((HL0.out.set2 l1).set1 r1).set2 l2 | exact (((HL0.out.set2 l1).set1 r1).set2 l2).drew | exact ((((HL0.out.set2 l1).set1 r1).set2 l2).drew).drew)).mono ?_); rintro e w1 ⟨rfl, hI, hf⟩; have HI := Aside0.mk hI; have HF1 := Aside0.mk ((by repeat (first | exact Foot.refl ok w | apply Foot.drew | (refine Foot.set_ ?_ (p := ⟨g, _, none⟩) HOG.out _)) : Foot ok w _).trans hf); clear hI hf)
  have HS0 : Aside0 (WrAt ok w1 g sz ⟨m, (W + 1) * 16777216 + l2, r1⟩ R) := ⟨by
    have h := HV.out
    unfold WrAt
    simp only
    rw [show ((W + 1) * 16777216 + l2) % 16777216 = l2 by omega, show ((W + 1) * 16777216 + l2) / 16777216 = W + 1 by omega]
    exact HI.out⟩
  have HS1 : Aside0 (16 ≤ (⟨m, (W + 1) * 16777216 + l2, r1⟩ : St).g ∧ (⟨m, (W + 1) * 16777216 + l2, r1⟩ : St).g ≤ 16777216 ∧ Wr.step (Wr.step (⟨m, (W + 1) * 16777216 + l2, r1⟩ : St)) = fin ∧ fin.m ≤ 902) := ⟨HV.out.2.2.2.1, HV.out.2.2.2.2, HFIN.out.symm, by
    have h1 := (Wr.step_m (⟨m, (W + 1) * 16777216 + l2, r1⟩ : St)).2
    have h2 := (Wr.step_m (Wr.step (⟨m, (W + 1) * 16777216 + l2, r1⟩ : St))).2
    rw [HFIN.out]
    simp only at h1
    omega⟩
  skip
  clear HI HC HL0 hc1 hc2 hf1 hf2 HLF HV HFIN d1 d2 d3 d4 e1 e2 e3 e4 e5 e6 e9 e10
  go_loopw [] (fun wr => ∃ s : St, Aside0 (WrAt ok wr g sz s R) ∧ Aside0 (16 ≤ s.g ∧ s.g ≤ 16777216 ∧ Wr.step (Wr.step s) = fin ∧ fin.m ≤ 902) ∧ Aside0 (Foot ok w wr)) (fun wr => (65537 - rgOf wr g).toNat)
  case atStart => exact ⟨_, HS0, HS1, HF1⟩
  case round =>
    obtain ⟨s, HA, HS, HF⟩ := hrel
    clear HS0 HS1 HF1
    obtain ⟨G1, hG1⟩ : ∃ x, s.g = x := ⟨_, rfl⟩
    have hc1 : wr.cell? ⟨g, 1, none⟩ = some (.int .u32 G1) := hG1 ▸ HA.out.cells.2.1
    have hr1 : rgOf wr g = G1 := hG1 ▸ rgOf_is HA.out
    have hg16 : 16 ≤ G1 ∧ G1 ≤ 16777216 := by have := HS.out; omega
    by_cases hle : G1 ≤ 65536
    · have hmm : s.m + 1 ≤ 902 := by
        have h := HS.out
        have e : Wr.step s = Wr.stp s := by unfold Wr.step; rw [if_pos (by omega)]
        have h1 := (Wr.step_m (Wr.step s)).1
        have h2 : (Wr.step s).m = s.m + 1 := by rw [e]; rfl
        have h3 : (Wr.step (Wr.step s)).m ≤ 902 := by rw [h.2.2.1]; exact h.2.2.2
        omega
      have HS' : Aside0 (16 ≤ (Wr.stp s).g ∧ (Wr.stp s).g ≤ 16777216 ∧ Wr.step (Wr.step (Wr.stp s)) = fin ∧ fin.m ≤ 902) := ⟨by simp only [Wr.stp]; omega, by simp only [Wr.stp]; omega, by rw [step_stp (by omega) (by omega)]; exact HS.out.2.2.1, HS.out.2.2.2⟩
      obtain ⟨X, hX⟩ : ∃ x, s.V % 16777216 = x := ⟨_, rfl⟩
      obtain ⟨bs, hbs⟩ : ∃ x, dig (s.V / 16777216) s.m = x := ⟨_, rfl⟩
      have hbl : bs.length = s.m := by rw [← hbs, Wr.dig_len]
      have hX0 : 0 ≤ X ∧ X < 16777216 := by omega
      have hnew : ∀ w2 : World, WrB ok w2 g sz (G1 * 256) (X % 65536 * 256) (bs ++ [X / 65536]) R → WrAt ok w2 g sz (Wr.stp s) R := fun w2 h => by
        unfold WrAt
        rw [stp_dig, stp_low, hbs, hX, show (Wr.stp s).g = G1 * 256 by simp only [Wr.stp]; rw [hG1]]
        exact h
      have HNEW := Aside0.mk hnew
      have hA := HA.out
      unfold WrAt at hA
      rw [hG1, hX, hbs] at hA
      obtain ⟨vb, vr, hg, ho, h1, h2⟩ := hA
      obtain ⟨A3, c3, rfl⟩ := Kd.R_slice h1
      obtain ⟨mm, hmm2⟩ : ∃ x, bs.length = x := ⟨_, rfl⟩
      rw [hmm2] at h1 hg
      have hc2 : wr.cell? ⟨g, 2, none⟩ = some (.int .u32 X) := (blk_cell hg 2).trans rfl
      have hc3 : wr.cell? ⟨g, 3, none⟩ = some (.slice A3 mm c3) := (blk_cell hg 3).trans rfl
      have hf1 := blk_frozen hg 1
      have hf2 := blk_frozen hg 2
      have hf3 := blk_frozen hg 3
      have HG := Aside0.mk hg
      have HR1 := Aside0.mk h1
      have HR2 := Aside0.mk h2
      have HFR2 : Aside0 (∀ k, wr.heap.size ≤ k → ok k ∧ k ≠ g) := ⟨fun k hk => ⟨HFR.out k (Nat.le_trans HF.out.b.size hk), by have := blk_lt hg; omega⟩⟩
      have HB0 := Aside0.mk (Below.refl 0 wr)
      have hmm3 : mm ≤ 902 := by omega
      have HML := Aside0.mk hmm2
      have HGL := Aside0.mk (And.intro hg16 hle)
      have HX0 := Aside0.mk hX0
      have u0 : IntKind.u8.wrap (X / 65536) = X / 65536 := by rw [show IntKind.u8.wrap (X / 65536) = (X / 65536) % 256 by simp [IntKind.wrap, IntKind.bits, IntKind.signed]]; omega
      have u1 : bits .and .u32 X 65535 = X % 65536 := and_u32 X 16 (by decide) hX0.1 (by omega)
      have u2 : IntKind.u32.wrap (X % 65536 * 256) = X % 65536 * 256 := by rw [wrap_u32]; omega
      have u3 : IntKind.u32.wrap (G1 * 256) = G1 * 256 := by rw [wrap_u32]; omega
      have hcA : (wr.alloc (.cells #[.int .u8 (X / 65536)] 5)).cell? ⟨g, 2, none⟩ = some (.int .u32 X) := (blk_cell (blk_alloc hg _) 2).trans rfl
      have hcB : (wr.alloc (.cells #[.int .u8 (X / 65536)] 5)).cell? ⟨g, 3, none⟩ = some (.slice A3 mm c3) := (blk_cell (blk_alloc hg _) 3).trans rfl
      clear HA HS hG1 hX hbs hbl hX0 hnew hg h1 h2 hmm hmm2 hg16
      go_upto_region 1 with (fail)
      go_region_law (first | ((try rw [alloc_drew]); refine Kd.R_append_step (Kd.int .u8) (w0 := wr) 0 (by rfl) (.tmp 90) (.tmp 97) 38 5 (.int .u8 0) 1 rfl Tryd.underlying38 info8 rfl (by decide) (by decide) (.slice A3 mm c3) bs (X / 65536) [.int .u8 (X / 65536)] (fun k => ok k ∧ k ≠ g) (fun _ => False) ?aX ?aY ?aP (fun _ hk => hk.elim) ?aF ?aO ?aB ?aS ?aL ?_; (case aX => exact rfl); (case aY => exact rfl); (case aP => exact rfl); (case aF => exact HFR2.out); (case aO => exact (by first | exact HR1.out | exact Kd.R_drew HR1.out)); (case aB => exact (by first | exact HB0.out | exact below_drew1 HB0.out)); (case aS => exact Nat.zero_le _); (case aL => rw [HML.out]; omega); intro v1 w2 hR hb2 hgr hat; have hgr := grown_drew hgr; obtain ⟨A2, c2, rfl⟩ := Kd.R_slice hR; rw [show (bs ++ [X / 65536]).length = bs.length + 1 from by simp] at hR; have HP := Aside0.mk (WrB.push HG.out HOG.out HR1.out HR2.out hR hgr); have HF2 := Aside0.mk (Foot.grown HF.out hb2 hgr (fun k hk => (HR1.out.1 k hk).1)); have hc1 : w2.cell? ⟨g, 1, none⟩ = some (.int .u32 G1) := (blk_cell HP.out.2 1).trans rfl; have hc2 : w2.cell? ⟨g, 2, none⟩ = some (.int .u32 X) := (blk_cell HP.out.2 2).trans rfl; have hc3 : w2.cell? ⟨g, 3, none⟩ = some (.slice A3 mm c3) := (blk_cell HP.out.2 3).trans rfl; have hf1 := blk_frozen HP.out.2 1; have hf2 := blk_frozen HP.out.2 2; have hf3 := blk_frozen HP.out.2 3; clear hR hb2 hgr hat))
      all_goals
        go_wp2
        have HN := Aside0.mk ((HP.out.1.set2 (X % 65536 * 256)).set1 (G1 * 256))
        go_roundw
        case rel => exact ⟨Wr.stp s, ⟨HNEW.out _ HN.out⟩, HS', ⟨Foot.set_ (Foot.set_ (Foot.set_ HF2.out (p := ⟨g, 3, none⟩) HOG.out _) (p := ⟨g, 2, none⟩) HOG.out _) (p := ⟨g, 1, none⟩) HOG.out _⟩⟩
        case measure =>
          rw [rgOf_is HN.out, hr1]
          have := HGL.out
          omega
    · have HE : Aside0 (WrAt ok wr g sz fin R) := ⟨by
        have h := HS.out
        have e : Wr.step s = s := step_id (by omega)
        rw [e, e] at h
        rw [← h.2.2.1]
        exact HA.out⟩
      clear HA HS hr1 hG1
      go_wp2
      go_ret
      exact ⟨rfl, HE.out, HF.out⟩
set_option maxHeartbeats 2000000 in
set_option maxRecDepth 100000 in
theorem put_tf (ok : Nat → Prop) (g m : Nat) (sz G lo W a b n p o l1 l2 r1 : Int) (R : List Bool) (fin : St) (w : World) (hm : m ≤ 900) (hfr : ∀ k, w.heap.size ≤ k → ok k) (H : WrB ok w g sz G lo (dig W m) R)
    (d1 : decide (a < 0) = false) (d2 : decide (b ≤ a) = false) (d3 : decide (n < b) = false) (d4 : decide ((4096 : Int) < n) = false) (d5 : (b == n) = true) (hn0 : ¬ n = 0)
    (e1 : IntKind.u32.wrap n = n) (e2 : IntKind.u32.wrap (G.tdiv n) = p) (e3 : IntKind.u32.wrap a = a) (e4 : IntKind.u32.wrap (a * p) = o) (e5 : IntKind.u32.wrap (lo + o) = l1) (e10 : wrap64 (b - a) = b - a) (e6 : IntKind.u32.wrap (G - o) = r1) (e8 : decide ((16777216 : Int) ≤ l1) = false) (e9 : l1 = l2)
     (hV : 0 ≤ W ∧ 0 ≤ l2 ∧ l2 < 16777216 ∧ 16 ≤ r1 ∧ r1 ≤ 16777216) (hfin : fin = Wr.step (Wr.step ⟨m, (W) * 16777216 + l2, r1⟩)) :
    Calls Tryd.prog 67 #[.pointer (some ⟨g, 0, none⟩), .int .i64 a, .int .i64 b, .int .i64 n] w fun e w' => e = .returned (.int .i64 0) ∧ WrAt ok w' g sz fin R ∧ Foot ok w w' := by
  subst e9
  have HL0 := Aside0.mk H
  have HFR := Aside0.mk hfr
  have HV := Aside0.mk hV
  have HFIN := Aside0.mk hfin
  obtain ⟨_, hc1, hc2, _⟩ := H.cells
  have hf1 := H.frozen 1
  have hf2 := H.frozen 2
  have HLF := Aside0.mk (Foot.refl ok w)
  skip
  have HOG := Aside0.mk H.okg
  clear H hfr hV hfin 
  go_enter Tryd.func67, Tryd.ntmps67
  go_wp2
  have HS0 : Aside0 (WrAt ok _ g sz ⟨m, (W) * 16777216 + l1, r1⟩ R) := ⟨by
    have h := HV.out
    unfold WrAt
    simp only
    rw [show ((W) * 16777216 + l1) % 16777216 = l1 by omega, show ((W) * 16777216 + l1) / 16777216 = W by omega]
    exact ((HL0.out.set2 l1).set1 r1)⟩
  have HS1 : Aside0 (16 ≤ (⟨m, (W) * 16777216 + l1, r1⟩ : St).g ∧ (⟨m, (W) * 16777216 + l1, r1⟩ : St).g ≤ 16777216 ∧ Wr.step (Wr.step (⟨m, (W) * 16777216 + l1, r1⟩ : St)) = fin ∧ fin.m ≤ 902) := ⟨HV.out.2.2.2.1, HV.out.2.2.2.2, HFIN.out.symm, by
    have h1 := (Wr.step_m (⟨m, (W) * 16777216 + l1, r1⟩ : St)).2
    have h2 := (Wr.step_m (Wr.step (⟨m, (W) * 16777216 + l1, r1⟩ : St))).2
    rw [HFIN.out]
    simp only at h1
    omega⟩
  have HF1 : Aside0 (Foot ok w ((w.setCell ⟨g, 2, none⟩ (.int .u32 l1)).setCell ⟨g, 1, none⟩ (.int .u32 r1))) := ⟨Foot.set_ (Foot.set_ HLF.out (p := ⟨g, 2, none⟩) HOG.out _) (p := ⟨g, 1, none⟩) HOG.out _⟩
  clear HL0 hc1 hc2 hf1 hf2 HLF HV HFIN d1 d2 d3 d4 e1 e2 e3 e4 e5 e6 e10
  go_loopw [] (fun wr => ∃ s : St, Aside0 (WrAt ok wr g sz s R) ∧ Aside0 (16 ≤ s.g ∧ s.g ≤ 16777216 ∧ Wr.step (Wr.step s) = fin ∧ fin.m ≤ 902) ∧ Aside0 (Foot ok w wr)) (fun wr => (65537 - rgOf wr g).toNat)
  case atStart => exact ⟨_, HS0, HS1, HF1⟩
  case round =>
    obtain ⟨s, HA, HS, HF⟩ := hrel
    clear HS0 HS1 HF1
    obtain ⟨G1, hG1⟩ : ∃ x, s.g = x := ⟨_, rfl⟩
    have hc1 : wr.cell? ⟨g, 1, none⟩ = some (.int .u32 G1) := hG1 ▸ HA.out.cells.2.1
    have hr1 : rgOf wr g = G1 := hG1 ▸ rgOf_is HA.out
    have hg16 : 16 ≤ G1 ∧ G1 ≤ 16777216 := by have := HS.out; omega
    by_cases hle : G1 ≤ 65536
    · have hmm : s.m + 1 ≤ 902 := by
        have h := HS.out
        have e : Wr.step s = Wr.stp s := by unfold Wr.step; rw [if_pos (by omega)]
        have h1 := (Wr.step_m (Wr.step s)).1
        have h2 : (Wr.step s).m = s.m + 1 := by rw [e]; rfl
        have h3 : (Wr.step (Wr.step s)).m ≤ 902 := by rw [h.2.2.1]; exact h.2.2.2
        omega
      have HS' : Aside0 (16 ≤ (Wr.stp s).g ∧ (Wr.stp s).g ≤ 16777216 ∧ Wr.step (Wr.step (Wr.stp s)) = fin ∧ fin.m ≤ 902) := ⟨by simp only [Wr.stp]; omega, by simp only [Wr.stp]; omega, by rw [step_stp (by omega) (by omega)]; exact HS.out.2.2.1, HS.out.2.2.2⟩
      obtain ⟨X, hX⟩ : ∃ x, s.V % 16777216 = x := ⟨_, rfl⟩
      obtain ⟨bs, hbs⟩ : ∃ x, dig (s.V / 16777216) s.m = x := ⟨_, rfl⟩
      have hbl : bs.length = s.m := by rw [← hbs, Wr.dig_len]
      have hX0 : 0 ≤ X ∧ X < 16777216 := by omega
      have hnew : ∀ w2 : World, WrB ok w2 g sz (G1 * 256) (X % 65536 * 256) (bs ++ [X / 65536]) R → WrAt ok w2 g sz (Wr.stp s) R := fun w2 h => by
        unfold WrAt
        rw [stp_dig, stp_low, hbs, hX, show (Wr.stp s).g = G1 * 256 by simp only [Wr.stp]; rw [hG1]]
        exact h
      have HNEW := Aside0.mk hnew
      have hA := HA.out
      unfold WrAt at hA
      rw [hG1, hX, hbs] at hA
      obtain ⟨vb, vr, hg, ho, h1, h2⟩ := hA
      obtain ⟨A3, c3, rfl⟩ := Kd.R_slice h1
      obtain ⟨mm, hmm2⟩ : ∃ x, bs.length = x := ⟨_, rfl⟩
      rw [hmm2] at h1 hg
      have hc2 : wr.cell? ⟨g, 2, none⟩ = some (.int .u32 X) := (blk_cell hg 2).trans rfl
      have hc3 : wr.cell? ⟨g, 3, none⟩ = some (.slice A3 mm c3) := (blk_cell hg 3).trans rfl
      have hf1 := blk_frozen hg 1
      have hf2 := blk_frozen hg 2
      have hf3 := blk_frozen hg 3
      have HG := Aside0.mk hg
      have HR1 := Aside0.mk h1
      have HR2 := Aside0.mk h2
      have HFR2 : Aside0 (∀ k, wr.heap.size ≤ k → ok k ∧ k ≠ g) := ⟨fun k hk => ⟨HFR.out k (Nat.le_trans HF.out.b.size hk), by have := blk_lt hg; omega⟩⟩
      have HB0 := Aside0.mk (Below.refl 0 wr)
      have hmm3 : mm ≤ 902 := by omega
      have HML := Aside0.mk hmm2
      have HGL := Aside0.mk (And.intro hg16 hle)
      have HX0 := Aside0.mk hX0
      have u0 : IntKind.u8.wrap (X / 65536) = X / 65536 := by rw [show IntKind.u8.wrap (X / 65536) = (X / 65536) % 256 by simp [IntKind.wrap, IntKind.bits, IntKind.signed]]; omega
      have u1 : bits .and .u32 X 65535 = X % 65536 := and_u32 X 16 (by decide) hX0.1 (by omega)
      have u2 : IntKind.u32.wrap (X % 65536 * 256) = X % 65536 * 256 := by rw [wrap_u32]; omega
      have u3 : IntKind.u32.wrap (G1 * 256) = G1 * 256 := by rw [wrap_u32]; omega
      have hcA : (wr.alloc (.cells #[.int .u8 (X / 65536)] 5)).cell? ⟨g, 2, none⟩ = some (.int .u32 X) := (blk_cell (blk_alloc hg _) 2).trans rfl
      have hcB : (wr.alloc (.cells #[.int .u8 (X / 65536)] 5)).cell? ⟨g, 3, none⟩ = some (.slice A3 mm c3) := (blk_cell (blk_alloc hg _) 3).trans rfl
      clear HA HS hG1 hX hbs hbl hX0 hnew hg h1 h2 hmm hmm2 hg16
      go_upto_region 1 with (fail)
      go_region_law (first | ((try rw [alloc_drew]); refine Kd.R_append_step (Kd.int .u8) (w0 := wr) 0 (by rfl) (.tmp 90) (.tmp 97) 38 5 (.int .u8 0) 1 rfl Tryd.underlying38 info8 rfl (by decide) (by decide) (.slice A3 mm c3) bs (X / 65536) [.int .u8 (X / 65536)] (fun k => ok k ∧ k ≠ g) (fun _ => False) ?aX ?aY ?aP (fun _ hk => hk.elim) ?aF ?aO ?aB ?aS ?aL ?_; (case aX => exact rfl); (case aY => exact rfl); (case aP => exact rfl); (case aF => exact HFR2.out); (case aO => exact (by first | exact HR1.out | exact Kd.R_drew HR1.out)); (case aB => exact (by first | exact HB0.out | exact below_drew1 HB0.out)); (case aS => exact Nat.zero_le _); (case aL => rw [HML.out]; omega); intro v1 w2 hR hb2 hgr hat; have hgr := grown_drew hgr; obtain ⟨A2, c2, rfl⟩ := Kd.R_slice hR; rw [show (bs ++ [X / 65536]).length = bs.length + 1 from by simp] at hR; have HP := Aside0.mk (WrB.push HG.out HOG.out HR1.out HR2.out hR hgr); have HF2 := Aside0.mk (Foot.grown HF.out hb2 hgr (fun k hk => (HR1.out.1 k hk).1)); have hc1 : w2.cell? ⟨g, 1, none⟩ = some (.int .u32 G1) := (blk_cell HP.out.2 1).trans rfl; have hc2 : w2.cell? ⟨g, 2, none⟩ = some (.int .u32 X) := (blk_cell HP.out.2 2).trans rfl; have hc3 : w2.cell? ⟨g, 3, none⟩ = some (.slice A3 mm c3) := (blk_cell HP.out.2 3).trans rfl; have hf1 := blk_frozen HP.out.2 1; have hf2 := blk_frozen HP.out.2 2; have hf3 := blk_frozen HP.out.2 3; clear hR hb2 hgr hat))
      all_goals
        go_wp2
        have HN := Aside0.mk ((HP.out.1.set2 (X % 65536 * 256)).set1 (G1 * 256))
        go_roundw
        case rel => exact ⟨Wr.stp s, ⟨HNEW.out _ HN.out⟩, HS', ⟨Foot.set_ (Foot.set_ (Foot.set_ HF2.out (p := ⟨g, 3, none⟩) HOG.out _) (p := ⟨g, 2, none⟩) HOG.out _) (p := ⟨g, 1, none⟩) HOG.out _⟩⟩
        case measure =>
          rw [rgOf_is HN.out, hr1]
          have := HGL.out
          omega
    · have HE : Aside0 (WrAt ok wr g sz fin R) := ⟨by
        have h := HS.out
        have e : Wr.step s = s := step_id (by omega)
        rw [e, e] at h
        rw [← h.2.2.1]
        exact HA.out⟩
      clear HA HS hr1 hG1
      go_wp2
      go_ret
      exact ⟨rfl, HE.out, HF.out⟩
set_option maxHeartbeats 2000000 in
set_option maxRecDepth 100000 in
theorem put_ff (ok : Nat → Prop) (g m : Nat) (sz G lo W a b n p o l1 l2 r1 : Int) (R : List Bool) (fin : St) (w : World) (hm : m ≤ 900) (hfr : ∀ k, w.heap.size ≤ k → ok k) (H : WrB ok w g sz G lo (dig W m) R)
    (d1 : decide (a < 0) = false) (d2 : decide (b ≤ a) = false) (d3 : decide (n < b) = false) (d4 : decide ((4096 : Int) < n) = false) (d5 : (b == n) = false) (hn0 : ¬ n = 0)
    (e1 : IntKind.u32.wrap n = n) (e2 : IntKind.u32.wrap (G.tdiv n) = p) (e3 : IntKind.u32.wrap a = a) (e4 : IntKind.u32.wrap (a * p) = o) (e5 : IntKind.u32.wrap (lo + o) = l1) (e10 : wrap64 (b - a) = b - a) (e6 : IntKind.u32.wrap (b - a) = b - a) (e7 : IntKind.u32.wrap ((b - a) * p) = r1) (e8 : decide ((16777216 : Int) ≤ l1) = false) (e9 : l1 = l2)
     (hV : 0 ≤ W ∧ 0 ≤ l2 ∧ l2 < 16777216 ∧ 16 ≤ r1 ∧ r1 ≤ 16777216) (hfin : fin = Wr.step (Wr.step ⟨m, (W) * 16777216 + l2, r1⟩)) :
    Calls Tryd.prog 67 #[.pointer (some ⟨g, 0, none⟩), .int .i64 a, .int .i64 b, .int .i64 n] w fun e w' => e = .returned (.int .i64 0) ∧ WrAt ok w' g sz fin R ∧ Foot ok w w' := by
  subst e9
  have HL0 := Aside0.mk H
  have HFR := Aside0.mk hfr
  have HV := Aside0.mk hV
  have HFIN := Aside0.mk hfin
  obtain ⟨_, hc1, hc2, _⟩ := H.cells
  have hf1 := H.frozen 1
  have hf2 := H.frozen 2
  have HLF := Aside0.mk (Foot.refl ok w)
  skip
  have HOG := Aside0.mk H.okg
  clear H hfr hV hfin 
  go_enter Tryd.func67, Tryd.ntmps67
  go_wp2
  have HS0 : Aside0 (WrAt ok _ g sz ⟨m, (W) * 16777216 + l1, r1⟩ R) := ⟨by
    have h := HV.out
    unfold WrAt
    simp only
    rw [show ((W) * 16777216 + l1) % 16777216 = l1 by omega, show ((W) * 16777216 + l1) / 16777216 = W by omega]
    exact ((HL0.out.set2 l1).set1 r1)⟩
  have HS1 : Aside0 (16 ≤ (⟨m, (W) * 16777216 + l1, r1⟩ : St).g ∧ (⟨m, (W) * 16777216 + l1, r1⟩ : St).g ≤ 16777216 ∧ Wr.step (Wr.step (⟨m, (W) * 16777216 + l1, r1⟩ : St)) = fin ∧ fin.m ≤ 902) := ⟨HV.out.2.2.2.1, HV.out.2.2.2.2, HFIN.out.symm, by
    have h1 := (Wr.step_m (⟨m, (W) * 16777216 + l1, r1⟩ : St)).2
    have h2 := (Wr.step_m (Wr.step (⟨m, (W) * 16777216 + l1, r1⟩ : St))).2
    rw [HFIN.out]
    simp only at h1
    omega⟩
  have HF1 : Aside0 (Foot ok w ((w.setCell ⟨g, 2, none⟩ (.int .u32 l1)).setCell ⟨g, 1, none⟩ (.int .u32 r1))) := ⟨Foot.set_ (Foot.set_ HLF.out (p := ⟨g, 2, none⟩) HOG.out _) (p := ⟨g, 1, none⟩) HOG.out _⟩
  clear HL0 hc1 hc2 hf1 hf2 HLF HV HFIN d1 d2 d3 d4 e1 e2 e3 e4 e5 e6 e10
  go_loopw [] (fun wr => ∃ s : St, Aside0 (WrAt ok wr g sz s R) ∧ Aside0 (16 ≤ s.g ∧ s.g ≤ 16777216 ∧ Wr.step (Wr.step s) = fin ∧ fin.m ≤ 902) ∧ Aside0 (Foot ok w wr)) (fun wr => (65537 - rgOf wr g).toNat)
  case atStart => exact ⟨_, HS0, HS1, HF1⟩
  case round =>
    obtain ⟨s, HA, HS, HF⟩ := hrel
    clear HS0 HS1 HF1
    obtain ⟨G1, hG1⟩ : ∃ x, s.g = x := ⟨_, rfl⟩
    have hc1 : wr.cell? ⟨g, 1, none⟩ = some (.int .u32 G1) := hG1 ▸ HA.out.cells.2.1
    have hr1 : rgOf wr g = G1 := hG1 ▸ rgOf_is HA.out
    have hg16 : 16 ≤ G1 ∧ G1 ≤ 16777216 := by have := HS.out; omega
    by_cases hle : G1 ≤ 65536
    · have hmm : s.m + 1 ≤ 902 := by
        have h := HS.out
        have e : Wr.step s = Wr.stp s := by unfold Wr.step; rw [if_pos (by omega)]
        have h1 := (Wr.step_m (Wr.step s)).1
        have h2 : (Wr.step s).m = s.m + 1 := by rw [e]; rfl
        have h3 : (Wr.step (Wr.step s)).m ≤ 902 := by rw [h.2.2.1]; exact h.2.2.2
        omega
      have HS' : Aside0 (16 ≤ (Wr.stp s).g ∧ (Wr.stp s).g ≤ 16777216 ∧ Wr.step (Wr.step (Wr.stp s)) = fin ∧ fin.m ≤ 902) := ⟨by simp only [Wr.stp]; omega, by simp only [Wr.stp]; omega, by rw [step_stp (by omega) (by omega)]; exact HS.out.2.2.1, HS.out.2.2.2⟩
      obtain ⟨X, hX⟩ : ∃ x, s.V % 16777216 = x := ⟨_, rfl⟩
      obtain ⟨bs, hbs⟩ : ∃ x, dig (s.V / 16777216) s.m = x := ⟨_, rfl⟩
      have hbl : bs.length = s.m := by rw [← hbs, Wr.dig_len]
      have hX0 : 0 ≤ X ∧ X < 16777216 := by omega
      have hnew : ∀ w2 : World, WrB ok w2 g sz (G1 * 256) (X % 65536 * 256) (bs ++ [X / 65536]) R → WrAt ok w2 g sz (Wr.stp s) R := fun w2 h => by
        unfold WrAt
        rw [stp_dig, stp_low, hbs, hX, show (Wr.stp s).g = G1 * 256 by simp only [Wr.stp]; rw [hG1]]
        exact h
      have HNEW := Aside0.mk hnew
      have hA := HA.out
      unfold WrAt at hA
      rw [hG1, hX, hbs] at hA
      obtain ⟨vb, vr, hg, ho, h1, h2⟩ := hA
      obtain ⟨A3, c3, rfl⟩ := Kd.R_slice h1
      obtain ⟨mm, hmm2⟩ : ∃ x, bs.length = x := ⟨_, rfl⟩
      rw [hmm2] at h1 hg
      have hc2 : wr.cell? ⟨g, 2, none⟩ = some (.int .u32 X) := (blk_cell hg 2).trans rfl
      have hc3 : wr.cell? ⟨g, 3, none⟩ = some (.slice A3 mm c3) := (blk_cell hg 3).trans rfl
      have hf1 := blk_frozen hg 1
      have hf2 := blk_frozen hg 2
      have hf3 := blk_frozen hg 3
      have HG := Aside0.mk hg
      have HR1 := Aside0.mk h1
      have HR2 := Aside0.mk h2
      have HFR2 : Aside0 (∀ k, wr.heap.size ≤ k → ok k ∧ k ≠ g) := ⟨fun k hk => ⟨HFR.out k (Nat.le_trans HF.out.b.size hk), by have := blk_lt hg; omega⟩⟩
      have HB0 := Aside0.mk (Below.refl 0 wr)
      have hmm3 : mm ≤ 902 := by omega
      have HML := Aside0.mk hmm2
      have HGL := Aside0.mk (And.intro hg16 hle)
      have HX0 := Aside0.mk hX0
      have u0 : IntKind.u8.wrap (X / 65536) = X / 65536 := by rw [show IntKind.u8.wrap (X / 65536) = (X / 65536) % 256 by simp [IntKind.wrap, IntKind.bits, IntKind.signed]]; omega
      have u1 : bits .and .u32 X 65535 = X % 65536 := and_u32 X 16 (by decide) hX0.1 (by omega)
      have u2 : IntKind.u32.wrap (X % 65536 * 256) = X % 65536 * 256 := by rw [wrap_u32]; omega
      have u3 : IntKind.u32.wrap (G1 * 256) = G1 * 256 := by rw [wrap_u32]; omega
      have hcA : (wr.alloc (.cells #[.int .u8 (X / 65536)] 5)).cell? ⟨g, 2, none⟩ = some (.int .u32 X) := (blk_cell (blk_alloc hg _) 2).trans rfl
      have hcB : (wr.alloc (.cells #[.int .u8 (X / 65536)] 5)).cell? ⟨g, 3, none⟩ = some (.slice A3 mm c3) := (blk_cell (blk_alloc hg _) 3).trans rfl
      clear HA HS hG1 hX hbs hbl hX0 hnew hg h1 h2 hmm hmm2 hg16
      go_upto_region 1 with (fail)
      go_region_law (first | ((try rw [alloc_drew]); refine Kd.R_append_step (Kd.int .u8) (w0 := wr) 0 (by rfl) (.tmp 90) (.tmp 97) 38 5 (.int .u8 0) 1 rfl Tryd.underlying38 info8 rfl (by decide) (by decide) (.slice A3 mm c3) bs (X / 65536) [.int .u8 (X / 65536)] (fun k => ok k ∧ k ≠ g) (fun _ => False) ?aX ?aY ?aP (fun _ hk => hk.elim) ?aF ?aO ?aB ?aS ?aL ?_; (case aX => exact rfl); (case aY => exact rfl); (case aP => exact rfl); (case aF => exact HFR2.out); (case aO => exact (by first | exact HR1.out | exact Kd.R_drew HR1.out)); (case aB => exact (by first | exact HB0.out | exact below_drew1 HB0.out)); (case aS => exact Nat.zero_le _); (case aL => rw [HML.out]; omega); intro v1 w2 hR hb2 hgr hat; have hgr := grown_drew hgr; obtain ⟨A2, c2, rfl⟩ := Kd.R_slice hR; rw [show (bs ++ [X / 65536]).length = bs.length + 1 from by simp] at hR; have HP := Aside0.mk (WrB.push HG.out HOG.out HR1.out HR2.out hR hgr); have HF2 := Aside0.mk (Foot.grown HF.out hb2 hgr (fun k hk => (HR1.out.1 k hk).1)); have hc1 : w2.cell? ⟨g, 1, none⟩ = some (.int .u32 G1) := (blk_cell HP.out.2 1).trans rfl; have hc2 : w2.cell? ⟨g, 2, none⟩ = some (.int .u32 X) := (blk_cell HP.out.2 2).trans rfl; have hc3 : w2.cell? ⟨g, 3, none⟩ = some (.slice A3 mm c3) := (blk_cell HP.out.2 3).trans rfl; have hf1 := blk_frozen HP.out.2 1; have hf2 := blk_frozen HP.out.2 2; have hf3 := blk_frozen HP.out.2 3; clear hR hb2 hgr hat))
      all_goals
        go_wp2
        have HN := Aside0.mk ((HP.out.1.set2 (X % 65536 * 256)).set1 (G1 * 256))
        go_roundw
        case rel => exact ⟨Wr.stp s, ⟨HNEW.out _ HN.out⟩, HS', ⟨Foot.set_ (Foot.set_ (Foot.set_ HF2.out (p := ⟨g, 3, none⟩) HOG.out _) (p := ⟨g, 2, none⟩) HOG.out _) (p := ⟨g, 1, none⟩) HOG.out _⟩⟩
        case measure =>
          rw [rgOf_is HN.out, hr1]
          have := HGL.out
          omega
    · have HE : Aside0 (WrAt ok wr g sz fin R) := ⟨by
        have h := HS.out
        have e : Wr.step s = s := step_id (by omega)
        rw [e, e] at h
        rw [← h.2.2.1]
        exact HA.out⟩
      clear HA HS hr1 hG1
      go_wp2
      go_ret
      exact ⟨rfl, HE.out, HF.out⟩
set_option maxHeartbeats 1000000 in
theorem put_no1 (g : Nat) (a b n : Int) (w : World) (d1 : decide (a < 0) = true) :
    Calls Tryd.prog 67 #[.pointer (some ⟨g, 0, none⟩), .int .i64 a, .int .i64 b, .int .i64 n] w fun e w' => e = .returned (.int .i64 1) ∧ Below w.heap.size w w' := by
  have HB := Aside0.mk (Below.refl w.heap.size w)
  go_enter Tryd.func67, Tryd.ntmps67
  go_wp2
  go_ret
  exact ⟨rfl, by repeat (first | exact HB.out | apply below_drew1 | apply pw_below_drewN)⟩
set_option maxHeartbeats 1000000 in
theorem put_no2 (g : Nat) (a b n : Int) (w : World) (d1 : decide (a < 0) = false) (d2 : decide (b ≤ a) = true) :
    Calls Tryd.prog 67 #[.pointer (some ⟨g, 0, none⟩), .int .i64 a, .int .i64 b, .int .i64 n] w fun e w' => e = .returned (.int .i64 1) ∧ Below w.heap.size w w' := by
  have HB := Aside0.mk (Below.refl w.heap.size w)
  go_enter Tryd.func67, Tryd.ntmps67
  go_wp2
  go_ret
  exact ⟨rfl, by repeat (first | exact HB.out | apply below_drew1 | apply pw_below_drewN)⟩
set_option maxHeartbeats 1000000 in
theorem put_no3 (g : Nat) (a b n : Int) (w : World) (d1 : decide (a < 0) = false) (d2 : decide (b ≤ a) = false) (d3 : decide (n < b) = true) :
    Calls Tryd.prog 67 #[.pointer (some ⟨g, 0, none⟩), .int .i64 a, .int .i64 b, .int .i64 n] w fun e w' => e = .returned (.int .i64 1) ∧ Below w.heap.size w w' := by
  have HB := Aside0.mk (Below.refl w.heap.size w)
  go_enter Tryd.func67, Tryd.ntmps67
  go_wp2
  go_ret
  exact ⟨rfl, by repeat (first | exact HB.out | apply below_drew1 | apply pw_below_drewN)⟩
set_option maxHeartbeats 1000000 in
theorem put_no4 (g : Nat) (a b n : Int) (w : World) (d1 : decide (a < 0) = false) (d2 : decide (b ≤ a) = false) (d3 : decide (n < b) = false) (d4 : decide ((4096 : Int) < n) = true) :
    Calls Tryd.prog 67 #[.pointer (some ⟨g, 0, none⟩), .int .i64 a, .int .i64 b, .int .i64 n] w fun e w' => e = .returned (.int .i64 1) ∧ Below w.heap.size w w' := by
  have HB := Aside0.mk (Below.refl w.heap.size w)
  go_enter Tryd.func67, Tryd.ntmps67
  go_wp2
  go_ret
  exact ⟨rfl, by repeat (first | exact HB.out | apply below_drew1 | apply pw_below_drewN)⟩
theorem u32s {x : Int} (h0 : 0 ≤ x) (h1 : x < 4294967296) : IntKind.u32.wrap x = x := by rw [wrap_u32, Int.emod_eq_of_lt h0 h1]
/-- Whatever is put. -/
theorem put_any (ok : Nat → Prop) (g : Nat) (sz a b n : Int) (s : St) (R : List Bool) (w : World) (hs : Wr.Fair s 65537) (hm : s.m ≤ 900) (hfr : ∀ k, w.heap.size ≤ k → ok k) (H : WrAt ok w g sz s R) :
    Calls Tryd.prog 67 #[.pointer (some ⟨g, 0, none⟩), .int .i64 a, .int .i64 b, .int .i64 n] w fun e w' => e = .returned (.int .i64 (if Rd.ok a b n then 0 else 1)) ∧ WrAt ok w' g sz (Wr.put s a b n) R ∧ Foot ok w w' := by
  by_cases h : Rd.ok a b n
  · rw [if_pos h]
    obtain ⟨P0, P1, O0, O1, S0, S1⟩ := Rd.part_is (by have := hs.g0; omega) hs.g1 h
    have hc := Wr.cut_fair hs h
    have hfin : Wr.put s a b n = Wr.step (Wr.step (Wr.cut s a b n)) := by unfold Wr.put; rw [if_pos h]
    obtain ⟨ha, hab, hbn, hn⟩ := h
    have hg0 := hs.g0
    have hg1 := hs.g1
    have hv0 := hs.v0
    obtain ⟨p, hp⟩ : ∃ p, s.g / n = p := ⟨_, rfl⟩
    obtain ⟨W, hW⟩ : ∃ W, s.V / 16777216 = W := ⟨_, rfl⟩
    obtain ⟨lo, hlo⟩ : ∃ lo, s.V % 16777216 = lo := ⟨_, rfl⟩
    have hcc : Wr.cut s a b n = ⟨s.m, s.V + a * p, Rd.rg s.g a b n⟩ := by unfold Wr.cut; rw [hp]
    have hrg : Rd.rg s.g a b n = if b = n then s.g - a * p else (b - a) * p := by unfold Rd.rg; rw [hp]
    rw [hp] at P0 P1 O0 O1 S0 S1
    obtain ⟨cg0, cg1, cv0, cv1⟩ := hc
    rw [hcc] at hfin cg0 cg1 cv0 cv1
    simp only at cg0 cg1 cv0 cv1
    unfold WrAt at H
    rw [hW, hlo] at H
    have e1 : IntKind.u32.wrap n = n := u32s (by omega) (by omega)
    have e2 : IntKind.u32.wrap (s.g.tdiv n) = p := by rw [Int.tdiv_eq_ediv_of_nonneg (by omega), hp]; exact u32s (by omega) (by omega)
    have e3 : IntKind.u32.wrap a = a := u32s (by omega) (by omega)
    obtain ⟨o, ho⟩ : ∃ o, a * p = o := ⟨_, rfl⟩
    rw [ho] at O0 O1 S1 hfin cv0 cv1 hrg
    have e4 : IntKind.u32.wrap (a * p) = o := by rw [ho]; exact u32s (by omega) (by omega)
    have e5 : IntKind.u32.wrap (lo + o) = lo + o := u32s (by omega) (by omega)
    have e10 : wrap64 (b - a) = b - a := w64n (by omega) (by omega)
    have hn0 : ¬ n = 0 := by omega
    have d1 : decide (a < 0) = false := decide_eq_false (by omega)
    have d2 : decide (b ≤ a) = false := decide_eq_false (by omega)
    have d3 : decide (n < b) = false := decide_eq_false (by omega)
    have d4 : decide ((4096 : Int) < n) = false := decide_eq_false (by omega)
    have hpow := Wr.pow_pos s.m
    have hWl : 0 ≤ W := by omega
    by_cases hb : b = n
    · rw [if_pos hb] at hrg
      rw [hrg] at hfin cg0 cg1 cv1
      have d5 : (b == n) = true := by rw [hb]; exact beq_self_eq_true n
      have e6 : IntKind.u32.wrap (s.g - o) = s.g - o := u32s (by omega) (by omega)
      by_cases hl : 16777216 ≤ lo + o
      · exact put_tt ok g s.m sz s.g lo W a b n p o (lo + o) (lo + o - 16777216) (s.g - o) R _ w hm hfr H d1 d2 d3 d4 d5 hn0 e1 e2 e3 e4 e5 e10 e6 (decide_eq_true hl) (u32s (by omega) (by omega)) ⟨hWl, by omega⟩ (by omega) (by rw [hfin, show (W + 1) * 16777216 + (lo + o - 16777216) = s.V + o by omega])
      · exact put_tf ok g s.m sz s.g lo W a b n p o (lo + o) (lo + o) (s.g - o) R _ w hm hfr H d1 d2 d3 d4 d5 hn0 e1 e2 e3 e4 e5 e10 e6 (decide_eq_false hl) rfl (by omega) (by rw [hfin, show W * 16777216 + (lo + o) = s.V + o by omega])
    · rw [if_neg hb] at hrg
      rw [hrg] at hfin cg0 cg1 cv1
      have d5 : (b == n) = false := by simp [hb]
      obtain ⟨z, hz⟩ : ∃ z, (b - a) * p = z := ⟨_, rfl⟩
      rw [hz] at hfin cg0 cg1 cv1 S0 S1
      have e6 : IntKind.u32.wrap (b - a) = b - a := u32s (by omega) (by omega)
      have e7 : IntKind.u32.wrap ((b - a) * p) = z := by rw [hz]; exact u32s (by omega) (by omega)
      by_cases hl : 16777216 ≤ lo + o
      · exact put_ft ok g s.m sz s.g lo W a b n p o (lo + o) (lo + o - 16777216) z R _ w hm hfr H d1 d2 d3 d4 d5 hn0 e1 e2 e3 e4 e5 e10 e6 e7 (decide_eq_true hl) (u32s (by omega) (by omega)) ⟨hWl, by omega⟩ (by omega) (by rw [hfin, show (W + 1) * 16777216 + (lo + o - 16777216) = s.V + o by omega])
      · exact put_ff ok g s.m sz s.g lo W a b n p o (lo + o) (lo + o) z R _ w hm hfr H d1 d2 d3 d4 d5 hn0 e1 e2 e3 e4 e5 e10 e6 e7 (decide_eq_false hl) rfl (by omega) (by rw [hfin, show W * 16777216 + (lo + o) = s.V + o by omega])
  · rw [if_neg h, show Wr.put s a b n = s by unfold Wr.put; rw [if_neg h]]
    have fin : ∀ (e : Ending) (w' : World), (e = .returned (.int .i64 1) ∧ Below w.heap.size w w') → e = .returned (.int .i64 1) ∧ WrAt ok w' g sz s R ∧ Foot ok w w' := fun e w' hh => ⟨hh.1, WrB.below H hh.2, Foot.of_below hh.2⟩
    by_cases h1 : a < 0
    · exact (put_no1 g a b n w (decide_eq_true h1)).mono fin
    · by_cases h2 : b ≤ a
      · exact (put_no2 g a b n w (decide_eq_false h1) (decide_eq_true h2)).mono fin
      · by_cases h3 : n < b
        · exact (put_no3 g a b n w (decide_eq_false h1) (decide_eq_false h2) (decide_eq_true h3)).mono fin
        · exact (put_no4 g a b n w (decide_eq_false h1) (decide_eq_false h2) (decide_eq_false h3) (decide_eq_true (by unfold Rd.ok at h; omega))).mono fin
end Go.Proofs.YtjmoklebimejaaaDoor.WrWalk
