import Derived.Test.YtjmoklebimejaaaDoorRfWalk
namespace Go.Proofs.YtjmoklebimejaaaDoor.RfWalk
open Go.RowKit Go.Proofs.YtjmoklebimejaaaDoorW.PrintWords Go.Proofs.YtjmoklebimejaaaDoorW.PrintLast Go.Proofs.YtjmoklebimejaaaDoorW.PrintMore
open Go.Proofs.YtjmoklebimejaaaDoor.Wr (St dig dig_len)
open Go.Proofs.YtjmoklebimejaaaDoor.WrWalk
open Go.Proofs.YtjmoklebimejaaaDoor.WrLaw
open Go.Proofs.YtjmoklebimejaaaDoor.Rf (b2i)
open Go.Proofs.YtjmoklebimejaaaDoor.Pack (bitsOf bitsOf_more bitsOf_len lo)
attribute [local go_sem] max2_int min2_int max_two min_two max_three min_three max_four min_four   -- for this text's walks alone
set_option linter.unusedVariables false
set_option linter.unusedSimpArgs false
theorem infoI : (Tryd.prog.info? 3).map (fun i => (i.zero, i.size, i.bytes)) = some (some (.int .i64 0), 1, 8) := by kernel_rfl
theorem b2i_lo (x : Int) (j : Nat) : b2i (lo x j) = x / 2 ^ j % 2 := by
  unfold b2i lo
  by_cases h : x / 2 ^ j % 2 = 1
  · rw [h]; rfl
  · have h0 : x / 2 ^ j % 2 = 0 := by omega
    rw [h0]; rfl
theorem rf_ok {ok : Nat → Prop} {w : World} {g : Nat} {sz rg : Int} {D Rl : List Int} (H : RfB ok w g sz rg D Rl) : ok g := by
  obtain ⟨_, _, _, h, _⟩ := H
  exact h
theorem own_lt {w : World} {e base : Nat} {ok : Nat → Prop} {v : Value} {xs : List Int} (h : Kd.R (Kd.int .i64) e w base ok v xs) {k : Nat} (hk : v.ownBlock = some k) (hl : w.heap.size ≤ k) : False := by
  have := ((Kd.R_bound h).1 k hk).2.2.1
  omega
set_option maxHeartbeats 2000000 in
set_option maxRecDepth 100000 in
theorem rraw_any (ok : Nat → Prop) (g n : Nat) (sz rg x : Int) (D Rl : List Int) (w : World) (hx0 : 0 ≤ x) (hx1 : x < 4294967296) (hn : n ≤ 16) (hRl : Rl.length ≤ 50000) (hfr : ∀ k, w.heap.size ≤ k → ok k) (H : RfB ok w g sz rg D Rl) :
    Calls Tryd.prog 38 #[.pointer (some ⟨g, 0, none⟩), .int .i64 x, .int .i64 (n : Int)] w fun e w' => e = .returned (.tuple #[]) ∧ RfB ok w' g sz rg D (Rl ++ (bitsOf x n).map b2i) ∧ Foot ok w w' := by
  have HFR := Aside0.mk hfr
  have HF := Aside0.mk (Foot.refl ok w)
  have HI : Aside0 (RfB ok w g sz rg D (Rl ++ (bitsOf x 0).map b2i)) := ⟨by simpa [bitsOf] using H⟩
  have HRL := Aside0.mk hRl
  clear hfr hRl H
  go_enter Tryd.func38, Tryd.ntmps38
  go_wp2
  go_loopw [1, 6] (fun xv iv wr => ∃ j : Nat, j ≤ n ∧ xv = .int .i64 (x / 2 ^ j) ∧ iv = .int .i64 (j : Int) ∧ Aside0 (RfB ok wr g sz rg D (Rl ++ (bitsOf x j).map b2i)) ∧ Aside0 (Foot ok w wr)) (fun _ iv _ => n - (intOf iv).toNat)
  case atStart => exact ⟨0, Nat.zero_le _, by simp, rfl, HI, HF⟩
  case round =>
    obtain ⟨j, hj, rfl, rfl, HI', HF'⟩ := hrel
    clear HI HF
    obtain ⟨y, hy⟩ : ∃ y, x / 2 ^ j = y := ⟨_, rfl⟩
    have hyb : 0 ≤ y ∧ y < 4294967296 := by rw [← hy]; exact ⟨Int.ediv_nonneg hx0 (by have := Int.pow_pos (n := 2) (m := j) (by decide); omega), Int.lt_of_le_of_lt (Int.ediv_le_self _ hx0) hx1⟩
    have HNY : Aside0 (y / 2 = x / 2 ^ (j + 1)) := ⟨by rw [← hy, Int.pow_succ, Int.ediv_ediv_of_nonneg (by have := Int.pow_pos (n := 2) (m := j) (by decide); omega)]⟩
    have hbit : b2i (lo x j) = y % 2 := by rw [← hy]; exact b2i_lo x j
    rw [hy]
    obtain ⟨hy0, hy1⟩ := hyb
    by_cases hjn : j < n
    · have hnew : Rl ++ (bitsOf x (j + 1)).map b2i = (Rl ++ (bitsOf x j).map b2i) ++ [y % 2] := by rw [bitsOf_more, List.map_append, List.append_assoc, List.map_singleton, hbit]
      have HNEW := Aside0.mk hnew
      obtain ⟨Rj, hRj⟩ : ∃ Rj, Rl ++ (bitsOf x j).map b2i = Rj := ⟨_, rfl⟩
      have hRl : Rj.length ≤ 60000 := by rw [← hRj, List.length_append, List.length_map, bitsOf_len]; have := HRL.out; omega
      have hA := HI'.out
      rw [hRj] at hA HNEW
      obtain ⟨vb, vr, hg, ho, h1, h2⟩ := hA
      obtain ⟨A4, c4, rfl⟩ := Kd.R_slice h2
      obtain ⟨mm, hmm⟩ : ∃ mm, Rj.length = mm := ⟨_, rfl⟩
      rw [hmm] at h1 h2 hg
      have HML : Aside0 (Rj.length = mm ∧ mm ≤ 60000) := ⟨hmm, by omega⟩
      have hc3 : wr.cell? ⟨g, 3, none⟩ = some (.slice A4 mm c4) := (blk_cell hg 3).trans rfl
      have hf3 := blk_frozen hg 3
      have HG := Aside0.mk hg
      have HO := Aside0.mk ho
      have HR1 := Aside0.mk h1
      have HR2 := Aside0.mk h2
      have HFR2 : Aside0 (∀ k, wr.heap.size ≤ k → (ok k ∧ k ≠ g) ∧ some k ≠ vb.ownBlock) := ⟨fun k hk => ⟨⟨HFR.out k (Nat.le_trans HF'.out.b.size hk), by have := blk_lt hg; omega⟩, fun e => own_lt h1 e.symm hk⟩⟩
      have HB0 := Aside0.mk (Below.refl 0 wr)
      have hcB : (wr.alloc (.cells #[.int .i64 (y % 2)] 3)).cell? ⟨g, 3, none⟩ = some (.slice A4 mm c4) := (blk_cell (blk_alloc hg _) 3).trans rfl
      have hjk' : (j : Int) < (n : Int) := by omega
      clear HI' hnew hRj hRl hmm hg ho h1 h2 hbit hy
      go_wp2_with (first | ((with_reducible refine gate_builtin (b := .append) (xs := #[.tmp 16, .tmp 19]) rfl ?_); at_builtin; refine Kd.R_append (Kd.int .i64) (w0 := wr) 0 rfl (.tmp 16) (.tmp 19) 42 3 (.int .i64 0) 8 rfl Tryd.underlying42 infoI rfl (by decide) (by decide) (.slice A4 mm c4) Rj (y % 2) [.int .i64 (y % 2)] (fun k => (ok k ∧ k ≠ g) ∧ some k ≠ vb.ownBlock) (fun _ => False) rfl rfl rfl (fun _ hk => hk.elim) HFR2.out HR2.out HB0.out (Nat.zero_le _) (by have := HML.out; omega) ?_; intro v1 w2 hR hb2 hgr hat; obtain ⟨A2, c2, rfl⟩ := Kd.R_slice hR; rw [show (Rj ++ [y % 2]).length = Rj.length + 1 from by simp] at hR hat; have HP := Aside0.mk (pushRl HG.out HO.out HR1.out HR2.out hR hgr hat); have HF2 := Aside0.mk (Foot.grown HF'.out hb2 hgr (fun k hk => (HR2.out.1 k hk).1.1)); have hc3 : w2.cell? ⟨g, 3, none⟩ = some (.slice A4 mm c4) := (blk_cell HP.out.2 3).trans rfl; have hf3 := blk_frozen HP.out.2 3; clear hR hb2 hgr hat))
      exact ⟨⟨j + 1, by omega, congrArg (Value.int .i64) HNY.out, congrArg (Value.int .i64) (by omega), ⟨by rw [HNEW.out]; exact HP.out.1⟩, ⟨Foot.set_ HF2.out (p := ⟨g, 3, none⟩) HO.out _⟩⟩, by simp [intOf]; omega⟩
    · obtain rfl : j = n := by omega
      have hjk' : ¬ (j : Int) < (j : Int) := by omega
      clear hjn hbit hy
      go_wp2
      first | go_end0 | ((try simp only [Exit.inBlock, Exit.then]); refine bodyPost_ret (results_none rfl _ _ _) rfl ?_)
      exact ⟨rfl, HI'.out, HF'.out⟩
set_option maxHeartbeats 2000000 in
set_option maxRecDepth 100000 in
theorem rput_any (ok : Nat → Prop) (g : Nat) (sz a b n p o : Int) (s : St) (R : List Bool) (w : World) (hok : Rd.ok a b n) (hs : Wr.Fair s 65537) (hm : s.m ≤ 900) (hfr : ∀ k, w.heap.size ≤ k → ok k) (H : RfAt ok w g sz s R) (hp : s.g / n = p) (ho : a * p = o) :
    Calls Tryd.prog 34 #[.pointer (some ⟨g, 0, none⟩), .int .i64 a, .int .i64 b, .int .i64 n] w fun e w' => e = .returned (.tuple #[]) ∧ RfAt ok w' g sz (Wr.put s a b n) R ∧ Foot ok w w' := by
  have HFR := Aside0.mk hfr
  have hg0 := hs.g0
  have hg1 := hs.g1
  obtain ⟨P0, P1, O0, O1, S0, S1⟩ := Rd.part_is (by omega) hg1 hok
  rw [hp] at P0 P1 O0 O1 S0 S1
  rw [ho] at O0 O1 S1
  have hok0 := hok
  obtain ⟨k0, k1, k2, k3⟩ := hok
  obtain ⟨G, hG⟩ : ∃ G, s.g = G := ⟨_, rfl⟩
  have CA : Aside0 (Calls Tryd.prog 48 #[.pointer (some ⟨g, 0, none⟩), .int .i64 o] w fun e w' => e = .returned (.tuple #[]) ∧ RfB ok w' g sz G (dig (s.V + o) (s.m + 3)) (R.map b2i) ∧ Foot ok w w') := ⟨hG ▸ add_any ok g (s.m + 3) sz s.g s.V o (R.map b2i) w H (by omega) O0 (by omega)⟩
  obtain ⟨hc0, hc1, _, _⟩ := H.cells
  have hf1 := H.frozen 1
  rw [hG] at hc1 hp hg0 hg1 O1 S1
  have hdiv : G / n = p := hp
  have hmul : a * p = o := ho
  have hn0 : ¬ n = 0 := by omega
  have hG0 : 0 ≤ G := by omega
  clear H hfr hp ho
  obtain ⟨fin, hfin⟩ : ∃ f, Wr.put s a b n = f := ⟨_, rfl⟩
  have hfin2 : Wr.step (Wr.step (⟨s.m, s.V + o, if b = n then G - o else (b - a) * p⟩ : St)) = fin := by
    rw [← hfin]; unfold Wr.put Wr.cut Rd.rg; rw [if_pos hok0, hG, hdiv, hmul]
  have hV0 : 0 ≤ s.V + o := by have := hs.v0; omega
  have hfinm : fin.m ≤ 902 := by rw [← hfin]; have := (Wr.put_m s a b n).2; omega
  by_cases hb : b = n
  · have d5 : (b == n) = true := by rw [hb]; exact beq_self_eq_true n
    rw [if_pos hb] at hfin2
    have hR16 : 16 ≤ G - o ∧ G - o ≤ 16777216 := by omega
    obtain ⟨R1, hR1⟩ : ∃ x, G - o = x := ⟨_, rfl⟩
    rw [hR1] at hfin2 hR16
    rw [hfin]
    clear hb hfin
    have HV0 := Aside0.mk hV0
    have HFIN := Aside0.mk (And.intro hfin2 hfinm)
    have HR16 := Aside0.mk hR16
    have hob : o ≤ 16777216 := by omega
    have u3 : wrap64 R1 = R1 := w64n (by omega) (by omega)
    have u2 : wrap64 ((b - a) * p) = (b - a) * p := w64n (by omega) (by omega)
    clear hfin2 hfinm hR16 hV0 hs P0 P1 O1 S0 S1 hok0
    go_enter Tryd.func34, Tryd.ntmps34
    go_wp2_with (first
      | (go_at_call 48; (with_reducible refine CA.out.mono ?_); rintro e w1 ⟨rfl, hI, hf⟩; have HI := Aside0.mk hI; have HF1 := Aside0.mk hf; have hc1 := hI.cells.2.1; have hf1 := hI.frozen 1; have HOG := Aside0.mk (rf_ok hI); clear hI hf))
    have HS0 : Aside0 (RfAt ok (w1.setCell ⟨g, 1, none⟩ (.int .i64 R1)) g sz ⟨s.m, s.V + o, R1⟩ R) := ⟨HI.out.set1 R1⟩
    have HS1 : Aside0 (16 ≤ (⟨s.m, s.V + o, R1⟩ : St).g ∧ (⟨s.m, s.V + o, R1⟩ : St).g ≤ 16777216 ∧ Wr.step (Wr.step (⟨s.m, s.V + o, R1⟩ : St)) = fin ∧ fin.m ≤ 902) := ⟨⟨HR16.out.1, HR16.out.2, HFIN.out.1, HFIN.out.2⟩⟩
    have HF2 : Aside0 (Foot ok w (w1.setCell ⟨g, 1, none⟩ (.int .i64 R1))) := ⟨Foot.set_ HF1.out (p := ⟨g, 1, none⟩) HOG.out _⟩
    clear HI HF1 hc1 hf1 CA hdiv hmul hob u2 u3 O0 d5 hc0 hG0 hg0 hg1 HV0 HFIN HR16 hR1
    go_loopw [] (fun wr => ∃ s2 : St, Aside0 (RfAt ok wr g sz s2 R) ∧ Aside0 (16 ≤ s2.g ∧ s2.g ≤ 16777216 ∧ Wr.step (Wr.step s2) = fin ∧ fin.m ≤ 902) ∧ Aside0 (Foot ok w wr)) (fun wr => (65537 - rgOf wr g).toNat)
    case atStart => exact ⟨_, HS0, HS1, HF2⟩
    case round =>
      obtain ⟨s2, HA, HS, HF⟩ := hrel
      clear HS0 HS1 HF2
      obtain ⟨G1, hG1⟩ : ∃ x, s2.g = x := ⟨_, rfl⟩
      have hr1 : rgOf wr g = G1 := by unfold rgOf; rw [HA.out.cells.2.1, hG1]; rfl
      have hg16 : 16 ≤ G1 ∧ G1 ≤ 16777216 := by have := HS.out; omega
      have hc1 : wr.cell? ⟨g, 1, none⟩ = some (.int .i64 G1) := hG1 ▸ HA.out.cells.2.1
      by_cases hle : G1 ≤ 65536
      · have hmm : s2.m + 1 ≤ 902 := by
          have h := HS.out
          have e : Wr.step s2 = Wr.stp s2 := by unfold Wr.step; rw [if_pos (by omega)]
          have h1 := (Wr.step_m (Wr.step s2)).1
          have h2 : (Wr.step s2).m = s2.m + 1 := by rw [e]; rfl
          have h3 : (Wr.step (Wr.step s2)).m ≤ 902 := by rw [h.2.2.1]; exact h.2.2.2
          omega
        have HS' : Aside0 (16 ≤ (Wr.stp s2).g ∧ (Wr.stp s2).g ≤ 16777216 ∧ Wr.step (Wr.step (Wr.stp s2)) = fin ∧ fin.m ≤ 902) := ⟨by simp only [Wr.stp]; omega, by simp only [Wr.stp]; omega, by rw [step_stp (by omega) (by omega)]; exact HS.out.2.2.1, HS.out.2.2.2⟩
        have hdd : dig s2.V (s2.m + 3) ++ [0] = dig (Wr.stp s2).V ((Wr.stp s2).m + 3) := by
          rw [Wr.dig_app _ _ _ (by omega) (by omega)]
          simp only [Wr.stp]
          rw [Int.add_zero, show s2.m + 3 + 1 = s2.m + 1 + 3 by omega]
        obtain ⟨DD, hDD⟩ : ∃ DD, dig s2.V (s2.m + 3) = DD := ⟨_, rfl⟩
        have hDl : DD.length ≤ 1000 := by rw [← hDD, dig_len]; omega
        have hA := (HA.out.set1 (G1 * 256) : RfB ok (wr.setCell ⟨g, 1, none⟩ (.int .i64 (G1 * 256))) g sz (G1 * 256) (dig s2.V (s2.m + 3)) (R.map b2i))
        rw [hDD] at hA hdd
        have HDD := Aside0.mk hdd
        obtain ⟨wq, hwq⟩ : ∃ wq, wr.setCell ⟨g, 1, none⟩ (.int .i64 (G1 * 256)) = wq := ⟨_, rfl⟩
        have HWQ := Aside0.mk hwq
        have HFQ : Aside0 (Foot ok w wq) := ⟨hwq ▸ Foot.set_ HF.out (p := ⟨g, 1, none⟩) HOG.out _⟩
        rw [hwq] at hA
        obtain ⟨vb, vr, hg, ho, h1, h2⟩ := hA
        obtain ⟨A3, c3, rfl⟩ := Kd.R_slice h1
        obtain ⟨mm, hmm2⟩ : ∃ x, DD.length = x := ⟨_, rfl⟩
        rw [hmm2] at h1 h2 hg
        have hf1 := HA.out.frozen 1
        have hc2 : wq.cell? ⟨g, 2, none⟩ = some (.slice A3 mm c3) := (blk_cell hg 2).trans rfl
        have hf2 := blk_frozen hg 2
        have HG := Aside0.mk hg
        have HR1 := Aside0.mk h1
        have HR2 := Aside0.mk h2
        have HFR2 : Aside0 (∀ k, wq.heap.size ≤ k → (ok k ∧ k ≠ g) ∧ some k ≠ vr.ownBlock) := ⟨fun k hk => ⟨⟨HFR.out k (Nat.le_trans HFQ.out.b.size hk), by have := blk_lt hg; omega⟩, fun e => own_lt h2 e.symm hk⟩⟩
        have HB0 := Aside0.mk (Below.refl 0 wq)
        have HML : Aside0 (DD.length = mm ∧ mm ≤ 1000) := ⟨hmm2, by omega⟩
        have hcB : (wq.alloc (.cells #[.int .i64 0] 3)).cell? ⟨g, 2, none⟩ = some (.slice A3 mm c3) := (blk_cell (blk_alloc hg _) 2).trans rfl
        have HGL := Aside0.mk (And.intro hg16 hle)
        have HGE := Aside0.mk hG1
        obtain ⟨hgA, hgB⟩ := hg16
        clear HA HS HF hG1 hdd hDD hDl hg ho h1 h2 hmm hmm2 hwq
        go_upto_region 7 with (fail)
        rw [HWQ.out]
        go_wp2_with (first | ((with_reducible refine gate_builtin (b := .append) (xs := #[.tmp 59, .tmp 60]) rfl ?_); at_builtin; refine Kd.R_append (Kd.int .i64) (w0 := wq) 0 rfl (.tmp 59) (.tmp 60) 42 3 (.int .i64 0) 8 rfl Tryd.underlying42 infoI rfl (by decide) (by decide) (.slice A3 mm c3) DD 0 [.int .i64 0] (fun k => (ok k ∧ k ≠ g) ∧ some k ≠ vr.ownBlock) (fun _ => False) rfl rfl rfl (fun _ hk => hk.elim) HFR2.out HR1.out HB0.out (Nat.zero_le _) (by have := HML.out; omega) ?_; intro v1 w2 hR hb2 hgr hat; obtain ⟨A2, c2, rfl⟩ := Kd.R_slice hR; rw [show (DD ++ [(0 : Int)]).length = DD.length + 1 from by simp] at hR hat; have HP := Aside0.mk (pushD HG.out HOG.out HR1.out HR2.out hR hgr hat); have HF3 := Aside0.mk (Foot.grown HFQ.out hb2 hgr (fun k hk => (HR1.out.1 k hk).1.1)); have hc2 : w2.cell? ⟨g, 2, none⟩ = some (.slice A3 mm c3) := (blk_cell HP.out.2 2).trans rfl; have hf2 := blk_frozen HP.out.2 2; clear hR hb2 hgr hat))
        have HN : Aside0 (RfAt ok (w2.setCell ⟨g, 2, none⟩ (.slice A2 (DD.length + 1) c2)) g sz (Wr.stp s2) R) := ⟨by
          have h := HP.out.1
          rw [HDD.out] at h
          unfold RfAt
          rw [show (Wr.stp s2).g = G1 * 256 by simp only [Wr.stp]; rw [HGE.out]]
          exact h⟩
        have hcm : rgOf (w2.setCell ⟨g, 2, none⟩ (.slice A2 (DD.length + 1) c2)) g = G1 * 256 := by unfold rgOf; rw [HN.out.cells.2.1, show (Wr.stp s2).g = G1 * 256 by simp only [Wr.stp]; rw [HGE.out]]; rfl
        exact ⟨⟨Wr.stp s2, HN, HS', ⟨Foot.set_ HF3.out (p := ⟨g, 2, none⟩) HOG.out _⟩⟩, by rw [hcm, hr1]; have := HGL.out; omega⟩
      · have HE : Aside0 (RfAt ok wr g sz fin R) := ⟨by
          have h := HS.out
          have e : Wr.step s2 = s2 := step_id (by omega)
          rw [e, e] at h
          rw [← h.2.2.1]
          exact HA.out⟩
        have hle' : decide (G1 ≤ 65536) = false := decide_eq_false hle
        clear HA HS hr1 hG1 hle hg16
        go_wp2
        first | go_end0 | ((try simp only [Exit.inBlock, Exit.then]); refine bodyPost_ret (results_none rfl _ _ _) rfl ?_)
        exact ⟨rfl, HE.out, HF.out⟩
  · have d5 : (b == n) = false := by simp [hb]
    rw [if_neg hb] at hfin2
    obtain ⟨R1, hR1⟩ : ∃ x, (b - a) * p = x := ⟨_, rfl⟩
    rw [hR1] at hfin2 S0 S1
    have hR16 : 16 ≤ R1 ∧ R1 ≤ 16777216 := by omega
    rw [hfin]
    clear hb hfin
    have HV0 := Aside0.mk hV0
    have HFIN := Aside0.mk (And.intro hfin2 hfinm)
    have HR16 := Aside0.mk hR16
    have hob : o ≤ 16777216 := by omega
    have u3 : wrap64 R1 = R1 := w64n (by omega) (by omega)
    have u2 : wrap64 ((b - a) * p) = (b - a) * p := w64n (by omega) (by omega)
    clear hfin2 hfinm hR16 hV0 hs P0 P1 O1 S0 S1 hok0
    go_enter Tryd.func34, Tryd.ntmps34
    go_wp2_with (first
      | (go_at_call 48; (with_reducible refine CA.out.mono ?_); rintro e w1 ⟨rfl, hI, hf⟩; have HI := Aside0.mk hI; have HF1 := Aside0.mk hf; have hc1 := hI.cells.2.1; have hf1 := hI.frozen 1; have HOG := Aside0.mk (rf_ok hI); clear hI hf))
    have HS0 : Aside0 (RfAt ok (w1.setCell ⟨g, 1, none⟩ (.int .i64 R1)) g sz ⟨s.m, s.V + o, R1⟩ R) := ⟨HI.out.set1 R1⟩
    have HS1 : Aside0 (16 ≤ (⟨s.m, s.V + o, R1⟩ : St).g ∧ (⟨s.m, s.V + o, R1⟩ : St).g ≤ 16777216 ∧ Wr.step (Wr.step (⟨s.m, s.V + o, R1⟩ : St)) = fin ∧ fin.m ≤ 902) := ⟨⟨HR16.out.1, HR16.out.2, HFIN.out.1, HFIN.out.2⟩⟩
    have HF2 : Aside0 (Foot ok w (w1.setCell ⟨g, 1, none⟩ (.int .i64 R1))) := ⟨Foot.set_ HF1.out (p := ⟨g, 1, none⟩) HOG.out _⟩
    clear HI HF1 hc1 hf1 CA hdiv hmul hob u2 u3 O0 d5 hc0 hG0 hg0 hg1 HV0 HFIN HR16 hR1
    go_loopw [] (fun wr => ∃ s2 : St, Aside0 (RfAt ok wr g sz s2 R) ∧ Aside0 (16 ≤ s2.g ∧ s2.g ≤ 16777216 ∧ Wr.step (Wr.step s2) = fin ∧ fin.m ≤ 902) ∧ Aside0 (Foot ok w wr)) (fun wr => (65537 - rgOf wr g).toNat)
    case atStart => exact ⟨_, HS0, HS1, HF2⟩
    case round =>
      obtain ⟨s2, HA, HS, HF⟩ := hrel
      clear HS0 HS1 HF2
      obtain ⟨G1, hG1⟩ : ∃ x, s2.g = x := ⟨_, rfl⟩
      have hr1 : rgOf wr g = G1 := by unfold rgOf; rw [HA.out.cells.2.1, hG1]; rfl
      have hg16 : 16 ≤ G1 ∧ G1 ≤ 16777216 := by have := HS.out; omega
      have hc1 : wr.cell? ⟨g, 1, none⟩ = some (.int .i64 G1) := hG1 ▸ HA.out.cells.2.1
      by_cases hle : G1 ≤ 65536
      · have hmm : s2.m + 1 ≤ 902 := by
          have h := HS.out
          have e : Wr.step s2 = Wr.stp s2 := by unfold Wr.step; rw [if_pos (by omega)]
          have h1 := (Wr.step_m (Wr.step s2)).1
          have h2 : (Wr.step s2).m = s2.m + 1 := by rw [e]; rfl
          have h3 : (Wr.step (Wr.step s2)).m ≤ 902 := by rw [h.2.2.1]; exact h.2.2.2
          omega
        have HS' : Aside0 (16 ≤ (Wr.stp s2).g ∧ (Wr.stp s2).g ≤ 16777216 ∧ Wr.step (Wr.step (Wr.stp s2)) = fin ∧ fin.m ≤ 902) := ⟨by simp only [Wr.stp]; omega, by simp only [Wr.stp]; omega, by rw [step_stp (by omega) (by omega)]; exact HS.out.2.2.1, HS.out.2.2.2⟩
        have hdd : dig s2.V (s2.m + 3) ++ [0] = dig (Wr.stp s2).V ((Wr.stp s2).m + 3) := by
          rw [Wr.dig_app _ _ _ (by omega) (by omega)]
          simp only [Wr.stp]
          rw [Int.add_zero, show s2.m + 3 + 1 = s2.m + 1 + 3 by omega]
        obtain ⟨DD, hDD⟩ : ∃ DD, dig s2.V (s2.m + 3) = DD := ⟨_, rfl⟩
        have hDl : DD.length ≤ 1000 := by rw [← hDD, dig_len]; omega
        have hA := (HA.out.set1 (G1 * 256) : RfB ok (wr.setCell ⟨g, 1, none⟩ (.int .i64 (G1 * 256))) g sz (G1 * 256) (dig s2.V (s2.m + 3)) (R.map b2i))
        rw [hDD] at hA hdd
        have HDD := Aside0.mk hdd
        obtain ⟨wq, hwq⟩ : ∃ wq, wr.setCell ⟨g, 1, none⟩ (.int .i64 (G1 * 256)) = wq := ⟨_, rfl⟩
        have HWQ := Aside0.mk hwq
        have HFQ : Aside0 (Foot ok w wq) := ⟨hwq ▸ Foot.set_ HF.out (p := ⟨g, 1, none⟩) HOG.out _⟩
        rw [hwq] at hA
        obtain ⟨vb, vr, hg, ho, h1, h2⟩ := hA
        obtain ⟨A3, c3, rfl⟩ := Kd.R_slice h1
        obtain ⟨mm, hmm2⟩ : ∃ x, DD.length = x := ⟨_, rfl⟩
        rw [hmm2] at h1 h2 hg
        have hf1 := HA.out.frozen 1
        have hc2 : wq.cell? ⟨g, 2, none⟩ = some (.slice A3 mm c3) := (blk_cell hg 2).trans rfl
        have hf2 := blk_frozen hg 2
        have HG := Aside0.mk hg
        have HR1 := Aside0.mk h1
        have HR2 := Aside0.mk h2
        have HFR2 : Aside0 (∀ k, wq.heap.size ≤ k → (ok k ∧ k ≠ g) ∧ some k ≠ vr.ownBlock) := ⟨fun k hk => ⟨⟨HFR.out k (Nat.le_trans HFQ.out.b.size hk), by have := blk_lt hg; omega⟩, fun e => own_lt h2 e.symm hk⟩⟩
        have HB0 := Aside0.mk (Below.refl 0 wq)
        have HML : Aside0 (DD.length = mm ∧ mm ≤ 1000) := ⟨hmm2, by omega⟩
        have hcB : (wq.alloc (.cells #[.int .i64 0] 3)).cell? ⟨g, 2, none⟩ = some (.slice A3 mm c3) := (blk_cell (blk_alloc hg _) 2).trans rfl
        have HGL := Aside0.mk (And.intro hg16 hle)
        have HGE := Aside0.mk hG1
        obtain ⟨hgA, hgB⟩ := hg16
        clear HA HS HF hG1 hdd hDD hDl hg ho h1 h2 hmm hmm2 hwq
        go_upto_region 7 with (fail)
        rw [HWQ.out]
        go_wp2_with (first | ((with_reducible refine gate_builtin (b := .append) (xs := #[.tmp 59, .tmp 60]) rfl ?_); at_builtin; refine Kd.R_append (Kd.int .i64) (w0 := wq) 0 rfl (.tmp 59) (.tmp 60) 42 3 (.int .i64 0) 8 rfl Tryd.underlying42 infoI rfl (by decide) (by decide) (.slice A3 mm c3) DD 0 [.int .i64 0] (fun k => (ok k ∧ k ≠ g) ∧ some k ≠ vr.ownBlock) (fun _ => False) rfl rfl rfl (fun _ hk => hk.elim) HFR2.out HR1.out HB0.out (Nat.zero_le _) (by have := HML.out; omega) ?_; intro v1 w2 hR hb2 hgr hat; obtain ⟨A2, c2, rfl⟩ := Kd.R_slice hR; rw [show (DD ++ [(0 : Int)]).length = DD.length + 1 from by simp] at hR hat; have HP := Aside0.mk (pushD HG.out HOG.out HR1.out HR2.out hR hgr hat); have HF3 := Aside0.mk (Foot.grown HFQ.out hb2 hgr (fun k hk => (HR1.out.1 k hk).1.1)); have hc2 : w2.cell? ⟨g, 2, none⟩ = some (.slice A3 mm c3) := (blk_cell HP.out.2 2).trans rfl; have hf2 := blk_frozen HP.out.2 2; clear hR hb2 hgr hat))
        have HN : Aside0 (RfAt ok (w2.setCell ⟨g, 2, none⟩ (.slice A2 (DD.length + 1) c2)) g sz (Wr.stp s2) R) := ⟨by
          have h := HP.out.1
          rw [HDD.out] at h
          unfold RfAt
          rw [show (Wr.stp s2).g = G1 * 256 by simp only [Wr.stp]; rw [HGE.out]]
          exact h⟩
        have hcm : rgOf (w2.setCell ⟨g, 2, none⟩ (.slice A2 (DD.length + 1) c2)) g = G1 * 256 := by unfold rgOf; rw [HN.out.cells.2.1, show (Wr.stp s2).g = G1 * 256 by simp only [Wr.stp]; rw [HGE.out]]; rfl
        exact ⟨⟨Wr.stp s2, HN, HS', ⟨Foot.set_ HF3.out (p := ⟨g, 2, none⟩) HOG.out _⟩⟩, by rw [hcm, hr1]; have := HGL.out; omega⟩
      · have HE : Aside0 (RfAt ok wr g sz fin R) := ⟨by
          have h := HS.out
          have e : Wr.step s2 = s2 := step_id (by omega)
          rw [e, e] at h
          rw [← h.2.2.1]
          exact HA.out⟩
        have hle' : decide (G1 ≤ 65536) = false := decide_eq_false hle
        clear HA HS hr1 hG1 hle hg16
        go_wp2
        first | go_end0 | ((try simp only [Exit.inBlock, Exit.then]); refine bodyPost_ret (results_none rfl _ _ _) rfl ?_)
        exact ⟨rfl, HE.out, HF.out⟩
end Go.Proofs.YtjmoklebimejaaaDoor.RfWalk
