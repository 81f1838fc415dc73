import Derived.Test.YtjmoklebimejaaaDoorWrPut
import Derived.Test.YtjmoklebimejaaaDoorPackPlain
namespace Go.Proofs.YtjmoklebimejaaaDoor.WrWalk
open Go.RowKit Go.Proofs.YtjmoklebimejaaaDoorW.PrintWords Go.Proofs.YtjmoklebimejaaaDoorW.PrintLast Go.Proofs.YtjmoklebimejaaaDoorW.PrintMore
open Go.Proofs.YtjmoklebimejaaaDoor.Wr (St dig crow)
attribute [local go_sem] max2_int min2_int max_two min_two max_three min_three max_four min_four   -- for this text's walks alone
open Go.Proofs.YtjmoklebimejaaaDoor.Pack (bitsOf bitsOf_more bitsOf_len lo)
set_option linter.unusedVariables false
set_option linter.unusedSimpArgs false
set_option maxHeartbeats 1000000 in
theorem raw_no1 (g : Nat) (x n : Int) (w : World) (d1 : decide (n < 0) = true) :
    Calls Tryd.prog 68 #[.pointer (some ⟨g, 0, none⟩), .int .u32 x, .int .i64 n] w fun e w' => e = .returned (.int .i64 1) ∧ Below w.heap.size w w' := by
  have HB := Aside0.mk (Below.refl w.heap.size w)
  skip
  go_enter Tryd.func68, Tryd.ntmps68
  go_wp2
  skip
  go_ret
  exact ⟨rfl, by repeat (first | exact HB.out | apply below_drew1 | apply pw_below_drewN)⟩
set_option maxHeartbeats 1000000 in
theorem raw_no2 (g : Nat) (x n : Int) (w : World) (d1 : decide (n < 0) = false) (d2 : decide ((16 : Int) < n) = true) :
    Calls Tryd.prog 68 #[.pointer (some ⟨g, 0, none⟩), .int .u32 x, .int .i64 n] w fun e w' => e = .returned (.int .i64 1) ∧ Below w.heap.size w w' := by
  have HB := Aside0.mk (Below.refl w.heap.size w)
  skip
  go_enter Tryd.func68, Tryd.ntmps68
  go_wp2
  skip
  go_ret
  exact ⟨rfl, by repeat (first | exact HB.out | apply below_drew1 | apply pw_below_drewN)⟩
set_option maxHeartbeats 1000000 in
theorem raw_no3 (g : Nat) (x n : Int) (w : World) (d1 : decide (n < 0) = false) (d2 : decide ((16 : Int) < n) = false) (hn : 0 ≤ n ∧ n ≤ 16) (e2 : (x / 2 ^ n.toNat != 0) = true) :
    Calls Tryd.prog 68 #[.pointer (some ⟨g, 0, none⟩), .int .u32 x, .int .i64 n] w fun e w' => e = .returned (.int .i64 1) ∧ Below w.heap.size w w' := by
  have HB := Aside0.mk (Below.refl w.heap.size w)
  obtain ⟨hn0, hn1⟩ := hn
  go_enter Tryd.func68, Tryd.ntmps68
  go_wp2
  repeat (go_quiet (fail); try go_wp2)
  go_ret
  exact ⟨rfl, by repeat (first | exact HB.out | apply below_drew1 | apply pw_below_drewN)⟩
theorem shr_u32 (x : Int) (j : Nat) (hj : j ≤ 32) : shr .u32 x (j : Int) = x / 2 ^ j := by
  unfold shr
  rw [show min ((j : Int)).toNat (IntKind.u32).bits = j by rw [Int.toNat_natCast]; exact Nat.min_eq_left (by show j ≤ 32; omega)]
theorem bit_is {x : Int} (h0 : 0 ≤ x) (h1 : x < 4294967296) (j : Nat) (hj : j ≤ 16) : bits .and .u32 (x / 2 ^ j) 1 = x / 2 ^ j % 2 := by
  have hp : (0 : Int) < 2 ^ j := Int.pow_pos (by decide)
  have := and_u32 (x / 2 ^ j) 1 (by decide) (Int.ediv_nonneg h0 (by omega)) (Int.lt_of_le_of_lt (Int.ediv_le_self _ h0) h1)
  simpa using this
set_option maxHeartbeats 2000000 in
set_option maxRecDepth 100000 in
theorem raw_ok (ok : Nat → Prop) (g : Nat) (sz rg lw x : Int) (k : Nat) (bs : List Int) (R : List Bool) (w : World) (hk : k ≤ 16) (hx0 : 0 ≤ x) (hx1 : x < 4294967296) (hR : R.length ≤ 50000) (hfr : ∀ k, w.heap.size ≤ k → ok k) (H : WrB ok w g sz rg lw bs R)
    (d1 : decide ((k : Int) < 0) = false) (d2 : decide ((16 : Int) < (k : Int)) = false) (e2 : (x / 2 ^ k != 0) = false) :
    Calls Tryd.prog 68 #[.pointer (some ⟨g, 0, none⟩), .int .u32 x, .int .i64 (k : Int)] w fun e w' => e = .returned (.int .i64 0) ∧ WrB ok w' g sz rg lw bs (R ++ bitsOf x k) ∧ Foot ok w w' := by
  have HFR := Aside0.mk hfr
  have HF := Aside0.mk (Foot.refl ok w)
  have HI : Aside0 (WrB ok w g sz rg lw bs (R ++ bitsOf x 0)) := ⟨by simpa [bitsOf] using H⟩
  have HRL := Aside0.mk hR
  clear hfr hR H
  go_enter Tryd.func68, Tryd.ntmps68
  go_wp2
  repeat (go_quiet (fail); try go_wp2)
  clear d1 d2 e2
  go_loopw [21] (fun i wr => ∃ j : Nat, j ≤ k ∧ i = .int .i64 (j : Int) ∧ Aside0 (WrB ok wr g sz rg lw bs (R ++ bitsOf x j)) ∧ Aside0 (Foot ok w wr)) (fun i wr => k - (intOf i).toNat)
  case atStart => exact ⟨0, Nat.zero_le _, rfl, HI, HF⟩
  case round =>
    obtain ⟨j, hj, rfl, HI', HF'⟩ := hrel
    clear HI HF
    by_cases hjk : j < k
    · obtain ⟨bb, hbb⟩ : ∃ bb, lo x j = bb := ⟨_, rfl⟩
      have hnew : R ++ bitsOf x (j + 1) = (R ++ bitsOf x j) ++ [bb] := by rw [bitsOf_more, hbb, List.append_assoc]
      have HNEW := Aside0.mk hnew
      obtain ⟨Rj, hRj⟩ : ∃ Rj, R ++ bitsOf x j = Rj := ⟨_, rfl⟩
      have hRl : Rj.length ≤ 60000 := by rw [← hRj, List.length_append, bitsOf_len]; have := HRL.out; omega
      have q1 : bits .and .u32 (x / 2 ^ j) 1 = x / 2 ^ j % 2 := bit_is hx0 hx1 j (by omega)
      have q2 : (x / 2 ^ j % 2 == 1) = bb := hbb
      have hA := HI'.out
      rw [hRj] at hA
      rw [hRj] at HNEW
      obtain ⟨vb, vr, hg, ho, h1, h2⟩ := hA
      obtain ⟨A4, c4, rfl⟩ := Kd.R_slice h2
      obtain ⟨mm, hmm⟩ : ∃ mm, Rj.length = mm := ⟨_, rfl⟩
      rw [hmm] at h2 hg
      have HML : Aside0 (Rj.length = mm ∧ mm ≤ 60000) := ⟨hmm, by omega⟩
      have hc4 : wr.cell? ⟨g, 4, none⟩ = some (.slice A4 mm c4) := (blk_cell hg 4).trans rfl
      have hf4 := blk_frozen hg 4
      have HG := Aside0.mk hg
      have HO := Aside0.mk ho
      have HR1 := Aside0.mk h1
      have HR2 := Aside0.mk h2
      have HFR2 : Aside0 (∀ k, wr.heap.size ≤ k → ok k ∧ k ≠ g) := ⟨fun k hk => ⟨HFR.out k (Nat.le_trans HF'.out.b.size hk), by have := blk_lt hg; omega⟩⟩
      have HB0 := Aside0.mk (Below.refl 0 wr)
      have hcB : (wr.alloc (.cells #[.bool bb] 4)).cell? ⟨g, 4, none⟩ = some (.slice A4 mm c4) := (blk_cell (blk_alloc hg _) 4).trans rfl
      have hjk' : (j : Int) < (k : Int) := by omega
      have hk2 : k ≤ 16 := hk
      clear HI' hnew hbb hRj hRl hmm hg ho h1 h2 
      go_upto_region 1 with (fail)
      go_region_law (first | ((try rw [alloc_drew]); refine Kd.R_append_step Kd.bool (w0 := wr) 0 (by rfl) (.tmp 28) (.tmp 34) 63 4 (.bool false) 1 rfl Tryd.underlying63 infoB rfl (by decide) (by decide) (.slice A4 mm c4) Rj bb [.bool bb] (fun k => ok k ∧ k ≠ g) (fun _ => False) ?aX ?aY ?aP (fun _ hk => hk.elim) ?aF ?aO ?aB ?aS ?aL ?_; (case aX => exact rfl); (case aY => exact rfl); (case aP => exact rfl); (case aF => exact HFR2.out); (case aO => exact (by first | exact HR2.out | exact Kd.R_drew HR2.out)); (case aB => exact (by first | exact HB0.out | exact below_drew1 HB0.out)); (case aS => exact Nat.zero_le _); (case aL => have := HML.out; omega); intro v1 w2 hR hb2 hgr hat; have hgr := grown_drew hgr; obtain ⟨A2, c2, rfl⟩ := Kd.R_slice hR; rw [show (Rj ++ [bb]).length = Rj.length + 1 from by simp] at hR; have HP := Aside0.mk (WrB.pushR HG.out HO.out HR1.out HR2.out hR hgr); have HF2 := Aside0.mk (Foot.grown HF'.out hb2 hgr (fun k hk => (HR2.out.1 k hk).1)); have hc4 : w2.cell? ⟨g, 4, none⟩ = some (.slice A4 mm c4) := (blk_cell HP.out.2 4).trans rfl; have hf4 := blk_frozen HP.out.2 4; clear hR hb2 hgr hat))
      all_goals
        go_wp2
        go_roundw
        case rel => exact ⟨j + 1, by omega, congrArg (Value.int .i64) (by omega), ⟨by rw [HNEW.out]; exact HP.out.1⟩, ⟨Foot.set_ HF2.out (p := ⟨g, 4, none⟩) HO.out _⟩⟩
        case measure => simp [intOf]; omega
    · obtain rfl : j = k := by omega
      clear hjk
      go_wp2
      go_ret
      exact ⟨rfl, HI'.out, HF'.out⟩
/-- Whatever raw bits are put. -/
abbrev Rw (x n : Int) : Prop := 0 ≤ n ∧ n ≤ 16 ∧ x < 2 ^ n.toNat
def rawN (x n : Int) : List Bool := if Rw x n then bitsOf x n.toNat else []
theorem raw_any (ok : Nat → Prop) (g : Nat) (sz rg lw x n : Int) (bs : List Int) (R : List Bool) (w : World) (hx0 : 0 ≤ x) (hx1 : x < 4294967296) (hR : R.length ≤ 50000) (hfr : ∀ k, w.heap.size ≤ k → ok k) (H : WrB ok w g sz rg lw bs R) :
    Calls Tryd.prog 68 #[.pointer (some ⟨g, 0, none⟩), .int .u32 x, .int .i64 n] w fun e w' => e = .returned (.int .i64 (if Rw x n then 0 else 1)) ∧ WrB ok w' g sz rg lw bs (R ++ rawN x n) ∧ Foot ok w w' := by
  unfold rawN
  have div0 : ∀ k : Nat, x / 2 ^ k = 0 ↔ x < 2 ^ k := fun k => by
    have hp : (0 : Int) < 2 ^ k := Int.pow_pos (by decide)
    constructor
    · intro h
      have h3 := Int.emod_add_mul_ediv x (2 ^ k)
      have h4 := Int.emod_lt_of_pos x hp
      rw [h, Int.mul_zero] at h3
      omega
    · intro h
      exact Int.ediv_eq_zero_of_lt hx0 h
  by_cases h : Rw x n
  · rw [if_pos h, if_pos h]
    obtain ⟨h0, h1, h2⟩ := h
    obtain ⟨k, rfl⟩ := Int.eq_ofNat_of_zero_le h0
    rw [Int.toNat_natCast] at h2 ⊢
    exact raw_ok ok g sz rg lw x k bs R w (by omega) hx0 hx1 hR hfr H (decide_eq_false (by omega)) (decide_eq_false (by omega)) (by rw [(div0 k).mpr h2]; rfl)
  · rw [if_neg h, if_neg h, List.append_nil]
    have fin : ∀ (e : Ending) (w' : World), (e = .returned (.int .i64 1) ∧ Below w.heap.size w w') → e = .returned (.int .i64 1) ∧ WrB ok w' g sz rg lw bs R ∧ Foot ok w w' := fun e w' hh => ⟨hh.1, H.below hh.2, Foot.of_below hh.2⟩
    by_cases h0 : n < 0
    · exact (raw_no1 g x n w (decide_eq_true h0)).mono fin
    · by_cases h1 : (16 : Int) < n
      · exact (raw_no2 g x n w (decide_eq_false h0) (decide_eq_true h1)).mono fin
      · refine (raw_no3 g x n w (decide_eq_false h0) (decide_eq_false h1) (by omega) ?_).mono fin
        have : ¬ x / 2 ^ n.toNat = 0 := fun e => h ⟨by omega, by omega, (div0 _).mp e⟩
        simp [this]
end Go.Proofs.YtjmoklebimejaaaDoor.WrWalk
