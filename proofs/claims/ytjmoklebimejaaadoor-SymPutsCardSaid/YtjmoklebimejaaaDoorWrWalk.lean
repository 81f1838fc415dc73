import Derived.Test.YtjmoklebimejaaaDoorOSymPutsx0
import Derived.Test.YtjmoklebimejaaaDoorWrMore
import Derived.LoopTactic
import Derived.Lib.SliceRun
import Derived.Deep.RegionHeld3
import Derived.WalkSpells
import Derived.Laws.CopyOwn
import Derived.Deep.RegionLaw
import Derived.StillTailTactics
namespace Go.Proofs.YtjmoklebimejaaaDoor.WrWalk
open Go.RowKit Go.Proofs.YtjmoklebimejaaaDoorW.PrintWords Go.Proofs.YtjmoklebimejaaaDoorW.PrintLast Go.Proofs.YtjmoklebimejaaaDoorW.PrintMore
open Go.Proofs.YtjmoklebimejaaaDoor.Wr (St dig crow)
attribute [local go_sem] max2_int min2_int max_two min_two max_three min_three max_four min_four   -- for this text's walks alone
set_option linter.unusedVariables false
set_option linter.unusedSimpArgs false
theorem wrap_u32 (n : Int) : IntKind.u32.wrap n = n % 4294967296 := by simp [IntKind.wrap, IntKind.bits, IntKind.signed]
theorem w64n {x : Int} (h0 : -9223372036854775808 ≤ x) (h1 : x < 9223372036854775808) : wrap64 x = x := by rw [← i64_w]; exact IntWalk.i64_in _ ⟨h0, by omega⟩
/-- What lies outside 'ok' stays. -/
structure Foot (ok : Nat → Prop) (w w' : World) : Prop where
  b : Below 0 w w'
  k : ∀ k, k < w.heap.size → ¬ ok k → w'.heap[k]? = w.heap[k]?
section
variable {ok : Nat → Prop} {w w1 w2 : World}
theorem Foot.refl (ok : Nat → Prop) (w : World) : Foot ok w w := ⟨Below.refl _ _, fun _ _ _ => rfl⟩
theorem Foot.trans (h : Foot ok w w1) (h2 : Foot ok w1 w2) : Foot ok w w2 := ⟨h.b.trans h2.b, fun k hk ho => (h2.k k (Nat.lt_of_lt_of_le hk h.b.size) ho).trans (h.k k hk ho)⟩
theorem Foot.of_below (h : Below w.heap.size w w1) : Foot ok w w1 := ⟨h.mono (Nat.zero_le _), fun k hk _ => h.block k hk⟩
theorem Foot.step (h : Foot ok w w1) (hb : Below w1.heap.size w1 w2) : Foot ok w w2 := h.trans (Foot.of_below hb)
theorem Foot.set_ (h : Foot ok w w1) {p : Addr} (hp : ok p.block) (u : Value) : Foot ok w (w1.setCell p u) :=
  h.trans ⟨Below.setCell (Below.refl 0 w1) (p := p) (Nat.zero_le _) u, fun k hk ho => Below.heap_setCell _ _ _ k (fun e => ho (e ▸ hp))⟩
theorem Foot.grown (h : Foot ok w w1) (hb : Below 0 w1 w2) {row : Option Nat} (hg : w1.grownBy w2 row) (hr : ∀ k, row = some k → ok k) : Foot ok w w2 :=
  h.trans ⟨hb, fun k hk ho => hg.block k hk (fun e => ho (hr k e.symm))⟩
theorem Foot.below {B : Nat} (h : Foot ok w w1) (hB : ∀ k, ok k → B ≤ k) (hs : B ≤ w.heap.size) : Below B w w1 :=
  ⟨h.b.os, h.b.tape, h.b.output, h.b.size, fun k hk => h.k k (Nat.lt_of_lt_of_le hk hs) (fun ho => by have := hB k ho; omega)⟩
theorem Foot.drew (h : Foot ok w w1) : Foot ok w w1.drew := h.step (below_drew1 (Below.refl _ _))
theorem Foot.alloc (h : Foot ok w w1) (o : Obj) : Foot ok w (w1.alloc o) := h.step (below_alloc (Below.refl _ _) _)
theorem Foot.mono {ok' : Nat → Prop} (h : Foot ok w w1) (ho : ∀ k, k < w.heap.size → ok k → ok' k) : Foot ok' w w1 := ⟨h.b, fun k hk hn => h.k k hk (fun h2 => hn (ho k hk h2))⟩
end
/-- A writer at a block: its rows are its own. -/
def WrB (ok : Nat → Prop) (w : World) (g : Nat) (sz rg lo : Int) (bs : List Int) (R : List Bool) : Prop :=
  ∃ vb vr, w.heap[g]? = some (.cells #[.int .i64 sz, .int .u32 rg, .int .u32 lo, vb, vr] 65 (0, 0)) ∧ ok g ∧ Kd.R (Kd.int .u8) 5 w 0 (fun k => ok k ∧ k ≠ g) vb bs ∧ Kd.R Kd.bool 4 w 0 (fun k => ok k ∧ k ≠ g) vr R
section
variable {ok : Nat → Prop} {w w1 : World} {g : Nat} {sz rg lo : Int} {bs : List Int} {R : List Bool}
theorem WrB.lt (H : WrB ok w g sz rg lo bs R) : g < w.heap.size := by
  obtain ⟨_, _, hg, _⟩ := H
  exact blk_lt hg
theorem WrB.okg (H : WrB ok w g sz rg lo bs R) : ok g := by
  obtain ⟨_, _, _, h, _⟩ := H
  exact h
theorem WrB.frozen (H : WrB ok w g sz rg lo bs R) (j : Nat) : w.frozen? ⟨g, j, none⟩ = false := by
  obtain ⟨_, _, hg, _⟩ := H
  exact blk_frozen hg j
theorem WrB.cells (H : WrB ok w g sz rg lo bs R) : w.cell? ⟨g, 0, none⟩ = some (.int .i64 sz) ∧ w.cell? ⟨g, 1, none⟩ = some (.int .u32 rg) ∧ w.cell? ⟨g, 2, none⟩ = some (.int .u32 lo) ∧ (∃ A c, w.cell? ⟨g, 3, none⟩ = some (.slice A bs.length c)) ∧ (∃ A c, w.cell? ⟨g, 4, none⟩ = some (.slice A R.length c)) := by
  obtain ⟨vb, vr, hg, _, h1, h2⟩ := H
  obtain ⟨A, c, rfl⟩ := Kd.R_slice h1
  obtain ⟨A', c', rfl⟩ := Kd.R_slice h2
  exact ⟨(blk_cell hg 0).trans rfl, (blk_cell hg 1).trans rfl, (blk_cell hg 2).trans rfl, ⟨A, c, (blk_cell hg 3).trans rfl⟩, ⟨A', c', (blk_cell hg 4).trans rfl⟩⟩
theorem WrB.below (H : WrB ok w g sz rg lo bs R) (hb : Below w.heap.size w w1) : WrB ok w1 g sz rg lo bs R := by
  obtain ⟨vb, vr, hg, ho, h1, h2⟩ := H
  exact ⟨vb, vr, (hb.block g (blk_lt hg)).trans hg, ho, Kd.R_below h1 hb, Kd.R_below h2 hb⟩
/-- Whatever is done elsewhere. -/
theorem WrB.foot {ok' : Nat → Prop} (H : WrB ok w g sz rg lo bs R) (h : Foot ok' w w1) (hd : ∀ k, ok k → k < w.heap.size → ¬ ok' k) : WrB ok w1 g sz rg lo bs R := by
  obtain ⟨vb, vr, hg, ho, h1, h2⟩ := H
  exact ⟨vb, vr, (h.k g (blk_lt hg) (hd g ho (blk_lt hg))).trans hg, ho, Kd.R_step h1 (fun k hk hlt => h.k k hlt (hd k hk.1 hlt)), Kd.R_step h2 (fun k hk hlt => h.k k hlt (hd k hk.1 hlt))⟩
theorem WrB.mono {ok' : Nat → Prop} (H : WrB ok w g sz rg lo bs R) (h : ∀ k, ok k → k < w.heap.size → ok' k) : WrB ok' w g sz rg lo bs R := by
  obtain ⟨vb, vr, hg, ho, h1, h2⟩ := H
  exact ⟨vb, vr, hg, h g ho (blk_lt hg), Kd.R_mono (Kd.R_bound h1) (fun k hk => ⟨h k hk.1.1 hk.2.2.1, hk.1.2⟩), Kd.R_mono (Kd.R_bound h2) (fun k hk => ⟨h k hk.1.1 hk.2.2.1, hk.1.2⟩)⟩
theorem WrB.set1 (H : WrB ok w g sz rg lo bs R) (x : Int) : WrB ok (w.setCell ⟨g, 1, none⟩ (.int .u32 x)) g sz x lo bs R := by
  obtain ⟨vb, vr, hg, ho, h1, h2⟩ := H
  exact ⟨vb, vr, by simpa using blk_set hg 1 (.int .u32 x), ho, Kd.R_far h1 (fun k hk => hk.2) _, Kd.R_far h2 (fun k hk => hk.2) _⟩
theorem WrB.set2 (H : WrB ok w g sz rg lo bs R) (x : Int) : WrB ok (w.setCell ⟨g, 2, none⟩ (.int .u32 x)) g sz rg x bs R := by
  obtain ⟨vb, vr, hg, ho, h1, h2⟩ := H
  exact ⟨vb, vr, by simpa using blk_set hg 2 (.int .u32 x), ho, Kd.R_far h1 (fun k hk => hk.2) _, Kd.R_far h2 (fun k hk => hk.2) _⟩
theorem WrB.drew (H : WrB ok w g sz rg lo bs R) : WrB ok w.drew g sz rg lo bs R := H.below (below_drew1 (Below.refl _ _))
theorem WrB.alloc (H : WrB ok w g sz rg lo bs R) (o : Obj) : WrB ok (w.alloc o) g sz rg lo bs R := H.below (below_alloc (Below.refl _ _) _)
end
theorem R_open {w : World} {e base n : Nat} {ok : Nat → Prop} {v : Value} {bs : List Int} (h : Kd.R (Kd.int .u8) e w base ok v bs) (hn : 0 < bs.length) : ∃ gb c, v = .slice (some ⟨gb, 0, none⟩) bs.length c := by
  obtain ⟨inner, hi, ho⟩ := Kd.R_own h
  rcases ho with ⟨_, h0⟩ | ⟨gb, cap, cur, rfl, _⟩
  · omega
  · exact ⟨gb, cap, rfl⟩
/-- The row at hand. -/
theorem WrB.row {ok : Nat → Prop} {w : World} {g : Nat} {sz rg lo : Int} {bs : List Int} {R : List Bool} (H : WrB ok w g sz rg lo bs R) (hn : 0 < bs.length) : ∃ gb c vr, w.heap[g]? = some (.cells #[.int .i64 sz, .int .u32 rg, .int .u32 lo, .slice (some ⟨gb, 0, none⟩) bs.length c, vr] 65 (0, 0)) ∧ ok g ∧ gb ≠ g ∧ ok gb ∧ Kd.R (Kd.int .u8) 5 w 0 (fun k => ok k ∧ k ≠ g) (.slice (some ⟨gb, 0, none⟩) bs.length c) bs ∧ Kd.R Kd.bool 4 w 0 (fun k => (ok k ∧ k ≠ g) ∧ k ≠ gb) vr R := by
  obtain ⟨vb, vr, hg, ho, h1, h2⟩ := H
  obtain ⟨gb, c, rfl⟩ := R_open (n := 0) h1 hn
  have hb : ok gb ∧ gb ≠ g := h1.1 gb (by simp [Value.ownBlock])
  refine ⟨gb, c, vr, hg, ho, hb.2, hb.1, h1, ?_⟩
  obtain ⟨cells, ht⟩ := Kd.R_typed h1 gb (by simp [Value.ownBlock])
  have h3 := Kd.R_types h2 ht (fun q hq => by rcases List.mem_cons.1 hq with h | h; exact h ▸ (by decide); exact nomatch (show q ∈ ([] : List Nat) from h))
  exact Kd.R_mono h3 (fun k hk => hk)
set_option maxHeartbeats 2000000 in
set_option maxRecDepth 100000 in
theorem carry_bs (ok : Nat → Prop) (g : Nat) (sz rg lo : Int) (W : Int) (m : Nat) (R : List Bool) (w : World) (H : WrB ok w g sz rg lo (dig W m) R) (hm : m ≤ 1000) (h0 : 0 ≤ W) (h1 : W + 1 < 256 ^ m) :
    Calls Tryd.prog 69 #[.pointer (some ⟨g, 0, none⟩)] w fun e w' => e = .returned (.tuple #[]) ∧ WrB ok w' g sz rg lo (dig (W + 1) m) R ∧ Foot ok w w' := by
  have hm0 : 0 < m := Wr.crow_lt (j := 0) h0 h1 (Nat.zero_le _)
  obtain ⟨gb, c, vr, hg, ho, hne, hob, hR, hRr⟩ := H.row (by rw [Wr.dig_len]; exact hm0)
  rw [Wr.dig_len] at hg hR
  clear H
  obtain ⟨K, hK⟩ : ∃ K : Nat, K + 1 = m := ⟨m - 1, by omega⟩
  have HG := Aside0.mk hg
  have HO := Aside0.mk ho
  have HOB := Aside0.mk hob
  have HNE := Aside0.mk hne
  have HRR := Aside0.mk hRr
  have HR : Aside0 (Kd.R (Kd.int .u8) 5 w 0 (fun k => ok k ∧ k ≠ g) (.slice (some ⟨gb, 0, none⟩) m c) (crow W m 0)) := ⟨by rw [Wr.crow_zero0]; exact hR⟩
  have HW : Aside0 (0 ≤ W ∧ W + 1 < 256 ^ (m - 0) ∧ dig (W + 1) m = crow (W + 1) m 0) := ⟨⟨h0, by simpa using h1, (Wr.crow_zero0 _ _).symm⟩⟩
  have hc3 : w.cell? ⟨g, 3, none⟩ = some (.slice (some ⟨gb, 0, none⟩) m c) := (blk_cell hg 3).trans rfl
  have hf : wrap64 ((m : Int) - 1) = (K : Int) := by rw [w64n (by omega) (by omega)]; omega
  clear hg ho hob hne hRr hR h0 h1
  go_enter Tryd.func69, Tryd.ntmps69
  go_wp2
  have HF := Aside0.mk (Foot.refl ok w)
  go_loopw [2] (fun i wr => ∃ (j k : Nat) (U : Int), k + j + 1 = m ∧ i = .int .i64 (k : Int) ∧ wr.cell? ⟨g, 3, none⟩ = some (.slice (some ⟨gb, 0, none⟩) m c) ∧ Aside0 (wr.heap[g]? = some (.cells #[.int .i64 sz, .int .u32 rg, .int .u32 lo, .slice (some ⟨gb, 0, none⟩) m c, vr] 65 (0, 0))) ∧ Aside0 (Kd.R (Kd.int .u8) 5 wr 0 (fun k => ok k ∧ k ≠ g) (.slice (some ⟨gb, 0, none⟩) m c) (crow U m j)) ∧ Aside0 (Kd.R Kd.bool 4 wr 0 (fun k => (ok k ∧ k ≠ g) ∧ k ≠ gb) vr R) ∧ Aside0 (0 ≤ U ∧ U + 1 < 256 ^ (m - j) ∧ dig (W + 1) m = crow (U + 1) m j) ∧ Aside0 (Foot ok w wr)) (fun i _ => (intOf i).toNat)
  case atStart => exact ⟨0, K, W, by omega, congrArg (Value.int .i64) (by omega), hc3, HG, HR, HRR, HW, HF⟩
  case round =>
    obtain ⟨j, k, U, hjk, rfl, hc3', HG', HR', HRR', HW', HF'⟩ := hrel
    clear hc3 HG HR HRR HW HF hf hK K
    obtain ⟨D, hD⟩ : ∃ D, U % 256 = D := ⟨_, rfl⟩
    have hr := Kd.R_cell (xs := crow U m j) (0 : Int) (by rw [Wr.crow_len (by omega)]; exact HR'.out) (k : Int) (by omega) (by rw [Wr.crow_len (by omega)]; omega)
    rw [show rdOf (0 : Int) (crow U m j) (k : Int) = D by rw [← hD, ← Wr.crow_at hjk]; unfold rdOf; rw [Int.toNat_natCast], Int.toNat_natCast] at hr
    obtain ⟨hr, hrf⟩ := hr
    have hp : ∀ x : Int, Kd.R (Kd.int .u8) 5 (wr.setCell ⟨gb, k, none⟩ (.int .u8 x)) 0 (fun k => ok k ∧ k ≠ g) (.slice (some ⟨gb, 0, none⟩) m c) ((crow U m j).set k x) := fun x => by
      have h := (Kd.R_put (xs := crow U m j) (by rw [Wr.crow_len (by omega)]; exact HR'.out) (k : Int) x).1
      rw [Wr.crow_len (by omega), Int.toNat_natCast] at h
      exact h
    have HP := Aside0.mk hp
    have hD0 : 0 ≤ D ∧ D ≤ 255 := by omega
    have k1 : (k : Int) < (m : Int) := by omega
    have HGn : ∀ x : Int, (wr.setCell ⟨gb, k, none⟩ (.int .u8 x)).heap[g]? = some (.cells #[.int .i64 sz, .int .u32 rg, .int .u32 lo, .slice (some ⟨gb, 0, none⟩) m c, vr] 65 (0, 0)) := fun x => blk_far HG'.out (p := ⟨gb, k, none⟩) (Ne.symm HNE.out) _
    have HGN := Aside0.mk HGn
    have HRn : ∀ x : Int, Kd.R Kd.bool 4 (wr.setCell ⟨gb, k, none⟩ (.int .u8 x)) 0 (fun k => (ok k ∧ k ≠ g) ∧ k ≠ gb) vr R := fun x => Kd.R_far HRR'.out (p := ⟨gb, k, none⟩) (fun k hk => hk.2) _
    have HRN := Aside0.mk HRn
    have HFn : ∀ x : Int, Foot ok w (wr.setCell ⟨gb, k, none⟩ (.int .u8 x)) := fun x => Foot.set_ HF'.out (p := ⟨gb, k, none⟩) HOB.out _
    have HFN := Aside0.mk HFn
    have HD := Aside0.mk hD
    clear hp HGn HRn HFn hD
    by_cases h255 : D = 255
    · have k2 : 1 ≤ k := by
        have := Wr.crow_lt2 hjk (HD.out.trans h255) HW'.out.2.1
        have h0 := HW'.out.1
        have := Wr.crow_lt (j := j + 1) (U := U / 256) (by omega) this (by omega)
        omega
      obtain ⟨k', rfl⟩ : ∃ k', k = k' + 1 := ⟨k - 1, by omega⟩
      have e1 : wrap64 (((k' + 1 : Nat) : Int) - 1) = (k' : Int) := by rw [w64n (by omega) (by omega)]; omega
      have HW2 : Aside0 (0 ≤ U / 256 ∧ U / 256 + 1 < 256 ^ (m - (j + 1)) ∧ dig (W + 1) m = crow (U / 256 + 1) m (j + 1)) := ⟨⟨by have := HW'.out.1; omega, Wr.crow_lt2 hjk (HD.out.trans h255) HW'.out.2.1, HW'.out.2.2.trans (Wr.crow_up hjk (HD.out.trans h255))⟩⟩
      have HR2 : Aside0 (Kd.R (Kd.int .u8) 5 (wr.setCell ⟨gb, k' + 1, none⟩ (.int .u8 0)) 0 (fun k => ok k ∧ k ≠ g) (.slice (some ⟨gb, 0, none⟩) m c) (crow (U / 256) m (j + 1))) := ⟨by have := HP.out 0; rwa [Wr.crow_nil hjk] at this⟩
      subst h255
      clear HW' HR' HP
      have e0 : IntKind.u8.wrap 0 = 0 := by decide
      go_wp2
      go_roundw
      case rel => exact ⟨j + 1, k', U / 256, by omega, congrArg (Value.int .i64) (by omega), by rw [World.cell?_setCell_other _ _ _ _ (by simp; exact fun h => absurd h HNE.out)]; exact hc3', ⟨HGN.out 0⟩, HR2, ⟨HRN.out 0⟩, HW2, ⟨HFN.out 0⟩⟩
      case measure => simp [intOf]
    · have e1 : IntKind.u8.wrap (D + 1) = D + 1 := by rw [show IntKind.u8.wrap (D + 1) = (D + 1) % 256 by simp [IntKind.wrap, IntKind.bits, IntKind.signed]]; omega
      have HR2 : Aside0 (Kd.R (Kd.int .u8) 5 (wr.setCell ⟨gb, k, none⟩ (.int .u8 (D + 1))) 0 (fun k => ok k ∧ k ≠ g) (.slice (some ⟨gb, 0, none⟩) m c) (dig (W + 1) m)) := ⟨by have := HP.out (D + 1); rw [HW'.out.2.2, ← Wr.crow_inc hjk (by rw [HD.out]; exact h255), HD.out]; exact this⟩
      clear HW' HR' HP HD
      go_wp2
      first | go_end0 | ((try simp only [Exit.inBlock, Exit.then]); refine bodyPost_ret (results_none rfl _ _ _) rfl ?_)
      exact ⟨rfl, ⟨_, vr, HGN.out _, HO.out, HR2.out, Kd.R_mono (HRN.out _) (fun k hk => hk.1)⟩, HFN.out _⟩
set_option maxHeartbeats 1000000 in
theorem left_at (ok : Nat → Prop) (g : Nat) (sz rg lo : Int) (bs : List Int) (R : List Bool) (w : World) (H : WrB ok w g sz rg lo bs R) (h0 : 0 ≤ sz ∧ sz ≤ 10000) (h1 : bs.length ≤ 10000) (h2 : R.length ≤ 100000) :
    Calls Tryd.prog 13 #[.pointer (some ⟨g, 0, none⟩)] w fun e w' => e = .returned (.int .i64 (8 * (sz - 3 - bs.length) - R.length)) ∧ Below w.heap.size w w' := by
  have HB := Aside0.mk (Below.refl w.heap.size w)
  obtain ⟨hc0, _, _, ⟨A3, c3, hc3⟩, ⟨A4, c4, hc4⟩⟩ := H.cells
  clear H
  obtain ⟨h0a, h0b⟩ := h0
  go_enter Tryd.func13, Tryd.ntmps13
  go_wp2
  repeat (go_quiet (fail); try go_wp2)
  go_ret
  exact ⟨rfl, by repeat (first | exact HB.out | apply below_drew1 | apply pw_below_drewN)⟩
set_option maxHeartbeats 1000000 in
theorem new_at (sz : Int) (h0 : 4 ≤ sz ∧ sz ≤ 1275) (w : World) :
    Calls Tryd.prog 7 #[.int .i64 sz] w fun e w' => ∃ g, e = .returned (.tuple #[.pointer (some ⟨g, 0, none⟩), .int .i64 0]) ∧ WrB (fun k => w.heap.size ≤ k) w' g sz 16777216 0 [] [] ∧ Below w.heap.size w w' := by
  obtain ⟨h0a, h0b⟩ := h0
  have HB := Aside0.mk (Below.refl w.heap.size w)
  have d0 : decide (sz < 4) = false := decide_eq_false (by omega)
  have d1 : decide ((1275 : Int) < sz) = false := decide_eq_false (by omega)
  go_enter Tryd.func7, Tryd.ntmps7
  go_wp2
  repeat (go_quiet (fail); try go_wp2)
  go_ret2
  exact ⟨w.heap.size, rfl, ⟨.slice none 0 0, .slice none 0 0, blk_new w _, Nat.le_refl _, Kd.R_nil _ _ _ _ _, Kd.R_nil _ _ _ _ _⟩, by repeat (first | exact HB.out | exact below_alloc HB.out _ | apply below_drew1 | apply pw_below_drewN)⟩
set_option maxHeartbeats 1000000 in
theorem new_no (sz : Int) (h0 : sz < 4 ∨ 1275 < sz) (w : World) :
    Calls Tryd.prog 7 #[.int .i64 sz] w fun e w' => e = .returned (.tuple #[.pointer none, .int .i64 2]) ∧ Below w.heap.size w w' := by
  have HB := Aside0.mk (Below.refl w.heap.size w)
  by_cases h4 : sz < 4
  · have d0 : decide (sz < 4) = true := decide_eq_true h4
    go_enter Tryd.func7, Tryd.ntmps7
    go_wp2
    go_ret2
    exact ⟨rfl, by repeat (first | exact HB.out | apply below_drew1 | apply pw_below_drewN)⟩
  · have d0 : decide (sz < 4) = false := decide_eq_false h4
    have d1 : decide ((1275 : Int) < sz) = true := decide_eq_true (by omega)
    go_enter Tryd.func7, Tryd.ntmps7
    go_wp2
    go_ret2
    exact ⟨rfl, by repeat (first | exact HB.out | apply below_drew1 | apply pw_below_drewN)⟩
end Go.Proofs.YtjmoklebimejaaaDoor.WrWalk
