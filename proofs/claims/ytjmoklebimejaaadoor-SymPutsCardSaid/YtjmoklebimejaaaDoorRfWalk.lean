import Derived.Test.YtjmoklebimejaaaDoorWrSep
import Derived.Test.YtjmoklebimejaaaDoorRfPlain
namespace Go.Proofs.YtjmoklebimejaaaDoor.RfWalk
open Go.RowKit Go.Proofs.YtjmoklebimejaaaDoorW.PrintWords Go.Proofs.YtjmoklebimejaaaDoorW.PrintLast Go.Proofs.YtjmoklebimejaaaDoorW.PrintMore
open Go.Proofs.YtjmoklebimejaaaDoor.Wr (St dig dig_len)
open Go.Proofs.YtjmoklebimejaaaDoor.WrWalk
open Go.Proofs.YtjmoklebimejaaaDoor.WrLaw
open Go.Proofs.YtjmoklebimejaaaDoor.Rf (arow car arow_len arow_0 arow_M arow_at arow_next car_0 car_step car_in b2i)
attribute [local go_sem] max2_int min2_int max_two min_two max_three min_three max_four min_four   -- for this text's walks alone
set_option linter.unusedVariables false
set_option linter.unusedSimpArgs false
/-- The document's writer at a block: its rows are its own, and apart. -/
def RfB (ok : Nat → Prop) (w : World) (g : Nat) (sz rg : Int) (D Rl : List Int) : Prop :=
  ∃ vb vr, w.heap[g]? = some (.cells #[.int .i64 sz, .int .i64 rg, vb, vr] 67 (0, 0)) ∧ ok g ∧ Kd.R (Kd.int .i64) 3 w 0 (fun k => (ok k ∧ k ≠ g) ∧ some k ≠ vr.ownBlock) vb D ∧ Kd.R (Kd.int .i64) 3 w 0 (fun k => (ok k ∧ k ≠ g) ∧ some k ≠ vb.ownBlock) vr Rl
section
variable {ok ok' : Nat → Prop} {w w1 : World} {g : Nat} {sz rg : Int} {D Rl : List Int}
theorem RfB.foot (H : RfB ok w g sz rg D Rl) (h : Foot ok' w w1) (hd : ∀ k, ok k → k < w.heap.size → ¬ ok' k) : RfB ok w1 g sz rg D Rl := by
  obtain ⟨vb, vr, hg, ho, h1, h2⟩ := H
  exact ⟨vb, vr, (h.k g (blk_lt hg) (hd g ho (blk_lt hg))).trans hg, ho, Kd.R_step h1 (fun k hk hlt => h.k k hlt (hd k hk.1.1 hlt)), Kd.R_step h2 (fun k hk hlt => h.k k hlt (hd k hk.1.1 hlt))⟩
theorem RfB.mono (H : RfB ok w g sz rg D Rl) (h : ∀ k, ok k → k < w.heap.size → ok' k) : RfB ok' w g sz rg D Rl := by
  obtain ⟨vb, vr, hg, ho, h1, h2⟩ := H
  exact ⟨vb, vr, hg, h g ho (blk_lt hg), Kd.R_mono (Kd.R_bound h1) (fun k hk => ⟨⟨h k hk.1.1.1 hk.2.2.1, hk.1.1.2⟩, hk.1.2⟩), Kd.R_mono (Kd.R_bound h2) (fun k hk => ⟨⟨h k hk.1.1.1 hk.2.2.1, hk.1.1.2⟩, hk.1.2⟩)⟩
theorem RfB.below (H : RfB ok w g sz rg D Rl) (hb : Below w.heap.size w w1) : RfB ok w1 g sz rg D Rl := by
  obtain ⟨vb, vr, hg, ho, h1, h2⟩ := H
  exact ⟨vb, vr, (hb.block g (blk_lt hg)).trans hg, ho, Kd.R_below h1 hb, Kd.R_below h2 hb⟩
theorem RfB.set1 (H : RfB ok w g sz rg D Rl) (x : Int) : RfB ok (w.setCell ⟨g, 1, none⟩ (.int .i64 x)) g sz x D Rl := by
  obtain ⟨vb, vr, hg, ho, h1, h2⟩ := H
  exact ⟨vb, vr, by simpa using blk_set hg 1 (.int .i64 x), ho, Kd.R_far h1 (fun k hk => hk.1.2) _, Kd.R_far h2 (fun k hk => hk.1.2) _⟩
theorem RfB.frozen (H : RfB ok w g sz rg D Rl) (j : Nat) : w.frozen? ⟨g, j, none⟩ = false := by
  obtain ⟨_, _, hg, _⟩ := H
  exact blk_frozen hg j
theorem RfB.cells (H : RfB ok w g sz rg D Rl) : w.cell? ⟨g, 0, none⟩ = some (.int .i64 sz) ∧ w.cell? ⟨g, 1, none⟩ = some (.int .i64 rg) ∧ (∃ A3 c3, w.cell? ⟨g, 2, none⟩ = some (.slice A3 D.length c3)) ∧ (∃ A4 c4, w.cell? ⟨g, 3, none⟩ = some (.slice A4 Rl.length c4)) := by
  obtain ⟨vb, vr, hg, ho, h1, h2⟩ := H
  obtain ⟨A3, c3, rfl⟩ := Kd.R_slice h1
  obtain ⟨A4, c4, rfl⟩ := Kd.R_slice h2
  exact ⟨(blk_cell hg 0).trans rfl, (blk_cell hg 1).trans rfl, ⟨A3, c3, (blk_cell hg 2).trans rfl⟩, ⟨A4, c4, (blk_cell hg 3).trans rfl⟩⟩
end
theorem R_openI {w : World} {e base : Nat} {ok : Nat → Prop} {v : Value} {xs : List Int} (h : Kd.R (Kd.int .i64) e w base ok v xs) (hn : 0 < xs.length) : ∃ gb c, v = .slice (some ⟨gb, 0, none⟩) xs.length c := by
  obtain ⟨inner, hi, ho⟩ := Kd.R_own h
  rcases ho with ⟨_, h0⟩ | ⟨gb, cap, cur, rfl, _⟩
  · omega
  · exact ⟨gb, cap, rfl⟩
theorem emod256 (x : Int) : 0 ≤ x % 256 ∧ x % 256 ≤ 255 := by omega
set_option maxHeartbeats 2000000 in
set_option maxRecDepth 100000 in
theorem add_any (ok : Nat → Prop) (g M : Nat) (sz rg V n : Int) (Rl : List Int) (w : World) (H : RfB ok w g sz rg (dig V M) Rl) (hM : M ≤ 1000) (h0 : 0 ≤ n) (h1 : n ≤ 16777216) :
    Calls Tryd.prog 48 #[.pointer (some ⟨g, 0, none⟩), .int .i64 n] w fun e w' => e = .returned (.tuple #[]) ∧ RfB ok w' g sz rg (dig (V + n) M) Rl ∧ Foot ok w w' := by
  obtain ⟨vb, vr, hg, ho, hD, hR⟩ := H
  obtain ⟨A3, c3, rfl⟩ := Kd.R_slice hD
  rw [dig_len] at hg hD hR
  have HG := Aside0.mk hg
  have HO := Aside0.mk ho
  have HRR := Aside0.mk hR
  have HDD : Aside0 (Kd.R (Kd.int .i64) 3 w 0 (fun k => (ok k ∧ k ≠ g) ∧ some k ≠ vr.ownBlock) (.slice A3 M c3) (arow V n M 0)) := ⟨by rw [arow_0]; exact hD⟩
  have HF := Aside0.mk (Foot.refl ok w)
  have hc2 : w.cell? ⟨g, 2, none⟩ = some (.slice A3 M c3) := (blk_cell hg 2).trans rfl
  have H01 := Aside0.mk (And.intro h0 h1)
  have hc0 : n = car V n 0 := (car_0 V n).symm
  have HC0 := Aside0.mk hc0
  have hM' : (M : Int) ≤ 1000 := by omega
  clear hg ho hR hD h0 h1 hc0
  go_enter Tryd.func48, Tryd.ntmps48
  go_wp2
  go_loopw [1, 4] (fun nv iv wr => ∃ (j kk : Nat), kk + j = M ∧ nv = .int .i64 (car V n j) ∧ iv = .int .i64 ((kk : Int) - 1) ∧ wr.cell? ⟨g, 2, none⟩ = some (.slice A3 M c3) ∧ Aside0 (wr.heap[g]? = some (.cells #[.int .i64 sz, .int .i64 rg, .slice A3 M c3, vr] 67 (0, 0))) ∧ Aside0 (Kd.R (Kd.int .i64) 3 wr 0 (fun k => (ok k ∧ k ≠ g) ∧ some k ≠ vr.ownBlock) (.slice A3 M c3) (arow V n M j)) ∧ Aside0 (Kd.R (Kd.int .i64) 3 wr 0 (fun k => (ok k ∧ k ≠ g) ∧ some k ≠ (Value.slice A3 M c3).ownBlock) vr Rl) ∧ Aside0 (Foot ok w wr)) (fun _ iv _ => (intOf iv + 1).toNat)
  case atStart => exact ⟨0, M, by omega, congrArg (Value.int .i64) HC0.out, rfl, hc2, HG, HDD, HRR, HF⟩
  case round =>
    obtain ⟨j, kk, hjk, rfl, rfl, hc2', HG', HD', HR', HF'⟩ := hrel
    clear hc2 HG HDD HRR HF HC0
    obtain ⟨cj, hcj⟩ : ∃ x, car V n j = x := ⟨_, rfl⟩
    have hcb := car_in (V := V) H01.out.1 H01.out.2 j
    rw [hcj] at hcb
    rw [hcj]
    have HCJ := Aside0.mk hcj
    clear hcj
    obtain ⟨hcb0, hcb1⟩ := hcb
    rcases kk with _ | k
    · obtain rfl : j = M := by omega
      go_wp2
      first | go_end0 | ((try simp only [Exit.inBlock, Exit.then]); refine bodyPost_ret (results_none rfl _ _ _) rfl ?_)
      exact ⟨rfl, ⟨_, vr, HG'.out, HO.out, by rw [← arow_M]; exact HD'.out, HR'.out⟩, HF'.out⟩
    · have hlen : (arow V n M j).length = M := arow_len (by omega)
      obtain ⟨gb, c', he⟩ := R_openI HD'.out (by rw [hlen]; omega)
      injection he with he1 he2 he3
      clear he2 he3
      subst he1
      have hok := HD'.out.1 gb rfl
      have hrc := Kd.R_cell (xs := arow V n M j) (0 : Int) (by rw [hlen]; exact HD'.out) (k : Int) (by omega) (by rw [hlen]; omega)
      have hat := arow_at (V := V) (n := n) (M := M) (j := j) (k := k) (by omega)
      obtain ⟨y, hy⟩ : ∃ y, V / 256 ^ j % 256 = y := ⟨_, rfl⟩
      rw [hy] at hat
      rw [show rdOf (0 : Int) (arow V n M j) (k : Int) = y by unfold rdOf; rw [Int.toNat_natCast]; exact hat, Int.toNat_natCast] at hrc
      obtain ⟨hck, hfk⟩ := hrc
      have hst := car_step V n j
      rw [HCJ.out, hy] at hst
      have hnx := arow_next (V := V) (n := n) (M := M) (j := j) (k := k) (by omega)
      rw [← hst.1] at hnx
      have hput := (Kd.R_put (xs := arow V n M j) (by rw [hlen]; exact HD'.out) (k : Int) ((cj + y) % 256)).1
      rw [hlen, Int.toNat_natCast, hnx] at hput
      have HPUT := Aside0.mk hput
      have HNX := Aside0.mk hst.2
      have hyb : 0 ≤ y ∧ y ≤ 255 := by rw [← hy]; exact emod256 _
      obtain ⟨hy0, hy1⟩ := hyb
      have hkM : (k : Int) < (M : Int) := by omega
      have HGS : Aside0 (∀ v, (wr.setCell ⟨gb, k, none⟩ v).heap[g]? = some (.cells #[.int .i64 sz, .int .i64 rg, .slice (some ⟨gb, 0, none⟩) M c3, vr] 67 (0, 0))) := ⟨fun v => blk_far HG'.out (p := ⟨gb, k, none⟩) (Ne.symm hok.1.2) v⟩
      have HRS : Aside0 (∀ v, Kd.R (Kd.int .i64) 3 (wr.setCell ⟨gb, k, none⟩ v) 0 (fun k => (ok k ∧ k ≠ g) ∧ some k ≠ (Value.slice (some ⟨gb, 0, none⟩) M c3).ownBlock) vr Rl) := ⟨fun v => Kd.R_far HR'.out (p := ⟨gb, k, none⟩) (fun k hk e => hk.2 (by rw [e]; rfl)) v⟩
      have HFS : Aside0 (∀ v, Foot ok w (wr.setCell ⟨gb, k, none⟩ v)) := ⟨fun v => Foot.set_ HF'.out (p := ⟨gb, k, none⟩) hok.1.1 v⟩
      have hne : gb ≠ g := hok.1.2
      have hc2s : ∀ v, (wr.setCell ⟨gb, k, none⟩ v).cell? ⟨g, 2, none⟩ = some (.slice (some ⟨gb, 0, none⟩) M c3) := fun v => (blk_cell (HGS.out v) 2).trans rfl
      have HC2S := Aside0.mk hc2s
      have hneA := Aside0.mk hne
      clear hlen hok hat hy hst hnx hput hne hc2s HCJ HD' HR' HG' HF'
      go_wp2
      exact ⟨⟨j + 1, k, by omega, congrArg (Value.int .i64) HNX.out, rfl, HC2S.out _, ⟨HGS.out _⟩, HPUT, ⟨HRS.out _⟩, ⟨HFS.out _⟩⟩, by simp [intOf]⟩
set_option maxHeartbeats 1000000 in
theorem rleft_any (ok : Nat → Prop) (g : Nat) (sz rg : Int) (D Rl : List Int) (w : World) (H : RfB ok w g sz rg D Rl) (h0 : 0 ≤ sz ∧ sz ≤ 10000) (h1 : D.length ≤ 10000) (h2 : Rl.length ≤ 100000) :
    Calls Tryd.prog 14 #[.pointer (some ⟨g, 0, none⟩)] w fun e w' => e = .returned (.int .i64 (8 * sz - 8 * D.length - Rl.length)) ∧ Below w.heap.size w w' := by
  have HB := Aside0.mk (Below.refl w.heap.size w)
  obtain ⟨hc0, _, ⟨A3, c3, hc3⟩, ⟨A4, c4, hc4⟩⟩ := H.cells
  clear H
  obtain ⟨h0a, h0b⟩ := h0
  go_enter Tryd.func14, Tryd.ntmps14
  go_wp2
  repeat (go_quiet (fail); try go_wp2)
  go_ret
  exact ⟨rfl, by repeat (first | exact HB.out | apply below_drew1 | apply pw_below_drewN)⟩
theorem alloc_size (w : World) (o : Obj) : (w.alloc o).heap.size = w.heap.size + 1 := Array.size_push _
def RfAt (ok : Nat → Prop) (w : World) (g : Nat) (sz : Int) (s : St) (R : List Bool) : Prop := RfB ok w g sz s.g (dig s.V (s.m + 3)) (R.map b2i)
set_option maxHeartbeats 1000000 in
theorem rnew_any (sz : Int) (w : World) :
    Calls Tryd.prog 8 #[.int .i64 sz] w fun e w' => ∃ g, e = .returned (.pointer (some ⟨g, 0, none⟩)) ∧ RfAt (fun k => w.heap.size ≤ k) w' g sz Wr.new [] ∧ Below w.heap.size w w' := by
  have HB := Aside0.mk (Below.refl w.heap.size w)
  go_enter Tryd.func8, Tryd.ntmps8
  go_wp2
  repeat (go_quiet (fail); try go_wp2)
  go_ret
  refine ⟨w.heap.size + 1, rfl, ⟨.slice (some ⟨w.heap.size, 0, none⟩) 3 3, .slice none 0 0, ?_, Nat.le_succ _, ?_, Kd.R_nil _ _ _ _ _⟩, below_alloc (below_alloc HB.out _) _⟩
  · have h := blk_new (w.alloc (Obj.cells #[Value.int IntKind.i64 0, Value.int IntKind.i64 0, Value.int IntKind.i64 0] 3)) (Obj.cells #[Value.int IntKind.i64 sz, Value.int IntKind.i64 16777216, Value.slice (some ⟨w.heap.size, 0, none⟩) 3 3, Value.slice none 0 0] 67)
    rw [alloc_size] at h
    exact h
  · have h : Kd.R (Kd.int .i64) 3 (w.alloc (Obj.cells #[Value.int IntKind.i64 0, Value.int IntKind.i64 0, Value.int IntKind.i64 0] 3)) 0 (fun k => (w.heap.size ≤ k ∧ k ≠ w.heap.size + 1) ∧ some k ≠ (Value.slice none 0 0).ownBlock) (.slice (some ⟨w.heap.size, 0, none⟩) 3 3) (dig 0 3) := Kd.R_of_own (own_lit w 0 3 .i64 [0, 0, 0] (Nat.zero_le _) (by decide)) (fun k hk => by
      simp only [Value.ownBlock, Option.some.injEq] at hk
      subst hk
      exact ⟨⟨Nat.le_refl _, by omega⟩, by simp [Value.ownBlock]⟩)
    exact Kd.R_below h (below_alloc (Below.refl _ _) _)
section
variable {ok : Nat → Prop} {w w1 : World} {g : Nat} {sz rg : Int} {D Rl : List Int} {vb vr v1 : Value} {d : Int}
theorem pushD (hg : w.heap[g]? = some (.cells #[.int .i64 sz, .int .i64 rg, vb, vr] 67 (0, 0))) (ho : ok g) (h1 : Kd.R (Kd.int .i64) 3 w 0 (fun k => (ok k ∧ k ≠ g) ∧ some k ≠ vr.ownBlock) vb D) (h2 : Kd.R (Kd.int .i64) 3 w 0 (fun k => (ok k ∧ k ≠ g) ∧ some k ≠ vb.ownBlock) vr Rl) (hR : Kd.R (Kd.int .i64) 3 w1 0 (fun k => (ok k ∧ k ≠ g) ∧ some k ≠ vr.ownBlock) v1 (D ++ [d])) (hgr : w.grownBy w1 vb.ownBlock) (hat : v1.ownBlock = vb.ownBlock ∨ ∃ b, v1.ownBlock = some b ∧ w.heap.size ≤ b) :
    RfB ok (w1.setCell ⟨g, 2, none⟩ v1) g sz rg (D ++ [d]) Rl ∧ w1.heap[g]? = some (.cells #[.int .i64 sz, .int .i64 rg, vb, vr] 67 (0, 0)) := by
  have hg1 : w1.heap[g]? = some (.cells #[.int .i64 sz, .int .i64 rg, vb, vr] 67 (0, 0)) := blk_grown hg hgr (fun e => (h1.1 g e.symm).1.2 rfl)
  refine ⟨⟨v1, vr, by simpa using blk_set hg1 2 v1, ho, Kd.R_far hR (fun k hk => hk.1.2) _, Kd.R_far (Kd.R_mono (Kd.R_grown (Kd.R_bound h2) hgr (fun k hk => hk.1.2)) (fun k hk => ⟨hk.1.1, fun e => ?_⟩)) (fun k hk => hk.1.2) _⟩, hg1⟩
  rcases hat with h | ⟨b, hb, hlt⟩
  · exact hk.1.2 (e.trans h)
  · rw [hb] at e; injection e with e; have := hk.2.2.1; omega
theorem pushRl (hg : w.heap[g]? = some (.cells #[.int .i64 sz, .int .i64 rg, vb, vr] 67 (0, 0))) (ho : ok g) (h1 : Kd.R (Kd.int .i64) 3 w 0 (fun k => (ok k ∧ k ≠ g) ∧ some k ≠ vr.ownBlock) vb D) (h2 : Kd.R (Kd.int .i64) 3 w 0 (fun k => (ok k ∧ k ≠ g) ∧ some k ≠ vb.ownBlock) vr Rl) (hR : Kd.R (Kd.int .i64) 3 w1 0 (fun k => (ok k ∧ k ≠ g) ∧ some k ≠ vb.ownBlock) v1 (Rl ++ [d])) (hgr : w.grownBy w1 vr.ownBlock) (hat : v1.ownBlock = vr.ownBlock ∨ ∃ b, v1.ownBlock = some b ∧ w.heap.size ≤ b) :
    RfB ok (w1.setCell ⟨g, 3, none⟩ v1) g sz rg D (Rl ++ [d]) ∧ w1.heap[g]? = some (.cells #[.int .i64 sz, .int .i64 rg, vb, vr] 67 (0, 0)) := by
  have hg1 : w1.heap[g]? = some (.cells #[.int .i64 sz, .int .i64 rg, vb, vr] 67 (0, 0)) := blk_grown hg hgr (fun e => (h2.1 g e.symm).1.2 rfl)
  refine ⟨⟨vb, v1, by simpa using blk_set hg1 3 v1, ho, Kd.R_far (Kd.R_mono (Kd.R_grown (Kd.R_bound h1) hgr (fun k hk => hk.1.2)) (fun k hk => ⟨hk.1.1, fun e => ?_⟩)) (fun k hk => hk.1.2) _, Kd.R_far hR (fun k hk => hk.1.2) _⟩, hg1⟩
  rcases hat with h | ⟨b, hb, hlt⟩
  · exact hk.1.2 (e.trans h)
  · rw [hb] at e; injection e with e; have := hk.2.2.1; omega
end
end Go.Proofs.YtjmoklebimejaaaDoor.RfWalk
