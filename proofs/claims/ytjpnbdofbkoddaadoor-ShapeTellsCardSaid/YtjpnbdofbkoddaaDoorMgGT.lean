import Derived.Test.YtjpnbdofbkoddaaDoorMgFT
import Derived.Test.YtjpnbdofbkoddaaDoorMgET
import Derived.LoopTactic
import Derived.Test.YtjpnbdofbkoddaaDoorOShapeNoisex2T
import Derived.Test.YtjpnbdofbkoddaaDoorOShapeNoisex0T
import Derived.Test.YtjpnbdofbkoddaaDoorShapeNoiseT
import Derived.Test.YtjpnbdofbkoddaaDoorShoT
set_option linter.unusedVariables false
set_option linter.unusedSimpArgs false
namespace Go.Proofs.YtjpnbdofbkoddaaDoor.Sh
open Go.RowKit Go.Proofs.YtjpnbdofbkoddaaDoorW.PrintWords Go.Proofs.YtjpnbdofbkoddaaDoorW.PrintLast Go.Proofs.YtjpnbdofbkoddaaDoorW.PrintMore
open Go.Proofs.YtjpnbdofbkoddaaDoor.OShapeSeeds Go.Proofs.YtjpnbdofbkoddaaDoor.Sy Go.Proofs.YtjpnbdofbkoddaaDoor.SyWalk Go.Proofs.YtjpnbdofbkoddaaDoor.WrWalk
open Go.Proofs.YtjpnbdofbkoddaaDoor.ShapePlain (sc sc_len sc_in)
open Go.Proofs.YtjpnbdofbkoddaaDoor.NoisePlain (fo fo_len fo_in hd lcg nz fz fv em)
open Go.Proofs.YtjpnbdofbkoddaaDoor.Spread (sp sp_len)
structure Ask (cs wc : Array Value) (x a b : Int) (ps : List Int) (si it : Bool) (sp tr : Int) : Prop where
 sz : cs.size = 47
 c0 : cs[0]? = some (.int .u16 x)
 hx : 0 ≤ x ∧ x < 65536
 c1 : cs[1]? = some (.int .u8 a)
 c2 : cs[2]? = some (.int .u8 b)
 ha : 0 ≤ a ∧ a ≤ 255
 hb : 0 ≤ b ∧ b ≤ 255
 pl : ps.length = 10
 pr : ∀ p ∈ ps, 0 ≤ p ∧ p ≤ 255
 c3 : ∀ j v, (ps.map (Value.int .u8))[j]? = some v → cs[3 + j]? = some v
 wsz : wc.size = 34
 c13 : ∀ j v, wc.toList[j]? = some v → cs[13 + j]? = some v
 w : Wish wc si it sp tr
structure LI (w0 w : World) (cs : Array Value) (s c : Nat) (ps : List Int) (g5 g6 : Nat) : Prop where
 b : Below w0.heap.size w0 w
 a : w.heap[w0.heap.size]? = some (.cells cs 51 (0, 0))
 m : w.heap[g5]? = some (.cells #[.int .i64 (s : Int), .int .i64 (c : Int)] 53 (0, 0))
 p : w.heap[g6]? = some (.cells (ps.map (Value.int .i64)).toArray 55 (0, 0))
 n5 : w0.heap.size ≤ g5
 n6 : w0.heap.size ≤ g6
 lm : Mode.Laid w
 lp : Shape.Laid w
 ls : Spread.Laid w
section
variable {w0 w w1 : World} {cs : Array Value} {s c : Nat} {ps : List Int} {g5 g6 : Nat}
theorem LI.below (h : LI w0 w cs s c ps g5 g6) (hb : Below w.heap.size w w1) : LI w0 w1 cs s c ps g5 g6 :=
 ⟨below_step h.b hb, blk_below h.a hb, blk_below h.m hb, blk_below h.p hb, h.n5, h.n6, h.lm.below hb, h.lp.below hb, h.ls.below hb⟩
end
def Z2 : Array Value := #[.int .i64 0, .int .i64 0]
def Z10 : Array Value := #[.int .i64 0, .int .i64 0, .int .i64 0, .int .i64 0, .int .i64 0, .int .i64 0, .int .i64 0, .int .i64 0, .int .i64 0, .int .i64 0]
theorem z53 : (Tryd.prog.info? 53).map (·.zero) = some (some (.agg Z2)) := by kernel_rfl
theorem z55 : (Tryd.prog.info? 55).map (·.zero) = some (some (.agg Z10)) := by kernel_rfl
theorem z61 : (Tryd.prog.info? 61).map (·.zero) = some (some (.agg F0.cells.toArray)) := by kernel_rfl
section
variable {P : Program}
theorem store_rowG {ops : Array Oper} {rest : List Oper} {o : Oper} {a : Act} {w : World} {Q : Exit → Act → World → Prop} (hgd : o.guard = none) (ty : TypeId) (x y : Operand) (ho : o.op = .store ty x y)
 (g : Nat) (cells : Array Value) (hx : a.eval x = .pointer (some ⟨g, 0, none⟩)) (hy : a.eval y = .agg cells)
 (t : TypeId) (old : Array Value) (hg : w.heap[g]? = some (.cells old t (0, 0))) (hi : (P.info? ty).map (·.size) = some cells.size)
 (hold : old.size = cells.size) (h1 : cells.all (·.oneCell') = true)
 (h : ∀ W, W.heap[g]? = some (.cells cells t (0, 0)) → (∀ k, k ≠ g → W.heap[k]? = w.heap[k]?) → (∀ B w0, Below B w0 w → B ≤ g → Below B w0 W) → wpList P ops Q rest (a.put o.dst undef) W) : wpList P ops Q (o :: rest) a w :=
 wpList_store_row hgd ty x y ho g cells hx hy t old hg hi hold h1 (h _ (setRow_heap _ _ _ _ _ _ hg) (fun k hk => setRow_other _ _ _ _ hk) (fun B w0 hb hB => below_setRow hb hB _))
theorem wp_alloc_to {o : Oper} {a : Act} {w : World} {K : Act → World → Prop} {Q : Exit → Act → World → Prop} (ty : TypeId) (ho : o.op = .alloc ty) (cs : Array Value)
 (hz : (P.info? ty).map (·.zero) = some (some (.agg cs))) (h : K (a.put o.dst (.pointer (some ⟨w.heap.size, 0, none⟩))) (w.alloc (.cells cs ty))) : Oper.wp P o a w K Q := by
 cases hq : P.info? ty with
 | none => simp [hq] at hz
 | some i =>
  have hz2 : i.zero = some (.agg cs) := by simpa [hq] using hz
  have hrun : (Instr.alloc ty true (.tuple #[])).run P w = .ok (.pointer (some ⟨w.heap.size, 0, none⟩)) (w.alloc (.cells cs ty)) := by
   simp [Instr.alloc, zeroValue, typeInfo, Sem.run_bind, hq, hz2, newVar, newRow, newObj, Value.cells, World.alloc_eq]; rfl
  unfold Oper.wp execOp
  simp only [ho, Sem.run_bind, hrun, Result.andThen_ok]
  exact h
end
theorem row53 (s c : Nat) : (#[Value.int .i64 (s : Int), .int .i64 (c : Int)] : Array Value).all (·.oneCell') = true := by simp [Value.oneCell']
theorem far_laid {w w1 : World} {g : Nat} (hg : 3 ≤ g) (hf : ∀ k, k ≠ g → w1.heap[k]? = w.heap[k]?) (h : Mode.Laid w ∧ Shape.Laid w ∧ Spread.Laid w) : Mode.Laid w1 ∧ Shape.Laid w1 ∧ Spread.Laid w1 :=
 ⟨mode_far h.1 (fun k hk => hf k (by omega)), pow_far h.2.1 (fun k hk => hf k (by omega)), spread_far h.2.2 (fun k hk => hf k (by omega))⟩
structure LF (w0 w : World) (cs : Array Value) (s c : Nat) (ps : List Int) (g5 g6 g7 : Nat) (f : Fr) : Prop where
 l : LI w0 w cs s c ps g5 g6
 f7 : w.heap[g7]? = some (.cells f.cells.toArray 61 (0, 0))
 n7 : w0.heap.size ≤ g7
theorem LF.below {w0 w w1 : World} {cs : Array Value} {s c : Nat} {ps : List Int} {g5 g6 g7 : Nat} {f : Fr} (h : LF w0 w cs s c ps g5 g6 g7 f) (hb : Below w.heap.size w w1) : LF w0 w1 cs s c ps g5 g6 g7 f :=
 ⟨h.l.below hb, blk_below h.f7 hb, h.n7⟩
theorem LI.frame {w0 w : World} {cs : Array Value} {s c : Nat} {ps : List Int} {g5 g6 g7 : Nat} {f : Fr} (h : LI w0 w cs s c ps g5 g6) (h3 : 3 ≤ w0.heap.size) (h7 : w.heap[g7]? = some (.cells F0.cells.toArray 61 (0, 0))) (hn : w0.heap.size < g7) : LF w0 (w.setRow g7 f.cells.toArray) cs s c ps g5 g6 g7 f := by
 have far : ∀ k, k ≠ g7 → (w.setRow g7 f.cells.toArray).heap[k]? = w.heap[k]? := fun k hk => setRow_other _ _ _ _ hk
 have e5 : g5 ≠ g7 := blk_ne h.m h7 (by decide)
 have e6 : g6 ≠ g7 := blk_ne h.p h7 (by decide)
 have hl := far_laid (by omega) far ⟨h.lm, h.lp, h.ls⟩
 exact ⟨⟨below_setRow h.b (by omega) _, (far _ (by omega)).trans h.a, (far _ e5).trans h.m, (far _ e6).trans h.p, h.n5, h.n6, hl.1, hl.2.1, hl.2.2⟩, setRow_heap _ _ _ _ _ _ h7, by omega⟩
theorem wish_range {w : World} {cs wc : Array Value} {x a b : Int} {ps : List Int} {si it : Bool} {sp tr : Int} {g t : Nat} (h : Ask cs wc x a b ps si it sp tr) (hg : w.heap[g]? = some (.cells cs t (0, 0))) : w.rangeAt g 13 wc.toList := fun j v hv => by
 rw [blk_cell hg]
 exact h.c13 j v hv
theorem laid_size {w : World} (ls : Spread.Laid w) : 3 ≤ w.heap.size := by have := World.block_lt_of_cell? w _ (ls 0 (by decide)).1; show 2 < _; exact this
def iter (n : Nat) (s : Int) : Int := Nat.rec s (fun _ x => lcg x) n
theorem iter_succ (n : Nat) (s : Int) : iter (n + 1) s = lcg (iter n s) := rfl
theorem iter_add (m n : Nat) (s : Int) : iter (m + n) s = iter n (iter m s) := by
 induction n with
 | zero => rfl
 | succ n ih => rw [← Nat.add_assoc, iter_succ, iter_succ, ih]
theorem iter_first (n : Nat) (s : Int) : iter n (lcg s) = iter (n + 1) s := by
 rw [Nat.add_comm, iter_add]; rfl
theorem iter_u32 (n : Nat) (s : Int) (h : NoisePlain.U32 s) : NoisePlain.U32 (iter n s) := by
 cases n with
 | zero => exact h
 | succ n => exact NoisePlain.lcg_in _
theorem nz_sd : ∀ (n : Nat) (s : Int), (nz n s).2 = iter n s
 | 0, _ => rfl
 | n + 1, s => by
  show (nz n (lcg s)).2 = _
  rw [nz_sd, iter_first]
theorem fz_sd (l : List Int) : ∀ (n i : Nat) (s : Int), (fz l n i s).2 = iter n s
 | 0, _, _ => rfl
 | n + 1, i, s => by
  show (fz l n (i + 1) (lcg s)).2 = _
  rw [fz_sd, iter_first]
theorem fo_sd (l : List Int) (n : Nat) (s : Int) : (fo l n s).2 = iter n s := by
 unfold fo
 split
 ·exact nz_sd n s
 ·exact fz_sd l n 0 s
end Go.Proofs.YtjpnbdofbkoddaaDoor.Sh
namespace Go.Proofs.YtjpnbdofbkoddaaDoor.Sh
open Go.RowKit Go.Proofs.YtjpnbdofbkoddaaDoorW.PrintWords Go.Proofs.YtjpnbdofbkoddaaDoorW.PrintLast Go.Proofs.YtjpnbdofbkoddaaDoorW.PrintMore
open Go.Proofs.YtjpnbdofbkoddaaDoor.OShapeSeeds Go.Proofs.YtjpnbdofbkoddaaDoor.Sy
open Go.Proofs.YtjpnbdofbkoddaaDoor.Math (mx_eq mn_eq)
attribute [local go_sem] max2_int min2_int max_two min_two max_three min_three max_four min_four
def fn (q : Int) (F : Nat) : Int := (2 * (min (max q 0) (2 ^ F - 1)) + 1) * 4 / 2 ^ F - 4
theorem fn_range (q : Int) (F : Nat) (hF : F ≤ 3) : -4 ≤ fn q F ∧ fn q F ≤ 3 := by
 unfold fn
 rcases (by omega : F = 0 ∨ F = 1 ∨ F = 2 ∨ F = 3) with rfl | rfl | rfl | rfl <;> simp <;> omega
theorem pow_fine (q f : Int) (F : Nat) (hF : min (max f 0) 3 = (F : Int)) : pow_Fine.f q f = some (fn q F) := by
 unfold pow_Fine.f pow_held.f
 have e1 : mn (mx f 0) 3 = (F : Int) := by rw [mx_eq, mn_eq]; exact hF
 rw [e1]
 simp only [Option.bind_some]
 rw [if_pos (by omega)]
 unfold fn
 rcases (by omega : F = 0 ∨ F = 1 ∨ F = 2 ∨ F = 3) with rfl | rfl | rfl | rfl
 all_goals
  simp only [mx_eq, mn_eq]
  congr 1
 ·have e2 : wrap64 (shl .i64 1 ((0 : Nat) : Int) - 1) = 0 := by decide +kernel
  have hb : min (max q 0) 0 = 0 := by omega
  have e3 : (2 : Int) ^ 0 - 1 = 0 := rfl
  rw [e2, e3, hb]; decide +kernel
 ·have e2 : wrap64 (shl .i64 1 ((1 : Nat) : Int) - 1) = 1 := by decide +kernel
  have e3 : (2 : Int) ^ 1 - 1 = 1 := rfl
  rw [e2, e3]
  rcases (by omega : min (max q 0) 1 = 0 ∨ min (max q 0) 1 = 1) with h | h <;> rw [h] <;> decide +kernel
 ·have e2 : wrap64 (shl .i64 1 ((2 : Nat) : Int) - 1) = 3 := by decide +kernel
  have e3 : (2 : Int) ^ 2 - 1 = 3 := rfl
  rw [e2, e3]
  rcases (by omega : min (max q 0) 3 = 0 ∨ min (max q 0) 3 = 1 ∨ min (max q 0) 3 = 2 ∨ min (max q 0) 3 = 3) with h | h | h | h <;> rw [h] <;> decide +kernel
 ·have e2 : wrap64 (shl .i64 1 ((3 : Nat) : Int) - 1) = 7 := by decide +kernel
  have e3 : (2 : Int) ^ 3 - 1 = 7 := rfl
  rw [e2, e3]
  rcases (by omega : min (max q 0) 7 = 0 ∨ min (max q 0) 7 = 1 ∨ min (max q 0) 7 = 2 ∨ min (max q 0) 7 = 3 ∨ min (max q 0) 7 = 4 ∨ min (max q 0) 7 = 5 ∨ min (max q 0) 7 = 6 ∨ min (max q 0) 7 = 7) with h | h | h | h | h | h | h | h <;> rw [h] <;> decide +kernel
set_option maxHeartbeats 4000000 in
set_option maxRecDepth 100000 in
theorem ref_fine (q f : Int) (F : Nat) (hF : min (max f 0) 3 = (F : Int)) (w : World) :
 Calls Tryd.prog 87 #[.int .i64 q, .int .i64 f] w fun e w' => e = .returned (.int .i64 (fn q F)) ∧ w = w' := by
 obtain ⟨G, hG⟩ : ∃ G : Nat, F = G := ⟨_, rfl⟩
 have HG := Aside0.mk hG
 have hG3 : G ≤ 3 := by omega
 have h2 : (f < 0 ∧ F = 0) ∨ (3 < f ∧ F = 3) ∨ (f = 0 ∧ F = 0) ∨ (f = 1 ∧ F = 1) ∨ (f = 2 ∧ F = 2) ∨ (f = 3 ∧ F = 3) := by omega
 clear hG
 rcases h2 with ⟨hf, rfl⟩ | ⟨hf, rfl⟩ | ⟨rfl, rfl⟩ | ⟨rfl, rfl⟩ | ⟨rfl, rfl⟩ | ⟨rfl, rfl⟩
 all_goals
  clear hF
  go_enter Tryd.func87, Tryd.ntmps87
  go_wp2
  go_loop [5, 6] (fun p i => ∃ j : Nat, j ≤ G ∧ i = .int .i64 j ∧ p = .int .i64 (2 ^ j)) (fun _ i => 3 - (intOf i).toNat)
  case atStart => exact ⟨0, by omega, rfl, rfl⟩
  case round =>
   obtain ⟨j, hj, rfl, rfl⟩ := hrel
   by_cases hlt : j < G
   ·have hp : (2 : Int) ^ j ≤ 4 := by rcases (by omega : j = 0 ∨ j = 1 ∨ j = 2) with rfl | rfl | rfl <;> decide
    have hp0 : (0 : Int) < 2 ^ j := Int.pow_pos (by decide)
    have hG := HG.out
    clear hG3 HG
    subst hG
    first
    | (exfalso; omega)
    | (go_wp2
       go_round
       case rel => exact ⟨j + 1, by omega, by go_num, by rw [Int.pow_succ]⟩
       case measure => simp [intOf]; omega)
   ·obtain rfl : j = G := by omega
    have hG := HG.out
    clear hG3 HG hj hlt
    subst hG
    rcases (by omega : q < 0 ∨ (0 ≤ q ∧ q ≤ 2 ^ 3 - 1) ∨ 2 ^ 3 - 1 < q) with h0 | h0 | h0
    all_goals
     rcases (by omega : q < 0 ∨ q = 0 ∨ q = 1 ∨ q = 2 ∨ q = 3 ∨ q = 4 ∨ q = 5 ∨ q = 6 ∨ q = 7 ∨ 7 < q) with h1 | rfl | rfl | rfl | rfl | rfl | rfl | rfl | rfl | h1
     all_goals first
     | (exfalso; omega)
     | (go_wp2
        go_ret
        exact ⟨congrArg Ending.returned (congrArg (Value.int .i64) (by simp only [fn]; first | rfl | (simp; done) | (simp; omega) | omega)), rfl⟩)
set_option maxHeartbeats 1000000 in
set_option maxRecDepth 100000 in
theorem ref_loud_in (c q f cc x r : Int) (h1 : (c < 0 ∧ cc = 0) ∨ (31 < c ∧ cc = 31) ∨ (0 ≤ c ∧ c ≤ 31 ∧ cc = c)) (hx0 : -4 ≤ x) (hx1 : x ≤ 3) (hF : ∀ w, Calls Tryd.prog 87 #[.int .i64 q, .int .i64 f] w fun e w' => e = .returned (.int .i64 x) ∧ w = w')
 (h2 : (cc * 8 + x < 0 ∧ r = 0) ∨ (0 ≤ cc * 8 + x ∧ r = cc * 8 + x)) (w : World) :
 Calls Tryd.prog 65 #[.int .i64 c, .int .i64 q, .int .i64 f] w fun e w' => e = .returned (.int .i64 r) ∧ w = w' := by
 have RF := Aside0.mk hF
 clear hF
 rcases h1 with ⟨hc, rfl⟩ | ⟨hc, rfl⟩ | ⟨hc, hc', rfl⟩
 all_goals
  rcases h2 with ⟨hn, rfl⟩ | ⟨hn, rfl⟩
  all_goals
   go_enter Tryd.func65, Tryd.ntmps65
   go_wp2_with (first | (go_at_call 87; (with_reducible refine (RF.out _).mono ?_); rintro e w1 ⟨rfl, rfl⟩))
   all_goals first
   | (go_ret; exact ⟨congrArg Ending.returned (congrArg (Value.int .i64) (by first | rfl | omega)), rfl⟩)
   | (exfalso; omega)
theorem lou_fn (e q f : Int) (F : Nat) (hF : min (max f 0) 3 = (F : Int)) : lou e q f = min (max (8 * (min (max e 0) 31) + fn q F) 0) 320 := by
 have h := (lou_is e q f).1
 have hr := fn_range q F (by omega)
 unfold pow_Loud.f at h
 rw [pow_fine q f F hF] at h
 simp only [pow_held.f, Option.bind_some, mx_eq, mn_eq] at h
 generalize fn q F = x at *
 have e1 : wrap64 (8 * min (max e 0) 31) = 8 * min (max e 0) 31 := sw64 (by omega) (by omega)
 rw [e1] at h
 have e2 : wrap64 (8 * min (max e 0) 31 + x) = 8 * min (max e 0) 31 + x := sw64 (by omega) (by omega)
 rw [e2] at h
 exact (Option.some.inj h).symm
theorem rloud_call (e q f : Int) (w : World) : Calls Tryd.prog 65 #[.int .i64 e, .int .i64 q, .int .i64 f] w fun en w' => en = .returned (.int .i64 (lou e q f)) ∧ Below w.heap.size w w' := by
 obtain ⟨F, hF⟩ : ∃ F : Nat, min (max f 0) 3 = F := ⟨(min (max f 0) 3).toNat, by omega⟩
 have hr := fn_range q F (by omega)
 have h87 := ref_fine q f F hF
 have hl := lou_fn e q f F hF
 generalize fn q F = x at *
 refine (ref_loud_in e q f (min (max e 0) 31) x (lou e q f) (by omega) hr.1 hr.2 h87 (by omega) w).mono ?_
 rintro en w' ⟨he, rfl⟩
 exact ⟨he, Below.refl _ _⟩
end Go.Proofs.YtjpnbdofbkoddaaDoor.Sh
namespace Go.Proofs.YtjpnbdofbkoddaaDoor.OTells
open Go.RowKit Go.Proofs.YtjpnbdofbkoddaaDoorW.PrintWords Go.Proofs.YtjpnbdofbkoddaaDoorW.PrintLast Go.Proofs.YtjpnbdofbkoddaaDoorW.PrintMore
attribute [local go_sem] max2_int min2_int max_two min_two max_three min_three max_four min_four
def spinetref18_Angle.f (a0 : Int) : Option (Int × Int) := if a0 ≤ 0 then (some (32768, 0)) else (if a0 = 1 then (some (32138, 6393)) else (if a0 = 2 then (some (30274, 12540)) else (some (27246, 18205))))
set_option maxHeartbeats 8000000 in
set_option maxRecDepth 100000 in
theorem spinetref18_Angle.calls (a0 : Int) (r1 : Int) (r2 : Int) (w : World) (h : spinetref18_Angle.f a0 = some (r1, r2)) :
 Calls Tryd.prog 88 #[.int .i64 a0] w fun e w' => e = .returned (.tuple #[.int .i64 r1, .int .i64 r2]) ∧ Drawn0 w w' := by
 have H : (if a0 ≤ 0 then (some (32768, 0)) else (if a0 = 1 then (some (32138, 6393)) else (if a0 = 2 then (some (30274, 12540)) else (some (27246, 18205))))) = some (r1, r2) := h
 clear h
 by_cases c2 : a0 ≤ 0
 ·rw [if_pos c2] at H
  have c2b0 : decide (a0 ≤ 0) = true := decide_eq_true c2
  clear c2
  simp only [Option.some.injEq, Prod.mk.injEq] at H
  obtain ⟨rfl, rfl⟩ := H
  go_enter Tryd.func88, Tryd.ntmps88
  go_wp2
  go_ret2
  exact ⟨by first | rfl | (simp; done) | (simp [*]; done), by repeat (first | exact Drawn0.refl _ | apply Drawn0.step)⟩
 ·rw [if_neg c2] at H
  have c2b0 : decide (a0 ≤ 0) = false := decide_eq_false c2
  clear c2
  by_cases c3 : a0 = 1
  ·rw [if_pos c3] at H
   have c3b0 : (a0 == 1) = true := beq_iff_eq.mpr c3
   have c3b1 : (a0 != 1) = false := bne_eq_false_iff_eq.mpr c3
   clear c3
   simp only [Option.some.injEq, Prod.mk.injEq] at H
   obtain ⟨rfl, rfl⟩ := H
   go_enter Tryd.func88, Tryd.ntmps88
   go_wp2
   go_ret2
   exact ⟨by first | rfl | (simp; done) | (simp [*]; done), by repeat (first | exact Drawn0.refl _ | apply Drawn0.step)⟩
  ·rw [if_neg c3] at H
   have c3b0 : (a0 == 1) = false := beq_eq_false_iff_ne.mpr c3
   have c3b1 : (a0 != 1) = true := bne_iff_ne.mpr c3
   by_cases c4 : a0 = 2
   ·rw [if_pos c4] at H
    have c4b0 : (a0 == 2) = true := beq_iff_eq.mpr c4
    have c4b1 : (a0 != 2) = false := bne_eq_false_iff_eq.mpr c4
    clear c4
    simp only [Option.some.injEq, Prod.mk.injEq] at H
    obtain ⟨rfl, rfl⟩ := H
    go_enter Tryd.func88, Tryd.ntmps88
    go_wp2
    go_ret2
    exact ⟨by first | rfl | (simp; done) | (simp [*]; done), by repeat (first | exact Drawn0.refl _ | apply Drawn0.step)⟩
   ·rw [if_neg c4] at H
    have c4b0 : (a0 == 2) = false := beq_eq_false_iff_ne.mpr c4
    have c4b1 : (a0 != 2) = true := bne_iff_ne.mpr c4
    simp only [Option.some.injEq, Prod.mk.injEq] at H
    obtain ⟨rfl, rfl⟩ := H
    go_enter Tryd.func88, Tryd.ntmps88
    go_wp2
    go_ret2
    exact ⟨by first | rfl | (simp; done) | (simp [*]; done), by repeat (first | exact Drawn0.refl _ | apply Drawn0.step)⟩
def spinetref01_Floor.f (a0 : Int) (a1 : Int) : Option (Int) := if a1 = 0 then (none) else (if (Int.tmod a0 a1) < 0 then (some (wrap64 ((wrap64 (Int.tdiv a0 a1)) - 1))) else (some (wrap64 (Int.tdiv a0 a1))))
set_option maxHeartbeats 8000000 in
set_option maxRecDepth 100000 in
theorem spinetref01_Floor.calls (a0 : Int) (a1 : Int) (r : Int) (w : World) (h : spinetref01_Floor.f a0 a1 = some r) :
 Calls Tryd.prog 101 #[.int .i64 a0, .int .i64 a1] w fun e w' => e = .returned (.int .i64 r) ∧ Drawn0 w w' := by
 have H : (if a1 = 0 then (none) else (if (Int.tmod a0 a1) < 0 then (some (wrap64 ((wrap64 (Int.tdiv a0 a1)) - 1))) else (some (wrap64 (Int.tdiv a0 a1))))) = some r := h
 clear h
 by_cases c3 : a1 = 0
 ·rw [if_pos c3] at H
  exact absurd H (by simp)
 ·rw [if_neg c3] at H
  have c3b0 : (a1 == 0) = false := beq_eq_false_iff_ne.mpr c3
  have c3b1 : (a1 != 0) = true := bne_iff_ne.mpr c3
  by_cases c4 : (Int.tmod a0 a1) < 0
  ·rw [if_pos c4] at H
   have c4b0 : decide ((Int.tmod a0 a1) < 0) = true := decide_eq_true c4
   clear c4
   obtain rfl := Option.some.inj H
   go_enter Tryd.func101, Tryd.ntmps101
   go_wp2
   go_ret
   exact ⟨by first | rfl | (simp; done) | (simp [*]; done), by repeat (first | exact Drawn0.refl _ | apply Drawn0.step)⟩
  ·rw [if_neg c4] at H
   have c4b0 : decide ((Int.tmod a0 a1) < 0) = false := decide_eq_false c4
   clear c4
   obtain rfl := Option.some.inj H
   go_enter Tryd.func101, Tryd.ntmps101
   go_wp2
   go_ret
   exact ⟨by first | rfl | (simp; done) | (simp [*]; done), by repeat (first | exact Drawn0.refl _ | apply Drawn0.step)⟩
def spinetref01_Round.f (k : Nat) (a0 : Int) (a1 : Int) : Option (Int) := (OShapeNoise.spinetref01_Bits.f a1 0 62).bind fun t280 => (if t280 = 0 then (some a0) else ((OShapeNoise.spinetref01_Pow.f k t280).bind fun t281 => ((spinetref01_Floor.f a0 t281).bind fun t282 => (if (wrap64 (a0 - (wrap64 (t282 * t281)))) ≥ (wrap64 (Int.tdiv t281 2)) then (some (wrap64 (t282 + 1))) else (some t282)))))
theorem spinetref01_Round.mono : ∀ a0 a1 k, LeO (spinetref01_Round.f k a0 a1) (spinetref01_Round.f (k + 1) a0 a1) := by
 intro a0 a1 k
 unfold spinetref01_Round.f
 repeat' first
  | (with_reducible exact OShapeNoise.spinetref01_Pow.mono _ _)
  | (with_reducible exact LeO.refl _)
  | (with_reducible exact LeO.none _)
  | (with_reducible refine LeO.ite ?_ ?_)
  | (with_reducible refine LeO.bind ?_ (fun _ => ?_))
  | exact OShapeNoise.spinetref01_Pow.mono _ _
  | exact LeO.none _
  | refine LeO.ite ?_ ?_
  | refine LeO.bind ?_ (fun _ => ?_)
set_option maxHeartbeats 8000000 in
set_option maxRecDepth 100000 in
theorem spinetref01_Round.calls (k : Nat) (a0 : Int) (a1 : Int) (r : Int) (w : World) (h : spinetref01_Round.f k a0 a1 = some r) :
 Calls Tryd.prog 99 #[.int .i64 a0, .int .i64 a1] w fun e w' => e = .returned (.int .i64 r) ∧ Drawn0 w w' := by
 have H : ((OShapeNoise.spinetref01_Bits.f a1 0 62).bind fun t280 => (if t280 = 0 then (some a0) else ((OShapeNoise.spinetref01_Pow.f k t280).bind fun t281 => ((spinetref01_Floor.f a0 t281).bind fun t282 => (if (wrap64 (a0 - (wrap64 (t282 * t281)))) ≥ (wrap64 (Int.tdiv t281 2)) then (some (wrap64 (t282 + 1))) else (some t282)))))) = some r := h
 clear h
 replace H := Option.bind_eq_some_iff.mp H
 obtain ⟨t280, A30, H⟩ := H
 replace H : (if t280 = 0 then (some a0) else ((OShapeNoise.spinetref01_Pow.f k t280).bind fun t281 => ((spinetref01_Floor.f a0 t281).bind fun t282 => (if (wrap64 (a0 - (wrap64 (t282 * t281)))) ≥ (wrap64 (Int.tdiv t281 2)) then (some (wrap64 (t282 + 1))) else (some t282))))) = some r := H
 have A3 := Aside0.mk A30
 clear A30
 by_cases c4 : t280 = 0
 ·rw [if_pos c4] at H
  have c4b0 : (t280 == 0) = true := beq_iff_eq.mpr c4
  have c4b1 : (t280 != 0) = false := bne_eq_false_iff_eq.mpr c4
  clear c4
  obtain rfl := Option.some.inj H
  go_enter Tryd.func99, Tryd.ntmps99
  go_wp2_with (first | ((with_reducible refine gate_callee (f := 77) rfl ?_); refine goesL_ (some 9) rfl rfl Tryd.func77 (by kernel_rfl) rfl #[.int .i64 a1, .int .i64 0, .int .i64 62] rfl (by (try simp only [List.map_toArray, List.map_cons, List.map_nil]); first | done | rfl | (simp only [List.length_drop, List.length_take]; rfl)) ?_; (with_reducible refine (OShapeNoise.spinetref01_Bits.calls a1 0 62 t280 _ A3.out).mono ?_); rintro e w' ⟨rfl, ⟨nd, rfl⟩⟩; refine ⟨_, rfl, ?_⟩))
  go_ret
  exact ⟨by first | rfl | (simp; done) | (simp [*]; done), by repeat (first | exact Drawn0.refl _ | apply Drawn0.step)⟩
 ·rw [if_neg c4] at H
  have c4b0 : (t280 == 0) = false := beq_eq_false_iff_ne.mpr c4
  have c4b1 : (t280 != 0) = true := bne_iff_ne.mpr c4
  replace H := Option.bind_eq_some_iff.mp H
  obtain ⟨t281, A50, H⟩ := H
  replace H : ((spinetref01_Floor.f a0 t281).bind fun t282 => (if (wrap64 (a0 - (wrap64 (t282 * t281)))) ≥ (wrap64 (Int.tdiv t281 2)) then (some (wrap64 (t282 + 1))) else (some t282))) = some r := H
  have A5 := Aside0.mk A50
  clear A50
  replace H := Option.bind_eq_some_iff.mp H
  obtain ⟨t282, A60, H⟩ := H
  replace H : (if (wrap64 (a0 - (wrap64 (t282 * t281)))) ≥ (wrap64 (Int.tdiv t281 2)) then (some (wrap64 (t282 + 1))) else (some t282)) = some r := H
  have A6 := Aside0.mk A60
  clear A60
  by_cases c7 : (wrap64 (a0 - (wrap64 (t282 * t281)))) ≥ (wrap64 (Int.tdiv t281 2))
  ·rw [if_pos c7] at H
   have c7b0 : decide ((wrap64 (Int.tdiv t281 2)) ≤ (wrap64 (a0 - (wrap64 (t282 * t281))))) = true := decide_eq_true c7
   clear c7
   obtain rfl := Option.some.inj H
   go_enter Tryd.func99, Tryd.ntmps99
   go_wp2_with (first | ((with_reducible refine gate_callee (f := 77) rfl ?_); refine goesL_ (some 9) rfl rfl Tryd.func77 (by kernel_rfl) rfl #[.int .i64 a1, .int .i64 0, .int .i64 62] rfl (by (try simp only [List.map_toArray, List.map_cons, List.map_nil]); first | done | rfl | (simp only [List.length_drop, List.length_take]; rfl)) ?_; (with_reducible refine (OShapeNoise.spinetref01_Bits.calls a1 0 62 t280 _ A3.out).mono ?_); rintro e w' ⟨rfl, ⟨nd, rfl⟩⟩; refine ⟨_, rfl, ?_⟩) | ((with_reducible refine gate_callee (f := 76) rfl ?_); refine goesL_ (some 14) rfl rfl Tryd.func76 (by kernel_rfl) rfl #[.int .i64 t280] rfl (by (try simp only [List.map_toArray, List.map_cons, List.map_nil]); first | done | rfl | (simp only [List.length_drop, List.length_take]; rfl)) ?_; (with_reducible refine (OShapeNoise.spinetref01_Pow.calls k t280 t281 _ A5.out).mono ?_); rintro e w' ⟨rfl, ⟨nd, rfl⟩⟩; refine ⟨_, rfl, ?_⟩) | ((with_reducible refine gate_callee (f := 101) rfl ?_); refine goesL_ (some 17) rfl rfl Tryd.func101 (by kernel_rfl) rfl #[.int .i64 a0, .int .i64 t281] rfl (by (try simp only [List.map_toArray, List.map_cons, List.map_nil]); first | done | rfl | (simp only [List.length_drop, List.length_take]; rfl)) ?_; (with_reducible refine (spinetref01_Floor.calls a0 t281 t282 _ A6.out).mono ?_); rintro e w' ⟨rfl, ⟨nd, rfl⟩⟩; refine ⟨_, rfl, ?_⟩))
   go_ret
   exact ⟨by first | rfl | (simp; done) | (simp [*]; done), by repeat (first | exact Drawn0.refl _ | apply Drawn0.step)⟩
  ·rw [if_neg c7] at H
   have c7b0 : decide ((wrap64 (Int.tdiv t281 2)) ≤ (wrap64 (a0 - (wrap64 (t282 * t281))))) = false := decide_eq_false c7
   clear c7
   obtain rfl := Option.some.inj H
   go_enter Tryd.func99, Tryd.ntmps99
   go_wp2_with (first | ((with_reducible refine gate_callee (f := 77) rfl ?_); refine goesL_ (some 9) rfl rfl Tryd.func77 (by kernel_rfl) rfl #[.int .i64 a1, .int .i64 0, .int .i64 62] rfl (by (try simp only [List.map_toArray, List.map_cons, List.map_nil]); first | done | rfl | (simp only [List.length_drop, List.length_take]; rfl)) ?_; (with_reducible refine (OShapeNoise.spinetref01_Bits.calls a1 0 62 t280 _ A3.out).mono ?_); rintro e w' ⟨rfl, ⟨nd, rfl⟩⟩; refine ⟨_, rfl, ?_⟩) | ((with_reducible refine gate_callee (f := 76) rfl ?_); refine goesL_ (some 14) rfl rfl Tryd.func76 (by kernel_rfl) rfl #[.int .i64 t280] rfl (by (try simp only [List.map_toArray, List.map_cons, List.map_nil]); first | done | rfl | (simp only [List.length_drop, List.length_take]; rfl)) ?_; (with_reducible refine (OShapeNoise.spinetref01_Pow.calls k t280 t281 _ A5.out).mono ?_); rintro e w' ⟨rfl, ⟨nd, rfl⟩⟩; refine ⟨_, rfl, ?_⟩) | ((with_reducible refine gate_callee (f := 101) rfl ?_); refine goesL_ (some 17) rfl rfl Tryd.func101 (by kernel_rfl) rfl #[.int .i64 a0, .int .i64 t281] rfl (by (try simp only [List.map_toArray, List.map_cons, List.map_nil]); first | done | rfl | (simp only [List.length_drop, List.length_take]; rfl)) ?_; (with_reducible refine (spinetref01_Floor.calls a0 t281 t282 _ A6.out).mono ?_); rintro e w' ⟨rfl, ⟨nd, rfl⟩⟩; refine ⟨_, rfl, ?_⟩))
   go_ret
   exact ⟨by first | rfl | (simp; done) | (simp [*]; done), by repeat (first | exact Drawn0.refl _ | apply Drawn0.step)⟩
def spinetref18_Turn.l0 : Nat → List Int → Int → Int → Int → List Int → Int → Option (List Int)
 | 0, _, _, _, _, _, _ => none
 | k + 1, x0, x1, x2, x3, x9, x10 => if x10 < (x0.length : Int) then (if x10 = x1 then (if 0 ≤ x1 then (if x1 < (x0.length : Int) then (if 0 ≤ (wrap64 (x1 + 1)) then (if (wrap64 (x1 + 1)) < (x0.length : Int) then ((spinetref01_Round.f k (wrap64 ((wrap64 (x2 * (rd x0 x1))) - (wrap64 (x3 * (rd x0 (wrap64 (x1 + 1))))))) 15).bind fun t285 => ((OShapeNoise.spinetref01_Sat.f k t285 32).bind fun t286 => (if x9.length < 17592186044416 then (spinetref18_Turn.l0 k x0 x1 x2 x3 (x9 ++ [t286]) (wrap64 (x10 + 1))) else (none)))) else (none)) else (none)) else (none)) else (none)) else (if x10 = (wrap64 (x1 + 1)) then (if 0 ≤ x1 then (if x1 < (x0.length : Int) then (if 0 ≤ (wrap64 (x1 + 1)) then (if (wrap64 (x1 + 1)) < (x0.length : Int) then ((spinetref01_Round.f k (wrap64 ((wrap64 (x3 * (rd x0 x1))) + (wrap64 (x2 * (rd x0 (wrap64 (x1 + 1))))))) 15).bind fun t292 => ((OShapeNoise.spinetref01_Sat.f k t292 32).bind fun t293 => (if x9.length < 17592186044416 then (spinetref18_Turn.l0 k x0 x1 x2 x3 (x9 ++ [t293]) (wrap64 (x10 + 1))) else (none)))) else (none)) else (none)) else (none)) else (none)) else (if 0 ≤ x10 then (if x9.length < 17592186044416 then (spinetref18_Turn.l0 k x0 x1 x2 x3 (x9 ++ [rd x0 x10]) (wrap64 (x10 + 1))) else (none)) else (none)))) else (some x9)
def spinetref18_Turn.f (k : Nat) (l0 : List Int) (a1 : Int) (a2 : Int) (a3 : Int) : Option (List Int) := spinetref18_Turn.l0 k l0 a1 a2 a3 ([] : List Int) 0
theorem spinetref18_Turn.mono_l : ∀ k, (∀ y0 y1 y2 y3 y4 y5, LeO (spinetref18_Turn.l0 k y0 y1 y2 y3 y4 y5) (spinetref18_Turn.l0 (k + 1) y0 y1 y2 y3 y4 y5))
 | 0 => fun _ _ _ _ _ _ r h => by simp [spinetref18_Turn.l0] at h
 | k + 1 => by
  have ih0 := spinetref18_Turn.mono_l k
  ·intro y0 y1 y2 y3 y4 y5
   unfold spinetref18_Turn.l0
   repeat' first
   | (with_reducible exact ih0 _ _ _ _ _ _)
   | (with_reducible exact spinetref01_Round.mono _ _ _)
   | (with_reducible exact OShapeNoise.spinetref01_Sat.mono _ _ _)
   | (with_reducible exact LeO.refl _)
   | (with_reducible exact LeO.none _)
   | (with_reducible refine LeO.ite ?_ ?_)
   | (with_reducible refine LeO.bind ?_ (fun _ => ?_))
   | exact ih0 _ _ _ _ _ _
   | exact spinetref01_Round.mono _ _ _
   | exact OShapeNoise.spinetref01_Sat.mono _ _ _
   | exact LeO.none _
   | refine LeO.ite ?_ ?_
   | refine LeO.bind ?_ (fun _ => ?_)
theorem spinetref18_Turn.mono : ∀ a0 a1 a2 a3 k, LeO (spinetref18_Turn.f k a0 a1 a2 a3) (spinetref18_Turn.f (k + 1) a0 a1 a2 a3) := by
 intro a0 a1 a2 a3 k
 have ih0 := spinetref18_Turn.mono_l k
 unfold spinetref18_Turn.f
 repeat' first
  | (with_reducible exact ih0 _ _ _ _ _ _)
  | (with_reducible exact spinetref01_Round.mono _ _ _)
  | (with_reducible exact OShapeNoise.spinetref01_Sat.mono _ _ _)
  | (with_reducible exact LeO.refl _)
  | (with_reducible exact LeO.none _)
  | (with_reducible refine LeO.ite ?_ ?_)
  | (with_reducible refine LeO.bind ?_ (fun _ => ?_))
  | exact ih0 _ _ _ _ _ _
  | exact spinetref01_Round.mono _ _ _
  | exact OShapeNoise.spinetref01_Sat.mono _ _ _
  | exact LeO.none _
  | refine LeO.ite ?_ ?_
  | refine LeO.bind ?_ (fun _ => ?_)
def spinetref18_Turn.T6 : Bool × List (List Nat × List Nat) := (true, [([], []), ([], []), ([], []), ([], []), ([2, 3], [2, 3]), ([4], [4]), ([1, 5], [1, 5]), ([], []), ([], []), ([], []), ([9], [9]), ([8, 10], [8, 10]), ([11], [11]), ([7, 12], [7, 12]), ([6, 13], [6, 13]), ([14], [14]), ([15, 15], [15]), ([16], [16]), ([0, 17, 16], [0, 17]), ([18, 18, 0, 1, 2, 3, 4, 5, 6, 7, 8, 9, 10, 11, 12, 13, 14, 15, 16, 17, 18], [0, 18])])
def spinetref18_Turn.B6 : List Nat := [0, 0, 0, 0, 12, 28, 62, 0, 0, 0, 512, 1792, 3840, 8064, 16382, 32766, 65534, 131070, 262143, 524287]
theorem spinetref18_Turn.tab6 : rtab .any (opsOf Tryd.f89 6) = spinetref18_Turn.T6 := by kernel_rfl
theorem spinetref18_Turn.bits6 : waitsOk spinetref18_Turn.T6.2 spinetref18_Turn.B6 = true := by kernel_rfl
def spinetref18_Turn.T8 : Bool × List (List Nat × List Nat) := (true, [([], []), ([], []), ([], []), ([], []), ([2, 3], [2, 3]), ([4], [4]), ([1, 5], [1, 5]), ([], []), ([], []), ([], []), ([9], [9]), ([8, 10], [8, 10]), ([11], [11]), ([7, 12], [7, 12]), ([6, 13], [6, 13]), ([14], [14]), ([15, 15], [15]), ([16], [16]), ([0, 17, 16], [0, 17]), ([18, 18, 0, 1, 2, 3, 4, 5, 6, 7, 8, 9, 10, 11, 12, 13, 14, 15, 16, 17, 18], [0, 18])])
def spinetref18_Turn.B8 : List Nat := [0, 0, 0, 0, 12, 28, 62, 0, 0, 0, 512, 1792, 3840, 8064, 16382, 32766, 65534, 131070, 262143, 524287]
theorem spinetref18_Turn.tab8 : rtab .any (opsOf Tryd.f89 8) = spinetref18_Turn.T8 := by kernel_rfl
theorem spinetref18_Turn.bits8 : waitsOk spinetref18_Turn.T8.2 spinetref18_Turn.B8 = true := by kernel_rfl
set_option maxHeartbeats 8000000 in
set_option maxRecDepth 100000 in
theorem spinetref18_Turn.calls (k : Nat) (A0 : Option Addr) (c0 : Nat) (l0 : List Int) (a1 : Int) (a2 : Int) (a3 : Int) (r : List Int) (w : World) (hr0 : Kd.C (Kd.int .i64) w A0 l0.length l0) (hc0 : l0.length ≤ c0) (h : spinetref18_Turn.f k l0 a1 a2 a3 = some r) :
 Calls Tryd.prog 89 #[.slice A0 l0.length c0, .int .i64 a1, .int .i64 a2, .int .i64 a3] w fun e w' => ∃ v0_ : Value, e = .returned (v0_) ∧ Kd.R (Kd.int .i64) 2 w' w.heap.size (fun _ => True) v0_ r ∧ Below w.heap.size w w' := by
 have HR0 := Aside0.mk hr0
 have HC0 := Aside0.mk hc0
 clear hr0 hc0
 have HB := Aside0.mk (Below.refl w.heap.size w)
 have H : (spinetref18_Turn.l0 k l0 a1 a2 a3 ([] : List Int) 0) = some r := h
 clear h
 have H' := Aside0.mk H
 clear H
 go_enter Tryd.func89, Tryd.ntmps89
 go_wp2
 go_loopg [9, 10] k (fun kq v9 v10 w' => ∃ (x9_1 : List Int) (x10_1 : Int), v10 = .int .i64 x10_1 ∧ Aside0 (spinetref18_Turn.l0 kq l0 a1 a2 a3 x9_1 x10_1 = some r) ∧ Aside0 (kq ≤ k) ∧ Aside0 (Kd.R (Kd.int .i64) 2 w' w.heap.size (fun _ => True) v9 x9_1) ∧ Aside0 (Below w.heap.size w w'))
 case atStart => exact ⟨(([] : List Int)), (0), (by first | rfl | (simp; done) | (simp [*]; done)), H', ⟨Nat.le_refl _⟩, ⟨by first | exact Kd.R_nil _ _ _ _ _ | exact Kd.N_nil _ _ _ _ _ | exact Kd.V_nil _ _ _ _ _ | exact Kd.Q_nil _ _ _ _ _ | exact Kd.S_nil _ _ _ _ _⟩, ⟨by repeat (first | (with_reducible first | exact HB.out | apply below_alloc | apply pw_below_drewN | apply below_drew1) | exact HB.out)⟩⟩
 case round =>
  clear H'
  try clear p2
  obtain ⟨x9_1, x10_1, rfl, HA, HK1, HO_9, HB⟩ := hrel
  cases gk with
  | zero => exact absurd HA.out (by simp [spinetref18_Turn.l0])
  | succ k1 =>
   have H := HA.out
   clear HA
   simp only [spinetref18_Turn.l0] at H
   by_cases c5 : x10_1 < (l0.length : Int)
   ·rw [if_pos c5] at H
    have c5b0 : decide (x10_1 < (l0.length : Int)) = true := decide_eq_true c5
    clear c5
    by_cases c6 : x10_1 = a1
    ·rw [if_pos c6] at H
     have c6b0 : (x10_1 == a1) = true := beq_iff_eq.mpr c6
     have c6b1 : (x10_1 != a1) = false := bne_eq_false_iff_eq.mpr c6
     clear c6
     by_cases c7 : 0 ≤ a1
     ·rw [if_pos c7] at H
      have c7b0 : decide (0 ≤ a1) = true := decide_eq_true c7
      clear c7
      by_cases c8 : a1 < (l0.length : Int)
      ·rw [if_pos c8] at H
       have c8b0 : decide (a1 < (l0.length : Int)) = true := decide_eq_true c8
       clear c8
       obtain ⟨ji9, hji9⟩ : ∃ j_ : Int, (wrap64 (a1 + 1)) = j_ := ⟨_, rfl⟩
       replace H : (if 0 ≤ (ji9) then (if (ji9) < (l0.length : Int) then ((spinetref01_Round.f k1 (wrap64 ((wrap64 (a2 * (rd l0 a1))) - (wrap64 (a3 * (rd l0 (ji9)))))) 15).bind fun t285 => ((OShapeNoise.spinetref01_Sat.f k1 t285 32).bind fun t286 => (if x9_1.length < 17592186044416 then (spinetref18_Turn.l0 k1 l0 a1 a2 a3 (x9_1 ++ [t286]) (wrap64 (x10_1 + 1))) else (none)))) else (none)) else (none)) = some r := by first | (rw [hji9] at H; exact H) | (simp only [hji9] at H ⊢; exact H)
       have hji9w : (IntKind.i64.wrap (a1 + 1)) = ji9 := (i64_w _).trans hji9
       by_cases c10 : 0 ≤ (ji9)
       ·rw [if_pos c10] at H
        have c10b0 : decide (0 ≤ (ji9)) = true := decide_eq_true c10
        clear c10
        by_cases c11 : (ji9) < (l0.length : Int)
        ·rw [if_pos c11] at H
         have c11b0 : decide ((ji9) < (l0.length : Int)) = true := decide_eq_true c11
         clear c11
         replace H := Option.bind_eq_some_iff.mp H
         obtain ⟨t285, A120, H⟩ := H
         replace H : ((OShapeNoise.spinetref01_Sat.f k1 t285 32).bind fun t286 => (if x9_1.length < 17592186044416 then (spinetref18_Turn.l0 k1 l0 a1 a2 a3 (x9_1 ++ [t286]) (wrap64 (x10_1 + 1))) else (none))) = some r := H
         have A12 := Aside0.mk A120
         clear A120
         replace H := Option.bind_eq_some_iff.mp H
         obtain ⟨t286, A130, H⟩ := H
         replace H : (if x9_1.length < 17592186044416 then (spinetref18_Turn.l0 k1 l0 a1 a2 a3 (x9_1 ++ [t286]) (wrap64 (x10_1 + 1))) else (none)) = some r := H
         have A13 := Aside0.mk A130
         clear A130
         by_cases c14 : x9_1.length < 17592186044416
         ·rw [if_pos c14] at H
          have LMc14 := Aside0.mk c14
          clear c14
          obtain ⟨y287, hy287⟩ : ∃ y_ : List Int, y_ = (x9_1 ++ [t286]) := ⟨_, rfl⟩
          replace H : (spinetref18_Turn.l0 k1 l0 a1 a2 a3 y287 (wrap64 (x10_1 + 1))) = some r := by first | (rw [hy287]; with_reducible exact H) | (have H2_ := (Option.bind_some _ _).symm.trans H; rw [hy287]; with_reducible exact H2_) | (have H2_ := (Option.bind_some _ _).symm.trans H; with_reducible exact H2_) | with_reducible exact H | (rw [hy287]; exact H) | exact H
          have Ny287 := Aside0.mk hy287
          clear hy287
          have H' := Aside0.mk H
          clear H
          try go_wp2
          have n0_ := Aside0.mk (Kd.R_drew HO_9.out)
          have n1_ := Aside0.mk (below_drew1 HB.out)
          clear HO_9
          clear HB
          have HO_9 := n0_
          have HB := n1_
          clear n0_ n1_
          have p283 : 0 ≤ (a1 : Int) := of_decide_eq_true (by first | (with_reducible assumption) | assumption)
          have q283 : a1 < (l0.length : Int) := of_decide_eq_true (by first | (with_reducible assumption) | assumption)
          obtain ⟨ad283, e283, hx283_0⟩ := Kd.at_int HR0.out a1 p283 q283
          have hw283_0 := hx283_0
          cases e283
          replace hx283_0 := (HB.out.cell (World.block_lt_of_cell? w _ hx283_0)).trans hx283_0
          replace p283 := eq_true p283
          replace q283 := eq_true q283
          have p284 : 0 ≤ ((ji9) : Int) := of_decide_eq_true (by first | (with_reducible assumption) | assumption)
          have q284 : (ji9) < (l0.length : Int) := of_decide_eq_true (by first | (with_reducible assumption) | assumption)
          obtain ⟨ad284, e284, hx284_0⟩ := Kd.at_int HR0.out (ji9) p284 q284
          have hw284_0 := hx284_0
          obtain rfl : ad283 = ad284 := (by injection e284)
          replace hx284_0 := (HB.out.cell (World.block_lt_of_cell? w _ hx284_0)).trans hx284_0
          replace p284 := eq_true p284
          replace q284 := eq_true q284
          refine start_ (n := 20) (S := fun w' => w'.cell? (ad283.add (a1).toNat) = some (.int .i64 (rd l0 a1)) ∧ w'.cell? (ad283.add ((ji9)).toNat) = some (.int .i64 (rd l0 (ji9)))) (ds := []) #[false, false, false, false, false, false, false, false, false, false, false, false, false, false, false, false, false, false, false, false] (by kernel_rfl) rfl rfl ⟨((HB.out.cell (World.block_lt_of_cell? w _ hw283_0)).trans hw283_0), ((HB.out.cell (World.block_lt_of_cell? w _ hw284_0)).trans hw284_0)⟩ (fun hHeld => ?_); refine with_tabW spinetref18_Turn.tab6 spinetref18_Turn.bits6 (fun HT_ HW_ => ?_)
          generalize wr.drew = w15 at HO_9 HB hx283_0 hx284_0 hHeld ⊢
          refine pure_ (i := 0) (N := some 20) (v := ?_) (a' := ?_) (zB 20 1) rfl rfl (any_of HT_.out (by kernel_rfl)) (fun _ _ _ h => h) (Or.inl ⟨by rfl, ?_⟩) ?_ ?_
          rotate_left
          ·intro w'
           go_simp
           with_reducible rfl
          rotate_left
          ·simp only [Act.put, zA1, zA2, zA3, i64_w, i32_w]
           rfl
          refine pure_ (i := 1) (N := some 21) (v := ?_) (a' := ?_) (zB 20 3) rfl rfl (any_of HT_.out (by kernel_rfl)) (fun _ _ _ h => h) (Or.inl ⟨by rfl, ?_⟩) ?_ ?_
          rotate_left
          ·intro w'
           go_simp
           with_reducible rfl
          rotate_left
          ·simp only [Act.put, zA1, zA2, zA3, i64_w, i32_w]
           rfl
          refine pure_ (i := 2) (N := some 22) (v := ?_) (a' := ?_) (zB 20 7) rfl rfl (any_of HT_.out (by kernel_rfl)) (fun _ _ _ h => h) (Or.inl ⟨by rfl, ?_⟩) ?_ ?_
          rotate_left
          ·intro w'
           go_simp
           with_reducible rfl
          rotate_left
          ·simp only [Act.put, zA1, zA2, zA3, i64_w, i32_w]
           rfl
          refine pure_ (i := 3) (N := some 23) (v := ?_) (a' := ?_) (zB 20 15) rfl rfl (any_of HT_.out (by kernel_rfl)) (fun _ _ _ h => h) (Or.inl ⟨by rfl, ?_⟩) ?_ ?_
          rotate_left
          ·intro w'
           go_simp
           with_reducible rfl
          rotate_left
          ·simp only [Act.put, zA1, zA2, zA3, i64_w, i32_w]
           rfl
          refine pure_ (i := 4) (N := some 24) (v := ?_) (a' := ?_) (zB 20 31) rfl rfl (any_of HT_.out (by kernel_rfl)) (fun _ _ _ h => h) (Or.inl ⟨by rfl, ?_⟩) ?_ ?_
          rotate_left
          ·intro w'
           go_simp
           with_reducible rfl
          rotate_left
          ·simp only [Act.put, zA1, zA2, zA3, i64_w, i32_w]
           rfl
          refine pure_ (i := 7) (N := some 27) (v := ?_) (a' := ?_) (zB 20 159) rfl rfl (any_of HT_.out (by kernel_rfl)) (fun _ _ _ h => h) (Or.inl ⟨by rfl, ?_⟩) ?_ ?_
          rotate_left
          ·intro w'
           go_simp
           with_reducible rfl
          rotate_left
          ·simp only [Act.put, zA1, zA2, zA3, i64_w, i32_w]
           rfl
          refine pure_ (i := 8) (N := some 28) (v := ?_) (a' := ?_) (zB 20 415) rfl rfl (any_of HT_.out (by kernel_rfl)) (fun _ _ _ h => h) (Or.inl ⟨by rfl, ?_⟩) ?_ ?_
          rotate_left
          ·intro w'
           go_simp
           with_reducible rfl
          rotate_left
          ·simp only [Act.put, zA1, zA2, zA3, i64_w, i32_w]
           rfl
          refine pure_ (i := 9) (N := some 29) (v := ?_) (a' := ?_) (zB 20 927) rfl rfl (any_of HT_.out (by kernel_rfl)) (fun _ _ _ h => h) (Or.inl ⟨by rfl, ?_⟩) ?_ ?_
          rotate_left
          ·intro w'
           go_simp
           with_reducible rfl
          rotate_left
          ·simp only [Act.put, zA1, zA2, zA3, i64_w, i32_w]
           rfl
          refine pure_ (i := 10) (N := some 30) (v := ?_) (a' := ?_) (zB 20 1951) rfl rfl (any_of HT_.out (by kernel_rfl)) (fun _ _ _ h => h) (Or.inl ⟨by rfl, ?_⟩) ?_ ?_
          rotate_left
          ·intro w'
           go_simp
           with_reducible rfl
          rotate_left
          ·simp only [Act.put, zA1, zA2, zA3, i64_w, i32_w]
           rfl
          refine pure_ (i := 11) (N := some 31) (v := ?_) (a' := ?_) (zB 20 3999) rfl rfl (any_of HT_.out (by kernel_rfl)) (fun _ _ _ h => h) (Or.inl ⟨by rfl, ?_⟩) ?_ ?_
          rotate_left
          ·intro w'
           go_simp
           with_reducible rfl
          rotate_left
          ·simp only [Act.put, zA1, zA2, zA3, i64_w, i32_w]
           rfl
          refine take_ (i := 5) (N := some 25) (v := ?_) (a' := ?_) (zB 20 4031) rfl rfl (take_ofW HT_.out HW_.out (by kernel_rfl)) (fun _ _ _ h => h) (Or.inl ⟨by rfl, ?_⟩) hHeld ?_ ?_
          rotate_left
          ·rintro w' ⟨s0, s1⟩
           go_simp
           with_reducible rfl
          rotate_left
          ·simp only [Act.put, zA1, zA2, zA3, i64_w, i32_w]
           rfl
          refine pure_ (i := 6) (N := some 26) (v := ?_) (a' := ?_) (zB 20 4095) rfl rfl (any_of HT_.out (by kernel_rfl)) (fun _ _ _ h => h) (Or.inl ⟨by rfl, ?_⟩) ?_ ?_
          rotate_left
          ·intro w'
           go_simp
           with_reducible rfl
          rotate_left
          ·simp only [Act.put, zA1, zA2, zA3, i64_w, i32_w]
           rfl
          refine take_ (i := 12) (N := some 32) (v := ?_) (a' := ?_) (zB 20 8191) rfl rfl (take_ofW HT_.out HW_.out (by kernel_rfl)) (fun _ _ _ h => h) (Or.inl ⟨by rfl, ?_⟩) hHeld ?_ ?_
          rotate_left
          ·rintro w' ⟨s0, s1⟩
           go_simp
           with_reducible rfl
          rotate_left
          ·simp only [Act.put, zA1, zA2, zA3, i64_w, i32_w]
           rfl
          refine pure_ (i := 13) (N := some 33) (v := ?_) (a' := ?_) (zB 20 16383) rfl rfl (any_of HT_.out (by kernel_rfl)) (fun _ _ _ h => h) (Or.inl ⟨by rfl, ?_⟩) ?_ ?_
          rotate_left
          ·intro w'
           go_simp
           with_reducible rfl
          rotate_left
          ·simp only [Act.put, zA1, zA2, zA3, i64_w, i32_w]
           rfl
          refine pure_ (i := 14) (N := some 34) (v := ?_) (a' := ?_) (zB 20 32767) rfl rfl (any_of HT_.out (by kernel_rfl)) (fun _ _ _ h => h) (Or.inl ⟨by rfl, ?_⟩) ?_ ?_
          rotate_left
          ·intro w'
           go_simp
           with_reducible rfl
          rotate_left
          ·simp only [Act.put, zA1, zA2, zA3, i64_w, i32_w]
           rfl
          refine one_ (i := 15) (N := some 35) (zB 20 65535) rfl rfl (one_of HT_.out (by kernel_rfl)) (by decide) (fun K hK => ?_)
          refine goes_ Tryd.func99 (by kernel_rfl) rfl #[.int .i64 (wrap64 ((wrap64 (a2 * (rd l0 a1))) - (wrap64 (a3 * (rd l0 (ji9)))))), .int .i64 15] (by rfl) rfl rfl (by (try simp only [List.map_toArray, List.map_cons, List.map_nil]); first | done | (simp only [hji9]; rfl) | rfl | (simp only [List.length_drop, List.length_take]; rfl)) ?_
          with_reducible refine (spinetref01_Round.calls k1 (wrap64 ((wrap64 (a2 * (rd l0 a1))) - (wrap64 (a3 * (rd l0 (ji9)))))) 15 t285 _ A12.out).mono ?_
          rintro e w' ⟨rfl, ⟨nd, rfl⟩⟩
          refine ⟨_, rfl, ?_⟩
          refine hK.out _ _ ⟨((HB.out.cell (World.block_lt_of_cell? w _ hw283_0)).trans hw283_0), ((HB.out.cell (World.block_lt_of_cell? w _ hw284_0)).trans hw284_0)⟩ (fun hHeld => ?_)
          clear hK K
          refine norm_ (a' := ?_) ?_ ?_
          rotate_left
          ·show Act.put _ (some 35) _ = _
           simp only [Act.put, zA1, zA2, zA3, i64_w, i32_w]
           rfl
          refine one_ (i := 16) (N := some 36) (zB 20 131071) rfl rfl (one_of HT_.out (by kernel_rfl)) (by decide) (fun K hK => ?_)
          refine goes_ Tryd.func44 (by kernel_rfl) rfl #[.int .i64 t285, .int .i64 32] (by rfl) rfl rfl (by (try simp only [List.map_toArray, List.map_cons, List.map_nil]); first | done | rfl | (simp only [List.length_drop, List.length_take]; rfl)) ?_
          with_reducible refine (OShapeNoise.spinetref01_Sat.calls k1 t285 32 t286 _ A13.out).mono ?_
          rintro e w' ⟨rfl, ⟨nd, rfl⟩⟩
          refine ⟨_, rfl, ?_⟩
          refine hK.out _ _ ⟨((HB.out.cell (World.block_lt_of_cell? w _ hw283_0)).trans hw283_0), ((HB.out.cell (World.block_lt_of_cell? w _ hw284_0)).trans hw284_0)⟩ (fun hHeld => ?_)
          clear hK K
          refine norm_ (a' := ?_) ?_ ?_
          rotate_left
          ·show Act.put _ (some 36) _ = _
           simp only [Act.put, zA1, zA2, zA3, i64_w, i32_w]
           rfl
          refine one_ (i := 17) (N := some 37) (zB 20 262143) rfl rfl (one_of HT_.out (by kernel_rfl)) (by decide) (fun K hK => ?_)
          refine value_ (w1 := ?_) (v := ?_) (by rfl) rfl ?_ ?_
          rotate_left 2
          ·go_simp
           constructor
           ·rfl
           ·rfl
          refine hK.out _ _ ⟨(World.cell?_alloc_lt _ _ _ (World.block_lt_of_cell? _ _ (((HB.out.cell (World.block_lt_of_cell? w _ hw283_0)).trans hw283_0)))).trans (((HB.out.cell (World.block_lt_of_cell? w _ hw283_0)).trans hw283_0)), (World.cell?_alloc_lt _ _ _ (World.block_lt_of_cell? _ _ (((HB.out.cell (World.block_lt_of_cell? w _ hw284_0)).trans hw284_0)))).trans (((HB.out.cell (World.block_lt_of_cell? w _ hw284_0)).trans hw284_0))⟩ (fun hHeld => ?_)
          clear hK K
          refine norm_ (a' := ?_) ?_ ?_
          rotate_left
          ·show Act.put _ (some 37) _ = _
           simp only [Act.put, zA1, zA2, zA3, i64_w, i32_w]
           rfl
          refine one_ (i := 18) (N := some 38) (zB 20 524287) rfl rfl (one_of HT_.out (by kernel_rfl)) (by decide) (fun K hK => ?_)
          refine Kd.R_append_step (Kd.int .i64) (w0 := w) w.heap.size (by rfl) (.tmp 20) (.tmp 37) 24 2 (.int .i64 0) 8 rfl Tryd.underlying24 OShapeNoise.info2 rfl (by decide) (by omega) u9 x9_1 t286 [.int .i64 t286] (fun _ => True) (fun _ => False) rfl rfl ?aP (fun _ hk => hk.elim) ?aF ?aO ?aB ?aS ?aL ?_
          (case aP => exact rfl)
          (case aB => exact (by repeat (first | (with_reducible first | exact HB.out | apply below_alloc | apply pw_below_drewN | apply below_drew1) | exact HB.out)))
          (case aF => exact (fun _ _ => trivial))
          (case aO => exact (by (with_reducible repeat (first | apply Kd.R_alloc | apply Kd.R_drewN | apply Kd.R_drew)); exact HO_9.out))
          (case aS => exact (below_size (by repeat (first | (with_reducible first | exact HB.out | apply below_alloc | apply pw_below_drewN | apply below_drew1) | exact HB.out))))
          (case aL => have := LMc14.out; omega)
          intro v288 w16 ho hb hg hat
          rw [← Ny287.out] at ho
          have n0_ := Aside0.mk (hb)
          have n1_ := Aside0.mk (ho)
          clear HB
          clear HO_9
          have HB := n0_
          have HO289 := n1_
          clear n0_ n1_
          clear ho hb hg hat
          refine hK.out _ _ ⟨((HB.out.cell (World.block_lt_of_cell? w _ hw283_0)).trans hw283_0), ((HB.out.cell (World.block_lt_of_cell? w _ hw284_0)).trans hw284_0)⟩ (fun hHeld => ?_)
          clear hK K
          refine norm_ (a' := ?_) ?_ ?_
          rotate_left
          ·show Act.put _ (some 38) _ = _
           simp only [Act.put, zA1, zA2, zA3, i64_w, i32_w]
           rfl
          refine pure_ (i := 19) (N := some 9) (v := ?_) (a' := ?_) (zB 20 1048575) rfl rfl (any_of HT_.out (by kernel_rfl)) (fun _ _ _ h => h) (Or.inl ⟨by rfl, ?_⟩) ?_ ?_
          rotate_left
          ·intro w'
           go_simp
           with_reducible rfl
          rotate_left
          ·simp only [Act.put, zA1, zA2, zA3, i64_w, i32_w]
           rfl
          refine done_ (done_of HT_.out (by kernel_rfl)) ?_
          try go_wp2
          go_roundg k1
          case measure => have := HK1.out; omega
          case rel => exact ⟨(y287), (wrap64 (x10_1 + 1)), (by first | rfl | (simp; done) | (simp [*]; done)), H', ⟨by have := HK1.out; omega⟩, ⟨by (with_reducible repeat (first | apply Kd.R_alloc | apply Kd.R_drewN | apply Kd.R_drew)); exact HO289.out⟩, ⟨by repeat (first | (with_reducible first | exact HB.out | apply below_alloc | apply pw_below_drewN | apply below_drew1) | exact HB.out)⟩⟩
         ·rw [if_neg c14] at H
          exact absurd H (by simp)
        ·rw [if_neg c11] at H
         exact absurd H (by simp)
       ·rw [if_neg c10] at H
        exact absurd H (by simp)
      ·rw [if_neg c8] at H
       exact absurd H (by simp)
     ·rw [if_neg c7] at H
      exact absurd H (by simp)
    ·rw [if_neg c6] at H
     have c6b0 : (x10_1 == a1) = false := beq_eq_false_iff_ne.mpr c6
     have c6b1 : (x10_1 != a1) = true := bne_iff_ne.mpr c6
     by_cases c17 : x10_1 = (wrap64 (a1 + 1))
     ·rw [if_pos c17] at H
      have c17b0 : (x10_1 == (wrap64 (a1 + 1))) = true := beq_iff_eq.mpr c17
      have c17b1 : (x10_1 != (wrap64 (a1 + 1))) = false := bne_eq_false_iff_eq.mpr c17
      clear c17
      by_cases c18 : 0 ≤ a1
      ·rw [if_pos c18] at H
       have c18b0 : decide (0 ≤ a1) = true := decide_eq_true c18
       clear c18
       by_cases c19 : a1 < (l0.length : Int)
       ·rw [if_pos c19] at H
        have c19b0 : decide (a1 < (l0.length : Int)) = true := decide_eq_true c19
        clear c19
        obtain ⟨ji20, hji20⟩ : ∃ j_ : Int, (wrap64 (a1 + 1)) = j_ := ⟨_, rfl⟩
        replace H : (if 0 ≤ (ji20) then (if (ji20) < (l0.length : Int) then ((spinetref01_Round.f k1 (wrap64 ((wrap64 (a3 * (rd l0 a1))) + (wrap64 (a2 * (rd l0 (ji20)))))) 15).bind fun t292 => ((OShapeNoise.spinetref01_Sat.f k1 t292 32).bind fun t293 => (if x9_1.length < 17592186044416 then (spinetref18_Turn.l0 k1 l0 a1 a2 a3 (x9_1 ++ [t293]) (wrap64 (x10_1 + 1))) else (none)))) else (none)) else (none)) = some r := by first | (rw [hji20] at H; exact H) | (simp only [hji20] at H ⊢; exact H)
        (try rw [hji20] at c17b0)
        (try rw [hji20] at c17b1)
        have hji20w : (IntKind.i64.wrap (a1 + 1)) = ji20 := (i64_w _).trans hji20
        by_cases c21 : 0 ≤ (ji20)
        ·rw [if_pos c21] at H
         have c21b0 : decide (0 ≤ (ji20)) = true := decide_eq_true c21
         clear c21
         by_cases c22 : (ji20) < (l0.length : Int)
         ·rw [if_pos c22] at H
          have c22b0 : decide ((ji20) < (l0.length : Int)) = true := decide_eq_true c22
          clear c22
          replace H := Option.bind_eq_some_iff.mp H
          obtain ⟨t292, A230, H⟩ := H
          replace H : ((OShapeNoise.spinetref01_Sat.f k1 t292 32).bind fun t293 => (if x9_1.length < 17592186044416 then (spinetref18_Turn.l0 k1 l0 a1 a2 a3 (x9_1 ++ [t293]) (wrap64 (x10_1 + 1))) else (none))) = some r := H
          have A23 := Aside0.mk A230
          clear A230
          replace H := Option.bind_eq_some_iff.mp H
          obtain ⟨t293, A240, H⟩ := H
          replace H : (if x9_1.length < 17592186044416 then (spinetref18_Turn.l0 k1 l0 a1 a2 a3 (x9_1 ++ [t293]) (wrap64 (x10_1 + 1))) else (none)) = some r := H
          have A24 := Aside0.mk A240
          clear A240
          by_cases c25 : x9_1.length < 17592186044416
          ·rw [if_pos c25] at H
           have LMc25 := Aside0.mk c25
           clear c25
           obtain ⟨y294, hy294⟩ : ∃ y_ : List Int, y_ = (x9_1 ++ [t293]) := ⟨_, rfl⟩
           replace H : (spinetref18_Turn.l0 k1 l0 a1 a2 a3 y294 (wrap64 (x10_1 + 1))) = some r := by first | (rw [hy294]; with_reducible exact H) | (have H2_ := (Option.bind_some _ _).symm.trans H; rw [hy294]; with_reducible exact H2_) | (have H2_ := (Option.bind_some _ _).symm.trans H; with_reducible exact H2_) | with_reducible exact H | (rw [hy294]; exact H) | exact H
           have Ny294 := Aside0.mk hy294
           clear hy294
           have H' := Aside0.mk H
           clear H
           try go_wp2
           have n0_ := Aside0.mk (Kd.R_drew HO_9.out)
           have n1_ := Aside0.mk (below_drew1 HB.out)
           clear HO_9
           clear HB
           have HO_9 := n0_
           have HB := n1_
           clear n0_ n1_
           have p290 : 0 ≤ (a1 : Int) := of_decide_eq_true (by first | (with_reducible assumption) | assumption)
           have q290 : a1 < (l0.length : Int) := of_decide_eq_true (by first | (with_reducible assumption) | assumption)
           obtain ⟨ad290, e290, hx290_0⟩ := Kd.at_int HR0.out a1 p290 q290
           have hw290_0 := hx290_0
           cases e290
           replace hx290_0 := (HB.out.cell (World.block_lt_of_cell? w _ hx290_0)).trans hx290_0
           replace p290 := eq_true p290
           replace q290 := eq_true q290
           have p291 : 0 ≤ ((ji20) : Int) := of_decide_eq_true (by first | (with_reducible assumption) | assumption)
           have q291 : (ji20) < (l0.length : Int) := of_decide_eq_true (by first | (with_reducible assumption) | assumption)
           obtain ⟨ad291, e291, hx291_0⟩ := Kd.at_int HR0.out (ji20) p291 q291
           have hw291_0 := hx291_0
           obtain rfl : ad290 = ad291 := (by injection e291)
           replace hx291_0 := (HB.out.cell (World.block_lt_of_cell? w _ hx291_0)).trans hx291_0
           replace p291 := eq_true p291
           replace q291 := eq_true q291
           refine start_ (n := 20) (S := fun w' => w'.cell? (ad290.add (a1).toNat) = some (.int .i64 (rd l0 a1)) ∧ w'.cell? (ad290.add ((ji20)).toNat) = some (.int .i64 (rd l0 (ji20)))) (ds := []) #[false, false, false, false, false, false, false, false, false, false, false, false, false, false, false, false, false, false, false, false] (by kernel_rfl) rfl rfl ⟨((HB.out.cell (World.block_lt_of_cell? w _ hw290_0)).trans hw290_0), ((HB.out.cell (World.block_lt_of_cell? w _ hw291_0)).trans hw291_0)⟩ (fun hHeld => ?_); refine with_tabW spinetref18_Turn.tab8 spinetref18_Turn.bits8 (fun HT_ HW_ => ?_)
           generalize wr.drew = w26 at HO_9 HB hx290_0 hx291_0 hHeld ⊢
           refine pure_ (i := 0) (N := some 43) (v := ?_) (a' := ?_) (zB 20 1) rfl rfl (any_of HT_.out (by kernel_rfl)) (fun _ _ _ h => h) (Or.inl ⟨by rfl, ?_⟩) ?_ ?_
           rotate_left
           ·intro w'
            go_simp
            with_reducible rfl
           rotate_left
           ·simp only [Act.put, zA1, zA2, zA3, i64_w, i32_w]
            rfl
           refine pure_ (i := 1) (N := some 44) (v := ?_) (a' := ?_) (zB 20 3) rfl rfl (any_of HT_.out (by kernel_rfl)) (fun _ _ _ h => h) (Or.inl ⟨by rfl, ?_⟩) ?_ ?_
           rotate_left
           ·intro w'
            go_simp
            with_reducible rfl
           rotate_left
           ·simp only [Act.put, zA1, zA2, zA3, i64_w, i32_w]
            rfl
           refine pure_ (i := 2) (N := some 45) (v := ?_) (a' := ?_) (zB 20 7) rfl rfl (any_of HT_.out (by kernel_rfl)) (fun _ _ _ h => h) (Or.inl ⟨by rfl, ?_⟩) ?_ ?_
           rotate_left
           ·intro w'
            go_simp
            with_reducible rfl
           rotate_left
           ·simp only [Act.put, zA1, zA2, zA3, i64_w, i32_w]
            rfl
           refine pure_ (i := 3) (N := some 46) (v := ?_) (a' := ?_) (zB 20 15) rfl rfl (any_of HT_.out (by kernel_rfl)) (fun _ _ _ h => h) (Or.inl ⟨by rfl, ?_⟩) ?_ ?_
           rotate_left
           ·intro w'
            go_simp
            with_reducible rfl
           rotate_left
           ·simp only [Act.put, zA1, zA2, zA3, i64_w, i32_w]
            rfl
           refine pure_ (i := 4) (N := some 47) (v := ?_) (a' := ?_) (zB 20 31) rfl rfl (any_of HT_.out (by kernel_rfl)) (fun _ _ _ h => h) (Or.inl ⟨by rfl, ?_⟩) ?_ ?_
           rotate_left
           ·intro w'
            go_simp
            with_reducible rfl
           rotate_left
           ·simp only [Act.put, zA1, zA2, zA3, i64_w, i32_w]
            rfl
           refine pure_ (i := 7) (N := some 50) (v := ?_) (a' := ?_) (zB 20 159) rfl rfl (any_of HT_.out (by kernel_rfl)) (fun _ _ _ h => h) (Or.inl ⟨by rfl, ?_⟩) ?_ ?_
           rotate_left
           ·intro w'
            go_simp
            with_reducible rfl
           rotate_left
           ·simp only [Act.put, zA1, zA2, zA3, i64_w, i32_w]
            rfl
           refine pure_ (i := 8) (N := some 51) (v := ?_) (a' := ?_) (zB 20 415) rfl rfl (any_of HT_.out (by kernel_rfl)) (fun _ _ _ h => h) (Or.inl ⟨by rfl, ?_⟩) ?_ ?_
           rotate_left
           ·intro w'
            go_simp
            with_reducible rfl
           rotate_left
           ·simp only [Act.put, zA1, zA2, zA3, i64_w, i32_w]
            rfl
           refine pure_ (i := 9) (N := some 52) (v := ?_) (a' := ?_) (zB 20 927) rfl rfl (any_of HT_.out (by kernel_rfl)) (fun _ _ _ h => h) (Or.inl ⟨by rfl, ?_⟩) ?_ ?_
           rotate_left
           ·intro w'
            go_simp
            with_reducible rfl
           rotate_left
           ·simp only [Act.put, zA1, zA2, zA3, i64_w, i32_w]
            rfl
           refine pure_ (i := 10) (N := some 53) (v := ?_) (a' := ?_) (zB 20 1951) rfl rfl (any_of HT_.out (by kernel_rfl)) (fun _ _ _ h => h) (Or.inl ⟨by rfl, ?_⟩) ?_ ?_
           rotate_left
           ·intro w'
            go_simp
            with_reducible rfl
           rotate_left
           ·simp only [Act.put, zA1, zA2, zA3, i64_w, i32_w]
            rfl
           refine pure_ (i := 11) (N := some 54) (v := ?_) (a' := ?_) (zB 20 3999) rfl rfl (any_of HT_.out (by kernel_rfl)) (fun _ _ _ h => h) (Or.inl ⟨by rfl, ?_⟩) ?_ ?_
           rotate_left
           ·intro w'
            go_simp
            with_reducible rfl
           rotate_left
           ·simp only [Act.put, zA1, zA2, zA3, i64_w, i32_w]
            rfl
           refine take_ (i := 5) (N := some 48) (v := ?_) (a' := ?_) (zB 20 4031) rfl rfl (take_ofW HT_.out HW_.out (by kernel_rfl)) (fun _ _ _ h => h) (Or.inl ⟨by rfl, ?_⟩) hHeld ?_ ?_
           rotate_left
           ·rintro w' ⟨s0, s1⟩
            go_simp
            with_reducible rfl
           rotate_left
           ·simp only [Act.put, zA1, zA2, zA3, i64_w, i32_w]
            rfl
           refine pure_ (i := 6) (N := some 49) (v := ?_) (a' := ?_) (zB 20 4095) rfl rfl (any_of HT_.out (by kernel_rfl)) (fun _ _ _ h => h) (Or.inl ⟨by rfl, ?_⟩) ?_ ?_
           rotate_left
           ·intro w'
            go_simp
            with_reducible rfl
           rotate_left
           ·simp only [Act.put, zA1, zA2, zA3, i64_w, i32_w]
            rfl
           refine take_ (i := 12) (N := some 55) (v := ?_) (a' := ?_) (zB 20 8191) rfl rfl (take_ofW HT_.out HW_.out (by kernel_rfl)) (fun _ _ _ h => h) (Or.inl ⟨by rfl, ?_⟩) hHeld ?_ ?_
           rotate_left
           ·rintro w' ⟨s0, s1⟩
            go_simp
            with_reducible rfl
           rotate_left
           ·simp only [Act.put, zA1, zA2, zA3, i64_w, i32_w]
            rfl
           refine pure_ (i := 13) (N := some 56) (v := ?_) (a' := ?_) (zB 20 16383) rfl rfl (any_of HT_.out (by kernel_rfl)) (fun _ _ _ h => h) (Or.inl ⟨by rfl, ?_⟩) ?_ ?_
           rotate_left
           ·intro w'
            go_simp
            with_reducible rfl
           rotate_left
           ·simp only [Act.put, zA1, zA2, zA3, i64_w, i32_w]
            rfl
           refine pure_ (i := 14) (N := some 57) (v := ?_) (a' := ?_) (zB 20 32767) rfl rfl (any_of HT_.out (by kernel_rfl)) (fun _ _ _ h => h) (Or.inl ⟨by rfl, ?_⟩) ?_ ?_
           rotate_left
           ·intro w'
            go_simp
            with_reducible rfl
           rotate_left
           ·simp only [Act.put, zA1, zA2, zA3, i64_w, i32_w]
            rfl
           refine one_ (i := 15) (N := some 58) (zB 20 65535) rfl rfl (one_of HT_.out (by kernel_rfl)) (by decide) (fun K hK => ?_)
           refine goes_ Tryd.func99 (by kernel_rfl) rfl #[.int .i64 (wrap64 ((wrap64 (a3 * (rd l0 a1))) + (wrap64 (a2 * (rd l0 (ji20)))))), .int .i64 15] (by rfl) rfl rfl (by (try simp only [List.map_toArray, List.map_cons, List.map_nil]); first | done | (simp only [hji20]; rfl) | rfl | (simp only [List.length_drop, List.length_take]; rfl)) ?_
           with_reducible refine (spinetref01_Round.calls k1 (wrap64 ((wrap64 (a3 * (rd l0 a1))) + (wrap64 (a2 * (rd l0 (ji20)))))) 15 t292 _ A23.out).mono ?_
           rintro e w' ⟨rfl, ⟨nd, rfl⟩⟩
           refine ⟨_, rfl, ?_⟩
           refine hK.out _ _ ⟨((HB.out.cell (World.block_lt_of_cell? w _ hw290_0)).trans hw290_0), ((HB.out.cell (World.block_lt_of_cell? w _ hw291_0)).trans hw291_0)⟩ (fun hHeld => ?_)
           clear hK K
           refine norm_ (a' := ?_) ?_ ?_
           rotate_left
           ·show Act.put _ (some 58) _ = _
            simp only [Act.put, zA1, zA2, zA3, i64_w, i32_w]
            rfl
           refine one_ (i := 16) (N := some 59) (zB 20 131071) rfl rfl (one_of HT_.out (by kernel_rfl)) (by decide) (fun K hK => ?_)
           refine goes_ Tryd.func44 (by kernel_rfl) rfl #[.int .i64 t292, .int .i64 32] (by rfl) rfl rfl (by (try simp only [List.map_toArray, List.map_cons, List.map_nil]); first | done | rfl | (simp only [List.length_drop, List.length_take]; rfl)) ?_
           with_reducible refine (OShapeNoise.spinetref01_Sat.calls k1 t292 32 t293 _ A24.out).mono ?_
           rintro e w' ⟨rfl, ⟨nd, rfl⟩⟩
           refine ⟨_, rfl, ?_⟩
           refine hK.out _ _ ⟨((HB.out.cell (World.block_lt_of_cell? w _ hw290_0)).trans hw290_0), ((HB.out.cell (World.block_lt_of_cell? w _ hw291_0)).trans hw291_0)⟩ (fun hHeld => ?_)
           clear hK K
           refine norm_ (a' := ?_) ?_ ?_
           rotate_left
           ·show Act.put _ (some 59) _ = _
            simp only [Act.put, zA1, zA2, zA3, i64_w, i32_w]
            rfl
           refine one_ (i := 17) (N := some 60) (zB 20 262143) rfl rfl (one_of HT_.out (by kernel_rfl)) (by decide) (fun K hK => ?_)
           refine value_ (w1 := ?_) (v := ?_) (by rfl) rfl ?_ ?_
           rotate_left 2
           ·go_simp
            constructor
            ·rfl
            ·rfl
           refine hK.out _ _ ⟨(World.cell?_alloc_lt _ _ _ (World.block_lt_of_cell? _ _ (((HB.out.cell (World.block_lt_of_cell? w _ hw290_0)).trans hw290_0)))).trans (((HB.out.cell (World.block_lt_of_cell? w _ hw290_0)).trans hw290_0)), (World.cell?_alloc_lt _ _ _ (World.block_lt_of_cell? _ _ (((HB.out.cell (World.block_lt_of_cell? w _ hw291_0)).trans hw291_0)))).trans (((HB.out.cell (World.block_lt_of_cell? w _ hw291_0)).trans hw291_0))⟩ (fun hHeld => ?_)
           clear hK K
           refine norm_ (a' := ?_) ?_ ?_
           rotate_left
           ·show Act.put _ (some 60) _ = _
            simp only [Act.put, zA1, zA2, zA3, i64_w, i32_w]
            rfl
           refine one_ (i := 18) (N := some 61) (zB 20 524287) rfl rfl (one_of HT_.out (by kernel_rfl)) (by decide) (fun K hK => ?_)
           refine Kd.R_append_step (Kd.int .i64) (w0 := w) w.heap.size (by rfl) (.tmp 43) (.tmp 60) 24 2 (.int .i64 0) 8 rfl Tryd.underlying24 OShapeNoise.info2 rfl (by decide) (by omega) u9 x9_1 t293 [.int .i64 t293] (fun _ => True) (fun _ => False) rfl rfl ?aP (fun _ hk => hk.elim) ?aF ?aO ?aB ?aS ?aL ?_
           (case aP => exact rfl)
           (case aB => exact (by repeat (first | (with_reducible first | exact HB.out | apply below_alloc | apply pw_below_drewN | apply below_drew1) | exact HB.out)))
           (case aF => exact (fun _ _ => trivial))
           (case aO => exact (by (with_reducible repeat (first | apply Kd.R_alloc | apply Kd.R_drewN | apply Kd.R_drew)); exact HO_9.out))
           (case aS => exact (below_size (by repeat (first | (with_reducible first | exact HB.out | apply below_alloc | apply pw_below_drewN | apply below_drew1) | exact HB.out))))
           (case aL => have := LMc25.out; omega)
           intro v295 w27 ho hb hg hat
           rw [← Ny294.out] at ho
           have n0_ := Aside0.mk (hb)
           have n1_ := Aside0.mk (ho)
           clear HB
           clear HO_9
           have HB := n0_
           have HO296 := n1_
           clear n0_ n1_
           clear ho hb hg hat
           refine hK.out _ _ ⟨((HB.out.cell (World.block_lt_of_cell? w _ hw290_0)).trans hw290_0), ((HB.out.cell (World.block_lt_of_cell? w _ hw291_0)).trans hw291_0)⟩ (fun hHeld => ?_)
           clear hK K
           refine norm_ (a' := ?_) ?_ ?_
           rotate_left
           ·show Act.put _ (some 61) _ = _
            simp only [Act.put, zA1, zA2, zA3, i64_w, i32_w]
            rfl
           refine pure_ (i := 19) (N := some 9) (v := ?_) (a' := ?_) (zB 20 1048575) rfl rfl (any_of HT_.out (by kernel_rfl)) (fun _ _ _ h => h) (Or.inl ⟨by rfl, ?_⟩) ?_ ?_
           rotate_left
           ·intro w'
            go_simp
            with_reducible rfl
           rotate_left
           ·simp only [Act.put, zA1, zA2, zA3, i64_w, i32_w]
            rfl
           refine done_ (done_of HT_.out (by kernel_rfl)) ?_
           try go_wp2
           go_roundg k1
           case measure => have := HK1.out; omega
           case rel => exact ⟨(y294), (wrap64 (x10_1 + 1)), (by first | rfl | (simp; done) | (simp [*]; done)), H', ⟨by have := HK1.out; omega⟩, ⟨by (with_reducible repeat (first | apply Kd.R_alloc | apply Kd.R_drewN | apply Kd.R_drew)); exact HO296.out⟩, ⟨by repeat (first | (with_reducible first | exact HB.out | apply below_alloc | apply pw_below_drewN | apply below_drew1) | exact HB.out)⟩⟩
          ·rw [if_neg c25] at H
           exact absurd H (by simp)
         ·rw [if_neg c22] at H
          exact absurd H (by simp)
        ·rw [if_neg c21] at H
         exact absurd H (by simp)
       ·rw [if_neg c19] at H
        exact absurd H (by simp)
      ·rw [if_neg c18] at H
       exact absurd H (by simp)
     ·rw [if_neg c17] at H
      have c17b0 : (x10_1 == (wrap64 (a1 + 1))) = false := beq_eq_false_iff_ne.mpr c17
      have c17b1 : (x10_1 != (wrap64 (a1 + 1))) = true := bne_iff_ne.mpr c17
      by_cases c28 : 0 ≤ x10_1
      ·rw [if_pos c28] at H
       have c28b0 : decide (0 ≤ x10_1) = true := decide_eq_true c28
       clear c28
       by_cases c29 : x9_1.length < 17592186044416
       ·rw [if_pos c29] at H
        have LMc29 := Aside0.mk c29
        clear c29
        obtain ⟨y298, hy298⟩ : ∃ y_ : List Int, y_ = (x9_1 ++ [rd l0 x10_1]) := ⟨_, rfl⟩
        replace H : (spinetref18_Turn.l0 k1 l0 a1 a2 a3 y298 (wrap64 (x10_1 + 1))) = some r := by first | (rw [hy298]; with_reducible exact H) | (have H2_ := (Option.bind_some _ _).symm.trans H; rw [hy298]; with_reducible exact H2_) | (have H2_ := (Option.bind_some _ _).symm.trans H; with_reducible exact H2_) | with_reducible exact H | (rw [hy298]; exact H) | exact H
        have Ny298 := Aside0.mk hy298
        clear hy298
        have H' := Aside0.mk H
        clear H
        have p297 : 0 ≤ (x10_1 : Int) := of_decide_eq_true (by first | (with_reducible assumption) | assumption)
        have q297 : x10_1 < (l0.length : Int) := of_decide_eq_true (by first | (with_reducible assumption) | assumption)
        obtain ⟨ad297, e297, hx297_0⟩ := Kd.at_int HR0.out x10_1 p297 q297
        cases e297
        replace hx297_0 := (HB.out.cell (World.block_lt_of_cell? w _ hx297_0)).trans hx297_0
        replace p297 := eq_true p297
        replace q297 := eq_true q297
        go_wp2_with (first | ((with_reducible refine gate_builtin (b := .append) (xs := #[.tmp 62, .tmp 67]) rfl ?_); at_builtin; refine Kd.R_append (Kd.int .i64) (w0 := w) w.heap.size rfl (.tmp 62) (.tmp 67) 24 2 (.int .i64 0) 8 rfl Tryd.underlying24 OShapeNoise.info2 rfl (by decide) (by omega) u9 x9_1 (rd l0 x10_1) [.int .i64 (rd l0 x10_1)] (fun _ => True) (fun _ => False) rfl rfl ?aP (fun _ hk => hk.elim) ?aF ?aO ?aB ?aS ?aL ?_; (case aP => exact rfl); (case aB => exact (by repeat (first | (with_reducible first | exact HB.out | apply below_alloc | apply pw_below_drewN | apply below_drew1) | exact HB.out))); (case aF => exact (fun _ _ => trivial)); (case aO => exact (by (with_reducible repeat (first | apply Kd.R_alloc | apply Kd.R_drewN | apply Kd.R_drew)); exact HO_9.out)); (case aS => exact (below_size (by repeat (first | (with_reducible first | exact HB.out | apply below_alloc | apply pw_below_drewN | apply below_drew1) | exact HB.out)))); (case aL => have := LMc29.out; omega); intro v299 w30 ho hb hg hat; rw [← Ny298.out] at ho; have n0_ := Aside0.mk (hb); have n1_ := Aside0.mk (ho); clear HB; clear HO_9; have HB := n0_; have HO300 := n1_; clear n0_ n1_; clear ho hb hg hat))
        go_roundg k1
        case measure => have := HK1.out; omega
        case rel => exact ⟨(y298), (wrap64 (x10_1 + 1)), (by first | rfl | (simp; done) | (simp [*]; done)), H', ⟨by have := HK1.out; omega⟩, ⟨by (with_reducible repeat (first | apply Kd.R_alloc | apply Kd.R_drewN | apply Kd.R_drew)); exact HO300.out⟩, ⟨by repeat (first | (with_reducible first | exact HB.out | apply below_alloc | apply pw_below_drewN | apply below_drew1) | exact HB.out)⟩⟩
       ·rw [if_neg c29] at H
        exact absurd H (by simp)
      ·rw [if_neg c28] at H
       exact absurd H (by simp)
   ·rw [if_neg c5] at H
    have c5b0 : decide (x10_1 < (l0.length : Int)) = false := decide_eq_false c5
    clear c5
    obtain rfl := Option.some.inj H
    go_wp2
    go_ret
    exact ⟨_, by first | rfl | (simp [errW_none, errW_some] <;> rfl) | (simp [*, errW_none, errW_some] <;> rfl), by (with_reducible repeat (first | apply Kd.R_alloc | apply Kd.R_drewN | apply Kd.R_drew)); exact HO_9.out, by repeat (first | (with_reducible first | exact HB.out | apply below_alloc | apply pw_below_drewN | apply below_drew1) | exact HB.out)⟩
mutual
def spinetref18_Spread.l0 : Nat → List Int → Int → Int → Int → Option (List Int)
 | 0, _, _, _, _ => none
 | k + 1, x0, x5, x6, x7 => if x7 < (wrap64 ((x0.length : Int) - 1)) then ((spinetref18_Turn.f k x0 x7 x5 x6).bind fun t303 => (spinetref18_Spread.l0 k t303 x5 x6 (wrap64 (x7 + 1)))) else (spinetref18_Spread.l1 k x0 x5 x6 (wrap64 ((x0.length : Int) - 3)))
def spinetref18_Spread.l1 : Nat → List Int → Int → Int → Int → Option (List Int)
 | 0, _, _, _, _ => none
 | k + 1, x0, x5, x6, x8 => if x8 ≥ 0 then ((spinetref18_Turn.f k x0 x8 x5 x6).bind fun t306 => (spinetref18_Spread.l1 k t306 x5 x6 (wrap64 (x8 - 1)))) else (some x0)
end
def spinetref18_Spread.f (k : Nat) (l0 : List Int) (a1 : Int) : Option (List Int) := (spinetref18_Angle.f a1).bind fun bt301 => (if bt301.2 = 0 then (some l0) else (spinetref18_Spread.l0 k l0 bt301.1 bt301.2 0))
theorem spinetref18_Spread.mono_l : ∀ k, (∀ y0 y1 y2 y3, LeO (spinetref18_Spread.l0 k y0 y1 y2 y3) (spinetref18_Spread.l0 (k + 1) y0 y1 y2 y3)) ∧ (∀ y0 y1 y2 y3, LeO (spinetref18_Spread.l1 k y0 y1 y2 y3) (spinetref18_Spread.l1 (k + 1) y0 y1 y2 y3))
 | 0 => ⟨fun _ _ _ _ r h => by simp [spinetref18_Spread.l0] at h, fun _ _ _ _ r h => by simp [spinetref18_Spread.l1] at h⟩
 | k + 1 => by
  obtain ⟨ih0, ih1⟩ := spinetref18_Spread.mono_l k
  refine ⟨?_, ?_⟩
  ·intro y0 y1 y2 y3
   unfold spinetref18_Spread.l0
   repeat' first
   | (with_reducible exact ih0 _ _ _ _)
   | (with_reducible exact ih1 _ _ _ _)
   | (with_reducible exact spinetref18_Turn.mono _ _ _ _ _)
   | (with_reducible exact LeO.refl _)
   | (with_reducible exact LeO.none _)
   | (with_reducible refine LeO.ite ?_ ?_)
   | (with_reducible refine LeO.bind ?_ (fun _ => ?_))
   | exact ih0 _ _ _ _
   | exact ih1 _ _ _ _
   | exact spinetref18_Turn.mono _ _ _ _ _
   | exact LeO.none _
   | refine LeO.ite ?_ ?_
   | refine LeO.bind ?_ (fun _ => ?_)
  ·intro y0 y1 y2 y3
   unfold spinetref18_Spread.l1
   repeat' first
   | (with_reducible exact ih0 _ _ _ _)
   | (with_reducible exact ih1 _ _ _ _)
   | (with_reducible exact spinetref18_Turn.mono _ _ _ _ _)
   | (with_reducible exact LeO.refl _)
   | (with_reducible exact LeO.none _)
   | (with_reducible refine LeO.ite ?_ ?_)
   | (with_reducible refine LeO.bind ?_ (fun _ => ?_))
   | exact ih0 _ _ _ _
   | exact ih1 _ _ _ _
   | exact spinetref18_Turn.mono _ _ _ _ _
   | exact LeO.none _
   | refine LeO.ite ?_ ?_
   | refine LeO.bind ?_ (fun _ => ?_)
theorem spinetref18_Spread.mono : ∀ a0 a1 k, LeO (spinetref18_Spread.f k a0 a1) (spinetref18_Spread.f (k + 1) a0 a1) := by
 intro a0 a1 k
 obtain ⟨ih0, ih1⟩ := spinetref18_Spread.mono_l k
 unfold spinetref18_Spread.f
 repeat' first
  | (with_reducible exact ih0 _ _ _ _)
  | (with_reducible exact ih1 _ _ _ _)
  | (with_reducible exact spinetref18_Turn.mono _ _ _ _ _)
  | (with_reducible exact LeO.refl _)
  | (with_reducible exact LeO.none _)
  | (with_reducible refine LeO.ite ?_ ?_)
  | (with_reducible refine LeO.bind ?_ (fun _ => ?_))
  | exact ih0 _ _ _ _
  | exact ih1 _ _ _ _
  | exact spinetref18_Turn.mono _ _ _ _ _
  | exact LeO.none _
  | refine LeO.ite ?_ ?_
  | refine LeO.bind ?_ (fun _ => ?_)
set_option maxHeartbeats 8000000 in
set_option maxRecDepth 100000 in
theorem spinetref18_Spread.calls (k : Nat) (P0_ : Nat → Prop) (A0 : Option Addr) (c0 : Nat) (l0 : List Int) (a1 : Int) (r : List Int) (w : World) (hs0 : Kd.V (Kd.int .i64) 2 w w.heap.size (fun k_ => P0_ k_) (.slice A0 l0.length c0) l0) (h : spinetref18_Spread.f k l0 a1 = some r) :
 Calls Tryd.prog 66 #[.slice A0 l0.length c0, .int .i64 a1] w fun e w' => ∃ v0_ : Value, e = .returned (v0_) ∧ Kd.V (Kd.int .i64) 2 w' w.heap.size (fun k_ => (P0_ k_ ∨ w.heap.size ≤ k_)) v0_ r ∧ Below w.heap.size w w' := by
 have HO0 := Aside0.mk (show Kd.V (Kd.int .i64) 2 w w.heap.size (fun k_ => (P0_ k_ ∨ w.heap.size ≤ k_)) (.slice A0 l0.length c0) l0 from Kd.V_mono hs0 (fun k_ hk => .inl hk))
 have HB := Aside0.mk (Below.refl w.heap.size w)
 have H : ((spinetref18_Angle.f a1).bind fun bt301 => (if bt301.2 = 0 then (some l0) else (spinetref18_Spread.l0 k l0 bt301.1 bt301.2 0))) = some r := h
 clear h
 replace H := Option.bind_eq_some_iff.mp H
 obtain ⟨⟨t301, t302⟩, A30, H⟩ := H
 replace H : (if t302 = 0 then (some l0) else (spinetref18_Spread.l0 k l0 t301 t302 0)) = some r := H
 have A3 := Aside0.mk A30
 clear A30
 by_cases c4 : t302 = 0
 ·rw [if_pos c4] at H
  have c4b0 : (t302 == 0) = true := beq_iff_eq.mpr c4
  have c4b1 : (t302 != 0) = false := bne_eq_false_iff_eq.mpr c4
  clear c4
  obtain rfl := Option.some.inj H
  go_enter Tryd.func66, Tryd.ntmps66
  go_wp2_with (first | ((with_reducible refine gate_callee (f := 88) rfl ?_); refine goesL_ (some 11) rfl rfl Tryd.func88 (by kernel_rfl) rfl #[.int .i64 a1] rfl (by (try simp only [List.map_toArray, List.map_cons, List.map_nil]); first | done | rfl | (simp only [List.length_drop, List.length_take]; rfl)) ?_; (with_reducible refine (spinetref18_Angle.calls a1 t301 t302 _ A3.out).mono ?_); rintro e w' ⟨rfl, ⟨nd, rfl⟩⟩; refine ⟨_, rfl, ?_⟩))
  go_ret
  exact ⟨_, by first | rfl | (simp [errW_none, errW_some] <;> rfl) | (simp [*, errW_none, errW_some] <;> rfl), by (with_reducible repeat (first | apply Kd.V_alloc | apply Kd.V_drewN | apply Kd.V_drew)); exact HO0.out, by repeat (first | (with_reducible first | exact HB.out | apply below_alloc | apply pw_below_drewN | apply below_drew1) | exact HB.out)⟩
 ·rw [if_neg c4] at H
  have c4b0 : (t302 == 0) = false := beq_eq_false_iff_ne.mpr c4
  have c4b1 : (t302 != 0) = true := bne_iff_ne.mpr c4
  have H' := Aside0.mk H
  clear H
  go_enter Tryd.func66, Tryd.ntmps66
  go_wp2_with (first | ((with_reducible refine gate_callee (f := 88) rfl ?_); refine goesL_ (some 11) rfl rfl Tryd.func88 (by kernel_rfl) rfl #[.int .i64 a1] rfl (by (try simp only [List.map_toArray, List.map_cons, List.map_nil]); first | done | rfl | (simp only [List.length_drop, List.length_take]; rfl)) ?_; (with_reducible refine (spinetref18_Angle.calls a1 t301 t302 _ A3.out).mono ?_); rintro e w' ⟨rfl, ⟨nd, rfl⟩⟩; refine ⟨_, rfl, ?_⟩))
  go_loopg [0, 7] k (fun kq v0 v7 w' => ∃ (x0_1 : List Int) (x7_1 : Int), v7 = .int .i64 x7_1 ∧ Aside0 (spinetref18_Spread.l0 kq x0_1 t301 t302 x7_1 = some r) ∧ Aside0 (kq ≤ k) ∧ Aside0 (Kd.V (Kd.int .i64) 2 w' w.heap.size (fun k_ => (P0_ k_ ∨ w.heap.size ≤ k_)) v0 x0_1) ∧ Aside0 (Below w.heap.size w w'))
  case atStart => exact ⟨(l0), (0), (by first | rfl | (simp; done) | (simp [*]; done)), H', ⟨Nat.le_refl _⟩, ⟨by (with_reducible repeat (first | apply Kd.V_alloc | apply Kd.V_drewN | apply Kd.V_drew)); exact HO0.out⟩, ⟨by repeat (first | (with_reducible first | exact HB.out | apply below_alloc | apply pw_below_drewN | apply below_drew1) | exact HB.out)⟩⟩
  case round =>
   clear H'
   try clear p2
   try clear c4
   try clear c4b0
   try clear c4b1
   obtain ⟨x0_1, x7_1, rfl, HA, HK1, HO_0, HB⟩ := hrel
   cases gk with
   | zero => exact absurd HA.out (by simp [spinetref18_Spread.l0])
   | succ k1 =>
    have H := HA.out
    clear HA
    simp only [spinetref18_Spread.l0] at H
    by_cases c5 : x7_1 < (wrap64 ((x0_1.length : Int) - 1))
    ·rw [if_pos c5] at H
     have c5b0 : decide (x7_1 < (wrap64 ((x0_1.length : Int) - 1))) = true := decide_eq_true c5
     clear c5
     replace H := Option.bind_eq_some_iff.mp H
     obtain ⟨t303, A60, H⟩ := H
     replace H : (spinetref18_Spread.l0 k1 t303 t301 t302 (wrap64 (x7_1 + 1))) = some r := H
     have A6 := Aside0.mk A60
     clear A60
     have H' := Aside0.mk H
     clear H
     obtain ⟨Ao7, co7, eo7⟩ := Kd.V_slice HO_0.out
     subst eo7
     go_wp2_with (first | ((with_reducible refine gate_callee (f := 89) rfl ?_); refine goesL_ (some 28) rfl rfl Tryd.func89 (by kernel_rfl) rfl #[.slice Ao7 x0_1.length co7, .int .i64 x7_1, .int .i64 t301, .int .i64 t302] rfl (by (try simp only [List.map_toArray, List.map_cons, List.map_nil]); first | done | rfl | (simp only [List.length_drop, List.length_take]; rfl)) ?_; (with_reducible refine (spinetref18_Turn.calls k1 _ _ x0_1 x7_1 t301 t302 t303 _ ?side1 ?side2 A6.out).mono ?_); (case side1 => repeat (first | exact (Kd.V_reads' HO_0.out).2.2 | (with_reducible refine Kd.C_alloc ?_ _) | (with_reducible refine Kd.C_drewN ?_ _) | (with_reducible refine Kd.C_drew ?_))); (case side2 => exact (Kd.V_reads' HO_0.out).2.1); rintro e w8 ⟨v304, rfl, ho0, hb⟩; refine ⟨_, rfl, ?_⟩; have n0_ := Aside0.mk (Kd.V_elder' (by (with_reducible repeat (first | apply Kd.V_alloc | apply Kd.V_drewN | apply Kd.V_drew)); exact HO_0.out) (Kd.R_base ho0) hb); have n1_ := Aside0.mk (Kd.R_lower (Kd.R_newM (M := fun k_ => (w.heap.size ≤ k_)) ho0 (below_size (by repeat (first | (with_reducible first | exact HB.out | apply below_alloc | apply pw_below_drewN | apply below_drew1) | exact HB.out))) (fun k_ h_ => h_)) (below_size (by repeat (first | (with_reducible first | exact HB.out | apply below_alloc | apply pw_below_drewN | apply below_drew1) | exact HB.out)))); have n2_ := Aside0.mk (below_step (by repeat (first | (with_reducible first | exact HB.out | apply below_alloc | apply pw_below_drewN | apply below_drew1) | exact HB.out)) hb); clear HO_0; clear HB; have HO_0 := n0_; have HO305 := n1_; have HB := n2_; clear n0_ n1_ n2_; (try clear hb); (try clear hb2); (try clear hk); (try clear hi); (try clear ho0)))
     go_roundg k1
     case measure => have := HK1.out; omega
     case rel => exact ⟨(t303), (wrap64 (x7_1 + 1)), (by first | rfl | (simp; done) | (simp [*]; done)), H', ⟨by have := HK1.out; omega⟩, ⟨Kd.V_mono (Kd.R_V (by (with_reducible repeat (first | apply Kd.R_alloc | apply Kd.R_drewN | apply Kd.R_drew)); exact Kd.R_mono HO305.out (fun _ hk => hk.1))) (fun k_ hk => by first | exact ⟨(.inr (hk.1)), hk.2⟩ | exact (.inr (hk)))⟩, ⟨by repeat (first | (with_reducible first | exact HB.out | apply below_alloc | apply pw_below_drewN | apply below_drew1) | exact HB.out)⟩⟩
    ·rw [if_neg c5] at H
     have c5b0 : decide (x7_1 < (wrap64 ((x0_1.length : Int) - 1))) = false := decide_eq_false c5
     clear c5
     have H' := Aside0.mk H
     clear H
     obtain ⟨Ao9, co9, eo9⟩ := Kd.V_slice HO_0.out
     subst eo9
     go_wp2
     go_loopg [0, 8] k1 (fun kq v0 v8 w' => ∃ (x0_2 : List Int) (x8_2 : Int), v8 = .int .i64 x8_2 ∧ Aside0 (spinetref18_Spread.l1 kq x0_2 t301 t302 x8_2 = some r) ∧ Aside0 (kq ≤ k1) ∧ Aside0 (Kd.V (Kd.int .i64) 2 w' w.heap.size (fun k_ => (P0_ k_ ∨ w.heap.size ≤ k_)) v0 x0_2) ∧ Aside0 (Below w.heap.size w w'))
     case atStart => exact ⟨(x0_1), (wrap64 ((x0_1.length : Int) - 3)), (by first | rfl | (simp; done) | (simp [*]; done)), H', ⟨Nat.le_refl _⟩, ⟨by (with_reducible repeat (first | apply Kd.V_alloc | apply Kd.V_drewN | apply Kd.V_drew)); exact HO_0.out⟩, ⟨by repeat (first | (with_reducible first | exact HB.out | apply below_alloc | apply pw_below_drewN | apply below_drew1) | exact HB.out)⟩⟩
     case round =>
      clear H'
      try clear p2
      try clear c4
      try clear c4b0
      try clear c4b1
      try clear c5
      try clear c5b0
      try clear c6
      try clear p6
      try clear c8
      try clear p2
      obtain ⟨x0_2, x8_2, rfl, HA, HK2, HO_0, HB⟩ := hrel
      cases gk with
      | zero => exact absurd HA.out (by simp [spinetref18_Spread.l1])
      | succ k2 =>
       have H := HA.out
       clear HA
       simp only [spinetref18_Spread.l1] at H
       by_cases c10 : x8_2 ≥ 0
       ·rw [if_pos c10] at H
        have c10b0 : decide (0 ≤ x8_2) = true := decide_eq_true c10
        clear c10
        replace H := Option.bind_eq_some_iff.mp H
        obtain ⟨t306, A110, H⟩ := H
        replace H : (spinetref18_Spread.l1 k2 t306 t301 t302 (wrap64 (x8_2 - 1))) = some r := H
        have A11 := Aside0.mk A110
        clear A110
        have H' := Aside0.mk H
        clear H
        obtain ⟨Ao12, co12, eo12⟩ := Kd.V_slice HO_0.out
        subst eo12
        go_wp2_with (first | ((with_reducible refine gate_callee (f := 89) rfl ?_); refine goesL_ (some 40) rfl rfl Tryd.func89 (by kernel_rfl) rfl #[.slice Ao12 x0_2.length co12, .int .i64 x8_2, .int .i64 t301, .int .i64 t302] rfl (by (try simp only [List.map_toArray, List.map_cons, List.map_nil]); first | done | rfl | (simp only [List.length_drop, List.length_take]; rfl)) ?_; (with_reducible refine (spinetref18_Turn.calls k2 _ _ x0_2 x8_2 t301 t302 t306 _ ?side1 ?side2 A11.out).mono ?_); (case side1 => repeat (first | exact (Kd.V_reads' HO_0.out).2.2 | (with_reducible refine Kd.C_alloc ?_ _) | (with_reducible refine Kd.C_drewN ?_ _) | (with_reducible refine Kd.C_drew ?_))); (case side2 => exact (Kd.V_reads' HO_0.out).2.1); rintro e w13 ⟨v307, rfl, ho0, hb⟩; refine ⟨_, rfl, ?_⟩; have n0_ := Aside0.mk (Kd.V_elder' (by (with_reducible repeat (first | apply Kd.V_alloc | apply Kd.V_drewN | apply Kd.V_drew)); exact HO_0.out) (Kd.R_base ho0) hb); have n1_ := Aside0.mk (Kd.R_lower (Kd.R_newM (M := fun k_ => (w.heap.size ≤ k_)) ho0 (below_size (by repeat (first | (with_reducible first | exact HB.out | apply below_alloc | apply pw_below_drewN | apply below_drew1) | exact HB.out))) (fun k_ h_ => h_)) (below_size (by repeat (first | (with_reducible first | exact HB.out | apply below_alloc | apply pw_below_drewN | apply below_drew1) | exact HB.out)))); have n2_ := Aside0.mk (below_step (by repeat (first | (with_reducible first | exact HB.out | apply below_alloc | apply pw_below_drewN | apply below_drew1) | exact HB.out)) hb); clear HO_0; clear HB; have HO_0 := n0_; have HO308 := n1_; have HB := n2_; clear n0_ n1_ n2_; (try clear hb); (try clear hb2); (try clear hk); (try clear hi); (try clear ho0)))
        go_roundg k2
        case measure => have := HK1.out; have := HK2.out; omega
        case rel => exact ⟨(t306), (wrap64 (x8_2 - 1)), (by first | rfl | (simp; done) | (simp [*]; done)), H', ⟨by have := HK1.out; have := HK2.out; omega⟩, ⟨Kd.V_mono (Kd.R_V (by (with_reducible repeat (first | apply Kd.R_alloc | apply Kd.R_drewN | apply Kd.R_drew)); exact Kd.R_mono HO308.out (fun _ hk => hk.1))) (fun k_ hk => by first | exact ⟨(.inr (hk.1)), hk.2⟩ | exact (.inr (hk)))⟩, ⟨by repeat (first | (with_reducible first | exact HB.out | apply below_alloc | apply pw_below_drewN | apply below_drew1) | exact HB.out)⟩⟩
       ·rw [if_neg c10] at H
        have c10b0 : decide (0 ≤ x8_2) = false := decide_eq_false c10
        clear c10
        obtain rfl := Option.some.inj H
        go_wp2
        go_ret
        exact ⟨_, by first | rfl | (simp [errW_none, errW_some] <;> rfl) | (simp [*, errW_none, errW_some] <;> rfl), by (with_reducible repeat (first | apply Kd.V_alloc | apply Kd.V_drewN | apply Kd.V_drew)); exact HO_0.out, by repeat (first | (with_reducible first | exact HB.out | apply below_alloc | apply pw_below_drewN | apply below_drew1) | exact HB.out)⟩
def spinetref19_Vector.l0 : Nat → List Int → List Int → Int → Option (List Int)
 | 0, _, _, _ => none
 | k + 1, x0, x3, x4 => if x4 < (x0.length : Int) then (if 0 ≤ x4 then ((OShapeNoise.spinetref01_Held.f (rd x0 x4) (-32) 32).bind fun t310 => (if x3.length < 17592186044416 then (spinetref19_Vector.l0 k x0 (x3 ++ [wrap64 (t310 * 1024)]) (wrap64 (x4 + 1))) else (none))) else (none)) else (some x3)
def spinetref19_Vector.f (k : Nat) (l0 : List Int) : Option (List Int) := spinetref19_Vector.l0 k l0 ([] : List Int) 0
theorem spinetref19_Vector.mono_l : ∀ k, (∀ y0 y1 y2, LeO (spinetref19_Vector.l0 k y0 y1 y2) (spinetref19_Vector.l0 (k + 1) y0 y1 y2))
 | 0 => fun _ _ _ r h => by simp [spinetref19_Vector.l0] at h
 | k + 1 => by
  have ih0 := spinetref19_Vector.mono_l k
  ·intro y0 y1 y2
   unfold spinetref19_Vector.l0
   repeat' first
   | (with_reducible exact ih0 _ _ _)
   | (with_reducible exact LeO.refl _)
   | (with_reducible exact LeO.none _)
   | (with_reducible refine LeO.ite ?_ ?_)
   | (with_reducible refine LeO.bind ?_ (fun _ => ?_))
   | exact ih0 _ _ _
   | exact LeO.none _
   | refine LeO.ite ?_ ?_
   | refine LeO.bind ?_ (fun _ => ?_)
theorem spinetref19_Vector.mono : ∀ a0 k, LeO (spinetref19_Vector.f k a0) (spinetref19_Vector.f (k + 1) a0) := by
 intro a0 k
 have ih0 := spinetref19_Vector.mono_l k
 unfold spinetref19_Vector.f
 repeat' first
  | (with_reducible exact ih0 _ _ _)
  | (with_reducible exact LeO.refl _)
  | (with_reducible exact LeO.none _)
  | (with_reducible refine LeO.ite ?_ ?_)
  | (with_reducible refine LeO.bind ?_ (fun _ => ?_))
  | exact ih0 _ _ _
  | exact LeO.none _
  | refine LeO.ite ?_ ?_
  | refine LeO.bind ?_ (fun _ => ?_)
set_option maxHeartbeats 8000000 in
set_option maxRecDepth 100000 in
theorem spinetref19_Vector.calls (k : Nat) (A0 : Option Addr) (c0 : Nat) (l0 : List Int) (r : List Int) (w : World) (hr0 : Kd.C (Kd.int .i64) w A0 l0.length l0) (hc0 : l0.length ≤ c0) (h : spinetref19_Vector.f k l0 = some r) :
 Calls Tryd.prog 67 #[.slice A0 l0.length c0] w fun e w' => ∃ v0_ : Value, e = .returned (v0_) ∧ Kd.R (Kd.int .i64) 2 w' w.heap.size (fun _ => True) v0_ r ∧ Below w.heap.size w w' := by
 have HR0 := Aside0.mk hr0
 have HC0 := Aside0.mk hc0
 clear hr0 hc0
 have HB := Aside0.mk (Below.refl w.heap.size w)
 have H : (spinetref19_Vector.l0 k l0 ([] : List Int) 0) = some r := h
 clear h
 have H' := Aside0.mk H
 clear H
 go_enter Tryd.func67, Tryd.ntmps67
 go_wp2
 go_loopg [3, 4] k (fun kq v3 v4 w' => ∃ (x3_1 : List Int) (x4_1 : Int), v4 = .int .i64 x4_1 ∧ Aside0 (spinetref19_Vector.l0 kq l0 x3_1 x4_1 = some r) ∧ Aside0 (kq ≤ k) ∧ Aside0 (Kd.R (Kd.int .i64) 2 w' w.heap.size (fun _ => True) v3 x3_1) ∧ Aside0 (Below w.heap.size w w'))
 case atStart => exact ⟨(([] : List Int)), (0), (by first | rfl | (simp; done) | (simp [*]; done)), H', ⟨Nat.le_refl _⟩, ⟨by first | exact Kd.R_nil _ _ _ _ _ | exact Kd.N_nil _ _ _ _ _ | exact Kd.V_nil _ _ _ _ _ | exact Kd.Q_nil _ _ _ _ _ | exact Kd.S_nil _ _ _ _ _⟩, ⟨by repeat (first | (with_reducible first | exact HB.out | apply below_alloc | apply pw_below_drewN | apply below_drew1) | exact HB.out)⟩⟩
 case round =>
  clear H'
  obtain ⟨x3_1, x4_1, rfl, HA, HK1, HO_3, HB⟩ := hrel
  cases gk with
  | zero => exact absurd HA.out (by simp [spinetref19_Vector.l0])
  | succ k1 =>
   have H := HA.out
   clear HA
   simp only [spinetref19_Vector.l0] at H
   by_cases c2 : x4_1 < (l0.length : Int)
   ·rw [if_pos c2] at H
    have c2b0 : decide (x4_1 < (l0.length : Int)) = true := decide_eq_true c2
    clear c2
    by_cases c3 : 0 ≤ x4_1
    ·rw [if_pos c3] at H
     have c3b0 : decide (0 ≤ x4_1) = true := decide_eq_true c3
     clear c3
     replace H := Option.bind_eq_some_iff.mp H
     obtain ⟨t310, A40, H⟩ := H
     replace H : (if x3_1.length < 17592186044416 then (spinetref19_Vector.l0 k1 l0 (x3_1 ++ [wrap64 (t310 * 1024)]) (wrap64 (x4_1 + 1))) else (none)) = some r := H
     have A4 := Aside0.mk A40
     clear A40
     by_cases c5 : x3_1.length < 17592186044416
     ·rw [if_pos c5] at H
      have LMc5 := Aside0.mk c5
      clear c5
      obtain ⟨y311, hy311⟩ : ∃ y_ : List Int, y_ = (x3_1 ++ [wrap64 (t310 * 1024)]) := ⟨_, rfl⟩
      replace H : (spinetref19_Vector.l0 k1 l0 y311 (wrap64 (x4_1 + 1))) = some r := by first | (rw [hy311]; with_reducible exact H) | (have H2_ := (Option.bind_some _ _).symm.trans H; rw [hy311]; with_reducible exact H2_) | (have H2_ := (Option.bind_some _ _).symm.trans H; with_reducible exact H2_) | with_reducible exact H | (rw [hy311]; exact H) | exact H
      have Ny311 := Aside0.mk hy311
      clear hy311
      have H' := Aside0.mk H
      clear H
      have p309 : 0 ≤ (x4_1 : Int) := of_decide_eq_true (by first | (with_reducible assumption) | assumption)
      have q309 : x4_1 < (l0.length : Int) := of_decide_eq_true (by first | (with_reducible assumption) | assumption)
      obtain ⟨ad309, e309, hx309_0⟩ := Kd.at_int HR0.out x4_1 p309 q309
      cases e309
      replace hx309_0 := (HB.out.cell (World.block_lt_of_cell? w _ hx309_0)).trans hx309_0
      replace p309 := eq_true p309
      replace q309 := eq_true q309
      go_wp2_with (first | ((with_reducible refine gate_callee (f := 37) rfl ?_); refine goesL_ (some 16) rfl rfl Tryd.func37 (by kernel_rfl) rfl #[.int .i64 (rd l0 x4_1), .int .i64 (-32), .int .i64 32] rfl (by (try simp only [List.map_toArray, List.map_cons, List.map_nil]); first | done | rfl | (simp only [List.length_drop, List.length_take]; rfl)) ?_; (with_reducible refine (OShapeNoise.spinetref01_Held.calls (rd l0 x4_1) (-32) 32 t310 _ A4.out).mono ?_); rintro e w' ⟨rfl, ⟨nd, rfl⟩⟩; refine ⟨_, rfl, ?_⟩) | ((with_reducible refine gate_builtin (b := .append) (xs := #[.tmp 11, .tmp 18]) rfl ?_); at_builtin; refine Kd.R_append (Kd.int .i64) (w0 := w) w.heap.size rfl (.tmp 11) (.tmp 18) 24 2 (.int .i64 0) 8 rfl Tryd.underlying24 OShapeNoise.info2 rfl (by decide) (by omega) u3 x3_1 (wrap64 (t310 * 1024)) [.int .i64 (wrap64 (t310 * 1024))] (fun _ => True) (fun _ => False) rfl rfl ?aP (fun _ hk => hk.elim) ?aF ?aO ?aB ?aS ?aL ?_; (case aP => exact rfl); (case aB => exact (by repeat (first | (with_reducible first | exact HB.out | apply below_alloc | apply pw_below_drewN | apply below_drew1) | exact HB.out))); (case aF => exact (fun _ _ => trivial)); (case aO => exact (by (with_reducible repeat (first | apply Kd.R_alloc | apply Kd.R_drewN | apply Kd.R_drew)); exact HO_3.out)); (case aS => exact (below_size (by repeat (first | (with_reducible first | exact HB.out | apply below_alloc | apply pw_below_drewN | apply below_drew1) | exact HB.out)))); (case aL => have := LMc5.out; omega); intro v312 w6 ho hb hg hat; rw [← Ny311.out] at ho; have n0_ := Aside0.mk (hb); have n1_ := Aside0.mk (ho); clear HB; clear HO_3; have HB := n0_; have HO313 := n1_; clear n0_ n1_; clear ho hb hg hat))
      go_roundg k1
      case measure => have := HK1.out; omega
      case rel => exact ⟨(y311), (wrap64 (x4_1 + 1)), (by first | rfl | (simp; done) | (simp [*]; done)), H', ⟨by have := HK1.out; omega⟩, ⟨by (with_reducible repeat (first | apply Kd.R_alloc | apply Kd.R_drewN | apply Kd.R_drew)); exact HO313.out⟩, ⟨by repeat (first | (with_reducible first | exact HB.out | apply below_alloc | apply pw_below_drewN | apply below_drew1) | exact HB.out)⟩⟩
     ·rw [if_neg c5] at H
      exact absurd H (by simp)
    ·rw [if_neg c3] at H
     exact absurd H (by simp)
   ·rw [if_neg c2] at H
    have c2b0 : decide (x4_1 < (l0.length : Int)) = false := decide_eq_false c2
    clear c2
    obtain rfl := Option.some.inj H
    go_wp2
    go_ret
    exact ⟨_, by first | rfl | (simp [errW_none, errW_some] <;> rfl) | (simp [*, errW_none, errW_some] <;> rfl), by (with_reducible repeat (first | apply Kd.R_alloc | apply Kd.R_drewN | apply Kd.R_drew)); exact HO_3.out, by repeat (first | (with_reducible first | exact HB.out | apply below_alloc | apply pw_below_drewN | apply below_drew1) | exact HB.out)⟩
def spinetref05_Right.f (a0 : Int) (a1 : Int) : Option (Bool) := if a0 ≥ 0 then (if a0 ≤ 2 then (if a1 = 1 then (some true) else (some (a1 == 2))) else (some false)) else (some false)
set_option maxHeartbeats 8000000 in
set_option maxRecDepth 100000 in
theorem spinetref05_Right.calls (a0 : Int) (a1 : Int) (r : Bool) (w : World) (h : spinetref05_Right.f a0 a1 = some r) :
 Calls Tryd.prog 31 #[.int .i64 a0, .int .i64 a1] w fun e w' => e = .returned (.bool r) ∧ Drawn0 w w' := by
 have H : (if a0 ≥ 0 then (if a0 ≤ 2 then (if a1 = 1 then (some true) else (some (a1 == 2))) else (some false)) else (some false)) = some r := h
 clear h
 by_cases c3 : a0 ≥ 0
 ·rw [if_pos c3] at H
  have c3b0 : decide (0 ≤ a0) = true := decide_eq_true c3
  clear c3
  by_cases c4 : a0 ≤ 2
  ·rw [if_pos c4] at H
   have c4b0 : decide (a0 ≤ 2) = true := decide_eq_true c4
   clear c4
   by_cases c5 : a1 = 1
   ·rw [if_pos c5] at H
    have c5b0 : (a1 == 1) = true := beq_iff_eq.mpr c5
    have c5b1 : (a1 != 1) = false := bne_eq_false_iff_eq.mpr c5
    clear c5
    obtain rfl := Option.some.inj H
    go_enter Tryd.func31, Tryd.ntmps31
    go_wp2
    go_ret
    exact ⟨by first | rfl | (simp; done) | (simp [*]; done), by repeat (first | exact Drawn0.refl _ | apply Drawn0.step)⟩
   ·rw [if_neg c5] at H
    have c5b0 : (a1 == 1) = false := beq_eq_false_iff_ne.mpr c5
    have c5b1 : (a1 != 1) = true := bne_iff_ne.mpr c5
    obtain rfl := Option.some.inj H
    go_enter Tryd.func31, Tryd.ntmps31
    go_wp2
    go_ret
    exact ⟨by first | rfl | (simp; done) | (simp [*]; done), by repeat (first | exact Drawn0.refl _ | apply Drawn0.step)⟩
  ·rw [if_neg c4] at H
   have c4b0 : decide (a0 ≤ 2) = false := decide_eq_false c4
   clear c4
   obtain rfl := Option.some.inj H
   go_enter Tryd.func31, Tryd.ntmps31
   go_wp2
   go_ret
   exact ⟨by first | rfl | (simp; done) | (simp [*]; done), by repeat (first | exact Drawn0.refl _ | apply Drawn0.step)⟩
 ·rw [if_neg c3] at H
  have c3b0 : decide (0 ≤ a0) = false := decide_eq_false c3
  clear c3
  obtain rfl := Option.some.inj H
  go_enter Tryd.func31, Tryd.ntmps31
  go_wp2
  go_ret
  exact ⟨by first | rfl | (simp; done) | (simp [*]; done), by repeat (first | exact Drawn0.refl _ | apply Drawn0.step)⟩
end Go.Proofs.YtjpnbdofbkoddaaDoor.OTells
namespace Go.Proofs.YtjpnbdofbkoddaaDoor.TlSp
open Go.RowKit Go.Proofs.YtjpnbdofbkoddaaDoorW.PrintWords Go.Proofs.YtjpnbdofbkoddaaDoorW.PrintLast Go.Proofs.YtjpnbdofbkoddaaDoorW.PrintMore
open Go.Proofs.YtjpnbdofbkoddaaDoor.Math
open Go.Proofs.YtjpnbdofbkoddaaDoor.OTells
open Go.Proofs.YtjpnbdofbkoddaaDoor.NoisePlain (I32 pow_is ref_sat)
open Go.Proofs.YtjpnbdofbkoddaaDoor.Spread (tn ta tb s32 rnd_is tn_len upw dnw upw_len dnw_len sp sp_len co si row)
open Go.Proofs.YtjpnbdofbkoddaaDoor.Sh (tn_I32 upw_I32 dnw_I32 ss32_in)
theorem round_is {x s : Int} (h0 : -9223372036854775808 ≤ x) (h1 : x ≤ 9223372036854775807) : OShapeSeeds.fix_Round.f x s = some (rnd x s) := by
 unfold OShapeSeeds.fix_Round.f rnd
 by_cases hs : s ≤ 0
 ·rw [if_pos hs, if_pos hs]
 rw [if_neg hs, if_neg hs, mn_eq]
 obtain ⟨n, hn⟩ : ∃ n : Nat, min s 62 = n := ⟨(min s 62).toNat, by omega⟩
 rw [hn]
 have e1 : wrap64 ((n : Int) - 1) = ((n - 1 : Nat) : Int) := by rw [w64 (by omega) (by omega)]; omega
 rw [if_pos (by omega), e1, if_pos (by omega), Int.toNat_natCast]
 have e2 : shr .i64 x ((n - 1 : Nat) : Int) = x / 2 ^ (n - 1) := by
  unfold shr
  have : min ((n - 1 : Nat) : Int).toNat IntKind.i64.bits = n - 1 := by simp [IntKind.bits]; omega
  rw [this]
 have e3 : bits .and .i64 (x / 2 ^ (n - 1)) 1 = x / 2 ^ (n - 1) % 2 := and_i64 _ 1 (by decide)
 rw [e2, e3]
 have hr := rn_range h0 h1 (n := n) (by omega)
 unfold rn at hr
 rw [w64 hr.2.2.1 hr.2.2.2]
 rfl
theorem floor_is (x p : Int) (hp : 0 < p) (h0 : -9223372036854775808 ≤ x / p) (h1 : x / p ≤ 9223372036854775807) : spinetref01_Floor.f x p = some (x / p) := by
 unfold spinetref01_Floor.f
 rw [if_neg (by omega)]
 by_cases hx : 0 ≤ x
 ·rw [Int.tmod_eq_emod_of_nonneg hx, Int.tdiv_eq_ediv_of_nonneg hx, if_neg (by have := Int.emod_nonneg x (by omega : p ≠ 0); omega), w64 h0 h1]
 ·have e1 := Int.tdiv_eq_ediv (a := x) (b := p)
  have e2 := Int.tmod_eq_emod (a := x) (b := p)
  have hs : Int.sign p = 1 := Int.sign_eq_one_of_pos hp
  have hm := Int.emod_nonneg x (by omega : p ≠ 0)
  have hm2 := Int.emod_lt_of_pos x hp
  by_cases hd : p ∣ x
  ·rw [if_pos (Or.inr hd)] at e1 e2
   have hz := Int.emod_eq_zero_of_dvd hd
   rw [if_neg (by omega), e1, Int.add_zero, w64 h0 h1]
  ·have hn : ¬(0 ≤ x ∨ p ∣ x) := fun h => h.elim hx hd
   rw [if_neg hn] at e1 e2
   have hz : x % p ≠ 0 := fun h => hd (Int.dvd_of_emod_eq_zero h)
   have ha : (p.natAbs : Int) = p := by omega
   rw [if_pos (by omega), e1, hs]
   congr 1
   have hneg : x / p < 0 := Int.ediv_neg_of_neg_of_pos (by omega) hp
   rw [w64 (n := x / p + 1) (by omega) (by omega), w64 (by omega) (by omega)]
   omega
theorem ref_round {x s : Int} (h0 : -9223372036854775808 ≤ x) (h1 : x ≤ 9223372036854775807) (k : Nat) (hk : 63 < k) : spinetref01_Round.f k x s = some (rnd x s) := by
 unfold spinetref01_Round.f OShapeNoise.spinetref01_Bits.f
 obtain ⟨n, hn⟩ : ∃ n : Nat, min (max s 0) 62 = n := ⟨(min (max s 0) 62).toNat, by omega⟩
 have e : OShapeNoise.spinetref01_Held.f s 0 62 = some (n : Int) := by
  unfold OShapeNoise.spinetref01_Held.f
  rw [← hn]
  (repeat' split) <;> (congr 1; omega)
 rw [e]
 simp only [Option.bind_some]
 unfold rnd
 by_cases hs : s ≤ 0
 ·rw [if_pos hs, if_pos (by omega)]
 rw [if_neg hs, if_neg (by omega), pow_is n (by omega) k hk]
 simp only [Option.bind_some]
 have hp : (0 : Int) < 2 ^ n := Int.pow_pos (by decide)
 have hle : (2 : Int) ^ n ≤ 4611686018427387904 := pow_le_62 (by omega)
 have hr := rn_range h0 h1 (n := n) (by omega)
 rw [floor_is x _ hp (by omega) (by omega)]
 simp only [Option.bind_some]
 have en : (min s 62).toNat = n := by omega
 rw [en]
 obtain ⟨d1, d2⟩ := half x (n := n) (by omega)
 have hm := Int.mul_ediv_add_emod x (2 ^ n)
 have hm0 := Int.emod_nonneg x (by omega : (2 : Int) ^ n ≠ 0)
 have hm1 := Int.emod_lt_of_pos x hp
 have et : Int.tdiv (2 ^ n) 2 = 2 ^ (n - 1) := by rw [Int.tdiv_eq_ediv_of_nonneg (by omega)]; omega
 have hp1 : (0 : Int) < 2 ^ (n - 1) := Int.pow_pos (by decide)
 rw [et, w64 (n := 2 ^ (n - 1)) (by omega) (by omega)]
 have e4 : wrap64 (x - wrap64 (x / 2 ^ n * 2 ^ n)) = x % 2 ^ n := by
  rw [Int.mul_comm]
  generalize 2 ^ n * (x / 2 ^ n) = y at *
  unfold wrap64; omega
 rw [e4]
 have hbit : (x / 2 ^ (n - 1)) % 2 = if x % 2 ^ n ≥ 2 ^ (n - 1) then 1 else 0 := by
  have k1 := Int.mul_ediv_add_emod x (2 ^ (n - 1))
  have k2 := Int.emod_nonneg x (by omega : (2 : Int) ^ (n - 1) ≠ 0)
  have k3 := Int.emod_lt_of_pos x hp1
  have k4 : x % 2 ^ n = 2 ^ (n - 1) * (x / 2 ^ (n - 1) % 2) + x % 2 ^ (n - 1) := by
   have : 2 ^ n * (x / 2 ^ n) = 2 ^ (n - 1) * (2 * (x / 2 ^ (n - 1) / 2)) := by
    rw [d2, d1, Int.mul_comm 2, Int.mul_assoc]
   have k5 : x / 2 ^ (n - 1) = 2 * (x / 2 ^ (n - 1) / 2) + x / 2 ^ (n - 1) % 2 := by omega
   rw [k5, Int.mul_add] at k1
   rw [this] at hm
   have k6 : (2 * (x / 2 ^ (n - 1) / 2) + x / 2 ^ (n - 1) % 2) / 2 = x / 2 ^ (n - 1) / 2 := by omega
   have k7 : (2 * (x / 2 ^ (n - 1) / 2) + x / 2 ^ (n - 1) % 2) % 2 = x / 2 ^ (n - 1) % 2 := by omega
   omega
  rcases (by omega : x / 2 ^ (n - 1) % 2 = 0 ∨ x / 2 ^ (n - 1) % 2 = 1) with h | h
  ·rw [h] at k4 ⊢
   rw [if_neg (by omega)]
  ·rw [h] at k4 ⊢
   rw [if_pos (by omega)]
 unfold rn
 rw [hbit]
 split
 ·rw [w64 (by omega) (by omega)]
 ·rw [Int.add_zero]
theorem s32_is (x : Int) : s32 x = st x 32 := by
 unfold s32 st
 rw [mn_eq, mx_eq]
 have e : (2 : Int) ^ (32 - 1) = 2147483648 := by decide
 rw [e]
 rfl
theorem wrap_in (x : Int) : -9223372036854775808 ≤ wrap64 x ∧ wrap64 x ≤ 9223372036854775807 := by unfold wrap64; omega
theorem w32 {x : Int} (h : I32 x) : wrap64 x = x := w64 (by have := h.1; omega) (by have := h.2; omega)
theorem rnd_same (x : Int) : Spread.rnd (wrap64 x) = Math.rnd (wrap64 x) 15 := by
 have h := rnd_is (wrap64 x)
 rw [round_is (wrap_in x).1 (wrap_in x).2] at h
 exact (Option.some.inj h).symm
theorem ref_ta (k : Nat) (hk : 63 < k) (c s a b : Int) (ha : I32 a) (hb : I32 b) : (spinetref01_Round.f k (wrap64 ((wrap64 (c * a)) - (wrap64 (s * b)))) 15).bind (fun t => OShapeNoise.spinetref01_Sat.f k t 32) = some (ta c s a b) := by
 rw [ref_round (wrap_in _).1 (wrap_in _).2 k hk, Option.bind_some, ref_sat k hk]
 unfold ta
 rw [w32 ha, w32 hb, rnd_same, s32_is]
 rfl
theorem ref_tb (k : Nat) (hk : 63 < k) (c s a b : Int) (ha : I32 a) (hb : I32 b) : (spinetref01_Round.f k (wrap64 ((wrap64 (s * a)) + (wrap64 (c * b)))) 15).bind (fun t => OShapeNoise.spinetref01_Sat.f k t 32) = some (tb c s a b) := by
 rw [ref_round (wrap_in _).1 (wrap_in _).2 k hk, Option.bind_some, ref_sat k hk]
 unfold tb
 rw [w32 ha, w32 hb, rnd_same, s32_is]
 rfl
theorem bind_two {α β γ : Type} {x : Option α} {f : α → Option β} {g : β → Option γ} {r : β} (h : x.bind f = some r) : (x.bind fun t => (f t).bind g) = g r := by
 cases x with
 | none => cases h
 | some t => rw [Option.bind_some] at h ⊢; rw [h, Option.bind_some]
theorem rd_nat (xs : List Int) (j : Nat) : rd xs (j : Int) = xs.getD j 0 := by unfold rd; rw [Int.toNat_natCast]
theorem tn_at (c s : Int) (i : Nat) (xs : List Int) (hi : i + 1 < xs.length) (j : Nat) (hj : j < xs.length) :
 rd (tn c s i xs) (j : Int) = if j = i then ta c s (rd xs i) (rd xs ((i : Int) + 1)) else if j = i + 1 then tb c s (rd xs i) (rd xs ((i : Int) + 1)) else rd xs j := by
 rw [rd_nat (tn c s i xs)]
 unfold tn
 generalize ta c s (rd xs i) (rd xs ((i : Int) + 1)) = x
 generalize tb c s (rd xs i) (rd xs ((i : Int) + 1)) = y
 rw [rd_nat xs j]
 by_cases h1 : j = i
 ·subst h1
  rw [if_pos rfl]
  simp [List.getD, List.getElem?_set, hj]
 ·rw [if_neg h1]
  by_cases h2 : j = i + 1
  ·subst h2
   rw [if_pos rfl]
   simp [List.getD, List.getElem?_set, hj]
  ·rw [if_neg h2]
   simp [List.getD, List.getElem?_set, Ne.symm h1, Ne.symm h2]
theorem take_more (l : List Int) (j : Nat) (h : j < l.length) : l.take j ++ [rd l j] = l.take (j + 1) := by
 rw [List.take_add_one, rd_nat]
 congr 1
 simp [List.getD, h]
theorem turn_loop (c s : Int) (i : Nat) (xs : List Int) (hi : i + 1 < xs.length) (hl : xs.length ≤ 1000) (hw : ∀ x ∈ xs, I32 x) (d : Nat) : ∀ (k j : Nat), j + d = xs.length → d + 70 < k → spinetref18_Turn.l0 k xs i c s ((tn c s i xs).take j) j = some (tn c s i xs) := by
 have e1 : wrap64 ((i : Int) + 1) = (i : Int) + 1 := w64 (by omega) (by omega)
 have hlen : (tn c s i xs).length = xs.length := tn_len c s i xs
 have h32 : ∀ j : Nat, j < xs.length → I32 (rd xs j) := fun j hj => hw _ (rd_mem hj)
 have hb : I32 (rd xs ((i : Int) + 1)) := by have := h32 (i + 1) hi; rwa [show (((i + 1 : Nat)) : Int) = (i : Int) + 1 by omega] at this
 induction d with
 | zero =>
  intro k j hj hk
  obtain ⟨k, rfl⟩ : ∃ m, k = m + 1 := ⟨k - 1, by omega⟩
  simp only [spinetref18_Turn.l0]
  rw [if_neg (by omega), List.take_of_length_le (by omega)]
 | succ d ih =>
  intro k j hj hk
  obtain ⟨k, rfl⟩ : ∃ m, k = m + 1 := ⟨k - 1, by omega⟩
  have HAT := Aside0.mk (tn_at c s i xs hi j (by omega))
  have htl : ((tn c s i xs).take j).length < 17592186044416 := by rw [List.length_take]; omega
  have hmore := take_more (tn c s i xs) j (by omega)
  have hst : wrap64 ((j : Int) + 1) = ((j + 1 : Nat) : Int) := step64 (n := xs.length) (by omega) (by omega)
  have hih := ih k (j + 1) (by omega) (by omega)
  simp only [spinetref18_Turn.l0]
  rw [if_pos (by omega), e1, hst]
  by_cases h1 : j = i
  ·rw [if_pos (by omega), if_pos (by omega), if_pos (by omega), if_pos (by omega), if_pos (by omega), bind_two (ref_ta k (by omega) c s _ _ (h32 i (by omega)) hb)]
   have hat := HAT.out
   rw [if_pos h1] at hat
   rw [if_pos htl, ← hat, hmore]
   exact hih
  ·rw [if_neg (by omega)]
   by_cases h2 : j = i + 1
   ·rw [if_pos (by omega), if_pos (by omega), if_pos (by omega), if_pos (by omega), if_pos (by omega), bind_two (ref_tb k (by omega) c s _ _ (h32 i (by omega)) hb)]
    have hat := HAT.out
    rw [if_neg h1, if_pos h2] at hat
    rw [if_pos htl, ← hat, hmore]
    exact hih
   ·rw [if_neg (by omega), if_pos (by omega)]
    have hat := HAT.out
    rw [if_neg h1, if_neg h2] at hat
    rw [if_pos htl, ← hat, hmore]
    exact hih
theorem turn_ref (c s : Int) (i : Nat) (xs : List Int) (hi : i + 1 < xs.length) (hl : xs.length ≤ 1000) (hw : ∀ x ∈ xs, I32 x) (k : Nat) (hk : xs.length + 70 < k) : spinetref18_Turn.f k xs i c s = some (tn c s i xs) :=
 turn_loop c s i xs hi hl hw xs.length k 0 (by omega) hk
theorem down_loop (c s : Int) (n : Nat) (hn : n ≤ 1000) : ∀ (m k : Nat) (xs : List Int), xs.length = n → m + 1 < n ∨ m = 0 → (∀ x ∈ xs, I32 x) → m + n + 72 < k → spinetref18_Spread.l1 k xs c s ((m : Int) - 1) = some (dnw c s m xs)
 | 0, k, xs, hl, _, hw, hk => by
  obtain ⟨k, rfl⟩ : ∃ m, k = m + 1 := ⟨k - 1, by omega⟩
  simp only [spinetref18_Spread.l1]
  rw [if_neg (by omega)]
  rfl
 | m + 1, k, xs, hl, hm, hw, hk => by
  obtain ⟨k, rfl⟩ : ∃ m, k = m + 1 := ⟨k - 1, by omega⟩
  simp only [spinetref18_Spread.l1]
  have e : (((m + 1 : Nat)) : Int) - 1 = (m : Int) := by omega
  rw [e, if_pos (by omega), turn_ref c s m xs (by omega) (by omega) hw k (by omega), Option.bind_some, w64 (n := (m : Int) - 1) (by omega) (by omega)]
  exact down_loop c s n hn m k _ (by rw [tn_len]; exact hl) (by omega) (tn_I32 c s m xs hw) (by omega)
theorem down_none (c s : Int) (xs : List Int) (k : Nat) (j : Int) (hj : j < 0) (hk : 0 < k) : spinetref18_Spread.l1 k xs c s j = some xs := by
 obtain ⟨k, rfl⟩ : ∃ m, k = m + 1 := ⟨k - 1, by omega⟩
 simp only [spinetref18_Spread.l1]
 rw [if_neg (by omega)]
theorem up_loop (c s : Int) (n : Nat) (hn : n ≤ 1000) : ∀ (d k i : Nat) (xs : List Int), xs.length = n → i + d + 1 = n ∨ n = 0 ∧ d = 0 ∧ i = 0 → (∀ x ∈ xs, I32 x) → d + n + n + 80 < k → spinetref18_Spread.l0 k xs c s i = some (dnw c s (n - 2) (upw c s d i xs))
 | 0, k, i, xs, hl, hd, hw, hk => by
  obtain ⟨k, rfl⟩ : ∃ m, k = m + 1 := ⟨k - 1, by omega⟩
  simp only [spinetref18_Spread.l0]
  rw [w64 (n := (xs.length : Int) - 1) (by omega) (by omega), if_neg (by omega), w64 (n := (xs.length : Int) - 3) (by omega) (by omega)]
  show _ = some (dnw c s (n - 2) xs)
  by_cases h3 : 3 ≤ n
  ·rw [show (xs.length : Int) - 3 = ((n - 2 : Nat) : Int) - 1 by omega]
   exact down_loop c s n hn (n - 2) k xs hl (by omega) hw (by omega)
  ·rw [down_none c s xs k _ (by omega) (by omega), show n - 2 = 0 by omega]
   rfl
 | d + 1, k, i, xs, hl, hd, hw, hk => by
  obtain ⟨k, rfl⟩ : ∃ m, k = m + 1 := ⟨k - 1, by omega⟩
  simp only [spinetref18_Spread.l0]
  rw [w64 (n := (xs.length : Int) - 1) (by omega) (by omega), if_pos (by omega), turn_ref c s i xs (by omega) (by omega) hw k (by omega), Option.bind_some, w64 (n := (i : Int) + 1) (by omega) (by omega)]
  exact up_loop c s n hn d k (i + 1) _ (by rw [tn_len]; exact hl) (by omega) (tn_I32 c s i xs hw) (by omega)
theorem angle_ref (a : Int) : spinetref18_Angle.f a = some (co a, si a) := by
 unfold spinetref18_Angle.f co si row
 by_cases h0 : a ≤ 0
 ·rw [if_pos h0, if_pos h0]; rfl
 rw [if_neg h0, if_neg h0]
 by_cases h1 : a = 1
 ·rw [if_pos h1, if_pos h1]; rfl
 rw [if_neg h1, if_neg h1]
 by_cases h2 : a = 2
 ·rw [if_pos h2, if_pos h2]; rfl
 rw [if_neg h2, if_neg h2]; rfl
theorem spread_ref (a : Int) (xs : List Int) (hl : xs.length ≤ 200) (hw : ∀ x ∈ xs, I32 x) : spinetref18_Spread.f 1000 xs a = some (sp a xs) := by
 unfold spinetref18_Spread.f sp
 rw [angle_ref, Option.bind_some]
 by_cases h : si a = 0
 ·rw [if_pos h, if_pos h]
 ·rw [if_neg h, if_neg h]
  show spinetref18_Spread.l0 1000 xs (co a) (si a) ((0 : Nat) : Int) = _
  exact up_loop (co a) (si a) xs.length (by omega) (xs.length - 1) 1000 0 xs rfl (by omega) hw (by omega)
end Go.Proofs.YtjpnbdofbkoddaaDoor.TlSp
namespace Go.Proofs.YtjpnbdofbkoddaaDoor.Sh
open Go.RowKit Go.Proofs.YtjpnbdofbkoddaaDoorW.PrintWords Go.Proofs.YtjpnbdofbkoddaaDoorW.PrintLast Go.Proofs.YtjpnbdofbkoddaaDoorW.PrintMore
open Go.Proofs.YtjpnbdofbkoddaaDoor.Sy
open Go.Proofs.YtjpnbdofbkoddaaDoor.Spread (sp sp_len)
theorem rvec_loop (l : List Int) (hl : l.length ≤ 1000) : ∀ (d k i : Nat) (acc : List Int), i + d = l.length → d < k → acc.length = i → OTells.spinetref19_Vector.l0 k l acc (i : Int) = some (acc ++ pu (l.drop i)) := by
 intro d
 induction d with
 | zero =>
  intro k i acc hi hk ha
  obtain ⟨k, rfl⟩ : ∃ m, k = m + 1 := ⟨k - 1, by omega⟩
  simp only [OTells.spinetref19_Vector.l0]
  rw [if_neg (by omega), List.drop_of_length_le (by omega)]
  simp [pu]
 | succ d ih =>
  intro k i acc hi hk ha
  obtain ⟨k, rfl⟩ : ∃ m, k = m + 1 := ⟨k - 1, by omega⟩
  have hlt : i < l.length := by omega
  have e1 : wrap64 ((i : Int) + 1) = ((i + 1 : Nat) : Int) := by rw [sw64 (by omega) (by omega)]; omega
  have hp : ∀ x : Int, OShapeNoise.spinetref01_Held.f x (-32) 32 = some (mn (mx x (-32)) 32) := by
   intro x
   unfold OShapeNoise.spinetref01_Held.f
   rw [mx_max, mn_min]
   (repeat' split) <;> (congr 1; omega)
  have hq : ∀ x : Int, wrap64 (mn (mx x (-32)) 32 * 1024) = pu1 x := by
   intro x
   unfold pu1
   have h1 : mn (mx x (-32)) 32 = min (max x (-32)) 32 := by rw [mx_max, mn_min]
   rw [h1]
   exact sw64 (by omega) (by omega)
  simp only [OTells.spinetref19_Vector.l0]
  rw [if_pos (by omega), if_pos (by omega), hp, Option.bind_some, e1, hq, if_pos (by omega)]
  rw [ih k (i + 1) _ (by omega) (by omega) (by simp; omega), List.append_assoc]
  congr 2
  rw [Math.rd_drop hlt]
  rfl
theorem rvec_is (l : List Int) (hl : l.length ≤ 1000) : OTells.spinetref19_Vector.f 1002 l = some (pu l) := by
 unfold OTells.spinetref19_Vector.f
 rw [show ([] : List Int) = [] from rfl]
 have h := rvec_loop l hl l.length 1002 0 [] (by omega) (by omega) rfl
 simpa using h
theorem rvec_call (l : List Int) (n : Nat) (hn : l.length = n) (hl : n ≤ 1000) (A0 : Option Addr) (c0 : Nat) (w : World) (hC : Kd.C (Kd.int .i64) w A0 n l) (hc : n ≤ c0) :
 Calls Tryd.prog 67 #[.slice A0 n c0] w fun e w' => ∃ v, e = .returned v ∧ Kd.R (Kd.int .i64) 2 w' w.heap.size (fun _ => True) v (pu l) ∧ Below w.heap.size w w' := by
 subst hn
 exact OTells.spinetref19_Vector.calls 1002 A0 c0 l (pu l) w hC hc (rvec_is l hl)
theorem rspread_call (a : Int) (l : List Int) (n : Nat) (hn : l.length = n) (hl : n ≤ 200) (hw : ∀ x ∈ l, NoisePlain.I32 x) (A : Option Addr) (c : Nat) (w : World) (base N : Nat) (hR : Kd.R (Kd.int .i64) 2 w base (fun _ => True) (.slice A n c) l) (hb : N ≤ base) (hN : N ≤ w.heap.size) :
 Calls Tryd.prog 66 #[.slice A n c, .int .i64 a] w fun e w' => ∃ v, e = .returned v ∧ Kd.V (Kd.int .i64) 2 w' 0 (fun k => N ≤ k) v (sp a l) ∧ Below w.heap.size w w' := by
 subst hn
 have hR2 : Kd.R (Kd.int .i64) 2 w base (fun k => N ≤ k) (.slice A l.length c) l := Kd.R_mono (Kd.R_bound hR) (fun k hk => Nat.le_trans hb hk.2.1)
 refine (OTells.spinetref18_Spread.calls 1000 (fun k => N ≤ k) A c l a (sp a l) w (Kd.R_V hR2) (TlSp.spread_ref a l hl hw)).mono ?_
 rintro e w' ⟨v, rfl, hV, hb⟩
 exact ⟨v, rfl, Kd.V_mono hV (fun k hk => hk.elim id (fun h => Nat.le_trans hN h)), hb⟩
theorem right_fn (a b : Int) : OTells.spinetref05_Right.f a b = some (decide (0 ≤ a ∧ a ≤ 2 ∧ 1 ≤ b ∧ b ≤ 2)) := by
 unfold OTells.spinetref05_Right.f
 split
 ·split
  ·split
   ·congr 1; symm; exact decide_eq_true (by omega)
   ·congr 1
    by_cases h : b = 2
    ·subst h; symm; exact (decide_eq_true (by omega)).trans rfl
    ·rw [beq_eq_false_iff_ne.mpr h]; symm; exact decide_eq_false (by omega)
  ·congr 1; symm; exact decide_eq_false (by omega)
 ·congr 1; symm; exact decide_eq_false (by omega)
theorem right_call (a b : Int) (w : World) : Calls Tryd.prog 31 #[.int .i64 a, .int .i64 b] w fun e w' => e = .returned (.bool (decide (0 ≤ a ∧ a ≤ 2 ∧ 1 ≤ b ∧ b ≤ 2))) ∧ Below w.heap.size w w' :=
 (OTells.spinetref05_Right.calls a b _ w (right_fn a b)).mono (by rintro e w' ⟨he, hd⟩; exact ⟨he, by first | exact hd | exact hd.below⟩)
open Go.Proofs.YtjpnbdofbkoddaaDoor.OShapeSeeds Go.Proofs.YtjpnbdofbkoddaaDoor.Sy Go.Proofs.YtjpnbdofbkoddaaDoor.SyWalk Go.Proofs.YtjpnbdofbkoddaaDoor.WrWalk
open Go.Proofs.YtjpnbdofbkoddaaDoor.ShapePlain (sc sc_len sc_in)
open Go.Proofs.YtjpnbdofbkoddaaDoor.NoisePlain (fo fo_len fo_in hd lcg nz fz fv em)
structure Upd (o i : Nat) (G : Nat → Int) (L L' : List Int) : Prop where
 n : L'.length = L.length
 d : ∀ j, j < i → L'[o + j]? = some (G j)
 k : ∀ j, (j < o ∨ o + i ≤ j) → L'[j]? = L[j]?
theorem Upd.start (o : Nat) (G : Nat → Int) (L : List Int) : Upd o 0 G L L := ⟨rfl, fun j hj => by omega, fun j _ => rfl⟩
theorem Upd.step {o i : Nat} {G : Nat → Int} {L L' : List Int} (h : Upd o i G L L') (hi : o + i < L.length) {v : Int} (hv : v = G i) : Upd o (i + 1) G L (L'.set (o + i) v) := by
 subst hv
 refine ⟨by rw [List.length_set, h.n], fun j hj => ?_, fun j hj => ?_⟩
 ·rw [List.getElem?_set]
  by_cases e : j = i
  ·subst e; rw [if_pos rfl, if_pos (by rw [h.n]; exact hi)]
  ·rw [if_neg (by omega)]; exact h.d j (by omega)
 ·rw [List.getElem?_set, if_neg (by omega)]; exact h.k j (by omega)
theorem Upd.all {o n : Nat} {G : Nat → Int} {L L' : List Int} (h : Upd o n G L L') (hn : o + n ≤ L.length) {y : List Int} (hy : y.length = n) (hg : ∀ j, j < n → y[j]? = some (G j)) : L' = spl L o y := by
 apply List.ext_getElem?
 intro j
 unfold spl
 rw [List.getElem?_append, List.length_take, Nat.min_eq_left (by omega)]
 by_cases h1 : j < o
 ·rw [if_pos h1, List.getElem?_take_of_lt h1]; exact h.k j (.inl h1)
 ·rw [if_neg h1, List.getElem?_append, hy]
  by_cases h2 : j - o < n
  ·rw [if_pos h2, hg _ h2, ← h.d _ h2]; congr 1; omega
  ·rw [if_neg h2, List.getElem?_drop, h.k j (.inr (by omega))]; congr 1; omega
def rowL (l : List Int) : Array Value := (l.map (Value.int .i64)).toArray
theorem rowL_sz (l : List Int) : (rowL l).size = l.length := by simp [rowL]
theorem rowL_one (l : List Int) : (rowL l).all (·.oneCell') = true := row_one l
theorem rowL_at {l : List Int} {j : Nat} (h : j < l.length) : (rowL l)[j]? = some (.int .i64 (ga l j)) := by
 simp [rowL, ga, List.getD, h]
theorem rowL_set (l : List Int) (j : Nat) (v : Int) : (rowL l).setIfInBounds j (.int .i64 v) = rowL (l.set j v) := by
 simp [rowL]
structure RI (w0 w : World) (M : Nat) (f : Fr) (O : List Int) (v0 v1 : Value) (l0 l1 : List Int) : Prop where
 b : Below w0.heap.size w0 w
 fr : w.heap[w0.heap.size]? = some (.cells f.cells.toArray 62 (0, 0))
 rs : ∃ Z : List Int, Z.length = 64 ∧ w.heap[w0.heap.size + 1]? = some (.cells (rowL Z) 76 (0, 0))
 out : w.heap[w0.heap.size + 1 + 1]? = some (.cells (rowL O) 76 (0, 0))
 ol : O.length = 64
 sh : w.heap[w0.heap.size + 1 + 1 + 1]? = some (.cells #[v0, v1] 121 (0, 0))
 r0 : Kd.V (Kd.int .i64) 2 w 0 (fun k => w0.heap.size + 4 ≤ k ∧ k < M) v0 l0
 r1 : Kd.V (Kd.int .i64) 2 w 0 (fun k => w0.heap.size + 4 ≤ k ∧ k < M) v1 l1
 m : w0.heap.size + 4 ≤ M
 mw : M ≤ w.heap.size
section
variable {w0 w w1 : World} {M : Nat} {f : Fr} {O : List Int} {v0 v1 : Value} {l0 l1 : List Int}
theorem RI.below (h : RI w0 w M f O v0 v1 l0 l1) (hb : Below w.heap.size w w1) : RI w0 w1 M f O v0 v1 l0 l1 := by
 obtain ⟨b, fr, ⟨Z, hz, rs⟩, out, ol, sh, r0, r1, m, mw⟩ := h
 exact ⟨below_step b hb, blk_below fr hb, ⟨Z, hz, blk_below rs hb⟩, blk_below out hb, ol, blk_below sh hb, Kd.V_below r0 hb, Kd.V_below r1 hb, m, Nat.le_trans mw hb.size⟩
theorem RI.bump (h : RI w0 w M f O v0 v1 l0 l1) : RI w0 w w.heap.size f O v0 v1 l0 l1 := by
 obtain ⟨b, fr, rs, out, ol, sh, r0, r1, m, mw⟩ := h
 exact ⟨b, fr, rs, out, ol, sh, Kd.V_mono r0 (fun k hk => ⟨hk.1, Nat.lt_of_lt_of_le hk.2 mw⟩), Kd.V_mono r1 (fun k hk => ⟨hk.1, Nat.lt_of_lt_of_le hk.2 mw⟩), Nat.le_trans m mw, Nat.le_refl _⟩
theorem RI.grow (h : RI w0 w M f O v0 v1 l0 l1) {row : Option Nat} (hg : w.grownBy w1 row) (hr : ∀ k, row = some k → M ≤ k) (hb : Below w0.heap.size w0 w1) : RI w0 w1 M f O v0 v1 l0 l1 := by
 obtain ⟨b, fr, ⟨Z, hz, rs⟩, out, ol, sh, r0, r1, m, mw⟩ := h
 have ne : ∀ g, g < M → some g ≠ row := fun g hgm e => by have := hr g e.symm; omega
 exact ⟨hb, blk_grown fr hg (ne _ (by omega)), ⟨Z, hz, blk_grown rs hg (ne _ (by omega))⟩, blk_grown out hg (ne _ (by omega)), ol, blk_grown sh hg (ne _ (by omega)), Kd.V_grown r0 hg (fun k hk => ne k hk.2), Kd.V_grown r1 hg (fun k hk => ne k hk.2), m, Nat.le_trans mw hg.size⟩
theorem RI.put (h : RI w0 w M f O v0 v1 l0 l1) {q : Nat} (hq : q ≤ 1) {v : Value} {l : List Int} (hv : Kd.V (Kd.int .i64) 2 w 0 (fun k => w0.heap.size + 4 ≤ k) v l) : RI w0 (w.setCell ⟨w0.heap.size + 1 + 1 + 1, q, none⟩ v) w.heap.size f O (if q = 0 then v else v0) (if q = 0 then v1 else v) (if q = 0 then l else l0) (if q = 0 then l1 else l) := by
 have H := h.bump
 obtain ⟨b, fr, ⟨Z, hz, rs⟩, out, ol, sh, r0, r1, m, mw⟩ := H
 have far : ∀ k, k ≠ w0.heap.size + 1 + 1 + 1 → (w.setCell ⟨w0.heap.size + 1 + 1 + 1, q, none⟩ v).heap[k]? = w.heap[k]? := fun k hk => Below.heap_setCell _ _ _ _ hk
 have hs : (w.setCell ⟨w0.heap.size + 1 + 1 + 1, q, none⟩ v).heap.size = w.heap.size := by simp [World.setCell]
 have V : ∀ {u : Value} {m : List Int}, Kd.V (Kd.int .i64) 2 w 0 (fun k => w0.heap.size + 4 ≤ k ∧ k < w.heap.size) u m → Kd.V (Kd.int .i64) 2 (w.setCell ⟨w0.heap.size + 1 + 1 + 1, q, none⟩ v) 0 (fun k => w0.heap.size + 4 ≤ k ∧ k < w.heap.size) u m := fun hu => Kd.V_far hu (fun k hk => by show k ≠ w0.heap.size + 1 + 1 + 1; have := hk.1; omega) _
 have hv2 := V (Kd.V_bound hv)
 refine ⟨b.setCell (p := ⟨w0.heap.size + 1 + 1 + 1, q, none⟩) (by show w0.heap.size ≤ w0.heap.size + 1 + 1 + 1; omega) _, (far _ (by omega)).trans fr, ⟨Z, hz, (far _ (by omega)).trans rs⟩, (far _ (by omega)).trans out, ol, ?_, ?_, ?_, m, by rw [hs]; exact Nat.le_refl _⟩
 ·rcases (by omega : q = 0 ∨ q = 1) with rfl | rfl
  ·exact blk_put sh 0 v rfl
  ·exact blk_put sh 1 v rfl
 ·rcases (by omega : q = 0 ∨ q = 1) with rfl | rfl
  ·exact hv2
  ·exact V r0
 ·rcases (by omega : q = 0 ∨ q = 1) with rfl | rfl
  ·exact V r1
  ·exact hv2
theorem RI.cellq (h : RI w0 w M f O v0 v1 l0 l1) {q : Nat} (hq : q ≤ 1) : w.cell? ⟨w0.heap.size + 1 + 1 + 1, q, none⟩ = some (if q = 0 then v0 else v1) ∧ w.frozen? ⟨w0.heap.size + 1 + 1 + 1, q, none⟩ = false ∧ Kd.V (Kd.int .i64) 2 w 0 (fun k => w0.heap.size + 4 ≤ k ∧ k < M) (if q = 0 then v0 else v1) (if q = 0 then l0 else l1) := by
 refine ⟨?_, blk_frozen h.sh q, ?_⟩
 ·rw [blk_cell h.sh]
  rcases (by omega : q = 0 ∨ q = 1) with rfl | rfl <;> rfl
 ·rcases (by omega : q = 0 ∨ q = 1) with rfl | rfl
  ·exact h.r0
  ·exact h.r1
theorem RI.store (h : RI w0 w M f O v0 v1 l0 l1) (j : Nat) (v : Int) : RI w0 (w.setCell ⟨w0.heap.size + 1 + 1, j, none⟩ (.int .i64 v)) M f (O.set j v) v0 v1 l0 l1 := by
 obtain ⟨b, fr, ⟨Z, hz, rs⟩, out, ol, sh, r0, r1, m, mw⟩ := h
 have far : ∀ k, k ≠ w0.heap.size + 1 + 1 → (w.setCell ⟨w0.heap.size + 1 + 1, j, none⟩ (.int .i64 v)).heap[k]? = w.heap[k]? := fun k hk => Below.heap_setCell _ _ _ _ hk
 have hs : (w.setCell ⟨w0.heap.size + 1 + 1, j, none⟩ (.int .i64 v)).heap.size = w.heap.size := by simp [World.setCell]
 exact ⟨b.setCell (p := ⟨w0.heap.size + 1 + 1, j, none⟩) (by show w0.heap.size ≤ w0.heap.size + 1 + 1; omega) _, (far _ (by omega)).trans fr, ⟨Z, hz, (far _ (by omega)).trans rs⟩, blk_put out j _ (rowL_set _ _ _), by rw [List.length_set]; exact ol, (far _ (by omega)).trans sh, Kd.V_far r0 (fun k hk => by show k ≠ w0.heap.size + 1 + 1; have := hk.1; omega) _, Kd.V_far r1 (fun k hk => by show k ≠ w0.heap.size + 1 + 1; have := hk.1; omega) _, m, by rw [hs]; exact mw⟩
end
theorem z76 : (Tryd.prog.info? 76).map (·.zero) = some (some (.agg (rowL zero64))) := by kernel_rfl
theorem z121 : (Tryd.prog.info? 121).map (·.zero) = some (some (.agg #[.slice none 0 0, .slice none 0 0])) := by kernel_rfl
structure RJ (w0 w : World) (f : Fr) : Prop where
 b : Below w0.heap.size w0 w
 fr : w.heap[w0.heap.size]? = some (.cells f.cells.toArray 62 (0, 0))
 rs : w.heap[w0.heap.size + 1]? = some (.cells (rowL zero64) 76 (0, 0))
 out : w.heap[w0.heap.size + 1 + 1]? = some (.cells (rowL zero64) 76 (0, 0))
 sz : w.heap.size = w0.heap.size + 1 + 1 + 1
theorem alloc_R10 {ops : Array Oper} {rest : List Oper} {o : Oper} {a : Act} {w0 : World} {Q : Exit → Act → World → Prop} (f : Fr) (hg : o.guard = none) (ho : o.op = .alloc 76) (hd : o.dst = some 10)
 (h : ∀ W, RJ w0 W f → wpList Tryd.prog ops Q rest (a.put (some 10) (.pointer (some ⟨w0.heap.size + 1 + 1, 0, none⟩))) W) : wpList Tryd.prog ops Q (o :: rest) a ((w0.alloc (.cells f.cells.toArray 62)).alloc (.cells (rowL zero64) 76)) := by
 refine alloc_to hg 76 ho _ z76 ?_
 have s1 : (w0.alloc (.cells f.cells.toArray 62)).heap.size = w0.heap.size + 1 := by simp [World.alloc_eq]
 have s2 : ((w0.alloc (.cells f.cells.toArray 62)).alloc (.cells (rowL zero64) 76)).heap.size = w0.heap.size + 1 + 1 := by simp [World.alloc_eq]
 rw [hd, s2]
 refine h _ ⟨below_alloc (below_alloc (below_alloc (Below.refl _ _) _) _) _, blk_alloc (blk_alloc (blk_new _ _) _) _, ?_, ?_, by simp [World.alloc_eq]⟩
 ·rw [← s1]; exact blk_alloc (blk_new _ _) _
 ·rw [← s2]; exact blk_new _ _
theorem alloc_R11 {ops : Array Oper} {rest : List Oper} {o : Oper} {a : Act} {w0 W : World} {Q : Exit → Act → World → Prop} {f : Fr} (H : RJ w0 W f) (hg : o.guard = none) (ho : o.op = .alloc 121) (hd : o.dst = some 11)
 (h : ∀ W, RI w0 W W.heap.size f zero64 (.slice none 0 0) (.slice none 0 0) [] [] → wpList Tryd.prog ops Q rest (a.put (some 11) (.pointer (some ⟨w0.heap.size + 1 + 1 + 1, 0, none⟩))) W) : wpList Tryd.prog ops Q (o :: rest) a W := by
 refine alloc_to hg 121 ho _ z121 ?_
 rw [hd, H.sz]
 have hb := below_alloc (Below.refl W.heap.size W) (.cells #[.slice none 0 0, .slice none 0 0] 121)
 have hs : (W.alloc (.cells #[.slice none 0 0, .slice none 0 0] 121)).heap.size = w0.heap.size + 4 := by
  have := H.sz
  simp [World.alloc_eq]; omega
 refine h _ ⟨below_step H.b hb, blk_alloc H.fr _, ⟨_, by simp [zero64], blk_alloc H.rs _⟩, blk_alloc H.out _, by simp [zero64], ?_, Kd.V_nil _ _ _ _ _, Kd.V_nil _ _ _ _ _, by rw [hs]; omega, Nat.le_refl _⟩
 rw [← H.sz]; exact blk_new _ _
theorem rfold_call (l : List Int) (m : Nat) (hn : l.length = m) (hl : m ≤ 200) (hw : ∀ x ∈ l, NoisePlain.I32 x) (n : Nat) (h32 : n ≤ 32) (s : Int) (hs : NoisePlain.U32 s) (A : Option Addr) (c : Nat) (w : World) (hC : Kd.C (Kd.int .i64) w A m l) (hc : m ≤ c) :
 Calls Tryd.prog 17 #[.slice A m c, .int .i64 n, .int .u32 s] w fun e w' => ∃ v, e = .returned (.tuple #[v, .int .u32 (fo l n s).2]) ∧ Kd.R (Kd.int .i64) 2 w' w.heap.size (fun _ => True) v (fo l n s).1 ∧ Below w.heap.size w w' := by
 subst hn
 exact OShapeNoise.spinetref19_Fold.calls 500 A c l n s (fo l n s).1 (fo l n s).2 w hC hc (NoisePlain.fold_ref l hl hw n h32 s hs)
theorem rscale_call (e : Int) (l : List Int) (n : Nat) (hn : l.length = n) (hl : n ≤ 200) (hw : ∀ x ∈ l, ShapePlain.I32 x) (A : Option Addr) (c : Nat) (w : World) (hC : Kd.C (Kd.int .i64) w A n l) (hc : n ≤ c) :
 Calls Tryd.prog 12 #[.slice A n c, .int .i64 e] w fun en w' => ∃ v, en = .returned v ∧ Kd.R (Kd.int .i64) 2 w' w.heap.size (fun _ => True) v (sc e l) ∧ Below w.heap.size w w' := by
 subst hn
 exact OShapeScales.spinetref19_Scale.calls 2000 A c l e (sc e l) w hC hc (ShapePlain.scale_ref e l hl hw)
theorem R_up {w : World} {base N : Nat} {v : Value} {l : List Int} (h : Kd.R (Kd.int .i64) 2 w base (fun _ => True) v l) (hb : N ≤ base) : Kd.V (Kd.int .i64) 2 w 0 (fun k => N ≤ k) v l :=
 Kd.R_V (Kd.R_mono (Kd.R_bound h) (fun k hk => Nat.le_trans hb hk.2.1))
theorem shp_u32 {f : Fr} {q b : Nat} {z : Sp} (h : NoisePlain.U32 z.sd) : NoisePlain.U32 (shp f q b z).2 := by
 unfold shp
 split
 ·exact h
 ·rw [fo_sd]; exact iter_u32 _ _ h
theorem row_u32 {f : Fr} {b : Nat} {z : Sp} (h : NoisePlain.U32 z.sd) : ∀ q, NoisePlain.U32 (spRow f b q z).sd
 | 0 => h
 | q + 1 => shp_u32 (row_u32 h q)
theorem all_u32 {f : Fr} {c : Nat} {sd : Int} (h : NoisePlain.U32 sd) : ∀ b, NoisePlain.U32 (spAll f c b (sp0 sd)).sd
 | 0 => h
 | b + 1 => row_u32 (all_u32 h b) c
set_option maxHeartbeats 16000000 in
set_option maxRecDepth 100000 in
theorem ref_silent (s c : Nat) (it : Bool) (L : List Int) (sd : Int) (hs : s ≤ 2) (hc1 : 1 ≤ c) (hc2 : c ≤ 2) (hsd : NoisePlain.U32 sd) (hl : L.length = 92) (w : World) :
 Calls Tryd.prog 28 #[.int .i64 s, .int .i64 c, .agg (Fr.cells ⟨true, it, L⟩).toArray, .int .u32 sd] w fun e w' => e = .returned (.tuple #[.agg (rowL zero64), .int .u32 sd]) ∧ Below w.heap.size w w' := by
 obtain ⟨f, hf⟩ : ∃ f, Fr.mk true it L = f := ⟨_, rfl⟩
 have h0 : f.cells.toArray[0]? = some (.bool true) := by rw [← hf]; exact Fr.cells_0 _
 have hfl : f.L.length = 92 := by rw [← hf]; exact hl
 rw [hf]
 have HS2 := Aside0.mk (And.intro hs (And.intro hc1 hc2))
 have HFL := Aside0.mk hfl
 have HFF := Aside0.mk hf
 have HSD := Aside0.mk hsd
 have HN := Aside0.mk (bands_call hs)
 clear hs hc1 hc2 hl hf hfl hsd
 go_enter Tryd.func28, Tryd.ntmps28
 go_wp2_with (first
  | ((with_reducible refine alloc_R10 f rfl rfl rfl ?_); intro W h8; have HJ := Aside0.mk h8; have hc0 := (blk_cell h8.fr 0).trans h0; clear h8)
  | (with_reducible refine alloc_to rfl 76 rfl _ z76 ?_)
  | (refine wpList_load_row rfl 76 (.tmp 10) rfl (w.heap.size + 1 + 1) rfl 76 (rowL zero64) (0, 0) _ HJ.out.out Tryd.underlying76 rfl (by kernel_rfl) ?_)
  | (refine wpList_store_row rfl 76 (.tmp 8) (.tmp 23) rfl (w.heap.size + 1) (rowL zero64) rfl rfl 76 _ HJ.out.rs (by kernel_rfl) rfl (rowL_one _) ?_))
 refine bodyPost_ret (results_cell_tmp rfl _ _ (w.heap.size + 1) 76 _ _ _ _ rfl (setRow_heap _ _ _ _ _ _ HJ.out.rs) Tryd.underlying76 rfl (by kernel_rfl) rfl) rfl ?_
 exact ⟨rfl, below_setRow HJ.out.b (by omega) _⟩
set_option maxHeartbeats 16000000 in
set_option maxRecDepth 100000 in
theorem ref_loud (s c : Nat) (it : Bool) (L : List Int) (sd : Int) (hs : s ≤ 2) (hc1 : 1 ≤ c) (hc2 : c ≤ 2) (hsd : NoisePlain.U32 sd) (hl : L.length = 92) (w : World) :
 Calls Tryd.prog 28 #[.int .i64 s, .int .i64 c, .agg (Fr.cells ⟨false, it, L⟩).toArray, .int .u32 sd] w fun e w' => e = .returned (.tuple #[.agg (rowL (spAll ⟨false, it, L⟩ c (s + 3) (sp0 sd)).o), .int .u32 (spAll ⟨false, it, L⟩ c (s + 3) (sp0 sd)).sd]) ∧ Below w.heap.size w w' := by
 obtain ⟨f, hf⟩ : ∃ f, Fr.mk false it L = f := ⟨_, rfl⟩
 have h0 : f.cells.toArray[0]? = some (.bool false) := by rw [← hf]; exact Fr.cells_0 _
 have hfl : f.L.length = 92 := by rw [← hf]; exact hl
 rw [hf]
 have HS2 := Aside0.mk (And.intro hs (And.intro hc1 hc2))
 have HFL := Aside0.mk hfl
 have HFF := Aside0.mk hf
 have HSD := Aside0.mk hsd
 have HN := Aside0.mk (bands_call hs)
 clear hs hc1 hc2 hl hf hfl hsd
 go_enter Tryd.func28, Tryd.ntmps28
 go_wp2_with (first
  | ((with_reducible refine alloc_R10 f rfl rfl rfl ?_); intro W h8; have HJ := Aside0.mk h8; have hc0 := (blk_cell h8.fr 0).trans h0; clear h8)
  | (with_reducible refine alloc_to rfl 76 rfl _ z76 ?_)
  | ((with_reducible refine alloc_R11 HJ.out rfl rfl rfl ?_); intro W2 h9; obtain ⟨M, v0, v1, HI⟩ : ∃ M v0 v1, Aside0 (RI w W2 M f (sp0 sd).o v0 v1 (sp0 sd).l0 (sp0 sd).l1) := ⟨_, _, _, ⟨h9⟩⟩; clear h9 HJ hc0))
 go_loopw [3, 12] (fun sv bv wr => ∃ (b M : Nat) (v0 v1 : Value), b ≤ s + 3 ∧ sv = .int .u32 (spAll f c b (sp0 sd)).sd ∧ bv = .int .i64 b ∧ Aside0 (RI w wr M f (spAll f c b (sp0 sd)).o v0 v1 (spAll f c b (sp0 sd)).l0 (spAll f c b (sp0 sd)).l1)) (fun sv bv _ => ((s : Int) + 3 - intOf bv).toNat)
 case atStart => exact ⟨0, M, v0, v1, by omega, rfl, rfl, HI⟩
 case round =>
  obtain ⟨b, M, v0, v1, hb, rfl, rfl, HI2⟩ := hrel
  clear HI
  have HI := HI2
  clear HI2
  by_cases ht : b < s + 3
  ·have d1 : decide ((b : Int) < ((s + 3 : Nat) : Int)) = true := decide_eq_true (by omega)
   have HBB : Aside0 (b + 1 ≤ s + 3 ∧ b ≤ 4 ∧ b < s + 3) := ⟨by omega, by have := HS2.out; omega, ht⟩
   have HFI := Aside0.mk (all_fine (f := f) HS2.out.2.2 sd b (by have := HS2.out; omega))
   have HFU := Aside0.mk (all_u32 (f := f) (c := c) HSD.out b)
   obtain ⟨z, hz⟩ : ∃ z, spAll f c b (sp0 sd) = z := ⟨_, rfl⟩
   rw [hz] at HI HFI HFU ⊢
   have HZ := Aside0.mk hz
   have HC58 := Aside0.mk (band_call HBB.out.2.1)
   rw [bf_is HBB.out.2.1] at HC58
   clear hb hz
   go_wp2_with (first
    | (go_at_call 47; (with_reducible refine (HN.out _).mono ?_); rintro e w1 ⟨rfl, hb1⟩; have HI1 := Aside0.mk (HI.out.below hb1); clear HI hb1; have HI := HI1; clear HI1)
    | (go_at_call 58; (with_reducible refine (HC58.out _).mono ?_); rintro e w2 ⟨rfl, hb2⟩; have HI1 := Aside0.mk (HI.out.below hb2); clear HI hb2; have HI := HI1; clear HI1))
   clear d1 ht
   have i3 : (0 : Int) ≤ (b : Int) := by omega
   have i4 : (b : Int) < 5 := by have := HBB.out; omega
   go_loopw [3, 15] (fun sv qv wr => ∃ (q M : Nat) (v0 v1 : Value), q ≤ c ∧ sv = .int .u32 (spRow f b q z).sd ∧ qv = .int .i64 q ∧ Aside0 (RI w wr M f (spRow f b q z).o v0 v1 (spRow f b q z).l0 (spRow f b q z).l1)) (fun sv qv _ => ((c : Int) - intOf qv).toNat)
   case atStart => exact ⟨0, M, v0, v1, by omega, rfl, rfl, HI⟩
   case round =>
    obtain ⟨q, M, v0, v1, hq, rfl, rfl, HI2⟩ := hrel
    clear HI
    have HI := HI2
    clear HI2
    by_cases ht : q < c
    ·have HQQ : Aside0 (q + 1 ≤ c ∧ q ≤ 1) := ⟨by omega, by have := HS2.out; omega⟩
     have HFY := Aside0.mk (row_fine (f := f) HBB.out.2.1 HFI.out q (by have := HS2.out; omega))
     have HYU := Aside0.mk (row_u32 (f := f) (b := b) HFU.out q)
     obtain ⟨y, hy⟩ : ∃ y, spRow f b q z = y := ⟨_, rfl⟩
     rw [hy] at HI HFY HYU ⊢
     have HY := Aside0.mk hy
     have i1 : (0 : Int) ≤ (q : Int) := by omega
     have i2 : (q : Int) < 2 := by have := HQQ.out; omega
     obtain ⟨lx, hlx⟩ : ∃ lx, (shp f q b y).1 = lx := ⟨_, rfl⟩
     obtain ⟨hxl, hxw⟩ := shp_fine (f := f) (q := q) HBB.out.2.1 HFY.out
     rw [hlx] at hxl hxw
     have HXL := Aside0.mk (And.intro hxl hxw)
     clear hq hy hxl hxw
     go_wp2
     refine wp_region_held_drew (S := (fun w1 => w1.heap[w.heap.size]? = some (.cells f.cells.toArray 62 (0, 0)))) (by kernel_rfl) ?hS0 (fun hHeld => ?_)
     case hS0 => exact (HI.out.below (drew_self _)).fr
     refine zTH (v := ?_) 0 rfl hHeld ?h ?_
     case h => (intro w1 h1; go_simp; (try with_reducible rfl))
     (try simp only [Act.put, zA1, zA2, zA3])
     refine zTH (v := ?_) 1 rfl hHeld ?h ?_
     case h => (intro w1 h1; go_simp; (try with_reducible rfl))
     (try simp only [Act.put, zA1, zA2, zA3])
     refine zTH (v := ?_) 2 rfl hHeld ?h ?_
     case h => (intro w1 h1; go_simp; (try with_reducible rfl))
     (try simp only [Act.put, zA1, zA2, zA3])
     refine zTH (v := ?_) 3 rfl hHeld ?h ?_
     case h => (intro w1 h1; go_simp; (try with_reducible rfl))
     (try simp only [Act.put, zA1, zA2, zA3])
     refine zTH (v := ?_) 4 rfl hHeld ?h ?_
     case h => (intro w1 h1; go_simp; (try with_reducible rfl))
     (try simp only [Act.put, zA1, zA2, zA3])
     refine zTH (v := ?_) 5 rfl hHeld ?h ?_
     case h => (intro w1 h1; have h1a := frc HFL.out h1 (j := 3 + (q * 5 + b)) (k := 5 + q * 5 + b) (by have := HQQ.out; have := HBB.out; omega) (by omega); go_simp; (try with_reducible rfl))
     (try simp only [Act.put, zA1, zA2, zA3])
     refine zTH (v := ?_) 6 rfl hHeld ?h ?_
     case h => (intro w1 h1; go_simp; (try with_reducible rfl))
     (try simp only [Act.put, zA1, zA2, zA3])
     refine zTH (v := ?_) 7 rfl hHeld ?h ?_
     case h => (intro w1 h1; go_simp; (try with_reducible rfl))
     (try simp only [Act.put, zA1, zA2, zA3])
     refine zTH (v := ?_) 8 rfl hHeld ?h ?_
     case h => (intro w1 h1; go_simp; (try with_reducible rfl))
     (try simp only [Act.put, zA1, zA2, zA3])
     refine zTH (v := ?_) 9 rfl hHeld ?h ?_
     case h => (intro w1 h1; go_simp; (try with_reducible rfl))
     (try simp only [Act.put, zA1, zA2, zA3])
     refine zTH (v := ?_) 10 rfl hHeld ?h ?_
     case h => (intro w1 h1; go_simp; (try with_reducible rfl))
     (try simp only [Act.put, zA1, zA2, zA3])
     refine zTH (v := ?_) 11 rfl hHeld ?h ?_
     case h => (intro w1 h1; have h1a := frc HFL.out h1 (j := 13 + (q * 5 + b)) (k := 15 + q * 5 + b) (by have := HQQ.out; have := HBB.out; omega) (by omega); go_simp; (try with_reducible rfl))
     (try simp only [Act.put, zA1, zA2, zA3])
     refine zTH (v := ?_) 12 rfl hHeld ?h ?_
     case h => (intro w1 h1; go_simp; (try with_reducible rfl))
     (try simp only [Act.put, zA1, zA2, zA3])
     refine zTH (v := ?_) 13 rfl hHeld ?h ?_
     case h => (intro w1 h1; have h1a := frc HFL.out h1 (j := 2) (k := 4) (by have := HQQ.out; have := HBB.out; omega) (by omega); go_simp; (try with_reducible rfl))
     (try simp only [Act.put, zA1, zA2, zA3])
     have HI0 := Aside0.mk (HI.out.below (drew_self _))
     clear HI
     refine zOH 14 rfl fun K hK => ?_
     refine goes_ (N := some 55) Tryd.func65 (by kernel_rfl) rfl #[.int .i64 (ga f.L (3 + (q * 5 + b))), .int .i64 (ga f.L (13 + (q * 5 + b))), .int .i64 (ga f.L 2)] (by rfl) rfl rfl (by first | rfl | (simp only [List.map_toArray, List.map_cons, List.map_nil]; rfl)) ?_
     (with_reducible refine (rloud_call _ _ _ _).mono ?_); rintro e wb ⟨rfl, hb3⟩
     refine ⟨_, rfl, ?_⟩
     refine hK.out _ _ ?hSn15 (fun hHeld => ?_)
     case hSn15 => exact blk_below hHeld hb3
     clear hK K
     (try simp only [Act.put, zA1, zA2, zA3])
     refine zTH (v := ?_) 15 rfl hHeld ?h ?_
     case h => (intro w1 h1; go_simp; (try with_reducible rfl))
     (try simp only [Act.put, zA1, zA2, zA3])
     refine wpAnyH_done (by kernel_rfl) ?_ _
     have HI := Aside0.mk (HI0.out.below hb3)
     clear HI0 hb3 hHeld
     have hkc := frc HFL.out HI.out.fr (j := 23 + b) (k := 25 + b) (by have := HBB.out; omega) (by omega)
     obtain ⟨E, hE⟩ : ∃ E, lou (ga f.L (3 + (q * 5 + b))) (ga f.L (13 + (q * 5 + b))) (ga f.L 2) = E := ⟨_, rfl⟩
     have HEE : Aside0 (lou (ga f.L (3 + (q * 5 + b))) (ga f.L (13 + (q * 5 + b))) (ga f.L 2) = E ∧ 0 ≤ E ∧ E ≤ 320) := ⟨hE, by rw [← hE]; exact (lou_is _ _ _).2⟩
     rw [hE]
     clear hE
     by_cases hk : 0 < ga f.L (23 + b)
     ·have HX : Aside0 (shp f q b y = (lx, y.sd) ∧ lx = sp (ga f.L 0) (pu (xb f q b))) := ⟨by rw [← hlx]; unfold shp; rw [if_pos hk]; exact ⟨rfl, rfl⟩⟩
      have HLO : Aside0 (lo f q b = E) := ⟨by unfold lo; rw [if_neg (by omega)]; exact HEE.out.1⟩
      have hk1 : decide (0 < ga f.L (23 + b)) = true := decide_eq_true hk
      have HI1 := Aside0.mk HI.out.bump
      clear hk hlx HI
      obtain ⟨M, hM⟩ : ∃ M, wb.heap.size = M := ⟨_, rfl⟩
      rw [hM] at HI1
      clear hM
      have HI := HI1
      clear HI1
      go_wp2
      go_loopw [17, 18] (fun xv iv wr => ∃ (i : Nat) (xv2 : Value), i ≤ bw b ∧ xv2 = xv ∧ iv = .int .i64 i ∧ Aside0 (RI w wr M f y.o v0 v1 y.l0 y.l1) ∧ Aside0 (Kd.R (Kd.int .i64) 3 wr M (fun _ => True) xv2 ((xb f q b).take i))) (fun xv iv _ => ((bw b : Int) - intOf iv).toNat)
      case atStart => exact ⟨0, _, by omega, rfl, rfl, HI, ⟨Kd.R_nil _ _ _ _ _⟩⟩
      case round =>
       obtain ⟨i, xv, hi, rfl, rfl, HI2, HR⟩ := hrel
       clear HI hkc hk1
       have HI := HI2
       clear HI2
       by_cases ht3 : i < bw b
       ·have hbn := bfN_in HBB.out.2.1
        have d3 : decide ((i : Int) < (bw b : Int)) = true := decide_eq_true (by omega)
        have h1 : (0 : Int) ≤ (i : Int) := by omega
        have h2 : (i : Int) < 16 := by omega
        have j0 : IntKind.i64.wrap ((bfN b : Int) + (i : Int)) = (bfN b : Int) + (i : Int) := by rw [i64_w]; exact sw64 (by omega) (by omega)
        have j00 : wrap64 ((bfN b : Int) + (i : Int)) = (bfN b : Int) + (i : Int) := sw64 (by omega) (by omega)
        have j1 : (0 : Int) ≤ (bfN b : Int) + (i : Int) := by omega
        have j2 : (bfN b : Int) + (i : Int) < 32 := by omega
        obtain ⟨j, hj⟩ : ∃ j, ((bfN b : Int) + (i : Int)).toNat = j := ⟨_, rfl⟩
        have HJ : Aside0 (j = bfN b + i) := ⟨by omega⟩
        have hcx := frc HFL.out HI.out.fr (j := 28 + (q * 32 + j)) (k := 30 + q * 32 + j) (by have := HQQ.out; omega) (by omega)
        have HIB : Aside0 (i + 1 ≤ bw b) := ⟨ht3⟩
        obtain ⟨Y, hY⟩ : ∃ Y, ga f.L (28 + (q * 32 + j)) = Y := ⟨_, rfl⟩
        rw [hY] at hcx
        obtain ⟨acc, hacc⟩ : ∃ acc, (xb f q b).take i = acc := ⟨_, rfl⟩
        have HT : Aside0 (acc ++ [Y] = (xb f q b).take (i + 1) ∧ acc.length = i) := ⟨by
         rw [← hacc]
         refine ⟨?_, by rw [List.length_take, xb_len]; omega⟩
         rw [List.take_add_one]
         congr 1
         unfold xb
         rw [List.getElem?_map, List.getElem?_range (by omega), ← hY, HJ.out]
         rfl⟩
        rw [hacc] at HR
        clear hi hbn hY hacc
        go_wp2_with (first
         | ((with_reducible refine gate_builtin (b := .append) (xs := #[.tmp 66, .tmp 75]) rfl ?_); at_builtin; refine Kd.R_append (Kd.int .i64) (w0 := wr) M rfl (.tmp 66) (.tmp 75) 113 3 (.int .i64 0) 8 rfl Tryd.underlying113 OShapeSeeds.info3 rfl (by decide) (by omega) _ acc Y [.int .i64 Y] (fun _ => True) (fun _ => False) rfl rfl rfl (fun _ hk => hk.elim) (fun _ _ => trivial) HR.out (Below.refl M wr) HI.out.mw (by have := HT.out; have := bfN_in HBB.out.2.1; have := HIB.out; omega) ?_; intro v3 w3 hR hb hg hat; rw [HT.out.1] at hR; have m0 := Aside0.mk hR; have m1 := Aside0.mk (HI.out.grow hg (fun k hk => Kd.R_base HR.out k hk) (HI.out.b.trans (hb.mono (by have := HI.out.m; omega)))); clear HR HI hR hb hg hat; have HR := m0; have HI := m1; clear m0 m1))
        go_roundw
        case rel => repeat (first | exact ⟨⟨i + 1, _, HIB.out, rfl, congrArg (Value.int .i64) (by omega), HI, HR⟩, rfl⟩ | exact ⟨i + 1, _, HIB.out, rfl, congrArg (Value.int .i64) (by omega), HI, HR⟩ | apply Exists.intro)
        case measure => exact meas_q HIB.out
       ·obtain rfl : i = bw b := by omega
        have d3 : decide ((bw b : Int) < (bw b : Int)) = false := decide_eq_false (by omega)
        have HR1 : Aside0 (Kd.R (Kd.int .i64) 3 wr M (fun _ => True) xv (xb f q b)) := ⟨by
         have h := HR.out
         rwa [List.take_of_length_le (by rw [xb_len]; exact Nat.le_refl _)] at h⟩
        clear ht3 hi HR
        have h := Kd.R_reads HR1.out
        rw [xb_len] at h
        obtain ⟨Ax, cx, rfl, hcx, hCx⟩ := h
        have HCX := Aside0.mk hCx
        have HCL := Aside0.mk hcx
        clear hcx hCx HR1
        go_wp2
        refine wp_region_held_drew (S := (fun w1 => w1.heap[w.heap.size]? = some (.cells f.cells.toArray 62 (0, 0)))) (by kernel_rfl) ?hS0 (fun hHeld => ?_)
        case hS0 => exact (HI.out.below (drew_self _)).fr
        refine zTH (v := ?_) 0 rfl hHeld ?h ?_
        case h => (intro w1 h1; go_simp; (try with_reducible rfl))
        (try simp only [Act.put, zA1, zA2, zA3])
        refine zTH (v := ?_) 1 rfl hHeld ?h ?_
        case h => (intro w1 h1; go_simp; (try with_reducible rfl))
        (try simp only [Act.put, zA1, zA2, zA3])
        refine zTH (v := ?_) 3 rfl hHeld ?h ?_
        case h => (intro w1 h1; go_simp; (try with_reducible rfl))
        (try simp only [Act.put, zA1, zA2, zA3])
        refine zTH (v := ?_) 4 rfl hHeld ?h ?_
        case h => (intro w1 h1; have h1a := frc HFL.out h1 (j := 0) (k := 2) (by decide) rfl; go_simp; (try with_reducible rfl))
        (try simp only [Act.put, zA1, zA2, zA3])
        have HI0 := Aside0.mk (HI.out.below (drew_self _))
        clear HI
        refine zOH 2 rfl fun K hK => ?_
        refine goes_ (N := some 79) Tryd.func67 (by kernel_rfl) rfl #[.slice Ax (bw b) cx] (by rfl) rfl rfl (by first | rfl | (simp only [List.map_toArray, List.map_cons, List.map_nil]; rfl)) ?_
        (with_reducible refine (rvec_call (xb f q b) (bw b) (xb_len f q b) (by have := bfN_in HBB.out.2.1; omega) Ax cx _ (Kd.C_below HCX.out (drew_self _)) HCL.out).mono ?_); rintro e w10 ⟨v, rfl, hv, hb10⟩
        refine ⟨_, rfl, ?_⟩
        refine hK.out _ _ ?hSn32 (fun hHeld => ?_)
        case hSn32 => exact blk_below hHeld hb10
        clear hK K
        (try simp only [Act.put, zA1, zA2, zA3])
        have HI1 := Aside0.mk (HI0.out.below hb10)
        have hN1 : w.heap.size + 4 ≤ wr.drew.heap.size := Nat.le_trans HI0.out.m HI0.out.mw
        have hN2 : w.heap.size + 4 ≤ w10.heap.size := Nat.le_trans HI1.out.m HI1.out.mw
        clear HI0 hb10
        obtain ⟨Ap, cp, rfl⟩ := Kd.R_slice hv
        rw [pu_len, xb_len] at hv ⊢
        refine zOH 5 rfl fun K hK => ?_
        refine goes_ (N := some 82) Tryd.func66 (by kernel_rfl) rfl #[.slice Ap (bw b) cp, .int .i64 (ga f.L 0)] (by rfl) rfl rfl (by first | rfl | (simp only [List.map_toArray, List.map_cons, List.map_nil]; rfl)) ?_
        (with_reducible refine (rspread_call (ga f.L 0) (pu (xb f q b)) (bw b) (by rw [pu_len, xb_len]) (by have := bfN_in HBB.out.2.1; omega) (pu_in _) Ap cp _ _ (w.heap.size + 4) hv hN1 hN2).mono ?_); rintro e w11 ⟨v, rfl, hv2, hb11⟩
        refine ⟨_, rfl, ?_⟩
        refine hK.out _ _ ?hSn33 (fun hHeld => ?_)
        case hSn33 => exact blk_below hHeld hb11
        clear hK K
        (try simp only [Act.put, zA1, zA2, zA3])
        rw [← HX.out.2] at hv2
        have HI2 := Aside0.mk (HI1.out.below hb11)
        obtain ⟨hcs, hfs, _⟩ := HI2.out.cellq HQQ.out.2
        have hI3 := HI2.out.put HQQ.out.2 hv2
        clear HI1 hb11 hv hN1 hN2
        obtain ⟨Aq, cq, hvv⟩ := Kd.V_slice hv2
        rw [HXL.out.1] at hvv
        subst hvv
        refine zTH (v := ?_) 6 rfl hHeld ?h ?_
        case h => (intro w1 h1; go_simp; (try with_reducible rfl))
        (try simp only [Act.put, zA1, zA2, zA3])
        refine zOH 7 rfl fun K hK => ?_
        go_simp
        refine hK.out _ _ ?hSn35 (fun hHeld => ?_)
        case hSn35 => exact hI3.fr
        clear hK K
        (try simp only [Act.put, zA1, zA2, zA3])
        refine wpAnyH_done (by kernel_rfl) ?_ _
        have HI4 := Aside0.mk hI3
        clear hI3 hHeld hcs hfs hv2 HI2 HCX HCL
        obtain ⟨wS, hwS⟩ : ∃ x, w11.setCell ⟨w.heap.size + 1 + 1 + 1, q, none⟩ (.slice Aq (bw b) cq) = x := ⟨_, rfl⟩
        rw [hwS] at HI4 ⊢
        clear hwS
        obtain ⟨hcq, _, hV4⟩ := HI4.out.cellq HQQ.out.2
        rw [show (if q = 0 then (if q = 0 then Value.slice Aq (bw b) cq else v0) else (if q = 0 then v1 else Value.slice Aq (bw b) cq)) = Value.slice Aq (bw b) cq by split <;> rfl] at hcq hV4
        rw [show (if q = 0 then (if q = 0 then lx else y.l0) else (if q = 0 then y.l1 else lx)) = lx by split <;> rfl] at hV4
        have HC4 := Aside0.mk (Kd.V_reads' hV4).2
        have HXW : Aside0 (∀ x ∈ lx, ShapePlain.I32 x) := ⟨fun x hx => HXL.out.2 x hx⟩
        clear hV4
        go_wp2_with (first
         | (go_at_call 12; (with_reducible refine (rscale_call _ lx (bw b) HXL.out.1 (by have := bfN_in HBB.out.2.1; omega) HXW.out Aq cq _ (by have h := HC4.out.2; rwa [HXL.out.1] at h) HC4.out.1).mono ?_); rintro e w13 ⟨v, rfl, hv, hb13⟩; have HI5 := Aside0.mk (HI4.out.below hb13); rw [← HLO.out] at hv; obtain ⟨B0, HV0⟩ : ∃ B0, Aside0 (Kd.R (Kd.int .i64) 2 w13 B0 (fun _ => True) v (sc (lo f q b) lx)) := ⟨_, ⟨hv⟩⟩; clear hv hb13 HI4 HC4 hcq; obtain ⟨Ay, cy, hvv⟩ := Kd.R_slice HV0.out; rw [sc_len, HXL.out.1] at hvv; subst hvv))
        have hyl : (sc (lo f q b) lx).length = bw b := by rw [sc_len]; exact HXL.out.1
        obtain ⟨Y, hY⟩ : ∃ Y, sc (lo f q b) lx = Y := ⟨_, rfl⟩
        rw [hY] at hyl HV0
        have HYL := Aside0.mk (And.intro hyl hY)
        obtain ⟨gy, cy2, hform, _⟩ := Kd.R_form HV0.out (by rw [hyl]; have := bfN_in HBB.out.2.1; omega)
        injection hform with hA hnn hcc
        subst hA
        clear hnn hcc hyl hY cy2
        go_loopw [20] (fun iv wr => ∃ (i : Nat) (O : List Int), i ≤ bw b ∧ iv = .int .i64 i ∧ Aside0 (∃ M u0 u1, RI w wr M f O u0 u1 (if q = 0 then lx else y.l0) (if q = 0 then y.l1 else lx)) ∧ Aside0 (Upd (q * 32 + bfN b) i (fun j => ga Y j) y.o O) ∧ Aside0 (Kd.R (Kd.int .i64) 2 wr B0 (fun _ => True) (.slice (some ⟨gy, 0, none⟩) (bw b) cy) Y)) (fun iv _ => ((bw b : Int) - intOf iv).toNat)
        case atStart => exact ⟨0, y.o, by omega, rfl, ⟨_, _, _, HI5.out⟩, ⟨Upd.start _ _ _⟩, HV0⟩
        case round =>
         obtain ⟨i, O, hi, rfl, HI6, HU, HV⟩ := hrel
         clear HI5 HV0
         by_cases ht3 : i < bw b
         ·obtain ⟨M, u0, u1, hI6⟩ := HI6.out
          have hrc := Kd.R_cell (xs := Y) (0 : Int) (by rw [HYL.out.1]; exact HV.out) (i : Int) (by omega) (by rw [HYL.out.1]; omega)
          rw [show rdOf (0 : Int) Y (i : Int) = ga Y i by unfold rdOf ga; rw [Int.toNat_natCast], Int.toNat_natCast] at hrc
          obtain ⟨hck, hfk⟩ := hrc
          obtain ⟨yv, hyv⟩ : ∃ x, ga Y i = x := ⟨_, rfl⟩
          rw [hyv] at hck
          have hbn := bfN_in HBB.out.2.1
          have d3 : decide ((i : Int) < (bw b : Int)) = true := decide_eq_true (by omega)
          have h1 : (0 : Int) ≤ (i : Int) := by omega
          have h2 : (i : Int) < (bw b : Int) := by omega
          have j0 : IntKind.i64.wrap ((bfN b : Int) + (i : Int)) = (bfN b : Int) + (i : Int) := by rw [i64_w]; exact sw64 (by omega) (by omega)
          have j1 : (0 : Int) ≤ (bfN b : Int) + (i : Int) := by omega
          have j2 : (bfN b : Int) + (i : Int) < 32 := by omega
          obtain ⟨j, hj⟩ : ∃ j, ((bfN b : Int) + (i : Int)).toNat = j := ⟨_, rfl⟩
          have HJ : Aside0 (q * 32 + j = q * 32 + bfN b + i ∧ q * 32 + bfN b + i < 64) := ⟨by omega, by have := HQQ.out; omega⟩
          have hko := (blk_cell hI6.out (q * 32 + j)).trans (rowL_at (by rw [hI6.ol]; have := HJ.out; omega))
          have hfo := blk_frozen hI6.out (q * 32 + j)
          have hi16 : (i : Int) < 16 := by omega
          have HIB : Aside0 (i + 1 ≤ bw b) := ⟨ht3⟩
          have HI7 := Aside0.mk (hI6.store (q * 32 + j) yv)
          have HV7 := Aside0.mk (Kd.R_set HV.out hI6.out (by simp [Kd.int, Kd.scalar]) (q * 32 + j) (.int .i64 yv))
          have HU7 : Aside0 (Upd (q * 32 + bfN b) (i + 1) (fun j => ga Y j) y.o (O.set (q * 32 + j) yv)) := ⟨by rw [HJ.out.1]; exact HU.out.step (by rw [HFY.out.o]; exact HJ.out.2) hyv.symm⟩
          clear hi hbn hI6 HI6 HV HU hyv
          go_wp2
          refine wp_region_any (by kernel_rfl) ?_
          change wpAny _ _ _ _ _ _ _ (World.drew _)
          refine zT (v := ?_) 0 rfl ?h ?_
          case h => (intro w1; go_simp; (try with_reducible rfl))
          (try simp only [Act.put, zA1, zA2, zA3])
          refine zT (v := ?_) 1 rfl ?h ?_
          case h => (intro w1; go_simp; (try with_reducible rfl))
          (try simp only [Act.put, zA1, zA2, zA3])
          refine zT (v := ?_) 2 rfl ?h ?_
          case h => (intro w1; go_simp; (try with_reducible rfl))
          (try simp only [Act.put, zA1, zA2, zA3])
          refine zT (v := ?_) 3 rfl ?h ?_
          case h => (intro w1; go_simp; (try with_reducible rfl))
          (try simp only [Act.put, zA1, zA2, zA3])
          refine zT (v := ?_) 4 rfl ?h ?_
          case h => (intro w1; go_simp; (try with_reducible rfl))
          (try simp only [Act.put, zA1, zA2, zA3])
          refine zT (v := ?_) 5 rfl ?h ?_
          case h => (intro w1; go_simp; (try with_reducible rfl))
          (try simp only [Act.put, zA1, zA2, zA3])
          refine zT (v := ?_) 6 rfl ?h ?_
          case h => (intro w1; go_simp; (try with_reducible rfl))
          (try simp only [Act.put, zA1, zA2, zA3])
          refine zT (v := ?_) 8 rfl ?h ?_
          case h => (intro w1; go_simp; (try with_reducible rfl))
          (try simp only [Act.put, zA1, zA2, zA3])
          refine zO 7 rfl fun K hK => ?_
          go_simp
          refine hK _ _ ?_
          clear hK K
          (try simp only [Act.put, zA1, zA2, zA3])
          refine zT (v := ?_) 9 rfl ?h ?_
          case h => (intro w1; go_simp; (try with_reducible rfl))
          (try simp only [Act.put, zA1, zA2, zA3])
          refine zO 10 rfl fun K hK => ?_
          go_simp
          refine hK _ _ ?_
          clear hK K
          (try simp only [Act.put, zA1, zA2, zA3])
          refine wpAny_done (by kernel_rfl) ?_ _
          go_wp2
          go_roundw
          case rel => repeat (first | exact ⟨⟨i + 1, _, HIB.out, congrArg (Value.int .i64) (by omega), ⟨_, _, _, HI7.out.below (drew_self _)⟩, HU7, ⟨Kd.R_drew HV7.out⟩⟩, rfl⟩ | exact ⟨i + 1, _, HIB.out, congrArg (Value.int .i64) (by omega), ⟨_, _, _, HI7.out.below (drew_self _)⟩, HU7, ⟨Kd.R_drew HV7.out⟩⟩ | apply Exists.intro)
          case measure => exact meas_q HIB.out
         ·obtain rfl : i = bw b := by omega
          have d3 : decide ((bw b : Int) < (bw b : Int)) = false := decide_eq_false (by omega)
          have HO : Aside0 (O = spl y.o (q * 32 + bfN b) (sc (lo f q b) lx)) := ⟨by
           have hbn := bfN_in HBB.out.2.1
           have := HQQ.out.2
           rw [HYL.out.2]
           exact HU.out.all (by rw [HFY.out.o]; omega) HYL.out.1 (fun j hj => by unfold ga; rw [List.getD_eq_getElem?_getD, List.getElem?_eq_getElem (by rw [HYL.out.1]; exact hj)]; rfl)⟩
          clear ht3 hi HV HU
          go_wp2
          have hst : spRow f b (q + 1) z = spStep f b q y := by show spStep f b q (spRow f b q z) = _; rw [HY.out]
          have hsd : Value.int .u32 (shp f q b y).2 = Value.int .u32 (spRow f b (q + 1) z).sd := by rw [hst]; rfl
          have hsd2 := hsd
          rw [HX.out.1] at hsd2
          have HS3 := Aside0.mk hsd2
          have HI8 : Aside0 (∃ M u0 u1, RI w wr M f (spRow f b (q + 1) z).o u0 u1 (spRow f b (q + 1) z).l0 (spRow f b (q + 1) z).l1) := ⟨by
           rw [hst]; unfold spStep; rw [show (shp f q b y).1 = lx from by rw [HX.out.1], ← HO.out]; exact HI6.out⟩
          clear hst hsd hsd2 HI6
          obtain ⟨M, u0, u1, hI8⟩ := HI8.out
          have HI9 := Aside0.mk hI8
          clear hI8 HI8
          go_roundw
          case rel => repeat (first | exact ⟨⟨q + 1, M, u0, u1, HQQ.out.1, HS3.out, congrArg (Value.int .i64) (by omega), HI9⟩, rfl⟩ | exact ⟨q + 1, M, u0, u1, HQQ.out.1, HS3.out, congrArg (Value.int .i64) (by omega), HI9⟩ | apply Exists.intro)
          case measure => exact meas_q HQQ.out.1
     ·have HX : Aside0 (shp f q b y = fo (if q = 0 then y.l0 else y.l1) (bw b) y.sd) := ⟨by unfold shp; rw [if_neg hk]⟩
      have hlx2 : (fo (if q = 0 then y.l0 else y.l1) (bw b) y.sd).1 = lx := by rw [← HX.out]; exact hlx
      have HLO : Aside0 (lo f q b = max (E - 16) 0) := ⟨by unfold lo; rw [if_pos (by omega), HEE.out.1]⟩
      have hk1 : decide (0 < ga f.L (23 + b)) = false := decide_eq_false hk
      clear hk hlx
      obtain ⟨hcq, hfq, hRq⟩ := HI.out.cellq HQQ.out.2
      obtain ⟨lq, hlq⟩ : ∃ l, (if q = 0 then y.l0 else y.l1) = l := ⟨_, rfl⟩
      have HLQ : Aside0 (lq.length ≤ 16 ∧ ∀ x ∈ lq, NoisePlain.I32 x) := ⟨by
       rw [← hlq]
       split
       ·exact ⟨HFY.out.n0, HFY.out.w0⟩
       ·exact ⟨HFY.out.n1, HFY.out.w1⟩⟩
      rw [hlq] at hRq HX hlx2
      obtain ⟨Aq, cq, hvq⟩ := Kd.V_slice hRq
      rw [hvq] at hRq hcq
      have hCq := Kd.V_reads' hRq
      have HCQ := Aside0.mk hCq.2
      have HLX := Aside0.mk hlx2
      clear hfq hRq hlq hvq hCq hlx2
      have wE : wrap64 (E - 16) = E - 16 := sw64 (by have := HEE.out; omega) (by have := HEE.out; omega)
      rcases (by omega : E - 16 < 0 ∨ 0 ≤ E - 16) with hE0 | hE0
      ·have e1 : decide (E - 16 < 0) = true := decide_eq_true hE0
       have HLO2 : Aside0 (lo f q b = 0) := ⟨by rw [HLO.out]; omega⟩
       clear hE0 HLO
       have HLO := HLO2
       clear HLO2
       go_wp2_with (first
        | (go_at_call 17; (with_reducible refine (rfold_call lq lq.length rfl (by have := HLQ.out.1; omega) HLQ.out.2 (bw b) (by have := bfN_in HBB.out.2.1; omega) y.sd HYU.out Aq cq _ HCQ.out.2 HCQ.out.1).mono ?_); rintro e w11 ⟨v, rfl, hv, hb11⟩; have HI2 := Aside0.mk (HI.out.below hb11); rw [HLX.out] at hv; have hv2 := R_up hv (Nat.le_trans HI.out.m HI.out.mw); clear hcq HI hv HCQ hb11; obtain ⟨hcs, hfs, _⟩ := HI2.out.cellq HQQ.out.2; have hI3 := HI2.out.put HQQ.out.2 hv2; have HI4 := Aside0.mk hI3; clear hI3; obtain ⟨Aq, cq, hvv⟩ := Kd.V_slice hv2; rw [HXL.out.1] at hvv; subst hvv; clear hv2))
       clear HI2 hcs hfs hkc hk1
       obtain ⟨wS, hwS⟩ : ∃ x, w11.setCell ⟨w.heap.size + 1 + 1 + 1, q, none⟩ (.slice Aq (bw b) cq) = x := ⟨_, rfl⟩
       rw [hwS] at HI4 ⊢
       clear hwS
       obtain ⟨hcq, _, hV4⟩ := HI4.out.cellq HQQ.out.2
       rw [show (if q = 0 then (if q = 0 then Value.slice Aq (bw b) cq else v0) else (if q = 0 then v1 else Value.slice Aq (bw b) cq)) = Value.slice Aq (bw b) cq by split <;> rfl] at hcq hV4
       rw [show (if q = 0 then (if q = 0 then lx else y.l0) else (if q = 0 then y.l1 else lx)) = lx by split <;> rfl] at hV4
       have HC4 := Aside0.mk (Kd.V_reads' hV4).2
       have HXW : Aside0 (∀ x ∈ lx, ShapePlain.I32 x) := ⟨fun x hx => HXL.out.2 x hx⟩
       clear hV4
       go_wp2_with (first
        | (go_at_call 12; (with_reducible refine (rscale_call _ lx (bw b) HXL.out.1 (by have := bfN_in HBB.out.2.1; omega) HXW.out Aq cq _ (by have h := HC4.out.2; rwa [HXL.out.1] at h) HC4.out.1).mono ?_); rintro e w13 ⟨v, rfl, hv, hb13⟩; have HI5 := Aside0.mk (HI4.out.below hb13); rw [← HLO.out] at hv; obtain ⟨B0, HV0⟩ : ∃ B0, Aside0 (Kd.R (Kd.int .i64) 2 w13 B0 (fun _ => True) v (sc (lo f q b) lx)) := ⟨_, ⟨hv⟩⟩; clear hv hb13 HI4 HC4 hcq; obtain ⟨Ay, cy, hvv⟩ := Kd.R_slice HV0.out; rw [sc_len, HXL.out.1] at hvv; subst hvv))
       have hyl : (sc (lo f q b) lx).length = bw b := by rw [sc_len]; exact HXL.out.1
       obtain ⟨Y, hY⟩ : ∃ Y, sc (lo f q b) lx = Y := ⟨_, rfl⟩
       rw [hY] at hyl HV0
       have HYL := Aside0.mk (And.intro hyl hY)
       obtain ⟨gy, cy2, hform, _⟩ := Kd.R_form HV0.out (by rw [hyl]; have := bfN_in HBB.out.2.1; omega)
       injection hform with hA hnn hcc
       subst hA
       clear hnn hcc hyl hY cy2
       go_loopw [20] (fun iv wr => ∃ (i : Nat) (O : List Int), i ≤ bw b ∧ iv = .int .i64 i ∧ Aside0 (∃ M u0 u1, RI w wr M f O u0 u1 (if q = 0 then lx else y.l0) (if q = 0 then y.l1 else lx)) ∧ Aside0 (Upd (q * 32 + bfN b) i (fun j => ga Y j) y.o O) ∧ Aside0 (Kd.R (Kd.int .i64) 2 wr B0 (fun _ => True) (.slice (some ⟨gy, 0, none⟩) (bw b) cy) Y)) (fun iv _ => ((bw b : Int) - intOf iv).toNat)
       case atStart => exact ⟨0, y.o, by omega, rfl, ⟨_, _, _, HI5.out⟩, ⟨Upd.start _ _ _⟩, HV0⟩
       case round =>
        obtain ⟨i, O, hi, rfl, HI6, HU, HV⟩ := hrel
        clear HI5 HV0
        by_cases ht3 : i < bw b
        ·obtain ⟨M, u0, u1, hI6⟩ := HI6.out
         have hrc := Kd.R_cell (xs := Y) (0 : Int) (by rw [HYL.out.1]; exact HV.out) (i : Int) (by omega) (by rw [HYL.out.1]; omega)
         rw [show rdOf (0 : Int) Y (i : Int) = ga Y i by unfold rdOf ga; rw [Int.toNat_natCast], Int.toNat_natCast] at hrc
         obtain ⟨hck, hfk⟩ := hrc
         obtain ⟨yv, hyv⟩ : ∃ x, ga Y i = x := ⟨_, rfl⟩
         rw [hyv] at hck
         have hbn := bfN_in HBB.out.2.1
         have d3 : decide ((i : Int) < (bw b : Int)) = true := decide_eq_true (by omega)
         have h1 : (0 : Int) ≤ (i : Int) := by omega
         have h2 : (i : Int) < (bw b : Int) := by omega
         have j0 : IntKind.i64.wrap ((bfN b : Int) + (i : Int)) = (bfN b : Int) + (i : Int) := by rw [i64_w]; exact sw64 (by omega) (by omega)
         have j1 : (0 : Int) ≤ (bfN b : Int) + (i : Int) := by omega
         have j2 : (bfN b : Int) + (i : Int) < 32 := by omega
         obtain ⟨j, hj⟩ : ∃ j, ((bfN b : Int) + (i : Int)).toNat = j := ⟨_, rfl⟩
         have HJ : Aside0 (q * 32 + j = q * 32 + bfN b + i ∧ q * 32 + bfN b + i < 64) := ⟨by omega, by have := HQQ.out; omega⟩
         have hko := (blk_cell hI6.out (q * 32 + j)).trans (rowL_at (by rw [hI6.ol]; have := HJ.out; omega))
         have hfo := blk_frozen hI6.out (q * 32 + j)
         have hi16 : (i : Int) < 16 := by omega
         have HIB : Aside0 (i + 1 ≤ bw b) := ⟨ht3⟩
         have HI7 := Aside0.mk (hI6.store (q * 32 + j) yv)
         have HV7 := Aside0.mk (Kd.R_set HV.out hI6.out (by simp [Kd.int, Kd.scalar]) (q * 32 + j) (.int .i64 yv))
         have HU7 : Aside0 (Upd (q * 32 + bfN b) (i + 1) (fun j => ga Y j) y.o (O.set (q * 32 + j) yv)) := ⟨by rw [HJ.out.1]; exact HU.out.step (by rw [HFY.out.o]; exact HJ.out.2) hyv.symm⟩
         clear hi hbn hI6 HI6 HV HU hyv
         go_wp2
         refine wp_region_any (by kernel_rfl) ?_
         change wpAny _ _ _ _ _ _ _ (World.drew _)
         refine zT (v := ?_) 0 rfl ?h ?_
         case h => (intro w1; go_simp; (try with_reducible rfl))
         (try simp only [Act.put, zA1, zA2, zA3])
         refine zT (v := ?_) 1 rfl ?h ?_
         case h => (intro w1; go_simp; (try with_reducible rfl))
         (try simp only [Act.put, zA1, zA2, zA3])
         refine zT (v := ?_) 2 rfl ?h ?_
         case h => (intro w1; go_simp; (try with_reducible rfl))
         (try simp only [Act.put, zA1, zA2, zA3])
         refine zT (v := ?_) 3 rfl ?h ?_
         case h => (intro w1; go_simp; (try with_reducible rfl))
         (try simp only [Act.put, zA1, zA2, zA3])
         refine zT (v := ?_) 4 rfl ?h ?_
         case h => (intro w1; go_simp; (try with_reducible rfl))
         (try simp only [Act.put, zA1, zA2, zA3])
         refine zT (v := ?_) 5 rfl ?h ?_
         case h => (intro w1; go_simp; (try with_reducible rfl))
         (try simp only [Act.put, zA1, zA2, zA3])
         refine zT (v := ?_) 6 rfl ?h ?_
         case h => (intro w1; go_simp; (try with_reducible rfl))
         (try simp only [Act.put, zA1, zA2, zA3])
         refine zT (v := ?_) 8 rfl ?h ?_
         case h => (intro w1; go_simp; (try with_reducible rfl))
         (try simp only [Act.put, zA1, zA2, zA3])
         refine zO 7 rfl fun K hK => ?_
         go_simp
         refine hK _ _ ?_
         clear hK K
         (try simp only [Act.put, zA1, zA2, zA3])
         refine zT (v := ?_) 9 rfl ?h ?_
         case h => (intro w1; go_simp; (try with_reducible rfl))
         (try simp only [Act.put, zA1, zA2, zA3])
         refine zO 10 rfl fun K hK => ?_
         go_simp
         refine hK _ _ ?_
         clear hK K
         (try simp only [Act.put, zA1, zA2, zA3])
         refine wpAny_done (by kernel_rfl) ?_ _
         go_wp2
         go_roundw
         case rel => repeat (first | exact ⟨⟨i + 1, _, HIB.out, congrArg (Value.int .i64) (by omega), ⟨_, _, _, HI7.out.below (drew_self _)⟩, HU7, ⟨Kd.R_drew HV7.out⟩⟩, rfl⟩ | exact ⟨i + 1, _, HIB.out, congrArg (Value.int .i64) (by omega), ⟨_, _, _, HI7.out.below (drew_self _)⟩, HU7, ⟨Kd.R_drew HV7.out⟩⟩ | apply Exists.intro)
         case measure => exact meas_q HIB.out
        ·obtain rfl : i = bw b := by omega
         have d3 : decide ((bw b : Int) < (bw b : Int)) = false := decide_eq_false (by omega)
         have HO : Aside0 (O = spl y.o (q * 32 + bfN b) (sc (lo f q b) lx)) := ⟨by
          have hbn := bfN_in HBB.out.2.1
          have := HQQ.out.2
          rw [HYL.out.2]
          exact HU.out.all (by rw [HFY.out.o]; omega) HYL.out.1 (fun j hj => by unfold ga; rw [List.getD_eq_getElem?_getD, List.getElem?_eq_getElem (by rw [HYL.out.1]; exact hj)]; rfl)⟩
         clear ht3 hi HV HU
         go_wp2
         have hst : spRow f b (q + 1) z = spStep f b q y := by show spStep f b q (spRow f b q z) = _; rw [HY.out]
         have hsd : Value.int .u32 (shp f q b y).2 = Value.int .u32 (spRow f b (q + 1) z).sd := by rw [hst]; rfl
         have hsd2 := hsd
         rw [HX.out] at hsd2
         have HS3 := Aside0.mk hsd2
         have HI8 : Aside0 (∃ M u0 u1, RI w wr M f (spRow f b (q + 1) z).o u0 u1 (spRow f b (q + 1) z).l0 (spRow f b (q + 1) z).l1) := ⟨by
          rw [hst]; unfold spStep; rw [show (shp f q b y).1 = lx from by rw [HX.out]; exact HLX.out, ← HO.out]; exact HI6.out⟩
         clear hst hsd hsd2 HI6
         obtain ⟨M, u0, u1, hI8⟩ := HI8.out
         have HI9 := Aside0.mk hI8
         clear hI8 HI8
         go_roundw
         case rel => repeat (first | exact ⟨⟨q + 1, M, u0, u1, HQQ.out.1, HS3.out, congrArg (Value.int .i64) (by omega), HI9⟩, rfl⟩ | exact ⟨q + 1, M, u0, u1, HQQ.out.1, HS3.out, congrArg (Value.int .i64) (by omega), HI9⟩ | apply Exists.intro)
         case measure => exact meas_q HQQ.out.1
      ·have e1 : decide (E - 16 < 0) = false := decide_eq_false (by omega)
       have HLO2 : Aside0 (lo f q b = E - 16) := ⟨by rw [HLO.out]; omega⟩
       clear hE0 HLO
       have HLO := HLO2
       clear HLO2
       go_wp2_with (first
        | (go_at_call 17; (with_reducible refine (rfold_call lq lq.length rfl (by have := HLQ.out.1; omega) HLQ.out.2 (bw b) (by have := bfN_in HBB.out.2.1; omega) y.sd HYU.out Aq cq _ HCQ.out.2 HCQ.out.1).mono ?_); rintro e w11 ⟨v, rfl, hv, hb11⟩; have HI2 := Aside0.mk (HI.out.below hb11); rw [HLX.out] at hv; have hv2 := R_up hv (Nat.le_trans HI.out.m HI.out.mw); clear hcq HI hv HCQ hb11; obtain ⟨hcs, hfs, _⟩ := HI2.out.cellq HQQ.out.2; have hI3 := HI2.out.put HQQ.out.2 hv2; have HI4 := Aside0.mk hI3; clear hI3; obtain ⟨Aq, cq, hvv⟩ := Kd.V_slice hv2; rw [HXL.out.1] at hvv; subst hvv; clear hv2))
       clear HI2 hcs hfs hkc hk1
       obtain ⟨wS, hwS⟩ : ∃ x, w11.setCell ⟨w.heap.size + 1 + 1 + 1, q, none⟩ (.slice Aq (bw b) cq) = x := ⟨_, rfl⟩
       rw [hwS] at HI4 ⊢
       clear hwS
       obtain ⟨hcq, _, hV4⟩ := HI4.out.cellq HQQ.out.2
       rw [show (if q = 0 then (if q = 0 then Value.slice Aq (bw b) cq else v0) else (if q = 0 then v1 else Value.slice Aq (bw b) cq)) = Value.slice Aq (bw b) cq by split <;> rfl] at hcq hV4
       rw [show (if q = 0 then (if q = 0 then lx else y.l0) else (if q = 0 then y.l1 else lx)) = lx by split <;> rfl] at hV4
       have HC4 := Aside0.mk (Kd.V_reads' hV4).2
       have HXW : Aside0 (∀ x ∈ lx, ShapePlain.I32 x) := ⟨fun x hx => HXL.out.2 x hx⟩
       clear hV4
       go_wp2_with (first
        | (go_at_call 12; (with_reducible refine (rscale_call _ lx (bw b) HXL.out.1 (by have := bfN_in HBB.out.2.1; omega) HXW.out Aq cq _ (by have h := HC4.out.2; rwa [HXL.out.1] at h) HC4.out.1).mono ?_); rintro e w13 ⟨v, rfl, hv, hb13⟩; have HI5 := Aside0.mk (HI4.out.below hb13); rw [← HLO.out] at hv; obtain ⟨B0, HV0⟩ : ∃ B0, Aside0 (Kd.R (Kd.int .i64) 2 w13 B0 (fun _ => True) v (sc (lo f q b) lx)) := ⟨_, ⟨hv⟩⟩; clear hv hb13 HI4 HC4 hcq; obtain ⟨Ay, cy, hvv⟩ := Kd.R_slice HV0.out; rw [sc_len, HXL.out.1] at hvv; subst hvv))
       have hyl : (sc (lo f q b) lx).length = bw b := by rw [sc_len]; exact HXL.out.1
       obtain ⟨Y, hY⟩ : ∃ Y, sc (lo f q b) lx = Y := ⟨_, rfl⟩
       rw [hY] at hyl HV0
       have HYL := Aside0.mk (And.intro hyl hY)
       obtain ⟨gy, cy2, hform, _⟩ := Kd.R_form HV0.out (by rw [hyl]; have := bfN_in HBB.out.2.1; omega)
       injection hform with hA hnn hcc
       subst hA
       clear hnn hcc hyl hY cy2
       go_loopw [20] (fun iv wr => ∃ (i : Nat) (O : List Int), i ≤ bw b ∧ iv = .int .i64 i ∧ Aside0 (∃ M u0 u1, RI w wr M f O u0 u1 (if q = 0 then lx else y.l0) (if q = 0 then y.l1 else lx)) ∧ Aside0 (Upd (q * 32 + bfN b) i (fun j => ga Y j) y.o O) ∧ Aside0 (Kd.R (Kd.int .i64) 2 wr B0 (fun _ => True) (.slice (some ⟨gy, 0, none⟩) (bw b) cy) Y)) (fun iv _ => ((bw b : Int) - intOf iv).toNat)
       case atStart => exact ⟨0, y.o, by omega, rfl, ⟨_, _, _, HI5.out⟩, ⟨Upd.start _ _ _⟩, HV0⟩
       case round =>
        obtain ⟨i, O, hi, rfl, HI6, HU, HV⟩ := hrel
        clear HI5 HV0
        by_cases ht3 : i < bw b
        ·obtain ⟨M, u0, u1, hI6⟩ := HI6.out
         have hrc := Kd.R_cell (xs := Y) (0 : Int) (by rw [HYL.out.1]; exact HV.out) (i : Int) (by omega) (by rw [HYL.out.1]; omega)
         rw [show rdOf (0 : Int) Y (i : Int) = ga Y i by unfold rdOf ga; rw [Int.toNat_natCast], Int.toNat_natCast] at hrc
         obtain ⟨hck, hfk⟩ := hrc
         obtain ⟨yv, hyv⟩ : ∃ x, ga Y i = x := ⟨_, rfl⟩
         rw [hyv] at hck
         have hbn := bfN_in HBB.out.2.1
         have d3 : decide ((i : Int) < (bw b : Int)) = true := decide_eq_true (by omega)
         have h1 : (0 : Int) ≤ (i : Int) := by omega
         have h2 : (i : Int) < (bw b : Int) := by omega
         have j0 : IntKind.i64.wrap ((bfN b : Int) + (i : Int)) = (bfN b : Int) + (i : Int) := by rw [i64_w]; exact sw64 (by omega) (by omega)
         have j1 : (0 : Int) ≤ (bfN b : Int) + (i : Int) := by omega
         have j2 : (bfN b : Int) + (i : Int) < 32 := by omega
         obtain ⟨j, hj⟩ : ∃ j, ((bfN b : Int) + (i : Int)).toNat = j := ⟨_, rfl⟩
         have HJ : Aside0 (q * 32 + j = q * 32 + bfN b + i ∧ q * 32 + bfN b + i < 64) := ⟨by omega, by have := HQQ.out; omega⟩
         have hko := (blk_cell hI6.out (q * 32 + j)).trans (rowL_at (by rw [hI6.ol]; have := HJ.out; omega))
         have hfo := blk_frozen hI6.out (q * 32 + j)
         have hi16 : (i : Int) < 16 := by omega
         have HIB : Aside0 (i + 1 ≤ bw b) := ⟨ht3⟩
         have HI7 := Aside0.mk (hI6.store (q * 32 + j) yv)
         have HV7 := Aside0.mk (Kd.R_set HV.out hI6.out (by simp [Kd.int, Kd.scalar]) (q * 32 + j) (.int .i64 yv))
         have HU7 : Aside0 (Upd (q * 32 + bfN b) (i + 1) (fun j => ga Y j) y.o (O.set (q * 32 + j) yv)) := ⟨by rw [HJ.out.1]; exact HU.out.step (by rw [HFY.out.o]; exact HJ.out.2) hyv.symm⟩
         clear hi hbn hI6 HI6 HV HU hyv
         go_wp2
         refine wp_region_any (by kernel_rfl) ?_
         change wpAny _ _ _ _ _ _ _ (World.drew _)
         refine zT (v := ?_) 0 rfl ?h ?_
         case h => (intro w1; go_simp; (try with_reducible rfl))
         (try simp only [Act.put, zA1, zA2, zA3])
         refine zT (v := ?_) 1 rfl ?h ?_
         case h => (intro w1; go_simp; (try with_reducible rfl))
         (try simp only [Act.put, zA1, zA2, zA3])
         refine zT (v := ?_) 2 rfl ?h ?_
         case h => (intro w1; go_simp; (try with_reducible rfl))
         (try simp only [Act.put, zA1, zA2, zA3])
         refine zT (v := ?_) 3 rfl ?h ?_
         case h => (intro w1; go_simp; (try with_reducible rfl))
         (try simp only [Act.put, zA1, zA2, zA3])
         refine zT (v := ?_) 4 rfl ?h ?_
         case h => (intro w1; go_simp; (try with_reducible rfl))
         (try simp only [Act.put, zA1, zA2, zA3])
         refine zT (v := ?_) 5 rfl ?h ?_
         case h => (intro w1; go_simp; (try with_reducible rfl))
         (try simp only [Act.put, zA1, zA2, zA3])
         refine zT (v := ?_) 6 rfl ?h ?_
         case h => (intro w1; go_simp; (try with_reducible rfl))
         (try simp only [Act.put, zA1, zA2, zA3])
         refine zT (v := ?_) 8 rfl ?h ?_
         case h => (intro w1; go_simp; (try with_reducible rfl))
         (try simp only [Act.put, zA1, zA2, zA3])
         refine zO 7 rfl fun K hK => ?_
         go_simp
         refine hK _ _ ?_
         clear hK K
         (try simp only [Act.put, zA1, zA2, zA3])
         refine zT (v := ?_) 9 rfl ?h ?_
         case h => (intro w1; go_simp; (try with_reducible rfl))
         (try simp only [Act.put, zA1, zA2, zA3])
         refine zO 10 rfl fun K hK => ?_
         go_simp
         refine hK _ _ ?_
         clear hK K
         (try simp only [Act.put, zA1, zA2, zA3])
         refine wpAny_done (by kernel_rfl) ?_ _
         go_wp2
         go_roundw
         case rel => repeat (first | exact ⟨⟨i + 1, _, HIB.out, congrArg (Value.int .i64) (by omega), ⟨_, _, _, HI7.out.below (drew_self _)⟩, HU7, ⟨Kd.R_drew HV7.out⟩⟩, rfl⟩ | exact ⟨i + 1, _, HIB.out, congrArg (Value.int .i64) (by omega), ⟨_, _, _, HI7.out.below (drew_self _)⟩, HU7, ⟨Kd.R_drew HV7.out⟩⟩ | apply Exists.intro)
         case measure => exact meas_q HIB.out
        ·obtain rfl : i = bw b := by omega
         have d3 : decide ((bw b : Int) < (bw b : Int)) = false := decide_eq_false (by omega)
         have HO : Aside0 (O = spl y.o (q * 32 + bfN b) (sc (lo f q b) lx)) := ⟨by
          have hbn := bfN_in HBB.out.2.1
          have := HQQ.out.2
          rw [HYL.out.2]
          exact HU.out.all (by rw [HFY.out.o]; omega) HYL.out.1 (fun j hj => by unfold ga; rw [List.getD_eq_getElem?_getD, List.getElem?_eq_getElem (by rw [HYL.out.1]; exact hj)]; rfl)⟩
         clear ht3 hi HV HU
         go_wp2
         have hst : spRow f b (q + 1) z = spStep f b q y := by show spStep f b q (spRow f b q z) = _; rw [HY.out]
         have hsd : Value.int .u32 (shp f q b y).2 = Value.int .u32 (spRow f b (q + 1) z).sd := by rw [hst]; rfl
         have hsd2 := hsd
         rw [HX.out] at hsd2
         have HS3 := Aside0.mk hsd2
         have HI8 : Aside0 (∃ M u0 u1, RI w wr M f (spRow f b (q + 1) z).o u0 u1 (spRow f b (q + 1) z).l0 (spRow f b (q + 1) z).l1) := ⟨by
          rw [hst]; unfold spStep; rw [show (shp f q b y).1 = lx from by rw [HX.out]; exact HLX.out, ← HO.out]; exact HI6.out⟩
         clear hst hsd hsd2 HI6
         obtain ⟨M, u0, u1, hI8⟩ := HI8.out
         have HI9 := Aside0.mk hI8
         clear hI8 HI8
         go_roundw
         case rel => repeat (first | exact ⟨⟨q + 1, M, u0, u1, HQQ.out.1, HS3.out, congrArg (Value.int .i64) (by omega), HI9⟩, rfl⟩ | exact ⟨q + 1, M, u0, u1, HQQ.out.1, HS3.out, congrArg (Value.int .i64) (by omega), HI9⟩ | apply Exists.intro)
         case measure => exact meas_q HQQ.out.1
    ·obtain rfl : q = c := by omega
     have d2 : decide ((q : Int) < (q : Int)) = false := decide_eq_false (by omega)
     clear ht hq
     have hst : spAll f q (b + 1) (sp0 sd) = spRow f b q z := by show spRow f b q (spAll f q b (sp0 sd)) = _; rw [HZ.out]
     rw [← hst] at HI
     have hsd : Value.int .u32 (spRow f b q z).sd = Value.int .u32 (spAll f q (b + 1) (sp0 sd)).sd := by rw [hst]
     have HSD2 := Aside0.mk hsd
     clear hst hsd
     go_wp2
     go_roundw
     case rel => repeat (first | exact ⟨⟨b + 1, M, v0, v1, HBB.out.1, HSD2.out, congrArg (Value.int .i64) (by omega), HI⟩, rfl⟩ | exact ⟨b + 1, M, v0, v1, HBB.out.1, HSD2.out, congrArg (Value.int .i64) (by omega), HI⟩ | apply Exists.intro)
     case measure => exact meas_b HBB.out.1
  ·obtain rfl : b = s + 3 := by omega
   have d1 : decide (((s + 3 : Nat) : Int) < ((s + 3 : Nat) : Int)) = false := decide_eq_false (by omega)
   clear ht hb
   go_upto_region 29 with (first
    | (go_at_call 47; (with_reducible refine (HN.out _).mono ?_); rintro e w1 ⟨rfl, hb1⟩; have HI1 := Aside0.mk (HI.out.below hb1); clear HI hb1; have HI := HI1; clear HI1))
   obtain ⟨Z, hz, hrs⟩ := HI.out.rs
   have HRS := Aside0.mk hrs
   have HZL := Aside0.mk hz
   have HOL := Aside0.mk HI.out.ol
   clear hz hrs
   go_wp2_with (first
    | (refine wpList_load_row rfl 76 (.tmp 10) rfl (w.heap.size + 1 + 1) rfl 76 (rowL (spAll f c (s + 3) (sp0 sd)).o) (0, 0) _ HI.out.out Tryd.underlying76 rfl (by rw [rowL_sz, HOL.out]; kernel_rfl) ?_)
    | (refine wpList_store_row rfl 76 (.tmp 8) (.tmp 119) rfl (w.heap.size + 1) (rowL (spAll f c (s + 3) (sp0 sd)).o) rfl rfl 76 _ HRS.out (by rw [rowL_sz, HOL.out]; kernel_rfl) (by rw [rowL_sz, rowL_sz, HOL.out, HZL.out]) (rowL_one _) ?_))
   refine bodyPost_ret (results_cell_tmp rfl _ _ (w.heap.size + 1) 76 _ _ _ _ rfl (setRow_heap _ _ _ _ _ _ HRS.out) Tryd.underlying76 rfl (by rw [rowL_sz, HOL.out]; kernel_rfl) rfl) rfl ?_
   exact ⟨rfl, below_setRow HI.out.b (by omega) _⟩
open Go.Proofs.YtjpnbdofbkoddaaDoor.NoisePlain (fo fo_len fo_in hd lcg nz fz fv em ch)
open Go.Proofs.YtjpnbdofbkoddaaDoor.Spread (sp sp_len tn tn_len ta tb s32 rnd rnd_is upw dnw upw_len dnw_len co si)
def shc (a b : Int) (L : List Int) : Array Value := (.int .i64 a :: .int .i64 b :: L.map (Value.int .i32)).toArray
theorem shc_at {a b : Int} {L : List Int} {j : Nat} (h : j < L.length) : (shc a b L)[2 + j]? = some (.int .i32 (ga L j)) := by
 rw [Nat.add_comm 2 j]
 simp [shc, ga, List.getD, h]
theorem shc_set (a b : Int) (L : List Int) (j : Nat) (v : Int) : (shc a b L).setIfInBounds (2 + j) (.int .i32 v) = shc a b (L.set j v) := by
 rw [Nat.add_comm 2 j]
 simp [shc]
abbrev ShB (w : World) (g : Nat) (a b : Int) (L : List Int) : Prop := w.heap[g]? = some (.cells (shc a b L) 120 (0, 0))
section
variable {w w1 : World} {g : Nat} {a b : Int} {L : List Int}
theorem shb_cell (h : ShB w g a b L) {j k : Nat} (hj : j < L.length) (hk : k = 2 + j) : w.cell? ⟨g, k, none⟩ = some (.int .i32 (ga L j)) := by
 subst hk
 exact (blk_cell h _).trans (shc_at hj)
theorem shb_put (h : ShB w g a b L) {j k : Nat} (hk : k = 2 + j) (v : Int) : ShB (w.setCell ⟨g, k, none⟩ (.int .i32 v)) g a b (L.set j v) := by
 subst hk
 exact blk_put h _ _ (shc_set a b L j v)
theorem shb_C (h : ShB w g a b L) {o m k : Nat} {l : List Int} (hk : k = 2 + o) (hm : l.length = m) (hom : o + m ≤ L.length) (hl64 : L.length = 64) (hl : ∀ j, j < m → L[o + j]? = l[j]?) : Kd.C (Kd.int .i32) w (some ⟨g, k, none⟩) m l := by
 refine ⟨hm, by omega, fun _ => ⟨_, rfl, fun j p hp => ⟨[.int .i32 p], rfl, rfl, fun i u hu => ?_⟩⟩⟩
 have hj : j < m := by
  have := (List.getElem?_eq_some_iff.1 hp).1
  rwa [hm] at this
 have hi : i = 0 := by
  have := (List.getElem?_eq_some_iff.1 hu).1
  simp at this; omega
 subst hi
 have hu2 : u = .int .i32 p := by simpa using hu.symm
 subst hu2
 rw [Addr.add_mid]
 have hp2 : p = ga L (o + j) := by
  unfold ga
  rw [List.getD_eq_getElem?_getD, hl j hj, hp]
  rfl
 rw [hp2]
 exact shb_cell h (by omega) (by show k + (j * 1 + 0) = _; omega)
end
def sl (L : List Int) (o n : Nat) : List Int := (L.drop o).take n
theorem sl_len {L : List Int} {o n : Nat} (h : o + n ≤ L.length) : (sl L o n).length = n := by simp [sl]; omega
theorem sl_at (L : List Int) (o n : Nat) {j : Nat} (hj : j < n) : (sl L o n)[j]? = L[o + j]? := by
 unfold sl
 rw [List.getElem?_take_of_lt hj, List.getElem?_drop]
theorem spl_at {O y : List Int} {o : Nat} (h : o + y.length ≤ O.length) (j : Nat) : (spl O o y)[j]? = if j < o then O[j]? else if j < o + y.length then y[j - o]? else O[j]? := by
 unfold spl
 rw [List.getElem?_append, List.length_take, Nat.min_eq_left (by omega)]
 by_cases h1 : j < o
 ·rw [if_pos h1, if_pos h1, List.getElem?_take_of_lt h1]
 ·rw [if_neg h1, if_neg h1, List.getElem?_append]
  by_cases h2 : j < o + y.length
  ·rw [if_pos (by omega), if_pos h2]
  ·rw [if_neg (by omega), if_neg h2, List.getElem?_drop]; congr 1; omega
theorem sl_spl {O y : List Int} {o : Nat} (h : o + y.length ≤ O.length) : sl (spl O o y) o y.length = y := by
 apply List.ext_getElem?
 intro j
 by_cases hj : j < y.length
 ·rw [sl_at _ _ _ hj, spl_at h, if_neg (by omega), if_pos (by omega)]; congr 1; omega
 ·rw [List.getElem?_eq_none (by rw [sl_len (by rw [spl_len h]; exact h)]; omega), List.getElem?_eq_none (by omega)]
theorem sl_far {O y : List Int} {o : Nat} (h : o + y.length ≤ O.length) {o2 n2 : Nat} (hd : o2 + n2 ≤ o ∨ o + y.length ≤ o2) : sl (spl O o y) o2 n2 = sl O o2 n2 := by
 apply List.ext_getElem?
 intro j
 by_cases hj : j < n2
 ·rw [sl_at _ _ _ hj, sl_at _ _ _ hj, spl_at h]
  rcases hd with hd | hd
  ·rw [if_pos (by omega)]
  ·rw [if_neg (by omega), if_neg (by omega)]
 ·rw [List.getElem?_eq_none (by simp [sl]; omega), List.getElem?_eq_none (by simp [sl]; omega)]
theorem spl_set {O x : List Int} {o i : Nat} (h : o + x.length ≤ O.length) (hi : i < x.length) (v : Int) : (spl O o x).set (o + i) v = spl O o (x.set i v) := by
 apply List.ext_getElem?
 intro j
 rw [List.getElem?_set, spl_len h, spl_at (O := O) (y := x.set i v) (by rw [List.length_set]; exact h), spl_at (O := O) (y := x) h, List.length_set, List.getElem?_set]
 by_cases e : o + i = j
 ·subst e
  rw [if_pos rfl, if_pos (by omega), if_neg (by omega), if_pos (by omega), if_pos (by omega), if_pos hi]
 ·rw [if_neg e]
  by_cases h1 : j < o
  ·rw [if_pos h1, if_pos h1]
  ·rw [if_neg h1, if_neg h1]
   by_cases h2 : j < o + x.length
   ·rw [if_pos h2, if_pos h2, if_neg (by omega)]
   ·rw [if_neg h2, if_neg h2]
theorem spl_rd {O x : List Int} {o i : Nat} (h : o + x.length ≤ O.length) (hi : i < x.length) : ga (spl O o x) (o + i) = rd x (i : Int) := by
 unfold ga rd
 rw [List.getD_eq_getElem?_getD, List.getD_eq_getElem?_getD, spl_at h, if_neg (by omega), if_pos (by omega), Int.toNat_natCast]
 congr 2; omega
theorem round_call (x : Int) (w : World) : Calls Tryd.prog 100 #[.int .i64 x, .int .i64 15] w fun e w' => e = .returned (.int .i64 (rnd x)) ∧ Below w.heap.size w w' :=
 (OShapeSeeds.fix_Round.calls x 15 _ w (rnd_is x)).mono (by rintro e w' ⟨he, hd⟩; exact ⟨he, by first | exact hd | exact hd.below⟩)
theorem sat_call (x : Int) (w : World) : Calls Tryd.prog 43 #[.int .i64 x] w fun e w' => e = .returned (.int .i32 (s32 x)) ∧ Below w.heap.size w w' :=
 (OShapeSeeds.fix_Sat32.calls x _ w rfl).mono (by rintro e w' ⟨he, hd⟩; exact ⟨he, by first | exact hd | exact hd.below⟩)
abbrev Ft (g : Nat) (w w' : World) : Prop := Foot (fun k => k = g) w w'
set_option maxHeartbeats 4000000 in
set_option maxRecDepth 100000 in
theorem turn_mid (c s : Int) (i o k n cap g : Nat) (a b : Int) (L xs : List Int) (w0 w : World) (hk : k = 2 + o) (hn : xs.length = n) (hon : o + n ≤ L.length) (hl : L.length = 64) (hi : i + 1 < n) (hf : Ft g w0 w) (hg : ShB w g a b (spl L o xs)) :
 Calls Tryd.prog 91 #[.slice (some ⟨g, k, none⟩) n cap, .int .i64 i, .int .i64 c, .int .i64 s] w fun e w' => e = .returned (.tuple #[]) ∧ ShB w' g a b (spl L o (tn c s i xs)) ∧ Ft g w0 w' := by
 have hsl : (spl L o xs).length = 64 := by rw [spl_len (by omega)]; exact hl
 obtain ⟨P, hP⟩ : ∃ x, rd xs (i : Int) = x := ⟨_, rfl⟩
 obtain ⟨Q, hQ⟩ : ∃ x, rd xs ((i : Int) + 1) = x := ⟨_, rfl⟩
 have hQ2 : rd xs (((i + 1 : Nat)) : Int) = Q := by rw [← hQ]; congr 1
 have HC1 : Aside0 (∀ w, ShB w g a b (spl L o xs) → w.cell? ⟨g, k + i, none⟩ = some (.int .i32 P)) := ⟨fun w h => by
  rw [shb_cell h (j := o + i) (by omega) (by omega), spl_rd (by omega) (by omega), hP]⟩
 have HC2 : Aside0 (∀ w, ShB w g a b (spl L o xs) → w.cell? ⟨g, k + (i + 1), none⟩ = some (.int .i32 Q)) := ⟨fun w h => by
  rw [shb_cell h (j := o + (i + 1)) (by omega) (by omega), spl_rd (by omega) (by omega), hQ2]⟩
 have HC3 : Aside0 (∀ w, ShB w g a b (spl L o (xs.set i (ta c s P Q))) → w.cell? ⟨g, k + (i + 1), none⟩ = some (.int .i32 Q)) := ⟨fun w h => by
  have hs : (xs.set i (ta c s P Q)).length = n := by rw [List.length_set]; exact hn
  rw [shb_cell h (j := o + (i + 1)) (by rw [spl_len (by omega)]; omega) (by omega), spl_rd (by omega) (by omega)]
  unfold rd
  rw [List.getD_eq_getElem?_getD, List.getElem?_set, if_neg (by omega), ← List.getD_eq_getElem?_getD]
  show some (Value.int .i32 (rd xs (((i + 1 : Nat)) : Int))) = _
  rw [hQ2]⟩
 have HP1 : Aside0 (∀ w, ShB w g a b (spl L o xs) → ShB (w.setCell ⟨g, k + i, none⟩ (.int .i32 (ta c s P Q))) g a b (spl L o (xs.set i (ta c s P Q)))) := ⟨fun w h => by
  rw [← spl_set (by omega) (by omega)]; exact shb_put h (by omega) _⟩
 have HP2 : Aside0 (∀ w, ShB w g a b (spl L o (xs.set i (ta c s P Q))) → ShB (w.setCell ⟨g, k + (i + 1), none⟩ (.int .i32 (tb c s P Q))) g a b (spl L o (tn c s i xs))) := ⟨fun w h => by
  have e : tn c s i xs = (xs.set i (ta c s P Q)).set (i + 1) (tb c s P Q) := by unfold tn; rw [hP, hQ]
  rw [e, ← spl_set (by rw [List.length_set]; omega) (by rw [List.length_set]; omega)]; exact shb_put h (by omega) _⟩
 have HG := Aside0.mk hg
 have HF := Aside0.mk hf
 have i0 : (0 : Int) ≤ (i : Int) := by omega
 have i1 : (i : Int) + 1 < (n : Int) := by omega
 have i2 : (i : Int) < (n : Int) := by omega
 have i4 : (i : Int) < 64 := by omega
 have i3 : ((i : Int) + 1).toNat = i + 1 := by omega
 have i5 : (0 : Int) ≤ (i : Int) + 1 := by omega
 have j0 : IntKind.i64.wrap ((i : Int) + 1) = (i : Int) + 1 := by rw [i64_w]; exact sw64 (by omega) (by omega)
 clear hk hn hon hl hi hg hf hsl hP hQ hQ2
 obtain ⟨PA, hPA⟩ : ∃ x, wrap64 P = x := ⟨_, rfl⟩
 obtain ⟨QA, hQA⟩ : ∃ x, wrap64 Q = x := ⟨_, rfl⟩
 obtain ⟨m1, hm1⟩ : ∃ x, wrap64 (c * PA) = x := ⟨_, rfl⟩
 obtain ⟨m2, hm2⟩ : ∃ x, wrap64 (s * QA) = x := ⟨_, rfl⟩
 obtain ⟨m3, hm3⟩ : ∃ x, wrap64 (s * PA) = x := ⟨_, rfl⟩
 obtain ⟨m4, hm4⟩ : ∃ x, wrap64 (c * QA) = x := ⟨_, rfl⟩
 obtain ⟨m5, hm5⟩ : ∃ x, wrap64 (m1 - m2) = x := ⟨_, rfl⟩
 obtain ⟨m6, hm6⟩ : ∃ x, wrap64 (m3 + m4) = x := ⟨_, rfl⟩
 have hta : ta c s P Q = s32 (rnd m5) := by unfold ta; rw [hPA, hQA, hm1, hm2, hm5]
 have htb : tb c s P Q = s32 (rnd m6) := by unfold tb; rw [hPA, hQA, hm3, hm4, hm6]
 rw [hta] at HC3 HP1 HP2
 rw [htb] at HP2
 obtain ⟨x5, hx5⟩ : ∃ x, s32 (rnd m5) = x := ⟨_, rfl⟩
 obtain ⟨x6, hx6⟩ : ∃ x, s32 (rnd m6) = x := ⟨_, rfl⟩
 have HS5 : Aside0 (∀ w, Calls Tryd.prog 43 #[.int .i64 (rnd m5)] w fun e w' => e = .returned (.int .i32 x5) ∧ Below w.heap.size w w') := ⟨by rw [← hx5]; exact sat_call _⟩
 have HS6 : Aside0 (∀ w, Calls Tryd.prog 43 #[.int .i64 (rnd m6)] w fun e w' => e = .returned (.int .i32 x6) ∧ Below w.heap.size w w') := ⟨by rw [← hx6]; exact sat_call _⟩
 have HR5 := Aside0.mk (round_call m5)
 have HR6 := Aside0.mk (round_call m6)
 rw [hx5] at HC3 HP1 HP2
 rw [hx6] at HP2
 generalize rnd m5 = r5 at *
 generalize rnd m6 = r6 at *
 have gPA : IntKind.i64.wrap P = PA := by rw [i64_w]; exact hPA
 have gQA : IntKind.i64.wrap Q = QA := by rw [i64_w]; exact hQA
 clear hta htb hx5 hx6
 go_enter Tryd.func91, Tryd.ntmps91
 go_wp2
 refine wp_region_held_drew (S := (fun w1 => ShB w1 g a b (spl L o xs))) (by kernel_rfl) ?hS0 (fun hHeld => ?_)
 case hS0 => exact blk_below HG.out (drew_self _)
 refine zTH (v := ?_) 0 rfl hHeld ?h ?_
 case h => (intro w1 h1; go_simp; (try with_reducible rfl))
 (try simp only [Act.put, zA1, zA2, zA3])
 refine zTH (v := ?_) 1 rfl hHeld ?h ?_
 case h => (intro w1 h1; go_simp; (try with_reducible rfl))
 (try simp only [Act.put, zA1, zA2, zA3])
 refine zTH (v := ?_) 2 rfl hHeld ?h ?_
 case h => (intro w1 h1; go_simp; (try with_reducible rfl))
 (try simp only [Act.put, zA1, zA2, zA3])
 refine zTH (v := ?_) 3 rfl hHeld ?h ?_
 case h => (intro w1 h1; have h1a := HC1.out _ h1; go_simp; (try with_reducible rfl))
 (try simp only [Act.put, zA1, zA2, zA3])
 refine zTH (v := ?_) 4 rfl hHeld ?h ?_
 case h => (intro w1 h1; go_simp; (try with_reducible rfl))
 (try simp only [Act.put, zA1, zA2, zA3])
 refine zTH (v := ?_) 11 rfl hHeld ?h ?_
 case h => (intro w1 h1; go_simp; (try with_reducible rfl))
 (try simp only [Act.put, zA1, zA2, zA3])
 refine zTH (v := ?_) 5 rfl hHeld ?h ?_
 case h => (intro w1 h1; go_simp; (try with_reducible rfl))
 (try simp only [Act.put, zA1, zA2, zA3])
 refine zTH (v := ?_) 6 rfl hHeld ?h ?_
 case h => (intro w1 h1; go_simp; (try with_reducible rfl))
 (try simp only [Act.put, zA1, zA2, zA3])
 refine zTH (v := ?_) 7 rfl hHeld ?h ?_
 case h => (intro w1 h1; go_simp; (try with_reducible rfl))
 (try simp only [Act.put, zA1, zA2, zA3])
 refine zTH (v := ?_) 8 rfl hHeld ?h ?_
 case h => (intro w1 h1; go_simp; (try with_reducible rfl))
 (try simp only [Act.put, zA1, zA2, zA3])
 refine zTH (v := ?_) 9 rfl hHeld ?h ?_
 case h => (intro w1 h1; have h1a := HC2.out _ h1; go_simp; (try with_reducible rfl))
 (try simp only [Act.put, zA1, zA2, zA3])
 refine zTH (v := ?_) 10 rfl hHeld ?h ?_
 case h => (intro w1 h1; go_simp; (try with_reducible rfl))
 (try simp only [Act.put, zA1, zA2, zA3])
 refine zTH (v := ?_) 12 rfl hHeld ?h ?_
 case h => (intro w1 h1; go_simp; (try with_reducible rfl))
 (try simp only [Act.put, zA1, zA2, zA3])
 refine wpAnyH_done (by kernel_rfl) ?_ _
 have HG1 := Aside0.mk hHeld
 have HF1 := Aside0.mk (HF.out.step (drew_self _))
 clear HG HF hHeld
 have HG := HG1
 have HF := HF1
 clear HG1 HF1
 have HM := Aside0.mk (And.intro gPA gQA)
 clear gPA gQA hPA hQA
 go_wp2_with (first
  | (go_at_call 100; (with_reducible refine (HR5.out _).mono ?_); rintro e w1 ⟨rfl, hb1⟩; have HG1 := Aside0.mk (blk_below HG.out hb1); have HF1 := Aside0.mk (HF.out.step hb1); clear HG HF hb1; have HG := HG1; have HF := HF1; clear HG1 HF1)
  | (go_at_call 43; (with_reducible refine (HS5.out _).mono ?_); rintro e w2 ⟨rfl, hb2⟩; have HG1 := Aside0.mk (blk_below HG.out hb2); have HF1 := Aside0.mk (HF.out.step hb2); clear HG HF hb2; have hc := HC1.out _ HG1.out; have hf := blk_frozen HG1.out (k + i); have HG := Aside0.mk (HP1.out _ HG1.out); have HF := Aside0.mk (HF1.out.set_ (p := ⟨g, k + i, none⟩) rfl (.int .i32 x5)); clear HG1 HF1 HR5 HS5)
  | (go_at_call 100; (with_reducible refine (HR6.out _).mono ?_); rintro e w3 ⟨rfl, hb1⟩; have HG1 := Aside0.mk (blk_below HG.out hb1); have HF1 := Aside0.mk (HF.out.step hb1); clear HG HF hb1 hc hf; have HG := HG1; have HF := HF1; clear HG1 HF1)
  | (go_at_call 43; (with_reducible refine (HS6.out _).mono ?_); rintro e w4 ⟨rfl, hb2⟩; have HG1 := Aside0.mk (blk_below HG.out hb2); have HF1 := Aside0.mk (HF.out.step hb2); clear HG HF hb2; have hc := HC3.out _ HG1.out; have hf := blk_frozen HG1.out (k + (i + 1)); have HG := Aside0.mk (HP2.out _ HG1.out); have HF := Aside0.mk (HF1.out.set_ (p := ⟨g, k + (i + 1), none⟩) rfl (.int .i32 x6)); clear HG1 HF1 HR6 HS6))
 first | go_end0 | ((try simp only [Exit.inBlock, Exit.then]); refine bodyPost_ret (results_none rfl _ _ _) rfl ?_)
 exact ⟨rfl, HG.out, HF.out⟩
open Go.Proofs.YtjpnbdofbkoddaaDoor.Spread (sp sp_len tn tn_len ta tb rnd rnd_is upw dnw upw_len dnw_len co si angle_any)
theorem in_no_mid (x : Int) (n cap g k : Nat) (a b : Int) (L : List Int) (w0 w : World) (hf : Ft g w0 w) (hg : ShB w g a b L) (hL : Spread.Laid w) (h0 : si x = 0) :
 Calls Tryd.prog 68 #[.slice (some ⟨g, k, none⟩) n cap, .int .i64 x] w fun e w' => e = .returned (.tuple #[]) ∧ ShB w' g a b L ∧ Ft g w0 w' := by
 have HA := Aside0.mk (fun w hL => h0 ▸ angle_any x w hL : ∀ w, Spread.Laid w → Calls Tryd.prog 90 #[.int .i64 x] w fun e w' => e = .returned (.tuple #[.int .i64 (co x), .int .i64 0]) ∧ Below w.heap.size w w')
 have HL := Aside0.mk hL
 have HG := Aside0.mk hg
 have HF := Aside0.mk hf
 clear hL hg hf h0
 go_enter Tryd.func68, Tryd.ntmps68
 go_wp2_with (first | (go_at_call 90; (with_reducible refine (HA.out _ HL.out).mono ?_); rintro e w1 ⟨rfl, hb⟩; have HG1 := Aside0.mk (blk_below HG.out hb); have HF1 := Aside0.mk (HF.out.step hb); clear HG HF hb; have HG := HG1; have HF := HF1; clear HG1 HF1))
 first | go_end0 | ((try simp only [Exit.inBlock, Exit.then]); refine bodyPost_ret (results_none rfl _ _ _) rfl ?_)
 exact ⟨rfl, HG.out, HF.out⟩
set_option maxHeartbeats 2000000 in
set_option maxRecDepth 100000 in
theorem in_yes_mid (c s : Int) (x : Int) (o k n cap g : Nat) (a b : Int) (L xs : List Int) (w0 w : World) (hk : k = 2 + o) (hn : xs.length = n) (hon : o + n ≤ L.length) (hl : L.length = 64) (hf : Ft g w0 w) (hg : ShB w g a b (spl L o xs)) (hL : Spread.Laid w) (h0 : s ≠ 0)
 (ha : ∀ w, Spread.Laid w → Calls Tryd.prog 90 #[.int .i64 x] w fun e w' => e = .returned (.tuple #[.int .i64 c, .int .i64 s]) ∧ Below w.heap.size w w') :
 Calls Tryd.prog 68 #[.slice (some ⟨g, k, none⟩) n cap, .int .i64 x] w fun e w' => e = .returned (.tuple #[]) ∧ ShB w' g a b (spl L o (dnw c s (n - 2) (upw c s (n - 1) 0 xs))) ∧ Ft g w0 w' := by
 have HA := Aside0.mk ha
 have HL := Aside0.mk hL
 have HG := Aside0.mk hg
 have HF := Aside0.mk hf
 have HN := Aside0.mk hn
 have HT : Aside0 (∀ (i : Nat) (cur : List Int) (w : World), cur.length = n → i + 1 < n → Ft g w0 w → ShB w g a b (spl L o cur) → Calls Tryd.prog 91 #[.slice (some ⟨g, k, none⟩) n cap, .int .i64 i, .int .i64 c, .int .i64 s] w fun e w' => e = .returned (.tuple #[]) ∧ ShB w' g a b (spl L o (tn c s i cur)) ∧ Ft g w0 w') :=
  ⟨fun i cur w h1 h2 h3 h4 => turn_mid c s i o k n cap g a b L cur w0 w hk h1 hon hl h2 h3 h4⟩
 have hb0 : (s == 0) = false := beq_eq_false_iff_ne.mpr h0
 have hn64 : n ≤ 64 := by omega
 clear ha hL hg hf hn hk hon hl
 go_enter Tryd.func68, Tryd.ntmps68
 go_wp2_with (first | (go_at_call 90; (with_reducible refine (HA.out _ HL.out).mono ?_); rintro e w1 ⟨rfl, hb⟩; have HG1 := Aside0.mk (blk_below HG.out hb); have HF1 := Aside0.mk (HF.out.step hb); clear HG HF hb; have HG := HG1; have HF := HF1; clear HG1 HF1))
 go_loopw [6] (fun i wr => ∃ (m : Nat) (cur : List Int), m ≤ n ∧ i = .int .i64 m ∧ Aside0 (cur.length = n) ∧ Aside0 (upw c s (n - 1 - m) m cur = upw c s (n - 1) 0 xs) ∧ Aside0 (ShB wr g a b (spl L o cur)) ∧ Aside0 (Ft g w0 wr)) (fun i _ => (n - intOf i).toNat)
 case atStart => exact ⟨0, xs, by omega, rfl, HN, ⟨rfl⟩, HG, HF⟩
 case round =>
  obtain ⟨m, cur, hm, rfl, HC, HU, HG2, HF2⟩ := hrel
  clear HG HF
  have HG := HG2
  have HF := HF2
  clear HG2 HF2
  by_cases ht : (m : Int) + 1 < n
  ·have HM : Aside0 (m + 1 < n) := ⟨by omega⟩
   go_wp2_with (first | (go_at_call 91; (with_reducible refine (HT.out m cur _ HC.out HM.out HF.out HG.out).mono ?_); rintro e w2 ⟨rfl, hg, hf⟩; clear HG HF; have HG := Aside0.mk hg; have HF := Aside0.mk hf; clear hg hf))
   go_roundw
   case rel => exact ⟨m + 1, tn c s m cur, by omega, by simp, ⟨(tn_len c s m cur).trans HC.out⟩, ⟨by have h := HU.out; rw [show n - 1 - m = (n - 1 - (m + 1)) + 1 by omega] at h; exact h⟩, HG, HF⟩
   case measure => simp [intOf]; omega
  ·have HD : Aside0 (cur = upw c s (n - 1) 0 xs) := ⟨by have h := HU.out; rw [show n - 1 - m = 0 by omega] at h; exact h⟩
   clear HU
   go_wp2
   go_loopw [7] (fun i wr => ∃ (j : Int) (cu : List Int), -3 ≤ j ∧ j + 3 ≤ n ∧ i = .int .i64 j ∧ Aside0 (cu.length = n) ∧ Aside0 (dnw c s (j + 1).toNat cu = dnw c s (n - 2) cur) ∧ Aside0 (ShB wr g a b (spl L o cu)) ∧ Aside0 (Ft g w0 wr)) (fun i _ => (intOf i + 4).toNat)
   case atStart => exact ⟨(n : Int) - 3, cur, by omega, by omega, by simp, HC, ⟨by rw [show ((n : Int) - 3 + 1).toNat = n - 2 by omega]⟩, HG, HF⟩
   case round =>
    obtain ⟨j, cu, hj0, hj1, rfl, HC2, HU, HG2, HF2⟩ := hrel
    clear HG HF HC
    have HG := HG2
    have HF := HF2
    clear HG2 HF2
    by_cases hj : 0 ≤ j
    ·obtain ⟨q, rfl⟩ := Int.eq_ofNat_of_zero_le hj
     have HM : Aside0 (q + 1 < n) := ⟨by omega⟩
     go_wp2_with (first | (go_at_call 91; (with_reducible refine (HT.out q cu _ HC2.out HM.out HF.out HG.out).mono ?_); rintro e w2 ⟨rfl, hg, hf⟩; clear HG HF; have HG := Aside0.mk hg; have HF := Aside0.mk hf; clear hg hf))
     go_roundw
     case rel => exact ⟨(q : Int) - 1, tn c s q cu, by omega, by omega, by simp, ⟨(tn_len c s q cu).trans HC2.out⟩, ⟨by have h := HU.out; rw [show ((q : Int) + 1).toNat = q + 1 by omega] at h; rw [show ((q : Int) - 1 + 1).toNat = q by omega]; exact h⟩, HG, HF⟩
     case measure => simp [intOf]; omega
    ·have HE : Aside0 (cu = dnw c s (n - 2) (upw c s (n - 1) 0 xs)) := ⟨by have h := HU.out; rw [show (j + 1).toNat = 0 by omega] at h; rw [← HD.out]; exact h⟩
     clear HU
     go_wp2
     first | go_end0 | ((try simp only [Exit.inBlock, Exit.then]); refine bodyPost_ret (results_none rfl _ _ _) rfl ?_)
     rw [← HE.out]
     exact ⟨rfl, HG.out, HF.out⟩
theorem in_mid (x : Int) (o k n cap g : Nat) (a b : Int) (L xs : List Int) (w0 w : World) (hk : k = 2 + o) (hn : xs.length = n) (hon : o + n ≤ L.length) (hl : L.length = 64) (hf : Ft g w0 w) (hg : ShB w g a b (spl L o xs)) (hL : Spread.Laid w) :
 Calls Tryd.prog 68 #[.slice (some ⟨g, k, none⟩) n cap, .int .i64 x] w fun e w' => e = .returned (.tuple #[]) ∧ ShB w' g a b (spl L o (sp x xs)) ∧ Ft g w0 w' := by
 unfold sp
 by_cases h0 : si x = 0
 ·rw [if_pos h0]; exact in_no_mid x n cap g k a b _ w0 w hf hg hL h0
 ·rw [if_neg h0, hn]
  exact in_yes_mid (co x) (si x) x o k n cap g a b L xs w0 w hk hn hon hl hf hg hL h0 (angle_any x)
theorem nz_map : ∀ (n : Nat) (s : Int), (nz n s).1 = (List.range n).map (fun j => ch (iter (j + 1) s))
 | 0, _ => rfl
 | n + 1, s => by
  rw [List.range_succ_eq_map, List.map_cons, List.map_map]
  show ch (lcg s) :: (nz n (lcg s)).1 = _
  rw [nz_map n (lcg s)]
  congr 1
  apply List.map_congr_left
  intro j _
  show ch (iter (j + 1) (lcg s)) = ch (iter (j + 1 + 1) s)
  rw [iter_first]
theorem fz_map (l : List Int) : ∀ (n i : Nat) (s : Int), (fz l n i s).1 = (List.range n).map (fun j => fv l (i + j) (iter (j + 1) s))
 | 0, _, _ => rfl
 | n + 1, i, s => by
  rw [List.range_succ_eq_map, List.map_cons, List.map_map]
  show fv l i (lcg s) :: (fz l n (i + 1) (lcg s)).1 = _
  rw [fz_map l n (i + 1) (lcg s)]
  congr 1
  apply List.map_congr_left
  intro j _
  show fv l (i + 1 + j) (iter (j + 1) (lcg s)) = fv l (i + (j + 1)) (iter (j + 1 + 1) s)
  rw [iter_first, show i + 1 + j = i + (j + 1) by omega]
theorem lcg_call (s : Int) (w : World) : Calls Tryd.prog 40 #[.int .u32 s] w fun e w' => e = .returned (.int .u32 (lcg s)) ∧ Below w.heap.size w w' :=
 (OShapeNoise.fix_Lcg.calls s _ w (NoisePlain.lcg_fn s)).mono (by rintro e w' ⟨he, hd⟩; exact ⟨he, by first | exact hd | exact hd.below⟩)
theorem chance_call {s : Int} (hs : NoisePlain.U32 s) (w : World) : Calls Tryd.prog 41 #[.int .u32 s] w fun e w' => e = .returned (.int .i32 (ch s)) ∧ Below w.heap.size w w' :=
 (OShapeNoise.shape_chance.calls s _ w (NoisePlain.ch_fn s hs)).mono (by rintro e w' ⟨he, hd⟩; exact ⟨he, by first | exact hd | exact hd.below⟩)
theorem empty_call (l : List Int) (m : Nat) (hm : l.length = m) (hl : m ≤ 200) (A0 : Option Addr) (c0 : Nat) (w : World) (hC : Kd.C (Kd.int .i32) w A0 m l) (hc : m ≤ c0) : Calls Tryd.prog 42 #[.slice A0 m c0] w fun e w' => e = .returned (.bool (em l)) ∧ Below w.heap.size w w' := by
 subst hm
 exact (OShapeNoise.shape_empty.calls 300 A0 c0 l _ w hC hc (NoisePlain.empty_fn l hl 300 (by omega))).mono (by rintro e w' ⟨he, hd⟩; exact ⟨he, by first | exact hd | exact hd.below⟩)
theorem sat_np (P : Int) (hP : NoisePlain.I32 P) (w : World) : Calls Tryd.prog 43 #[.int .i64 (wrap64 (-(wrap64 P)))] w fun e w' => e = .returned (.int .i32 (NoisePlain.s32 (-P))) ∧ Below w.heap.size w w' := by
 have e : wrap64 (-(wrap64 P)) = -P := by
  have h := hP
  unfold NoisePlain.I32 at h
  rw [sw64 (x := P) (by omega) (by omega), sw64 (by omega) (by omega)]
 rw [e]
 exact sat_call (-P) w
theorem meas_n {m n : Nat} (h : m + 1 ≤ n) : ((n : Int) - intOf (Value.int .i64 ((m : Int) + 1))).toNat < ((n : Int) - intOf (Value.int .i64 (m : Int))).toNat := meas_q h
theorem ga_some {y : List Int} {j : Nat} (h : j < y.length) : y[j]? = some (ga y j) := by
 unfold ga
 rw [List.getD_eq_getElem?_getD, List.getElem?_eq_getElem h]
 rfl
set_option maxHeartbeats 4000000 in
set_option maxRecDepth 100000 in
theorem fill_call (o k n cap oa ka m ca g : Nat) (a b : Int) (L l : List Int) (sd : Int) (w : World) (hk : k = 2 + o) (hka : ka = 2 + oa) (hon : o + n ≤ L.length) (hl : L.length = 64) (hm : l.length = m) (hd : oa + m ≤ o) (hmc : m ≤ ca) (hla : ∀ j, j < m → L[oa + j]? = l[j]?) (hsd : NoisePlain.U32 sd) (hlw : ∀ x ∈ l, NoisePlain.I32 x) (hg : ShB w g a b L) :
 Calls Tryd.prog 69 #[.slice (some ⟨g, k, none⟩) n cap, .slice (some ⟨g, ka, none⟩) m ca, .int .u32 sd] w fun e w' => e = .returned (.int .u32 (fo l n sd).2) ∧ ShB w' g a b (spl L o (fo l n sd).1) ∧ Ft g w w' := by
 have HE := Aside0.mk (fun w hC => empty_call l m hm (by omega) (some ⟨g, ka, none⟩) ca w hC hmc)
 have HC0 := Aside0.mk (shb_C hg hka hm (by omega) hl hla)
 have HG := Aside0.mk hg
 have HF : Aside0 (Ft g w w) := ⟨Foot.refl _ _⟩
 have HK : Aside0 (k = 2 + o ∧ ka = 2 + oa ∧ o + n ≤ 64 ∧ L.length = 64 ∧ l.length = m ∧ oa + m ≤ o) := ⟨hk, hka, by omega, hl, hm, hd⟩
 have HLA := Aside0.mk hla
 have HSD := Aside0.mk hsd
 have HLW := Aside0.mk hlw
 have hn64 : n ≤ 64 := by omega
 have hm64 : m ≤ 64 := by omega
 clear hk hka hon hl hm hd hla hsd hg hmc hlw
 unfold fo
 cases hem : em l
 ·have hm0 : 0 < m := by have := NoisePlain.em_pos l hem; have := HK.out; omega
  rw [hem] at HE
  rw [if_neg (by decide), fz_sd]
  obtain ⟨R, hR⟩ : ∃ R, (fz l n 0 sd).1 = R := ⟨_, rfl⟩
  have HR : Aside0 (R.length = n ∧ ∀ j, j < n → R[j]? = some (fv l j (iter (j + 1) sd))) := ⟨by
   rw [← hR, fz_map]
   refine ⟨by simp, fun j hj => ?_⟩
   rw [List.getElem?_map, List.getElem?_range hj]
   show some (fv l (0 + j) _) = _
   rw [Nat.zero_add]⟩
  rw [hR]
  clear hR hem
  have e0 : ¬ ((m : Int) = 0) := by omega
  have e0b : ¬ (m = 0) := by omega
  go_enter Tryd.func69, Tryd.ntmps69
  go_wp2_with (first | (go_at_call 42; (with_reducible refine (HE.out _ HC0.out).mono ?_); rintro e w1 ⟨rfl, hb⟩; clear HC0; have HG1 := Aside0.mk (blk_below HG.out hb); have HF1 := Aside0.mk (HF.out.step hb); clear HG HF hb; have HG := HG1; have HF := HF1; clear HG1 HF1))
  go_loopw [2, 27] (fun sv iv wr => ∃ (i : Nat) (L2 : List Int), i ≤ n ∧ sv = .int .u32 (iter i sd) ∧ iv = .int .i64 i ∧ Aside0 (ShB wr g a b L2) ∧ Aside0 (Upd o i (fun j => fv l j (iter (j + 1) sd)) L L2) ∧ Aside0 (Ft g w wr)) (fun sv iv _ => ((n : Int) - intOf iv).toNat)
  case atStart => exact ⟨0, L, by omega, rfl, rfl, HG, ⟨Upd.start _ _ _⟩, HF⟩
  case round =>
   obtain ⟨i, L2, hi, rfl, rfl, HG2, HU, HF2⟩ := hrel
   clear HG HF
   have HG := HG2
   have HF := HF2
   clear HG2 HF2
   by_cases ht : i < n
   ·obtain ⟨T, hT⟩ : ∃ T, iter (i + 1) sd = T := ⟨_, rfl⟩
    have HT : Aside0 (iter (i + 1) sd = T ∧ NoisePlain.U32 T) := ⟨hT, by rw [← hT]; exact iter_u32 _ _ HSD.out⟩
    have HCL : Aside0 (∀ w, Calls Tryd.prog 40 #[.int .u32 (iter i sd)] w fun e w' => e = .returned (.int .u32 T) ∧ Below w.heap.size w w') := ⟨by rw [← hT, iter_succ]; exact lcg_call _⟩
    obtain ⟨q, hq⟩ : ∃ q : Nat, i % m = q := ⟨_, rfl⟩
    have hqm : q < m := by rw [← hq]; exact Nat.mod_lt _ hm0
    have e1 : Int.tmod (i : Int) (m : Int) = (q : Int) := by rw [NoisePlain.tmod_nat, hq]
    have e2 : (i : Int) % (m : Int) = (q : Int) := by rw [← hq]; omega
    have e3 : (0 : Int) ≤ (q : Int) := by omega
    have e4 : (q : Int) < (m : Int) := by omega
    obtain ⟨P, hP⟩ : ∃ P, rd l (q : Int) = P := ⟨_, rfl⟩
    have HP : Aside0 (∀ w, ShB w g a b L2 → w.cell? ⟨g, ka + q, none⟩ = some (.int .i32 P)) := ⟨fun w h => by
     have h2 := HK.out
     have h3 : ga L2 (oa + q) = P := by
      rw [← hP]
      unfold ga rd
      rw [List.getD_eq_getElem?_getD, HU.out.k (oa + q) (.inl (by omega)), HLA.out q hqm, Int.toNat_natCast, List.getD_eq_getElem?_getD]
     rw [shb_cell h (j := oa + q) (by rw [HU.out.n]; omega) (by omega), h3]⟩
    have HQ : Aside0 (∀ w, ShB w g a b L2 → w.cell? ⟨g, k + i, none⟩ = some (.int .i32 (ga L2 (o + i)))) := ⟨fun w h => shb_cell h (j := o + i) (by have := HK.out; rw [HU.out.n]; omega) (by have := HK.out; omega)⟩
    have HFV : Aside0 (fv l i T = if T ≥ 2147483648 then NoisePlain.s32 (-P) else P) := ⟨by unfold fv; rw [HK.out.2.2.2.2.1, hq, hP]⟩
    have HPU : Aside0 (∀ (w : World) (L3 : List Int) (v : Int), L3.length = 64 → ShB w g a b L3 → ShB (w.setCell ⟨g, k + i, none⟩ (.int .i32 v)) g a b (L3.set (o + i) v)) := ⟨fun w L3 v _ h => shb_put h (by have := HK.out; omega) v⟩
    have HIB : Aside0 (i + 1 ≤ n) := ⟨ht⟩
    have HU2 : Aside0 (∀ v, v = fv l i T → Upd o (i + 1) (fun j => fv l j (iter (j + 1) sd)) L (L2.set (o + i) v)) := ⟨fun v hv => HU.out.step (by have := HK.out; omega) (by rw [hT]; exact hv)⟩
    have h1 : (0 : Int) ≤ (i : Int) := by omega
    have h2 : (i : Int) < (n : Int) := by omega
    have HP32 : Aside0 (NoisePlain.I32 P) := ⟨by rw [← hP]; exact HLW.out _ (Math.rd_mem (by have := HK.out; omega))⟩
    clear hi hT hq hqm hP
    rcases (by omega : 2147483648 ≤ T ∨ T < 2147483648) with hc | hc
    ·have c1 : ((T / 2147483648) == 1) = true := beq_iff_eq.mpr (by have := HT.out.2; unfold NoisePlain.U32 at this; omega)
     have HV : Aside0 (NoisePlain.s32 (-P) = fv l i T) := ⟨by rw [HFV.out, if_pos hc]⟩
     obtain ⟨V, hV⟩ : ∃ V, NoisePlain.s32 (-P) = V := ⟨_, rfl⟩
     obtain ⟨NP, hNP⟩ : ∃ x, wrap64 (-(wrap64 P)) = x := ⟨_, rfl⟩
     have HSC : Aside0 (∀ w, Calls Tryd.prog 43 #[.int .i64 NP] w fun e w' => e = .returned (.int .i32 V) ∧ Below w.heap.size w w') := ⟨by rw [← hNP, ← hV]; exact sat_np P HP32.out⟩
     rw [hV] at HV
     clear hc hV
     obtain ⟨PW, hPW⟩ : ∃ x, wrap64 P = x := ⟨_, rfl⟩
     rw [hPW] at hNP
     have HC9 : Aside0 (∀ w, ShB w g a b (L2.set (o + i) P) → w.cell? ⟨g, k + i, none⟩ = some (.int .i32 P)) := ⟨fun w h => by
      have h2 := HK.out
      have h3 := HU.out.n
      rw [shb_cell h (j := o + i) (by rw [List.length_set]; omega) (by omega)]
      unfold ga
      rw [List.getD_eq_getElem?_getD, List.getElem?_set, if_pos rfl, if_pos (by omega)]
      rfl⟩
     clear ht
     have ht := HIB.out
     go_wp2_with (first
      | (go_at_call 40; (with_reducible refine (HCL.out _).mono ?_); rintro e w2 ⟨rfl, hb⟩; have HG1 := Aside0.mk (blk_below HG.out hb); have HF1 := Aside0.mk (HF.out.step hb); clear HG HF hb; have HG := HG1; have HF := HF1; clear HG1 HF1; have hcp := HP.out _ HG.out; have hcq := HQ.out _ HG.out; have hfq := blk_frozen HG.out (k + i); have HG1 := Aside0.mk (HPU.out _ _ P (by have := HK.out; have := HU.out.n; omega) HG.out); have HF1 := Aside0.mk (HF.out.set_ (p := ⟨g, k + i, none⟩) rfl (.int .i32 P)); have hcr := HC9.out _ HG1.out; clear HG HF; have HG := HG1; have HF := HF1; clear HG1 HF1)
      | (go_at_call 43; (with_reducible refine (HSC.out _).mono ?_); rintro e w3 ⟨rfl, hb⟩; clear hcp hcq hfq hcr; have HG1 := Aside0.mk (blk_below HG.out hb); have HF1 := Aside0.mk (HF.out.step hb); clear HG HF hb; have HG := HG1; have HF := HF1; clear HG1 HF1; have hcq := HC9.out _ HG.out; have hfq := blk_frozen HG.out (k + i); have HG1 := Aside0.mk (HPU.out _ _ V (by have := HK.out; have := HU.out.n; rw [List.length_set]; omega) HG.out); have HF1 := Aside0.mk (HF.out.set_ (p := ⟨g, k + i, none⟩) rfl (.int .i32 V)); clear HG HF; have HG := HG1; have HF := HF1; clear HG1 HF1))
     go_roundw
     case rel => exact ⟨i + 1, L2.set (o + i) V, HIB.out, by rw [HT.out.1], congrArg (Value.int .i64) (by omega), ⟨by have h := HG.out; rwa [List.set_set] at h⟩, ⟨HU2.out V HV.out⟩, HF⟩
     case measure => exact meas_n HIB.out
    ·have c1 : ((T / 2147483648) == 1) = false := beq_eq_false_iff_ne.mpr (by have := HT.out.2; unfold NoisePlain.U32 at this; omega)
     have HV : Aside0 (P = fv l i T) := ⟨by rw [HFV.out, if_neg (by omega)]⟩
     clear hc
     go_wp2_with (first
      | (go_at_call 40; (with_reducible refine (HCL.out _).mono ?_); rintro e w2 ⟨rfl, hb⟩; have HG1 := Aside0.mk (blk_below HG.out hb); have HF1 := Aside0.mk (HF.out.step hb); clear HG HF hb; have HG := HG1; have HF := HF1; clear HG1 HF1; have hcp := HP.out _ HG.out; have hcq := HQ.out _ HG.out; have hfq := blk_frozen HG.out (k + i); have HG1 := Aside0.mk (HPU.out _ _ P (by have := HK.out; have := HU.out.n; omega) HG.out); have HF1 := Aside0.mk (HF.out.set_ (p := ⟨g, k + i, none⟩) rfl (.int .i32 P)); clear HG HF; have HG := HG1; have HF := HF1; clear HG1 HF1))
     go_roundw
     case rel => exact ⟨i + 1, L2.set (o + i) P, HIB.out, by rw [HT.out.1], congrArg (Value.int .i64) (by omega), HG, ⟨HU2.out P HV.out⟩, HF⟩
     case measure => exact meas_n HIB.out
   ·obtain rfl : i = n := by omega
    have HE2 : Aside0 (L2 = spl L o R) := ⟨HU.out.all (by have := HK.out; omega) HR.out.1 HR.out.2⟩
    clear ht hi HU
    go_wp2
    go_ret
    exact ⟨rfl, by rw [← HE2.out]; exact HG.out, HF.out⟩
 ·rw [hem] at HE
  rw [if_pos rfl, nz_sd]
  obtain ⟨R, hR⟩ : ∃ R, (nz n sd).1 = R := ⟨_, rfl⟩
  have HR : Aside0 (R.length = n ∧ ∀ j, j < n → R[j]? = some (ch (iter (j + 1) sd))) := ⟨by
   rw [← hR, nz_map]
   refine ⟨by simp, fun j hj => ?_⟩
   rw [List.getElem?_map, List.getElem?_range hj]
   rfl⟩
  rw [hR]
  clear hR hem
  go_enter Tryd.func69, Tryd.ntmps69
  go_wp2_with (first | (go_at_call 42; (with_reducible refine (HE.out _ HC0.out).mono ?_); rintro e w1 ⟨rfl, hb⟩; clear HC0; have HG1 := Aside0.mk (blk_below HG.out hb); have HF1 := Aside0.mk (HF.out.step hb); clear HG HF hb; have HG := HG1; have HF := HF1; clear HG1 HF1))
  go_loopw [2, 13] (fun sv iv wr => ∃ (i : Nat) (L2 : List Int), i ≤ n ∧ sv = .int .u32 (iter i sd) ∧ iv = .int .i64 i ∧ Aside0 (ShB wr g a b L2) ∧ Aside0 (Upd o i (fun j => ch (iter (j + 1) sd)) L L2) ∧ Aside0 (Ft g w wr)) (fun sv iv _ => ((n : Int) - intOf iv).toNat)
  case atStart => exact ⟨0, L, by omega, rfl, rfl, HG, ⟨Upd.start _ _ _⟩, HF⟩
  case round =>
   obtain ⟨i, L2, hi, rfl, rfl, HG2, HU, HF2⟩ := hrel
   clear HG HF
   have HG := HG2
   have HF := HF2
   clear HG2 HF2
   by_cases ht : i < n
   ·obtain ⟨T, hT⟩ : ∃ T, iter (i + 1) sd = T := ⟨_, rfl⟩
    have HT : Aside0 (iter (i + 1) sd = T ∧ NoisePlain.U32 T) := ⟨hT, by rw [← hT]; exact iter_u32 _ _ HSD.out⟩
    have HCL : Aside0 (∀ w, Calls Tryd.prog 40 #[.int .u32 (iter i sd)] w fun e w' => e = .returned (.int .u32 T) ∧ Below w.heap.size w w') := ⟨by rw [← hT, iter_succ]; exact lcg_call _⟩
    have HCC := Aside0.mk (fun w => chance_call HT.out.2 w)
    have HQ : Aside0 (∀ w, ShB w g a b L2 → w.cell? ⟨g, k + i, none⟩ = some (.int .i32 (ga L2 (o + i)))) := ⟨fun w h => shb_cell h (j := o + i) (by have := HK.out; rw [HU.out.n]; omega) (by have := HK.out; omega)⟩
    have HIB : Aside0 (i + 1 ≤ n) := ⟨ht⟩
    have HU2 : Aside0 (Upd o (i + 1) (fun j => ch (iter (j + 1) sd)) L (L2.set (o + i) (ch T))) := ⟨HU.out.step (by have := HK.out; omega) (by rw [hT])⟩
    have HPU : Aside0 (∀ (w : World) (v : Int), ShB w g a b L2 → ShB (w.setCell ⟨g, k + i, none⟩ (.int .i32 v)) g a b (L2.set (o + i) v)) := ⟨fun w v h => shb_put h (by have := HK.out; omega) v⟩
    obtain ⟨V, hV⟩ : ∃ V, ch T = V := ⟨_, rfl⟩
    rw [hV] at HCC HU2
    have h1 : (0 : Int) ≤ (i : Int) := by omega
    have h2 : (i : Int) < (n : Int) := by omega
    clear hi hT hV
    go_wp2_with (first
     | (go_at_call 40; (with_reducible refine (HCL.out _).mono ?_); rintro e w2 ⟨rfl, hb⟩; have HG1 := Aside0.mk (blk_below HG.out hb); have HF1 := Aside0.mk (HF.out.step hb); clear HG HF hb; have HG := HG1; have HF := HF1; clear HG1 HF1)
     | (go_at_call 41; (with_reducible refine (HCC.out _).mono ?_); rintro e w3 ⟨rfl, hb⟩; have HG1 := Aside0.mk (blk_below HG.out hb); have HF1 := Aside0.mk (HF.out.step hb); clear HG HF hb; have HG := HG1; have HF := HF1; clear HG1 HF1; have hcq := HQ.out _ HG.out; have hfq := blk_frozen HG.out (k + i); have HG1 := Aside0.mk (HPU.out _ V HG.out); have HF1 := Aside0.mk (HF.out.set_ (p := ⟨g, k + i, none⟩) rfl (.int .i32 V)); clear HG HF; have HG := HG1; have HF := HF1; clear HG1 HF1))
    go_roundw
    case rel => exact ⟨i + 1, L2.set (o + i) V, HIB.out, by rw [HT.out.1], congrArg (Value.int .i64) (by omega), HG, HU2, HF⟩
    case measure => exact meas_n HIB.out
   ·obtain rfl : i = n := by omega
    have HE2 : Aside0 (L2 = spl L o R) := ⟨HU.out.all (by have := HK.out; omega) HR.out.1 HR.out.2⟩
    clear ht hi HU
    go_wp2
    go_ret
    exact ⟨rfl, by rw [← HE2.out]; exact HG.out, HF.out⟩
end Go.Proofs.YtjpnbdofbkoddaaDoor.Sh
