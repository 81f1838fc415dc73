import Derived.Test.YtjpnbdofbkoddaaDoorMgFQ
import Derived.Test.YtjpnbdofbkoddaaDoorMgEQ
namespace Go.Proofs.YtjpnbdofbkoddaaDoor.Sh
open Go.RowKit Go.Proofs.YtjpnbdofbkoddaaDoorW.PrintWords Go.Proofs.YtjpnbdofbkoddaaDoorW.PrintLast Go.Proofs.YtjpnbdofbkoddaaDoorW.PrintMore
open Go.Proofs.YtjpnbdofbkoddaaDoor.OShapeSeeds Go.Proofs.YtjpnbdofbkoddaaDoor.Sy Go.Proofs.YtjpnbdofbkoddaaDoor.SyWalk Go.Proofs.YtjpnbdofbkoddaaDoor.WrWalk
open Go.Proofs.YtjpnbdofbkoddaaDoor.ShapePlain (sc sc_len sc_in)
open Go.Proofs.YtjpnbdofbkoddaaDoor.NoisePlain (fo fo_len fo_in hd lcg nz fz fv em)
open Go.Proofs.YtjpnbdofbkoddaaDoor.Spread (sp sp_len)
set_option linter.unusedVariables false
set_option linter.unusedSimpArgs false
structure Ask (cs wc : Array Value) (x a b : Int) (ps : List Int) (si it : Bool) (sp tr : Int) : Prop where
  sz : cs.size = 47
  c0 : cs[0]? = some (.int .u16 x)
  hx : 0 ≤ x ∧ x < 65536
  c1 : cs[1]? = some (.int .u8 a)
  c2 : cs[2]? = some (.int .u8 b)
  ha : 0 ≤ a ∧ a ≤ 255
  hb : 0 ≤ b ∧ b ≤ 255
  pl : ps.length = 10
  pr : ∀ p ∈ ps, 0 ≤ p ∧ p ≤ 255
  c3 : ∀ j v, (ps.map (Value.int .u8))[j]? = some v → cs[3 + j]? = some v
  wsz : wc.size = 34
  c13 : ∀ j v, wc.toList[j]? = some v → cs[13 + j]? = some v
  w : Wish wc si it sp tr
structure LI (w0 w : World) (cs : Array Value) (s c : Nat) (ps : List Int) (g5 g6 : Nat) : Prop where
  b : Below w0.heap.size w0 w
  a : w.heap[w0.heap.size]? = some (.cells cs 51 (0, 0))
  m : w.heap[g5]? = some (.cells #[.int .i64 (s : Int), .int .i64 (c : Int)] 53 (0, 0))
  p : w.heap[g6]? = some (.cells (ps.map (Value.int .i64)).toArray 55 (0, 0))
  n5 : w0.heap.size ≤ g5
  n6 : w0.heap.size ≤ g6
  lm : Mode.Laid w
  lp : Shape.Laid w
  ls : Spread.Laid w
section
variable {w0 w w1 : World} {cs : Array Value} {s c : Nat} {ps : List Int} {g5 g6 : Nat}
theorem LI.below (h : LI w0 w cs s c ps g5 g6) (hb : Below w.heap.size w w1) : LI w0 w1 cs s c ps g5 g6 :=
  ⟨below_step h.b hb, blk_below h.a hb, blk_below h.m hb, blk_below h.p hb, h.n5, h.n6, h.lm.below hb, h.lp.below hb, h.ls.below hb⟩
end
def Z2 : Array Value := #[.int .i64 0, .int .i64 0]
def Z10 : Array Value := #[.int .i64 0, .int .i64 0, .int .i64 0, .int .i64 0, .int .i64 0, .int .i64 0, .int .i64 0, .int .i64 0, .int .i64 0, .int .i64 0]
theorem z53 : (Tryd.prog.info? 53).map (·.zero) = some (some (.agg Z2)) := by kernel_rfl
theorem z55 : (Tryd.prog.info? 55).map (·.zero) = some (some (.agg Z10)) := by kernel_rfl
theorem z61 : (Tryd.prog.info? 61).map (·.zero) = some (some (.agg F0.cells.toArray)) := by kernel_rfl
theorem alloc_two {ops : Array Oper} {rest : List Oper} {o : Oper} {a : Act} {w1 : World} {Q : Exit → Act → World → Prop} (hg : o.guard = none) (ho : o.op = .alloc 55) (hd : o.dst = some 6)
    (h : ∀ W, W.heap[w1.heap.size]? = some (.cells Z2 53 (0, 0)) → W.heap[w1.heap.size + 1]? = some (.cells Z10 55 (0, 0)) → Below w1.heap.size w1 W → wpList Tryd.prog ops Q rest (a.put (some 6) (.pointer (some ⟨w1.heap.size + 1, 0, none⟩))) W) : wpList Tryd.prog ops Q (o :: rest) a (w1.alloc (.cells Z2 53)) := by
  refine alloc_to hg 55 ho _ z55 ?_
  have s1 : (w1.alloc (.cells Z2 53)).heap.size = w1.heap.size + 1 := by simp [World.alloc_eq]
  rw [hd, s1]
  refine h _ (blk_alloc (blk_new _ _) _) ?_ (below_alloc (below_alloc (Below.refl _ _) _) _)
  rw [← s1]; exact blk_new _ _
section
variable {P : Program}
theorem store_rowG {ops : Array Oper} {rest : List Oper} {o : Oper} {a : Act} {w : World} {Q : Exit → Act → World → Prop} (hgd : o.guard = none) (ty : TypeId) (x y : Operand) (ho : o.op = .store ty x y)
    (g : Nat) (cells : Array Value) (hx : a.eval x = .pointer (some ⟨g, 0, none⟩)) (hy : a.eval y = .agg cells)
    (t : TypeId) (old : Array Value) (hg : w.heap[g]? = some (.cells old t (0, 0))) (hi : (P.info? ty).map (·.size) = some cells.size)
    (hold : old.size = cells.size) (h1 : cells.all (·.oneCell') = true)
    (h : ∀ W, W.heap[g]? = some (.cells cells t (0, 0)) → (∀ k, k ≠ g → W.heap[k]? = w.heap[k]?) → (∀ B w0, Below B w0 w → B ≤ g → Below B w0 W) → wpList P ops Q rest (a.put o.dst undef) W) : wpList P ops Q (o :: rest) a w :=
  wpList_store_row hgd ty x y ho g cells hx hy t old hg hi hold h1 (h _ (setRow_heap _ _ _ _ _ _ hg) (fun k hk => setRow_other _ _ _ _ hk) (fun B w0 hb hB => below_setRow hb hB _))
theorem wp_alloc_to {o : Oper} {a : Act} {w : World} {K : Act → World → Prop} {Q : Exit → Act → World → Prop} (ty : TypeId) (ho : o.op = .alloc ty) (cs : Array Value)
    (hz : (P.info? ty).map (·.zero) = some (some (.agg cs))) (h : K (a.put o.dst (.pointer (some ⟨w.heap.size, 0, none⟩))) (w.alloc (.cells cs ty))) : Oper.wp P o a w K Q := by
  cases hq : P.info? ty with
  | none => simp [hq] at hz
  | some i =>
    have hz2 : i.zero = some (.agg cs) := by simpa [hq] using hz
    have hrun : (Instr.alloc ty true (.tuple #[])).run P w = .ok (.pointer (some ⟨w.heap.size, 0, none⟩)) (w.alloc (.cells cs ty)) := by
      simp [Instr.alloc, zeroValue, typeInfo, Sem.run_bind, hq, hz2, newVar, newRow, newObj, Value.cells, World.alloc_eq]; rfl
    unfold Oper.wp execOp
    simp only [ho, Sem.run_bind, hrun, Result.andThen_ok]
    exact h
end
theorem row53 (s c : Nat) : (#[Value.int .i64 (s : Int), .int .i64 (c : Int)] : Array Value).all (·.oneCell') = true := by simp [Value.oneCell']
theorem far_laid {w w1 : World} {g : Nat} (hg : 3 ≤ g) (hf : ∀ k, k ≠ g → w1.heap[k]? = w.heap[k]?) (h : Mode.Laid w ∧ Shape.Laid w ∧ Spread.Laid w) : Mode.Laid w1 ∧ Shape.Laid w1 ∧ Spread.Laid w1 :=
  ⟨mode_far h.1 (fun k hk => hf k (by omega)), pow_far h.2.1 (fun k hk => hf k (by omega)), spread_far h.2.2 (fun k hk => hf k (by omega))⟩
structure LF (w0 w : World) (cs : Array Value) (s c : Nat) (ps : List Int) (g5 g6 g7 : Nat) (f : Fr) : Prop where
  l : LI w0 w cs s c ps g5 g6
  f7 : w.heap[g7]? = some (.cells f.cells.toArray 61 (0, 0))
  n7 : w0.heap.size ≤ g7
theorem LF.below {w0 w w1 : World} {cs : Array Value} {s c : Nat} {ps : List Int} {g5 g6 g7 : Nat} {f : Fr} (h : LF w0 w cs s c ps g5 g6 g7 f) (hb : Below w.heap.size w w1) : LF w0 w1 cs s c ps g5 g6 g7 f :=
  ⟨h.l.below hb, blk_below h.f7 hb, h.n7⟩
theorem LI.frame {w0 w : World} {cs : Array Value} {s c : Nat} {ps : List Int} {g5 g6 g7 : Nat} {f : Fr} (h : LI w0 w cs s c ps g5 g6) (h3 : 3 ≤ w0.heap.size) (h7 : w.heap[g7]? = some (.cells F0.cells.toArray 61 (0, 0))) (hn : w0.heap.size < g7) : LF w0 (w.setRow g7 f.cells.toArray) cs s c ps g5 g6 g7 f := by
  have far : ∀ k, k ≠ g7 → (w.setRow g7 f.cells.toArray).heap[k]? = w.heap[k]? := fun k hk => setRow_other _ _ _ _ hk
  have e5 : g5 ≠ g7 := blk_ne h.m h7 (by decide)
  have e6 : g6 ≠ g7 := blk_ne h.p h7 (by decide)
  have hl := far_laid (by omega) far ⟨h.lm, h.lp, h.ls⟩
  exact ⟨⟨below_setRow h.b (by omega) _, (far _ (by omega)).trans h.a, (far _ e5).trans h.m, (far _ e6).trans h.p, h.n5, h.n6, hl.1, hl.2.1, hl.2.2⟩, setRow_heap _ _ _ _ _ _ h7, by omega⟩
theorem wish_range {w : World} {cs wc : Array Value} {x a b : Int} {ps : List Int} {si it : Bool} {sp tr : Int} {g t : Nat} (h : Ask cs wc x a b ps si it sp tr) (hg : w.heap[g]? = some (.cells cs t (0, 0))) : w.rangeAt g 13 wc.toList := fun j v hv => by
  rw [blk_cell hg]
  exact h.c13 j v hv
theorem laid_size {w : World} (ls : Spread.Laid w) : 3 ≤ w.heap.size := by have := World.block_lt_of_cell? w _ (ls 0 (by decide)).1; show 2 < _; exact this
def iter (n : Nat) (s : Int) : Int := Nat.rec s (fun _ x => lcg x) n
theorem iter_succ (n : Nat) (s : Int) : iter (n + 1) s = lcg (iter n s) := rfl
theorem iter_add (m n : Nat) (s : Int) : iter (m + n) s = iter n (iter m s) := by
  induction n with
  | zero => rfl
  | succ n ih => rw [← Nat.add_assoc, iter_succ, iter_succ, ih]
theorem iter_first (n : Nat) (s : Int) : iter n (lcg s) = iter (n + 1) s := by
  rw [Nat.add_comm, iter_add]; rfl
theorem iter_u32 (n : Nat) (s : Int) (h : NoisePlain.U32 s) : NoisePlain.U32 (iter n s) := by
  cases n with
  | zero => exact h
  | succ n => exact NoisePlain.lcg_in _
theorem nz_sd : ∀ (n : Nat) (s : Int), (nz n s).2 = iter n s
  | 0, _ => rfl
  | n + 1, s => by
    show (nz n (lcg s)).2 = _
    rw [nz_sd, iter_first]
theorem fz_sd (l : List Int) : ∀ (n i : Nat) (s : Int), (fz l n i s).2 = iter n s
  | 0, _, _ => rfl
  | n + 1, i, s => by
    show (fz l n (i + 1) (lcg s)).2 = _
    rw [fz_sd, iter_first]
theorem fo_sd (l : List Int) (n : Nat) (s : Int) : (fo l n s).2 = iter n s := by
  unfold fo
  split
  · exact nz_sd n s
  · exact fz_sd l n 0 s
def wnt (f : Fr) (c : Nat) (sd : Int) : Nat → Int
  | 0 => sd
  | b + 1 => if ga f.L (23 + b) = 0 then iter (bw b * c) (wnt f c sd b) else wnt f c sd b
theorem row_sd {f : Fr} {b : Nat} (hk : 0 ≤ ga f.L (23 + b)) (z : Sp) : ∀ q, (spRow f b q z).sd = if ga f.L (23 + b) = 0 then iter (bw b * q) z.sd else z.sd
  | 0 => by
    show z.sd = _
    split <;> rfl
  | q + 1 => by
    show (shp f q b (spRow f b q z)).2 = _
    have h := row_sd hk z q
    unfold shp
    by_cases h0 : ga f.L (23 + b) = 0
    · rw [if_neg (by omega), fo_sd, h, if_pos h0, if_pos h0, ← iter_add, Nat.mul_succ]
    · rw [if_pos (by omega)]
      show (spRow f b q z).sd = _
      rw [h, if_neg h0, if_neg h0]
theorem all_sd {f : Fr} {c : Nat} (hk : ∀ j, j < 5 → 0 ≤ ga f.L (23 + j)) (sd : Int) : ∀ b, b ≤ 5 → (spAll f c b (sp0 sd)).sd = wnt f c sd b
  | 0, _ => rfl
  | b + 1, hb => by
    show (spRow f b c (spAll f c b (sp0 sd))).sd = _
    rw [row_sd (hk b (by omega)), all_sd hk sd b (by omega)]
    rfl
theorem wnt_u32 (f : Fr) (c : Nat) (sd : Int) (h : NoisePlain.U32 sd) : ∀ b, NoisePlain.U32 (wnt f c sd b)
  | 0 => h
  | b + 1 => by
    unfold wnt
    split
    · exact iter_u32 _ _ (wnt_u32 f c sd h b)
    · exact wnt_u32 f c sd h b
theorem lcgs_is {x : Int} (h : NoisePlain.U32 x) : spinetref01_Lcg.f x = some (lcg x) := by
  have h2 := NoisePlain.lcg_ref x h
  exact h2
theorem rlcg_call {x : Int} (h : NoisePlain.U32 x) (w : World) : Calls Tryd.prog 24 #[.int .u32 x] w fun e w' => e = .returned (.int .u32 (lcg x)) ∧ Below w.heap.size w w' :=
  (spinetref01_Lcg.calls x (lcg x) w (lcgs_is h)).mono (by rintro e w' ⟨he, hd⟩; exact ⟨he, by first | exact hd | exact hd.below⟩)
end Go.Proofs.YtjpnbdofbkoddaaDoor.Sh
namespace Go.Proofs.YtjpnbdofbkoddaaDoor.Sh
open Go.RowKit Go.Proofs.YtjpnbdofbkoddaaDoorW.PrintWords Go.Proofs.YtjpnbdofbkoddaaDoorW.PrintLast Go.Proofs.YtjpnbdofbkoddaaDoorW.PrintMore
open Go.Proofs.YtjpnbdofbkoddaaDoor.OShapeSeeds Go.Proofs.YtjpnbdofbkoddaaDoor.Sy Go.Proofs.YtjpnbdofbkoddaaDoor.SyWalk Go.Proofs.YtjpnbdofbkoddaaDoor.WrWalk
open Go.Proofs.YtjpnbdofbkoddaaDoor.ShapePlain (sc sc_len sc_in)
open Go.Proofs.YtjpnbdofbkoddaaDoor.NoisePlain (fo fo_len fo_in hd lcg nz fz fv em)
open Go.Proofs.YtjpnbdofbkoddaaDoor.Spread (sp sp_len)
set_option linter.unusedVariables false
set_option linter.unusedSimpArgs false
set_option maxHeartbeats 16000000 in
set_option maxRecDepth 100000 in
theorem seeds_call (cs wc : Array Value) (x a b : Int) (ps : List Int) (si it : Bool) (sp tr sd : Int) (hask : Ask cs wc x a b ps si it sp tr) (hsd : NoisePlain.U32 sd) (w : World) (lm : Mode.Laid w) (lp : Shape.Laid w) (ls : Spread.Laid w) :
    Calls Tryd.prog 5 #[.agg cs, .int .u32 sd] w fun e w' => e = .returned (.bool true) ∧ Below w.heap.size w w' := by
  have h3 := laid_size ls
  have H3 := Aside0.mk h3
  have HASK := Aside0.mk hask
  have HSD := Aside0.mk hsd
  have HB0 : Aside0 (Below w.heap.size w (w.alloc (.cells cs 51))) := ⟨below_alloc (Below.refl _ _) _⟩
  have HA0 : Aside0 ((w.alloc (.cells cs 51)).heap[w.heap.size]? = some (.cells cs 51 (0, 0))) := ⟨blk_new _ _⟩
  have HL0 : Aside0 (Mode.Laid (w.alloc (.cells cs 51)) ∧ Shape.Laid (w.alloc (.cells cs 51)) ∧ Spread.Laid (w.alloc (.cells cs 51))) := ⟨lm.below HB0.out, lp.below HB0.out, ls.below HB0.out⟩
  have HCS : Aside0 ((Tryd.prog.info? 51).map (·.size) = some cs.size) := ⟨by rw [hask.sz]; kernel_rfl⟩
  clear lm lp ls hask hsd h3
  go_enter Tryd.func5, Tryd.ntmps5
  go_upto_region 4 with (first
    | (go_at_call 8; (with_reducible refine (Shape.awake_any _ HL0.out.2.1).mono ?_); rintro e w1 ⟨rfl, hb1⟩; have HB1 := Aside0.mk (below_step HB0.out hb1); have HA1 := Aside0.mk (blk_below HA0.out hb1); have HL1 := Aside0.mk (And.intro (HL0.out.1.below hb1) (And.intro (HL0.out.2.1.below hb1) (HL0.out.2.2.below hb1))); clear HB0 HA0 HL0 hb1)
    | (refine wpList_load_row rfl 51 (.tmp 2) rfl w.heap.size rfl 51 cs (0, 0) _ HA1.out Tryd.underlying51 rfl HCS.out ?_)
    | (go_at_call 18; (with_reducible refine (where_call cs _ _ _ HASK.out.pl HASK.out.ha HASK.out.hb HASK.out.pr HASK.out.c1 HASK.out.c2 HASK.out.c3 _).mono ?_); rintro e w2 ⟨s, c, qs, hs2, hc1, hc2, hql, hq31, rfl, hb2⟩; have HS2 := Aside0.mk (And.intro hs2 (And.intro hc1 hc2)); have HQL := Aside0.mk hql; have HB2 := Aside0.mk (below_step HB1.out hb2); have HA2 := Aside0.mk (blk_below HA1.out hb2); have HL2 := Aside0.mk (And.intro (HL1.out.1.below hb2) (And.intro (HL1.out.2.1.below hb2) (HL1.out.2.2.below hb2))); clear HB1 HA1 HL1 hb2 hs2 hc1 hc2 hql hq31)
    | ((with_reducible refine alloc_two rfl rfl rfl ?_); intro W h5 h6 hb3; obtain ⟨g5, hg5⟩ : ∃ g, w2.heap.size = g := ⟨_, rfl⟩; have hn5 : w.heap.size ≤ w2.heap.size := HB2.out.size; rw [hg5] at h5 h6 hn5 ⊢; have hb4 := below_step HB2.out hb3; have hla := And.intro (HL2.out.1.below hb3) (And.intro (HL2.out.2.1.below hb3) (HL2.out.2.2.below hb3)); have H5 := Aside0.mk h5; have H6 := Aside0.mk h6; have HN5 := Aside0.mk hn5; have HB4 := Aside0.mk hb4; have HL4 := Aside0.mk hla; have HA4 := Aside0.mk (blk_below HA2.out hb3); clear h5 h6 hn5 hb3 hb4 hla HB2 HA2 HL2 hg5)
    | (with_reducible refine alloc_to rfl 53 rfl _ z53 ?_)
    | ((refine store_rowG rfl 53 (.tmp 5) (.tmp 18) rfl g5 #[.int .i64 s, .int .i64 c] rfl rfl 53 _ H5.out (by kernel_rfl) rfl (row53 _ _) ?_); intro W3 hW3 hf3 hbf3; have H53 := Aside0.mk hW3; have H63 := Aside0.mk ((hf3 _ (by omega)).trans H6.out); have HB5 := Aside0.mk (hbf3 _ _ HB4.out HN5.out); have HL5 := Aside0.mk (far_laid (Nat.le_trans H3.out HN5.out) hf3 HL4.out); have HA5 := Aside0.mk ((hf3 w.heap.size (fun e => by have := blk_ne HA4.out H5.out (by decide); exact this e)).trans HA4.out); clear hW3 hf3 hbf3 H5 H6 HB4 HL4 HA4)
    | ((refine store_rowG rfl 55 (.tmp 6) (.tmp 19) rfl (g5 + 1) (qs.map (Value.int .i64)).toArray rfl rfl 55 _ H63.out (by rw [row_sz HQL.out]; kernel_rfl) (by rw [row_sz HQL.out]; rfl) (row_one _) ?_); intro W4 hW4 hf4 hbf4; have hla := far_laid (g := g5 + 1) (by have := H3.out; have := HN5.out; omega) hf4 HL5.out; have HI := Aside0.mk (LI.mk (w0 := w) (w := W4) (cs := cs) (s := s) (c := c) (ps := qs) (g5 := g5) (g6 := g5 + 1) (hbf4 _ _ HB5.out (by have := HN5.out; omega)) ((hf4 _ (fun e => by have := blk_ne HA5.out H63.out (by decide); exact this e)).trans HA5.out) ((hf4 _ (by omega)).trans H53.out) hW4 HN5.out (by have := HN5.out; omega) hla.1 hla.2.1 hla.2.2); clear hW4 hf4 hbf4 hla H53 H63 HB5 HL5 HA5))
  obtain ⟨g6, hg6⟩ : ∃ g, g5 + 1 = g := ⟨_, rfl⟩
  rw [hg6] at HI ⊢
  clear hg6 HN5
  (try simp only [Act.put, List.setIfInBounds_toArray, List.set_cons_zero, List.set_cons_succ])
  go_cut [7] from 20 (fun t7 wc => ∃ (g7 : Nat) (f : Fr), t7 = .pointer (some ⟨g7, 0, none⟩) ∧ Aside0 (LF w wc cs s c qs g5 g6 g7 f) ∧ Aside0 (f.L.length = 92 ∧ (f.si = true ∨ FX f s c (s + 3) 0)))
  case first =>
    refine wp_region_held_drew (S := (fun w1 => LI w w1 cs s c qs g5 g6)) (by kernel_rfl) ?hS0 (fun hHeld => ?_)
    case hS0 => exact HI.out.below (drew_self _)
    refine wpAnyH_take (i := 0) (oi := { dst := some 20, op := Op.load 51 (Operand.tmp 2), type := 51, pos := "law.go:139", after := #[], guard := none }) (v := .agg cs) rfl (by kernel_rfl) (by kernel_rfl) (by kernel_rfl) (fun _ _ _ h => h) (yieldsIf_load_row (by rfl) 51 (.tmp 2) rfl w.heap.size rfl 51 cs (0, 0) _ (fun w1 h1 => h1.a) Tryd.underlying51 rfl HCS.out) hHeld ?_
    (try simp only [Act.put, List.setIfInBounds_toArray, List.set_cons_zero, List.set_cons_succ])
    refine wpAnyH_take (i := 2) (oi := { dst := some 22, op := Op.fieldAddr 53 (Operand.tmp 5) 0, type := 0, pos := "law.go:139", after := #[], guard := none }) (v := ?_) rfl (by kernel_rfl) (by kernel_rfl) (by kernel_rfl) (fun _ _ _ h => h) (Or.inl ⟨by rfl, ?hy1⟩) hHeld ?rest1
    case hy1 => (intro w1 h1; go_simp; (try with_reducible rfl))
    (try simp only [Act.put, List.setIfInBounds_toArray, List.set_cons_zero, List.set_cons_succ])
    refine wpAnyH_take (i := 3) (oi := { dst := some 23, op := Op.load 3 (Operand.tmp 22), type := 3, pos := "law.go:139", after := #[{ on := 2, ground := Ground.data }], guard := none }) (v := ?_) rfl (by kernel_rfl) (by kernel_rfl) (by kernel_rfl) (fun _ _ _ h => h) (Or.inl ⟨by rfl, ?hy2⟩) hHeld ?rest2
    case hy2 => (intro w1 h1; have h1a := (blk_cell h1.m 0).trans rfl; go_simp; (try with_reducible rfl))
    (try simp only [Act.put, List.setIfInBounds_toArray, List.set_cons_zero, List.set_cons_succ])
    refine wpAnyH_take (i := 4) (oi := { dst := some 24, op := Op.fieldAddr 53 (Operand.tmp 5) 1, type := 0, pos := "law.go:139", after := #[], guard := none }) (v := ?_) rfl (by kernel_rfl) (by kernel_rfl) (by kernel_rfl) (fun _ _ _ h => h) (Or.inl ⟨by rfl, ?hy3⟩) hHeld ?rest3
    case hy3 => (intro w1 h1; go_simp; (try with_reducible rfl))
    (try simp only [Act.put, List.setIfInBounds_toArray, List.set_cons_zero, List.set_cons_succ])
    refine wpAnyH_take (i := 5) (oi := { dst := some 25, op := Op.load 3 (Operand.tmp 24), type := 3, pos := "law.go:139", after := #[{ on := 4, ground := Ground.data }], guard := none }) (v := ?_) rfl (by kernel_rfl) (by kernel_rfl) (by kernel_rfl) (fun _ _ _ h => h) (Or.inl ⟨by rfl, ?hy4⟩) hHeld ?rest4
    case hy4 => (intro w1 h1; have h1a := (blk_cell h1.m 1).trans rfl; go_simp; (try with_reducible rfl))
    (try simp only [Act.put, List.setIfInBounds_toArray, List.set_cons_zero, List.set_cons_succ])
    refine wpAnyH_take (i := 6) (oi := { dst := some 26, op := Op.load 55 (Operand.tmp 6), type := 55, pos := "law.go:139", after := #[], guard := none }) (v := .agg (qs.map (Value.int .i64)).toArray) rfl (by kernel_rfl) (by kernel_rfl) (by kernel_rfl) (fun _ _ _ h => h) (yieldsIf_load_row (by rfl) 55 (.tmp 6) rfl g6 rfl 55 (qs.map (Value.int .i64)).toArray (0, 0) _ (fun w1 h1 => h1.p) Tryd.underlying55 rfl (by rw [row_sz HQL.out]; kernel_rfl)) hHeld ?_
    (try simp only [Act.put, List.setIfInBounds_toArray, List.set_cons_zero, List.set_cons_succ])
    refine wpAnyH_take (i := 7) (oi := { dst := some 27, op := Op.fieldAddr 51 (Operand.tmp 2) 4, type := 0, pos := "law.go:139", after := #[], guard := none }) (v := ?_) rfl (by kernel_rfl) (by kernel_rfl) (by kernel_rfl) (fun _ _ _ h => h) (Or.inl ⟨by rfl, ?hy5⟩) hHeld ?rest5
    case hy5 => (intro w1 h1; go_simp; (try with_reducible rfl))
    (try simp only [Act.put, List.setIfInBounds_toArray, List.set_cons_zero, List.set_cons_succ])
    refine wpAnyH_take (i := 8) (oi := { dst := some 28, op := Op.load 49 (Operand.tmp 27), type := 49, pos := "law.go:139", after := #[{ on := 7, ground := Ground.data }], guard := none }) (v := .agg wc.toList.toArray) rfl (by kernel_rfl) (by kernel_rfl) (by kernel_rfl) (fun _ _ _ h => h) (yieldsIf_load_mid (by rfl) 49 (.tmp 27) rfl w.heap.size 13 rfl wc.toList _ (fun w1 h1 => wish_range HASK.out h1.a) Tryd.underlying49 rfl (by rw [Array.length_toList, HASK.out.wsz]; kernel_rfl)) hHeld ?_
    (try simp only [Act.put, List.setIfInBounds_toArray, List.set_cons_zero, List.set_cons_succ])
    rw [show wc.toList.toArray = wc from Array.toArray_toList]
    refine wpAnyH_ready (rs := [1, 10]) (by kernel_rfl) (by simp) ?_
    refine AllReadyH.cons (o := { dst := some 21, op := Op.call { callee := Callee.value (Operand.func 20), args := #[Operand.tmp 20], argTypes := #[51] }, type := 3, pos := "law.go:139", after := #[{ on := 0, ground := Ground.data }], guard := none }) rfl (fun K hK => ?_) ?_
    · refine goes_ (N := some 21) Tryd.func20 (by kernel_rfl) rfl #[.agg cs] (by rfl) rfl rfl (by first | rfl | (simp only [List.map_toArray, List.map_cons, List.map_nil]; rfl)) ?_
      (with_reducible refine (long_call cs _ HASK.out.hx HASK.out.c0 _).mono ?_); rintro e w5 ⟨rfl, hb5⟩
      refine ⟨_, rfl, ?_⟩
      refine hK.out _ _ ?hSn12 (fun hHeld => ?_)
      case hSn12 => exact hHeld.below hb5
      clear hK K
      (try simp only [Act.put, List.setIfInBounds_toArray, List.set_cons_zero, List.set_cons_succ])
      refine wpAnyH_ready (rs := [9, 10]) (by kernel_rfl) (by simp) ?_
      refine AllReadyH.cons (o := { dst := some 29, op := Op.call { callee := Callee.value (Operand.func 19), args := #[Operand.tmp 21, Operand.tmp 23, Operand.tmp 25, Operand.tmp 26, Operand.tmp 28], argTypes := #[3, 3, 3, 55, 49] }, type := 62, pos := "law.go:139", after := #[{ on := 1, ground := Ground.data }, { on := 3, ground := Ground.data }, { on := 5, ground := Ground.data }, { on := 6, ground := Ground.data }, { on := 8, ground := Ground.data }, { on := 1, ground := Ground.chain }], guard := none }) rfl (fun K hK => ?_) ?_
      · refine goes_ (N := some 29) Tryd.func19 (by kernel_rfl) rfl #[.int .i64 (4 + x % 1272), .int .i64 s, .int .i64 c, .agg (qs.map (Value.int .i64)).toArray, .agg wc] (by rfl) rfl rfl (by first | rfl | (simp only [List.map_toArray, List.map_cons, List.map_nil]; rfl)) ?_
        (with_reducible refine (fit_call (4 + x % 1272) s c qs wc si it sp tr HASK.out.w (by have := HASK.out.hx; omega) HS2.out.1 HS2.out.2.1 HS2.out.2.2 HQL.out _).mono ?_); rintro e w6 ⟨f, hfl, hfx, rfl, hb6⟩
        refine ⟨_, rfl, ?_⟩
        refine hK.out _ _ ?hSn10 (fun hHeld => ?_)
        case hSn10 => exact hHeld.below hb6
        clear hK K
        (try simp only [Act.put, List.setIfInBounds_toArray, List.set_cons_zero, List.set_cons_succ])
        refine wpAnyH_ready (rs := [10]) (by kernel_rfl) (by simp) ?_
        refine AllReadyH.cons (o := { dst := some 7, op := Op.alloc 61, type := 0, pos := "law.go:139", after := #[], guard := none }) rfl (fun K hK => ?_) AllReadyH.nil
        rw [if_pos (by rfl)]
        refine wp_alloc_to 61 rfl _ z61 ?_
        obtain ⟨w7, h7, hb7, hn7⟩ : ∃ W, W = (w6).alloc (.cells F0.cells.toArray 61) ∧ W.heap[(w6).heap.size]? = some (.cells F0.cells.toArray 61 (0, 0)) ∧ Below (w6).heap.size (w6) W := ⟨_, rfl, blk_new _ _, below_alloc (Below.refl _ _) _⟩
        rw [← h7]
        obtain ⟨g7, hg7⟩ : ∃ g, (w6).heap.size = g := ⟨_, rfl⟩
        have hlt7 : w.heap.size < g7 := by rw [← hg7]; exact blk_lt hHeld.a
        rw [hg7] at hb7 ⊢
        clear h7 hg7
        have h7 := hb7
        have hb7 := hn7
        clear hn7
        refine hK.out _ _ ?hSn8 (fun hHeld => ?_)
        case hSn8 => exact hHeld.below hb7
        clear hK K
        (try simp only [Act.put, List.setIfInBounds_toArray, List.set_cons_zero, List.set_cons_succ])
        have hI7 := hHeld
        have hLF := LI.frame (f := f) hI7 H3.out h7 hlt7
        refine wpAnyH_ready (rs := [11]) (by kernel_rfl) (by simp) ?_
        refine AllReadyH.cons (o := { dst := none, op := Op.store 61 (Operand.tmp 7) (Operand.tmp 29), type := 0, pos := "law.go:139", after := #[{ on := 10, ground := Ground.data }, { on := 9, ground := Ground.data }, { on := 9, ground := Ground.chain }, { on := 0, ground := Ground.phase }, { on := 1, ground := Ground.phase }, { on := 2, ground := Ground.phase }, { on := 3, ground := Ground.phase }, { on := 4, ground := Ground.phase }, { on := 5, ground := Ground.phase }, { on := 6, ground := Ground.phase }, { on := 7, ground := Ground.phase }, { on := 8, ground := Ground.phase }, { on := 9, ground := Ground.phase }, { on := 10, ground := Ground.phase }], guard := none }) rfl (fun K hK => ?_) AllReadyH.nil
        rw [if_pos (by rfl)]
        refine wp_store_row 61 (.tmp 7) (.tmp 29) rfl g7 f.cells.toArray rfl rfl 61 _ h7 (fr_sz61 f hfl) (by simp [Fr.cells, F0, hfl]) (fr_one f) ?_
        refine hK.out _ _ ?hSn9 (fun hHeld => ?_)
        case hSn9 => exact hLF.l
        clear hK K
        (try simp only [Act.put, List.setIfInBounds_toArray, List.set_cons_zero, List.set_cons_succ])
        refine wpAnyH_done (by kernel_rfl) ?_ _
        go_wp2
        go_meet
        case rel => exact ⟨g7, f, rfl, ⟨hLF⟩, ⟨hfl, hfx⟩⟩
      refine AllReadyH.cons (o := { dst := some 7, op := Op.alloc 61, type := 0, pos := "law.go:139", after := #[], guard := none }) rfl (fun K hK => ?_) ?_
      · rw [if_pos (by rfl)]
        refine wp_alloc_to 61 rfl _ z61 ?_
        obtain ⟨w7, h7, hb7, hn7⟩ : ∃ W, W = (w5).alloc (.cells F0.cells.toArray 61) ∧ W.heap[(w5).heap.size]? = some (.cells F0.cells.toArray 61 (0, 0)) ∧ Below (w5).heap.size (w5) W := ⟨_, rfl, blk_new _ _, below_alloc (Below.refl _ _) _⟩
        rw [← h7]
        obtain ⟨g7, hg7⟩ : ∃ g, (w5).heap.size = g := ⟨_, rfl⟩
        have hlt7 : w.heap.size < g7 := by rw [← hg7]; exact blk_lt hHeld.a
        rw [hg7] at hb7 ⊢
        clear h7 hg7
        have h7 := hb7
        have hb7 := hn7
        clear hn7
        refine hK.out _ _ ?hSn11 (fun hHeld => ?_)
        case hSn11 => exact hHeld.below hb7
        clear hK K
        (try simp only [Act.put, List.setIfInBounds_toArray, List.set_cons_zero, List.set_cons_succ])
        refine wpAnyH_ready (rs := [9]) (by kernel_rfl) (by simp) ?_
        refine AllReadyH.cons (o := { dst := some 29, op := Op.call { callee := Callee.value (Operand.func 19), args := #[Operand.tmp 21, Operand.tmp 23, Operand.tmp 25, Operand.tmp 26, Operand.tmp 28], argTypes := #[3, 3, 3, 55, 49] }, type := 62, pos := "law.go:139", after := #[{ on := 1, ground := Ground.data }, { on := 3, ground := Ground.data }, { on := 5, ground := Ground.data }, { on := 6, ground := Ground.data }, { on := 8, ground := Ground.data }, { on := 1, ground := Ground.chain }], guard := none }) rfl (fun K hK => ?_) AllReadyH.nil
        refine goes_ (N := some 29) Tryd.func19 (by kernel_rfl) rfl #[.int .i64 (4 + x % 1272), .int .i64 s, .int .i64 c, .agg (qs.map (Value.int .i64)).toArray, .agg wc] (by rfl) rfl rfl (by first | rfl | (simp only [List.map_toArray, List.map_cons, List.map_nil]; rfl)) ?_
        (with_reducible refine (fit_call (4 + x % 1272) s c qs wc si it sp tr HASK.out.w (by have := HASK.out.hx; omega) HS2.out.1 HS2.out.2.1 HS2.out.2.2 HQL.out _).mono ?_); rintro e w6 ⟨f, hfl, hfx, rfl, hb6⟩
        refine ⟨_, rfl, ?_⟩
        refine hK.out _ _ ?hSn6 (fun hHeld => ?_)
        case hSn6 => exact hHeld.below hb6
        clear hK K
        (try simp only [Act.put, List.setIfInBounds_toArray, List.set_cons_zero, List.set_cons_succ])
        have h7a := blk_below h7 hb6
        clear h7
        have h7 := h7a
        clear h7a
        have hI7 := hHeld
        have hLF := LI.frame (f := f) hI7 H3.out h7 hlt7
        refine wpAnyH_ready (rs := [11]) (by kernel_rfl) (by simp) ?_
        refine AllReadyH.cons (o := { dst := none, op := Op.store 61 (Operand.tmp 7) (Operand.tmp 29), type := 0, pos := "law.go:139", after := #[{ on := 10, ground := Ground.data }, { on := 9, ground := Ground.data }, { on := 9, ground := Ground.chain }, { on := 0, ground := Ground.phase }, { on := 1, ground := Ground.phase }, { on := 2, ground := Ground.phase }, { on := 3, ground := Ground.phase }, { on := 4, ground := Ground.phase }, { on := 5, ground := Ground.phase }, { on := 6, ground := Ground.phase }, { on := 7, ground := Ground.phase }, { on := 8, ground := Ground.phase }, { on := 9, ground := Ground.phase }, { on := 10, ground := Ground.phase }], guard := none }) rfl (fun K hK => ?_) AllReadyH.nil
        rw [if_pos (by rfl)]
        refine wp_store_row 61 (.tmp 7) (.tmp 29) rfl g7 f.cells.toArray rfl rfl 61 _ h7 (fr_sz61 f hfl) (by simp [Fr.cells, F0, hfl]) (fr_one f) ?_
        refine hK.out _ _ ?hSn7 (fun hHeld => ?_)
        case hSn7 => exact hLF.l
        clear hK K
        (try simp only [Act.put, List.setIfInBounds_toArray, List.set_cons_zero, List.set_cons_succ])
        refine wpAnyH_done (by kernel_rfl) ?_ _
        go_wp2
        go_meet
        case rel => exact ⟨g7, f, rfl, ⟨hLF⟩, ⟨hfl, hfx⟩⟩
      exact AllReadyH.nil
    refine AllReadyH.cons (o := { dst := some 7, op := Op.alloc 61, type := 0, pos := "law.go:139", after := #[], guard := none }) rfl (fun K hK => ?_) ?_
    · rw [if_pos (by rfl)]
      refine wp_alloc_to 61 rfl _ z61 ?_
      obtain ⟨w7, h7, hb7, hn7⟩ : ∃ W, W = (W4.drew).alloc (.cells F0.cells.toArray 61) ∧ W.heap[(W4.drew).heap.size]? = some (.cells F0.cells.toArray 61 (0, 0)) ∧ Below (W4.drew).heap.size (W4.drew) W := ⟨_, rfl, blk_new _ _, below_alloc (Below.refl _ _) _⟩
      rw [← h7]
      obtain ⟨g7, hg7⟩ : ∃ g, (W4.drew).heap.size = g := ⟨_, rfl⟩
      have hlt7 : w.heap.size < g7 := by rw [← hg7]; exact blk_lt hHeld.a
      rw [hg7] at hb7 ⊢
      clear h7 hg7
      have h7 := hb7
      have hb7 := hn7
      clear hn7
      refine hK.out _ _ ?hSn16 (fun hHeld => ?_)
      case hSn16 => exact hHeld.below hb7
      clear hK K
      (try simp only [Act.put, List.setIfInBounds_toArray, List.set_cons_zero, List.set_cons_succ])
      refine wpAnyH_ready (rs := [1]) (by kernel_rfl) (by simp) ?_
      refine AllReadyH.cons (o := { dst := some 21, op := Op.call { callee := Callee.value (Operand.func 20), args := #[Operand.tmp 20], argTypes := #[51] }, type := 3, pos := "law.go:139", after := #[{ on := 0, ground := Ground.data }], guard := none }) rfl (fun K hK => ?_) AllReadyH.nil
      refine goes_ (N := some 21) Tryd.func20 (by kernel_rfl) rfl #[.agg cs] (by rfl) rfl rfl (by first | rfl | (simp only [List.map_toArray, List.map_cons, List.map_nil]; rfl)) ?_
      (with_reducible refine (long_call cs _ HASK.out.hx HASK.out.c0 _).mono ?_); rintro e w5 ⟨rfl, hb5⟩
      refine ⟨_, rfl, ?_⟩
      refine hK.out _ _ ?hSn13 (fun hHeld => ?_)
      case hSn13 => exact hHeld.below hb5
      clear hK K
      (try simp only [Act.put, List.setIfInBounds_toArray, List.set_cons_zero, List.set_cons_succ])
      have h7a := blk_below h7 hb5
      clear h7
      have h7 := h7a
      clear h7a
      refine wpAnyH_ready (rs := [9]) (by kernel_rfl) (by simp) ?_
      refine AllReadyH.cons (o := { dst := some 29, op := Op.call { callee := Callee.value (Operand.func 19), args := #[Operand.tmp 21, Operand.tmp 23, Operand.tmp 25, Operand.tmp 26, Operand.tmp 28], argTypes := #[3, 3, 3, 55, 49] }, type := 62, pos := "law.go:139", after := #[{ on := 1, ground := Ground.data }, { on := 3, ground := Ground.data }, { on := 5, ground := Ground.data }, { on := 6, ground := Ground.data }, { on := 8, ground := Ground.data }, { on := 1, ground := Ground.chain }], guard := none }) rfl (fun K hK => ?_) AllReadyH.nil
      refine goes_ (N := some 29) Tryd.func19 (by kernel_rfl) rfl #[.int .i64 (4 + x % 1272), .int .i64 s, .int .i64 c, .agg (qs.map (Value.int .i64)).toArray, .agg wc] (by rfl) rfl rfl (by first | rfl | (simp only [List.map_toArray, List.map_cons, List.map_nil]; rfl)) ?_
      (with_reducible refine (fit_call (4 + x % 1272) s c qs wc si it sp tr HASK.out.w (by have := HASK.out.hx; omega) HS2.out.1 HS2.out.2.1 HS2.out.2.2 HQL.out _).mono ?_); rintro e w6 ⟨f, hfl, hfx, rfl, hb6⟩
      refine ⟨_, rfl, ?_⟩
      refine hK.out _ _ ?hSn14 (fun hHeld => ?_)
      case hSn14 => exact hHeld.below hb6
      clear hK K
      (try simp only [Act.put, List.setIfInBounds_toArray, List.set_cons_zero, List.set_cons_succ])
      have h7a := blk_below h7 hb6
      clear h7
      have h7 := h7a
      clear h7a
      have hI7 := hHeld
      have hLF := LI.frame (f := f) hI7 H3.out h7 hlt7
      refine wpAnyH_ready (rs := [11]) (by kernel_rfl) (by simp) ?_
      refine AllReadyH.cons (o := { dst := none, op := Op.store 61 (Operand.tmp 7) (Operand.tmp 29), type := 0, pos := "law.go:139", after := #[{ on := 10, ground := Ground.data }, { on := 9, ground := Ground.data }, { on := 9, ground := Ground.chain }, { on := 0, ground := Ground.phase }, { on := 1, ground := Ground.phase }, { on := 2, ground := Ground.phase }, { on := 3, ground := Ground.phase }, { on := 4, ground := Ground.phase }, { on := 5, ground := Ground.phase }, { on := 6, ground := Ground.phase }, { on := 7, ground := Ground.phase }, { on := 8, ground := Ground.phase }, { on := 9, ground := Ground.phase }, { on := 10, ground := Ground.phase }], guard := none }) rfl (fun K hK => ?_) AllReadyH.nil
      rw [if_pos (by rfl)]
      refine wp_store_row 61 (.tmp 7) (.tmp 29) rfl g7 f.cells.toArray rfl rfl 61 _ h7 (fr_sz61 f hfl) (by simp [Fr.cells, F0, hfl]) (fr_one f) ?_
      refine hK.out _ _ ?hSn15 (fun hHeld => ?_)
      case hSn15 => exact hLF.l
      clear hK K
      (try simp only [Act.put, List.setIfInBounds_toArray, List.set_cons_zero, List.set_cons_succ])
      refine wpAnyH_done (by kernel_rfl) ?_ _
      go_wp2
      go_meet
      case rel => exact ⟨g7, f, rfl, ⟨hLF⟩, ⟨hfl, hfx⟩⟩
    exact AllReadyH.nil
  case rest =>
    obtain ⟨g7, f, rfl, HF, HFX⟩ := hcut
    clear HI
    have HFL := Aside0.mk HFX.out.1
    obtain ⟨FIN, hFIN⟩ : ∃ z : Int, (if f.si then sd else (spAll f c (s + 3) (sp0 sd)).sd) = z := ⟨_, rfl⟩
    have HFIN := Aside0.mk hFIN
    have HSPEC : Aside0 (∀ w, Mode.Laid w → Shape.Laid w → Spread.Laid w → Calls Tryd.prog 21 #[.agg #[.int .i64 s, .int .i64 c], .agg f.cells.toArray, .int .u32 sd] w fun e w' => (∃ O : List Int, O.length = 64 ∧ e = .returned (.tuple #[.agg (rowI O), .int .u32 FIN])) ∧ Below w.heap.size w w') := ⟨fun w lm lp ls => by
      obtain ⟨si2, it2, L2⟩ := f
      rw [← hFIN]
      cases si2
      · exact (spec_loud s c it2 L2 sd HS2.out.1 HS2.out.2.1 HS2.out.2.2 HFL.out w lm lp ls).mono (by rintro e w' ⟨he, hb⟩; exact ⟨⟨_, (all_fine HS2.out.2.2 sd (s + 3) (by have := HS2.out; omega)).o, he⟩, hb⟩)
      · exact (spec_silent s c it2 L2 sd HS2.out.1 HS2.out.2.1 HS2.out.2.2 HFL.out w lm lp ls).mono (by rintro e w' ⟨he, hb⟩; exact ⟨⟨_, by simp [zero64], he⟩, hb⟩)⟩
    clear hFIN
    go_upto_region 6 with (first
      | (refine wpList_load_row rfl 53 (.tmp 5) rfl g5 rfl 53 #[.int .i64 s, .int .i64 c] (0, 0) _ HF.out.l.m Tryd.underlying53 rfl (by kernel_rfl) ?_)
      | (refine wpList_load_row rfl 61 (.tmp 7) rfl g7 rfl 61 f.cells.toArray (0, 0) _ HF.out.f7 Tryd.underlying61 rfl (fr_sz61 f HFL.out) ?_)
      | (go_at_call 21; (with_reducible refine (HSPEC.out _ HF.out.l.lm HF.out.l.lp HF.out.l.ls).mono ?_); rintro e w7 ⟨⟨O, hOl, rfl⟩, hb7⟩; have HOL := Aside0.mk hOl; have HF1 := Aside0.mk (HF.out.below hb7); clear HF hb7 hOl; have HF := HF1; clear HF1)
      | (with_reducible refine alloc_to rfl 66 rfl _ z66 ?_)
      | (refine store_fresh rfl 66 (.tmp 8) (.tmp 35) rfl _ (rowI O) _ rfl _ rfl rfl rfl (by rw [rowI_sz, HOL.out]; kernel_rfl) (by rw [rowI_sz, rowI_sz, HOL.out]; rfl) (rowI_one _) ?_))
    have HF2 := Aside0.mk (HF.out.below (below_alloc (Below.refl w7.heap.size w7) (.cells (rowI O) 66)))
    obtain ⟨wq, hwq⟩ : ∃ y, w7.alloc (.cells (rowI O) 66) = y := ⟨_, rfl⟩
    rw [hwq] at HF2 ⊢
    clear hwq HF HSPEC HOL
    have HF := HF2
    clear HF2
    (try simp only [Act.put, List.setIfInBounds_toArray, List.set_cons_zero, List.set_cons_succ])
    cases hsi : f.si
    · have HSI := Aside0.mk hsi
      have HKP : Aside0 (∀ j, j < 5 → 0 ≤ ga f.L (23 + j)) := ⟨by
        rcases HFX.out.2 with h | h
        · rw [hsi] at h; cases h
        · exact fun j hj => (h.k j hj).1⟩
      have HEQ : Aside0 (FIN = wnt f c sd (s + 3)) := ⟨by rw [← HFIN.out, hsi]; exact all_sd HKP.out sd (s + 3) (by have := HS2.out; omega)⟩
      clear hsi
      go_wp2
      go_loopw [10, 11] (fun wv bv wr => ∃ b : Nat, b ≤ s + 3 ∧ wv = .int .u32 (wnt f c sd b) ∧ bv = .int .i64 b ∧ Aside0 (LF w wr cs s c qs g5 g6 g7 f)) (fun wv bv _ => ((s : Int) + 3 - intOf bv).toNat)
      case atStart => exact ⟨0, by omega, rfl, rfl, HF⟩
      case round =>
        obtain ⟨b, hb, rfl, rfl, HF2⟩ := hrel
        clear HF
        have HF := HF2
        clear HF2
        have HU := Aside0.mk (wnt_u32 f c sd HSD.out b)
        obtain ⟨V, hV⟩ : ∃ V, wnt f c sd b = V := ⟨_, rfl⟩
        rw [hV] at HU ⊢
        have HV := Aside0.mk hV
        clear hV
        by_cases ht : b < s + 3
        · have d1 : decide ((b : Int) < (s : Int) + 3) = true := decide_eq_true (by omega)
          have HBB : Aside0 (b + 1 ≤ s + 3 ∧ b ≤ 4 ∧ b < s + 3) := ⟨by omega, by have := HS2.out; omega, ht⟩
          have i3 : (0 : Int) ≤ (b : Int) := by omega
          have i4 : (b : Int) < 5 := by have := HBB.out; omega
          clear ht hb
          by_cases hk : ga f.L (23 + b) = 0
          · have hk1 : (ga f.L (23 + b) == 0) = true := beq_iff_eq.mpr hk
            obtain ⟨N, hN⟩ : ∃ N, bw b * c = N := ⟨_, rfl⟩
            have HN1 : Aside0 (wnt f c sd (b + 1) = iter N V) := ⟨by show (if _ then _ else _) = _; rw [if_pos hk, HV.out, hN]⟩
            have HNB : Aside0 (N ≤ 32) := ⟨by have := bfN_in HBB.out.2.1; have := HS2.out; have := Nat.mul_le_mul (show bw b ≤ 16 by omega) (show c ≤ 2 by omega); omega⟩
            have HNN : Aside0 ((bw b : Int) * (c : Int) = (N : Int)) := ⟨by rw [← hN, Int.natCast_mul]⟩
            clear hk hN
            go_wp2_with (first
              | (refine wpList_load_row rfl 53 (.tmp 5) rfl g5 rfl 53 #[.int .i64 s, .int .i64 c] (0, 0) _ HF.out.l.m Tryd.underlying53 rfl (by kernel_rfl) ?_)
              | (go_at_call 22; (with_reducible refine (mbands_call HS2.out.1 HS2.out.2.1 HS2.out.2.2 _).mono ?_); rintro e w8 ⟨rfl, hb8⟩; have HF1 := Aside0.mk (HF.out.below hb8); clear HF hb8; have HF := HF1; clear HF1; have hs0 : w8.cell? ⟨g7, 0, none⟩ = some (.bool false) := ((blk_cell HF.out.f7 0).trans f.cells_0).trans (by rw [HSI.out]); have hkc := frc HFL.out HF.out.f7 (j := 23 + b) (k := 25 + b) (by have := HBB.out; omega) (by omega)))
            clear d1
            go_loopw [10, 12] (fun wv iv wr => ∃ i : Nat, i ≤ N ∧ wv = .int .u32 (iter i V) ∧ iv = .int .i64 i ∧ Aside0 (LF w wr cs s c qs g5 g6 g7 f)) (fun wv iv _ => ((N : Int) - intOf iv).toNat)
            case atStart => exact ⟨0, by omega, rfl, rfl, HF⟩
            case round =>
              obtain ⟨i, hi, rfl, rfl, HF2⟩ := hrel
              clear HF
              have HF := HF2
              clear HF2
              have HUI := Aside0.mk (iter_u32 i V HU.out)
              obtain ⟨VI, hVI⟩ : ∃ x, iter i V = x := ⟨_, rfl⟩
              rw [hVI] at HUI ⊢
              have HVI := Aside0.mk hVI
              have jm : IntKind.i64.wrap ((bw b : Int) * (c : Int)) = (N : Int) := by rw [HNN.out, i64_w]; exact sw64 (by omega) (by have := HNB.out; omega)
              clear hVI
              by_cases ht : i < N
              · have HII : Aside0 (i + 1 ≤ N) := ⟨ht⟩
                have k1 : (0 : Int) ≤ (i : Int) := by omega
                have k2 : (i : Int) < 32 := by have := HNB.out; omega
                clear hi
                go_wp2
                refine wp_region_held_drew (S := (fun w1 => LF w w1 cs s c qs g5 g6 g7 f)) (by kernel_rfl) ?hS0 (fun hHeld => ?_)
                case hS0 => exact HF.out.below (drew_self _)
                refine wpAnyH_take (i := 0) (oi := { dst := some 54, op := Op.move (Operand.tmp 12), type := 3, pos := "law.go:144", after := #[], guard := none }) (v := ?_) rfl (by kernel_rfl) (by kernel_rfl) (by kernel_rfl) (fun _ _ _ h => h) (Or.inl ⟨by rfl, ?hy17⟩) hHeld ?rest17
                case hy17 => (intro w1 h1; go_simp; (try with_reducible rfl))
                (try simp only [Act.put, List.setIfInBounds_toArray, List.set_cons_zero, List.set_cons_succ])
                refine wpAnyH_take (i := 1) (oi := { dst := some 55, op := Op.load 53 (Operand.tmp 5), type := 53, pos := "law.go:144", after := #[], guard := none }) (v := .agg #[.int .i64 s, .int .i64 c]) rfl (by kernel_rfl) (by kernel_rfl) (by kernel_rfl) (fun _ _ _ h => h) (yieldsIf_load_row (by rfl) 53 (.tmp 5) rfl g5 rfl 53 #[.int .i64 s, .int .i64 c] (0, 0) _ (fun w1 h1 => h1.l.m) Tryd.underlying53 rfl (by kernel_rfl)) hHeld ?_
                (try simp only [Act.put, List.setIfInBounds_toArray, List.set_cons_zero, List.set_cons_succ])
                refine wpAnyH_take (i := 2) (oi := { dst := some 56, op := Op.move (Operand.tmp 11), type := 3, pos := "law.go:144", after := #[], guard := none }) (v := ?_) rfl (by kernel_rfl) (by kernel_rfl) (by kernel_rfl) (fun _ _ _ h => h) (Or.inl ⟨by rfl, ?hy18⟩) hHeld ?rest18
                case hy18 => (intro w1 h1; go_simp; (try with_reducible rfl))
                (try simp only [Act.put, List.setIfInBounds_toArray, List.set_cons_zero, List.set_cons_succ])
                refine wpAnyH_take (i := 4) (oi := { dst := some 58, op := Op.fieldAddr 53 (Operand.tmp 5) 1, type := 0, pos := "law.go:144", after := #[], guard := none }) (v := ?_) rfl (by kernel_rfl) (by kernel_rfl) (by kernel_rfl) (fun _ _ _ h => h) (Or.inl ⟨by rfl, ?hy19⟩) hHeld ?rest19
                case hy19 => (intro w1 h1; go_simp; (try with_reducible rfl))
                (try simp only [Act.put, List.setIfInBounds_toArray, List.set_cons_zero, List.set_cons_succ])
                refine wpAnyH_take (i := 5) (oi := { dst := some 59, op := Op.load 3 (Operand.tmp 58), type := 3, pos := "law.go:144", after := #[{ on := 4, ground := Ground.data }], guard := none }) (v := ?_) rfl (by kernel_rfl) (by kernel_rfl) (by kernel_rfl) (fun _ _ _ h => h) (Or.inl ⟨by rfl, ?hy20⟩) hHeld ?rest20
                case hy20 => (intro w1 h1; have h1a := (blk_cell h1.l.m 1).trans rfl; go_simp; (try with_reducible rfl))
                (try simp only [Act.put, List.setIfInBounds_toArray, List.set_cons_zero, List.set_cons_succ])
                refine wpAnyH_ready (rs := [3]) (by kernel_rfl) (by simp) ?_
                refine AllReadyH.cons (o := { dst := some 57, op := Op.call { callee := Callee.value (Operand.func 23), args := #[Operand.tmp 55, Operand.tmp 56], argTypes := #[53, 3] }, type := 3, pos := "law.go:144", after := #[{ on := 1, ground := Ground.data }, { on := 2, ground := Ground.data }], guard := none }) rfl (fun K hK => ?_) AllReadyH.nil
                refine goes_ (N := some 57) Tryd.func23 (by kernel_rfl) rfl #[.agg #[.int .i64 s, .int .i64 c], .int .i64 b] (by rfl) rfl rfl (by first | rfl | (simp only [List.map_toArray, List.map_cons, List.map_nil]; rfl)) ?_
                (with_reducible refine (mwidth_call HS2.out.1 HS2.out.2.1 HS2.out.2.2 HBB.out.2.2 _ hHeld.l.lm).mono ?_); rintro e w9 ⟨rfl, hb9⟩
                refine ⟨_, rfl, ?_⟩
                refine hK.out _ _ ?hSn21 (fun hHeld => ?_)
                case hSn21 => exact hHeld.below hb9
                clear hK K
                (try simp only [Act.put, List.setIfInBounds_toArray, List.set_cons_zero, List.set_cons_succ])
                refine wpAnyH_take (i := 6) (oi := { dst := some 60, op := Op.binOp BinOp.mul 3 (Operand.tmp 57) (Operand.tmp 59) 3, type := 3, pos := "law.go:144", after := #[{ on := 3, ground := Ground.data }, { on := 5, ground := Ground.data }], guard := none }) (v := ?_) rfl (by kernel_rfl) (by kernel_rfl) (by kernel_rfl) (fun _ _ _ h => h) (Or.inl ⟨by rfl, ?hy22⟩) hHeld ?rest22
                case hy22 => (intro w1 h1; go_simp; (try with_reducible rfl))
                (try simp only [Act.put, List.setIfInBounds_toArray, List.set_cons_zero, List.set_cons_succ])
                refine wpAnyH_take (i := 7) (oi := { dst := some 61, op := Op.binOp BinOp.lss 3 (Operand.tmp 54) (Operand.tmp 60) 3, type := 4, pos := "law.go:144", after := #[{ on := 0, ground := Ground.data }, { on := 6, ground := Ground.data }], guard := none }) (v := ?_) rfl (by kernel_rfl) (by kernel_rfl) (by kernel_rfl) (fun _ _ _ h => h) (Or.inl ⟨by rfl, ?hy23⟩) hHeld ?rest23
                case hy23 => (intro w1 h1; go_simp; (try with_reducible rfl))
                (try simp only [Act.put, List.setIfInBounds_toArray, List.set_cons_zero, List.set_cons_succ])
                refine wpAnyH_done (by kernel_rfl) ?_ _
                have HF9 := Aside0.mk hHeld
                clear HF hb9 hHeld
                have HF := HF9
                clear HF9
                go_wp2_with (first
                  | (go_at_call 24; (with_reducible refine (rlcg_call HUI.out _).mono ?_); rintro e w10 ⟨rfl, hb10⟩; have HF1 := Aside0.mk (HF.out.below hb10); clear HF hb10; have HF := HF1; clear HF1))
                go_roundw
                case rel => exact ⟨i + 1, HII.out, congrArg (Value.int .u32) (by rw [iter_succ, HVI.out]), congrArg (Value.int .i64) (by omega), HF⟩
                case measure => exact meas_q HII.out
              · obtain rfl : i = N := by omega
                clear ht hi
                go_wp2
                refine wp_region_held_drew (S := (fun w1 => LF w w1 cs s c qs g5 g6 g7 f)) (by kernel_rfl) ?hS0 (fun hHeld => ?_)
                case hS0 => exact HF.out.below (drew_self _)
                refine wpAnyH_take (i := 0) (oi := { dst := some 54, op := Op.move (Operand.tmp 12), type := 3, pos := "law.go:144", after := #[], guard := none }) (v := ?_) rfl (by kernel_rfl) (by kernel_rfl) (by kernel_rfl) (fun _ _ _ h => h) (Or.inl ⟨by rfl, ?hy24⟩) hHeld ?rest24
                case hy24 => (intro w1 h1; go_simp; (try with_reducible rfl))
                (try simp only [Act.put, List.setIfInBounds_toArray, List.set_cons_zero, List.set_cons_succ])
                refine wpAnyH_take (i := 1) (oi := { dst := some 55, op := Op.load 53 (Operand.tmp 5), type := 53, pos := "law.go:144", after := #[], guard := none }) (v := .agg #[.int .i64 s, .int .i64 c]) rfl (by kernel_rfl) (by kernel_rfl) (by kernel_rfl) (fun _ _ _ h => h) (yieldsIf_load_row (by rfl) 53 (.tmp 5) rfl g5 rfl 53 #[.int .i64 s, .int .i64 c] (0, 0) _ (fun w1 h1 => h1.l.m) Tryd.underlying53 rfl (by kernel_rfl)) hHeld ?_
                (try simp only [Act.put, List.setIfInBounds_toArray, List.set_cons_zero, List.set_cons_succ])
                refine wpAnyH_take (i := 2) (oi := { dst := some 56, op := Op.move (Operand.tmp 11), type := 3, pos := "law.go:144", after := #[], guard := none }) (v := ?_) rfl (by kernel_rfl) (by kernel_rfl) (by kernel_rfl) (fun _ _ _ h => h) (Or.inl ⟨by rfl, ?hy25⟩) hHeld ?rest25
                case hy25 => (intro w1 h1; go_simp; (try with_reducible rfl))
                (try simp only [Act.put, List.setIfInBounds_toArray, List.set_cons_zero, List.set_cons_succ])
                refine wpAnyH_take (i := 4) (oi := { dst := some 58, op := Op.fieldAddr 53 (Operand.tmp 5) 1, type := 0, pos := "law.go:144", after := #[], guard := none }) (v := ?_) rfl (by kernel_rfl) (by kernel_rfl) (by kernel_rfl) (fun _ _ _ h => h) (Or.inl ⟨by rfl, ?hy26⟩) hHeld ?rest26
                case hy26 => (intro w1 h1; go_simp; (try with_reducible rfl))
                (try simp only [Act.put, List.setIfInBounds_toArray, List.set_cons_zero, List.set_cons_succ])
                refine wpAnyH_take (i := 5) (oi := { dst := some 59, op := Op.load 3 (Operand.tmp 58), type := 3, pos := "law.go:144", after := #[{ on := 4, ground := Ground.data }], guard := none }) (v := ?_) rfl (by kernel_rfl) (by kernel_rfl) (by kernel_rfl) (fun _ _ _ h => h) (Or.inl ⟨by rfl, ?hy27⟩) hHeld ?rest27
                case hy27 => (intro w1 h1; have h1a := (blk_cell h1.l.m 1).trans rfl; go_simp; (try with_reducible rfl))
                (try simp only [Act.put, List.setIfInBounds_toArray, List.set_cons_zero, List.set_cons_succ])
                refine wpAnyH_ready (rs := [3]) (by kernel_rfl) (by simp) ?_
                refine AllReadyH.cons (o := { dst := some 57, op := Op.call { callee := Callee.value (Operand.func 23), args := #[Operand.tmp 55, Operand.tmp 56], argTypes := #[53, 3] }, type := 3, pos := "law.go:144", after := #[{ on := 1, ground := Ground.data }, { on := 2, ground := Ground.data }], guard := none }) rfl (fun K hK => ?_) AllReadyH.nil
                refine goes_ (N := some 57) Tryd.func23 (by kernel_rfl) rfl #[.agg #[.int .i64 s, .int .i64 c], .int .i64 b] (by rfl) rfl rfl (by first | rfl | (simp only [List.map_toArray, List.map_cons, List.map_nil]; rfl)) ?_
                (with_reducible refine (mwidth_call HS2.out.1 HS2.out.2.1 HS2.out.2.2 HBB.out.2.2 _ hHeld.l.lm).mono ?_); rintro e w9 ⟨rfl, hb9⟩
                refine ⟨_, rfl, ?_⟩
                refine hK.out _ _ ?hSn28 (fun hHeld => ?_)
                case hSn28 => exact hHeld.below hb9
                clear hK K
                (try simp only [Act.put, List.setIfInBounds_toArray, List.set_cons_zero, List.set_cons_succ])
                refine wpAnyH_take (i := 6) (oi := { dst := some 60, op := Op.binOp BinOp.mul 3 (Operand.tmp 57) (Operand.tmp 59) 3, type := 3, pos := "law.go:144", after := #[{ on := 3, ground := Ground.data }, { on := 5, ground := Ground.data }], guard := none }) (v := ?_) rfl (by kernel_rfl) (by kernel_rfl) (by kernel_rfl) (fun _ _ _ h => h) (Or.inl ⟨by rfl, ?hy29⟩) hHeld ?rest29
                case hy29 => (intro w1 h1; go_simp; (try with_reducible rfl))
                (try simp only [Act.put, List.setIfInBounds_toArray, List.set_cons_zero, List.set_cons_succ])
                refine wpAnyH_take (i := 7) (oi := { dst := some 61, op := Op.binOp BinOp.lss 3 (Operand.tmp 54) (Operand.tmp 60) 3, type := 4, pos := "law.go:144", after := #[{ on := 0, ground := Ground.data }, { on := 6, ground := Ground.data }], guard := none }) (v := ?_) rfl (by kernel_rfl) (by kernel_rfl) (by kernel_rfl) (fun _ _ _ h => h) (Or.inl ⟨by rfl, ?hy30⟩) hHeld ?rest30
                case hy30 => (intro w1 h1; go_simp; (try with_reducible rfl))
                (try simp only [Act.put, List.setIfInBounds_toArray, List.set_cons_zero, List.set_cons_succ])
                refine wpAnyH_done (by kernel_rfl) ?_ _
                have HF9 := Aside0.mk hHeld
                clear HF hb9 hHeld
                have HF := HF9
                clear HF9
                go_wp2
                go_roundw
                case rel => repeat (first | exact ⟨⟨b + 1, HBB.out.1, congrArg (Value.int .u32) (by rw [HN1.out, HVI.out]), congrArg (Value.int .i64) (by omega), HF⟩, rfl⟩ | exact ⟨b + 1, HBB.out.1, congrArg (Value.int .u32) (by rw [HN1.out, HVI.out]), congrArg (Value.int .i64) (by omega), HF⟩ | apply Exists.intro)
                case measure => exact meas_b HBB.out.1
          · have hk1 : (ga f.L (23 + b) == 0) = false := beq_eq_false_iff_ne.mpr hk
            have HN1 : Aside0 (wnt f c sd (b + 1) = V) := ⟨by show (if _ then _ else _) = _; rw [if_neg hk, HV.out]⟩
            clear hk
            go_wp2_with (first
              | (refine wpList_load_row rfl 53 (.tmp 5) rfl g5 rfl 53 #[.int .i64 s, .int .i64 c] (0, 0) _ HF.out.l.m Tryd.underlying53 rfl (by kernel_rfl) ?_)
              | (go_at_call 22; (with_reducible refine (mbands_call HS2.out.1 HS2.out.2.1 HS2.out.2.2 _).mono ?_); rintro e w8 ⟨rfl, hb8⟩; have HF1 := Aside0.mk (HF.out.below hb8); clear HF hb8; have HF := HF1; clear HF1; have hs0 : w8.cell? ⟨g7, 0, none⟩ = some (.bool false) := ((blk_cell HF.out.f7 0).trans f.cells_0).trans (by rw [HSI.out]); have hkc := frc HFL.out HF.out.f7 (j := 23 + b) (k := 25 + b) (by have := HBB.out; omega) (by omega)))
            go_roundw
            case rel => repeat (first | exact ⟨⟨b + 1, HBB.out.1, congrArg (Value.int .u32) HN1.out.symm, congrArg (Value.int .i64) (by omega), HF⟩, rfl⟩ | exact ⟨b + 1, HBB.out.1, congrArg (Value.int .u32) HN1.out.symm, congrArg (Value.int .i64) (by omega), HF⟩ | apply Exists.intro)
            case measure => exact meas_b HBB.out.1
        · obtain rfl : b = s + 3 := by omega
          have d1 : decide ((s : Int) + 3 < (s : Int) + 3) = false := decide_eq_false (by omega)
          clear ht hb
          have hfe : FIN = V := by rw [HEQ.out, HV.out]
          have hfe2 : (FIN == V) = true := beq_iff_eq.mpr hfe
          go_wp2_with (first
              | (refine wpList_load_row rfl 53 (.tmp 5) rfl g5 rfl 53 #[.int .i64 s, .int .i64 c] (0, 0) _ HF.out.l.m Tryd.underlying53 rfl (by kernel_rfl) ?_)
              | (go_at_call 22; (with_reducible refine (mbands_call HS2.out.1 HS2.out.2.1 HS2.out.2.2 _).mono ?_); rintro e w8 ⟨rfl, hb8⟩; have HF1 := Aside0.mk (HF.out.below hb8); clear HF hb8; have HF := HF1; clear HF1; have hs0 : w8.cell? ⟨g7, 0, none⟩ = some (.bool false) := ((blk_cell HF.out.f7 0).trans f.cells_0).trans (by rw [HSI.out])))
          go_ret
          exact ⟨by simp [hfe], HF.out.l.b⟩
    · have HSI := Aside0.mk hsi
      have hfe : FIN = sd := by rw [← HFIN.out, hsi]; rfl
      have hfe2 : (FIN == sd) = true := beq_iff_eq.mpr hfe
      have HFE := Aside0.mk (And.intro hfe hfe2)
      clear hsi hfe hfe2
      have HB3 : Aside0 (0 < s + 3) := ⟨by omega⟩
      go_wp2
      go_loopw [10, 11] (fun wv bv wr => wv = .int .u32 sd ∧ bv = .int .i64 0 ∧ Aside0 (LF w wr cs s c qs g5 g6 g7 f)) (fun wv bv _ => 0)
      case atStart => exact ⟨rfl, rfl, HF⟩
      case round =>
        obtain ⟨rfl, rfl, HF2⟩ := hrel
        clear HF
        have HF := HF2
        clear HF2
        have d1 : decide ((0 : Int) < (s : Int) + 3) = true := decide_eq_true (by omega)
        obtain ⟨hfe, hfe2⟩ := HFE.out
        go_wp2_with (first
              | (refine wpList_load_row rfl 53 (.tmp 5) rfl g5 rfl 53 #[.int .i64 s, .int .i64 c] (0, 0) _ HF.out.l.m Tryd.underlying53 rfl (by kernel_rfl) ?_)
              | (go_at_call 22; (with_reducible refine (mbands_call HS2.out.1 HS2.out.2.1 HS2.out.2.2 _).mono ?_); rintro e w8 ⟨rfl, hb8⟩; have HF1 := Aside0.mk (HF.out.below hb8); clear HF hb8; have HF := HF1; clear HF1; have hs0 : w8.cell? ⟨g7, 0, none⟩ = some (.bool true) := ((blk_cell HF.out.f7 0).trans f.cells_0).trans (by rw [HSI.out])))
        go_ret
        exact ⟨by simp [hfe], HF.out.l.b⟩
end Go.Proofs.YtjpnbdofbkoddaaDoor.Sh
namespace Go.Proofs.YtjpnbdofbkoddaaDoor.Sh
open Go.RowKit Go.Proofs.YtjpnbdofbkoddaaDoorW.PrintWords Go.Proofs.YtjpnbdofbkoddaaDoorW.PrintLast Go.Proofs.YtjpnbdofbkoddaaDoorW.PrintMore
open Go.ChangeShapes Go.WideShapes Go.Deep
set_option linter.unusedVariables false
set_option linter.unusedSimpArgs false
section
variable {H : Type} {enc : TypeId × Value → H} {P : Program} {w : World} {base : Nat} {spare : Nat → Bool} {held : Bool}
theorem trod_arrs {t u e : TypeId} {m n : Nat} {k : IntKind} {fuel : Nat} {cs : List Value} {x : DataW H × List MemPlace} (ht : P.underlying t = some (.array m u)) (hu : P.underlying u = some (.array n e)) (he : P.underlying e = some (.int k)) (hce : P.cellsOf e = 1) (hcu : P.cellsOf u = n) (hct : P.cellsOf t = m * n)
    (h : DataW.trod enc P w base spare held fuel t cs = some x) : cs.length = m * n ∧ ∀ j, j < m * n → ∃ q : Int, cs[j]? = some (.int k q) ∧ (Lit.int k q).wf = true := by
  obtain ⟨ys, q, rfl, _, hl, hyl, hy⟩ := DataW.trod_array ht h
  refine ⟨by rw [hl, hct], fun j hj => ?_⟩
  have hn : 0 < n := by
    rcases Nat.eq_zero_or_pos n with h | h
    · subst h; omega
    · exact h
  have hi : j / n < m := by rw [Nat.div_lt_iff_lt_mul hn]; exact hj
  have h5 := hy (j / n) hi
  rw [List.getElem?_eq_getElem (by omega)] at h5
  obtain ⟨zs, hz, hc, hw⟩ := Arrs.trod_ints hu he hce hcu h5
  have hr := Nat.mod_lt j hn
  refine ⟨rd zs (j % n : Nat), ?_, hw _ ?_⟩
  · have h8 := congrArg (fun l : List Value => l[j % n]?) hc
    simp only [List.getElem?_take, List.getElem?_drop, Arrs.nums_at (k := k) (xs := zs) (j := j % n) (by omega), hcu, if_pos hr] at h8
    have e : j / n * n + j % n = j := by rw [Nat.mul_comm]; exact Nat.div_add_mod j n
    rw [e] at h8
    exact h8
  · unfold rd; rw [Int.toNat_natCast, List.getD_eq_getElem?_getD, List.getElem?_eq_getElem (by omega)]; exact List.getElem_mem _
theorem sub_at {cs l : List Value} {o n j : Nat} (h : (cs.drop o).take n = l) {v : Value} (hj : l[j]? = some v) : cs[o + j]? = some v := by
  subst h
  rw [List.getElem?_take] at hj
  split at hj
  · rwa [List.getElem?_drop] at hj
  · cases hj
theorem wf_u8 {n : Int} (h : (Lit.int .u8 n).wf = true) : 0 ≤ n ∧ n ≤ 255 := by
  have h2 : IntKind.u8.min ≤ n ∧ n ≤ IntKind.u8.max := by simpa [Lit.wf] using h
  rw [show IntKind.u8.min = 0 by decide, show IntKind.u8.max = 255 by decide] at h2
  first | exact h2 | (exact ⟨h2.1, by omega⟩)
theorem wf_u16 {n : Int} (h : (Lit.int .u16 n).wf = true) : 0 ≤ n ∧ n < 65536 := by
  have h2 : IntKind.u16.min ≤ n ∧ n ≤ IntKind.u16.max := by simpa [Lit.wf] using h
  rw [show IntKind.u16.min = 0 by decide, show IntKind.u16.max = 65535 by decide] at h2
  first | exact h2 | (exact ⟨h2.1, by omega⟩)
theorem wf_i8 {n : Int} (h : (Lit.int .i8 n).wf = true) : -128 ≤ n ∧ n ≤ 127 := by
  have h2 : IntKind.i8.min ≤ n ∧ n ≤ IntKind.i8.max := by simpa [Lit.wf] using h
  rw [show IntKind.i8.min = -128 by decide, show IntKind.i8.max = 127 by decide] at h2
  first | exact h2 | (exact ⟨h2.1, by omega⟩)
theorem wf_u64 {n : Int} (h : (Lit.int .u64 n).wf = true) : 0 ≤ n ∧ n < 18446744073709551616 := by
  have h2 : IntKind.u64.min ≤ n ∧ n ≤ IntKind.u64.max := by simpa [Lit.wf] using h
  rw [show IntKind.u64.min = 0 by decide, show IntKind.u64.max = 18446744073709551615 by decide] at h2
  first | exact h2 | (exact ⟨h2.1, by omega⟩)
theorem wf_u32' {n : Int} (h : (Lit.int .u32 n).wf = true) : NoisePlain.U32 n := by
  have h2 : IntKind.u32.min ≤ n ∧ n ≤ IntKind.u32.max := by simpa [Lit.wf] using h
  rw [show IntKind.u32.min = 0 by decide, show IntKind.u32.max = 4294967295 by decide] at h2
  first | exact h2 | (exact ⟨h2.1, by omega⟩)
end
section
variable {H : Type} {enc : TypeId × Value → H} {w : World} {base b0 : Nat} {spare : Nat → Bool} {held : Bool}
theorem field_at {fs : List Value} {xs : List (DataW H × List MemPlace)} {i : Nat} (hi : i < xs.length) {o : Option (DataW H × List MemPlace)} (h : o = xs[i]?) : ∃ x, o = some x := ⟨_, h.trans (List.getElem?_eq_getElem hi)⟩
theorem open_wish {fuel : Nat} {cs : List Value} {x : DataW H × List MemPlace} (h : DataW.trod enc Tryd.prog w base spare held fuel 49 cs = some x) : cs.length = 34 ∧ ∃ si it sp tr, Wish cs.toArray si it sp tr := by
  obtain ⟨xs, n, _, _, hl, hxl, hx⟩ := DataW.trod_struct Tryd.underlying49 h
  have hl34 : cs.length = 34 := by rw [hl]; kernel_rfl
  have hx7 : xs.length = 7 := hxl
  obtain ⟨y0, h0⟩ := field_at (fs := cs) (i := 0) (by omega) (hx 0 _ rfl)
  obtain ⟨y1, h1⟩ := field_at (fs := cs) (i := 1) (by omega) (hx 1 _ rfl)
  obtain ⟨y2, h2⟩ := field_at (fs := cs) (i := 2) (by omega) (hx 2 _ rfl)
  obtain ⟨y3, h3⟩ := field_at (fs := cs) (i := 3) (by omega) (hx 3 _ rfl)
  obtain ⟨y4, h4⟩ := field_at (fs := cs) (i := 4) (by omega) (hx 4 _ rfl)
  obtain ⟨y5, h5⟩ := field_at (fs := cs) (i := 5) (by omega) (hx 5 _ rfl)
  obtain ⟨y6, h6⟩ := field_at (fs := cs) (i := 6) (by omega) (hx 6 _ rfl)
  obtain ⟨si, e0, _⟩ := DataW.trod_bool Tryd.underlying4 h0
  obtain ⟨it, e1, _⟩ := DataW.trod_bool Tryd.underlying4 h1
  obtain ⟨sp, e2, _, w2⟩ := DataW.trod_int Tryd.underlying5 h2
  obtain ⟨tr, e3, _, w3⟩ := DataW.trod_int Tryd.underlying5 h3
  obtain ⟨l4, a4⟩ := trod_arrs Tryd.underlying44 Tryd.underlying43 Tryd.underlying42 (by kernel_rfl) (by kernel_rfl) (by kernel_rfl) h4
  obtain ⟨l5, a5⟩ := trod_arrs Tryd.underlying41 Tryd.underlying40 Tryd.underlying5 (by kernel_rfl) (by kernel_rfl) (by kernel_rfl) h5
  obtain ⟨l6, a6⟩ := trod_arrs Tryd.underlying47 Tryd.underlying46 Tryd.underlying45 (by kernel_rfl) (by kernel_rfl) (by kernel_rfl) h6
  refine ⟨hl34, si, it, sp, tr, ?_, ?_, ?_, ?_, wf_u8 w2, wf_u8 w3, fun j hj => ?_, fun j hj => ?_, fun j hj => ?_⟩
  · rw [List.getElem?_toArray]; exact sub_at (j := 0) e0 rfl
  · rw [List.getElem?_toArray]; exact sub_at (j := 0) e1 rfl
  · rw [List.getElem?_toArray]; exact sub_at (j := 0) e2 rfl
  · rw [List.getElem?_toArray]; exact sub_at (j := 0) e3 rfl
  · obtain ⟨q, hq, hw⟩ := a4 j hj
    exact ⟨q, by rw [List.getElem?_toArray]; exact sub_at rfl hq, wf_i8 hw⟩
  · obtain ⟨q, hq, hw⟩ := a5 j hj
    exact ⟨q, by rw [List.getElem?_toArray]; exact sub_at rfl hq, wf_u8 hw⟩
  · obtain ⟨q, hq, hw⟩ := a6 j hj
    exact ⟨q, by rw [List.getElem?_toArray]; exact sub_at rfl hq, wf_u64 hw⟩
set_option maxRecDepth 100000 in
theorem open_ask {r : Reach} {v : Value} {d : DataW H} {p : List MemPlace} (hv : Value.okWide Tryd.prog w r b0 51 v) (h : DataW.Trod enc Tryd.prog w base spare held 51 v d p) :
    ∃ (cs wc : Array Value) (x a b : Int) (ps : List Int) (si it : Bool) (sp tr : Int), v = .agg cs ∧ Ask cs wc x a b ps si it sp tr := by
  simp only [Value.okWide, Tryd.underlying51] at hv
  obtain ⟨cs, rfl, hsz, _⟩ := hv
  obtain ⟨fuel, hf⟩ := h
  have hcs : (Value.agg cs).cells.toList = cs.toList := rfl
  rw [hcs] at hf
  obtain ⟨xs, n, _, _, hl, hxl, hx⟩ := DataW.trod_struct Tryd.underlying51 hf
  have hl47 : cs.size = 47 := by rw [hsz]; kernel_rfl
  have hx5 : xs.length = 5 := hxl
  obtain ⟨y0, h0⟩ := field_at (fs := cs.toList) (i := 0) (by omega) (hx 0 _ rfl)
  obtain ⟨y1, h1⟩ := field_at (fs := cs.toList) (i := 1) (by omega) (hx 1 _ rfl)
  obtain ⟨y2, h2⟩ := field_at (fs := cs.toList) (i := 2) (by omega) (hx 2 _ rfl)
  obtain ⟨y3, h3⟩ := field_at (fs := cs.toList) (i := 3) (by omega) (hx 3 _ rfl)
  obtain ⟨y4, h4⟩ := field_at (fs := cs.toList) (i := 4) (by omega) (hx 4 _ rfl)
  obtain ⟨x, e0, _, w0⟩ := DataW.trod_int Tryd.underlying39 h0
  obtain ⟨a, e1, _, w1⟩ := DataW.trod_int Tryd.underlying5 h1
  obtain ⟨b, e2, _, w2⟩ := DataW.trod_int Tryd.underlying5 h2
  obtain ⟨l3, a3⟩ := trod_arrs Tryd.underlying41 Tryd.underlying40 Tryd.underlying5 (by kernel_rfl) (by kernel_rfl) (by kernel_rfl) h3
  obtain ⟨l4, si, it, sp, tr, hw⟩ := open_wish h4
  obtain ⟨F, hF⟩ := choose_lt a3
  refine ⟨cs, _, x, a, b, (List.range 10).map F, si, it, sp, tr, rfl, hl47, ?_, wf_u16 w0, ?_, ?_, wf_u8 w1, wf_u8 w2, by simp, ?_, ?_, by simpa using l4, ?_, hw⟩
  · rw [← Array.getElem?_toList]; exact sub_at (j := 0) e0 rfl
  · rw [← Array.getElem?_toList]; exact sub_at (j := 0) e1 rfl
  · rw [← Array.getElem?_toList]; exact sub_at (j := 0) e2 rfl
  · intro q hq
    obtain ⟨i, hi, rfl⟩ := List.mem_map.1 hq
    exact wf_u8 (hF i (by simpa using hi)).2
  · intro j v hv
    rw [List.getElem?_map] at hv
    obtain ⟨q, hq, rfl⟩ := Option.map_eq_some_iff.1 hv
    rw [List.getElem?_map] at hq
    obtain ⟨i, hi, rfl⟩ := Option.map_eq_some_iff.1 hq
    have hj : j < 10 := by
      have := (List.getElem?_eq_some_iff.1 hi).1
      simpa using this
    rw [List.getElem?_range hj] at hi
    rw [← Option.some.inj hi, ← Array.getElem?_toList]
    exact sub_at rfl (hF j (by omega)).1
  · intro j v hv
    have hv2 := hv
    rw [List.toList_toArray] at hv2
    rw [← Array.getElem?_toList]
    exact sub_at rfl hv2
end
end Go.Proofs.YtjpnbdofbkoddaaDoor.Sh
namespace Go.Proofs.YtjpnbdofbkoddaaDoor.Sh
open Go.RowKit Go.Proofs.YtjpnbdofbkoddaaDoorW.PrintWords Go.Proofs.YtjpnbdofbkoddaaDoorW.PrintLast Go.Proofs.YtjpnbdofbkoddaaDoorW.PrintMore
set_option linter.unusedVariables false
set_option linter.unusedSimpArgs false
theorem laid_tail {P : Program} {x : String × DataW Unit} {rest : List (String × DataW Unit)} {W : World} (h : laidMet P (x :: rest) W) : laidMet P rest W := by
  obtain ⟨ps, ⟨g', t', cs, fuel, p, q, hg', ht', hvar, hd, h1, h2⟩, hn, hm⟩ := h
  first
    | (subst h2; exact ⟨q, h1, (List.nodup_append.1 hn).2.1, fun b off hb => hm b off (List.mem_append_right _ hb)⟩)
    | (subst h1; exact ⟨q, h2, (List.nodup_append.1 hn).2.1, fun b off hb => hm b off (List.mem_append_right _ hb)⟩)
theorem laid_one {P : Program} {x : String × DataW Unit} {rest : List (String × DataW Unit)} {W : World} (h : laidMet P (x :: rest) W) : laidMet P [x] W := by
  obtain ⟨ps, ⟨g', t', cs, fuel, p, q, hg', ht', hvar, hd, h1, h2⟩, hn, hm⟩ := h
  subst h2
  exact ⟨_, ⟨g', t', cs, fuel, p, [], hg', ht', hvar, hd, rfl, rfl⟩, (by rw [List.append_nil]; exact (List.nodup_append.1 hn).1), fun b off hb => hm b off (List.mem_append_left _ (by rwa [List.append_nil] at hb))⟩
theorem laid3 {W : World} (h : laidMetH Tryd.prog [("spinet/mode.widths", Rows.laid_spinet_mode_widths), ("spinet/pow.steps", Rows.laid_spinet_pow_steps), ("spinet/spread.angles", Rows.laid_spinet_spread_angles)] W) : Mode.Laid W ∧ Shape.Laid W ∧ Spread.Laid W := by
  rw [MakeChecks.laidMetH_plain _ _ _ (by kernel_rfl)] at h
  refine ⟨Mode.of_laid ?_, Shape.of_laid ?_, Spread.of_laid ?_⟩
  · rw [MakeChecks.laidMetH_plain _ _ _ (by kernel_rfl)]
    exact laid_one h
  · rw [MakeChecks.laidMetH_plain _ _ _ (by kernel_rfl)]
    exact laid_one (laid_tail h)
  · rw [MakeChecks.laidMetH_plain _ _ _ (by kernel_rfl)]
    exact laid_one (laid_tail (laid_tail h))
theorem seeds_row {cs wc : Array Value} {x a b : Int} {ps : List Int} {si it : Bool} {sp tr : Int} (hask : Ask cs wc x a b ps si it sp tr) {sd : Int} (hsd : (Lit.int .u32 sd).wf = true) (w : World) (h : Mode.Laid w ∧ Shape.Laid w ∧ Spread.Laid w) :
    Calls Tryd.prog 5 #[.agg cs, .int .u32 sd] w fun e w' => e = .returned (.bool true) ∧ Below w.heap.size w w' := seeds_call cs wc x a b ps si it sp tr sd hask (wf_u32' hsd) w h.1 h.2.1 h.2.2
end Go.Proofs.YtjpnbdofbkoddaaDoor.Sh

