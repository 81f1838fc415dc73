import Derived.Test.YtjpnbdofbkoddaaDoorMgGT
import Derived.DeepKeys
import Derived.Great.BuildSlice
import Derived.BigFrame
import Derived.Test.YtjpnbdofbkoddaaDoorArrsT
import Derived.Test.YtjpnbdofbkoddaaDoorShoT
set_option linter.unusedVariables false
set_option linter.unusedSimpArgs false
namespace Go.Proofs.YtjpnbdofbkoddaaDoor.Sh
open Go.RowKit Go.Proofs.YtjpnbdofbkoddaaDoorW.PrintWords Go.Proofs.YtjpnbdofbkoddaaDoorW.PrintLast Go.Proofs.YtjpnbdofbkoddaaDoorW.PrintMore
open Go.Proofs.YtjpnbdofbkoddaaDoor.OShapeSeeds Go.Proofs.YtjpnbdofbkoddaaDoor.Sy Go.Proofs.YtjpnbdofbkoddaaDoor.SyWalk Go.Proofs.YtjpnbdofbkoddaaDoor.WrWalk
open Go.Proofs.YtjpnbdofbkoddaaDoor.ShapePlain (sc sc_len sc_in len pv)
open Go.Proofs.YtjpnbdofbkoddaaDoor.NoisePlain (fo fo_len fo_in hd lcg nz fz fv em ch)
open Go.Proofs.YtjpnbdofbkoddaaDoor.Spread (sp sp_len)
open Go.Proofs.YtjpnbdofbkoddaaDoor.Shape (ex ld)
attribute [local go_sem] max2_int min2_int max_two min_two max_three min_three max_four min_four
set_option maxHeartbeats 1000000 in
set_option maxRecDepth 100000 in
theorem new_call (a b : Int) (w : World) : Calls Tryd.prog 27 #[.agg #[.int .i64 a, .int .i64 b]] w fun e w' => ∃ g, e = .returned (.pointer (some ⟨g, 0, none⟩)) ∧ ShB w' g a b (List.replicate 64 0) ∧ w.heap.size ≤ g ∧ Below w.heap.size w w' := by
 have hu53 := Tryd.underlying53
 have hu120 := Tryd.underlying120
 have HB := Aside0.mk (Below.refl w.heap.size w)
 go_enter Tryd.func27, Tryd.ntmps27
 go_wp2
 go_ret
 refine ⟨_, rfl, ?_, Nat.le_succ _, below_alloc (below_alloc HB.out _) _⟩
 have h := blk_new (w.alloc (Obj.cells #[Value.int IntKind.i64 a, Value.int IntKind.i64 b] 53)) (Obj.cells (shc a b (List.replicate 64 0)) 120)
 rw [show (w.alloc (Obj.cells #[Value.int IntKind.i64 a, Value.int IntKind.i64 b] 53)).heap.size = w.heap.size + 1 by simp [World.alloc_eq]] at h
 exact h
theorem length_call (l : List Int) (n : Nat) (hn : l.length = n) (A0 : Option Addr) (c : Nat) (w : World) (hC : Kd.C (Kd.int .i32) w A0 n l) (hc : n ≤ c) : Calls Tryd.prog 33 #[.slice A0 n c] w fun en w' => en = .returned (.int .u64 (len l)) ∧ Below w.heap.size w w' := by
 subst hn
 exact OShapeScales.root_Length.calls 4294967300 A0 c l (len l) w hC hc (ShapePlain.length_fn l)
theorem part_call (g : Int) (l : List Int) {x : Int} (hx : ShapePlain.I32 x) (w : World) : Calls Tryd.prog 34 #[.int .i32 x, .int .i64 g, .int .u64 (len l)] w fun en w' => en = .returned (.int .i32 (pv g (len l) x)) ∧ Below w.heap.size w w' :=
 OShapeScales.shape_part.calls x _ _ _ w (ShapePlain.part_fn _ _ x hx (ShapePlain.len_in l))
structure NI (w0 w : World) (a b : Int) (f : Fr) (gs go gf : Nat) (L O : List Int) : Prop where
 ft : Foot (fun k => k = gs ∨ k = go) w0 w
 sh : ShB w gs a b L
 ll : L.length = 64
 out : w.heap[go]? = some (.cells (rowI O) 66 (0, 0))
 ol : O.length = 64
 fr : w.heap[gf]? = some (.cells f.cells.toArray 61 (0, 0))
 s3 : 3 ≤ gs
 o3 : 3 ≤ go
 lm : Mode.Laid w
 lp : Shape.Laid w
 ls : Spread.Laid w
section
variable {w0 w w1 : World} {a b : Int} {f : Fr} {gs go gf : Nat} {L O : List Int}
theorem foot_laid {S : Nat → Prop} (h : Mode.Laid w ∧ Shape.Laid w ∧ Spread.Laid w) (hf : Foot S w w1) (hS : ∀ k, k < 3 → ¬ S k) : Mode.Laid w1 ∧ Shape.Laid w1 ∧ Spread.Laid w1 := by
 have h3 := laid_size h.2.2
 have far : ∀ k, k < 3 → w1.heap[k]? = w.heap[k]? := fun k hk => hf.k k (by omega) (hS k hk)
 exact ⟨mode_far h.1 far, pow_far h.2.1 far, spread_far h.2.2 far⟩
theorem NI.below (h : NI w0 w a b f gs go gf L O) (hb : Below w.heap.size w w1) : NI w0 w1 a b f gs go gf L O := by
 obtain ⟨ft, sh, ll, out, ol, fr, s3, o3, lm, lp, ls⟩ := h
 exact ⟨ft.step hb, blk_below sh hb, ll, blk_below out hb, ol, blk_below fr hb, s3, o3, lm.below hb, lp.below hb, ls.below hb⟩
theorem NI.shift (h : NI w0 w a b f gs go gf L O) (hf : Ft gs w w1) {L2 : List Int} (hl : L2.length = 64) (hs : ShB w1 gs a b L2) : NI w0 w1 a b f gs go gf L2 O := by
 obtain ⟨ft, sh, ll, out, ol, fr, s3, o3, lm, lp, ls⟩ := h
 have e1 : go ≠ gs := blk_ne out sh (by decide)
 have e2 : gf ≠ gs := blk_ne fr sh (by decide)
 have hl3 := foot_laid ⟨lm, lp, ls⟩ hf (fun k hk e => by omega)
 exact ⟨ft.trans (hf.mono (fun k _ hk => .inl hk)), hs, hl, (hf.k _ (blk_lt out) e1).trans out, ol, (hf.k _ (blk_lt fr) e2).trans fr, s3, o3, hl3.1, hl3.2.1, hl3.2.2⟩
theorem NI.putS (h : NI w0 w a b f gs go gf L O) {j k : Nat} (hk : k = 2 + j) (v : Int) : NI w0 (w.setCell ⟨gs, k, none⟩ (.int .i32 v)) a b f gs go gf (L.set j v) O :=
 h.shift (Foot.set_ (ok := fun k => k = gs) (Foot.refl _ _) (p := ⟨gs, k, none⟩) rfl _) (by rw [List.length_set]; exact h.ll) (shb_put h.sh hk v)
theorem rowI_set (l : List Int) (j : Nat) (v : Int) : (rowI l).setIfInBounds j (.int .i32 v) = rowI (l.set j v) := by simp [rowI]
theorem rowI_at {l : List Int} {j : Nat} (h : j < l.length) : (rowI l)[j]? = some (.int .i32 (ga l j)) := by
 simp [rowI, ga, List.getD, h]
theorem NI.putO (h : NI w0 w a b f gs go gf L O) (j : Nat) (v : Int) : NI w0 (w.setCell ⟨go, j, none⟩ (.int .i32 v)) a b f gs go gf L (O.set j v) := by
 obtain ⟨ft, sh, ll, out, ol, fr, s3, o3, lm, lp, ls⟩ := h
 have e1 : gs ≠ go := blk_ne sh out (by decide)
 have e2 : gf ≠ go := blk_ne fr out (by decide)
 have far : ∀ k, k ≠ go → (w.setCell ⟨go, j, none⟩ (.int .i32 v)).heap[k]? = w.heap[k]? := fun k hk => Below.heap_setCell _ _ _ _ hk
 have hf : Foot (fun k => k = go) w (w.setCell ⟨go, j, none⟩ (.int .i32 v)) := Foot.set_ (ok := fun k => k = go) (Foot.refl _ _) (p := ⟨go, j, none⟩) rfl _
 have hl3 := foot_laid ⟨lm, lp, ls⟩ hf (fun k hk e => by omega)
 exact ⟨ft.trans (hf.mono (fun k _ hk => .inr hk)), (far _ e1).trans sh, ll, blk_put out j _ (rowI_set _ _ _), by rw [List.length_set]; exact ol, (far _ e2).trans fr, s3, o3, hl3.1, hl3.2.1, hl3.2.2⟩
theorem NI.rowO (h : NI w0 w a b f gs go gf L O) (hW : w1.heap[go]? = some (.cells (rowI zero64) 66 (0, 0))) (hf : ∀ k, k ≠ go → w1.heap[k]? = w.heap[k]?) (hb : ∀ B w0, Below B w0 w → B ≤ go → Below B w0 w1) : NI w0 w1 a b f gs go gf L zero64 := by
 obtain ⟨ft, sh, ll, out, ol, fr, s3, o3, lm, lp, ls⟩ := h
 have e1 : gs ≠ go := blk_ne sh out (by decide)
 have e2 : gf ≠ go := blk_ne fr out (by decide)
 have hl3 := far_laid o3 hf ⟨lm, lp, ls⟩
 have hft : Foot (fun k => k = go) w w1 := ⟨hb 0 w (Below.refl _ _) (Nat.zero_le _), fun k _ hk => hf k hk⟩
 exact ⟨ft.trans (hft.mono (fun k _ hk => .inr hk)), (hf _ e1).trans sh, ll, hW, by simp [zero64], (hf _ e2).trans fr, s3, o3, hl3.1, hl3.2.1, hl3.2.2⟩
end
def pwd : Nat → Nat | 0 => 0 | b + 1 => bw b
def pfr : Nat → Nat | 0 => 0 | b + 1 => bfN b
theorem pfr_in : ∀ b : Nat, b ≤ 4 → pfr b + pwd b = bfN b ∧ pwd b ≤ 16
 | 0, _ => ⟨rfl, by decide⟩
 | 1, _ => ⟨rfl, by decide⟩
 | 2, _ => ⟨rfl, by decide⟩
 | 3, _ => ⟨rfl, by decide⟩
 | 4, _ => ⟨rfl, by decide⟩
 | _ + 5, h => by omega
def QI (c b q : Nat) (y : Sp) (L : List Int) : Prop := ∀ p, p < c → (if p < q then sl L (p * 32 + bfN b) (bw b) else sl L (p * 32 + pfr b) (pwd b)) = (if p = 0 then y.l0 else y.l1)
def ZI (c b : Nat) (z : Sp) (L : List Int) : Prop := ∀ p, p < c → sl L (p * 32 + pfr b) (pwd b) = (if p = 0 then z.l0 else z.l1)
theorem ZI.start (c : Nat) (sd : Int) (L : List Int) : ZI c 0 (sp0 sd) L := fun p hp => by
 show (L.drop _).take 0 = _
 rw [List.take_zero]
 split <;> rfl
theorem ZI.open_ {c b : Nat} {z : Sp} {L : List Int} (h : ZI c b z L) : QI c b 0 z L := fun p hp => by rw [if_neg (by omega)]; exact h p hp
theorem QI.close {c b : Nat} {z : Sp} {L : List Int} (h : QI c b c z L) : ZI c (b + 1) z L := fun p hp => by
 have := h p hp
 rw [if_pos hp] at this
 exact this
theorem QI.step {c b q : Nat} {f : Fr} {y : Sp} {L : List Int} (h : QI c b q y L) (hc : c ≤ 2) (hq : q < c) (hb : b ≤ 4) (hl : L.length = 64) (hx : (shp f q b y).1.length = bw b) : QI c b (q + 1) (spStep f b q y) (spl L (q * 32 + bfN b) (shp f q b y).1) := fun p hp => by
 have hbn := bfN_in hb
 have hpf := pfr_in b hb
 have hlen : q * 32 + bfN b + (shp f q b y).1.length ≤ L.length := by omega
 show _ = if p = 0 then (if q = 0 then (shp f q b y).1 else y.l0) else (if q = 0 then y.l1 else (shp f q b y).1)
 by_cases e : p = q
 ·subst e
  rw [if_pos (by omega), ← hx, sl_spl hlen]
  split <;> rfl
 ·have h2 := h p hp
  have hs : (if p = 0 then (if q = 0 then (shp f q b y).1 else y.l0) else (if q = 0 then y.l1 else (shp f q b y).1)) = (if p = 0 then y.l0 else y.l1) := by
   rcases (by omega : (p = 0 ∧ q = 1) ∨ (p = 1 ∧ q = 0)) with ⟨rfl, rfl⟩ | ⟨rfl, rfl⟩ <;> rfl
  rw [hs, ← h2]
  rcases (by omega : p < q ∨ q < p) with e2 | e2
  ·rw [if_pos (by omega), if_pos e2, sl_far hlen (by omega)]
  ·rw [if_neg (by omega), if_neg (by omega), sl_far hlen (by omega)]
theorem QI.at_ {c b q : Nat} {y : Sp} {L : List Int} (h : QI c b q y L) (hq : q < c) : sl L (q * 32 + pfr b) (pwd b) = (if q = 0 then y.l0 else y.l1) := by
 have := h q hq
 rwa [if_neg (by omega)] at this
set_option maxHeartbeats 4000000 in
set_option maxRecDepth 100000 in
theorem into_silent (a b : Int) (it : Bool) (Lf : List Int) (sd : Int) (hfl0 : Lf.length = 92) (gs go gf : Nat) (L O : List Int) (w : World) (hI : NI w w a b ⟨true, it, Lf⟩ gs go gf L O) :
 Calls Tryd.prog 29 #[.pointer (some ⟨gs, 0, none⟩), .pointer (some ⟨go, 0, none⟩), .pointer (some ⟨gf, 0, none⟩), .int .u32 sd] w fun e w' => e = .returned (.int .u32 sd) ∧ NI w w' a b ⟨true, it, Lf⟩ gs go gf L zero64 := by
 have HI := Aside0.mk hI
 clear hI
 go_enter Tryd.func29, Tryd.ntmps29
 go_wp2_with (first
  | ((refine store_rowG rfl 66 (.tmp 22) (.tmp 21) rfl go (rowI zero64) rfl rfl 66 _ HI.out.out (by kernel_rfl) (by rw [rowI_sz, rowI_sz, HI.out.ol]; rfl) (rowI_one _) ?_); intro W hW hf hb; have HI1 := Aside0.mk (HI.out.rowO hW hf hb); clear HI hW hf hb; have HI := HI1; clear HI1; have hc0 := (blk_cell HI.out.fr 0).trans (Fr.cells_0 _)))
 go_ret
 exact ⟨rfl, HI.out⟩
theorem mode_range {w : World} {g : Nat} {a b : Int} {L : List Int} (h : ShB w g a b L) : w.rangeAt g 0 [.int .i64 a, .int .i64 b] := fun j v hv => by
 have hj := (List.getElem?_eq_some_iff.1 hv).1
 rw [blk_cell h]
 rcases (by simp at hj; omega : j = 0 ∨ j = 1) with rfl | rfl
 ·rw [← hv]; rfl
 ·rw [← hv]; rfl
theorem pu1_is (X : Int) : ∃ Y, mx X (-32) = Y ∧ (if X < -32 then -32 else X) = Y ∧ max X (-32) = Y ∧ ∃ Z, mn Y 32 = Z ∧ (if 32 < Y then 32 else Y) = Z ∧ min Y 32 = Z ∧ -32 ≤ Z ∧ Z ≤ 32 ∧ wrap32 Z = Z ∧ IntKind.i32.wrap Z = Z ∧ wrap32 (Z * 1024) = Z * 1024 ∧ IntKind.i32.wrap (Z * 1024) = Z * 1024 ∧ Z * 1024 = pu1 X := by
 refine ⟨_, rfl, rfl, (mx_max _ _).symm, _, rfl, rfl, (mn_min _ _).symm, ?_⟩
 have h : mn (mx X (-32)) 32 = min (max X (-32)) 32 := by rw [mx_max, mn_min]
 have h2 : ∀ z : Int, IntKind.i32.wrap z = wrap32 z := fun z => by rw [IntKind.wrap_i32]; unfold wrap32; rfl
 refine ⟨by omega, by omega, ?_, ?_, ?_, ?_, rfl⟩
 ·unfold wrap32; omega
 ·rw [h2]; unfold wrap32; omega
 ·unfold wrap32; omega
 ·rw [h2]; unfold wrap32; omega
set_option maxHeartbeats 16000000 in
set_option maxRecDepth 100000 in
theorem into_loud (s c : Nat) (it : Bool) (Lf : List Int) (sd : Int) (hs : s ≤ 2) (hc1 : 1 ≤ c) (hc2 : c ≤ 2) (hsd : NoisePlain.U32 sd) (hl : Lf.length = 92) (gs go gf : Nat) (L O : List Int) (w : World) (hI : NI w w s c ⟨false, it, Lf⟩ gs go gf L O) :
 Calls Tryd.prog 29 #[.pointer (some ⟨gs, 0, none⟩), .pointer (some ⟨go, 0, none⟩), .pointer (some ⟨gf, 0, none⟩), .int .u32 sd] w fun e w' => e = .returned (.int .u32 (spAll ⟨false, it, Lf⟩ c (s + 3) (sp0 sd)).sd) ∧ ∃ L', NI w w' s c ⟨false, it, Lf⟩ gs go gf L' (spAll ⟨false, it, Lf⟩ c (s + 3) (sp0 sd)).o := by
 have HI := Aside0.mk hI
 clear hI
 obtain ⟨f, hf⟩ : ∃ f, Fr.mk false it Lf = f := ⟨_, rfl⟩
 have HFS : Aside0 (f.si = false) := ⟨by rw [← hf]⟩
 have hfl : f.L.length = 92 := by rw [← hf]; exact hl
 rw [hf] at HI ⊢
 have HS2 := Aside0.mk (And.intro hs (And.intro hc1 hc2))
 have HFL := Aside0.mk hfl
 have HSD := Aside0.mk hsd
 clear hs hc1 hc2 hl hf hfl hsd
 go_enter Tryd.func29, Tryd.ntmps29
 go_wp2_with (first
  | ((refine store_rowG rfl 66 (.tmp 22) (.tmp 21) rfl go (rowI zero64) rfl rfl 66 _ HI.out.out (by kernel_rfl) (by rw [rowI_sz, rowI_sz, HI.out.ol]; rfl) (rowI_one _) ?_); intro W hW hf hb; have HI1 := Aside0.mk (HI.out.rowO hW hf hb); clear HI hW hf hb; have HI := HI1; clear HI1; have hc0 := ((blk_cell HI.out.fr 0).trans (Fr.cells_0 _)).trans (by rw [HFS.out]))
  | (refine wpList_load_mid rfl 53 (.tmp 30) rfl gs 0 rfl [.int .i64 s, .int .i64 c] _ (mode_range HI.out.sh) Tryd.underlying53 rfl (by kernel_rfl) ?_)
  | (go_at_call 22; (with_reducible refine (mbands_call HS2.out.1 HS2.out.2.1 HS2.out.2.2 _).mono ?_); rintro e w1 ⟨rfl, hb1⟩; have HI1 := Aside0.mk (HI.out.below hb1); clear HI hb1; have HI := HI1; clear HI1))
 go_loopw [3, 9, 33] (fun sv av bv wr => ∃ (b : Nat) (L : List Int), b ≤ s + 3 ∧ sv = .int .u32 (spAll f c b (sp0 sd)).sd ∧ av = .int .i64 (pfr b) ∧ bv = .int .i64 b ∧ Aside0 (NI w wr s c f gs go gf L (spAll f c b (sp0 sd)).o) ∧ Aside0 (ZI c b (spAll f c b (sp0 sd)) L)) (fun sv av bv _ => ((s : Int) + 3 - intOf bv).toNat)
 case atStart => exact ⟨0, L, by omega, rfl, rfl, rfl, HI, ⟨ZI.start _ _ _⟩⟩
 case round =>
  obtain ⟨b, L, hb, rfl, rfl, rfl, HI2, HZI⟩ := hrel
  clear HI
  have HI := HI2
  clear HI2
  by_cases ht : b < s + 3
  ·have d1 : decide ((b : Int) < (s : Int) + 3) = true := decide_eq_true (by omega)
   have HBB : Aside0 (b + 1 ≤ s + 3 ∧ b ≤ 4 ∧ b < s + 3) := ⟨by omega, by have := HS2.out; omega, ht⟩
   have HFI := Aside0.mk (all_fine (f := f) HS2.out.2.2 sd b (by have := HS2.out; omega))
   have HFU := Aside0.mk (all_u32 (f := f) (c := c) HSD.out b)
   obtain ⟨z, hz⟩ : ∃ z, spAll f c b (sp0 sd) = z := ⟨_, rfl⟩
   rw [hz] at HI HFI HFU HZI ⊢
   have HZ := Aside0.mk hz
   clear ht hb hz
   have i3 : (0 : Int) ≤ (b : Int) := by omega
   have i4 : (b : Int) < 5 := by have := HBB.out; omega
   have hbn := bfN_in HBB.out.2.1
   have j0 : IntKind.i64.wrap ((bfN b : Int) + (bw b : Int)) = (bfN b : Int) + (bw b : Int) := by rw [i64_w]; exact sw64 (by omega) (by omega)
   have HBN := Aside0.mk hbn
   clear hbn
   go_wp2
   clear d1
   refine wp_region_held_drew (S := (fun w1 => NI w w1 s c f gs go gf L z.o)) (by kernel_rfl) ?hS0 (fun hHeld => ?_)
   case hS0 => exact HI.out.below (drew_self _)
   refine zTH (v := ?_) 0 rfl hHeld ?h ?_
   case h => (intro w1 h1; go_simp; (try with_reducible rfl))
   (try simp only [Act.put, zA1, zA2, zA3])
   refine zTH (v := ?_) 1 rfl hHeld ?h ?_
   case h => (intro w1 h1; go_simp; (try with_reducible rfl))
   (try simp only [Act.put, zA1, zA2, zA3])
   refine zTH (v := ?_) 2 rfl hHeld ?h ?_
   case h => (intro w1 h1; go_simp; (try with_reducible rfl))
   (try simp only [Act.put, zA1, zA2, zA3])
   refine wpAnyH_take (i := 3) (oi := ⟨_, _, _, _, _, _⟩) (v := .agg #[.int .i64 s, .int .i64 c]) rfl (by kernel_rfl) (by kernel_rfl) (by kernel_rfl) (fun _ _ _ h => h) (yieldsIf_load_mid (by rfl) 53 (.tmp 38) rfl gs 0 rfl [.int .i64 s, .int .i64 c] _ (fun w1 h1 => mode_range h1.sh) Tryd.underlying53 rfl (by kernel_rfl)) hHeld ?_
   (try simp only [Act.put, zA1, zA2, zA3])
   refine zTH (v := ?_) 4 rfl hHeld ?h ?_
   case h => (intro w1 h1; go_simp; (try with_reducible rfl))
   (try simp only [Act.put, zA1, zA2, zA3])
   refine zTH (v := ?_) 6 rfl hHeld ?h ?_
   case h => (intro w1 h1; go_simp; (try with_reducible rfl))
   (try simp only [Act.put, zA1, zA2, zA3])
   refine zTH (v := ?_) 7 rfl hHeld ?h ?_
   case h => (intro w1 h1; go_simp; (try with_reducible rfl))
   (try simp only [Act.put, zA1, zA2, zA3])
   refine zTH (v := ?_) 8 rfl hHeld ?h ?_
   case h => (intro w1 h1; go_simp; (try with_reducible rfl))
   (try simp only [Act.put, zA1, zA2, zA3])
   refine wpAnyH_take (i := 9) (oi := ⟨_, _, _, _, _, _⟩) (v := .agg #[.int .i64 s, .int .i64 c]) rfl (by kernel_rfl) (by kernel_rfl) (by kernel_rfl) (fun _ _ _ h => h) (yieldsIf_load_mid (by rfl) 53 (.tmp 44) rfl gs 0 rfl [.int .i64 s, .int .i64 c] _ (fun w1 h1 => mode_range h1.sh) Tryd.underlying53 rfl (by kernel_rfl)) hHeld ?_
   (try simp only [Act.put, zA1, zA2, zA3])
   refine zTH (v := ?_) 10 rfl hHeld ?h ?_
   case h => (intro w1 h1; go_simp; (try with_reducible rfl))
   (try simp only [Act.put, zA1, zA2, zA3])
   refine zTH (v := ?_) 12 rfl hHeld ?h ?_
   case h => (intro w1 h1; go_simp; (try with_reducible rfl))
   (try simp only [Act.put, zA1, zA2, zA3])
   refine zTH (v := ?_) 13 rfl hHeld ?h ?_
   case h => (intro w1 h1; go_simp; (try with_reducible rfl))
   (try simp only [Act.put, zA1, zA2, zA3])
   refine zTH (v := ?_) 14 rfl hHeld ?h ?_
   case h => (intro w1 h1; go_simp; (try with_reducible rfl))
   (try simp only [Act.put, zA1, zA2, zA3])
   refine wpAnyH_take (i := 15) (oi := ⟨_, _, _, _, _, _⟩) (v := .agg #[.int .i64 s, .int .i64 c]) rfl (by kernel_rfl) (by kernel_rfl) (by kernel_rfl) (fun _ _ _ h => h) (yieldsIf_load_mid (by rfl) 53 (.tmp 50) rfl gs 0 rfl [.int .i64 s, .int .i64 c] _ (fun w1 h1 => mode_range h1.sh) Tryd.underlying53 rfl (by kernel_rfl)) hHeld ?_
   (try simp only [Act.put, zA1, zA2, zA3])
   refine zTH (v := ?_) 16 rfl hHeld ?h ?_
   case h => (intro w1 h1; go_simp; (try with_reducible rfl))
   (try simp only [Act.put, zA1, zA2, zA3])
   refine zOH 5 rfl fun K hK => ?_
   refine goes_ (N := some 41) Tryd.func25 (by kernel_rfl) rfl #[.agg #[.int .i64 s, .int .i64 c], .int .i64 b] (by rfl) rfl rfl (by first | rfl | (simp only [List.map_toArray, List.map_cons, List.map_nil]; rfl)) ?_
   (with_reducible refine (mfrom_call HS2.out.1 HS2.out.2.1 HS2.out.2.2 HBB.out.2.2 _ hHeld.lm).mono ?_); rintro e w2 ⟨rfl, hb2⟩
   refine ⟨_, rfl, ?_⟩
   refine hK.out _ _ ?hSn13 (fun hHeld => ?_)
   case hSn13 => exact hHeld.below hb2
   clear hK K
   (try simp only [Act.put, zA1, zA2, zA3])
   refine zOH 11 rfl fun K hK => ?_
   refine goes_ (N := some 47) Tryd.func25 (by kernel_rfl) rfl #[.agg #[.int .i64 s, .int .i64 c], .int .i64 b] (by rfl) rfl rfl (by first | rfl | (simp only [List.map_toArray, List.map_cons, List.map_nil]; rfl)) ?_
   (with_reducible refine (mfrom_call HS2.out.1 HS2.out.2.1 HS2.out.2.2 HBB.out.2.2 _ hHeld.lm).mono ?_); rintro e w3 ⟨rfl, hb3⟩
   refine ⟨_, rfl, ?_⟩
   refine hK.out _ _ ?hSn14 (fun hHeld => ?_)
   case hSn14 => exact hHeld.below hb3
   clear hK K
   (try simp only [Act.put, zA1, zA2, zA3])
   refine zOH 17 rfl fun K hK => ?_
   refine goes_ (N := some 53) Tryd.func23 (by kernel_rfl) rfl #[.agg #[.int .i64 s, .int .i64 c], .int .i64 b] (by rfl) rfl rfl (by first | rfl | (simp only [List.map_toArray, List.map_cons, List.map_nil]; rfl)) ?_
   (with_reducible refine (mwidth_call HS2.out.1 HS2.out.2.1 HS2.out.2.2 HBB.out.2.2 _ hHeld.lm).mono ?_); rintro e w4 ⟨rfl, hb4⟩
   refine ⟨_, rfl, ?_⟩
   refine hK.out _ _ ?hSn15 (fun hHeld => ?_)
   case hSn15 => exact hHeld.below hb4
   clear hK K
   (try simp only [Act.put, zA1, zA2, zA3])
   refine zTH (v := ?_) 19 rfl hHeld ?h ?_
   case h => (intro w1 h1; go_simp; (try with_reducible rfl))
   (try simp only [Act.put, zA1, zA2, zA3])
   refine zTH (v := ?_) 18 rfl hHeld ?h ?_
   case h => (intro w1 h1; go_simp; (try with_reducible rfl))
   (try simp only [Act.put, zA1, zA2, zA3])
   refine zTH (v := ?_) 20 rfl hHeld ?h ?_
   case h => (intro w1 h1; go_simp; (try with_reducible rfl))
   (try simp only [Act.put, zA1, zA2, zA3])
   refine wpAnyH_done (by kernel_rfl) ?_ _
   have HI1 := Aside0.mk hHeld
   clear HI hb2 hb3 hb4 hHeld
   have HI := HI1
   clear HI1
   have hcc : w4.cell? ⟨gs, 1, none⟩ = some (.int .i64 c) := (blk_cell HI.out.sh 1).trans rfl
   go_wp2
   clear hcc j0
   have HQI := Aside0.mk HZI.out.open_
   clear HZI
   go_loopw [3, 60] (fun sv qv wr => ∃ (q : Nat) (L : List Int), q ≤ c ∧ sv = .int .u32 (spRow f b q z).sd ∧ qv = .int .i64 q ∧ Aside0 (NI w wr s c f gs go gf L (spRow f b q z).o) ∧ Aside0 (QI c b q (spRow f b q z) L)) (fun sv qv _ => ((c : Int) - intOf qv).toNat)
   case atStart => exact ⟨0, L, by omega, rfl, rfl, HI, HQI⟩
   case round =>
    obtain ⟨q, L, hq, rfl, rfl, HI2, HQ2⟩ := hrel
    clear HI HQI
    have HI := HI2
    have HQI := HQ2
    clear HI2 HQ2
    by_cases ht : q < c
    ·have HQQ : Aside0 (q + 1 ≤ c ∧ q ≤ 1 ∧ q < c) := ⟨by omega, by have := HS2.out; omega, ht⟩
     have HFY := Aside0.mk (row_fine (f := f) HBB.out.2.1 HFI.out q (by have := HS2.out; omega))
     have HYU := Aside0.mk (row_u32 (f := f) (b := b) HFU.out q)
     obtain ⟨y, hy⟩ : ∃ y, spRow f b q z = y := ⟨_, rfl⟩
     rw [hy] at HI HFY HYU HQI ⊢
     have HY := Aside0.mk hy
     have hbn := HBN.out
     have i1 : (0 : Int) ≤ (q : Int) := by omega
     have i2 : (q : Int) < 2 := by have := HQQ.out; omega
     have hkc := frc HFL.out HI.out.fr (j := 23 + b) (k := 25 + b) (by have := HBB.out; omega) (by omega)
     obtain ⟨lx, hlx⟩ : ∃ lx, (shp f q b y).1 = lx := ⟨_, rfl⟩
     obtain ⟨hxl, hxw⟩ := shp_fine (f := f) (q := q) HBB.out.2.1 HFY.out
     have HSTEP := Aside0.mk (HQI.out.step (f := f) HS2.out.2.2 HQQ.out.2.2 HBB.out.2.1 HI.out.ll hxl)
     rw [hlx] at hxl hxw HSTEP
     have HXL := Aside0.mk (And.intro hxl hxw)
     have j1 : (0 : Int) ≤ (bfN b : Int) := by omega
     have j2 : (bfN b : Int) ≤ (bfN b : Int) + (bw b : Int) := by omega
     have j3 : (bfN b : Int) + (bw b : Int) ≤ 32 := by omega
     have j6 : (bfN b : Int) ≤ 32 := by omega
     have j4 : ¬ (32 = bfN b) := by omega
     have j5 : ((bfN b : Int) + (bw b : Int)).toNat = bfN b + bw b := by omega
     have hpf := pfr_in b HBB.out.2.1
     have p1 : (0 : Int) ≤ (pfr b : Int) := by omega
     have p2 : (pfr b : Int) ≤ (bfN b : Int) := by omega
     have p3 : bfN b - pfr b = pwd b := by omega
     have p4 : ¬ (32 = pfr b) := by omega
     have p5 : pfr b ≤ bfN b := by omega
     have HPF := Aside0.mk hpf
     clear hq hy hxl hxw hbn hpf
     by_cases hk : 0 < ga f.L (23 + b)
     ·have HX : Aside0 (shp f q b y = (lx, y.sd) ∧ lx = sp (ga f.L 0) (pu (xb f q b))) := ⟨by rw [← hlx]; unfold shp; rw [if_pos hk]; exact ⟨rfl, rfl⟩⟩
      have hk1 : decide (0 < ga f.L (23 + b)) = true := decide_eq_true hk
      clear hk hlx
      go_wp2
      clear hkc hk1
      go_loopw [80] (fun iv wr => ∃ (i : Nat) (L2 : List Int), i ≤ bw b ∧ iv = .int .i64 i ∧ Aside0 (NI w wr s c f gs go gf L2 y.o) ∧ Aside0 (Upd (q * 32 + bfN b) i (fun j => pu1 (ga f.L (28 + (q * 32 + (bfN b + j))))) L L2)) (fun iv _ => ((bw b : Int) - intOf iv).toNat)
      case atStart => exact ⟨0, L, by omega, rfl, HI, ⟨Upd.start _ _ _⟩⟩
      case round =>
       obtain ⟨i, L2, hi, rfl, HI2, HU⟩ := hrel
       have HL64 := Aside0.mk HI.out.ll
       by_cases ht3 : i < bw b
       ·clear HI
        have HI := HI2
        clear HI2
        have hbn := HBN.out
        have h1 : (0 : Int) ≤ (i : Int) := by omega
        have h2 : (i : Int) < (bw b : Int) := by omega
        have hi16 : (i : Int) < 16 := by omega
        have k0 : IntKind.i64.wrap ((bfN b : Int) + (i : Int)) = (bfN b : Int) + (i : Int) := by rw [i64_w]; exact sw64 (by omega) (by omega)
        have k1 : (0 : Int) ≤ (bfN b : Int) + (i : Int) := by omega
        have k2 : (bfN b : Int) + (i : Int) < 32 := by omega
        obtain ⟨j, hj⟩ : ∃ j, ((bfN b : Int) + (i : Int)).toNat = j := ⟨_, rfl⟩
        have HJ : Aside0 (j = bfN b + i) := ⟨by omega⟩
        have hcx := frc HFL.out HI.out.fr (j := 28 + (q * 32 + j)) (k := 30 + q * 32 + j) (by have := HQQ.out; omega) (by omega)
        obtain ⟨X, hX⟩ : ∃ X, ga f.L (28 + (q * 32 + j)) = X := ⟨_, rfl⟩
        rw [hX] at hcx
        obtain ⟨Y, y1, y2, y3, Z, z1, z2, z3, z4, z5, z6, z7, z8, z9, z10⟩ := pu1_is X
        have hcs := shb_cell HI.out.sh (j := q * 32 + bfN b + i) (k := 2 + q * 32 + bfN b + i) (by rw [HI.out.ll]; have := HQQ.out; omega) (by omega)
        have hfs := blk_frozen HI.out.sh (2 + q * 32 + bfN b + i)
        have HIB : Aside0 (i + 1 ≤ bw b) := ⟨ht3⟩
        have HI7 := Aside0.mk (HI.out.putS (j := q * 32 + bfN b + i) (k := 2 + q * 32 + bfN b + i) (by omega) (Z * 1024))
        have HU7 : Aside0 (Upd (q * 32 + bfN b) (i + 1) (fun j => pu1 (ga f.L (28 + (q * 32 + (bfN b + j))))) L (L2.set (q * 32 + bfN b + i) (Z * 1024))) := ⟨HU.out.step (by rw [HL64.out]; have := HQQ.out; omega) (by rw [z10, ← hX, HJ.out])⟩
        clear hi hbn HU HI hX z10
        go_wp2
        go_roundw
        case rel => repeat (first | exact ⟨⟨i + 1, _, HIB.out, congrArg (Value.int .i64) (by omega), HI7, HU7⟩, rfl⟩ | exact ⟨i + 1, _, HIB.out, congrArg (Value.int .i64) (by omega), HI7, HU7⟩ | apply Exists.intro)
        case measure => exact meas_q HIB.out
       ·obtain rfl : i = bw b := by omega
        have HL2 : Aside0 (L2 = spl L (q * 32 + bfN b) (pu (xb f q b))) := ⟨HU.out.all (by rw [HL64.out]; have := HQQ.out; have := HBN.out; omega) (by rw [pu_len, xb_len]) (fun j hj => by unfold pu xb; rw [List.getElem?_map, List.getElem?_map, List.getElem?_range hj]; rfl)⟩
        rw [HL2.out] at HI2
        have HSP : Aside0 ((pu (xb f q b)).length = bw b ∧ q * 32 + bfN b + bw b ≤ L.length) := ⟨by rw [pu_len, xb_len], by rw [HL64.out]; have := HQQ.out; have := HBN.out; omega⟩
        have HSX : Aside0 ((spl L (q * 32 + bfN b) lx).length = 64) := ⟨by rw [spl_len (by rw [HXL.out.1]; exact HSP.out.2)]; exact HL64.out⟩
        have hc2 := frc HFL.out HI2.out.fr (j := 0) (k := 2) (by decide) rfl
        clear ht3 hi HU HI HL2
        have HI := HI2
        clear HI2
        go_wp2_with (first
         | (go_at_call 68; (with_reducible refine (in_mid (ga f.L 0) (q * 32 + bfN b) (2 + q * 32 + bfN b) (bw b) _ gs s c L (pu (xb f q b)) _ _ (by omega) HSP.out.1 HSP.out.2 HL64.out (Foot.refl _ _) HI.out.sh HI.out.ls).mono ?_); rintro e w3 ⟨rfl, hsh, hft⟩; rw [← HX.out.2] at hsh; have HI1 := Aside0.mk (HI.out.shift hft HSX.out hsh); clear HI hc2 hsh hft; have HI := HI1; clear HI1))
        have HCX := Aside0.mk (fun (w : World) (h : ShB w gs s c (spl L (q * 32 + bfN b) lx)) => shb_C h (o := q * 32 + bfN b) (m := bw b) (k := 2 + q * 32 + bfN b) (l := lx) (by omega) HXL.out.1 (by rw [HSX.out]; have := HQQ.out; have := HBN.out; omega) HSX.out (fun j hj => by rw [spl_at (by rw [HXL.out.1, HL64.out]; have := HQQ.out; have := HBN.out; omega), if_neg (by omega), if_pos (by rw [HXL.out.1]; omega)]; congr 1; omega))
        have HCW : Aside0 (bw b ≤ 32 - bfN b) := ⟨by have := HBN.out; omega⟩
        go_wp2_with (first
         | (go_at_call 62; (with_reducible refine (loud_call f HFL.out gf HQQ.out.2.1 HBB.out.2.1 _ HI.out.fr).mono ?_); rintro e w4 ⟨rfl, hb4⟩; have HI1 := Aside0.mk (HI.out.below hb4); clear HI hb4; have HI := HI1; clear HI1)
         | (go_at_call 32; (with_reducible refine (Shape.exp_any _ _ HI.out.lp).mono ?_); rintro e w5 ⟨rfl, hb5⟩; have HI1 := Aside0.mk (HI.out.below hb5); clear HI hb5; have HI := HI1; clear HI1)
         | (go_at_call 33; (with_reducible refine (length_call lx (bw b) HXL.out.1 _ _ _ (HCX.out _ HI.out.sh) HCW.out).mono ?_); rintro e w6 ⟨rfl, hb6⟩; have HI1 := Aside0.mk (HI.out.below hb6); clear HI hb6; have HI := HI1; clear HI1))
        go_loopw [127] (fun iv wr => ∃ (i : Nat) (O : List Int), i ≤ bw b ∧ iv = .int .i64 i ∧ Aside0 (NI w wr s c f gs go gf (spl L (q * 32 + bfN b) lx) O) ∧ Aside0 (Upd (q * 32 + bfN b) i (fun j => ga (sc (lo f q b) lx) j) y.o O)) (fun iv _ => ((bw b : Int) - intOf iv).toNat)
        case atStart => exact ⟨0, y.o, by omega, rfl, HI, ⟨Upd.start _ _ _⟩⟩
        case round =>
         obtain ⟨i, O, hi, rfl, HI2, HU⟩ := hrel
         clear HI
         have HI := HI2
         clear HI2
         by_cases ht3 : i < bw b
         ·have hbn := HBN.out
          have h1 : (0 : Int) ≤ (i : Int) := by omega
          have h2 : (i : Int) < (bw b : Int) := by omega
          have hi16 : (i : Int) < 16 := by omega
          have k0 : IntKind.i64.wrap ((bfN b : Int) + (i : Int)) = (bfN b : Int) + (i : Int) := by rw [i64_w]; exact sw64 (by omega) (by omega)
          have k1 : (0 : Int) ≤ (bfN b : Int) + (i : Int) := by omega
          have k2 : (bfN b : Int) + (i : Int) < 32 := by omega
          obtain ⟨j, hj⟩ : ∃ j, ((bfN b : Int) + (i : Int)).toNat = j := ⟨_, rfl⟩
          have HJ : Aside0 (q * 32 + j = q * 32 + bfN b + i ∧ q * 32 + bfN b + i < 64) := ⟨by omega, by have := HQQ.out; omega⟩
          obtain ⟨X, hX⟩ : ∃ X, ga lx i = X := ⟨_, rfl⟩
          have hcs : wr.cell? ⟨gs, 2 + q * 32 + bfN b + i, none⟩ = some (.int .i32 X) := by
           rw [shb_cell HI.out.sh (j := q * 32 + bfN b + i) (by rw [HSX.out]; exact HJ.out.2) (by omega), spl_rd (by rw [HXL.out.1, HL64.out]; omega) (by rw [HXL.out.1]; exact ht3), ← hX]
           unfold rd ga
           rw [Int.toNat_natCast]
          have HXX : Aside0 (ShapePlain.I32 X) := ⟨by rw [← hX]; exact HXL.out.2 _ (by unfold ga; rw [List.getD_eq_getElem?_getD, List.getElem?_eq_getElem (by rw [HXL.out.1]; exact ht3)]; exact List.getElem_mem _)⟩
          have HPC := Aside0.mk (fun w => part_call (ex (ld (lo f q b))) lx HXX.out w)
          obtain ⟨V, hV⟩ : ∃ V, pv (ex (ld (lo f q b))) (len lx) X = V := ⟨_, rfl⟩
          rw [hV] at HPC
          have HIB : Aside0 (i + 1 ≤ bw b) := ⟨ht3⟩
          have HU7 : Aside0 (Upd (q * 32 + bfN b) (i + 1) (fun j => ga (sc (lo f q b) lx) j) y.o (O.set (q * 32 + j) V)) := ⟨by
           rw [HJ.out.1]
           refine HU.out.step (by rw [HFY.out.o]; exact HJ.out.2) ?_
           rw [← hV, ← hX]
           unfold sc ga
           rw [List.getD_eq_getElem?_getD, List.getD_eq_getElem?_getD, List.getElem?_map, List.getElem?_eq_getElem (by rw [HXL.out.1]; exact ht3)]
           rfl⟩
          clear hi hbn HU hX hV
          go_wp2
          refine wp_region_held_drew (S := (fun w1 => w1.heap[gf]? = some (.cells f.cells.toArray 61 (0, 0)))) (by kernel_rfl) ?hS0 (fun hHeld => ?_)
          case hS0 => exact (HI.out.below (drew_self _)).fr
          refine zTH (v := ?_) 0 rfl hHeld ?h ?_
          case h => (intro w1 h1; go_simp; (try with_reducible rfl))
          (try simp only [Act.put, zA1, zA2, zA3])
          refine zTH (v := ?_) 1 rfl hHeld ?h ?_
          case h => (intro w1 h1; go_simp; (try with_reducible rfl))
          (try simp only [Act.put, zA1, zA2, zA3])
          refine zTH (v := ?_) 2 rfl hHeld ?h ?_
          case h => (intro w1 h1; go_simp; (try with_reducible rfl))
          (try simp only [Act.put, zA1, zA2, zA3])
          refine zTH (v := ?_) 3 rfl hHeld ?h ?_
          case h => (intro w1 h1; go_simp; (try with_reducible rfl))
          (try simp only [Act.put, zA1, zA2, zA3])
          refine zTH (v := ?_) 4 rfl hHeld ?h ?_
          case h => (intro w1 h1; go_simp; (try with_reducible rfl))
          (try simp only [Act.put, zA1, zA2, zA3])
          refine zTH (v := ?_) 5 rfl hHeld ?h ?_
          case h => (intro w1 h1; go_simp; (try with_reducible rfl))
          (try simp only [Act.put, zA1, zA2, zA3])
          refine zTH (v := ?_) 6 rfl hHeld ?h ?_
          case h => (intro w1 h1; go_simp; (try with_reducible rfl))
          (try simp only [Act.put, zA1, zA2, zA3])
          refine zTH (v := ?_) 7 rfl hHeld ?h ?_
          case h => (intro w1 h1; go_simp; (try with_reducible rfl))
          (try simp only [Act.put, zA1, zA2, zA3])
          refine zTH (v := ?_) 9 rfl hHeld ?h ?_
          case h => (intro w1 h1; go_simp; (try with_reducible rfl))
          (try simp only [Act.put, zA1, zA2, zA3])
          refine zTH (v := ?_) 10 rfl hHeld ?h ?_
          case h => (intro w1 h1; go_simp; (try with_reducible rfl))
          (try simp only [Act.put, zA1, zA2, zA3])
          have hI0 := HI.out.below (drew_self _)
          refine zOH 8 rfl fun K hK => ?_
          refine goes_ (N := some 140) Tryd.func34 (by kernel_rfl) rfl #[.int .i32 X, .int .i64 (ex (ld (lo f q b))), .int .u64 (len lx)] (by rfl) rfl rfl (by first | rfl | (simp only [List.map_toArray, List.map_cons, List.map_nil]; rfl)) ?_
          (with_reducible refine (HPC.out _).mono ?_); rintro e w7 ⟨rfl, hb7⟩
          refine ⟨_, rfl, ?_⟩
          refine hK.out _ _ ?hSn29 (fun hHeld => ?_)
          case hSn29 => exact blk_below hHeld hb7
          clear hK K
          (try simp only [Act.put, zA1, zA2, zA3])
          have hI1 := hI0.below hb7
          have hko := (blk_cell hI1.out (q * 32 + j)).trans (rowI_at (by rw [hI1.ol]; have := HJ.out; omega))
          have hfo := blk_frozen hI1.out (q * 32 + j)
          have HI7 := Aside0.mk (hI1.putO (q * 32 + j) V)
          refine zTH (v := ?_) 11 rfl hHeld ?h ?_
          case h => (intro w1 h1; go_simp; (try with_reducible rfl))
          (try simp only [Act.put, zA1, zA2, zA3])
          refine zOH 12 rfl fun K hK => ?_
          go_simp
          refine hK.out _ _ ?hSn31 (fun hHeld => ?_)
          case hSn31 => exact HI7.out.fr
          clear hK K
          (try simp only [Act.put, zA1, zA2, zA3])
          refine wpAnyH_done (by kernel_rfl) ?_ _
          clear HI hI0 hI1 hko hfo hb7 hHeld
          go_wp2
          go_roundw
          case rel => repeat (first | exact ⟨⟨i + 1, _, HIB.out, congrArg (Value.int .i64) (by omega), HI7, HU7⟩, rfl⟩ | exact ⟨i + 1, _, HIB.out, congrArg (Value.int .i64) (by omega), HI7, HU7⟩ | apply Exists.intro)
          case measure => exact meas_q HIB.out
         ·obtain rfl : i = bw b := by omega
          have HO : Aside0 (O = spl y.o (q * 32 + bfN b) (sc (lo f q b) lx)) := ⟨HU.out.all (by rw [HFY.out.o]; have := HQQ.out; have := HBN.out; omega) (by rw [sc_len]; exact HXL.out.1) (fun j hj => ga_some (by rw [sc_len, HXL.out.1]; exact hj))⟩
          clear ht3 hi HU
          go_wp2
          have hst : spRow f b (q + 1) z = spStep f b q y := by show spStep f b q (spRow f b q z) = _; rw [HY.out]
          have hsd : Value.int .u32 (shp f q b y).2 = Value.int .u32 (spRow f b (q + 1) z).sd := by rw [hst]; rfl
          have hsd2 := hsd
          rw [HX.out.1] at hsd2
          have HS3 := Aside0.mk hsd2
          have HI8 : Aside0 (NI w wr s c f gs go gf (spl L (q * 32 + bfN b) lx) (spRow f b (q + 1) z).o ∧ QI c b (q + 1) (spRow f b (q + 1) z) (spl L (q * 32 + bfN b) lx)) := ⟨by
           rw [hst]
           refine ⟨?_, HSTEP.out⟩
           unfold spStep; rw [show (shp f q b y).1 = lx from by rw [HX.out.1], ← HO.out]; exact HI.out⟩
          clear hst hsd hsd2 HI HSTEP
          go_roundw
          case rel => repeat (first | exact ⟨⟨q + 1, _, HQQ.out.1, HS3.out, congrArg (Value.int .i64) (by omega), ⟨HI8.out.1⟩, ⟨HI8.out.2⟩⟩, rfl⟩ | exact ⟨q + 1, _, HQQ.out.1, HS3.out, congrArg (Value.int .i64) (by omega), ⟨HI8.out.1⟩, ⟨HI8.out.2⟩⟩ | apply Exists.intro)
          case measure => exact meas_q HQQ.out.1
     ·have HX : Aside0 (shp f q b y = fo (if q = 0 then y.l0 else y.l1) (bw b) y.sd) := ⟨by unfold shp; rw [if_neg hk]⟩
      have hk1 : decide (0 < ga f.L (23 + b)) = false := decide_eq_false hk
      have HLQ : Aside0 ((if q = 0 then y.l0 else y.l1) = sl L (q * 32 + pfr b) (pwd b)) := ⟨(HQI.out.at_ HQQ.out.2.2).symm⟩
      obtain ⟨lq, hlq⟩ : ∃ l, (if q = 0 then y.l0 else y.l1) = l := ⟨_, rfl⟩
      have HLW : Aside0 (∀ x ∈ lq, NoisePlain.I32 x) := ⟨by
       rw [← hlq]
       split
       ·exact HFY.out.w0
       ·exact HFY.out.w1⟩
      rw [hlq] at HX HLQ
      have hlx2 : (fo lq (bw b) y.sd).1 = lx := by rw [← HX.out]; exact hlx
      have HLX := Aside0.mk hlx2
      have HL64 := Aside0.mk HI.out.ll
      have HQL : Aside0 (lq.length = pwd b ∧ ∀ j, j < pwd b → L[q * 32 + pfr b + j]? = lq[j]?) := ⟨by
       rw [HLQ.out]
       refine ⟨sl_len (by rw [HL64.out]; have := HQQ.out; have := HPF.out; have := HBN.out; omega), fun j hj => (sl_at _ _ _ hj).symm⟩⟩
      have HSX : Aside0 ((spl L (q * 32 + bfN b) lx).length = 64) := ⟨by rw [spl_len (by rw [HXL.out.1, HL64.out]; have := HQQ.out; have := HBN.out; omega)]; exact HL64.out⟩
      have HGE : Aside0 (q * 32 + bfN b + bw b ≤ L.length ∧ q * 32 + pfr b + pwd b ≤ q * 32 + bfN b ∧ pwd b ≤ 32 - pfr b) := ⟨by rw [HL64.out]; have := HQQ.out; have := HBN.out; omega, by have := HPF.out; omega, by have := HPF.out; have := HBN.out; omega⟩
      clear hk hlx hlq hlx2
      go_wp2_with (first
       | (go_at_call 69; (with_reducible refine (fill_call (q * 32 + bfN b) (2 + q * 32 + bfN b) (bw b) _ (q * 32 + pfr b) (2 + q * 32 + pfr b) (pwd b) _ gs s c L lq y.sd _ (by omega) (by omega) HGE.out.1 HL64.out HQL.out.1 HGE.out.2.1 HGE.out.2.2 HQL.out.2 HYU.out HLW.out HI.out.sh).mono ?_); rintro e w3 ⟨rfl, hsh, hft⟩; rw [HLX.out] at hsh; have HI1 := Aside0.mk (HI.out.shift hft HSX.out hsh); clear HI hkc hk1 hsh hft; have HI := HI1; clear HI1))
      have HCX := Aside0.mk (fun (w : World) (h : ShB w gs s c (spl L (q * 32 + bfN b) lx)) => shb_C h (o := q * 32 + bfN b) (m := bw b) (k := 2 + q * 32 + bfN b) (l := lx) (by omega) HXL.out.1 (by rw [HSX.out]; have := HQQ.out; have := HBN.out; omega) HSX.out (fun j hj => by rw [spl_at (by rw [HXL.out.1, HL64.out]; have := HQQ.out; have := HBN.out; omega), if_neg (by omega), if_pos (by rw [HXL.out.1]; omega)]; congr 1; omega))
      have HCW : Aside0 (bw b ≤ 32 - bfN b) := ⟨by have := HBN.out; omega⟩
      go_wp2_with (first
       | (go_at_call 62; (with_reducible refine (loud_call f HFL.out gf HQQ.out.2.1 HBB.out.2.1 _ HI.out.fr).mono ?_); rintro e w4 ⟨rfl, hb4⟩; have HI1 := Aside0.mk (HI.out.below hb4); clear HI hb4; have HI := HI1; clear HI1)
       | (go_at_call 32; (with_reducible refine (Shape.exp_any _ _ HI.out.lp).mono ?_); rintro e w5 ⟨rfl, hb5⟩; have HI1 := Aside0.mk (HI.out.below hb5); clear HI hb5; have HI := HI1; clear HI1)
       | (go_at_call 33; (with_reducible refine (length_call lx (bw b) HXL.out.1 _ _ _ (HCX.out _ HI.out.sh) HCW.out).mono ?_); rintro e w6 ⟨rfl, hb6⟩; have HI1 := Aside0.mk (HI.out.below hb6); clear HI hb6; have HI := HI1; clear HI1))
      go_loopw [127] (fun iv wr => ∃ (i : Nat) (O : List Int), i ≤ bw b ∧ iv = .int .i64 i ∧ Aside0 (NI w wr s c f gs go gf (spl L (q * 32 + bfN b) lx) O) ∧ Aside0 (Upd (q * 32 + bfN b) i (fun j => ga (sc (lo f q b) lx) j) y.o O)) (fun iv _ => ((bw b : Int) - intOf iv).toNat)
      case atStart => exact ⟨0, y.o, by omega, rfl, HI, ⟨Upd.start _ _ _⟩⟩
      case round =>
       obtain ⟨i, O, hi, rfl, HI2, HU⟩ := hrel
       clear HI
       have HI := HI2
       clear HI2
       by_cases ht3 : i < bw b
       ·have hbn := HBN.out
        have h1 : (0 : Int) ≤ (i : Int) := by omega
        have h2 : (i : Int) < (bw b : Int) := by omega
        have hi16 : (i : Int) < 16 := by omega
        have k0 : IntKind.i64.wrap ((bfN b : Int) + (i : Int)) = (bfN b : Int) + (i : Int) := by rw [i64_w]; exact sw64 (by omega) (by omega)
        have k1 : (0 : Int) ≤ (bfN b : Int) + (i : Int) := by omega
        have k2 : (bfN b : Int) + (i : Int) < 32 := by omega
        obtain ⟨j, hj⟩ : ∃ j, ((bfN b : Int) + (i : Int)).toNat = j := ⟨_, rfl⟩
        have HJ : Aside0 (q * 32 + j = q * 32 + bfN b + i ∧ q * 32 + bfN b + i < 64) := ⟨by omega, by have := HQQ.out; omega⟩
        obtain ⟨X, hX⟩ : ∃ X, ga lx i = X := ⟨_, rfl⟩
        have hcs : wr.cell? ⟨gs, 2 + q * 32 + bfN b + i, none⟩ = some (.int .i32 X) := by
         rw [shb_cell HI.out.sh (j := q * 32 + bfN b + i) (by rw [HSX.out]; exact HJ.out.2) (by omega), spl_rd (by rw [HXL.out.1, HL64.out]; omega) (by rw [HXL.out.1]; exact ht3), ← hX]
         unfold rd ga
         rw [Int.toNat_natCast]
        have HXX : Aside0 (ShapePlain.I32 X) := ⟨by rw [← hX]; exact HXL.out.2 _ (by unfold ga; rw [List.getD_eq_getElem?_getD, List.getElem?_eq_getElem (by rw [HXL.out.1]; exact ht3)]; exact List.getElem_mem _)⟩
        have HPC := Aside0.mk (fun w => part_call (ex (ld (lo f q b))) lx HXX.out w)
        obtain ⟨V, hV⟩ : ∃ V, pv (ex (ld (lo f q b))) (len lx) X = V := ⟨_, rfl⟩
        rw [hV] at HPC
        have HIB : Aside0 (i + 1 ≤ bw b) := ⟨ht3⟩
        have HU7 : Aside0 (Upd (q * 32 + bfN b) (i + 1) (fun j => ga (sc (lo f q b) lx) j) y.o (O.set (q * 32 + j) V)) := ⟨by
         rw [HJ.out.1]
         refine HU.out.step (by rw [HFY.out.o]; exact HJ.out.2) ?_
         rw [← hV, ← hX]
         unfold sc ga
         rw [List.getD_eq_getElem?_getD, List.getD_eq_getElem?_getD, List.getElem?_map, List.getElem?_eq_getElem (by rw [HXL.out.1]; exact ht3)]
         rfl⟩
        clear hi hbn HU hX hV
        go_wp2
        refine wp_region_held_drew (S := (fun w1 => w1.heap[gf]? = some (.cells f.cells.toArray 61 (0, 0)))) (by kernel_rfl) ?hS0 (fun hHeld => ?_)
        case hS0 => exact (HI.out.below (drew_self _)).fr
        refine zTH (v := ?_) 0 rfl hHeld ?h ?_
        case h => (intro w1 h1; go_simp; (try with_reducible rfl))
        (try simp only [Act.put, zA1, zA2, zA3])
        refine zTH (v := ?_) 1 rfl hHeld ?h ?_
        case h => (intro w1 h1; go_simp; (try with_reducible rfl))
        (try simp only [Act.put, zA1, zA2, zA3])
        refine zTH (v := ?_) 2 rfl hHeld ?h ?_
        case h => (intro w1 h1; go_simp; (try with_reducible rfl))
        (try simp only [Act.put, zA1, zA2, zA3])
        refine zTH (v := ?_) 3 rfl hHeld ?h ?_
        case h => (intro w1 h1; go_simp; (try with_reducible rfl))
        (try simp only [Act.put, zA1, zA2, zA3])
        refine zTH (v := ?_) 4 rfl hHeld ?h ?_
        case h => (intro w1 h1; go_simp; (try with_reducible rfl))
        (try simp only [Act.put, zA1, zA2, zA3])
        refine zTH (v := ?_) 5 rfl hHeld ?h ?_
        case h => (intro w1 h1; go_simp; (try with_reducible rfl))
        (try simp only [Act.put, zA1, zA2, zA3])
        refine zTH (v := ?_) 6 rfl hHeld ?h ?_
        case h => (intro w1 h1; go_simp; (try with_reducible rfl))
        (try simp only [Act.put, zA1, zA2, zA3])
        refine zTH (v := ?_) 7 rfl hHeld ?h ?_
        case h => (intro w1 h1; go_simp; (try with_reducible rfl))
        (try simp only [Act.put, zA1, zA2, zA3])
        refine zTH (v := ?_) 9 rfl hHeld ?h ?_
        case h => (intro w1 h1; go_simp; (try with_reducible rfl))
        (try simp only [Act.put, zA1, zA2, zA3])
        refine zTH (v := ?_) 10 rfl hHeld ?h ?_
        case h => (intro w1 h1; go_simp; (try with_reducible rfl))
        (try simp only [Act.put, zA1, zA2, zA3])
        have hI0 := HI.out.below (drew_self _)
        refine zOH 8 rfl fun K hK => ?_
        refine goes_ (N := some 140) Tryd.func34 (by kernel_rfl) rfl #[.int .i32 X, .int .i64 (ex (ld (lo f q b))), .int .u64 (len lx)] (by rfl) rfl rfl (by first | rfl | (simp only [List.map_toArray, List.map_cons, List.map_nil]; rfl)) ?_
        (with_reducible refine (HPC.out _).mono ?_); rintro e w7 ⟨rfl, hb7⟩
        refine ⟨_, rfl, ?_⟩
        refine hK.out _ _ ?hSn42 (fun hHeld => ?_)
        case hSn42 => exact blk_below hHeld hb7
        clear hK K
        (try simp only [Act.put, zA1, zA2, zA3])
        have hI1 := hI0.below hb7
        have hko := (blk_cell hI1.out (q * 32 + j)).trans (rowI_at (by rw [hI1.ol]; have := HJ.out; omega))
        have hfo := blk_frozen hI1.out (q * 32 + j)
        have HI7 := Aside0.mk (hI1.putO (q * 32 + j) V)
        refine zTH (v := ?_) 11 rfl hHeld ?h ?_
        case h => (intro w1 h1; go_simp; (try with_reducible rfl))
        (try simp only [Act.put, zA1, zA2, zA3])
        refine zOH 12 rfl fun K hK => ?_
        go_simp
        refine hK.out _ _ ?hSn44 (fun hHeld => ?_)
        case hSn44 => exact HI7.out.fr
        clear hK K
        (try simp only [Act.put, zA1, zA2, zA3])
        refine wpAnyH_done (by kernel_rfl) ?_ _
        clear HI hI0 hI1 hko hfo hb7 hHeld
        go_wp2
        go_roundw
        case rel => repeat (first | exact ⟨⟨i + 1, _, HIB.out, congrArg (Value.int .i64) (by omega), HI7, HU7⟩, rfl⟩ | exact ⟨i + 1, _, HIB.out, congrArg (Value.int .i64) (by omega), HI7, HU7⟩ | apply Exists.intro)
        case measure => exact meas_q HIB.out
       ·obtain rfl : i = bw b := by omega
        have HO : Aside0 (O = spl y.o (q * 32 + bfN b) (sc (lo f q b) lx)) := ⟨HU.out.all (by rw [HFY.out.o]; have := HQQ.out; have := HBN.out; omega) (by rw [sc_len]; exact HXL.out.1) (fun j hj => ga_some (by rw [sc_len, HXL.out.1]; exact hj))⟩
        clear ht3 hi HU
        go_wp2
        have hst : spRow f b (q + 1) z = spStep f b q y := by show spStep f b q (spRow f b q z) = _; rw [HY.out]
        have hsd : Value.int .u32 (shp f q b y).2 = Value.int .u32 (spRow f b (q + 1) z).sd := by rw [hst]; rfl
        have hsd2 := hsd
        rw [HX.out] at hsd2
        have HS3 := Aside0.mk hsd2
        have HI8 : Aside0 (NI w wr s c f gs go gf (spl L (q * 32 + bfN b) lx) (spRow f b (q + 1) z).o ∧ QI c b (q + 1) (spRow f b (q + 1) z) (spl L (q * 32 + bfN b) lx)) := ⟨by
         rw [hst]
         refine ⟨?_, HSTEP.out⟩
         unfold spStep; rw [show (shp f q b y).1 = lx from by rw [HX.out]; exact HLX.out, ← HO.out]; exact HI.out⟩
        clear hst hsd hsd2 HI HSTEP
        go_roundw
        case rel => repeat (first | exact ⟨⟨q + 1, _, HQQ.out.1, HS3.out, congrArg (Value.int .i64) (by omega), ⟨HI8.out.1⟩, ⟨HI8.out.2⟩⟩, rfl⟩ | exact ⟨q + 1, _, HQQ.out.1, HS3.out, congrArg (Value.int .i64) (by omega), ⟨HI8.out.1⟩, ⟨HI8.out.2⟩⟩ | apply Exists.intro)
        case measure => exact meas_q HQQ.out.1
    ·obtain rfl : q = c := by omega
     clear ht hq
     have hst : spAll f q (b + 1) (sp0 sd) = spRow f b q z := by show spRow f b q (spAll f q b (sp0 sd)) = _; rw [HZ.out]
     rw [← hst] at HI HQI
     have HZI := Aside0.mk HQI.out.close
     have hsd : Value.int .u32 (spRow f b q z).sd = Value.int .u32 (spAll f q (b + 1) (sp0 sd)).sd := by rw [hst]
     have HSD2 := Aside0.mk hsd
     clear hst hsd HQI
     go_wp2
     go_roundw
     case rel => repeat (first | exact ⟨⟨b + 1, L, HBB.out.1, HSD2.out, rfl, congrArg (Value.int .i64) (by omega), HI, HZI⟩, rfl⟩ | exact ⟨b + 1, L, HBB.out.1, HSD2.out, rfl, congrArg (Value.int .i64) (by omega), HI, HZI⟩ | apply Exists.intro)
     case measure => exact meas_b HBB.out.1
  ·obtain rfl : b = s + 3 := by omega
   have d1 : decide ((s : Int) + 3 < (s : Int) + 3) = false := decide_eq_false (by omega)
   clear ht hb
   go_wp2
   go_ret
   exact ⟨rfl, L, HI.out⟩
end Go.Proofs.YtjpnbdofbkoddaaDoor.Sh
namespace Go.Proofs.YtjpnbdofbkoddaaDoor.Sh
open Go.RowKit Go.Proofs.YtjpnbdofbkoddaaDoorW.PrintWords Go.Proofs.YtjpnbdofbkoddaaDoorW.PrintLast Go.Proofs.YtjpnbdofbkoddaaDoorW.PrintMore
open Go.Proofs.YtjpnbdofbkoddaaDoor.OShapeSeeds Go.Proofs.YtjpnbdofbkoddaaDoor.Sy Go.Proofs.YtjpnbdofbkoddaaDoor.SyWalk Go.Proofs.YtjpnbdofbkoddaaDoor.WrWalk
section
variable {P : Program}
def AllInt (k : IntKind) (xs : Array Value) : Prop := ∀ (j : Nat) (v : Value), xs[j]? = some v → ∃ n, v = .int k n
theorem eqItems_refl (dd : Nat) {e : TypeId} {n : Nat} (xs : Array Value) : ∀ (is : List Nat) (w : World), (∀ i ∈ is, ∃ v, (∀ w, (part e xs (i * n)).run P w = .ok v w) ∧ ∀ w, (Op.equalIn dd e v v).run P w = .ok true w) → (Op.eqItems dd e n xs xs is).run P w = .ok true w
 | [], w, _ => by simp [Op.eqItems]
 | i :: is, w, h => by
  obtain ⟨v, h1, h2⟩ := h i (by simp)
  have ih := eqItems_refl dd xs is w (fun j hj => h j (by simp [hj]))
  simp only [Op.eqItems, Sem.run_bind, h1, h2, Result.andThen_ok]
  simpa using ih
theorem eqFields_refl (dd : Nat) (xs : Array Value) : ∀ (fs : List Field) (w : World), (∀ f ∈ fs, ∃ v, (∀ w, (part f.type xs f.offset).run P w = .ok v w) ∧ ∀ w, (Op.equalIn dd f.type v v).run P w = .ok true w) → (Op.eqFields dd xs xs fs).run P w = .ok true w
 | [], w, _ => by simp [Op.eqFields]
 | f :: fs, w, h => by
  obtain ⟨v, h1, h2⟩ := h f (by simp)
  have ih := eqFields_refl dd xs fs w (fun j hj => h j (by simp [hj]))
  by_cases hn : f.name ≠ "_"
  ·simp only [Op.eqFields, hn, ne_eq, not_false_eq_true, if_true, Sem.run_bind, h1, h2, Result.andThen_ok]
   simpa using ih
  ·simp only [Op.eqFields, if_neg hn]
   exact ih
theorem refl_ints (d : Nat) {t e : TypeId} {n : Nat} {k : IntKind} (hu : P.underlying t = some (.array n e)) (he : P.underlying e = some (.int k)) (hc : P.cellsOf e = 1) (xs : Array Value) (hs : xs.size = n) (hi : AllInt k xs) (w : World) : (Op.equalIn (d + 2) t (.agg xs) (.agg xs)).run P w = .ok true w := by
 obtain ⟨i, hinf⟩ := info_of_underlying he
 rw [run_equalIn_array w (d + 1) xs xs hu hinf, hc]
 refine eqItems_refl (d + 1) xs _ w (fun j hj => ?_)
 have hj2 : j < xs.size := by rw [hs]; exact List.mem_range.1 hj
 obtain ⟨v, hv⟩ : ∃ v, xs[j]? = some v := ⟨_, Array.getElem?_eq_getElem hj2⟩
 obtain ⟨x, rfl⟩ := hi j v hv
 refine ⟨_, fun w => run_part_plain w (by simp [Program.plainKey, he]) (by rw [Nat.mul_one]; exact hv), fun w => ?_⟩
 rw [run_equalIn_int w d e k k x x he]
 simp
theorem part_arr {e e' : TypeId} {n : Nat} (hu : P.underlying e = some (.array n e')) (xs : Array Value) (off : Nat) (w : World) : (part e xs off).run P w = .ok (.agg (xs.extract off (off + P.cellsOf e))) w := by
 obtain ⟨i, hinf⟩ := info_of_underlying hu
 simp [part, isAgg, run_underlying hu, run_sizeOf w hinf]
theorem AllInt.cut {k : IntKind} {xs : Array Value} (h : AllInt k xs) (a b : Nat) : AllInt k (xs.extract a b) := fun j v hv => by
 rw [Array.getElem?_extract] at hv
 split at hv
 ·exact h _ v hv
 ·cases hv
theorem refl_arrs (d : Nat) {t u e : TypeId} {m n : Nat} {k : IntKind} (ht : P.underlying t = some (.array m u)) (hu : P.underlying u = some (.array n e)) (he : P.underlying e = some (.int k)) (hc : P.cellsOf e = 1) (hcu : P.cellsOf u = n) (xs : Array Value) (hs : xs.size = m * n) (hi : AllInt k xs) (w : World) : (Op.equalIn (d + 3) t (.agg xs) (.agg xs)).run P w = .ok true w := by
 obtain ⟨i, hinf⟩ := info_of_underlying hu
 rw [run_equalIn_array w (d + 2) xs xs ht hinf, hcu]
 refine eqItems_refl (d + 2) xs _ w (fun j hj => ⟨_, fun w => part_arr hu xs (j * n) w, fun w => ?_⟩)
 have hjm := List.mem_range.1 hj
 have hle : j * n + n ≤ m * n := by rw [← Nat.succ_mul]; exact Nat.mul_le_mul_right n hjm
 exact refl_ints d hu he hc _ (by rw [hcu, Array.size_extract]; omega) (hi.cut _ _) w
end
theorem fr_int {f : Fr} (hl : f.L.length = 92) (j : Nat) (h2 : 2 ≤ j) (hj : j < 94) : ∃ n, f.cells.toArray[j]? = some (.int .i64 n) := by
 have := f.cells_at (j - 2) (by omega)
 rw [show j - 2 + 2 = j by omega] at this
 exact ⟨_, this⟩
theorem fr_ints {f : Fr} (hl : f.L.length = 92) (a b : Nat) (h2 : 2 ≤ a) : AllInt .i64 (f.cells.toArray.extract a b) := fun j v hv => by
 rw [Array.getElem?_extract] at hv
 split at hv
 ·have hlt := (Array.getElem?_eq_some_iff.1 hv).1
  obtain ⟨n, hn⟩ := fr_int hl (a + j) (by omega) (by simp [Fr.cells, hl] at hlt ⊢; omega)
  rw [hn] at hv
  exact ⟨n, (Option.some.inj hv).symm⟩
 ·cases hv
set_option maxRecDepth 100000 in
theorem eq61 (f : Fr) (hl : f.L.length = 92) (w : World) : (Op.equalIn 10000 61 (.agg f.cells.toArray) (.agg f.cells.toArray)).run Tryd.prog w = .ok true w := by
 have hsz : f.cells.toArray.size = 94 := by simp [Fr.cells, hl]
 rw [show (10000 : Nat) = 9999 + 1 from rfl, run_equalIn_struct w 9999 61 _ _ (by kernel_rfl) (by kernel_rfl)]
 have B : ∀ (j : Nat) (b : Bool), f.cells.toArray[j]? = some (.bool b) → ∃ v, (∀ w, (part 4 f.cells.toArray j).run Tryd.prog w = .ok v w) ∧ ∀ w, (Op.equalIn 9999 4 v v).run Tryd.prog w = .ok true w := fun j b h => ⟨_, fun w => run_part_plain w (by kernel_rfl) h, fun w => by rw [show (9999 : Nat) = 9998 + 1 from rfl, run_equalIn_bool' w 9998 4 b b Tryd.underlying4]; simp⟩
 have I : ∀ (j : Nat), 2 ≤ j → j < 94 → ∃ v, (∀ w, (part 3 f.cells.toArray j).run Tryd.prog w = .ok v w) ∧ ∀ w, (Op.equalIn 9999 3 v v).run Tryd.prog w = .ok true w := fun j h2 h3 => by
  obtain ⟨n, hn⟩ := fr_int hl j h2 h3
  exact ⟨_, fun w => run_part_plain w (by kernel_rfl) hn, fun w => by rw [show (9999 : Nat) = 9998 + 1 from rfl, run_equalIn_int w 9998 3 .i64 .i64 n n Tryd.underlying3]; simp⟩
 refine eqFields_refl 9999 _ _ w ?_
 unfold Program.fieldsOf
 rw [Tryd.underlying61]
 intro g hg
 simp only [List.mem_cons, List.not_mem_nil, or_false] at hg
 rcases hg with rfl | rfl | rfl | rfl | rfl | rfl | rfl | rfl | rfl
 ·exact B 0 f.si rfl
 ·exact B 1 f.it rfl
 ·exact I 2 (by decide) (by decide)
 ·exact I 3 (by decide) (by decide)
 ·exact I 4 (by decide) (by decide)
 ·exact ⟨_, fun w => part_arr (n := 2) (e' := 54) Tryd.underlying55 _ _ w, fun w => refl_arrs 9996 (t := 55) (u := 54) (e := 3) (m := 2) (n := 5) Tryd.underlying55 Tryd.underlying54 Tryd.underlying3 (by kernel_rfl) (by kernel_rfl) _ (by rw [Array.size_extract, hsz, show Tryd.prog.cellsOf 55 = 10 by kernel_rfl]; rfl) (fr_ints hl _ _ (by decide)) w⟩
 ·exact ⟨_, fun w => part_arr (n := 2) (e' := 54) Tryd.underlying55 _ _ w, fun w => refl_arrs 9996 (t := 55) (u := 54) (e := 3) (m := 2) (n := 5) Tryd.underlying55 Tryd.underlying54 Tryd.underlying3 (by kernel_rfl) (by kernel_rfl) _ (by rw [Array.size_extract, hsz, show Tryd.prog.cellsOf 55 = 10 by kernel_rfl]; rfl) (fr_ints hl _ _ (by decide)) w⟩
 ·exact ⟨_, fun w => part_arr (n := 5) (e' := 3) Tryd.underlying54 _ _ w, fun w => refl_ints 9997 (t := 54) (e := 3) (n := 5) Tryd.underlying54 Tryd.underlying3 (by kernel_rfl) _ (by rw [Array.size_extract, hsz, show Tryd.prog.cellsOf 54 = 5 by kernel_rfl]; rfl) (fr_ints hl _ _ (by decide)) w⟩
 ·exact ⟨_, fun w => part_arr (n := 2) (e' := 58) Tryd.underlying59 _ _ w, fun w => refl_arrs 9996 (t := 59) (u := 58) (e := 3) (m := 2) (n := 32) Tryd.underlying59 Tryd.underlying58 Tryd.underlying3 (by kernel_rfl) (by kernel_rfl) _ (by rw [Array.size_extract, hsz, show Tryd.prog.cellsOf 59 = 64 by kernel_rfl]; rfl) (fr_ints hl _ _ (by decide)) w⟩
theorem eq66 (O : List Int) (hl : O.length = 64) (w : World) : (Op.equalIn 10000 66 (.agg (rowI O)) (.agg (rowI O))).run Tryd.prog w = .ok true w :=
 refl_arrs 9997 (t := 66) (u := 65) (e := 21) (m := 2) (n := 32) Tryd.underlying66 Tryd.underlying65 Tryd.underlying21 (by kernel_rfl) (by kernel_rfl) _ (by rw [rowI_sz, hl]) (fun j v hv => by
  have hj := (Array.getElem?_eq_some_iff.1 hv).1
  rw [rowI_sz] at hj
  rw [rowI_at hj] at hv
  exact ⟨_, (Option.some.inj hv).symm⟩) w
theorem rowI_C {w : World} {g t : Nat} {O : List Int} (h : w.heap[g]? = some (.cells (rowI O) t (0, 0))) {o : Nat} (ho : o + 32 ≤ O.length) : Kd.C (Kd.int .i32) w (some ⟨g, o, none⟩) 32 (sl O o 32) := by
 refine ⟨sl_len ho, by omega, fun _ => ⟨_, rfl, fun j p hp => ⟨[.int .i32 p], rfl, rfl, fun i u hu => ?_⟩⟩⟩
 have hj : j < 32 := by have := (List.getElem?_eq_some_iff.1 hp).1; rwa [sl_len ho] at this
 have hi : i = 0 := by have := (List.getElem?_eq_some_iff.1 hu).1; simp at this; omega
 subst hi
 have hu2 : u = .int .i32 p := by simpa using hu.symm
 subst hu2
 rw [Addr.add_mid]
 rw [sl_at _ _ _ hj] at hp
 have hp2 : p = ga O (o + j) := by unfold ga; rw [List.getD_eq_getElem?_getD, hp]; rfl
 rw [hp2]
 show w.cell? ⟨g, o + (j * 1 + 0), none⟩ = _
 rw [show o + (j * 1 + 0) = o + j by omega, blk_cell h, rowI_at (by omega)]
theorem rowL_C {w : World} {g t : Nat} {O : List Int} (h : w.heap[g]? = some (.cells (rowL O) t (0, 0))) {o : Nat} (ho : o + 32 ≤ O.length) : Kd.C (Kd.int .i64) w (some ⟨g, o, none⟩) 32 (sl O o 32) := by
 refine ⟨sl_len ho, by omega, fun _ => ⟨_, rfl, fun j p hp => ⟨[.int .i64 p], rfl, rfl, fun i u hu => ?_⟩⟩⟩
 have hj : j < 32 := by have := (List.getElem?_eq_some_iff.1 hp).1; rwa [sl_len ho] at this
 have hi : i = 0 := by have := (List.getElem?_eq_some_iff.1 hu).1; simp at this; omega
 subst hi
 have hu2 : u = .int .i64 p := by simpa using hu.symm
 subst hu2
 rw [Addr.add_mid]
 rw [sl_at _ _ _ hj] at hp
 have hp2 : p = ga O (o + j) := by unfold ga; rw [List.getD_eq_getElem?_getD, hp]; rfl
 rw [hp2]
 show w.cell? ⟨g, o + (j * 1 + 0), none⟩ = _
 rw [show o + (j * 1 + 0) = o + j by omega, blk_cell h, rowL_at (by omega)]
structure SmI (w0 w : World) (O : List Int) : Prop where
 b : Below w0.heap.size w0 w
 x : w.heap[w0.heap.size]? = some (.cells (rowI O) 66 (0, 0))
 y : w.heap[w0.heap.size + 1]? = some (.cells (rowL O) 76 (0, 0))
theorem SmI.below {w0 w w1 : World} {O : List Int} (h : SmI w0 w O) (hb : Below w.heap.size w w1) : SmI w0 w1 O := ⟨below_step h.b hb, blk_below h.x hb, blk_below h.y hb⟩
set_option maxHeartbeats 4000000 in
set_option maxRecDepth 100000 in
theorem same_call (O : List Int) (hl : O.length = 64) (hw : ∀ x ∈ O, ShapePlain.I32 x) (w : World) : Calls Tryd.prog 30 #[.agg (rowI O), .agg (rowL O)] w fun e w' => e = .returned (.bool true) ∧ Below w.heap.size w w' := by
 have HI : Aside0 (SmI w ((w.alloc (.cells (rowI O) 66)).alloc (.cells (rowL O) 76)) O) := ⟨below_alloc (below_alloc (Below.refl _ _) _) _, blk_alloc (blk_new _ _) _, by
  rw [show w.heap.size + 1 = (w.alloc (.cells (rowI O) 66)).heap.size by simp [World.alloc_eq]]; exact blk_new _ _⟩
 have HL := Aside0.mk hl
 have HW : Aside0 (∀ o, ∀ x ∈ sl O o 32, ShapePlain.I32 x) := ⟨fun o x hx => hw x (List.mem_of_mem_drop (List.mem_of_mem_take hx))⟩
 obtain ⟨xs, hxs⟩ : ∃ xs, rowI O = xs := ⟨_, rfl⟩
 obtain ⟨ys, hys⟩ : ∃ ys, rowL O = ys := ⟨_, rfl⟩
 rw [hxs, hys] at HI ⊢
 clear hl hw hxs hys
 go_enter Tryd.func30, Tryd.ntmps30
 go_wp2
 go_loopw [6] (fun iv wr => ∃ q : Nat, q ≤ 2 ∧ iv = .int .i64 q ∧ Aside0 (SmI w wr O)) (fun iv _ => ((2 : Nat) - intOf iv).toNat)
 case atStart => exact ⟨0, by omega, rfl, HI⟩
 case round =>
  obtain ⟨q, hq, rfl, HI2⟩ := hrel
  clear HI
  have HI := HI2
  clear HI2
  by_cases ht : q < 2
  ·have HQ : Aside0 (q + 1 ≤ 2 ∧ q ≤ 1) := ⟨by omega, by omega⟩
   have i1 : (0 : Int) ≤ (q : Int) := by omega
   have i2 : (q : Int) < 2 := by omega
   clear hq
   go_wp2
   refine wp_region_held_drew (S := (fun w1 => SmI w w1 O)) (by kernel_rfl) ?hS0 (fun hHeld => ?_)
   case hS0 => exact HI.out.below (drew_self _)
   refine zTH (v := ?_) 0 rfl hHeld ?h ?_
   case h => (intro w1 h1; go_simp; (try with_reducible rfl))
   (try simp only [Act.put, zA1, zA2, zA3])
   refine zTH (v := ?_) 1 rfl hHeld ?h ?_
   case h => (intro w1 h1; go_simp; (try with_reducible rfl))
   (try simp only [Act.put, zA1, zA2, zA3])
   refine zTH (v := ?_) 2 rfl hHeld ?h ?_
   case h => (intro w1 h1; go_simp; (try with_reducible rfl))
   (try simp only [Act.put, zA1, zA2, zA3])
   refine zTH (v := ?_) 3 rfl hHeld ?h ?_
   case h => (intro w1 h1; go_simp; (try with_reducible rfl))
   (try simp only [Act.put, zA1, zA2, zA3])
   refine zTH (v := ?_) 4 rfl hHeld ?h ?_
   case h => (intro w1 h1; go_simp; (try with_reducible rfl))
   (try simp only [Act.put, zA1, zA2, zA3])
   refine zTH (v := ?_) 5 rfl hHeld ?h ?_
   case h => (intro w1 h1; go_simp; (try with_reducible rfl))
   (try simp only [Act.put, zA1, zA2, zA3])
   refine zOH 6 rfl fun K hK => ?_
   refine goes_ (N := some 15) Tryd.func10 (by kernel_rfl) rfl #[.slice (some ⟨w.heap.size, q * 32, none⟩) 32 32, .slice (some ⟨w.heap.size + 1, q * 32, none⟩) 32 32] (by rfl) rfl rfl (by first | rfl | (simp only [List.map_toArray, List.map_cons, List.map_nil]; rfl)) ?_
   (with_reducible refine (Shape.same_read (sl O (q * 32) 32) 32 (sl_len (by rw [HL.out]; have := HQ.out; omega)) (by decide) (HW.out _) (some ⟨w.heap.size, q * 32, none⟩) (some ⟨w.heap.size + 1, q * 32, none⟩) 32 32 _ (rowI_C hHeld.x (by rw [HL.out]; have := HQ.out; omega)) (by decide) (rowL_C hHeld.y (by rw [HL.out]; have := HQ.out; omega)) (by decide)).mono ?_); rintro e w2 ⟨rfl, hb2⟩
   refine ⟨_, rfl, ?_⟩
   refine hK.out _ _ ?hSn7 (fun hHeld => ?_)
   case hSn7 => exact hHeld.below hb2
   clear hK K
   (try simp only [Act.put, zA1, zA2, zA3])
   refine zTH (v := ?_) 7 rfl hHeld ?h ?_
   case h => (intro w1 h1; go_simp; (try with_reducible rfl))
   (try simp only [Act.put, zA1, zA2, zA3])
   refine wpAnyH_done (by kernel_rfl) ?_ _
   have HI1 := Aside0.mk hHeld
   clear HI hb2 hHeld
   have HI := HI1
   clear HI1
   go_wp2
   go_roundw
   case rel => exact ⟨q + 1, HQ.out.1, congrArg (Value.int .i64) (by omega), HI⟩
   case measure => have := HQ.out; simp [intOf]; omega
  ·obtain rfl : q = 2 := by omega
   clear ht hq
   go_wp2
   go_ret
   exact ⟨rfl, HI.out.b⟩
open Go.Proofs.YtjpnbdofbkoddaaDoor.ShapePlain (sc sc_len sc_in)
theorem mright_is (a b : Int) : mode_Mode_Right.f a b = some (decide (0 ≤ a ∧ a ≤ 2 ∧ 1 ≤ b ∧ b ≤ 2)) := by
 unfold mode_Mode_Right.f
 (repeat' split) <;> (congr 1; symm; first | exact decide_eq_true (by omega) | exact decide_eq_false (by omega) | (simp; omega) | (rw [decide_eq_decide]; omega))
theorem odd_bands (a b : Int) (h : ¬ (0 ≤ a ∧ a ≤ 2 ∧ 1 ≤ b ∧ b ≤ 2)) (w : World) : Calls Tryd.prog 22 #[.agg #[.int .i64 a, .int .i64 b]] w fun e w' => e = .returned (.int .i64 0) ∧ Below w.heap.size w w' := by
 have hf : mode_Mode_Bands.f a b = some 0 := by
  unfold mode_Mode_Bands.f
  rw [mright_is, decide_eq_false h]
  rfl
 exact mode_Mode_Bands.calls a b 0 w hf
structure OJ (w0 w : World) (a b : Int) (f : Fr) : Prop where
 bb : Below w0.heap.size w0 w
 md : w.heap[w0.heap.size]? = some (.cells #[.int .i64 a, .int .i64 b] 53 (0, 0))
 fr : w.heap[w0.heap.size + 1]? = some (.cells f.cells.toArray 61 (0, 0))
 rs : w.heap[w0.heap.size + 1 + 1]? = some (.cells (rowI zero64) 66 (0, 0))
 out : w.heap[w0.heap.size + 1 + 1 + 1]? = some (.cells (rowI zero64) 66 (0, 0))
theorem OJ.below {w0 w w1 : World} {a b : Int} {f : Fr} (h : OJ w0 w a b f) (hb : Below w.heap.size w w1) : OJ w0 w1 a b f := ⟨below_step h.bb hb, blk_below h.md hb, blk_below h.fr hb, blk_below h.rs hb, blk_below h.out hb⟩
theorem alloc_O8 {ops : Array Oper} {rest : List Oper} {o : Oper} {ac : Act} {w0 : World} {Q : Exit → Act → World → Prop} (a b : Int) (f : Fr) (hg : o.guard = none) (ho : o.op = .alloc 66) (hd : o.dst = some 8)
 (h : ∀ W, OJ w0 W a b f → wpList Tryd.prog ops Q rest (ac.put (some 8) (.pointer (some ⟨w0.heap.size + 1 + 1 + 1, 0, none⟩))) W) : wpList Tryd.prog ops Q (o :: rest) ac (((w0.alloc (.cells #[.int .i64 a, .int .i64 b] 53)).alloc (.cells f.cells.toArray 61)).alloc (.cells (rowI zero64) 66)) := by
 refine alloc_to hg 66 ho _ z66 ?_
 have s1 : (w0.alloc (.cells #[.int .i64 a, .int .i64 b] 53)).heap.size = w0.heap.size + 1 := by simp [World.alloc_eq]
 have s2 : ((w0.alloc (.cells #[.int .i64 a, .int .i64 b] 53)).alloc (.cells f.cells.toArray 61)).heap.size = w0.heap.size + 1 + 1 := by simp [World.alloc_eq]
 have s3 : (((w0.alloc (.cells #[.int .i64 a, .int .i64 b] 53)).alloc (.cells f.cells.toArray 61)).alloc (.cells (rowI zero64) 66)).heap.size = w0.heap.size + 1 + 1 + 1 := by simp [World.alloc_eq]
 rw [hd, s3]
 refine h _ ⟨below_alloc (below_alloc (below_alloc (below_alloc (Below.refl _ _) _) _) _) _, blk_alloc (blk_alloc (blk_alloc (blk_new _ _) _) _) _, ?_, ?_, ?_⟩
 ·rw [← s1]; exact blk_alloc (blk_alloc (blk_new _ _) _) _
 ·rw [← s2]; exact blk_alloc (blk_new _ _) _
 ·rw [← s3]; exact blk_new _ _
set_option maxHeartbeats 4000000 in
set_option maxRecDepth 100000 in
theorem spec_odd (a b : Int) (h : ¬ (0 ≤ a ∧ a ≤ 2 ∧ 1 ≤ b ∧ b ≤ 2)) (f : Fr) (sd : Int) (hfl : f.L.length = 92) (w : World) :
 Calls Tryd.prog 21 #[.agg #[.int .i64 a, .int .i64 b], .agg f.cells.toArray, .int .u32 sd] w fun e w' => e = .returned (.tuple #[.agg (rowI zero64), .int .u32 sd]) ∧ Below w.heap.size w w' := by
 have h0 : f.cells.toArray[0]? = some (.bool f.si) := f.cells_0
 have HSZ := Aside0.mk (fr_sz61 f hfl)
 have HOB := Aside0.mk (odd_bands a b h)
 have HB : Aside0 (Below w.heap.size w w) := ⟨Below.refl _ _⟩
 clear h hfl
 obtain ⟨si, hsi⟩ : ∃ si, f.si = si := ⟨_, rfl⟩
 rw [hsi] at h0
 clear hsi
 have H00 := Aside0.mk h0
 cases si
 ·go_enter Tryd.func21, Tryd.ntmps21
  go_wp2_with (first
   | ((with_reducible refine alloc_O8 a b f rfl rfl rfl ?_); intro W h8; have HI := Aside0.mk h8; have hc0 := (blk_cell h8.fr 0).trans H00.out; clear h8)
   | (with_reducible refine alloc_to rfl 66 rfl _ z66 ?_)
   | ((with_reducible refine alloc_to rfl 115 rfl _ z115 ?_); have HI1 := Aside0.mk (HI.out.below (below_alloc (Below.refl _ _) (.cells #[.slice none 0 0, .slice none 0 0] 115))); clear HI hc0; obtain ⟨W2, hW2⟩ : ∃ W2, W.alloc (.cells #[.slice none 0 0, .slice none 0 0] 115) = W2 := ⟨_, rfl⟩; rw [hW2] at HI1 ⊢; have HI := HI1; clear HI1 hW2)
   | (refine wpList_load_row rfl 53 (.tmp 3) rfl w.heap.size rfl 53 #[.int .i64 a, .int .i64 b] (0, 0) _ HI.out.md Tryd.underlying53 rfl (by kernel_rfl) ?_)
   | (go_at_call 22; (with_reducible refine (HOB.out _).mono ?_); rintro e w1 ⟨rfl, hb1⟩; have HI1 := Aside0.mk (HI.out.below hb1); clear HI hb1; have HI := HI1; clear HI1))
  go_loopw [2, 21] (fun sv bv wr => sv = .int .u32 sd ∧ bv = .int .i64 0 ∧ Aside0 (OJ w wr a b f)) (fun sv bv _ => 0)
  case atStart => exact ⟨rfl, rfl, HI⟩
  case round =>
   obtain ⟨rfl, rfl, HI2⟩ := hrel
   clear HI
   have HI := HI2
   clear HI2
   go_wp2_with (first
    | (refine wpList_load_row rfl 66 (.tmp 8) rfl (w.heap.size + 1 + 1 + 1) rfl 66 (rowI zero64) (0, 0) _ HI.out.out Tryd.underlying66 rfl (by kernel_rfl) ?_)
    | (refine wpList_store_row rfl 66 (.tmp 6) (.tmp 76) rfl (w.heap.size + 1 + 1) (rowI zero64) rfl rfl 66 _ HI.out.rs (by kernel_rfl) rfl (rowI_one _) ?_))
   refine bodyPost_ret (results_cell_tmp rfl _ _ (w.heap.size + 1 + 1) 66 _ _ _ _ rfl (setRow_heap _ _ _ _ _ _ HI.out.rs) Tryd.underlying66 rfl (by kernel_rfl) rfl) rfl ?_
   exact ⟨rfl, below_setRow HI.out.bb (by omega) _⟩
 ·go_enter Tryd.func21, Tryd.ntmps21
  go_wp2_with (first
   | ((with_reducible refine alloc_O8 a b f rfl rfl rfl ?_); intro W h8; have HI := Aside0.mk h8; have hc0 := (blk_cell h8.fr 0).trans H00.out; clear h8)
   | (with_reducible refine alloc_to rfl 66 rfl _ z66 ?_)
   | (refine wpList_load_row rfl 66 (.tmp 8) rfl (w.heap.size + 1 + 1 + 1) rfl 66 (rowI zero64) (0, 0) _ HI.out.out Tryd.underlying66 rfl (by kernel_rfl) ?_)
   | (refine wpList_store_row rfl 66 (.tmp 6) (.tmp 17) rfl (w.heap.size + 1 + 1) (rowI zero64) rfl rfl 66 _ HI.out.rs (by kernel_rfl) rfl (rowI_one _) ?_))
  refine bodyPost_ret (results_cell_tmp rfl _ _ (w.heap.size + 1 + 1) 66 _ _ _ _ rfl (setRow_heap _ _ _ _ _ _ HI.out.rs) Tryd.underlying66 rfl (by kernel_rfl) rfl) rfl ?_
  exact ⟨rfl, below_setRow HI.out.bb (by omega) _⟩
set_option maxHeartbeats 4000000 in
set_option maxRecDepth 100000 in
theorem into_odd (a b : Int) (h : ¬ (0 ≤ a ∧ a ≤ 2 ∧ 1 ≤ b ∧ b ≤ 2)) (f : Fr) (sd : Int) (hfl : f.L.length = 92) (gs go gf : Nat) (L O : List Int) (w : World) (hI : NI w w a b f gs go gf L O) :
 Calls Tryd.prog 29 #[.pointer (some ⟨gs, 0, none⟩), .pointer (some ⟨go, 0, none⟩), .pointer (some ⟨gf, 0, none⟩), .int .u32 sd] w fun e w' => e = .returned (.int .u32 sd) ∧ NI w w' a b f gs go gf L zero64 := by
 obtain ⟨si, it, Lf⟩ := f
 cases si
 ·have HI := Aside0.mk hI
  have HOB := Aside0.mk (odd_bands a b h)
  clear hI h
  go_enter Tryd.func29, Tryd.ntmps29
  go_wp2_with (first
   | ((refine store_rowG rfl 66 (.tmp 22) (.tmp 21) rfl go (rowI zero64) rfl rfl 66 _ HI.out.out (by kernel_rfl) (by rw [rowI_sz, rowI_sz, HI.out.ol]; rfl) (rowI_one _) ?_); intro W hW hf hb; have HI1 := Aside0.mk (HI.out.rowO hW hf hb); clear HI hW hf hb; have HI := HI1; clear HI1; have hc0 := (blk_cell HI.out.fr 0).trans (Fr.cells_0 _))
   | (refine wpList_load_mid rfl 53 (.tmp 30) rfl gs 0 rfl [.int .i64 a, .int .i64 b] _ (mode_range HI.out.sh) Tryd.underlying53 rfl (by kernel_rfl) ?_)
   | (go_at_call 22; (with_reducible refine (HOB.out _).mono ?_); rintro e w1 ⟨rfl, hb1⟩; have HI1 := Aside0.mk (HI.out.below hb1); clear HI hb1; have HI := HI1; clear HI1; clear hc0))
  go_loopw [3, 9, 33] (fun sv av bv wr => sv = .int .u32 sd ∧ bv = .int .i64 0 ∧ Aside0 (NI w wr a b ⟨false, it, Lf⟩ gs go gf L zero64)) (fun sv av bv _ => 0)
  case atStart => exact ⟨rfl, rfl, HI⟩
  case round =>
   obtain ⟨rfl, rfl, HI2⟩ := hrel
   clear HI
   go_wp2
   go_ret
   exact ⟨rfl, HI2.out⟩
 ·exact into_silent a b it Lf sd hfl gs go gf L O w hI
theorem ofit_row {f : Fr} {b : Nat} {z : Sp} (h : ∀ x ∈ z.o, ShapePlain.I32 x) : ∀ q, ∀ x ∈ (spRow f b q z).o, ShapePlain.I32 x
 | 0 => h
 | q + 1 => fun x hx => by
  have h2 : x ∈ spl (spRow f b q z).o (q * 32 + bfN b) (sc (lo f q b) (shp f q b (spRow f b q z)).1) := hx
  unfold spl at h2
  rcases List.mem_append.1 h2 with h3 | h3
  ·exact ofit_row h q x (List.mem_of_mem_take h3)
  ·rcases List.mem_append.1 h3 with h4 | h4
   ·exact sc_in _ _ x h4
   ·exact ofit_row h q x (List.mem_of_mem_drop h4)
theorem zero_fit : ∀ x ∈ zero64, ShapePlain.I32 x := fun x hx => by
 have := List.eq_of_mem_replicate hx
 subst this
 exact ⟨by decide, by decide⟩
theorem ofit_all {f : Fr} {c : Nat} (sd : Int) : ∀ b, ∀ x ∈ (spAll f c b (sp0 sd)).o, ShapePlain.I32 x
 | 0 => zero_fit
 | b + 1 => ofit_row (ofit_all sd b) c
theorem three (s c : Nat) (f : Fr) (sd : Int) (hs : s ≤ 2) (hc1 : 1 ≤ c) (hc2 : c ≤ 2) (hsd : NoisePlain.U32 sd) (hl : f.L.length = 92) : ∃ (O : List Int) (S : Int), O.length = 64 ∧ (∀ x ∈ O, ShapePlain.I32 x) ∧ NoisePlain.U32 S ∧
 (∀ w, Calls Tryd.prog 28 #[.int .i64 s, .int .i64 c, .agg f.cells.toArray, .int .u32 sd] w fun e w' => e = .returned (.tuple #[.agg (rowL O), .int .u32 S]) ∧ Below w.heap.size w w') ∧
 (∀ w, Mode.Laid w → Shape.Laid w → Spread.Laid w → Calls Tryd.prog 21 #[.agg #[.int .i64 s, .int .i64 c], .agg f.cells.toArray, .int .u32 sd] w fun e w' => e = .returned (.tuple #[.agg (rowI O), .int .u32 S]) ∧ Below w.heap.size w w') ∧
 (∀ (gs go gf : Nat) (L O0 : List Int) (w : World), NI w w s c f gs go gf L O0 → Calls Tryd.prog 29 #[.pointer (some ⟨gs, 0, none⟩), .pointer (some ⟨go, 0, none⟩), .pointer (some ⟨gf, 0, none⟩), .int .u32 sd] w fun e w' => e = .returned (.int .u32 S) ∧ ∃ L', NI w w' s c f gs go gf L' O) := by
 obtain ⟨si, it, L⟩ := f
 cases si
 ·refine ⟨_, _, (all_fine hc2 sd (s + 3) (by omega)).o, ofit_all sd (s + 3), all_u32 hsd (s + 3), fun w => ref_loud s c it L sd hs hc1 hc2 hsd hl w, fun w lm lp ls => spec_loud s c it L sd hs hc1 hc2 hl w lm lp ls, fun gs go gf L2 O0 w hI => into_loud s c it L sd hs hc1 hc2 hsd hl gs go gf L2 O0 w hI⟩
 ·refine ⟨zero64, sd, by simp [zero64], zero_fit, hsd, fun w => ref_silent s c it L sd hs hc1 hc2 hsd hl w, fun w lm lp ls => spec_silent s c it L sd hs hc1 hc2 hl w lm lp ls, fun gs go gf L2 O0 w hI => (into_silent s c it L sd hl gs go gf L2 O0 w hI).mono (fun e w' h => ⟨h.1, _, h.2⟩)⟩
section
variable {P : Program}
theorem alloc_toG {ops : Array Oper} {rest : List Oper} {o : Oper} {a : Act} {w : World} {Q : Exit → Act → World → Prop} (hg : o.guard = none) (ty : TypeId) (ho : o.op = .alloc ty) (cs : Array Value)
 (hz : (Tryd.prog.info? ty).map (·.zero) = some (some (.agg cs)))
 (h : ∀ W, W.heap[w.heap.size]? = some (.cells cs ty (0, 0)) → Below w.heap.size w W → wpList Tryd.prog ops Q rest (a.put o.dst (.pointer (some ⟨w.heap.size, 0, none⟩))) W) : wpList Tryd.prog ops Q (o :: rest) a w :=
 alloc_to hg ty ho cs hz (h _ (blk_new _ _) (below_alloc (Below.refl _ _) _))
theorem load_want {ops : Array Oper} {rest : List Oper} {o : Oper} {a : Act} {w : World} {Q : Exit → Act → World → Prop} (hw : Region.wanted o (yielded ops a.tmps) = true) (ty : TypeId) (x : Operand) (ho : o.op = .load ty x)
 (g : Nat) (hx : a.eval x = .pointer (some ⟨g, 0, none⟩)) (t : TypeId) (cs : Array Value) (fr : Nat × Nat) (d : TypeDesc) (hg : w.heap[g]? = some (.cells cs t fr))
 (hu : P.underlying ty = some d) (hd : (match d with | .struct _ | .array _ _ => true | _ => false) = true) (hi : (P.info? ty).map (·.size) = some cs.size)
 (h : wpList P ops Q rest (a.put o.dst (.agg cs)) w) : wpList P ops Q (o :: rest) a w :=
 BigFrame.wpList_want hw fun _ hK => wp_load_row ty x ho g hx t cs fr d hg hu hd hi (hK _ _ h)
theorem eq_want {ops : Array Oper} {rest : List Oper} {o : Oper} {a : Act} {w : World} {Q : Exit → Act → World → Prop} (hw : Region.wanted o (yielded ops a.tmps) = true) (ty r : TypeId) (x y : Operand) (ho : o.op = .binOp .eql ty x y r) (cs : Array Value) (hx : a.eval x = .agg cs) (hy : a.eval y = .agg cs)
 (hm : P.eqGuardType P.depth ty = false) (he : ∀ w, (Op.equalIn 10000 ty (.agg cs) (.agg cs)).run P w = .ok true w) (h : wpList P ops Q rest (a.put o.dst (.bool true)) w) : wpList P ops Q (o :: rest) a w :=
 BigFrame.wpList_want hw fun _ hK => by
  unfold Oper.wp execOp
  simp only [ho, hx, hy, Sem.run_bind, run_eqGuard_agg w .eql ty x y cs cs hm, run_eql_struct, he, Result.andThen_ok]
  exact hK _ _ h
theorem neq_want {ops : Array Oper} {rest : List Oper} {o : Oper} {a : Act} {w : World} {Q : Exit → Act → World → Prop} (hw : Region.wanted o (yielded ops a.tmps) = true) (ty r : TypeId) (x y : Operand) (ho : o.op = .binOp .neq ty x y r) (cs : Array Value) (hx : a.eval x = .agg cs) (hy : a.eval y = .agg cs)
 (hm : P.eqGuardType P.depth ty = false) (he : ∀ w, (Op.equalIn 10000 ty (.agg cs) (.agg cs)).run P w = .ok true w) (h : wpList P ops Q rest (a.put o.dst (.bool false)) w) : wpList P ops Q (o :: rest) a w :=
 BigFrame.wpList_want hw fun _ hK => by
  unfold Oper.wp execOp
  simp only [ho, hx, hy, Sem.run_bind, run_eqGuard_agg w .neq ty x y cs cs hm, run_neq_struct, he, Result.andThen_ok]
  exact hK _ _ h
end
def pick (f r : Fr) (i : Nat) : Fr := if i = 1 then r else f
theorem pick_len {f r : Fr} (hf : f.L.length = 92) (hr : r.L.length = 92) (i : Nat) : (pick f r i).L.length = 92 := by
 unfold pick; split <;> assumption
theorem fr94 {f : Fr} (hl : f.L.length = 92) : f.cells.length = 94 := by simp [Fr.cells, hl]
theorem build3 {ops : Array Oper} {rest : List Oper} {o : Oper} {a : Act} {w : World} {Q : Exit → Act → World → Prop} (hg : o.guard = none) (f r : Fr) (hf : f.L.length = 92) (hr : r.L.length = 92) (x y z : Operand) (ho : o.op = .buildSlice 74 3 #[(0, x), (1, y), (2, z)])
 (hx : a.eval x = .agg f.cells.toArray) (hy : a.eval y = .agg r.cells.toArray) (hz : a.eval z = .agg f.cells.toArray)
 (h : ∀ W R, W.heap[w.heap.size]? = some (.cells R 62 (0, 0)) → (∀ (i j : Nat) (v : Value), i < 3 → (pick f r i).cells[j]? = some v → R[i * 94 + j]? = some v) → Below w.heap.size w W → wpList Tryd.prog ops Q rest (a.put o.dst (.slice (some ⟨w.heap.size, 0, none⟩) 3 3)) W) : wpList Tryd.prog ops Q (o :: rest) a w := by
 have hq : (Tryd.prog.info? 62).map (fun i => (i.zero, i.size)) = some (some (.agg F0.cells.toArray), 94) := by kernel_rfl
 cases hie : Tryd.prog.info? 62 with
 | none => simp [hie] at hq
 | some ie =>
  simp only [hie, Option.map_some, Option.some.injEq, Prod.mk.injEq] at hq
  obtain ⟨hzero, hsize⟩ := hq
  have hv : ∀ v ∈ [Value.agg f.cells.toArray, .agg r.cells.toArray, .agg f.cells.toArray], v.cells.size = 94 := by
   intro v hv
   simp only [List.mem_cons, List.not_mem_nil, or_false] at hv
   rcases hv with rfl | rfl | rfl
   ·show f.cells.toArray.size = 94; rw [List.size_toArray]; exact fr94 hf
   ·show r.cells.toArray.size = 94; rw [List.size_toArray]; exact fr94 hr
   ·show f.cells.toArray.size = 94; rw [List.size_toArray]; exact fr94 hf
  obtain ⟨R, hR, hRs, hRk⟩ := Great.fill_dense (s := 94) (by decide) [Value.agg f.cells.toArray, .agg r.cells.toArray, .agg f.cells.toArray] 0 ((Array.range (3 * 94)).map ((Value.agg F0.cells.toArray).cells[· % (Value.agg F0.cells.toArray).cells.size]!)) hv (by simp)
  refine wpList_buildSlice hg 74 62 3 _ ho R ie (.agg F0.cells.toArray) Tryd.underlying74 hie hzero (by rw [hsize]; omega) (by rw [hsize]; omega) ?_ (h _ R (blk_new _ _) ?_ (below_alloc (Below.refl _ _) _))
  ·rw [hsize, ← hR]
   have e : (Array.map (fun (p : Nat × Operand) => (p.1, a.eval p.2)) #[(0, x), (1, y), (2, z)]).toList = [(0, Value.agg f.cells.toArray), (1, .agg r.cells.toArray), (2, .agg f.cells.toArray)] := by
    simp only [List.map_toArray, List.map_cons, List.map_nil, hx, hy, hz]
   exact congrArg (fun l => Instr.fill (fun i => some (i * 94, 94)) ((Array.range (3 * 94)).map ((Value.agg F0.cells.toArray).cells[· % (Value.agg F0.cells.toArray).cells.size]!)) l) e
  ·intro i j v hi hj
   have hj94 : j < 94 := by
    have := (List.getElem?_eq_some_iff.1 hj).1
    rwa [fr94 (pick_len hf hr i)] at this
   rw [hRk, if_pos ⟨by omega, by simp; omega⟩, show (i * 94 + j) / 94 - 0 = i by omega, show (i * 94 + j) % 94 = j by omega]
   rcases (by omega : i = 0 ∨ i = 1 ∨ i = 2) with rfl | rfl | rfl
   ·show f.cells.toArray[j]? = _; rw [List.getElem?_toArray]; exact hj
   ·show r.cells.toArray[j]? = _; rw [List.getElem?_toArray]; exact hj
   ·show f.cells.toArray[j]? = _; rw [List.getElem?_toArray]; exact hj
structure T0 (w0 w : World) (cs : Array Value) (r : Fr) (os : Array Value) : Prop where
 b : Below w0.heap.size w0 w
 a : w.heap[w0.heap.size]? = some (.cells cs 51 (0, 0))
 r : w.heap[w0.heap.size + 1]? = some (.cells r.cells.toArray 62 (0, 0))
 o : w.heap[w0.heap.size + 1 + 1]? = some (.cells os 71 (0, 0))
 lm : Mode.Laid w
 lp : Shape.Laid w
 ls : Spread.Laid w
structure T1 (w0 w : World) (cs : Array Value) (r : Fr) (os : Array Value) (s c : Nat) (qs : List Int) (g7 g8 : Nat) : Prop where
 t : T0 w0 w cs r os
 m : w.heap[g7]? = some (.cells #[.int .i64 (s : Int), .int .i64 (c : Int)] 53 (0, 0))
 p : w.heap[g8]? = some (.cells (qs.map (Value.int .i64)).toArray 55 (0, 0))
structure T2 (w0 w : World) (cs : Array Value) (r : Fr) (os : Array Value) (s c : Nat) (qs : List Int) (f : Fr) (g7 g8 g10 : Nat) : Prop where
 l : T1 w0 w cs r os s c qs g7 g8
 f : w.heap[g10]? = some (.cells f.cells.toArray 62 (0, 0))
structure TW (w0 w : World) (r : Fr) (os : Array Value) (s c : Nat) (f : Fr) (g7 g10 g11 g52 : Nat) : Prop where
 b : Below w0.heap.size w0 w
 o : w.heap[w0.heap.size + 1 + 1]? = some (.cells os 71 (0, 0))
 m : w.heap[g7]? = some (.cells #[.int .i64 (s : Int), .int .i64 (c : Int)] 53 (0, 0))
 ff : w.heap[g10]? = some (.cells f.cells.toArray 62 (0, 0))
 sh : ∃ L : List Int, L.length = 64 ∧ ShB w g11 s c L
 sl : ∃ R, w.heap[g52]? = some (.cells R 62 (0, 0)) ∧ ∀ (i j : Nat) (v : Value), i < 3 → (pick f r i).cells[j]? = some v → R[i * 94 + j]? = some v
 n11 : w0.heap.size ≤ g11
 s3 : 3 ≤ w0.heap.size
 lm : Mode.Laid w
 lp : Shape.Laid w
 ls : Spread.Laid w
section
variable {w0 w w1 : World} {cs os : Array Value} {r f : Fr} {s c : Nat} {qs : List Int} {g7 g8 g10 g11 g52 : Nat}
theorem T0.start (w : World) (cs os : Array Value) (r : Fr) (lm : Mode.Laid w) (lp : Shape.Laid w) (ls : Spread.Laid w) : T0 w (((w.alloc (.cells cs 51)).alloc (.cells r.cells.toArray 62)).alloc (.cells os 71)) cs r os := by
 have hb : Below w.heap.size w (((w.alloc (.cells cs 51)).alloc (.cells r.cells.toArray 62)).alloc (.cells os 71)) := below_alloc (below_alloc (below_alloc (Below.refl _ _) _) _) _
 have s1 : (w.alloc (.cells cs 51)).heap.size = w.heap.size + 1 := by simp [World.alloc_eq]
 have s2 : ((w.alloc (.cells cs 51)).alloc (.cells r.cells.toArray 62)).heap.size = w.heap.size + 1 + 1 := by simp [World.alloc_eq]
 refine ⟨hb, blk_alloc (blk_alloc (blk_new _ _) _) _, ?_, ?_, lm.below hb, lp.below hb, ls.below hb⟩
 ·rw [← s1]; exact blk_alloc (blk_new _ _) _
 ·rw [← s2]; exact blk_new _ _
theorem T0.below (h : T0 w0 w cs r os) (hb : Below w.heap.size w w1) : T0 w0 w1 cs r os :=
 ⟨below_step h.b hb, blk_below h.a hb, blk_below h.r hb, blk_below h.o hb, h.lm.below hb, h.lp.below hb, h.ls.below hb⟩
theorem T1.below (h : T1 w0 w cs r os s c qs g7 g8) (hb : Below w.heap.size w w1) : T1 w0 w1 cs r os s c qs g7 g8 :=
 ⟨h.t.below hb, blk_below h.m hb, blk_below h.p hb⟩
theorem T2.below (h : T2 w0 w cs r os s c qs f g7 g8 g10) (hb : Below w.heap.size w w1) : T2 w0 w1 cs r os s c qs f g7 g8 g10 :=
 ⟨h.l.below hb, blk_below h.f hb⟩
theorem T0.far (h : T0 w0 w cs r os) (h3 : 3 ≤ w0.heap.size) {g : Nat} (hg : w0.heap.size + 1 + 1 < g) (hf : ∀ k, k ≠ g → w1.heap[k]? = w.heap[k]?) (hb : ∀ B w0, Below B w0 w → B ≤ g → Below B w0 w1) : T0 w0 w1 cs r os := by
 have hl := far_laid (by omega) hf ⟨h.lm, h.lp, h.ls⟩
 exact ⟨hb _ _ h.b (by omega), (hf _ (by omega)).trans h.a, (hf _ (by omega)).trans h.r, (hf _ (by omega)).trans h.o, hl.1, hl.2.1, hl.2.2⟩
theorem TW.below (h : TW w0 w r os s c f g7 g10 g11 g52) (hb : Below w.heap.size w w1) : TW w0 w1 r os s c f g7 g10 g11 g52 := by
 obtain ⟨b, o, m, ff, ⟨L, hL, sh⟩, ⟨R, hR, sl⟩, n11, s3, lm, lp, ls⟩ := h
 exact ⟨below_step b hb, blk_below o hb, blk_below m hb, blk_below ff hb, ⟨L, hL, blk_below sh hb⟩, ⟨R, blk_below hR hb, sl⟩, n11, s3, lm.below hb, lp.below hb, ls.below hb⟩
theorem T1.frame (h : T1 w0 w cs r os s c qs g7 g8) (h3 : 3 ≤ w0.heap.size) (h10 : w.heap[g10]? = some (.cells F0.cells.toArray 62 (0, 0))) (hn : w0.heap.size + 1 + 1 < g10) : T2 w0 (w.setRow g10 f.cells.toArray) cs r os s c qs f g7 g8 g10 := by
 have far : ∀ k, k ≠ g10 → (w.setRow g10 f.cells.toArray).heap[k]? = w.heap[k]? := fun k hk => setRow_other _ _ _ _ hk
 have e7 : g7 ≠ g10 := blk_ne h.m h10 (by decide)
 have e8 : g8 ≠ g10 := blk_ne h.p h10 (by decide)
 have hl := far_laid (by omega) far ⟨h.t.lm, h.t.lp, h.t.ls⟩
 exact ⟨⟨⟨below_setRow h.t.b (by omega) _, (far _ (by omega)).trans h.t.a, (far _ (by omega)).trans h.t.r, (far _ (by omega)).trans h.t.o, hl.1, hl.2.1, hl.2.2⟩, (far _ e7).trans h.m, (far _ e8).trans h.p⟩, setRow_heap _ _ _ _ _ _ h10⟩
theorem TW.shift (h : TW w0 w r os s c f g7 g10 g11 g52) {g19 : Nat} {O : Array Value} (h19 : w.heap[g19]? = some (.cells O 66 (0, 0))) (n19 : w0.heap.size ≤ g19) (hf : Foot (fun k => k = g11 ∨ k = g19) w w1) {L : List Int} (hL : L.length = 64) (hs : ShB w1 g11 s c L) : TW w0 w1 r os s c f g7 g10 g11 g52 := by
 obtain ⟨b, o, m, ff, ⟨L0, hL0, sh⟩, ⟨R, hR, sl⟩, n11, s3, lm, lp, ls⟩ := h
 have K : ∀ {g : Nat} {cs : Array Value} {t : Nat}, w.heap[g]? = some (.cells cs t (0, 0)) → t ≠ 120 → t ≠ 66 → w1.heap[g]? = some (.cells cs t (0, 0)) := fun hg h1 h2 =>
  (hf.k _ (blk_lt hg) (fun e => e.elim (fun e => blk_ne hg sh h1 e) (fun e => blk_ne hg h19 h2 e))).trans hg
 have hl := foot_laid ⟨lm, lp, ls⟩ hf (fun k hk e => by omega)
 exact ⟨b.trans (hf.below (fun k hk => by omega) b.size), K o (by decide) (by decide), K m (by decide) (by decide), K ff (by decide) (by decide), ⟨L, hL, hs⟩, ⟨R, K hR (by decide) (by decide), sl⟩, n11, s3, hl.1, hl.2.1, hl.2.2⟩
end
structure LB (wr W : World) (fr : Fr) (O : List Int) (g13 g14 g15 g17 g19 : Nat) (O9 : List Int) : Prop where
 b : Below wr.heap.size wr W
 h13 : W.heap[g13]? = some (.cells fr.cells.toArray 62 (0, 0))
 h14 : W.heap[g14]? = some (.cells fr.cells.toArray 61 (0, 0))
 h15 : W.heap[g15]? = some (.cells (rowL O) 76 (0, 0))
 h17 : W.heap[g17]? = some (.cells (rowI O) 66 (0, 0))
 h19 : W.heap[g19]? = some (.cells (rowI O9) 66 (0, 0))
 o9 : O9.length = 64
 n19 : wr.heap.size ≤ g19
 e79 : g17 ≠ g19
section
variable {wr W W1 : World} {fr : Fr} {O O9 : List Int} {g13 g14 g15 g17 g19 g11 : Nat}
theorem LB.below (h : LB wr W fr O g13 g14 g15 g17 g19 O9) (hb : Below W.heap.size W W1) : LB wr W1 fr O g13 g14 g15 g17 g19 O9 :=
 ⟨below_step h.b hb, blk_below h.h13 hb, blk_below h.h14 hb, blk_below h.h15 hb, blk_below h.h17 hb, blk_below h.h19 hb, h.o9, h.n19, h.e79⟩
theorem LB.put (h : LB wr W fr O g13 g14 g15 g17 g19 O9) (j : Nat) (v : Int) : LB wr (W.setCell ⟨g19, j, none⟩ (.int .i32 v)) fr O g13 g14 g15 g17 g19 (O9.set j v) := by
 have far : ∀ k, k ≠ g19 → (W.setCell ⟨g19, j, none⟩ (.int .i32 v)).heap[k]? = W.heap[k]? := fun k hk => Below.heap_setCell _ _ _ _ hk
 exact ⟨h.b.setCell (p := ⟨g19, j, none⟩) h.n19 _, (far _ (blk_ne h.h13 h.h19 (by decide))).trans h.h13, (far _ (blk_ne h.h14 h.h19 (by decide))).trans h.h14, (far _ (blk_ne h.h15 h.h19 (by decide))).trans h.h15, (far _ h.e79).trans h.h17, blk_put h.h19 j _ (rowI_set _ _ _), by rw [List.length_set]; exact h.o9, h.n19, h.e79⟩
structure LC (W : World) (fr : Fr) (O : List Int) (g13 g14 g15 g17 g19 : Nat) : Prop where
 h13 : W.heap[g13]? = some (.cells fr.cells.toArray 62 (0, 0))
 h14 : W.heap[g14]? = some (.cells fr.cells.toArray 61 (0, 0))
 h15 : W.heap[g15]? = some (.cells (rowL O) 76 (0, 0))
 h17 : W.heap[g17]? = some (.cells (rowI O) 66 (0, 0))
 h19 : W.heap[g19]? = some (.cells (rowI O) 66 (0, 0))
theorem LC.below (h : LC W fr O g13 g14 g15 g17 g19) (hb : Below W.heap.size W W1) : LC W1 fr O g13 g14 g15 g17 g19 :=
 ⟨blk_below h.h13 hb, blk_below h.h14 hb, blk_below h.h15 hb, blk_below h.h17 hb, blk_below h.h19 hb⟩
theorem LB.into {a b : Int} {L0 L : List Int} (h : LB wr W fr O g13 g14 g15 g17 g19 O9) (hs : ShB W g11 a b L0) (hn : NI W W1 a b fr g11 g19 g14 L O) : LC W1 fr O g13 g14 g15 g17 g19 := by
 have K : ∀ {g : Nat} {cs : Array Value} {t : Nat}, W.heap[g]? = some (.cells cs t (0, 0)) → t ≠ 120 → g ≠ g19 → W1.heap[g]? = some (.cells cs t (0, 0)) := fun hg h1 h2 =>
  (hn.ft.k _ (blk_lt hg) (fun e => e.elim (fun e => blk_ne hg hs h1 e) (fun e => h2 e))).trans hg
 exact ⟨K h.h13 (by decide) (blk_ne h.h13 h.h19 (by decide)), hn.fr, K h.h15 (by decide) (blk_ne h.h15 h.h19 (by decide)), K h.h17 (by decide) h.e79, hn.out⟩
end
set_option maxHeartbeats 16000000 in
set_option maxRecDepth 100000 in
theorem tells_call (cs wc : Array Value) (x a b : Int) (ps : List Int) (si it : Bool) (sp tr : Int) (hask : Ask cs wc x a b ps si it sp tr) (r : Fr) (hr : r.L.length = 92) (o0 o1 o2 o3 : Int) (ho1 : -9223372036854775808 ≤ o1 ∧ o1 ≤ 9223372036854775807) (w : World) (lm : Mode.Laid w) (lp : Shape.Laid w) (ls : Spread.Laid w) :
 Calls Tryd.prog 7 #[.agg cs, .agg r.cells.toArray, .agg #[.int .i64 o0, .int .i64 o1, .int .i64 o2, .int .i64 o3]] w fun e w' => e = .returned (.bool true) ∧ Below w.heap.size w w' := by
 have H3 := Aside0.mk (laid_size ls)
 have HASK := Aside0.mk hask
 obtain ⟨os, hos⟩ : ∃ os : Array Value, #[.int .i64 o0, .int .i64 o1, .int .i64 o2, .int .i64 o3] = os := ⟨_, rfl⟩
 have HOS : Aside0 (os[0]? = some (.int .i64 o0) ∧ os[1]? = some (.int .i64 o1) ∧ os[2]? = some (.int .i64 o2) ∧ os[3]? = some (.int .i64 o3)) := ⟨by rw [← hos]; exact ⟨rfl, rfl, rfl, rfl⟩⟩
 rw [hos]
 have HT := Aside0.mk (T0.start w cs os r lm lp ls)
 have HCS : Aside0 ((Tryd.prog.info? 51).map (·.size) = some cs.size) := ⟨by rw [hask.sz]; kernel_rfl⟩
 have HRL := Aside0.mk hr
 obtain ⟨X0, hX0⟩ : ∃ X, IntKind.u32.wrap o0 = X := ⟨_, rfl⟩
 have hX1 : o0 % 4294967296 = X0 := by rw [← hX0, WrWalk.wrap_u32]
 have HX0 : Aside0 (NoisePlain.U32 X0) := ⟨by unfold NoisePlain.U32; omega⟩
 obtain ⟨m, hm⟩ : ∃ m : Nat, o1 % 32 = (m : Int) := ⟨(o1 % 32).toNat, by omega⟩
 have HM : Aside0 (bits .and .i64 o1 31 = (m : Int) ∧ m < 32) := ⟨by rw [← hm]; exact Math.and_i64 o1 5 (by decide), by omega⟩
 clear lm lp ls hask hr hos hm ho1
 go_enter Tryd.func7, Tryd.ntmps7
 go_upto_region 3 with (first
  | (go_at_call 8; (with_reducible refine (Shape.awake_any _ HT.out.lp).mono ?_); rintro e w1 ⟨rfl, hb1⟩; have HT1 := Aside0.mk (HT.out.below hb1); clear hb1; clear HT; have HT := HT1; clear HT1))
 go_upto_region 5 with (first
  | (refine wpList_load_row rfl 51 (.tmp 3) rfl w.heap.size rfl 51 cs (0, 0) _ HT.out.a Tryd.underlying51 rfl HCS.out ?_)
  | (go_at_call 18; (with_reducible refine (where_call cs _ _ _ HASK.out.pl HASK.out.ha HASK.out.hb HASK.out.pr HASK.out.c1 HASK.out.c2 HASK.out.c3 _).mono ?_); rintro e w2 ⟨s, c, qs, hs2, hc1, hc2, hql, hq31, rfl, hb2⟩; have HS2 := Aside0.mk (And.intro hs2 (And.intro hc1 hc2)); have HQL := Aside0.mk hql; have HT1 := Aside0.mk (HT.out.below hb2); clear hb2 hs2 hc1 hc2 hql hq31; clear HT; have HT := HT1; clear HT1)
  | ((refine alloc_toG rfl 53 rfl _ z53 ?_); intro Wa h7 hba; have HT1 := Aside0.mk (HT.out.below hba); have hn7 := blk_lt HT.out.o; obtain ⟨g7, hg7⟩ : ∃ g, w2.heap.size = g := ⟨_, rfl⟩; rw [hg7] at h7 hn7 ⊢; have H7 := Aside0.mk h7; have HN7 := Aside0.mk hn7; clear h7 hn7 hba hg7; clear HT; have HT := HT1; clear HT1)
  | ((refine alloc_toG rfl 55 rfl _ z55 ?_); intro Wb h8 hbb; have HT1 := Aside0.mk (HT.out.below hbb); have H71 := Aside0.mk (blk_below H7.out hbb); have hn8 := blk_lt H7.out; obtain ⟨g8, hg8⟩ : ∃ g, Wa.heap.size = g := ⟨_, rfl⟩; rw [hg8] at h8 hn8 ⊢; have H8 := Aside0.mk h8; have HN8 := Aside0.mk hn8; clear h8 hn8 hbb hg8; clear HT H7; have HT := HT1; have H7 := H71; clear HT1 H71)
  | ((refine store_rowG rfl 53 (.tmp 7) (.tmp 32) rfl g7 #[.int .i64 s, .int .i64 c] rfl rfl 53 _ H7.out (by kernel_rfl) rfl (row53 _ _) ?_); intro Wc h7 hf hb; have HT1 := Aside0.mk (HT.out.far H3.out HN7.out hf hb); have H71 := Aside0.mk h7; have H81 := Aside0.mk ((hf g8 (by have := HN8.out; omega)).trans H8.out); clear h7 hf hb; clear HT H7 H8; have HT := HT1; have H7 := H71; have H8 := H81; clear HT1 H71 H81)
  | ((refine store_rowG rfl 55 (.tmp 8) (.tmp 33) rfl g8 (qs.map (Value.int .i64)).toArray rfl rfl 55 _ H8.out (by rw [row_sz HQL.out]; kernel_rfl) (by rw [row_sz HQL.out]; rfl) (row_one _) ?_); intro Wd h8 hf hb; have HI := Aside0.mk (T1.mk (HT.out.far H3.out (by have := HN7.out; have := HN8.out; omega) hf hb) ((hf g7 (by have := HN8.out; omega)).trans H7.out) h8); have hoc : Wd.cell? ⟨w.heap.size + 1 + 1, 0, none⟩ = some (.int .i64 o0) := (blk_cell HI.out.t.o 0).trans HOS.out.1; clear h8 hf hb HT H7 H8 HN7 HN8))
 (try simp only [Act.put, zA1, zA2, zA3])
 clear hoc hX0 hX1
 go_cut [10] from 37 (fun t10 wc => ∃ (g10 : Nat) (f : Fr), t10 = .pointer (some ⟨g10, 0, none⟩) ∧ Aside0 (T2 w wc cs r os s c qs f g7 g8 g10) ∧ Aside0 (f.L.length = 92))
 case first =>
  refine wp_region_held_drew (S := (fun w1 => T1 w w1 cs r os s c qs g7 g8)) (by kernel_rfl) ?hS0 (fun hHeld => ?_)
  case hS0 => exact HI.out.below (drew_self _)
  refine wpAnyH_take (i := 0) (oi := ⟨_, _, _, _, _, _⟩) (v := .agg cs) rfl (by kernel_rfl) (by kernel_rfl) (by kernel_rfl) (fun _ _ _ h => h) (yieldsIf_load_row (by rfl) 51 (.tmp 3) rfl w.heap.size rfl 51 cs (0, 0) _ (fun w1 h1 => h1.t.a) Tryd.underlying51 rfl HCS.out) hHeld ?_
  (try simp only [Act.put, zA1, zA2, zA3])
  refine zTH (v := ?_) 2 rfl hHeld ?h ?_
  case h => (intro w1 h1; go_simp; (try with_reducible rfl))
  (try simp only [Act.put, zA1, zA2, zA3])
  refine zTH (v := ?_) 3 rfl hHeld ?h ?_
  case h => (intro w1 h1; have h1a := (blk_cell h1.m 0).trans rfl; go_simp; (try with_reducible rfl))
  (try simp only [Act.put, zA1, zA2, zA3])
  refine zTH (v := ?_) 4 rfl hHeld ?h ?_
  case h => (intro w1 h1; go_simp; (try with_reducible rfl))
  (try simp only [Act.put, zA1, zA2, zA3])
  refine zTH (v := ?_) 5 rfl hHeld ?h ?_
  case h => (intro w1 h1; have h1a := (blk_cell h1.m 1).trans rfl; go_simp; (try with_reducible rfl))
  (try simp only [Act.put, zA1, zA2, zA3])
  refine wpAnyH_take (i := 6) (oi := ⟨_, _, _, _, _, _⟩) (v := .agg (qs.map (Value.int .i64)).toArray) rfl (by kernel_rfl) (by kernel_rfl) (by kernel_rfl) (fun _ _ _ h => h) (yieldsIf_load_row (by rfl) 55 (.tmp 8) rfl g8 rfl 55 (qs.map (Value.int .i64)).toArray (0, 0) _ (fun w1 h1 => h1.p) Tryd.underlying55 rfl (by rw [row_sz HQL.out]; kernel_rfl)) hHeld ?_
  (try simp only [Act.put, zA1, zA2, zA3])
  refine zTH (v := ?_) 7 rfl hHeld ?h ?_
  case h => (intro w1 h1; go_simp; (try with_reducible rfl))
  (try simp only [Act.put, zA1, zA2, zA3])
  refine wpAnyH_take (i := 8) (oi := ⟨_, _, _, _, _, _⟩) (v := .agg wc.toList.toArray) rfl (by kernel_rfl) (by kernel_rfl) (by kernel_rfl) (fun _ _ _ h => h) (yieldsIf_load_mid (by rfl) 49 (.tmp 44) rfl w.heap.size 13 rfl wc.toList _ (fun w1 h1 => wish_range HASK.out h1.t.a) Tryd.underlying49 rfl (by rw [Array.length_toList, HASK.out.wsz]; kernel_rfl)) hHeld ?_
  (try simp only [Act.put, zA1, zA2, zA3])
  rw [show wc.toList.toArray = wc from Array.toArray_toList]
  refine wpAnyH_ready (rs := [1, 10]) (by kernel_rfl) (by simp) ?_
  refine AllReadyH.cons (o := ⟨_, _, _, _, _, _⟩) rfl (fun K hK => ?_) ?_
  ·refine goes_ (N := some 38) Tryd.func20 (by kernel_rfl) rfl #[.agg cs] (by rfl) rfl rfl (by first | rfl | (simp only [List.map_toArray, List.map_cons, List.map_nil]; rfl)) ?_
   (with_reducible refine (long_call cs _ HASK.out.hx HASK.out.c0 _).mono ?_); rintro e w5 ⟨rfl, hb5⟩
   refine ⟨_, rfl, ?_⟩
   refine hK.out _ _ ?hSn12 (fun hHeld => ?_)
   case hSn12 => exact hHeld.below hb5
   clear hK K
   (try simp only [Act.put, zA1, zA2, zA3])
   refine wpAnyH_ready (rs := [9, 10]) (by kernel_rfl) (by simp) ?_
   refine AllReadyH.cons (o := ⟨_, _, _, _, _, _⟩) rfl (fun K hK => ?_) ?_
   ·refine goes_ (N := some 46) Tryd.func19 (by kernel_rfl) rfl #[.int .i64 (4 + x % 1272), .int .i64 s, .int .i64 c, .agg (qs.map (Value.int .i64)).toArray, .agg wc] (by rfl) rfl rfl (by first | rfl | (simp only [List.map_toArray, List.map_cons, List.map_nil]; rfl)) ?_
    (with_reducible refine (fit_call (4 + x % 1272) s c qs wc si it sp tr HASK.out.w (by have := HASK.out.hx; omega) HS2.out.1 HS2.out.2.1 HS2.out.2.2 HQL.out _).mono ?_); rintro e w6 ⟨f, hfl, hfx, rfl, hb6⟩
    refine ⟨_, rfl, ?_⟩
    refine hK.out _ _ ?hSn10 (fun hHeld => ?_)
    case hSn10 => exact hHeld.below hb6
    clear hK K
    (try simp only [Act.put, zA1, zA2, zA3])
    refine zOH 10 rfl fun K hK => ?_
    rw [if_pos (by rfl)]
    refine wp_alloc_to 62 rfl _ zero62 ?_
    obtain ⟨w7, h7, hb7, hn7⟩ : ∃ W, W = (w6).alloc (.cells F0.cells.toArray 62) ∧ W.heap[(w6).heap.size]? = some (.cells F0.cells.toArray 62 (0, 0)) ∧ Below (w6).heap.size (w6) W := ⟨_, rfl, blk_new _ _, below_alloc (Below.refl _ _) _⟩
    rw [← h7]
    obtain ⟨g10, hg10⟩ : ∃ g, (w6).heap.size = g := ⟨_, rfl⟩
    have hlt7 : w.heap.size + 1 + 1 < g10 := by rw [← hg10]; exact blk_lt hHeld.t.o
    rw [hg10] at hb7 ⊢
    clear h7 hg10
    have h7 := hb7
    have hb7 := hn7
    clear hn7
    refine hK.out _ _ ?hSn8 (fun hHeld => ?_)
    case hSn8 => exact hHeld.below hb7
    clear hK K
    (try simp only [Act.put, zA1, zA2, zA3])
    have hI7 := hHeld
    have hLF := hI7.frame (f := f) H3.out h7 hlt7
    refine zOH 11 rfl fun K hK => ?_
    rw [if_pos (by rfl)]
    refine wp_store_row 62 (.tmp 10) (.tmp 46) rfl g10 f.cells.toArray rfl rfl 62 _ h7 (fr_sz f hfl) (by simp [Fr.cells, F0, hfl]) (fr_one f) ?_
    refine hK.out _ _ ?hSn9 (fun hHeld => ?_)
    case hSn9 => exact hLF.l
    clear hK K
    (try simp only [Act.put, zA1, zA2, zA3])
    refine wpAnyH_done (by kernel_rfl) ?_ _
    go_wp2
    go_meet
    case rel => exact ⟨g10, f, rfl, ⟨hLF⟩, ⟨hfl⟩⟩
   refine AllReadyH.cons (o := ⟨_, _, _, _, _, _⟩) rfl (fun K hK => ?_) ?_
   ·rw [if_pos (by rfl)]
    refine wp_alloc_to 62 rfl _ zero62 ?_
    obtain ⟨w7, h7, hb7, hn7⟩ : ∃ W, W = (w5).alloc (.cells F0.cells.toArray 62) ∧ W.heap[(w5).heap.size]? = some (.cells F0.cells.toArray 62 (0, 0)) ∧ Below (w5).heap.size (w5) W := ⟨_, rfl, blk_new _ _, below_alloc (Below.refl _ _) _⟩
    rw [← h7]
    obtain ⟨g10, hg10⟩ : ∃ g, (w5).heap.size = g := ⟨_, rfl⟩
    have hlt7 : w.heap.size + 1 + 1 < g10 := by rw [← hg10]; exact blk_lt hHeld.t.o
    rw [hg10] at hb7 ⊢
    clear h7 hg10
    have h7 := hb7
    have hb7 := hn7
    clear hn7
    refine hK.out _ _ ?hSn11 (fun hHeld => ?_)
    case hSn11 => exact hHeld.below hb7
    clear hK K
    (try simp only [Act.put, zA1, zA2, zA3])
    refine zOH 9 rfl fun K hK => ?_
    refine goes_ (N := some 46) Tryd.func19 (by kernel_rfl) rfl #[.int .i64 (4 + x % 1272), .int .i64 s, .int .i64 c, .agg (qs.map (Value.int .i64)).toArray, .agg wc] (by rfl) rfl rfl (by first | rfl | (simp only [List.map_toArray, List.map_cons, List.map_nil]; rfl)) ?_
    (with_reducible refine (fit_call (4 + x % 1272) s c qs wc si it sp tr HASK.out.w (by have := HASK.out.hx; omega) HS2.out.1 HS2.out.2.1 HS2.out.2.2 HQL.out _).mono ?_); rintro e w6 ⟨f, hfl, hfx, rfl, hb6⟩
    refine ⟨_, rfl, ?_⟩
    refine hK.out _ _ ?hSn6 (fun hHeld => ?_)
    case hSn6 => exact hHeld.below hb6
    clear hK K
    (try simp only [Act.put, zA1, zA2, zA3])
    have h7a := blk_below h7 hb6
    clear h7
    have h7 := h7a
    clear h7a
    have hI7 := hHeld
    have hLF := hI7.frame (f := f) H3.out h7 hlt7
    refine zOH 11 rfl fun K hK => ?_
    rw [if_pos (by rfl)]
    refine wp_store_row 62 (.tmp 10) (.tmp 46) rfl g10 f.cells.toArray rfl rfl 62 _ h7 (fr_sz f hfl) (by simp [Fr.cells, F0, hfl]) (fr_one f) ?_
    refine hK.out _ _ ?hSn7 (fun hHeld => ?_)
    case hSn7 => exact hLF.l
    clear hK K
    (try simp only [Act.put, zA1, zA2, zA3])
    refine wpAnyH_done (by kernel_rfl) ?_ _
    go_wp2
    go_meet
    case rel => exact ⟨g10, f, rfl, ⟨hLF⟩, ⟨hfl⟩⟩
   exact AllReadyH.nil
  refine AllReadyH.cons (o := ⟨_, _, _, _, _, _⟩) rfl (fun K hK => ?_) ?_
  ·rw [if_pos (by rfl)]
   refine wp_alloc_to 62 rfl _ zero62 ?_
   obtain ⟨w7, h7, hb7, hn7⟩ : ∃ W, W = (Wd.drew).alloc (.cells F0.cells.toArray 62) ∧ W.heap[(Wd.drew).heap.size]? = some (.cells F0.cells.toArray 62 (0, 0)) ∧ Below (Wd.drew).heap.size (Wd.drew) W := ⟨_, rfl, blk_new _ _, below_alloc (Below.refl _ _) _⟩
   rw [← h7]
   obtain ⟨g10, hg10⟩ : ∃ g, (Wd.drew).heap.size = g := ⟨_, rfl⟩
   have hlt7 : w.heap.size + 1 + 1 < g10 := by rw [← hg10]; exact blk_lt hHeld.t.o
   rw [hg10] at hb7 ⊢
   clear h7 hg10
   have h7 := hb7
   have hb7 := hn7
   clear hn7
   refine hK.out _ _ ?hSn16 (fun hHeld => ?_)
   case hSn16 => exact hHeld.below hb7
   clear hK K
   (try simp only [Act.put, zA1, zA2, zA3])
   refine zOH 1 rfl fun K hK => ?_
   refine goes_ (N := some 38) Tryd.func20 (by kernel_rfl) rfl #[.agg cs] (by rfl) rfl rfl (by first | rfl | (simp only [List.map_toArray, List.map_cons, List.map_nil]; rfl)) ?_
   (with_reducible refine (long_call cs _ HASK.out.hx HASK.out.c0 _).mono ?_); rintro e w5 ⟨rfl, hb5⟩
   refine ⟨_, rfl, ?_⟩
   refine hK.out _ _ ?hSn13 (fun hHeld => ?_)
   case hSn13 => exact hHeld.below hb5
   clear hK K
   (try simp only [Act.put, zA1, zA2, zA3])
   have h7a := blk_below h7 hb5
   clear h7
   have h7 := h7a
   clear h7a
   refine zOH 9 rfl fun K hK => ?_
   refine goes_ (N := some 46) Tryd.func19 (by kernel_rfl) rfl #[.int .i64 (4 + x % 1272), .int .i64 s, .int .i64 c, .agg (qs.map (Value.int .i64)).toArray, .agg wc] (by rfl) rfl rfl (by first | rfl | (simp only [List.map_toArray, List.map_cons, List.map_nil]; rfl)) ?_
   (with_reducible refine (fit_call (4 + x % 1272) s c qs wc si it sp tr HASK.out.w (by have := HASK.out.hx; omega) HS2.out.1 HS2.out.2.1 HS2.out.2.2 HQL.out _).mono ?_); rintro e w6 ⟨f, hfl, hfx, rfl, hb6⟩
   refine ⟨_, rfl, ?_⟩
   refine hK.out _ _ ?hSn14 (fun hHeld => ?_)
   case hSn14 => exact hHeld.below hb6
   clear hK K
   (try simp only [Act.put, zA1, zA2, zA3])
   have h7a := blk_below h7 hb6
   clear h7
   have h7 := h7a
   clear h7a
   have hI7 := hHeld
   have hLF := hI7.frame (f := f) H3.out h7 hlt7
   refine zOH 11 rfl fun K hK => ?_
   rw [if_pos (by rfl)]
   refine wp_store_row 62 (.tmp 10) (.tmp 46) rfl g10 f.cells.toArray rfl rfl 62 _ h7 (fr_sz f hfl) (by simp [Fr.cells, F0, hfl]) (fr_one f) ?_
   refine hK.out _ _ ?hSn15 (fun hHeld => ?_)
   case hSn15 => exact hLF.l
   clear hK K
   (try simp only [Act.put, zA1, zA2, zA3])
   refine wpAnyH_done (by kernel_rfl) ?_ _
   go_wp2
   go_meet
   case rel => exact ⟨g10, f, rfl, ⟨hLF⟩, ⟨hfl⟩⟩
  exact AllReadyH.nil
 case rest =>
  obtain ⟨g10, f, rfl, HF, HFL⟩ := hcut
  clear HI
  go_wp2_with (first
   | (refine wpList_load_row rfl 53 (.tmp 7) rfl g7 rfl 53 #[.int .i64 s, .int .i64 c] (0, 0) _ HF.out.l.m Tryd.underlying53 rfl (by kernel_rfl) ?_)
   | (go_at_call 27; (with_reducible refine (new_call (s : Int) (c : Int) _).mono ?_); rintro e w8 ⟨g11, rfl, hsh, hn11, hb8⟩; have HSH := Aside0.mk hsh; have HN11 := Aside0.mk (Nat.le_trans HF.out.l.t.b.size hn11); have HF1 := Aside0.mk (HF.out.below hb8); clear hsh hn11 hb8; clear HF; have HF := HF1; clear HF1)
   | (refine wpList_load_row rfl 62 (.tmp 10) rfl g10 rfl 62 f.cells.toArray (0, 0) _ HF.out.f Tryd.underlying62 rfl (fr_sz f HFL.out) ?_)
   | (refine wpList_load_row rfl 62 (.tmp 4) rfl (w.heap.size + 1) rfl 62 r.cells.toArray (0, 0) _ HF.out.l.t.r Tryd.underlying62 rfl (fr_sz r HRL.out) ?_)
   | ((refine build3 rfl f r HFL.out HRL.out (.tmp 49) (.tmp 50) (.tmp 51) rfl rfl rfl rfl ?_); intro W9 R hR hsl hb9; obtain ⟨g52, hg52⟩ : ∃ g, w8.heap.size = g := ⟨_, rfl⟩; have h9 := HF.out.below hb9; have hsh := blk_below HSH.out hb9; rw [hg52] at hR ⊢; have HW := Aside0.mk (TW.mk (w0 := w) (r := r) (f := f) (s := s) (c := c) h9.l.t.b h9.l.t.o h9.l.m h9.f ⟨_, by simp, hsh⟩ ⟨R, hR, hsl⟩ HN11.out H3.out h9.l.t.lm h9.l.t.lp h9.l.t.ls); clear hR hsl hb9 h9 hsh hg52 HSH HF HN11))
  go_loopw [9, 54] (fun xv iv wr => ∃ (i : Nat) (X : Int), i ≤ 3 ∧ xv = .int .u32 X ∧ iv = .int .i64 i ∧ Aside0 (NoisePlain.U32 X) ∧ Aside0 (TW w wr r os s c f g7 g10 g11 g52)) (fun xv iv _ => (((3 : Nat) : Int) - intOf iv).toNat)
  case atStart => exact ⟨0, X0, by omega, rfl, rfl, HX0, HW⟩
  case round =>
   obtain ⟨i, X, hi, rfl, rfl, HXU, HW2⟩ := hrel
   clear HW
   have HW := HW2
   clear HW2
   by_cases ht : i < 3
   ·have HI3 : Aside0 (i < 3) := ⟨ht⟩
    obtain ⟨fr, hfr⟩ : ∃ fr, pick f r i = fr := ⟨_, rfl⟩
    have HRF : Aside0 (fr.L.length = 92) := ⟨by rw [← hfr]; exact pick_len HFL.out HRL.out i⟩
    have HSL : Aside0 (∀ W, TW w W r os s c f g7 g10 g11 g52 → W.rangeAt g52 (i * 94) fr.cells) := ⟨fun W hW j v hv => by
     obtain ⟨R, hR, hsl⟩ := hW.sl
     rw [blk_cell hR]
     exact hsl i j v HI3.out (by rw [hfr]; exact hv)⟩
    have HO3 := three s c fr X HS2.out.1 HS2.out.2.1 HS2.out.2.2 HXU.out HRF.out
    obtain ⟨O, S, ho1, ho2, ho3, ho4, ho5, ho6⟩ := HO3
    have HO64 := Aside0.mk ho1
    have HOF := Aside0.mk ho2
    have HSU := Aside0.mk ho3
    have H28 := Aside0.mk ho4
    have H21 := Aside0.mk ho5
    have H29 := Aside0.mk ho6
    have HEQ := Aside0.mk (fun w => eq61 fr HRF.out w)
    have HB : Aside0 (Below wr.heap.size wr wr) := ⟨Below.refl _ _⟩
    have e0 : (0 : Int) ≤ (i : Int) := by omega
    have e1 : (i : Int) < 3 := by omega
    clear ho1 ho2 ho3 ho4 ho5 ho6 hfr hi
    go_upto_region 10 with (first
     | (refine wpList_load_mid rfl 62 (.tmp 57) rfl g52 (i * 94) rfl fr.cells _ (HSL.out _ HW.out) Tryd.underlying62 rfl (by rw [fr94 HRF.out]; kernel_rfl) ?_)
     | ((refine alloc_toG rfl 62 rfl _ zero62 ?_); intro W1 hh hb; have HB1 := Aside0.mk (below_step HB.out hb); obtain ⟨g13, hgk⟩ : ∃ g, wr.heap.size = g := ⟨_, rfl⟩; have hn := Nat.le_of_eq hgk; rw [hgk] at hh ⊢; have H13 := Aside0.mk hh; have HN13 := Aside0.mk hn; clear hh hn hb hgk; clear HB; have HB := HB1; clear HB1)
     | ((refine store_rowG rfl 62 (.tmp 13) (.tmp 58) rfl g13 fr.cells.toArray rfl rfl 62 _ H13.out (fr_sz fr HRF.out) (by simp [Fr.cells, F0, HRF.out]) (fr_one fr) ?_); intro W2 hh hf hb; have HB1 := Aside0.mk (hb _ _ HB.out HN13.out); have H131 := Aside0.mk hh; clear hh hf hb; clear HB H13; have HB := HB1; have H13 := H131; clear HB1 H131))
    go_upto_region 11 with (first
     | (refine wpList_load_row rfl 62 (.tmp 13) rfl g13 rfl 62 fr.cells.toArray (0, 0) _ H13.out Tryd.underlying62 rfl (fr_sz fr HRF.out) ?_)
     | ((refine alloc_toG rfl 61 rfl _ z61 ?_); intro W3 hh hb; have hn := HB.out.size; have HB1 := Aside0.mk (below_step HB.out hb); have H131 := Aside0.mk (blk_below H13.out hb); have hl13 := blk_lt H13.out; obtain ⟨g14, hgk⟩ : ∃ g, W2.heap.size = g := ⟨_, rfl⟩; rw [hgk] at hh hn hl13 ⊢; have H14 := Aside0.mk hh; have HN14 := Aside0.mk hn; have HE13_14 := Aside0.mk hl13; clear hh hn hb hgk hl13; clear HB H13; have HB := HB1; have H13 := H131; clear HB1 H131)
     | ((refine store_rowG rfl 61 (.tmp 14) (.tmp 59) rfl g14 fr.cells.toArray rfl rfl 61 _ H14.out (fr_sz61 fr HRF.out) (by simp [Fr.cells, F0, HRF.out]) (fr_one fr) ?_); intro W4 hh hf hb; have HB1 := Aside0.mk (hb _ _ HB.out HN14.out); have H141 := Aside0.mk hh; have H131 := Aside0.mk ((hf _ (by have := HE13_14.out; omega)).trans H13.out); clear hh hf hb; clear HB H14 H13; have HB := HB1; have H14 := H141; have H13 := H131; clear HB1 H141 H131; have hm0 : W4.cell? ⟨g7, 0, none⟩ = some (.int .i64 s) := (blk_cell (HW.out.below HB.out).m 0).trans rfl; have hm1 : W4.cell? ⟨g7, 1, none⟩ = some (.int .i64 c) := (blk_cell (HW.out.below HB.out).m 1).trans rfl))
    go_upto_region 12 with (first
     | (refine wpList_load_row rfl 62 (.tmp 13) rfl g13 rfl 62 fr.cells.toArray (0, 0) _ H13.out Tryd.underlying62 rfl (fr_sz fr HRF.out) ?_)
     | (go_at_call 28; (with_reducible refine (H28.out _).mono ?_); rintro e w5 ⟨rfl, hb⟩; have HB1 := Aside0.mk (below_step HB.out hb); have H131 := Aside0.mk (blk_below H13.out hb); have H141 := Aside0.mk (blk_below H14.out hb); clear hb; clear HB H13 H14; have HB := HB1; have H13 := H131; have H14 := H141; clear HB1 H131 H141; clear hm0 hm1)
     | ((refine alloc_toG rfl 76 rfl _ z76 ?_); intro W5 hh hb; have hn := HB.out.size; have HB1 := Aside0.mk (below_step HB.out hb); have H131 := Aside0.mk (blk_below H13.out hb); have H141 := Aside0.mk (blk_below H14.out hb); have hl13 := blk_lt H13.out; have hl14 := blk_lt H14.out; obtain ⟨g15, hgk⟩ : ∃ g, w5.heap.size = g := ⟨_, rfl⟩; rw [hgk] at hh hn hl13 hl14 ⊢; have H15 := Aside0.mk hh; have HN15 := Aside0.mk hn; have HE13_15 := Aside0.mk hl13; have HE14_15 := Aside0.mk hl14; clear hh hn hb hgk hl13 hl14; clear HB H13 H14; have HB := HB1; have H13 := H131; have H14 := H141; clear HB1 H131 H141)
     | ((refine store_rowG rfl 76 (.tmp 15) (.tmp 68) rfl g15 (rowL O) rfl rfl 76 _ H15.out (by rw [rowL_sz, HO64.out]; kernel_rfl) (by rw [rowL_sz, rowL_sz, HO64.out]; rfl) (rowL_one _) ?_); intro W6 hh hf hb; have HB1 := Aside0.mk (hb _ _ HB.out HN15.out); have H151 := Aside0.mk hh; have H131 := Aside0.mk ((hf _ (by have := HE13_15.out; omega)).trans H13.out); have H141 := Aside0.mk ((hf _ (by have := HE14_15.out; omega)).trans H14.out); clear hh hf hb; clear HB H15 H13 H14; have HB := HB1; have H15 := H151; have H13 := H131; have H14 := H141; clear HB1 H151 H131 H141))
    go_upto_region 13 with (first
     | (refine wpList_load_row rfl 53 (.tmp 7) rfl g7 rfl 53 #[.int .i64 s, .int .i64 c] (0, 0) _ (HW.out.below HB.out).m Tryd.underlying53 rfl (by kernel_rfl) ?_)
     | (refine wpList_load_row rfl 61 (.tmp 14) rfl g14 rfl 61 fr.cells.toArray (0, 0) _ H14.out Tryd.underlying61 rfl (fr_sz61 fr HRF.out) ?_)
     | (go_at_call 21; (with_reducible refine (H21.out _ (HW.out.below HB.out).lm (HW.out.below HB.out).lp (HW.out.below HB.out).ls).mono ?_); rintro e w6 ⟨rfl, hb⟩; have HB1 := Aside0.mk (below_step HB.out hb); have H131 := Aside0.mk (blk_below H13.out hb); have H141 := Aside0.mk (blk_below H14.out hb); have H151 := Aside0.mk (blk_below H15.out hb); clear hb; clear HB H13 H14 H15; have HB := HB1; have H13 := H131; have H14 := H141; have H15 := H151; clear HB1 H131 H141 H151)
     | ((refine alloc_toG rfl 66 rfl _ z66 ?_); intro W7 hh hb; have hn := HB.out.size; have HB1 := Aside0.mk (below_step HB.out hb); have H131 := Aside0.mk (blk_below H13.out hb); have H141 := Aside0.mk (blk_below H14.out hb); have H151 := Aside0.mk (blk_below H15.out hb); have hl13 := blk_lt H13.out; have hl14 := blk_lt H14.out; have hl15 := blk_lt H15.out; obtain ⟨g17, hgk⟩ : ∃ g, w6.heap.size = g := ⟨_, rfl⟩; rw [hgk] at hh hn hl13 hl14 hl15 ⊢; have H17 := Aside0.mk hh; have HN17 := Aside0.mk hn; have HE13_17 := Aside0.mk hl13; have HE14_17 := Aside0.mk hl14; have HE15_17 := Aside0.mk hl15; clear hh hn hb hgk hl13 hl14 hl15; clear HB H13 H14 H15; have HB := HB1; have H13 := H131; have H14 := H141; have H15 := H151; clear HB1 H131 H141 H151)
     | ((refine store_rowG rfl 66 (.tmp 17) (.tmp 75) rfl g17 (rowI O) rfl rfl 66 _ H17.out (by rw [rowI_sz, HO64.out]; kernel_rfl) (by rw [rowI_sz, rowI_sz, HO64.out]; rfl) (rowI_one _) ?_); intro W8 hh hf hb; have HB1 := Aside0.mk (hb _ _ HB.out HN17.out); have H171 := Aside0.mk hh; have H131 := Aside0.mk ((hf _ (by have := HE13_17.out; omega)).trans H13.out); have H141 := Aside0.mk ((hf _ (by have := HE14_17.out; omega)).trans H14.out); have H151 := Aside0.mk ((hf _ (by have := HE15_17.out; omega)).trans H15.out); clear hh hf hb; clear HB H17 H13 H14 H15; have HB := HB1; have H17 := H171; have H13 := H131; have H14 := H141; have H15 := H151; clear HB1 H171 H131 H141 H151))
    go_upto_region 14 with (first
     | ((refine alloc_toG rfl 66 rfl _ z66 ?_); intro W10 hh hb; have hn := HB.out.size; have HB1 := Aside0.mk (below_step HB.out hb); have H131 := Aside0.mk (blk_below H13.out hb); have H141 := Aside0.mk (blk_below H14.out hb); have H151 := Aside0.mk (blk_below H15.out hb); have H171 := Aside0.mk (blk_below H17.out hb); have hl13 := blk_lt H13.out; have hl14 := blk_lt H14.out; have hl15 := blk_lt H15.out; have hl17 := blk_lt H17.out; obtain ⟨g19, hgk⟩ : ∃ g, W8.heap.size = g := ⟨_, rfl⟩; rw [hgk] at hh hn hl13 hl14 hl15 hl17 ⊢; have H19 := Aside0.mk hh; have HN19 := Aside0.mk hn; have HE13_19 := Aside0.mk hl13; have HE14_19 := Aside0.mk hl14; have HE15_19 := Aside0.mk hl15; have HE17_19 := Aside0.mk hl17; clear hh hn hb hgk hl13 hl14 hl15 hl17; clear HB H13 H14 H15 H17; have HB := HB1; have H13 := H131; have H14 := H141; have H15 := H151; have H17 := H171; clear HB1 H131 H141 H151 H171))
    have HL := Aside0.mk (LB.mk HB.out H13.out H14.out H15.out H17.out H19.out (by simp [zero64]) HN19.out (by have := HE17_19.out; omega))
    clear HB H13 H14 H15 H17 H19 HN13 HN14 HN15 HN17 HN19 HE13_14 HE13_15 HE14_15 HE13_17 HE14_17 HE15_17 HE13_19 HE14_19 HE15_19 HE17_19
    obtain ⟨q, hq⟩ : ∃ q : Nat, i % 2 = q := ⟨_, rfl⟩
    have hq2 : q < 2 := by omega
    have j0 : Int.tmod (i : Int) 2 = (q : Int) := by rw [Int.tmod_eq_emod_of_nonneg (by omega)]; omega
    have j1 : (i : Int) % 2 = (q : Int) := by omega
    have j2 : (0 : Int) ≤ (q : Int) := by omega
    have j3 : (q : Int) < 2 := by omega
    have j4 := HM.out.1
    have j5 : (0 : Int) ≤ (m : Int) := by omega
    have j6 : (m : Int) < 32 := by have := HM.out.2; omega
    have HQ2 : Aside0 (q * 32 + m < 64) := ⟨by have := HM.out.2; omega⟩
    clear hq hq2
    refine wp_region_held_drew (S := (fun w1 => w1.heap[w.heap.size + 1 + 1]? = some (.cells os 71 (0, 0)))) (by kernel_rfl) ?hS0 (fun hHeld => ?_)
    case hS0 => exact ((HW.out.below HL.out.b).below (drew_self _)).o
    refine zTH (v := ?_) 0 rfl hHeld ?h ?_
    case h => (intro w1 h1; go_simp; (try with_reducible rfl))
    (try simp only [Act.put, zA1, zA2, zA3])
    refine zTH (v := ?_) 1 rfl hHeld ?h ?_
    case h => (intro w1 h1; go_simp; (try with_reducible rfl))
    (try simp only [Act.put, zA1, zA2, zA3])
    refine zTH (v := ?_) 2 rfl hHeld ?h ?_
    case h => (intro w1 h1; go_simp; (try with_reducible rfl))
    (try simp only [Act.put, zA1, zA2, zA3])
    refine zTH (v := ?_) 3 rfl hHeld ?h ?_
    case h => (intro w1 h1; have h1a := (blk_cell h1 1).trans HOS.out.2.1; go_simp; (try with_reducible rfl))
    (try simp only [Act.put, zA1, zA2, zA3])
    refine zTH (v := ?_) 4 rfl hHeld ?h ?_
    case h => (intro w1 h1; go_simp; (try with_reducible rfl))
    (try simp only [Act.put, zA1, zA2, zA3])
    refine zTH (v := ?_) 5 rfl hHeld ?h ?_
    case h => (intro w1 h1; go_simp; (try with_reducible rfl))
    (try simp only [Act.put, zA1, zA2, zA3])
    refine zTH (v := ?_) 6 rfl hHeld ?h ?_
    case h => (intro w1 h1; go_simp; (try with_reducible rfl))
    (try simp only [Act.put, zA1, zA2, zA3])
    have hL1 := HL.out.below (drew_self _)
    have hcc := (blk_cell hL1.h19 (q * 32 + m)).trans (rowI_at (by rw [hL1.o9]; exact HQ2.out))
    have hff := blk_frozen hL1.h19 (q * 32 + m)
    have hL2 := hL1.put (q * 32 + m) 7
    have hL3 := (HL.out.put (q * 32 + m) 7).below (drew_self _)
    refine zOH 7 rfl fun K hK => ?_
    go_simp
    refine hK.out _ _ ?hSn24 (fun hHeld => ?_)
    case hSn24 => exact (HW.out.below hL2.b).o
    clear hK K
    (try simp only [Act.put, zA1, zA2, zA3])
    refine wpAnyH_done (by kernel_rfl) ?_ _
    have HL1 := Aside0.mk hL3
    clear HL hL1 hL2 hL3 hcc hff hHeld
    have HL := HL1
    clear HL1
    clear j0 j1 j2 j3 j4 j5 j6
    obtain ⟨W11, hW11⟩ : ∃ x, (W10.setCell ⟨g19, q * 32 + m, none⟩ (.int .i32 7)).drew = x := ⟨_, rfl⟩
    rw [hW11] at HL ⊢
    obtain ⟨O9, hO9⟩ : ∃ x, zero64.set (q * 32 + m) 7 = x := ⟨_, rfl⟩
    rw [hO9] at HL
    clear hW11 hO9
    have HTW := Aside0.mk (HW.out.below HL.out.b)
    obtain ⟨L0, hL0, hsh0⟩ := HTW.out.sh
    have HNI : Aside0 (NI W11 W11 s c fr g11 g19 g14 L0 O9) := ⟨⟨Foot.refl _ _, hsh0, hL0, HL.out.h19, HL.out.o9, HL.out.h14, Nat.le_trans HTW.out.s3 HTW.out.n11, Nat.le_trans (Nat.le_trans HTW.out.s3 HW.out.b.size) HL.out.n19, HTW.out.lm, HTW.out.lp, HTW.out.ls⟩⟩
    have HSH := Aside0.mk hsh0
    clear hL0 hsh0
    go_upto_region 16 with (first
     | (go_at_call 29; (with_reducible refine (H29.out _ _ _ _ _ _ HNI.out).mono ?_); rintro e w12 ⟨rfl, L9, hni⟩; have HC := Aside0.mk (HL.out.into HSH.out hni); have HV := Aside0.mk (HTW.out.shift HL.out.h19 (Nat.le_trans HW.out.b.size HL.out.n19) hni.ft hni.ll hni.sh); clear hni HNI HSH HTW HL HW))
    go_wp2_with (first
     | (refine wpList_load_row rfl 66 (.tmp 17) rfl g17 rfl 66 (rowI O) (0, 0) _ HC.out.h17 Tryd.underlying66 rfl (by rw [rowI_sz, HO64.out]; kernel_rfl) ?_)
     | (refine wpList_load_row rfl 76 (.tmp 15) rfl g15 rfl 76 (rowL O) (0, 0) _ HC.out.h15 Tryd.underlying76 rfl (by rw [rowL_sz, HO64.out]; kernel_rfl) ?_)
     | (refine load_want (by rfl) 66 (.tmp 19) rfl g19 rfl 66 (rowI O) (0, 0) _ HC.out.h19 Tryd.underlying66 rfl (by rw [rowI_sz, HO64.out]; kernel_rfl) ?_)
     | (refine load_want (by rfl) 76 (.tmp 15) rfl g15 rfl 76 (rowL O) (0, 0) _ HC.out.h15 Tryd.underlying76 rfl (by rw [rowL_sz, HO64.out]; kernel_rfl) ?_)
     | (go_at_call 30; (with_reducible refine (same_call O HO64.out HOF.out _).mono ?_); rintro e w13 ⟨rfl, hb⟩; have HC1 := Aside0.mk (HC.out.below hb); have HV1 := Aside0.mk (HV.out.below hb); clear hb; clear HC HV; have HC := HC1; have HV := HV1; clear HC1 HV1)
     | (refine load_want (by rfl) 61 (.tmp 14) rfl g14 rfl 61 fr.cells.toArray (0, 0) _ HC.out.h14 Tryd.underlying61 rfl (fr_sz61 fr HRF.out) ?_)
     | (refine load_want (by rfl) 62 (.tmp 13) rfl g13 rfl 62 fr.cells.toArray (0, 0) _ HC.out.h13 Tryd.underlying62 rfl (fr_sz fr HRF.out) ?_)
     | (refine neq_want (by rfl) 61 61 (.tmp 108) (.tmp 109) rfl fr.cells.toArray rfl rfl (by kernel_rfl) HEQ.out ?_))
    go_roundw
    case rel => repeat (first | exact ⟨⟨i + 1, S, HI3.out, rfl, congrArg (Value.int .i64) (by omega), HSU, HV⟩, rfl⟩ | exact ⟨i + 1, S, HI3.out, rfl, congrArg (Value.int .i64) (by omega), HSU, HV⟩ | apply Exists.intro)
    case measure => exact meas_n HI3.out
   ·obtain rfl : i = 3 := by omega
    clear ht hi
    have HB : Aside0 (Below wr.heap.size wr wr) := ⟨Below.refl _ _⟩
    have hc2 : wr.cell? ⟨w.heap.size + 1 + 1, 2, none⟩ = some (.int .i64 o2) := (blk_cell HW.out.o 2).trans HOS.out.2.2.1
    have hc3 : wr.cell? ⟨w.heap.size + 1 + 1, 3, none⟩ = some (.int .i64 o3) := (blk_cell HW.out.o 3).trans HOS.out.2.2.2
    have HRC := Aside0.mk (right_call o2 o3)
    by_cases hR : 0 ≤ o2 ∧ o2 ≤ 2 ∧ 1 ≤ o3 ∧ o3 ≤ 2
    ·rw [decide_eq_true hR] at HRC
     clear hR
     go_upto_region 21 with (first
      | ((refine alloc_toG rfl 53 rfl _ z53 ?_); intro W1 hh hb; clear hc2 hc3; have HB1 := Aside0.mk (below_step HB.out hb); obtain ⟨g21, hgk⟩ : ∃ g, wr.heap.size = g := ⟨_, rfl⟩; have hn := Nat.le_of_eq hgk; rw [hgk] at hh ⊢; have H21 := Aside0.mk hh; have HN21 := Aside0.mk hn; clear hh hn hb hgk; clear HB; have HB := HB1; clear HB1)
      | ((refine store_rowG rfl 53 (.tmp 21) (.tmp 118) rfl g21 #[.int .i64 o2, .int .i64 o3] rfl rfl 53 _ H21.out (by kernel_rfl) rfl (by simp [Value.oneCell']) ?_); intro W2 hh hf hb; have HB1 := Aside0.mk (hb _ _ HB.out HN21.out); have H211 := Aside0.mk hh; clear hh hf hb; clear HB H21; have HB := HB1; have H21 := H211; clear HB1 H211; have hc2 : W2.cell? ⟨w.heap.size + 1 + 1, 2, none⟩ = some (.int .i64 o2) := (blk_cell (HW.out.below HB.out).o 2).trans HOS.out.2.2.1; have hc3 : W2.cell? ⟨w.heap.size + 1 + 1, 3, none⟩ = some (.int .i64 o3) := (blk_cell (HW.out.below HB.out).o 3).trans HOS.out.2.2.2))
     go_wp2_with (first
      | (go_at_call 31; (with_reducible refine (HRC.out _).mono ?_); rintro e w3 ⟨rfl, hb⟩; have HB1 := Aside0.mk (below_step HB.out hb); clear hb; clear HB; have HB := HB1; clear HB1))
     go_ret
     exact ⟨rfl, (HW.out.below HB.out).b⟩
    ·have HNR := Aside0.mk hR
     have HEZ := Aside0.mk (fun w => eq66 zero64 (by simp [zero64]) w)
     rw [decide_eq_false hR] at HRC
     clear hR
     go_upto_region 21 with (first
      | ((refine alloc_toG rfl 53 rfl _ z53 ?_); intro W1 hh hb; clear hc2 hc3; have HB1 := Aside0.mk (below_step HB.out hb); obtain ⟨g21, hgk⟩ : ∃ g, wr.heap.size = g := ⟨_, rfl⟩; have hn := Nat.le_of_eq hgk; rw [hgk] at hh ⊢; have H21 := Aside0.mk hh; have HN21 := Aside0.mk hn; clear hh hn hb hgk; clear HB; have HB := HB1; clear HB1)
      | ((refine store_rowG rfl 53 (.tmp 21) (.tmp 118) rfl g21 #[.int .i64 o2, .int .i64 o3] rfl rfl 53 _ H21.out (by kernel_rfl) rfl (by simp [Value.oneCell']) ?_); intro W2 hh hf hb; have HB1 := Aside0.mk (hb _ _ HB.out HN21.out); have H211 := Aside0.mk hh; clear hh hf hb; clear HB H21; have HB := HB1; have H21 := H211; clear HB1 H211; have hc2 : W2.cell? ⟨w.heap.size + 1 + 1, 2, none⟩ = some (.int .i64 o2) := (blk_cell (HW.out.below HB.out).o 2).trans HOS.out.2.2.1; have hc3 : W2.cell? ⟨w.heap.size + 1 + 1, 3, none⟩ = some (.int .i64 o3) := (blk_cell (HW.out.below HB.out).o 3).trans HOS.out.2.2.2))
     go_upto_region 23 with (first
      | (go_at_call 31; (with_reducible refine (HRC.out _).mono ?_); rintro e w3 ⟨rfl, hb⟩; have HB1 := Aside0.mk (below_step HB.out hb); have H211 := Aside0.mk (blk_below H21.out hb); clear hb; clear HB H21; have HB := HB1; have H21 := H211; clear HB1 H211; clear hc2 hc3))
     go_upto_region 24 with (first
      | (refine wpList_load_row rfl 53 (.tmp 21) rfl g21 rfl 53 #[.int .i64 o2, .int .i64 o3] (0, 0) _ H21.out Tryd.underlying53 rfl (by kernel_rfl) ?_)
      | (refine wpList_load_row rfl 62 (.tmp 10) rfl g10 rfl 62 f.cells.toArray (0, 0) _ (HW.out.below HB.out).ff Tryd.underlying62 rfl (fr_sz f HFL.out) ?_)
      | (go_at_call 21; (with_reducible refine (spec_odd o2 o3 HNR.out f X HFL.out _).mono ?_); rintro e w4 ⟨rfl, hb⟩; have HB1 := Aside0.mk (below_step HB.out hb); have H211 := Aside0.mk (blk_below H21.out hb); clear hb; clear HB H21; have HB := HB1; have H21 := H211; clear HB1 H211)
      | ((refine alloc_toG rfl 66 rfl _ z66 ?_); intro W5 hh hb; have hn := HB.out.size; have HB1 := Aside0.mk (below_step HB.out hb); have H211 := Aside0.mk (blk_below H21.out hb); have hl21 := blk_lt H21.out; obtain ⟨g22, hgk⟩ : ∃ g, w4.heap.size = g := ⟨_, rfl⟩; rw [hgk] at hh hn hl21 ⊢; have H22 := Aside0.mk hh; have HN22 := Aside0.mk hn; have HE21_22 := Aside0.mk hl21; clear hh hn hb hgk hl21; clear HB H21; have HB := HB1; have H21 := H211; clear HB1 H211)
      | ((refine store_rowG rfl 66 (.tmp 22) (.tmp 129) rfl g22 (rowI zero64) rfl rfl 66 _ H22.out (by kernel_rfl) rfl (rowI_one _) ?_); intro W6 hh hf hb; have HB1 := Aside0.mk (hb _ _ HB.out HN22.out); have H221 := Aside0.mk hh; have H211 := Aside0.mk ((hf _ (by have := HE21_22.out; omega)).trans H21.out); clear hh hf hb; clear HB H22 H21; have HB := HB1; have H22 := H221; have H21 := H211; clear HB1 H221 H211))
     go_upto_region 25 with (first
      | ((refine alloc_toG rfl 66 rfl _ z66 ?_); intro W7 hh hb; have hn := HB.out.size; have HB1 := Aside0.mk (below_step HB.out hb); have H211 := Aside0.mk (blk_below H21.out hb); have H221 := Aside0.mk (blk_below H22.out hb); have hl21 := blk_lt H21.out; have hl22 := blk_lt H22.out; obtain ⟨g24, hgk⟩ : ∃ g, W6.heap.size = g := ⟨_, rfl⟩; rw [hgk] at hh hn hl21 hl22 ⊢; have H24 := Aside0.mk hh; have HN24 := Aside0.mk hn; have HE21_24 := Aside0.mk hl21; have HE22_24 := Aside0.mk hl22; clear hh hn hb hgk hl21 hl22; clear HB H21 H22; have HB := HB1; have H21 := H211; have H22 := H221; clear HB1 H211 H221))
     go_upto_region 26 with (first
      | (refine wpList_load_row rfl 62 (.tmp 10) rfl g10 rfl 62 f.cells.toArray (0, 0) _ (HW.out.below HB.out).ff Tryd.underlying62 rfl (fr_sz f HFL.out) ?_)
      | ((refine alloc_toG rfl 61 rfl _ z61 ?_); intro W8 hh hb; have hn := HB.out.size; have HB1 := Aside0.mk (below_step HB.out hb); have H211 := Aside0.mk (blk_below H21.out hb); have H221 := Aside0.mk (blk_below H22.out hb); have H241 := Aside0.mk (blk_below H24.out hb); have hl21 := blk_lt H21.out; have hl22 := blk_lt H22.out; have hl24 := blk_lt H24.out; obtain ⟨g25, hgk⟩ : ∃ g, W7.heap.size = g := ⟨_, rfl⟩; rw [hgk] at hh hn hl21 hl22 hl24 ⊢; have H25 := Aside0.mk hh; have HN25 := Aside0.mk hn; have HE21_25 := Aside0.mk hl21; have HE22_25 := Aside0.mk hl22; have HE24_25 := Aside0.mk hl24; clear hh hn hb hgk hl21 hl22 hl24; clear HB H21 H22 H24; have HB := HB1; have H21 := H211; have H22 := H221; have H24 := H241; clear HB1 H211 H221 H241)
      | ((refine store_rowG rfl 61 (.tmp 25) (.tmp 131) rfl g25 f.cells.toArray rfl rfl 61 _ H25.out (fr_sz61 f HFL.out) (by simp [Fr.cells, F0, HFL.out]) (fr_one f) ?_); intro W9 hh hf hb; have HB1 := Aside0.mk (hb _ _ HB.out HN25.out); have H251 := Aside0.mk hh; have H211 := Aside0.mk ((hf _ (by have := HE21_25.out; omega)).trans H21.out); have H221 := Aside0.mk ((hf _ (by have := HE22_25.out; omega)).trans H22.out); have H241 := Aside0.mk ((hf _ (by have := HE24_25.out; omega)).trans H24.out); clear hh hf hb; clear HB H25 H21 H22 H24; have HB := HB1; have H25 := H251; have H21 := H211; have H22 := H221; have H24 := H241; clear HB1 H251 H211 H221 H241))
     go_upto_region 27 with (first
      | (refine wpList_load_row rfl 53 (.tmp 21) rfl g21 rfl 53 #[.int .i64 o2, .int .i64 o3] (0, 0) _ H21.out Tryd.underlying53 rfl (by kernel_rfl) ?_)
      | (go_at_call 27; (with_reducible refine (new_call o2 o3 _).mono ?_); rintro e w10 ⟨gS, rfl, hsh, hng, hb⟩; have HBp := HB; have HB1 := Aside0.mk (below_step HB.out hb); have H211 := Aside0.mk (blk_below H21.out hb); have H221 := Aside0.mk (blk_below H22.out hb); have H241 := Aside0.mk (blk_below H24.out hb); have H251 := Aside0.mk (blk_below H25.out hb); clear hb; clear HB H21 H22 H24 H25; have HB := HB1; have H21 := H211; have H22 := H221; have H24 := H241; have H25 := H251; clear HB1 H211 H221 H241 H251; have HSH := Aside0.mk hsh; have HNS := Aside0.mk (Nat.le_trans HBp.out.size hng); clear hsh hng HBp)
      | (go_at_call 29; (with_reducible refine (into_odd o2 o3 HNR.out f X HFL.out gS g24 g25 _ _ _ ⟨Foot.refl _ _, HSH.out, by simp, H24.out, by simp [zero64], H25.out, Nat.le_trans (Nat.le_trans HW.out.s3 HW.out.b.size) HNS.out, Nat.le_trans (Nat.le_trans HW.out.s3 HW.out.b.size) HN24.out, (HW.out.below HB.out).lm, (HW.out.below HB.out).lp, (HW.out.below HB.out).ls⟩).mono ?_); rintro e w11 ⟨rfl, hni⟩; have H221 := Aside0.mk ((hni.ft.k _ (blk_lt H22.out) (fun e => e.elim (fun e => blk_ne H22.out HSH.out (by decide) e) (fun e => by have := HE22_24.out; omega))).trans H22.out); have H241 := Aside0.mk hni.out; have HB1 := Aside0.mk (HB.out.trans (hni.ft.below (fun k hk => hk.elim (fun e => e ▸ HNS.out) (fun e => e ▸ HN24.out)) HB.out.size)); clear hni; clear HB H22 H24; have HB := HB1; have H22 := H221; have H24 := H241; clear HB1 H221 H241))
     go_wp2_with (first
      | (refine wpList_load_row rfl 66 (.tmp 22) rfl g22 rfl 66 (rowI zero64) (0, 0) _ H22.out Tryd.underlying66 rfl (by kernel_rfl) ?_)
      | (refine eq_want (by rfl) 66 66 (.tmp 136) (.tmp 137) rfl (rowI zero64) rfl rfl (by kernel_rfl) HEZ.out ?_)
      | (refine load_want (by rfl) 66 (.tmp 24) rfl g24 rfl 66 (rowI zero64) (0, 0) _ H24.out Tryd.underlying66 rfl (by kernel_rfl) ?_)
      | (refine load_want (by rfl) 66 (.tmp 22) rfl g22 rfl 66 (rowI zero64) (0, 0) _ H22.out Tryd.underlying66 rfl (by kernel_rfl) ?_)
      | (refine eq_want (by rfl) 66 66 (.tmp 145) (.tmp 146) rfl (rowI zero64) rfl rfl (by kernel_rfl) HEZ.out ?_))
     go_ret
     exact ⟨by simp, (HW.out.b).trans (HB.out.mono HW.out.b.size)⟩
open Go.ChangeShapes Go.WideShapes Go.Deep
section
variable {H : Type} {enc : TypeId × Value → H} {P : Program} {w : World} {base : Nat} {spare : Nat → Bool} {held : Bool}
theorem trod_arrs {t u e : TypeId} {m n : Nat} {k : IntKind} {fuel : Nat} {cs : List Value} {x : DataW H × List MemPlace} (ht : P.underlying t = some (.array m u)) (hu : P.underlying u = some (.array n e)) (he : P.underlying e = some (.int k)) (hce : P.cellsOf e = 1) (hcu : P.cellsOf u = n) (hct : P.cellsOf t = m * n)
 (h : DataW.trod enc P w base spare held fuel t cs = some x) : cs.length = m * n ∧ ∀ j, j < m * n → ∃ q : Int, cs[j]? = some (.int k q) ∧ (Lit.int k q).wf = true := by
 obtain ⟨ys, q, rfl, _, hl, hyl, hy⟩ := DataW.trod_array ht h
 refine ⟨by rw [hl, hct], fun j hj => ?_⟩
 have hn : 0 < n := by
  rcases Nat.eq_zero_or_pos n with h | h
  ·subst h; omega
  ·exact h
 have hi : j / n < m := by rw [Nat.div_lt_iff_lt_mul hn]; exact hj
 have h5 := hy (j / n) hi
 rw [List.getElem?_eq_getElem (by omega)] at h5
 obtain ⟨zs, hz, hc, hw⟩ := Arrs.trod_ints hu he hce hcu h5
 have hr := Nat.mod_lt j hn
 refine ⟨rd zs (j % n : Nat), ?_, hw _ ?_⟩
 ·have h8 := congrArg (fun l : List Value => l[j % n]?) hc
  simp only [List.getElem?_take, List.getElem?_drop, Arrs.nums_at (k := k) (xs := zs) (j := j % n) (by omega), hcu, if_pos hr] at h8
  have e : j / n * n + j % n = j := by rw [Nat.mul_comm]; exact Nat.div_add_mod j n
  rw [e] at h8
  exact h8
 ·unfold rd; rw [Int.toNat_natCast, List.getD_eq_getElem?_getD, List.getElem?_eq_getElem (by omega)]; exact List.getElem_mem _
theorem sub_at {cs l : List Value} {o n j : Nat} (h : (cs.drop o).take n = l) {v : Value} (hj : l[j]? = some v) : cs[o + j]? = some v := by
 subst h
 rw [List.getElem?_take] at hj
 split at hj
 ·rwa [List.getElem?_drop] at hj
 ·cases hj
theorem wf_u8 {n : Int} (h : (Lit.int .u8 n).wf = true) : 0 ≤ n ∧ n ≤ 255 := by
 have h2 : IntKind.u8.min ≤ n ∧ n ≤ IntKind.u8.max := by simpa [Lit.wf] using h
 rw [show IntKind.u8.min = 0 by decide, show IntKind.u8.max = 255 by decide] at h2
 first | exact h2 | (exact ⟨h2.1, by omega⟩)
theorem wf_u16 {n : Int} (h : (Lit.int .u16 n).wf = true) : 0 ≤ n ∧ n < 65536 := by
 have h2 : IntKind.u16.min ≤ n ∧ n ≤ IntKind.u16.max := by simpa [Lit.wf] using h
 rw [show IntKind.u16.min = 0 by decide, show IntKind.u16.max = 65535 by decide] at h2
 first | exact h2 | (exact ⟨h2.1, by omega⟩)
theorem wf_i8 {n : Int} (h : (Lit.int .i8 n).wf = true) : -128 ≤ n ∧ n ≤ 127 := by
 have h2 : IntKind.i8.min ≤ n ∧ n ≤ IntKind.i8.max := by simpa [Lit.wf] using h
 rw [show IntKind.i8.min = -128 by decide, show IntKind.i8.max = 127 by decide] at h2
 first | exact h2 | (exact ⟨h2.1, by omega⟩)
theorem wf_u64 {n : Int} (h : (Lit.int .u64 n).wf = true) : 0 ≤ n ∧ n < 18446744073709551616 := by
 have h2 : IntKind.u64.min ≤ n ∧ n ≤ IntKind.u64.max := by simpa [Lit.wf] using h
 rw [show IntKind.u64.min = 0 by decide, show IntKind.u64.max = 18446744073709551615 by decide] at h2
 first | exact h2 | (exact ⟨h2.1, by omega⟩)
end
section
variable {H : Type} {enc : TypeId × Value → H} {w : World} {base b0 : Nat} {spare : Nat → Bool} {held : Bool}
theorem field_at {fs : List Value} {xs : List (DataW H × List MemPlace)} {i : Nat} (hi : i < xs.length) {o : Option (DataW H × List MemPlace)} (h : o = xs[i]?) : ∃ x, o = some x := ⟨_, h.trans (List.getElem?_eq_getElem hi)⟩
theorem open_wish {fuel : Nat} {cs : List Value} {x : DataW H × List MemPlace} (h : DataW.trod enc Tryd.prog w base spare held fuel 49 cs = some x) : cs.length = 34 ∧ ∃ si it sp tr, Wish cs.toArray si it sp tr := by
 obtain ⟨xs, n, _, _, hl, hxl, hx⟩ := DataW.trod_struct Tryd.underlying49 h
 have hl34 : cs.length = 34 := by rw [hl]; kernel_rfl
 have hx7 : xs.length = 7 := hxl
 obtain ⟨y0, h0⟩ := field_at (fs := cs) (i := 0) (by omega) (hx 0 _ rfl)
 obtain ⟨y1, h1⟩ := field_at (fs := cs) (i := 1) (by omega) (hx 1 _ rfl)
 obtain ⟨y2, h2⟩ := field_at (fs := cs) (i := 2) (by omega) (hx 2 _ rfl)
 obtain ⟨y3, h3⟩ := field_at (fs := cs) (i := 3) (by omega) (hx 3 _ rfl)
 obtain ⟨y4, h4⟩ := field_at (fs := cs) (i := 4) (by omega) (hx 4 _ rfl)
 obtain ⟨y5, h5⟩ := field_at (fs := cs) (i := 5) (by omega) (hx 5 _ rfl)
 obtain ⟨y6, h6⟩ := field_at (fs := cs) (i := 6) (by omega) (hx 6 _ rfl)
 obtain ⟨si, e0, _⟩ := DataW.trod_bool Tryd.underlying4 h0
 obtain ⟨it, e1, _⟩ := DataW.trod_bool Tryd.underlying4 h1
 obtain ⟨sp, e2, _, w2⟩ := DataW.trod_int Tryd.underlying5 h2
 obtain ⟨tr, e3, _, w3⟩ := DataW.trod_int Tryd.underlying5 h3
 obtain ⟨l4, a4⟩ := trod_arrs Tryd.underlying44 Tryd.underlying43 Tryd.underlying42 (by kernel_rfl) (by kernel_rfl) (by kernel_rfl) h4
 obtain ⟨l5, a5⟩ := trod_arrs Tryd.underlying41 Tryd.underlying40 Tryd.underlying5 (by kernel_rfl) (by kernel_rfl) (by kernel_rfl) h5
 obtain ⟨l6, a6⟩ := trod_arrs Tryd.underlying47 Tryd.underlying46 Tryd.underlying45 (by kernel_rfl) (by kernel_rfl) (by kernel_rfl) h6
 refine ⟨hl34, si, it, sp, tr, ?_, ?_, ?_, ?_, wf_u8 w2, wf_u8 w3, fun j hj => ?_, fun j hj => ?_, fun j hj => ?_⟩
 ·rw [List.getElem?_toArray]; exact sub_at (j := 0) e0 rfl
 ·rw [List.getElem?_toArray]; exact sub_at (j := 0) e1 rfl
 ·rw [List.getElem?_toArray]; exact sub_at (j := 0) e2 rfl
 ·rw [List.getElem?_toArray]; exact sub_at (j := 0) e3 rfl
 ·obtain ⟨q, hq, hw⟩ := a4 j hj
  exact ⟨q, by rw [List.getElem?_toArray]; exact sub_at rfl hq, wf_i8 hw⟩
 ·obtain ⟨q, hq, hw⟩ := a5 j hj
  exact ⟨q, by rw [List.getElem?_toArray]; exact sub_at rfl hq, wf_u8 hw⟩
 ·obtain ⟨q, hq, hw⟩ := a6 j hj
  exact ⟨q, by rw [List.getElem?_toArray]; exact sub_at rfl hq, wf_u64 hw⟩
set_option maxRecDepth 100000 in
theorem open_ask {r : Reach} {v : Value} {d : DataW H} {p : List MemPlace} (hv : Value.okWide Tryd.prog w r b0 51 v) (h : DataW.Trod enc Tryd.prog w base spare held 51 v d p) :
 ∃ (cs wc : Array Value) (x a b : Int) (ps : List Int) (si it : Bool) (sp tr : Int), v = .agg cs ∧ Ask cs wc x a b ps si it sp tr := by
 simp only [Value.okWide, Tryd.underlying51] at hv
 obtain ⟨cs, rfl, hsz, _⟩ := hv
 obtain ⟨fuel, hf⟩ := h
 have hcs : (Value.agg cs).cells.toList = cs.toList := rfl
 rw [hcs] at hf
 obtain ⟨xs, n, _, _, hl, hxl, hx⟩ := DataW.trod_struct Tryd.underlying51 hf
 have hl47 : cs.size = 47 := by rw [hsz]; kernel_rfl
 have hx5 : xs.length = 5 := hxl
 obtain ⟨y0, h0⟩ := field_at (fs := cs.toList) (i := 0) (by omega) (hx 0 _ rfl)
 obtain ⟨y1, h1⟩ := field_at (fs := cs.toList) (i := 1) (by omega) (hx 1 _ rfl)
 obtain ⟨y2, h2⟩ := field_at (fs := cs.toList) (i := 2) (by omega) (hx 2 _ rfl)
 obtain ⟨y3, h3⟩ := field_at (fs := cs.toList) (i := 3) (by omega) (hx 3 _ rfl)
 obtain ⟨y4, h4⟩ := field_at (fs := cs.toList) (i := 4) (by omega) (hx 4 _ rfl)
 obtain ⟨x, e0, _, w0⟩ := DataW.trod_int Tryd.underlying39 h0
 obtain ⟨a, e1, _, w1⟩ := DataW.trod_int Tryd.underlying5 h1
 obtain ⟨b, e2, _, w2⟩ := DataW.trod_int Tryd.underlying5 h2
 obtain ⟨l3, a3⟩ := trod_arrs Tryd.underlying41 Tryd.underlying40 Tryd.underlying5 (by kernel_rfl) (by kernel_rfl) (by kernel_rfl) h3
 obtain ⟨l4, si, it, sp, tr, hw⟩ := open_wish h4
 obtain ⟨F, hF⟩ := choose_lt a3
 refine ⟨cs, _, x, a, b, (List.range 10).map F, si, it, sp, tr, rfl, hl47, ?_, wf_u16 w0, ?_, ?_, wf_u8 w1, wf_u8 w2, by simp, ?_, ?_, by simpa using l4, ?_, hw⟩
 ·rw [← Array.getElem?_toList]; exact sub_at (j := 0) e0 rfl
 ·rw [← Array.getElem?_toList]; exact sub_at (j := 0) e1 rfl
 ·rw [← Array.getElem?_toList]; exact sub_at (j := 0) e2 rfl
 ·intro q hq
  obtain ⟨i, hi, rfl⟩ := List.mem_map.1 hq
  exact wf_u8 (hF i (by simpa using hi)).2
 ·intro j v hv
  rw [List.getElem?_map] at hv
  obtain ⟨q, hq, rfl⟩ := Option.map_eq_some_iff.1 hv
  rw [List.getElem?_map] at hq
  obtain ⟨i, hi, rfl⟩ := Option.map_eq_some_iff.1 hq
  have hj : j < 10 := by
   have := (List.getElem?_eq_some_iff.1 hi).1
   simpa using this
  rw [List.getElem?_range hj] at hi
  rw [← Option.some.inj hi, ← Array.getElem?_toList]
  exact sub_at rfl (hF j (by omega)).1
 ·intro j v hv
  have hv2 := hv
  rw [List.toList_toArray] at hv2
  rw [← Array.getElem?_toList]
  exact sub_at rfl hv2
end
section
variable {H : Type} {enc : TypeId × Value → H} {w : World} {base b0 : Nat} {spare : Nat → Bool} {held : Bool}
theorem row_sub {cs l : List Value} {o n : Nat} (h : (cs.drop o).take n = l) {a b : Nat} (ha : a ≤ b) (hl : ∀ j, j < b - a → ∃ q : Int, l[j]? = some (.int .i64 q)) (ho : o = a + 2) : ∀ j, a ≤ j → j < b → ∃ q : Int, cs[j + 2]? = some (.int .i64 q) := fun j h1 h2 => by
 obtain ⟨q, hq⟩ := hl (j - a) (by omega)
 have := sub_at h hq
 rw [show o + (j - a) = j + 2 by omega] at this
 exact ⟨q, this⟩
set_option maxRecDepth 100000 in
theorem open_frame {r : Reach} {v : Value} {d : DataW H} {p : List MemPlace} (hv : Value.okWide Tryd.prog w r b0 62 v) (h : DataW.Trod enc Tryd.prog w base spare held 62 v d p) :
 ∃ f : Fr, v = .agg f.cells.toArray ∧ f.L.length = 92 := by
 simp only [Value.okWide, Tryd.underlying62] at hv
 obtain ⟨cs, rfl, hsz, _⟩ := hv
 obtain ⟨fuel, hf⟩ := h
 have hcs : (Value.agg cs).cells.toList = cs.toList := rfl
 rw [hcs] at hf
 obtain ⟨xs, n, _, _, hl, hxl, hx⟩ := DataW.trod_struct Tryd.underlying62 hf
 have hl94 : cs.size = 94 := by rw [hsz]; kernel_rfl
 have hx9 : xs.length = 9 := hxl
 obtain ⟨y0, h0⟩ := field_at (fs := cs.toList) (i := 0) (by omega) (hx 0 _ rfl)
 obtain ⟨y1, h1⟩ := field_at (fs := cs.toList) (i := 1) (by omega) (hx 1 _ rfl)
 obtain ⟨y2, h2⟩ := field_at (fs := cs.toList) (i := 2) (by omega) (hx 2 _ rfl)
 obtain ⟨y3, h3⟩ := field_at (fs := cs.toList) (i := 3) (by omega) (hx 3 _ rfl)
 obtain ⟨y4, h4⟩ := field_at (fs := cs.toList) (i := 4) (by omega) (hx 4 _ rfl)
 obtain ⟨y5, h5⟩ := field_at (fs := cs.toList) (i := 5) (by omega) (hx 5 _ rfl)
 obtain ⟨y6, h6⟩ := field_at (fs := cs.toList) (i := 6) (by omega) (hx 6 _ rfl)
 obtain ⟨y7, h7⟩ := field_at (fs := cs.toList) (i := 7) (by omega) (hx 7 _ rfl)
 obtain ⟨y8, h8⟩ := field_at (fs := cs.toList) (i := 8) (by omega) (hx 8 _ rfl)
 obtain ⟨si, e0, _⟩ := DataW.trod_bool Tryd.underlying4 h0
 obtain ⟨it, e1, _⟩ := DataW.trod_bool Tryd.underlying4 h1
 obtain ⟨n2, e2, _, _⟩ := DataW.trod_int Tryd.underlying3 h2
 obtain ⟨n3, e3, _, _⟩ := DataW.trod_int Tryd.underlying3 h3
 obtain ⟨n4, e4, _, _⟩ := DataW.trod_int Tryd.underlying3 h4
 obtain ⟨_, a5⟩ := trod_arrs Tryd.underlying55 Tryd.underlying54 Tryd.underlying3 (by kernel_rfl) (by kernel_rfl) (by kernel_rfl) h5
 obtain ⟨_, a6⟩ := trod_arrs Tryd.underlying55 Tryd.underlying54 Tryd.underlying3 (by kernel_rfl) (by kernel_rfl) (by kernel_rfl) h6
 obtain ⟨k7, hk7, c7, _⟩ := Arrs.trod_ints Tryd.underlying54 Tryd.underlying3 (by kernel_rfl) (by kernel_rfl) h7
 obtain ⟨_, a8⟩ := trod_arrs Tryd.underlying59 Tryd.underlying58 Tryd.underlying3 (by kernel_rfl) (by kernel_rfl) (by kernel_rfl) h8
 have b5 := row_sub (a := 3) (b := 13) rfl (by decide) (fun j hj => by obtain ⟨q, hq, _⟩ := a5 j hj; exact ⟨q, hq⟩) rfl
 have b6 := row_sub (a := 13) (b := 23) rfl (by decide) (fun j hj => by obtain ⟨q, hq, _⟩ := a6 j hj; exact ⟨q, hq⟩) rfl
 have b7 := row_sub (a := 23) (b := 28) c7 (by decide) (fun j hj => ⟨_, Arrs.nums_at (by rw [hk7]; exact hj)⟩) rfl
 have b8 := row_sub (a := 28) (b := 92) rfl (by decide) (fun j hj => by obtain ⟨q, hq, _⟩ := a8 j hj; exact ⟨q, hq⟩) rfl
 have all : ∀ j, j < 92 → ∃ q : Int, cs.toList[j + 2]? = some (.int .i64 q) := fun j hj => by
  rcases (by omega : j = 0 ∨ j = 1 ∨ j = 2 ∨ (3 ≤ j ∧ j < 13) ∨ (13 ≤ j ∧ j < 23) ∨ (23 ≤ j ∧ j < 28) ∨ (28 ≤ j ∧ j < 92)) with rfl | rfl | rfl | ⟨p1, p2⟩ | ⟨p1, p2⟩ | ⟨p1, p2⟩ | ⟨p1, p2⟩
  ·exact ⟨n2, sub_at (j := 0) e2 rfl⟩
  ·exact ⟨n3, sub_at (j := 0) e3 rfl⟩
  ·exact ⟨n4, sub_at (j := 0) e4 rfl⟩
  ·exact b5 j p1 p2
  ·exact b6 j p1 p2
  ·exact b7 j p1 p2
  ·exact b8 j p1 p2
 have all2 : ∃ F : Nat → Int, ∀ j, j < 92 → cs.toList[j + 2]? = some (.int .i64 (F j)) := ⟨fun j => if hj : j < 92 then (all j hj).choose else 0, fun j hj => by show _ = some (Value.int .i64 (if hj : j < 92 then (all j hj).choose else 0)); rw [dif_pos hj]; exact (all j hj).choose_spec⟩
 obtain ⟨F, hF⟩ := all2
 refine ⟨⟨si, it, (List.range 92).map F⟩, ?_, by simp⟩
 congr 1
 apply Array.ext'
 apply List.ext_getElem?
 intro j
 rcases (by omega : j = 0 ∨ j = 1 ∨ (2 ≤ j ∧ j < 94) ∨ 94 ≤ j) with rfl | rfl | ⟨p1, p2⟩ | p1
 ·exact sub_at (j := 0) e0 rfl
 ·exact sub_at (j := 0) e1 rfl
 ·have h := hF (j - 2) (by omega)
  rw [show j - 2 + 2 = j by omega] at h
  rw [h]
  obtain ⟨j, rfl⟩ : ∃ i, j = i + 2 := ⟨j - 2, by omega⟩
  show _ = (((List.range 92).map F).map (Value.int .i64))[j]?
  rw [List.getElem?_map, List.getElem?_map, List.getElem?_range (by omega)]
  rfl
 ·rw [List.getElem?_eq_none (by rw [Array.length_toList]; omega), List.getElem?_eq_none (by simp [Fr.cells]; omega)]
end
theorem laid_tail {P : Program} {x : String × DataW Unit} {rest : List (String × DataW Unit)} {W : World} (h : laidMet P (x :: rest) W) : laidMet P rest W := by
 obtain ⟨ps, ⟨g', t', cs, fuel, p, q, hg', ht', hvar, hd, h1, h2⟩, hn, hm⟩ := h
 first
  | (subst h2; exact ⟨q, h1, (List.nodup_append.1 hn).2.1, fun b off hb => hm b off (List.mem_append_right _ hb)⟩)
  | (subst h1; exact ⟨q, h2, (List.nodup_append.1 hn).2.1, fun b off hb => hm b off (List.mem_append_right _ hb)⟩)
theorem laid_one {P : Program} {x : String × DataW Unit} {rest : List (String × DataW Unit)} {W : World} (h : laidMet P (x :: rest) W) : laidMet P [x] W := by
 obtain ⟨ps, ⟨g', t', cs, fuel, p, q, hg', ht', hvar, hd, h1, h2⟩, hn, hm⟩ := h
 subst h2
 exact ⟨_, ⟨g', t', cs, fuel, p, [], hg', ht', hvar, hd, rfl, rfl⟩, (by rw [List.append_nil]; exact (List.nodup_append.1 hn).1), fun b off hb => hm b off (List.mem_append_left _ (by rwa [List.append_nil] at hb))⟩
theorem laid3 {W : World} (h : laidMetH Tryd.prog [("spinet/mode.widths", Rows.laid_spinet_mode_widths), ("spinet/pow.steps", Rows.laid_spinet_pow_steps), ("spinet/spread.angles", Rows.laid_spinet_spread_angles)] W) : Mode.Laid W ∧ Shape.Laid W ∧ Spread.Laid W := by
 rw [MakeChecks.laidMetH_plain _ _ _ (by kernel_rfl)] at h
 refine ⟨Mode.of_laid ?_, Shape.of_laid ?_, Spread.of_laid ?_⟩
 ·rw [MakeChecks.laidMetH_plain _ _ _ (by kernel_rfl)]
  exact laid_one h
 ·rw [MakeChecks.laidMetH_plain _ _ _ (by kernel_rfl)]
  exact laid_one (laid_tail h)
 ·rw [MakeChecks.laidMetH_plain _ _ _ (by kernel_rfl)]
  exact laid_one (laid_tail (laid_tail h))
theorem tells_row {cs wc : Array Value} {x a b : Int} {ps : List Int} {si it : Bool} {sp tr : Int} (hask : Ask cs wc x a b ps si it sp tr) {r : Fr} (hr : r.L.length = 92) {zs : List Int} (hz : zs.length = 4) (hzw : ∀ z ∈ zs, (Lit.int .i64 z).wf = true) (w : World) (h : Mode.Laid w ∧ Shape.Laid w ∧ Spread.Laid w) :
 Calls Tryd.prog 7 #[.agg cs, .agg r.cells.toArray, .agg (nums .i64 zs).toArray] w fun e w' => e = .returned (.bool true) ∧ Below w.heap.size w w' := by
 match zs, hz, hzw with
 | [o0, o1, o2, o3], _, hzw => exact tells_call cs wc x a b ps si it sp tr hask r hr o0 o1 o2 o3 (Math.wf_i64 (hzw o1 (by simp))) w h.1 h.2.1 h.2.2
end Go.Proofs.YtjpnbdofbkoddaaDoor.Sh
