import Derived.Test.YtjmoklebimejaaaDoorWrOps
namespace Go.Proofs.YtjmoklebimejaaaDoor.WrLaw
open Go.RowKit Go.Proofs.YtjmoklebimejaaaDoorW.PrintWords Go.Proofs.YtjmoklebimejaaaDoorW.PrintLast Go.Proofs.YtjmoklebimejaaaDoorW.PrintMore
open Go.Proofs.YtjmoklebimejaaaDoor.Wr (St)
open Go.Proofs.YtjmoklebimejaaaDoor.WrWalk
open Go.Proofs.YtjmoklebimejaaaDoor.Pack (pk bitsOf bitsOf_len)
set_option linter.unusedVariables false
set_option linter.unusedSimpArgs false
/-- What stands at blocks of its own. -/
structure Ow (P : (Nat → Prop) → World → Prop) : Prop where
  mono : ∀ {ok ok' : Nat → Prop} {w : World}, P ok w → (∀ k, ok k → k < w.heap.size → ok' k) → P ok' w
  foot : ∀ {ok ok' : Nat → Prop} {w w' : World}, P ok w → Foot ok' w w' → (∀ k, ok k → k < w.heap.size → ¬ ok' k) → P ok w'
theorem ow_wr (g : Nat) (sz : Int) (s : St) (R : List Bool) : Ow (fun ok w => WrAt ok w g sz s R) := ⟨fun h hk => WrB.mono h hk, fun h hf hd => WrB.foot h hf hd⟩
theorem ow_true : Ow (fun _ _ => True) := ⟨fun h _ => h, fun h _ _ => h⟩
/-- Two of them apart, and a box. -/
structure Sep (w0 : World) (P Q : (Nat → Prop) → World → Prop) (Z : Option (Nat × Obj)) (w : World) : Prop where
  hb : Below w0.heap.size w0 w
  ex : ∃ o1 o2, P o1 w ∧ Q o2 w ∧ (∀ k, o1 k → ¬ o2 k) ∧ (∀ k, o1 k → w0.heap.size ≤ k ∧ k < w.heap.size ∧ ∀ z, Z = some z → k ≠ z.1) ∧ (∀ k, o2 k → w0.heap.size ≤ k ∧ k < w.heap.size ∧ ∀ z, Z = some z → k ≠ z.1)
  hz : ∀ z, Z = some z → w0.heap.size ≤ z.1 ∧ w.heap[z.1]? = some z.2
section
variable {w0 w w' : World} {P Q P' Q' : (Nat → Prop) → World → Prop} {Z : Option (Nat × Obj)} {f : Nat} {args : Array Value} {E : Ending → Prop}
theorem Sep.swap (S : Sep w0 P Q Z w) : Sep w0 Q P Z w := by
  obtain ⟨hb, ⟨o1, o2, h1, h2, hd, k1, k2⟩, hz⟩ := S
  exact ⟨hb, ⟨o2, o1, h2, h1, fun k h h' => hd k h' h, k2, k1⟩, hz⟩
theorem Sep.below (oP : Ow P) (oQ : Ow Q) (S : Sep w0 P Q Z w) (h : Below w.heap.size w w') : Sep w0 P Q Z w' := by
  obtain ⟨hb, ⟨o1, o2, h1, h2, hd, k1, k2⟩, hz⟩ := S
  have hf : Foot (fun _ => False) w w' := Foot.of_below h
  refine ⟨hb.trans (h.mono hb.size), ⟨o1, o2, oP.foot h1 hf (fun _ _ _ h => h), oQ.foot h2 hf (fun _ _ _ h => h), hd, fun k hk => ?_, fun k hk => ?_⟩, fun z e => ⟨(hz z e).1, (h.block z.1 (blk_lt (hz z e).2)).trans (hz z e).2⟩⟩
  · have := k1 k hk; exact ⟨this.1, Nat.lt_of_lt_of_le this.2.1 h.size, this.2.2⟩
  · have := k2 k hk; exact ⟨this.1, Nat.lt_of_lt_of_le this.2.1 h.size, this.2.2⟩
/-- A box is made; an older one is forgotten. -/
theorem Sep.box (oP : Ow P) (oQ : Ow Q) (S : Sep w0 P Q Z w) (o : Obj) : Sep w0 P Q (some (w.heap.size, o)) (w.alloc o) := by
  have h : Below w.heap.size w (w.alloc o) := below_alloc (Below.refl _ _) _
  have S2 := S.below oP oQ h
  obtain ⟨o1, o2, h1, h2, hd, k1, k2⟩ := S.ex
  have hf : Foot (fun _ => False) w (w.alloc o) := Foot.of_below h
  refine ⟨S2.hb, ⟨o1, o2, oP.foot h1 hf (fun _ _ _ h => h), oQ.foot h2 hf (fun _ _ _ h => h), hd, fun k hk => ?_, fun k hk => ?_⟩, fun z e => ?_⟩
  · have := k1 k hk; exact ⟨this.1, Nat.lt_of_lt_of_le this.2.1 h.size, fun z e => by injection e with e; subst e; exact Nat.ne_of_lt this.2.1⟩
  · have := k2 k hk; exact ⟨this.1, Nat.lt_of_lt_of_le this.2.1 h.size, fun z e => by injection e with e; subst e; exact Nat.ne_of_lt this.2.1⟩
  · injection e with e; subst e
    exact ⟨S.hb.size, blk_new w o⟩
theorem Sep.unbox (S : Sep w0 P Q Z w) : Sep w0 P Q none w := by
  obtain ⟨hb, ⟨o1, o2, h1, h2, hd, k1, k2⟩, hz⟩ := S
  exact ⟨hb, ⟨o1, o2, h1, h2, hd, fun k hk => ⟨(k1 k hk).1, (k1 k hk).2.1, fun z e => nomatch e⟩, fun k hk => ⟨(k2 k hk).1, (k2 k hk).2.1, fun z e => nomatch e⟩⟩, fun z e => nomatch e⟩
/-- The first one is called. -/
theorem Sep.call1 (S : Sep w0 P Q Z w) (oP : Ow P) (oP' : Ow P') (oQ : Ow Q) (hc : ∀ ok, (∀ k, w.heap.size ≤ k → ok k) → P ok w → Calls Tryd.prog f args w fun e w' => E e ∧ P' ok w' ∧ Foot ok w w') :
    Calls Tryd.prog f args w fun e w' => E e ∧ Sep w0 P' Q Z w' := by
  obtain ⟨hb, ⟨o1, o2, h1, h2, hd, k1, k2⟩, hz⟩ := S
  refine (hc (fun k => o1 k ∨ w.heap.size ≤ k) (fun k hk => .inr hk) (oP.mono h1 (fun k hk _ => .inl hk))).mono ?_
  rintro e w' ⟨hE, hP, hf⟩
  refine ⟨hE, hb.trans (hf.below (fun k hk => ?_) hb.size), ⟨fun k => (o1 k ∨ w.heap.size ≤ k) ∧ k < w'.heap.size, o2, oP'.mono hP (fun k hk hl => ⟨hk, hl⟩), oQ.foot h2 hf (fun k hk hl h => ?_), fun k hk h => ?_, fun k hk => ?_, fun k hk => ?_⟩, fun z e => ⟨(hz z e).1, (hf.k z.1 (blk_lt (hz z e).2) (fun h => ?_)).trans (hz z e).2⟩⟩
  · rcases hk with hk | hk
    · exact (k1 k hk).1
    · exact Nat.le_trans hb.size hk
  · rcases h with h | h
    · exact hd k h hk
    · omega
  · rcases hk.1 with h' | h'
    · exact hd k h' h
    · have := (k2 k h).2.1; omega
  · refine ⟨?_, hk.2, fun z e => ?_⟩
    · rcases hk.1 with hk | hk
      · exact (k1 k hk).1
      · exact Nat.le_trans hb.size hk
    · rcases hk.1 with hk | hk
      · exact (k1 k hk).2.2 z e
      · have := blk_lt (hz z e).2; omega
  · exact ⟨(k2 k hk).1, Nat.lt_of_lt_of_le (k2 k hk).2.1 hf.b.size, (k2 k hk).2.2⟩
  · rcases h with h | h
    · exact (k1 _ h).2.2 z e rfl
    · have := blk_lt (hz z e).2; omega
theorem Sep.call2 (S : Sep w0 P Q Z w) (oP : Ow P) (oQ : Ow Q) (oQ' : Ow Q') (hc : ∀ ok, (∀ k, w.heap.size ≤ k → ok k) → Q ok w → Calls Tryd.prog f args w fun e w' => E e ∧ Q' ok w' ∧ Foot ok w w') :
    Calls Tryd.prog f args w fun e w' => E e ∧ Sep w0 P Q' Z w' :=
  (S.swap.call1 oQ oQ' oP hc).mono (fun e w' h => ⟨h.1, h.2.swap⟩)
/-- A new one is made. -/
theorem Sep.one (hb : Below w0.heap.size w0 w) {o : Nat → Prop} (oP : Ow P) (h : P o w) (ho : ∀ k, o k → w0.heap.size ≤ k) : Sep w0 P (fun _ _ => True) none w :=
  ⟨hb, ⟨fun k => o k ∧ k < w.heap.size, fun _ => False, oP.mono h (fun k hk hl => ⟨hk, hl⟩), trivial, fun _ _ h => h, fun k hk => ⟨ho k hk.1, hk.2, fun z e => nomatch e⟩, fun k hk => hk.elim⟩, fun z e => nomatch e⟩
theorem Sep.two (S : Sep w0 P (fun _ _ => True) none w) (oP : Ow P) (oQ : Ow Q) {o : Nat → Prop} (hb : Below w.heap.size w w') (h : Q o w') (ho : ∀ k, o k → w.heap.size ≤ k) : Sep w0 P Q none w' := by
  have S2 := S.below oP ow_true hb
  obtain ⟨o1, _, h1, _, _, k1, _⟩ := S.ex
  refine ⟨S2.hb, ⟨o1, fun k => o k ∧ k < w'.heap.size, oP.foot h1 (Foot.of_below hb : Foot (fun _ => False) w w') (fun _ _ _ h => h), oQ.mono h (fun k hk hl => ⟨hk, hl⟩), fun k hk h2 => ?_, fun k hk => ⟨(k1 k hk).1, Nat.lt_of_lt_of_le (k1 k hk).2.1 hb.size, fun z e => nomatch e⟩, fun k hk => ⟨Nat.le_trans S.hb.size (ho k hk.1), hk.2, fun z e => nomatch e⟩⟩, fun z e => nomatch e⟩
  have := (k1 k hk).2.1
  have := ho k h2.1
  omega
end
section
variable {ok : Nat → Prop} {w : World} {g : Nat} {sz : Int} {s : St} {R : List Bool}
theorem new_wr2 (Z : Int) (h : 4 ≤ Z ∧ Z ≤ 1275) (w1 : World) : Calls Tryd.prog 7 #[.int .i64 Z] w1 fun e w' => ∃ g, e = .returned (.tuple #[.pointer (some ⟨g, 0, none⟩), .int .i64 0]) ∧ WrAt (fun k => w1.heap.size ≤ k) w' g Z Wr.new [] ∧ Below w1.heap.size w1 w' :=
  (new_at Z h w1).mono (fun e w' h => by obtain ⟨g, he, hI, hb⟩ := h; exact ⟨g, he, new_wr hI, hb⟩)
theorem wr_left (H : WrAt ok w g sz s R) (h0 : 0 ≤ sz ∧ sz ≤ 10000) (h1 : s.m ≤ 10000) (h2 : R.length ≤ 100000) :
    Calls Tryd.prog 13 #[.pointer (some ⟨g, 0, none⟩)] w fun e w' => e = .returned (.int .i64 (8 * (sz - 3 - s.m) - R.length)) ∧ WrAt ok w' g sz s R ∧ Foot ok w w' :=
  (left_at ok g sz _ _ _ R w H h0 (by rw [Wr.dig_len]; exact h1) h2).mono (fun e w' h => ⟨by rw [h.1, Wr.dig_len], WrB.below H h.2, Foot.of_below h.2⟩)
theorem wr_raw (H : WrAt ok w g sz s R) (x n : Int) (hx0 : 0 ≤ x) (hx1 : x < 4294967296) (hR : R.length ≤ 50000) (hfr : ∀ k, w.heap.size ≤ k → ok k) :
    Calls Tryd.prog 68 #[.pointer (some ⟨g, 0, none⟩), .int .u32 x, .int .i64 n] w fun e w' => e = .returned (.int .i64 (if Rw x n then 0 else 1)) ∧ WrAt ok w' g sz s (R ++ rawN x n) ∧ Foot ok w w' := raw_any ok g sz _ _ x n _ R w hx0 hx1 hR hfr H
end
section
variable {w0 w w' : World} {P Q : (Nat → Prop) → World → Prop} {Z : Option (Nat × Obj)}
/-- A new block is the box. -/
theorem Sep.fresh (oP : Ow P) (oQ : Ow Q) (S : Sep w0 P Q Z w) (h : Below w.heap.size w w') {g : Nat} {o : Obj} (hg : w.heap.size ≤ g) (ho : w'.heap[g]? = some o) : Sep w0 P Q (some (g, o)) w' := by
  have S2 := S.below oP oQ h
  obtain ⟨o1, o2, h1, h2, hd, k1, k2⟩ := S.ex
  have hf : Foot (fun _ => False) w w' := Foot.of_below h
  refine ⟨S2.hb, ⟨o1, o2, oP.foot h1 hf (fun _ _ _ h => h), oQ.foot h2 hf (fun _ _ _ h => h), hd, fun k hk => ?_, fun k hk => ?_⟩, fun z e => ?_⟩
  · have := k1 k hk; exact ⟨this.1, Nat.lt_of_lt_of_le this.2.1 h.size, fun z e => by injection e with e; subst e; exact Nat.ne_of_lt (Nat.lt_of_lt_of_le this.2.1 hg)⟩
  · have := k2 k hk; exact ⟨this.1, Nat.lt_of_lt_of_le this.2.1 h.size, fun z e => by injection e with e; subst e; exact Nat.ne_of_lt (Nat.lt_of_lt_of_le this.2.1 hg)⟩
  · injection e with e; subst e
    exact ⟨Nat.le_trans S.hb.size hg, ho⟩
/-- The box is written into. -/
theorem Sep.store (oP : Ow P) (oQ : Ow Q) {g j : Nat} {o o' : Obj} {v : Value} (S : Sep w0 P Q (some (g, o)) w) (ho : (w.setCell ⟨g, j, none⟩ v).heap[g]? = some o') : Sep w0 P Q (some (g, o')) (w.setCell ⟨g, j, none⟩ v) := by
  obtain ⟨hb, ⟨o1, o2, h1, h2, hd, k1, k2⟩, hz⟩ := S
  have hg := hz _ rfl
  have hf : Foot (fun k => k = g) w (w.setCell ⟨g, j, none⟩ v) := Foot.set_ (ok := fun k => k = g) (Foot.refl _ w) (p := ⟨g, j, none⟩) rfl v
  have hs := hf.b.size
  refine ⟨hb.setCell (p := ⟨g, j, none⟩) hg.1 v, ⟨o1, o2, oP.foot h1 hf (fun k hk _ e => (k1 k hk).2.2 _ rfl e), oQ.foot h2 hf (fun k hk _ e => (k2 k hk).2.2 _ rfl e), hd, fun k hk => ?_, fun k hk => ?_⟩, fun z e => ?_⟩
  · exact ⟨(k1 k hk).1, Nat.lt_of_lt_of_le (k1 k hk).2.1 hs, fun z e => by injection e with e; subst e; exact (k1 k hk).2.2 (g, o) rfl⟩
  · exact ⟨(k2 k hk).1, Nat.lt_of_lt_of_le (k2 k hk).2.1 hs, fun z e => by injection e with e; subst e; exact (k2 k hk).2.2 (g, o) rfl⟩
  · injection e with e; subst e
    exact ⟨hg.1, ho⟩
end
theorem wf_u16 {n : Int} (h : (Lit.int .u16 n).wf = true) : 0 ≤ n ∧ n < 65536 := by
  have h2 : 0 ≤ n ∧ n ≤ 65535 := by simpa [Lit.wf, IntKind.min, IntKind.max, IntKind.signed, IntKind.bits] using h
  omega
theorem wf_u32 {n : Int} (h : (Lit.int .u32 n).wf = true) : 0 ≤ n ∧ n < 4294967296 := by
  have h2 : 0 ≤ n ∧ n ≤ 4294967295 := by simpa [Lit.wf, IntKind.min, IntKind.max, IntKind.signed, IntKind.bits] using h
  omega
/-- Two writers. -/
def FS (w0 : World) (g1 : Nat) (Z1 : Int) (s1 : St) (R1 : List Bool) (g2 : Nat) (Z2 : Int) (s2 : St) (R2 : List Bool) (zb : Option (Nat × Obj)) (w : World) : Prop :=
  Sep w0 (fun ok w => WrAt ok w g1 Z1 s1 R1) (fun ok w => WrAt ok w g2 Z2 s2 R2) zb w
section
variable {w0 w : World} {g1 g2 : Nat} {Z1 Z2 : Int} {s1 s2 : St} {R1 R2 : List Bool} {zb : Option (Nat × Obj)}
theorem FS.put1 (S : FS w0 g1 Z1 s1 R1 g2 Z2 s2 R2 zb w) (hs : Wr.Fair s1 65537) (hm : s1.m ≤ 900) (a b n : Int) : Calls Tryd.prog 67 #[.pointer (some ⟨g1, 0, none⟩), .int .i64 a, .int .i64 b, .int .i64 n] w fun e w' => e = .returned (.int .i64 (if Rd.ok a b n then 0 else 1)) ∧ FS w0 g1 Z1 (Wr.put s1 a b n) R1 g2 Z2 s2 R2 zb w' :=
  Sep.call1 S (ow_wr g1 Z1 s1 R1) (ow_wr g1 Z1 (Wr.put s1 a b n) R1) (ow_wr g2 Z2 s2 R2) (fun ok hfr H => put_any ok g1 Z1 a b n s1 R1 w hs hm hfr H)
theorem FS.put2 (S : FS w0 g1 Z1 s1 R1 g2 Z2 s2 R2 zb w) (hs : Wr.Fair s2 65537) (hm : s2.m ≤ 900) (a b n : Int) : Calls Tryd.prog 67 #[.pointer (some ⟨g2, 0, none⟩), .int .i64 a, .int .i64 b, .int .i64 n] w fun e w' => e = .returned (.int .i64 (if Rd.ok a b n then 0 else 1)) ∧ FS w0 g1 Z1 s1 R1 g2 Z2 (Wr.put s2 a b n) R2 zb w' :=
  Sep.call2 S (ow_wr g1 Z1 s1 R1) (ow_wr g2 Z2 s2 R2) (ow_wr g2 Z2 (Wr.put s2 a b n) R2) (fun ok hfr H => put_any ok g2 Z2 a b n s2 R2 w hs hm hfr H)
theorem FS.raw1 (S : FS w0 g1 Z1 s1 R1 g2 Z2 s2 R2 zb w) (x n : Int) (h0 : 0 ≤ x) (h1 : x < 4294967296) (hR : R1.length ≤ 50000) : Calls Tryd.prog 68 #[.pointer (some ⟨g1, 0, none⟩), .int .u32 x, .int .i64 n] w fun e w' => e = .returned (.int .i64 (if Rw x n then 0 else 1)) ∧ FS w0 g1 Z1 s1 (R1 ++ rawN x n) g2 Z2 s2 R2 zb w' :=
  Sep.call1 S (ow_wr g1 Z1 s1 R1) (ow_wr g1 Z1 s1 (R1 ++ rawN x n)) (ow_wr g2 Z2 s2 R2) (fun ok hfr H => wr_raw H x n h0 h1 hR hfr)
theorem FS.raw2 (S : FS w0 g1 Z1 s1 R1 g2 Z2 s2 R2 zb w) (x n : Int) (h0 : 0 ≤ x) (h1 : x < 4294967296) (hR : R2.length ≤ 50000) : Calls Tryd.prog 68 #[.pointer (some ⟨g2, 0, none⟩), .int .u32 x, .int .i64 n] w fun e w' => e = .returned (.int .i64 (if Rw x n then 0 else 1)) ∧ FS w0 g1 Z1 s1 R1 g2 Z2 s2 (R2 ++ rawN x n) zb w' :=
  Sep.call2 S (ow_wr g1 Z1 s1 R1) (ow_wr g2 Z2 s2 R2) (ow_wr g2 Z2 s2 (R2 ++ rawN x n)) (fun ok hfr H => wr_raw H x n h0 h1 hR hfr)
theorem FS.box (S : FS w0 g1 Z1 s1 R1 g2 Z2 s2 R2 zb w) (o : Obj) : FS w0 g1 Z1 s1 R1 g2 Z2 s2 R2 (some (w.heap.size, o)) (w.alloc o) := Sep.box (ow_wr g1 Z1 s1 R1) (ow_wr g2 Z2 s2 R2) S o
theorem FS.unbox (S : FS w0 g1 Z1 s1 R1 g2 Z2 s2 R2 zb w) : FS w0 g1 Z1 s1 R1 g2 Z2 s2 R2 none w := Sep.unbox S
theorem FS.new (hb : Below w0.heap.size w0 w) {wx wy : World} (h1 : WrAt (fun k => w.heap.size ≤ k) wx g1 Z1 s1 R1) (hbx : Below w.heap.size w wx) (h2 : WrAt (fun k => wx.heap.size ≤ k) wy g2 Z2 s2 R2) (hby : Below wx.heap.size wx wy) : FS w0 g1 Z1 s1 R1 g2 Z2 s2 R2 none wy :=
  Sep.two (Sep.one (below_step hb hbx) (ow_wr g1 Z1 s1 R1) h1 (fun k hk => Nat.le_trans hb.size hk)) (ow_wr g1 Z1 s1 R1) (ow_wr g2 Z2 s2 R2) hby h2 (fun k hk => hk)
end
theorem rawN_len (x n : Int) : (rawN x n).length ≤ 16 := by
  unfold rawN
  split
  · rename_i h; rw [bitsOf_len]; omega
  · simp
theorem rawN_is {x n : Int} (h : Rw x n) : ((rawN x n).length : Int) = n := by
  unfold rawN; rw [if_pos h, bitsOf_len]; omega
section
variable {w : World} {gp Z : Nat} {P1 : List Int} {ok : Nat → Prop}
end
end Go.Proofs.YtjmoklebimejaaaDoor.WrLaw
