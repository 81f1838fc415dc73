import Derived.Test.YthccifjjmigklaaRdOps
namespace Go.Proofs.Ythccifjjmigklaa.RdLaw
open Go.RowKit Go.Proofs.YthccifjjmigklaaW.PrintWords Go.Proofs.YthccifjjmigklaaW.PrintLast Go.Proofs.YthccifjjmigklaaW.PrintMore
open Go.Proofs.Ythccifjjmigklaa.Rd (St by_ Bytes)
open Go.Proofs.Ythccifjjmigklaa.RdWalk
set_option linter.unusedVariables false
set_option linter.unusedSimpArgs false
theorem below_keep {b g : Nat} {w0 w w' : World} (h : Below b w0 w) (hb : Below g w w') (hg : b ≤ g) : Below b w0 w' := h.trans (hb.mono hg)
/-- Two readers side by side. -/
structure Two (b : Nat) (w0 w : World) (g1 g2 : Nat) (B1 B2 : List Int) (s1 s2 : St) : Prop where
  x : RdAt w g1 B1 s1
  y : RdAt w g2 B2 s2
  ne : g1 ≠ g2
  h1 : b ≤ g1
  h2 : b ≤ g2
  hb : Below b w0 w
section
variable {b : Nat} {w0 w w' : World} {g1 g2 : Nat} {B1 B2 : List Int} {s1 s2 s' : St}
theorem Two.at1 (T : Two b w0 w g1 g2 B1 B2 s1 s2) (hI : RdAt w' g1 B1 s') (hb : Below g1 w w') (hk : KeepBut w w' g1 none) : Two b w0 w' g1 g2 B1 B2 s' s2 :=
  ⟨hI, T.y.move hk (Ne.symm T.ne) T.x.noByte, T.ne, T.h1, T.h2, below_keep T.hb hb T.h1⟩
theorem Two.at2 (T : Two b w0 w g1 g2 B1 B2 s1 s2) (hI : RdAt w' g2 B2 s') (hb : Below g2 w w') (hk : KeepBut w w' g2 none) : Two b w0 w' g1 g2 B1 B2 s1 s' :=
  ⟨T.x.move hk T.ne T.y.noByte, hI, T.ne, T.h1, T.h2, below_keep T.hb hb T.h2⟩
theorem Two.below (T : Two b w0 w g1 g2 B1 B2 s1 s2) (hb : Below w.heap.size w w') : Two b w0 w' g1 g2 B1 B2 s1 s2 :=
  ⟨T.x.below hb, T.y.below hb, T.ne, T.h1, T.h2, T.hb.trans (hb.mono (by have := at_lt T.x; have := T.h1; omega))⟩
theorem Two.lt1 (T : Two b w0 w g1 g2 B1 B2 s1 s2) : g1 < w.heap.size := at_lt T.x
theorem Two.lt2 (T : Two b w0 w g1 g2 B1 B2 s1 s2) : g2 < w.heap.size := at_lt T.y
end
def ex : List Int := [128, 0, 0, 0]
theorem ex_get : Rd.get (Rd.new ex) 2 = 1 := by decide
set_option maxHeartbeats 2000000 in
set_option maxRecDepth 100000 in
theorem awake_any (w : World) : Calls Try.prog 8 #[] w fun e w' => e = .returned (.bool true) ∧ Below w.heap.size w w' := by
  have HB := Aside0.mk (Below.refl w.heap.size w)
  have HO : Aside0 (Kd.R (Kd.int .u8) 5 (w.alloc (Obj.cells #[.int .u8 128, .int .u8 0, .int .u8 0, .int .u8 0] 5)) w.heap.size (fun _ => True) (.slice (some ⟨w.heap.size, 0, none⟩) 4 4) ex) := ⟨Kd.R_of_own (own_lit w w.heap.size 5 .u8 ex (Nat.le_refl _) (by decide)) (fun _ _ => trivial)⟩
  have hx := Aside0.mk (Rd.new_good (B := ex) (by decide))
  have he := Aside0.mk ex_get
  go_enter Try.func8, Try.ntmps8
  go_wp2_with (first
    | (go_at_call 9; (with_reducible refine (rd_new ex 4 rfl (by decide) (by decide) _ 4 _ (clone_in (w := w) HO.out rfl) (by decide)).mono ?_); rintro e w1 ⟨g, rfl, hI, hg, hb⟩; have HI := Aside0.mk hI; have HG := Aside0.mk hg; have HB1 := Aside0.mk (below_step (below_alloc HB.out _) hb); clear hI hb hg)
    | (go_at_call 10; (with_reducible refine (rd_get hx.out 2 HI.out).mono ?_); rintro e w2 ⟨rfl, hI, hb, hk⟩; have HB2 := Aside0.mk (below_keep HB1.out hb (Nat.le_trans (by simp) HG.out)); clear hI hb hk))
  go_ret
  exact ⟨congrArg Ending.returned (congrArg Value.bool (by rw [he.out]; rfl)), HB2.out⟩
end Go.Proofs.Ythccifjjmigklaa.RdLaw
