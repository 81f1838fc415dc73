import Derived.Test.YtdfgoahfaebooaaDoorBkPlain
namespace Go.Proofs.YtdfgoahfaebooaaDoor.WrLaw
open Go.RowKit Go.Proofs.YtdfgoahfaebooaaDoorW.PrintWords Go.Proofs.YtdfgoahfaebooaaDoorW.PrintLast Go.Proofs.YtdfgoahfaebooaaDoorW.PrintMore
open Go.Proofs.YtdfgoahfaebooaaDoor.Wr (St)
open Go.Proofs.YtdfgoahfaebooaaDoor.WrWalk
set_option linter.unusedVariables false
set_option linter.unusedSimpArgs false
def R3 (vp vl vr : Value) (L : List S51) (LL GG : List Int) (ok : Nat → Prop) (w : World) : Prop := Kd.R k51 51 w 0 ok vp L
theorem ow_r3 (vp vl vr : Value) (L : List S51) (LL GG : List Int) : Ow (R3 vp vl vr L LL GG) := ow_row k51 51 vp L
theorem infoO : (Tryd.prog.info? 51).map (fun i => (i.zero, i.size, i.bytes)) = some (some (.agg #[.int .u8 0, .int .i64 0, .int .i64 0, .int .i64 0, .int .u32 0]), 5, 40) := by kernel_rfl
theorem ne_types {e e' : Nat} {E : List Nat} (hE : E = []) (h : e ≠ e') : ∀ q, q ∈ e :: E → q ≠ e' := fun q hq => by
  subst hE
  rcases List.mem_cons.1 hq with h1 | h1
  · exact h1 ▸ h
  · exact nomatch (show q ∈ ([] : List Nat) from h1)
section
variable {w0 W : World} {P : (Nat → Prop) → World → Prop} {Z : Option (Nat × Obj)} {vp vl vr : Value} {L : List S51} {LL GG : List Int}
variable {ops : Array Oper} {rest : List Oper} {o : Oper} {a : Act} {Q : Exit → Act → World → Prop}
theorem app_put (S : Sep w0 P (R3 vp vl vr L LL GG) Z W) (oP : Ow P) (hgd : o.guard = none) (s x : Operand) (ho : o.op = .call { callee := .builtin .append, args := #[s, x], argTypes := #[45, 45] }) (hs : a.eval s = vp) (hx : a.eval x = .slice (some ⟨W.heap.size, 0, none⟩) 1 1) (p : S51) (hl : L.length ≤ 10000)
    (h : ∀ v1 w1, Sep w0 P (R3 v1 vl vr (L ++ [p]) LL GG) Z w1 → wpList Tryd.prog ops Q rest (a.put o.dst v1) w1) : wpList Tryd.prog ops Q (o :: rest) a (W.alloc (.cells [.int .u8 p.f0, .int .i64 p.f1, .int .i64 p.f2, .int .i64 p.f3, .int .u32 p.f4].toArray 51)) := by
  obtain ⟨ok, hfr, hq, hst⟩ := S.open2 oP (ow_r3 vp vl vr L LL GG)
  refine Kd.R_append k51 (w0 := W) 0 hgd s x 45 51 (.agg #[.int .u8 0, .int .i64 0, .int .i64 0, .int .i64 0, .int .u32 0]) 40 ho Tryd.underlying45 infoO rfl (by decide) (by decide) vp L p [.int .u8 p.f0, .int .i64 p.f1, .int .i64 p.f2, .int .i64 p.f3, .int .u32 p.f4] ok (fun _ => False) hs hx (k51_mkM W 0 (fun _ => False) p) (fun _ hk => hk.elim) hfr hq (Below.refl 0 W) (Nat.zero_le _) (by omega) ?_
  intro v1 w1 hR hb hg hat
  exact h v1 w1 (hst _ w1 (ow_r3 v1 vl vr (L ++ [p]) LL GG) hR (Foot.grown (Foot.refl ok W) hb hg (fun k hk => hq.1 k hk)))
end
end Go.Proofs.YtdfgoahfaebooaaDoor.WrLaw
