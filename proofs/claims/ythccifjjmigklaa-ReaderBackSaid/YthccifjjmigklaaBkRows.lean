import Derived.Test.YthccifjjmigklaaBkPlain
namespace Go.Proofs.Ythccifjjmigklaa.WrLaw
open Go.RowKit Go.Proofs.YthccifjjmigklaaW.PrintWords Go.Proofs.YthccifjjmigklaaW.PrintLast Go.Proofs.YthccifjjmigklaaW.PrintMore
open Go.Proofs.Ythccifjjmigklaa.Wr (St)
open Go.Proofs.Ythccifjjmigklaa.WrWalk
set_option linter.unusedVariables false
set_option linter.unusedSimpArgs false
/-- What was put, what was left, the ranges: three rows. -/
def R3 (vp vl vr : Value) (L : List S51) (LL GG : List Int) (ok : Nat → Prop) (w : World) : Prop := Kd.R k51 51 w 0 ok vp L ∧ Kd.R (Kd.int .i64) 3 w 0 ok vl LL ∧ Kd.R (Kd.int .u32) 32 w 0 ok vr GG
theorem ow_r3 (vp vl vr : Value) (L : List S51) (LL GG : List Int) : Ow (R3 vp vl vr L LL GG) := ⟨fun h hk => ⟨(ow_row k51 51 vp L).mono h.1 hk, (ow_row (Kd.int .i64) 3 vl LL).mono h.2.1 hk, (ow_row (Kd.int .u32) 32 vr GG).mono h.2.2 hk⟩, fun h hf hd => ⟨(ow_row k51 51 vp L).foot h.1 hf hd, (ow_row (Kd.int .i64) 3 vl LL).foot h.2.1 hf hd, (ow_row (Kd.int .u32) 32 vr GG).foot h.2.2 hf hd⟩⟩
theorem infoO : (Try.prog.info? 51).map (fun i => (i.zero, i.size, i.bytes)) = some (some (.agg #[.int .u8 0, .int .i64 0, .int .i64 0, .int .i64 0, .int .u32 0]), 5, 40) := by kernel_rfl
theorem ne_types {e e' : Nat} {E : List Nat} (hE : E = []) (h : e ≠ e') : ∀ q, q ∈ e :: E → q ≠ e' := fun q hq => by
  subst hE
  rcases List.mem_cons.1 hq with h1 | h1
  · exact h1 ▸ h
  · exact nomatch (show q ∈ ([] : List Nat) from h1)
section
variable {w0 W : World} {P : (Nat → Prop) → World → Prop} {Z : Option (Nat × Obj)} {vp vl vr : Value} {L : List S51} {LL GG : List Int}
variable {ops : Array Oper} {rest : List Oper} {o : Oper} {a : Act} {Q : Exit → Act → World → Prop}
theorem app_put (S : Sep w0 P (R3 vp vl vr L LL GG) Z W) (oP : Ow P) (hgd : o.guard = none) (s x : Operand) (ho : o.op = .call { callee := .builtin .append, args := #[s, x], argTypes := #[43, 43] }) (hs : a.eval s = vp) (hx : a.eval x = .slice (some ⟨W.heap.size, 0, none⟩) 1 1) (p : S51) (hl : L.length ≤ 10000)
    (h : ∀ v1 w1, Sep w0 P (R3 v1 vl vr (L ++ [p]) LL GG) Z w1 → wpList Try.prog ops Q rest (a.put o.dst v1) w1) : wpList Try.prog ops Q (o :: rest) a (W.alloc (.cells [.int .u8 p.f0, .int .i64 p.f1, .int .i64 p.f2, .int .i64 p.f3, .int .u32 p.f4].toArray 51)) := by
  obtain ⟨ok, hfr, hq, hst⟩ := S.open2 oP (ow_r3 vp vl vr L LL GG)
  refine Kd.R_append k51 (w0 := W) 0 hgd s x 43 51 (.agg #[.int .u8 0, .int .i64 0, .int .i64 0, .int .i64 0, .int .u32 0]) 40 ho Try.underlying43 infoO rfl (by decide) (by decide) vp L p [.int .u8 p.f0, .int .i64 p.f1, .int .i64 p.f2, .int .i64 p.f3, .int .u32 p.f4] ok (fun _ => False) hs hx (k51_mkM W 0 (fun _ => False) p) (fun _ hk => hk.elim) hfr hq.1 (Below.refl 0 W) (Nat.zero_le _) (by omega) ?_
  intro v1 w1 hR hb hg hat
  exact h v1 w1 (hst _ w1 (ow_r3 v1 vl vr (L ++ [p]) LL GG) ⟨hR, Kd.R_over hq.2.1 hq.1 (ne_types rfl (by decide)) hg, Kd.R_over hq.2.2 hq.1 (ne_types rfl (by decide)) hg⟩ (Foot.grown (Foot.refl ok W) hb hg (fun k hk => hq.1.1 k hk)))
theorem infoI : (Try.prog.info? 3).map (fun i => (i.zero, i.size, i.bytes)) = some (some (.int .i64 0), 1, 8) := by kernel_rfl
theorem infoU : (Try.prog.info? 32).map (fun i => (i.zero, i.size, i.bytes)) = some (some (.int .u32 0), 1, 4) := by kernel_rfl
theorem app_left (S : Sep w0 P (R3 vp vl vr L LL GG) Z W) (oP : Ow P) (hgd : o.guard = none) (s x : Operand) (ho : o.op = .call { callee := .builtin .append, args := #[s, x], argTypes := #[48, 48] }) (hs : a.eval s = vl) (hx : a.eval x = .slice (some ⟨W.heap.size, 0, none⟩) 1 1) (p : Int) (hl : LL.length ≤ 10000)
    (h : ∀ v1 w1, Sep w0 P (R3 vp v1 vr L (LL ++ [p]) GG) Z w1 → wpList Try.prog ops Q rest (a.put o.dst v1) w1) : wpList Try.prog ops Q (o :: rest) a (W.alloc (.cells [.int .i64 p].toArray 3)) := by
  obtain ⟨ok, hfr, hq, hst⟩ := S.open2 oP (ow_r3 vp vl vr L LL GG)
  refine Kd.R_append (Kd.int .i64) (w0 := W) 0 hgd s x 48 3 (.int .i64 0) 8 ho Try.underlying48 infoI rfl (by decide) (by decide) vl LL p [.int .i64 p] ok (fun _ => False) hs hx rfl (fun _ hk => hk.elim) hfr hq.2.1 (Below.refl 0 W) (Nat.zero_le _) (by omega) ?_
  intro v1 w1 hR hb hg hat
  exact h v1 w1 (hst _ w1 (ow_r3 vp v1 vr L (LL ++ [p]) GG) ⟨Kd.R_over hq.1 hq.2.1 (ne_types rfl (by decide)) hg, hR, Kd.R_over hq.2.2 hq.2.1 (ne_types rfl (by decide)) hg⟩ (Foot.grown (Foot.refl ok W) hb hg (fun k hk => hq.2.1.1 k hk)))
theorem app_rng (S : Sep w0 P (R3 vp vl vr L LL GG) Z W) (oP : Ow P) (hgd : o.guard = none) (s x : Operand) (ho : o.op = .call { callee := .builtin .append, args := #[s, x], argTypes := #[49, 49] }) (hs : a.eval s = vr) (hx : a.eval x = .slice (some ⟨W.heap.size, 0, none⟩) 1 1) (p : Int) (hl : GG.length ≤ 10000)
    (h : ∀ v1 w1, Sep w0 P (R3 vp vl v1 L LL (GG ++ [p])) Z w1 → wpList Try.prog ops Q rest (a.put o.dst v1) w1) : wpList Try.prog ops Q (o :: rest) a (W.alloc (.cells [.int .u32 p].toArray 32)) := by
  obtain ⟨ok, hfr, hq, hst⟩ := S.open2 oP (ow_r3 vp vl vr L LL GG)
  refine Kd.R_append (Kd.int .u32) (w0 := W) 0 hgd s x 49 32 (.int .u32 0) 4 ho Try.underlying49 infoU rfl (by decide) (by decide) vr GG p [.int .u32 p] ok (fun _ => False) hs hx rfl (fun _ hk => hk.elim) hfr hq.2.2 (Below.refl 0 W) (Nat.zero_le _) (by omega) ?_
  intro v1 w1 hR hb hg hat
  exact h v1 w1 (hst _ w1 (ow_r3 vp vl v1 L LL (GG ++ [p])) ⟨Kd.R_over hq.1 hq.2.2 (ne_types rfl (by decide)) hg, Kd.R_over hq.2.1 hq.2.2 (ne_types rfl (by decide)) hg, hR⟩ (Foot.grown (Foot.refl ok W) hb hg (fun k hk => hq.2.2.1 k hk)))
end
end Go.Proofs.Ythccifjjmigklaa.WrLaw
