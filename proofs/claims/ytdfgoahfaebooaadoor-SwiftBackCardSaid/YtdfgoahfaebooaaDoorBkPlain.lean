import Derived.Test.YtdfgoahfaebooaaDoorWrSep
import Derived.Test.YtdfgoahfaebooaaDoorBackPlain
namespace Go.Proofs.YtdfgoahfaebooaaDoor.WrLaw
open Go.RowKit Go.Proofs.YtdfgoahfaebooaaDoorW.PrintWords Go.Proofs.YtdfgoahfaebooaaDoorW.PrintLast Go.Proofs.YtdfgoahfaebooaaDoorW.PrintMore
open Go.Proofs.YtdfgoahfaebooaaDoor.Wr (St)
open Go.Proofs.YtdfgoahfaebooaaDoor.WrWalk
open Go.Proofs.YtdfgoahfaebooaaDoor.Pack (pk bitsOf bitsOf_len pk_in pk_digits raw_back pk_len)
open Go.Proofs.YtdfgoahfaebooaaDoor.Back (Rel rel_put rel_new)
set_option linter.unusedVariables false
set_option linter.unusedSimpArgs false
def opS (s : St) (o : S51) : St := if o.f0 % 2 = 0 then Wr.put s o.f1 o.f2 o.f3 else s
def opR (R : List Bool) (o : S51) : List Bool := if o.f0 % 2 = 0 then R else R ++ rawN o.f4 o.f2
def runS (L : List S51) : St := L.foldl opS Wr.new
def runR (L : List S51) : List Bool := L.foldl opR []
def okO (o : S51) : Prop := 0 ≤ o.f0 ∧ 0 ≤ o.f4 ∧ if o.f0 % 2 = 0 then Rd.ok o.f1 o.f2 o.f3 else Rw o.f4 o.f2
theorem runS_app (L : List S51) (o : S51) : runS (L ++ [o]) = opS (runS L) o := by simp [runS]
theorem runR_app (L : List S51) (o : S51) : runR (L ++ [o]) = opR (runR L) o := by simp [runR]
theorem opS_fair {s : St} (h : Wr.Fair s 65537) (o : S51) : Wr.Fair (opS s o) 65537 ∧ (opS s o).m ≤ s.m + 2 := by
  unfold opS
  split
  · exact ⟨Wr.put_fair h _ _ _, (Wr.put_m s _ _ _).2⟩
  · exact ⟨h, by omega⟩
theorem opR_len (R : List Bool) (o : S51) : (opR R o).length ≤ R.length + 16 := by
  unfold opR
  split
  · omega
  · have := rawN_len o.f4 o.f2; rw [List.length_append]; omega
theorem fold_fair : ∀ (L : List S51) (s : St) (R : List Bool), Wr.Fair s 65537 → Wr.Fair (L.foldl opS s) 65537 ∧ (L.foldl opS s).m ≤ s.m + 2 * L.length ∧ (L.foldl opR R).length ≤ R.length + 16 * L.length
  | [], s, R, h => ⟨h, by simp, by simp⟩
  | o :: L, s, R, h => by
    have h1 := opS_fair h o
    have h2 := opR_len R o
    have h3 := fold_fair L (opS s o) (opR R o) h1.1
    rw [List.foldl_cons, List.foldl_cons, List.length_cons]
    exact ⟨h3.1, by omega, by omega⟩
theorem run_fair (L : List S51) : Wr.Fair (runS L) 65537 ∧ (runS L).m ≤ 2 * L.length ∧ (runR L).length ≤ 16 * L.length := by
  have h := fold_fair L Wr.new [] Wr.new_fair
  simp only [List.length_nil, Nat.zero_add] at h
  refine ⟨h.1, ?_, h.2.2⟩
  have h2 := h.2.1
  simp only [Wr.new, Nat.zero_add] at h2
  exact h2
theorem fold_in : ∀ (l : List S51) (s : St), Wr.Fair s 65537 → Wr.In (l.foldl opS s) s
  | [], s, _ => Wr.In.refl s
  | o :: l, s, h => by
    have h2 := fold_in l (opS s o) (opS_fair h o).1
    rw [List.foldl_cons]
    unfold opS at h2 ⊢
    split at h2
    · rename_i hk
      rw [if_pos hk]
      exact Wr.in_put h h2
    · rename_i hk
      rw [if_neg hk]
      exact h2
theorem fold_app : ∀ (l : List S51) (R : List Bool), ∃ rest, l.foldl opR R = R ++ rest
  | [], R => ⟨[], by simp⟩
  | o :: l, R => by
    obtain ⟨rest, h⟩ := fold_app l (opR R o)
    rw [List.foldl_cons, h]
    unfold opR
    split
    · exact ⟨rest, rfl⟩
    · exact ⟨_, List.append_assoc _ _ _⟩
theorem run_in (L L2 : List S51) : Wr.In (runS (L ++ L2)) (runS L) := by
  have h := fold_in L2 (runS L) (run_fair L).1
  unfold runS at *
  rw [List.foldl_append]
  exact h
theorem runR_more (L L2 : List S51) : ∃ rest, runR (L ++ L2) = runR L ++ rest := by
  obtain ⟨rest, h⟩ := fold_app L2 (runR L)
  unfold runR at *
  rw [List.foldl_append]
  exact ⟨rest, h⟩
/-- A reader's next state. -/
def rdO (B : List Int) (r : Rd.St) (o : S51) : Rd.St := if o.f0 % 2 = 0 then Rd.take B r o.f1 o.f2 o.f3 else ⟨r.t, r.r + Rd.cl o.f2, r.g, r.v⟩
theorem read_step {Z : Nat} {L L2 : List S51} {o : S51} {F : St} {RF : List Bool} (hF : runS (L ++ o :: L2) = F) (hRF : runR (L ++ o :: L2) = RF) (hk : okO o) (hfit : Fits Z F.m RF.length) {r : Rd.St} (hr : Rel F r (runS L)) (hrr : r.r = (runR L).length) :
    Rel F (rdO (pk Z F.m F.V RF) r o) (runS (L ++ [o])) ∧ (rdO (pk Z F.m F.V RF) r o).r = (runR (L ++ [o])).length ∧ (o.f0 % 2 = 0 → o.f1 ≤ Rd.get r o.f3 ∧ Rd.get r o.f3 < o.f2) ∧ (¬ o.f0 % 2 = 0 → Rd.raw (pk Z F.m F.V RF) r.r (Rd.cl o.f2) = o.f4) := by
  have hg : 0 < F.g := by rw [← hF]; have := (run_fair (L ++ o :: L2)).1.g0; omega
  have hin : Wr.In F (opS (runS L) o) := by
    have h := run_in (L ++ [o]) L2
    rw [runS_app, List.append_assoc, List.singleton_append, hF] at h
    exact h
  obtain ⟨k0, k4, hk⟩ := hk
  rw [runS_app, runR_app]
  unfold rdO
  by_cases h : o.f0 % 2 = 0
  · rw [if_pos h] at hk ⊢
    unfold opS at hin ⊢
    unfold opR
    rw [if_pos h] at hin
    rw [if_pos h, if_pos h]
    obtain ⟨h1, h2⟩ := rel_put (pk_digits hfit) hg (run_fair L).1 hr hk hin
    exact ⟨h1, by rw [Rd.take_r]; exact hrr, fun _ => h2, fun hn => absurd h hn⟩
  · rw [if_neg h] at hk ⊢
    unfold opS opR
    rw [if_neg h, if_neg h]
    have hcl : Rd.cl o.f2 = o.f2.toNat := by unfold Rd.cl; have := hk.1; have := hk.2.1; omega
    refine ⟨⟨hr.t, hr.g, hr.v⟩, ?_, fun hp => absurd hp h, fun _ => ?_⟩
    · show r.r + Rd.cl o.f2 = _
      rw [List.length_append, hrr, hcl]
      unfold rawN
      rw [if_pos hk, bitsOf_len]
    · obtain ⟨rest, hrest⟩ := runR_more (L ++ [o]) L2
      rw [List.append_assoc, List.singleton_append, hRF, runR_app] at hrest
      unfold opR at hrest
      rw [if_neg h] at hrest
      unfold rawN at hrest
      rw [if_pos hk] at hrest
      subst hrest
      rw [hrr, hcl]
      exact raw_back (runR L) rest o.f4 o.f2.toNat k4 hk.2.2 hfit
theorem read_new {Z : Nat} {L : List S51} {F : St} {RF : List Bool} (hF : runS L = F) (hfit : Fits Z F.m RF.length) : Rel F (Rd.new (pk Z F.m F.V RF)) (runS []) := by
  have hf := (run_fair L).1
  rw [hF] at hf
  refine rel_new (pk_digits hfit) (by have := hf.g0; omega) hf.v0 ?_
  have h := run_in [] L
  rw [List.nil_append, hF] at h
  exact h
section
variable {w0 w : World} {P Q : (Nat → Prop) → World → Prop} {Z : Option (Nat × Obj)}
/-- The second one is laid open; whatever is done to it. -/
theorem Sep.open2 (S : Sep w0 P Q Z w) (oP : Ow P) (oQ : Ow Q) : ∃ ok, (∀ k, w.heap.size ≤ k → ok k) ∧ Q ok w ∧ ∀ (Q' : (Nat → Prop) → World → Prop) (w' : World), Ow Q' → Q' ok w' → Foot ok w w' → Sep w0 P Q' Z w' := by
  obtain ⟨hb, ⟨o1, o2, h1, h2, hd, k1, k2⟩, hz⟩ := S
  refine ⟨fun k => o2 k ∨ w.heap.size ≤ k, fun k hk => .inr hk, oQ.mono h2 (fun k hk _ => .inl hk), fun Q' w' oQ' hQ hf => ?_⟩
  refine ⟨hb.trans (hf.below (fun k hk => ?_) hb.size), ⟨o1, fun k => (o2 k ∨ w.heap.size ≤ k) ∧ k < w'.heap.size, oP.foot h1 hf (fun k hk hl h => ?_), oQ'.mono hQ (fun k hk hl => ⟨hk, hl⟩), fun k hk h => ?_, fun k hk => ?_, fun k hk => ?_⟩, fun z e => ⟨(hz z e).1, (hf.k z.1 (blk_lt (hz z e).2) (fun h => ?_)).trans (hz z e).2⟩⟩
  · rcases hk with hk | hk
    · exact (k2 k hk).1
    · exact Nat.le_trans hb.size hk
  · rcases h with h | h
    · exact hd k hk h
    · omega
  · rcases h.1 with h' | h'
    · exact hd k hk h'
    · have := (k1 k hk).2.1; omega
  · exact ⟨(k1 k hk).1, Nat.lt_of_lt_of_le (k1 k hk).2.1 hf.b.size, (k1 k hk).2.2⟩
  · refine ⟨?_, hk.2, fun z e => ?_⟩
    · rcases hk.1 with hk | hk
      · exact (k2 k hk).1
      · exact Nat.le_trans hb.size hk
    · rcases hk.1 with hk | hk
      · exact (k2 k hk).2.2 z e
      · have := blk_lt (hz z e).2; omega
  · rcases h with h | h
    · exact (k2 _ h).2.2 z e rfl
    · have := blk_lt (hz z e).2; omega
end
theorem ow_row {α : Type} (d : Kd α) (e : Nat) (v : Value) (L : List α) : Ow (fun ok w => Kd.R d e w 0 ok v L) := ⟨fun h hk => Kd.R_mono (Kd.R_bound h) (fun k hk' => hk k hk'.1 hk'.2.2.1), fun h hf hd => Kd.R_step h (fun k hk hlt => hf.k k hlt (hd k hk hlt))⟩
end Go.Proofs.YtdfgoahfaebooaaDoor.WrLaw
