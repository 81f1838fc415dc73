import Derived.Test.YtdfgoahfaebooaaDoorSwGet
namespace Go.Proofs.YtdfgoahfaebooaaDoor.SwWalk
open Go.RowKit Go.Proofs.YtdfgoahfaebooaaDoorW.PrintWords Go.Proofs.YtdfgoahfaebooaaDoorW.PrintLast Go.Proofs.YtdfgoahfaebooaaDoorW.PrintMore
open Go.Proofs.YtdfgoahfaebooaaDoor.Rd (St by_ Bytes)
attribute [local go_sem] max2_int min2_int max_two min_two max_three min_three max_four min_four   -- for this text's walks alone
set_option linter.unusedVariables false
set_option linter.unusedSimpArgs false
theorem SwAt.set_val {base g h : Nat} {w : World} {B : List Int} {s : St} (H : SwAt base w g B s h) (x : Int) : SwAt base (w.setCell ⟨g, 5, none⟩ (.int .u32 x)) g B ⟨s.t, s.r, s.g, x⟩ h := by
  obtain ⟨A, c, hg, hge, hR⟩ := H
  exact ⟨A, c, by simpa using blk_set hg 5 (.int .u32 x), hge, Kd.R_mono (Kd.R_keep hR (KeepBut.set_ (KeepBut.refl w g none) 5 _) (fun k hk => hk)) (fun k hk => hk)⟩
theorem SwAt.set_rng {base g h : Nat} {w : World} {B : List Int} {s : St} (H : SwAt base w g B s h) (x : Int) : SwAt base (w.setCell ⟨g, 4, none⟩ (.int .u32 x)) g B ⟨s.t, s.r, x, s.v⟩ h := by
  obtain ⟨A, c, hg, hge, hR⟩ := H
  exact ⟨A, c, by simpa using blk_set hg 4 (.int .u32 x), hge, Kd.R_mono (Kd.R_keep hR (KeepBut.set_ (KeepBut.refl w g none) 4 _) (fun k hk => hk)) (fun k hk => hk)⟩
theorem SwAt.set_taken {base g h : Nat} {w : World} {B : List Int} {s : St} (H : SwAt base w g B s h) (x : Nat) : SwAt base (w.setCell ⟨g, 2, none⟩ (.int .i64 (x : Int))) g B ⟨x, s.r, s.g, s.v⟩ h := by
  obtain ⟨A, c, hg, hge, hR⟩ := H
  exact ⟨A, c, by simpa using blk_set hg 2 (.int .i64 (x : Int)), hge, Kd.R_mono (Kd.R_keep hR (KeepBut.set_ (KeepBut.refl w g none) 2 _) (fun k hk => hk)) (fun k hk => hk)⟩
theorem SwAt.ge {base g h : Nat} {w : World} {B : List Int} {s : St} (H : SwAt base w g B s h) : base ≤ g := by
  obtain ⟨_, _, _, hge, _⟩ := H
  exact hge
end Go.Proofs.YtdfgoahfaebooaaDoor.SwWalk
