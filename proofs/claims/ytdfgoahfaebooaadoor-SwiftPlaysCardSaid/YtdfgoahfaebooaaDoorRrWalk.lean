import Derived.Test.YtdfgoahfaebooaaDoorRdFace
import Derived.Test.YtdfgoahfaebooaaDoorOSwiftPlaysx1
namespace Go.Proofs.YtdfgoahfaebooaaDoor.RrWalk
open Go.RowKit Go.Proofs.YtdfgoahfaebooaaDoorW.PrintWords Go.Proofs.YtdfgoahfaebooaaDoorW.PrintLast Go.Proofs.YtdfgoahfaebooaaDoorW.PrintMore
open Go.Proofs.YtdfgoahfaebooaaDoor.Rd (St by_ Bytes)
open Go.Proofs.YtdfgoahfaebooaaDoor.RdWalk (wrap_u32 cutW cut_size cut_get cut_below NoByte left w64n tdiv8 tmod8)
attribute [local go_sem] max2_int min2_int max_two min_two max_three min_three max_four min_four   -- for this text's walks alone
set_option linter.unusedVariables false
set_option linter.unusedSimpArgs false
abbrev At (w0 w : World) (g : Nat) (B : List Int) (s : St) : Prop := OSwiftPlays.IsS39 w0 w g B s.t s.r s.g s.v
theorem byte_is (B : List Int) (hB : Bytes B) (i : Nat) (t r G V : Int) : OSwiftPlays.spinetref07_Reader_byte.f B t r G V i = some (by_ B i, t, r, G, V) := by
  have hb := Rd.by_in hB i
  unfold OSwiftPlays.spinetref07_Reader_byte.f
  rw [if_neg (by omega)]
  split
  · have : by_ B i = 0 := by unfold by_; rw [List.getD_eq_getElem?_getD, List.getElem?_eq_none (by omega)]; rfl
    rw [this]
  · rw [if_pos (by omega), if_pos (by omega)]
    have e3 : rd B (i : Int) = by_ B i := rfl
    rw [e3, w64n (by omega) (by omega)]
theorem byte_any (g : Nat) (B : List Int) (hB : Bytes B) (s : St) (i : Nat) (w0 w : World) (hI : At w0 w g B s) (hb : Below w0.heap.size w0 w) :
    Calls Tryd.prog 38 #[.pointer (some ⟨g, 0, none⟩), .int .i64 i] w fun e w' => e = .returned (.int .i64 (by_ B i)) ∧ At w0 w' g B s ∧ Below w0.heap.size w0 w' ∧ KeepBut w w' g none :=
  OSwiftPlays.spinetref07_Reader_byte.calls g B s.t s.r s.g s.v i _ _ _ _ _ w0 w hI hb (byte_is B hB i s.t s.r s.g s.v)
theorem byte_neg (g : Nat) (B : List Int) (s : St) (i : Int) (hi : i < 0) (w0 w : World) (hI : At w0 w g B s) (hb : Below w0.heap.size w0 w) :
    Calls Tryd.prog 38 #[.pointer (some ⟨g, 0, none⟩), .int .i64 i] w fun e w' => e = .returned (.int .i64 0) ∧ At w0 w' g B s ∧ Below w0.heap.size w0 w' ∧ KeepBut w w' g none :=
  OSwiftPlays.spinetref07_Reader_byte.calls g B s.t s.r s.g s.v i _ _ _ _ _ w0 w hI hb (by unfold OSwiftPlays.spinetref07_Reader_byte.f; rw [if_pos hi])
theorem at_cells {w0 w : World} {g : Nat} {B : List Int} {s : St} (h : At w0 w g B s) : w.cell? ⟨g, 1, none⟩ = some (.int .i64 s.t) ∧ w.cell? ⟨g, 2, none⟩ = some (.int .i64 s.r) ∧ w.cell? ⟨g, 3, none⟩ = some (.int .i64 s.g) ∧ w.cell? ⟨g, 4, none⟩ = some (.int .i64 s.v) ∧
    w.frozen? ⟨g, 1, none⟩ = false ∧ w.frozen? ⟨g, 2, none⟩ = false ∧ w.frozen? ⟨g, 3, none⟩ = false ∧ w.frozen? ⟨g, 4, none⟩ = false := by
  obtain ⟨A1, c1, hg1, _, _⟩ := h
  exact ⟨OSwiftPlays.cellS39_1 hg1, OSwiftPlays.cellS39_2 hg1, OSwiftPlays.cellS39_3 hg1, OSwiftPlays.cellS39_4 hg1, blk_frozen hg1 1, blk_frozen hg1 2, blk_frozen hg1 3, blk_frozen hg1 4⟩
set_option maxHeartbeats 2000000 in
set_option maxRecDepth 100000 in
theorem new_at (B : List Int) (m : Nat) (hm : B.length = m) (hB : Bytes B) (A : Option Addr) (c : Nat) (w : World) (hC : Kd.C (Kd.int .u8) w A m B) :
    Calls Tryd.prog 34 #[.slice A m c] w fun e w' => e = .returned (.pointer (some ⟨w.heap.size, 0, none⟩)) ∧ At w w' w.heap.size B (Rd.new B) ∧ Below w.heap.size w w' := by
  have HI : Aside0 (At w (w.alloc (.cells #[.slice A m c, .int .i64 3, .int .i64 0, .int .i64 16777216, .int .i64 0] 39)) w.heap.size B ⟨3, 0, 16777216, 0⟩) := ⟨by
    subst hm
    exact OSwiftPlays.IsS39.new w w A c B 3 0 16777216 0 (Below.refl _ _) hC⟩
  have HW : Aside0 (Below w.heap.size w (w.alloc (.cells #[.slice A m c, .int .i64 3, .int .i64 0, .int .i64 16777216, .int .i64 0] 39))) := ⟨below_alloc (Below.refl _ _) _⟩
  have hb0 := Rd.by_in hB 0
  have hb1 := Rd.by_in hB 1
  have hb2 := Rd.by_in hB 2
  have hnew : Rd.new B = ⟨3, 0, 16777216, by_ B 0 * 65536 + by_ B 1 * 256 + by_ B 2⟩ := rfl
  have H0 : Aside0 (∀ w1, At w w1 w.heap.size B ⟨3, 0, 16777216, 0⟩ → Below w.heap.size w w1 → Calls Tryd.prog 38 #[.pointer (some ⟨w.heap.size, 0, none⟩), .int .i64 0] w1 fun e w' => e = .returned (.int .i64 (by_ B 0)) ∧ At w w' w.heap.size B ⟨3, 0, 16777216, 0⟩ ∧ Below w.heap.size w w') := ⟨fun w1 hI hb => (byte_any w.heap.size B hB _ 0 w w1 hI hb).mono (fun e w' h => ⟨h.1, h.2.1, h.2.2.1⟩)⟩
  have H1 : Aside0 (∀ w1, At w w1 w.heap.size B ⟨3, 0, 16777216, 0⟩ → Below w.heap.size w w1 → Calls Tryd.prog 38 #[.pointer (some ⟨w.heap.size, 0, none⟩), .int .i64 1] w1 fun e w' => e = .returned (.int .i64 (by_ B 1)) ∧ At w w' w.heap.size B ⟨3, 0, 16777216, 0⟩ ∧ Below w.heap.size w w') := ⟨fun w1 hI hb => (byte_any w.heap.size B hB _ 1 w w1 hI hb).mono (fun e w' h => ⟨h.1, h.2.1, h.2.2.1⟩)⟩
  have H2 : Aside0 (∀ w1, At w w1 w.heap.size B ⟨3, 0, 16777216, 0⟩ → Below w.heap.size w w1 → Calls Tryd.prog 38 #[.pointer (some ⟨w.heap.size, 0, none⟩), .int .i64 2] w1 fun e w' => e = .returned (.int .i64 (by_ B 2)) ∧ At w w' w.heap.size B ⟨3, 0, 16777216, 0⟩ ∧ Below w.heap.size w w') := ⟨fun w1 hI hb => (byte_any w.heap.size B hB _ 2 w w1 hI hb).mono (fun e w' h => ⟨h.1, h.2.1, h.2.2.1⟩)⟩
  rw [hnew]
  obtain ⟨x0, hx0⟩ : ∃ x, by_ B 0 = x := ⟨_, rfl⟩
  obtain ⟨x1, hx1⟩ : ∃ x, by_ B 1 = x := ⟨_, rfl⟩
  obtain ⟨x2, hx2⟩ : ∃ x, by_ B 2 = x := ⟨_, rfl⟩
  rw [hx0] at H0 hb0
  rw [hx1] at H1 hb1
  rw [hx2] at H2 hb2
  rw [hx0, hx1, hx2]
  have e1 : wrap64 (x0 * 65536) = x0 * 65536 := by unfold wrap64; omega
  have e2 : wrap64 (x1 * 256) = x1 * 256 := by unfold wrap64; omega
  have e3 : wrap64 (x0 * 65536 + x1 * 256) = x0 * 65536 + x1 * 256 := by unfold wrap64; omega
  have e4 : wrap64 (x0 * 65536 + x1 * 256 + x2) = x0 * 65536 + x1 * 256 + x2 := by unfold wrap64; omega
  clear hx0 hx1 hx2 hnew hb0 hb1 hb2 hm hB hC
  go_enter Tryd.func34, Tryd.ntmps34
  go_wp2_with (first
    | (go_at_call 38; (first | (with_reducible refine (H0.out _ HI.out HW.out).mono ?_) | (with_reducible refine (H1.out _ HI.out HW.out).mono ?_) | (with_reducible refine (H2.out _ HI.out HW.out).mono ?_)); rintro e w1 ⟨rfl, hI, hb⟩; have hc4 := (at_cells hI).2.2.2.1; have hf4 := (at_cells hI).2.2.2.2.2.2.2; clear HI HW; have HI := Aside0.mk hI; have HW := Aside0.mk hb; clear hI hb))
  go_ret
  exact ⟨rfl, OSwiftPlays.IsS39.set_4 HI.out _, below_set HW.out (Nat.le_refl _)⟩
end Go.Proofs.YtdfgoahfaebooaaDoor.RrWalk
