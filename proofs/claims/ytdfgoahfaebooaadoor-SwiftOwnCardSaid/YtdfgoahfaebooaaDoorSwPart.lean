import Derived.Test.YtdfgoahfaebooaaDoorPSwiftPlaysx0
import Derived.Test.YtdfgoahfaebooaaDoorPackPlain
import Derived.Test.YtdfgoahfaebooaaDoorLen32
import Derived.Test.YtdfgoahfaebooaaDoorRows
import Derived.LoopTactic
import Derived.Lib.SliceRun
import Derived.Deep.RegionHeld3
import Derived.WalkSpells
import Derived.Lib.LaidTab
import Derived.LaidMore
import Derived.Stop.Joined
namespace Go.Proofs.YtdfgoahfaebooaaDoor.SwWalk
open Go.RowKit Go.Proofs.YtdfgoahfaebooaaDoorW.PrintWords Go.Proofs.YtdfgoahfaebooaaDoorW.PrintLast Go.Proofs.YtdfgoahfaebooaaDoorW.PrintMore
open Go.Proofs.YtdfgoahfaebooaaDoor.Rd (St by_ Bytes)
attribute [local go_sem] max2_int min2_int max_two min_two max_three min_three max_four min_four   -- for this text's walks alone
set_option linter.unusedVariables false
set_option linter.unusedSimpArgs false
def tab : List Int := [0, 1, 28, 2, 29, 14, 24, 3, 30, 22, 20, 15, 25, 17, 4, 8, 31, 27, 13, 23, 21, 19, 16, 7, 26, 12, 18, 6, 11, 5, 10, 9]
/-- The listed table lies at its block. -/
def Laid (w : World) : Prop := ∀ i, i < 32 → w.cell? ⟨0, i, none⟩ = some (.int .u8 (tab.getD i 0))
theorem Laid.below {w w' : World} (h : Laid w) (hb : Below w.heap.size w w') : Laid w' := fun i hi => pw_cell_below hb (h i hi)
theorem gTab : Tryd.prog.globalNamed "math/bits.deBruijn32tab" = some 0 := by kernel_rfl
theorem of_laid {W : World} (h : laidMetH Tryd.prog [("math/bits.deBruijn32tab", Rows.laid_math_bits_deBruijn32tab)] W) : Laid W := by
  rw [MakeChecks.laidMetH_plain _ _ _ (by kernel_rfl)] at h
  have hT := Lib.tabIs_of_head (k := .u8) (zs := tab) (rest := []) gTab (t := 70) (e := 5) (n := 32) (by kernel_rfl) Tryd.underlying70 Tryd.underlying5 (by kernel_rfl) (by kernel_rfl) h
  exact fun i hi => hT.cell gTab i hi
theorem wrap_u32 (n : Int) : IntKind.u32.wrap n = n % 4294967296 := by simp [IntKind.wrap, IntKind.bits, IntKind.signed]
set_option maxHeartbeats 1000000 in
set_option maxRecDepth 100000 in
theorem tz_at (x y z : Int) (i j : Nat) (h0 : ¬ x = 0) (e1 : IntKind.u32.wrap (-x) = y) (e2 : bits .and .u32 x y = x) (e3 : IntKind.u32.wrap (x * 125613361) = z) (e4 : z / 134217728 = i) (hi : i < 32) (w : World) (hT : w.cell? ⟨0, i, none⟩ = some (.int .u8 j)) (hj : j ≤ 31) :
    Calls Tryd.prog 43 #[.int .u32 x] w fun e w' => e = .returned (.int .i64 j) ∧ Below w.heap.size w w' := by
  have HB := Aside0.mk (Below.refl w.heap.size w)
  have e5 : IntKind.i64.wrap (j : Int) = j := IntWalk.i64_in _ (by omega)
  have hi2 : (i : Int) < 32 := by omega
  go_enter Tryd.func43, Tryd.ntmps43
  go_wp2
  go_ret
  exact ⟨rfl, HB.out⟩
def pw (j : Nat) : Int := 2 ^ j
theorem tz_facts : ∀ j : Fin 13, ¬ pw j = 0 ∧ bits .and .u32 (pw j) (IntKind.u32.wrap (- pw j)) = pw j ∧ (IntKind.u32.wrap (pw j * 125613361) / 134217728) = ((IntKind.u32.wrap (pw j * 125613361) / 134217728).toNat : Int) ∧ (IntKind.u32.wrap (pw j * 125613361) / 134217728).toNat < 32 ∧ tab.getD (IntKind.u32.wrap (pw j * 125613361) / 134217728).toNat 0 = ((j : Nat) : Int) := by decide +kernel
theorem tz_any (j : Nat) (hj : j ≤ 12) (w : World) (hL : Laid w) : Calls Tryd.prog 43 #[.int .u32 (pw j)] w fun e w' => e = .returned (.int .i64 j) ∧ Below w.heap.size w w' := by
  obtain ⟨h0, h1, h2, h3, h4⟩ := tz_facts ⟨j, by omega⟩
  exact tz_at (pw j) _ _ _ j h0 rfl h1 rfl h2 h3 w (by rw [hL _ h3]; rw [h4]) (by omega)
/-- A reader's object: its row is its own. -/
def SwAt (base : Nat) (w : World) (g : Nat) (B : List Int) (s : St) (h : Nat) : Prop :=
  ∃ (A : Option Addr) (c : Nat), w.heap[g]? = some (.cells #[.slice A (B.length + 3) c, .int .i64 (B.length : Nat), .int .i64 s.t, .int .i64 s.r, .int .u32 s.g, .int .u32 s.v, .int .u64 (Rd.raw B s.r h), .int .i64 h, .int .i64 (B.length - (s.r + h) / 8 : Nat)] 59 (0, 0)) ∧ base ≤ g ∧
    Kd.R (Kd.int .u8) 5 w base (fun k => k ≠ g) (.slice A (B.length + 3) c) (B ++ [0, 0, 0])
theorem SwAt.lt {base g h : Nat} {w : World} {B : List Int} {s : St} (H : SwAt base w g B s h) : g < w.heap.size := by
  obtain ⟨_, _, hg, _, _⟩ := H
  exact blk_lt hg
theorem SwAt.cells {base g h : Nat} {w : World} {B : List Int} {s : St} (H : SwAt base w g B s h) : w.cell? ⟨g, 1, none⟩ = some (.int .i64 (B.length : Nat)) ∧ w.cell? ⟨g, 2, none⟩ = some (.int .i64 s.t) ∧ w.cell? ⟨g, 3, none⟩ = some (.int .i64 s.r) ∧ w.cell? ⟨g, 4, none⟩ = some (.int .u32 s.g) ∧ w.cell? ⟨g, 5, none⟩ = some (.int .u32 s.v) ∧
    w.cell? ⟨g, 6, none⟩ = some (.int .u64 (Rd.raw B s.r h)) ∧ w.cell? ⟨g, 7, none⟩ = some (.int .i64 h) ∧ w.cell? ⟨g, 8, none⟩ = some (.int .i64 (B.length - (s.r + h) / 8 : Nat)) := by
  obtain ⟨_, _, hg, _, _⟩ := H
  exact ⟨(blk_cell hg 1).trans rfl, (blk_cell hg 2).trans rfl, (blk_cell hg 3).trans rfl, (blk_cell hg 4).trans rfl, (blk_cell hg 5).trans rfl, (blk_cell hg 6).trans rfl, (blk_cell hg 7).trans rfl, (blk_cell hg 8).trans rfl⟩
theorem SwAt.frozen {base g h : Nat} {w : World} {B : List Int} {s : St} (H : SwAt base w g B s h) (j : Nat) : w.frozen? ⟨g, j, none⟩ = false := by
  obtain ⟨_, _, hg, _, _⟩ := H
  exact blk_frozen hg j
/-- Nothing but another block was written. -/
theorem SwAt.move {base g h g' : Nat} {w w' : World} {B : List Int} {s : St} (H : SwAt base w g B s h) (hk : KeepBut w w' g' none) (hne : g ≠ g') {t : TypeId} {cs : Array Value} (hb : w.heap[g']? = some (.cells cs t (0, 0))) (ht : (5 : Nat) ≠ t) : SwAt base w' g B s h := by
  obtain ⟨A, c, hg, hge, hR⟩ := H
  refine ⟨A, c, (hk.2 g (blk_lt hg) hne (by simp)).trans hg, hge, ?_⟩
  have h1 := Kd.R_types hR hb (fun q hq => by rcases List.mem_cons.1 hq with h | h; exact h ▸ ht; exact nomatch (show q ∈ ([] : List Nat) from h))
  exact Kd.R_mono (Kd.R_keep h1 hk (fun k hk => hk.2)) (fun k hk => hk.1)
theorem SwAt.block {base g h : Nat} {w : World} {B : List Int} {s : St} (H : SwAt base w g B s h) : ∃ cs, w.heap[g]? = some (.cells cs 59 (0, 0)) := by
  obtain ⟨_, _, hg, _, _⟩ := H
  exact ⟨_, hg⟩
theorem SwAt.below {base g h : Nat} {w w' : World} {B : List Int} {s : St} (H : SwAt base w g B s h) (hb : Below w.heap.size w w') : SwAt base w' g B s h := by
  obtain ⟨A, c, hg, hge, hR⟩ := H
  exact ⟨A, c, (hb.block g (blk_lt hg)).trans hg, hge, Kd.R_below hR hb⟩
set_option maxHeartbeats 1000000 in
set_option maxRecDepth 100000 in
theorem part_pow (base g h : Nat) (B : List Int) (s : St) (j : Nat) (x p : Int) (hj : j ≤ 12) (hx : pw j = x) (hp : s.g / 2 ^ j = p) (e1 : IntKind.u32.wrap (x - 1) = x - 1) (e2 : bits .and .u32 x (x - 1) = 0) (w : World) (hL : Laid w) (H : SwAt base w g B s h) :
    Calls Tryd.prog 35 #[.pointer (some ⟨g, 0, none⟩), .int .u32 x] w fun e w' => e = .returned (.int .u32 p) ∧ Below w.heap.size w w' := by
  have HB := Aside0.mk (Below.refl w.heap.size w)
  have HBd := Aside0.mk (below_drew1 (Below.refl w.heap.size w))
  have HL := Aside0.mk hL
  have hc4 := H.cells.2.2.2.1
  have HT : Aside0 (∀ w, Laid w → Calls Tryd.prog 43 #[.int .u32 x] w fun e w' => e = .returned (.int .i64 j) ∧ Below w.heap.size w w') := ⟨fun w hL => hx ▸ tz_any j hj w hL⟩
  have HLd : Aside0 (Laid w.drew) := ⟨hL.below (below_drew1 (Below.refl _ _))⟩
  obtain ⟨G, hG⟩ : ∃ G, s.g = G := ⟨_, rfl⟩
  rw [hG] at hc4 hp
  clear hL H hx hG
  go_enter Tryd.func35, Tryd.ntmps35
  go_wp2
  go_region_held3 (fun w' => w'.cell? ⟨g, 4, none⟩ = some (.int .u32 G) ∧ Aside0 (Laid w') ∧ Aside0 (Below w.heap.size w w'))
    (first | exact ⟨(World.cell?_drew _ _).trans hc4, HLd, HBd⟩ | (go_split_ands; exact ⟨pw_cell_below hb (by assumption), ⟨Laid.below (Aside0.out (by assumption)) hb⟩, ⟨below_step (Aside0.out (by assumption)) hb⟩⟩))
    (first | (go_at_call 43; (go_split_ands; (with_reducible refine (HT.out _ (Aside0.out (by assumption))).mono ?_)); rintro e w3 ⟨rfl, hb⟩))
  all_goals (
    rename_i hH
    have HB2 := hH.2.2
    clear hH
    go_wp2
    go_ret
    exact ⟨rfl, HB2.out⟩)
set_option maxHeartbeats 1000000 in
set_option maxRecDepth 100000 in
theorem part_div (base g h : Nat) (B : List Int) (s : St) (x p : Int) (hx : ¬ x = 0) (hp : IntKind.u32.wrap (s.g.tdiv x) = p) (e1 : IntKind.u32.wrap (x - 1) = x - 1) (e2 : (bits .and .u32 x (x - 1) == 0) = false) (w : World) (H : SwAt base w g B s h) :
    Calls Tryd.prog 35 #[.pointer (some ⟨g, 0, none⟩), .int .u32 x] w fun e w' => e = .returned (.int .u32 p) ∧ Below w.heap.size w w' := by
  have HB := Aside0.mk (Below.refl w.heap.size w)
  have hc4 := H.cells.2.2.2.1
  obtain ⟨G, hG⟩ : ∃ G, s.g = G := ⟨_, rfl⟩
  rw [hG] at hc4 hp
  clear H hG
  go_enter Tryd.func35, Tryd.ntmps35
  go_wp2
  go_ret
  exact ⟨rfl, HB.out⟩
theorem pows2 : ∀ a : Fin 65, ∀ b : Fin 64, a.val * 64 + b.val ≠ 0 → a.val * 64 + b.val ≤ 4096 → (bits .and .u32 ((a.val * 64 + b.val : Nat) : Int) (((a.val * 64 + b.val : Nat) : Int) - 1) == 0) = true → ∃ j : Fin 13, pw j = ((a.val * 64 + b.val : Nat) : Int) := by decide +kernel
theorem pows (m : Nat) (h0 : m ≠ 0) (h1 : m ≤ 4096) (h : (bits .and .u32 (m : Int) ((m : Int) - 1) == 0) = true) : ∃ j : Fin 13, pw j = (m : Int) := by
  have := pows2 ⟨m / 64, by omega⟩ ⟨m % 64, by omega⟩
  simp only at this
  rw [show m / 64 * 64 + m % 64 = m by omega] at this
  exact this h0 h1 h
/-- A range's part. -/
theorem part_any (base g h : Nat) (B : List Int) (s : St) (hs : Rd.Good s) (n : Int) (h1 : 1 ≤ n) (h2 : n ≤ 4096) (w : World) (hL : Laid w) (H : SwAt base w g B s h) :
    Calls Tryd.prog 35 #[.pointer (some ⟨g, 0, none⟩), .int .u32 n] w fun e w' => e = .returned (.int .u32 (s.g / n)) ∧ Below w.heap.size w w' := by
  have e1 : IntKind.u32.wrap (n - 1) = n - 1 := by rw [wrap_u32]; omega
  have hg0 := hs.g0
  have hg1 := hs.g1
  cases hb : (bits .and .u32 n (n - 1) == 0) with
  | true =>
    obtain ⟨m, rfl⟩ := Int.eq_ofNat_of_zero_le (show 0 ≤ n by omega)
    obtain ⟨j, hj⟩ := pows m (by omega) (by omega) hb
    have hj' : pw j = (m : Int) := hj
    exact part_pow base g h B s j m _ (by omega) hj' (by rw [← hj']; rfl) e1 (beq_iff_eq.1 hb) w hL H
  | false =>
    have hle : s.g / n ≤ s.g := Int.ediv_le_self n (by omega)
    have h0 : 0 ≤ s.g / n := Int.ediv_nonneg (by omega) (by omega)
    exact part_div base g h B s n _ (by omega) (by rw [Int.tdiv_eq_ediv_of_nonneg (by omega), wrap_u32]; omega) e1 hb w H
end Go.Proofs.YtdfgoahfaebooaaDoor.SwWalk
