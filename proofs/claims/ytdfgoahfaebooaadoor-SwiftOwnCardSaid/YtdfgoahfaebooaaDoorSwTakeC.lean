import Derived.Test.YtdfgoahfaebooaaDoorSwSet
namespace Go.Proofs.YtdfgoahfaebooaaDoor.SwWalk
open Go.RowKit Go.Proofs.YtdfgoahfaebooaaDoorW.PrintWords Go.Proofs.YtdfgoahfaebooaaDoorW.PrintLast Go.Proofs.YtdfgoahfaebooaaDoorW.PrintMore
open Go.Proofs.YtdfgoahfaebooaaDoor.Rd (St by_ Bytes)
attribute [local go_sem] max2_int min2_int max_two min_two max_three min_three max_four min_four   -- for this text's walks alone
set_option linter.unusedVariables false
set_option linter.unusedSimpArgs false
set_option maxHeartbeats 2000000 in
set_option maxRecDepth 100000 in
theorem take_m1 (base g h : Nat) (B : List Int) (hB : Bytes B) (hl : B.length ≤ 10000) (tk rw : Nat) (G V a b n p o s0 x y z R k k2 Lz P D : Int) (ht : tk ≤ 9990) (w : World) (hL : Laid w) (H : SwAt base w g B ⟨tk, rw, G, V⟩ h)
    (hpart : ∀ w, Laid w → SwAt base w g B ⟨tk, rw, G, V⟩ h → Calls Tryd.prog 35 #[.pointer (some ⟨g, 0, none⟩), .int .u32 n] w fun e w' => e = .returned (.int .u32 p) ∧ Below w.heap.size w w')
    (hpair : ∀ w, SwAt base w g B ⟨tk, rw, G, z⟩ h → Calls Tryd.prog 37 #[.pointer (some ⟨g, 0, none⟩)] w fun e w' => e = .returned (.int .u32 P) ∧ Below w.heap.size w w')
    (hlen : ∀ w, Calls Tryd.prog 36 #[.int .u32 (R - 1)] w fun e w' => e = .returned (.int .i64 Lz) ∧ w' = w)
    (i1 : wrap64 (n - 1) = k) (i2 : IntKind.u64.wrap k = k2) (i3 : ¬ (4096 : Int) ≤ k2) (d1 : decide (a < 0) = false) (d2 : decide (b ≤ a) = false) (d3 : decide (n < b) = false) (d4 : (b == n) = false)
    (e1 : IntKind.u32.wrap n = n) (e3 : IntKind.u32.wrap a = a) (e4 : IntKind.u32.wrap (a * p) = o) (e6 : IntKind.u32.wrap (b - a) = b - a) (e7 : wrap64 (b - a) = b - a) (e5a : IntKind.u32.wrap ((b - a) * p) = R)
    (m1 : (if V < o then V else o) = y) (e8 : IntKind.u32.wrap (V - y) = x) (m2 : (if R - 1 < x then R - 1 else x) = z) (e9 : IntKind.u32.wrap (R - 1) = R - 1)
    (l1 : wrap64 (24 - Lz) = 24 - Lz) (l2 : (24 - Lz) / 8 = 1) (f1 : IntKind.u32.wrap (z * 256) = z * 256) (f2 : bits .or .u32 (z * 256) (P / 256) = D) (f3 : IntKind.u32.wrap (R * 256) = R * 256) :
    Calls Tryd.prog 14 #[.pointer (some ⟨g, 0, none⟩), .int .i64 a, .int .i64 b, .int .i64 n] w fun e w' => e = .returned (.tuple #[]) ∧ SwAt base w' g B ⟨tk + 1, rw, R * 256, D⟩ h ∧ KeepBut w w' g none ∧ Below g w w' := by
  have HL := Aside0.mk hL
  have HI := Aside0.mk H
  have HK := Aside0.mk (KeepBut.refl w g none)
  have HB := Aside0.mk (Below.refl g w)
  have HP := Aside0.mk hpart
  have HQ := Aside0.mk hpair
  have HN := Aside0.mk hlen
  obtain ⟨_, hc2, _, hc4, hc5, _⟩ := H.cells
  simp only at hc2 hc4 hc5
  have hf2 := H.frozen 2
  have hf4 := H.frozen 4
  have hf5 := H.frozen 5
  clear hL H hpart hpair hlen
  go_enter Tryd.func14, Tryd.ntmps14
  go_wp2_with (first
    | (go_at_call 35; (with_reducible refine (HP.out _ HL.out HI.out).mono ?_); rintro e w1 ⟨rfl, hb⟩; have hc2 := pw_cell_below hb hc2; have hc4 := pw_cell_below hb hc4; have hc5 := pw_cell_below hb hc5; have HI1 := Aside0.mk (HI.out.below hb); have HK1 : Aside0 (KeepBut w w1 g none) := ⟨KeepBut.of_below hb g none⟩; have HB1 : Aside0 (Below g w w1) := ⟨hb.mono (Nat.le_of_lt HI.out.lt)⟩; have hf2 := HI1.out.frozen 2; have hf4 := HI1.out.frozen 4; have hf5 := HI1.out.frozen 5; clear hb))
  go_region
  go_wp2_with (first | (go_at_call 36; (with_reducible refine (HN.out _).mono ?_); rintro e w2 ⟨rfl, rfl⟩))
  have HI2 : Aside0 (SwAt base (w1.setCell ⟨g, 5, none⟩ (.int .u32 z)).drew g B ⟨tk, rw, G, z⟩ h) := ⟨(HI1.out.set_val z).below (below_drew1 (Below.refl _ _))⟩
  have HI2d : Aside0 (SwAt base (w1.setCell ⟨g, 5, none⟩ (.int .u32 z)).drew.drew g B ⟨tk, rw, G, z⟩ h) := ⟨(HI1.out.set_val z).below (below_drew1 (below_drew1 (Below.refl _ _)))⟩
  have HK2 : Aside0 (KeepBut w (w1.setCell ⟨g, 5, none⟩ (.int .u32 z)).drew g none) := ⟨keep_drew (KeepBut.set_ HK1.out 5 _)⟩
  have HK2d : Aside0 (KeepBut w (w1.setCell ⟨g, 5, none⟩ (.int .u32 z)).drew.drew g none) := ⟨keep_drew (keep_drew (KeepBut.set_ HK1.out 5 _))⟩
  have HB2 : Aside0 (Below g w (w1.setCell ⟨g, 5, none⟩ (.int .u32 z)).drew) := ⟨below_drew1 (Below.setCell HB1.out (p := ⟨g, 5, none⟩) (Nat.le_refl _) _)⟩
  have HB2d : Aside0 (Below g w (w1.setCell ⟨g, 5, none⟩ (.int .u32 z)).drew.drew) := ⟨below_drew1 HB2.out⟩
  have j0 : IntKind.i64.wrap 0 = 0 := by decide
  have j1 : IntKind.i64.wrap 1 = 1 := by decide
  have j2 : IntKind.i64.wrap 2 = 2 := by decide
  have j3 : IntKind.i64.wrap 8 = 8 := by decide
  have j4 : IntKind.i64.wrap 16 = 16 := by decide
  go_region_with (first
    | (go_at_call 37; (with_reducible refine (HQ.out _ HI2.out).mono ?_); rintro e w3 ⟨rfl, hb⟩; have HI3 := Aside0.mk (HI2.out.below hb); have HK3 : Aside0 (KeepBut w w3 g none) := ⟨KeepBut.trans HK2.out (KeepBut.of_below hb g none) (.inl rfl)⟩; have HB3 : Aside0 (Below g w w3) := ⟨HB2.out.trans (hb.mono (Nat.le_of_lt HI2.out.lt))⟩; have hk2 := HI3.out.cells.2.1; have hk4 := HI3.out.cells.2.2.2.1; have hk5 := HI3.out.cells.2.2.2.2.1; have hkf2 := HI3.out.frozen 2; have hkf4 := HI3.out.frozen 4; have hkf5 := HI3.out.frozen 5; simp only at hk2 hk4 hk5; clear hb)
    | (go_at_call 37; (with_reducible refine (HQ.out _ HI2d.out).mono ?_); rintro e w3 ⟨rfl, hb⟩; have HI3 := Aside0.mk (HI2d.out.below hb); have HK3 : Aside0 (KeepBut w w3 g none) := ⟨KeepBut.trans HK2d.out (KeepBut.of_below hb g none) (.inl rfl)⟩; have HB3 : Aside0 (Below g w w3) := ⟨HB2d.out.trans (hb.mono (Nat.le_of_lt HI2d.out.lt))⟩; have hk2 := HI3.out.cells.2.1; have hk4 := HI3.out.cells.2.2.2.1; have hk5 := HI3.out.cells.2.2.2.2.1; have hkf2 := HI3.out.frozen 2; have hkf4 := HI3.out.frozen 4; have hkf5 := HI3.out.frozen 5; simp only at hk2 hk4 hk5; clear hb))
  all_goals (
    go_wp2
    first | go_end0 | ((try simp only [Exit.inBlock, Exit.then]); refine bodyPost_ret (results_none rfl _ _ _) rfl ?_)
    have HR := ((HI3.out.set_val D).set_rng (R * 256)).set_taken (tk + 1)
    exact ⟨rfl, HR, KeepBut.set_ (KeepBut.set_ (KeepBut.set_ HK3.out 5 _) 4 _) 2 _, Below.setCell (Below.setCell (Below.setCell HB3.out (p := ⟨g, 5, none⟩) (Nat.le_refl _) _) (p := ⟨g, 4, none⟩) (Nat.le_refl _) _) (p := ⟨g, 2, none⟩) (Nat.le_refl _) _⟩)
set_option maxHeartbeats 2000000 in
set_option maxRecDepth 100000 in
theorem take_m2 (base g h : Nat) (B : List Int) (hB : Bytes B) (hl : B.length ≤ 10000) (tk rw : Nat) (G V a b n p o s0 x y z R k k2 Lz P D : Int) (ht : tk ≤ 9990) (w : World) (hL : Laid w) (H : SwAt base w g B ⟨tk, rw, G, V⟩ h)
    (hpart : ∀ w, Laid w → SwAt base w g B ⟨tk, rw, G, V⟩ h → Calls Tryd.prog 35 #[.pointer (some ⟨g, 0, none⟩), .int .u32 n] w fun e w' => e = .returned (.int .u32 p) ∧ Below w.heap.size w w')
    (hpair : ∀ w, SwAt base w g B ⟨tk, rw, G, z⟩ h → Calls Tryd.prog 37 #[.pointer (some ⟨g, 0, none⟩)] w fun e w' => e = .returned (.int .u32 P) ∧ Below w.heap.size w w')
    (hlen : ∀ w, Calls Tryd.prog 36 #[.int .u32 (R - 1)] w fun e w' => e = .returned (.int .i64 Lz) ∧ w' = w)
    (i1 : wrap64 (n - 1) = k) (i2 : IntKind.u64.wrap k = k2) (i3 : ¬ (4096 : Int) ≤ k2) (d1 : decide (a < 0) = false) (d2 : decide (b ≤ a) = false) (d3 : decide (n < b) = false) (d4 : (b == n) = false)
    (e1 : IntKind.u32.wrap n = n) (e3 : IntKind.u32.wrap a = a) (e4 : IntKind.u32.wrap (a * p) = o) (e6 : IntKind.u32.wrap (b - a) = b - a) (e7 : wrap64 (b - a) = b - a) (e5a : IntKind.u32.wrap ((b - a) * p) = R)
    (m1 : (if V < o then V else o) = y) (e8 : IntKind.u32.wrap (V - y) = x) (m2 : (if R - 1 < x then R - 1 else x) = z) (e9 : IntKind.u32.wrap (R - 1) = R - 1)
    (l1 : wrap64 (24 - Lz) = 24 - Lz) (l2 : (24 - Lz) / 8 = 2) (f1 : IntKind.u32.wrap (z * 65536) = z * 65536) (f2 : bits .or .u32 (z * 65536) (P) = D) (f3 : IntKind.u32.wrap (R * 65536) = R * 65536) :
    Calls Tryd.prog 14 #[.pointer (some ⟨g, 0, none⟩), .int .i64 a, .int .i64 b, .int .i64 n] w fun e w' => e = .returned (.tuple #[]) ∧ SwAt base w' g B ⟨tk + 2, rw, R * 65536, D⟩ h ∧ KeepBut w w' g none ∧ Below g w w' := by
  have HL := Aside0.mk hL
  have HI := Aside0.mk H
  have HK := Aside0.mk (KeepBut.refl w g none)
  have HB := Aside0.mk (Below.refl g w)
  have HP := Aside0.mk hpart
  have HQ := Aside0.mk hpair
  have HN := Aside0.mk hlen
  obtain ⟨_, hc2, _, hc4, hc5, _⟩ := H.cells
  simp only at hc2 hc4 hc5
  have hf2 := H.frozen 2
  have hf4 := H.frozen 4
  have hf5 := H.frozen 5
  clear hL H hpart hpair hlen
  go_enter Tryd.func14, Tryd.ntmps14
  go_wp2_with (first
    | (go_at_call 35; (with_reducible refine (HP.out _ HL.out HI.out).mono ?_); rintro e w1 ⟨rfl, hb⟩; have hc2 := pw_cell_below hb hc2; have hc4 := pw_cell_below hb hc4; have hc5 := pw_cell_below hb hc5; have HI1 := Aside0.mk (HI.out.below hb); have HK1 : Aside0 (KeepBut w w1 g none) := ⟨KeepBut.of_below hb g none⟩; have HB1 : Aside0 (Below g w w1) := ⟨hb.mono (Nat.le_of_lt HI.out.lt)⟩; have hf2 := HI1.out.frozen 2; have hf4 := HI1.out.frozen 4; have hf5 := HI1.out.frozen 5; clear hb))
  go_region
  go_wp2_with (first | (go_at_call 36; (with_reducible refine (HN.out _).mono ?_); rintro e w2 ⟨rfl, rfl⟩))
  have HI2 : Aside0 (SwAt base (w1.setCell ⟨g, 5, none⟩ (.int .u32 z)).drew g B ⟨tk, rw, G, z⟩ h) := ⟨(HI1.out.set_val z).below (below_drew1 (Below.refl _ _))⟩
  have HI2d : Aside0 (SwAt base (w1.setCell ⟨g, 5, none⟩ (.int .u32 z)).drew.drew g B ⟨tk, rw, G, z⟩ h) := ⟨(HI1.out.set_val z).below (below_drew1 (below_drew1 (Below.refl _ _)))⟩
  have HK2 : Aside0 (KeepBut w (w1.setCell ⟨g, 5, none⟩ (.int .u32 z)).drew g none) := ⟨keep_drew (KeepBut.set_ HK1.out 5 _)⟩
  have HK2d : Aside0 (KeepBut w (w1.setCell ⟨g, 5, none⟩ (.int .u32 z)).drew.drew g none) := ⟨keep_drew (keep_drew (KeepBut.set_ HK1.out 5 _))⟩
  have HB2 : Aside0 (Below g w (w1.setCell ⟨g, 5, none⟩ (.int .u32 z)).drew) := ⟨below_drew1 (Below.setCell HB1.out (p := ⟨g, 5, none⟩) (Nat.le_refl _) _)⟩
  have HB2d : Aside0 (Below g w (w1.setCell ⟨g, 5, none⟩ (.int .u32 z)).drew.drew) := ⟨below_drew1 HB2.out⟩
  have j0 : IntKind.i64.wrap 0 = 0 := by decide
  have j1 : IntKind.i64.wrap 1 = 1 := by decide
  have j2 : IntKind.i64.wrap 2 = 2 := by decide
  have j3 : IntKind.i64.wrap 8 = 8 := by decide
  have j4 : IntKind.i64.wrap 16 = 16 := by decide
  go_region_with (first
    | (go_at_call 37; (with_reducible refine (HQ.out _ HI2.out).mono ?_); rintro e w3 ⟨rfl, hb⟩; have HI3 := Aside0.mk (HI2.out.below hb); have HK3 : Aside0 (KeepBut w w3 g none) := ⟨KeepBut.trans HK2.out (KeepBut.of_below hb g none) (.inl rfl)⟩; have HB3 : Aside0 (Below g w w3) := ⟨HB2.out.trans (hb.mono (Nat.le_of_lt HI2.out.lt))⟩; have hk2 := HI3.out.cells.2.1; have hk4 := HI3.out.cells.2.2.2.1; have hk5 := HI3.out.cells.2.2.2.2.1; have hkf2 := HI3.out.frozen 2; have hkf4 := HI3.out.frozen 4; have hkf5 := HI3.out.frozen 5; simp only at hk2 hk4 hk5; clear hb)
    | (go_at_call 37; (with_reducible refine (HQ.out _ HI2d.out).mono ?_); rintro e w3 ⟨rfl, hb⟩; have HI3 := Aside0.mk (HI2d.out.below hb); have HK3 : Aside0 (KeepBut w w3 g none) := ⟨KeepBut.trans HK2d.out (KeepBut.of_below hb g none) (.inl rfl)⟩; have HB3 : Aside0 (Below g w w3) := ⟨HB2d.out.trans (hb.mono (Nat.le_of_lt HI2d.out.lt))⟩; have hk2 := HI3.out.cells.2.1; have hk4 := HI3.out.cells.2.2.2.1; have hk5 := HI3.out.cells.2.2.2.2.1; have hkf2 := HI3.out.frozen 2; have hkf4 := HI3.out.frozen 4; have hkf5 := HI3.out.frozen 5; simp only at hk2 hk4 hk5; clear hb))
  all_goals (
    go_wp2
    first | go_end0 | ((try simp only [Exit.inBlock, Exit.then]); refine bodyPost_ret (results_none rfl _ _ _) rfl ?_)
    have HR := ((HI3.out.set_val D).set_rng (R * 65536)).set_taken (tk + 2)
    exact ⟨rfl, HR, KeepBut.set_ (KeepBut.set_ (KeepBut.set_ HK3.out 5 _) 4 _) 2 _, Below.setCell (Below.setCell (Below.setCell HB3.out (p := ⟨g, 5, none⟩) (Nat.le_refl _) _) (p := ⟨g, 4, none⟩) (Nat.le_refl _) _) (p := ⟨g, 2, none⟩) (Nat.le_refl _) _⟩)
end Go.Proofs.YtdfgoahfaebooaaDoor.SwWalk
