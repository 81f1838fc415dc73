import Derived.Test.YtdfgoahfaebooaaDoorRrWalk
namespace Go.Proofs.YtdfgoahfaebooaaDoor.RrWalk
open Go.RowKit Go.Proofs.YtdfgoahfaebooaaDoorW.PrintWords Go.Proofs.YtdfgoahfaebooaaDoorW.PrintLast Go.Proofs.YtdfgoahfaebooaaDoorW.PrintMore
open Go.Proofs.YtdfgoahfaebooaaDoor.Rd (St by_ Bytes)
open Go.Proofs.YtdfgoahfaebooaaDoor.RdWalk (wrap_u32 cutW cut_size cut_get cut_below NoByte left w64n tdiv8 tmod8)
attribute [local go_sem] max2_int min2_int max_two min_two max_three min_three max_four min_four   -- for this text's walks alone
set_option linter.unusedVariables false
set_option linter.unusedSimpArgs false
set_option maxHeartbeats 2000000 in
set_option maxRecDepth 100000 in
theorem take_e0 (g : Nat) (B : List Int) (hB : Bytes B) (tk rw : Nat) (G V a b n p o y G1 : Int) (ht : tk ≤ 9990) (w0 w : World) (hI : At w0 w g B ⟨tk, rw, G, V⟩) (hb : Below w0.heap.size w0 w)
    (d1 : decide (a < 0) = false) (d2 : decide (b ≤ a) = false) (d3 : decide (n < b) = false) (d0 : decide (4096 < n) = false) (d4 : (b == n) = true) (d5 : ¬ n = 0)
    (e2 : wrap64 (G.tdiv n) = p) (e4 : wrap64 (a * p) = o) (e5 : wrap64 (G - o) = G1) (e7 : wrap64 (b - a) = b - a) (e8 : wrap64 (V - o) = y) (d6 : decide (y < 0) = false) (e9 : wrap64 (G1 - 1) = G1 - 1) (d7 : decide (G1 - 1 < y) = false) (hf : Aside0 (Rd.Fair ⟨tk, rw, G1, y⟩ 16)) :
    Calls Tryd.prog 15 #[.pointer (some ⟨g, 0, none⟩), .int .i64 a, .int .i64 b, .int .i64 n] w fun e w' => e = .returned (.tuple #[]) ∧ At w0 w' g B (Rd.step B (Rd.step B ⟨tk, rw, G1, y⟩)) ∧ Below w0.heap.size w0 w' ∧ KeepBut w w' g none := by
  have HBy := Aside0.mk hB
  have HI := Aside0.mk hI
  have HW := Aside0.mk hb
  have HK := Aside0.mk (KeepBut.refl w g none)
  have HF := hf
  clear hB hb hf
  have hge1 := OSwiftPlays.IsS39.ge hI
  obtain ⟨_, _, hc3, hc4, _, _, hf3, hf4⟩ := at_cells hI
  simp only at hc3 hc4
  have HG := Aside0.mk hge1
  clear hge1 hI
  obtain ⟨D, hD⟩ : ∃ D, Rd.step B (Rd.step B ⟨tk, rw, G1, y⟩) = D := ⟨_, rfl⟩
  have HDT : Aside0 (D.t ≤ 9992) := ⟨by
    have h1 := (Rd.step_t B ⟨tk, rw, G1, y⟩).2
    have h2 := (Rd.step_t B (Rd.step B ⟨tk, rw, G1, y⟩)).2
    rw [hD] at h2
    simp only at h1
    omega⟩
  have HDF : Aside0 (Rd.Fair D 65537) := ⟨hD ▸ Rd.step_fair2 HBy.out (by decide) (Rd.step_fair HBy.out (by decide) HF.out)⟩
  have HD := Aside0.mk hD
  rw [hD]
  clear hD
  go_enter Tryd.func15, Tryd.ntmps15
  go_wp2
  repeat (go_quiet (fail); try go_wp2)
  go_loopw [] (fun wr => ∃ (s : St), Aside0 (At w0 wr g B s) ∧ Aside0 (Below w0.heap.size w0 wr) ∧ Aside0 (KeepBut w wr g none) ∧ Aside0 (Rd.Fair s 16) ∧ Aside0 (Rd.step B (Rd.step B s) = D)) (fun wr => (65537 - intOf ((wr.cell? ⟨g, 3, none⟩).getD (.int .i64 0))).toNat)
  case atStart => exact ⟨⟨tk, rw, G1, y⟩, ⟨by repeat (first | (with_reducible first | exact HI.out | apply OSwiftPlays.IsS39.drewN | apply OSwiftPlays.IsS39.drew | apply OSwiftPlays.IsS39.set_3 | apply OSwiftPlays.IsS39.set_4) | exact HI.out)⟩, ⟨by repeat (first | (with_reducible first | exact HW.out | apply pw_below_drewN | apply below_drew1 | refine below_set ?_ HG.out) | exact HW.out)⟩, ⟨by repeat (first | (with_reducible first | exact HK.out | apply KeepBut.set_ | apply keep_drewN | apply keep_drew) | exact HK.out)⟩, HF, HD⟩
  case round =>
    clear HI HW HK HF HD hc3 hc4 hf3 hf4 e2 e4 e5 e7 e8 e9 d0 d1 d2 d3 d4 d5 d6 d7
    obtain ⟨⟨tk, rw, G, V⟩, HI, HW, HK, HF, HD⟩ := hrel
    obtain ⟨hc1, _, hc3, hc4, hf1, _, hf3, hf4⟩ := at_cells HI.out
    simp only at hc1 hc3 hc4
    by_cases hle : G ≤ 65536
    · have hD2 := HD.out
      have hst : Rd.step B ⟨tk, rw, G, V⟩ = Rd.stp B ⟨tk, rw, G, V⟩ := by unfold Rd.step; rw [if_pos hle]
      rw [hst] at hD2
      have hT : tk ≤ 9992 := by
        have h1 := (Rd.step_t B (Rd.stp B ⟨tk, rw, G, V⟩)).1
        rw [hD2] at h1
        have h2 : tk + 1 ≤ D.t := h1
        have := HDT.out
        omega
      have HD2 : Aside0 (Rd.step B (Rd.step B (Rd.stp B ⟨tk, rw, G, V⟩)) = D) := ⟨by rw [hD2]; exact Rd.step_still HDF.out⟩
      have HF2 : Aside0 (Rd.Fair (Rd.stp B ⟨tk, rw, G, V⟩) 16) := ⟨by
        have h := Rd.step_fair HBy.out (k := 16) (by decide) HF.out
        rw [hst] at h
        exact ⟨by have := h.g0; omega, h.g1, h.v0, h.v1⟩⟩
      obtain ⟨d, hd'⟩ : ∃ d, by_ B tk = d := ⟨_, rfl⟩
      have hdb := Rd.by_in HBy.out tk
      rw [hd'] at hdb
      have HS : Aside0 (Rd.stp B ⟨tk, rw, G, V⟩ = ⟨tk + 1, rw, G * 256, V * 256 + d⟩) := ⟨by simp only [Rd.stp]; rw [hd']⟩
      have HH : Aside0 (∀ w1, At w0 w1 g B ⟨tk, rw, G * 256, V⟩ → Below w0.heap.size w0 w1 → Calls Tryd.prog 38 #[.pointer (some ⟨g, 0, none⟩), .int .i64 tk] w1 fun e w' => e = .returned (.int .i64 d) ∧ At w0 w' g B ⟨tk, rw, G * 256, V⟩ ∧ Below w0.heap.size w0 w' ∧ KeepBut w1 w' g none) :=
        ⟨fun w1 hI hb => (byte_any g B HBy.out ⟨tk, rw, G * 256, V⟩ tk w0 w1 hI hb).mono (fun e w' h => ⟨hd' ▸ h.1, h.2.1, h.2.2.1, h.2.2.2⟩)⟩
      have hV0 := HF.out.v0
      have hV1 := HF.out.v1
      have hG0 := HF.out.g0
      simp only at hV0 hV1 hG0
      have f1 : wrap64 (G * 256) = G * 256 := by unfold wrap64; omega
      have f2 : wrap64 (V * 256) = V * 256 := by unfold wrap64; omega
      have f3 : wrap64 (V * 256 + d) = V * 256 + d := by unfold wrap64; omega
      have HM : Aside0 ((65537 - G * 256).toNat < (65537 - G).toNat) := ⟨by omega⟩
      clear hD2 hst hd' hV0 hV1 hG0 hdb
      go_wp2
      go_region_with (first | (go_at_call 38; (first | (with_reducible refine (HH.out _ (OSwiftPlays.IsS39.set_3 HI.out _) (below_set HW.out HG.out)).mono ?_) | (with_reducible refine (HH.out _ (OSwiftPlays.IsS39.drew (OSwiftPlays.IsS39.set_3 HI.out _)) (below_drew1 (below_set HW.out HG.out))).mono ?_)); rintro e w2 ⟨rfl, hI2, hb2, hk2⟩; obtain ⟨hk1, _, hk3, hk4, hkf1, _, hkf3, hkf4⟩ := at_cells hI2; simp only at hk1 hk3 hk4))
      all_goals (
        have HSET : At w0 ((w2.setCell ⟨g, 4, none⟩ (.int .i64 (V * 256 + d))).setCell ⟨g, 1, none⟩ (.int .i64 ((tk : Int) + 1))) g B ⟨tk + 1, rw, G * 256, V * 256 + d⟩ := by
          have h := OSwiftPlays.IsS39.set_1 (OSwiftPlays.IsS39.set_4 hI2 (V * 256 + d)) ((tk : Int) + 1)
          exact h
        go_wp2
        go_roundw
        case rel => exact ⟨⟨tk + 1, rw, G * 256, V * 256 + d⟩, ⟨HSET⟩, ⟨below_set (below_set hb2 HG.out) HG.out⟩, ⟨KeepBut.set_ (KeepBut.set_ (KeepBut.trans (by first | exact keep_drew (KeepBut.set_ HK.out 3 _) | exact KeepBut.set_ HK.out 3 _) hk2 (.inl rfl)) 4 _) 1 _⟩, ⟨HS.out ▸ HF2.out⟩, ⟨HS.out ▸ HD2.out⟩⟩
        case measure =>
          rw [(at_cells (s := ⟨tk + 1, rw, G * 256, V * 256 + d⟩) HSET).2.2.1, hc3]
          exact HM.out)
    · have HE : Aside0 ((⟨tk, rw, G, V⟩ : St) = D) := ⟨by
        have hst : Rd.step B ⟨tk, rw, G, V⟩ = ⟨tk, rw, G, V⟩ := by unfold Rd.step; rw [if_neg hle]
        have := HD.out
        rw [hst, hst] at this
        exact this⟩
      clear HD
      go_wp2
      first | go_end0 | ((try simp only [Exit.inBlock, Exit.then]); refine bodyPost_ret (results_none rfl _ _ _) rfl ?_)
      exact ⟨rfl, by rw [← HE.out]; exact HI.out, HW.out, HK.out⟩
set_option maxHeartbeats 2000000 in
set_option maxRecDepth 100000 in
theorem take_e1 (g : Nat) (B : List Int) (hB : Bytes B) (tk rw : Nat) (G V a b n p o y G1 : Int) (ht : tk ≤ 9990) (w0 w : World) (hI : At w0 w g B ⟨tk, rw, G, V⟩) (hb : Below w0.heap.size w0 w)
    (d1 : decide (a < 0) = false) (d2 : decide (b ≤ a) = false) (d3 : decide (n < b) = false) (d0 : decide (4096 < n) = false) (d4 : (b == n) = true) (d5 : ¬ n = 0)
    (e2 : wrap64 (G.tdiv n) = p) (e4 : wrap64 (a * p) = o) (e5 : wrap64 (G - o) = G1) (e7 : wrap64 (b - a) = b - a) (e8 : wrap64 (V - o) = y) (d6 : decide (y < 0) = true) (e9 : wrap64 (G1 - 1) = G1 - 1) (d7 : decide (G1 - 1 < 0) = false) (hf : Aside0 (Rd.Fair ⟨tk, rw, G1, 0⟩ 16)) :
    Calls Tryd.prog 15 #[.pointer (some ⟨g, 0, none⟩), .int .i64 a, .int .i64 b, .int .i64 n] w fun e w' => e = .returned (.tuple #[]) ∧ At w0 w' g B (Rd.step B (Rd.step B ⟨tk, rw, G1, 0⟩)) ∧ Below w0.heap.size w0 w' ∧ KeepBut w w' g none := by
  have HBy := Aside0.mk hB
  have HI := Aside0.mk hI
  have HW := Aside0.mk hb
  have HK := Aside0.mk (KeepBut.refl w g none)
  have HF := hf
  clear hB hb hf
  have hge1 := OSwiftPlays.IsS39.ge hI
  obtain ⟨_, _, hc3, hc4, _, _, hf3, hf4⟩ := at_cells hI
  simp only at hc3 hc4
  have HG := Aside0.mk hge1
  clear hge1 hI
  obtain ⟨D, hD⟩ : ∃ D, Rd.step B (Rd.step B ⟨tk, rw, G1, 0⟩) = D := ⟨_, rfl⟩
  have HDT : Aside0 (D.t ≤ 9992) := ⟨by
    have h1 := (Rd.step_t B ⟨tk, rw, G1, 0⟩).2
    have h2 := (Rd.step_t B (Rd.step B ⟨tk, rw, G1, 0⟩)).2
    rw [hD] at h2
    simp only at h1
    omega⟩
  have HDF : Aside0 (Rd.Fair D 65537) := ⟨hD ▸ Rd.step_fair2 HBy.out (by decide) (Rd.step_fair HBy.out (by decide) HF.out)⟩
  have HD := Aside0.mk hD
  rw [hD]
  clear hD
  go_enter Tryd.func15, Tryd.ntmps15
  go_wp2
  repeat (go_quiet (fail); try go_wp2)
  go_loopw [] (fun wr => ∃ (s : St), Aside0 (At w0 wr g B s) ∧ Aside0 (Below w0.heap.size w0 wr) ∧ Aside0 (KeepBut w wr g none) ∧ Aside0 (Rd.Fair s 16) ∧ Aside0 (Rd.step B (Rd.step B s) = D)) (fun wr => (65537 - intOf ((wr.cell? ⟨g, 3, none⟩).getD (.int .i64 0))).toNat)
  case atStart => exact ⟨⟨tk, rw, G1, 0⟩, ⟨by repeat (first | (with_reducible first | exact HI.out | apply OSwiftPlays.IsS39.drewN | apply OSwiftPlays.IsS39.drew | apply OSwiftPlays.IsS39.set_3 | apply OSwiftPlays.IsS39.set_4) | exact HI.out)⟩, ⟨by repeat (first | (with_reducible first | exact HW.out | apply pw_below_drewN | apply below_drew1 | refine below_set ?_ HG.out) | exact HW.out)⟩, ⟨by repeat (first | (with_reducible first | exact HK.out | apply KeepBut.set_ | apply keep_drewN | apply keep_drew) | exact HK.out)⟩, HF, HD⟩
  case round =>
    clear HI HW HK HF HD hc3 hc4 hf3 hf4 e2 e4 e5 e7 e8 e9 d0 d1 d2 d3 d4 d5 d6 d7
    obtain ⟨⟨tk, rw, G, V⟩, HI, HW, HK, HF, HD⟩ := hrel
    obtain ⟨hc1, _, hc3, hc4, hf1, _, hf3, hf4⟩ := at_cells HI.out
    simp only at hc1 hc3 hc4
    by_cases hle : G ≤ 65536
    · have hD2 := HD.out
      have hst : Rd.step B ⟨tk, rw, G, V⟩ = Rd.stp B ⟨tk, rw, G, V⟩ := by unfold Rd.step; rw [if_pos hle]
      rw [hst] at hD2
      have hT : tk ≤ 9992 := by
        have h1 := (Rd.step_t B (Rd.stp B ⟨tk, rw, G, V⟩)).1
        rw [hD2] at h1
        have h2 : tk + 1 ≤ D.t := h1
        have := HDT.out
        omega
      have HD2 : Aside0 (Rd.step B (Rd.step B (Rd.stp B ⟨tk, rw, G, V⟩)) = D) := ⟨by rw [hD2]; exact Rd.step_still HDF.out⟩
      have HF2 : Aside0 (Rd.Fair (Rd.stp B ⟨tk, rw, G, V⟩) 16) := ⟨by
        have h := Rd.step_fair HBy.out (k := 16) (by decide) HF.out
        rw [hst] at h
        exact ⟨by have := h.g0; omega, h.g1, h.v0, h.v1⟩⟩
      obtain ⟨d, hd'⟩ : ∃ d, by_ B tk = d := ⟨_, rfl⟩
      have hdb := Rd.by_in HBy.out tk
      rw [hd'] at hdb
      have HS : Aside0 (Rd.stp B ⟨tk, rw, G, V⟩ = ⟨tk + 1, rw, G * 256, V * 256 + d⟩) := ⟨by simp only [Rd.stp]; rw [hd']⟩
      have HH : Aside0 (∀ w1, At w0 w1 g B ⟨tk, rw, G * 256, V⟩ → Below w0.heap.size w0 w1 → Calls Tryd.prog 38 #[.pointer (some ⟨g, 0, none⟩), .int .i64 tk] w1 fun e w' => e = .returned (.int .i64 d) ∧ At w0 w' g B ⟨tk, rw, G * 256, V⟩ ∧ Below w0.heap.size w0 w' ∧ KeepBut w1 w' g none) :=
        ⟨fun w1 hI hb => (byte_any g B HBy.out ⟨tk, rw, G * 256, V⟩ tk w0 w1 hI hb).mono (fun e w' h => ⟨hd' ▸ h.1, h.2.1, h.2.2.1, h.2.2.2⟩)⟩
      have hV0 := HF.out.v0
      have hV1 := HF.out.v1
      have hG0 := HF.out.g0
      simp only at hV0 hV1 hG0
      have f1 : wrap64 (G * 256) = G * 256 := by unfold wrap64; omega
      have f2 : wrap64 (V * 256) = V * 256 := by unfold wrap64; omega
      have f3 : wrap64 (V * 256 + d) = V * 256 + d := by unfold wrap64; omega
      have HM : Aside0 ((65537 - G * 256).toNat < (65537 - G).toNat) := ⟨by omega⟩
      clear hD2 hst hd' hV0 hV1 hG0 hdb
      go_wp2
      go_region_with (first | (go_at_call 38; (first | (with_reducible refine (HH.out _ (OSwiftPlays.IsS39.set_3 HI.out _) (below_set HW.out HG.out)).mono ?_) | (with_reducible refine (HH.out _ (OSwiftPlays.IsS39.drew (OSwiftPlays.IsS39.set_3 HI.out _)) (below_drew1 (below_set HW.out HG.out))).mono ?_)); rintro e w2 ⟨rfl, hI2, hb2, hk2⟩; obtain ⟨hk1, _, hk3, hk4, hkf1, _, hkf3, hkf4⟩ := at_cells hI2; simp only at hk1 hk3 hk4))
      all_goals (
        have HSET : At w0 ((w2.setCell ⟨g, 4, none⟩ (.int .i64 (V * 256 + d))).setCell ⟨g, 1, none⟩ (.int .i64 ((tk : Int) + 1))) g B ⟨tk + 1, rw, G * 256, V * 256 + d⟩ := by
          have h := OSwiftPlays.IsS39.set_1 (OSwiftPlays.IsS39.set_4 hI2 (V * 256 + d)) ((tk : Int) + 1)
          exact h
        go_wp2
        go_roundw
        case rel => exact ⟨⟨tk + 1, rw, G * 256, V * 256 + d⟩, ⟨HSET⟩, ⟨below_set (below_set hb2 HG.out) HG.out⟩, ⟨KeepBut.set_ (KeepBut.set_ (KeepBut.trans (by first | exact keep_drew (KeepBut.set_ HK.out 3 _) | exact KeepBut.set_ HK.out 3 _) hk2 (.inl rfl)) 4 _) 1 _⟩, ⟨HS.out ▸ HF2.out⟩, ⟨HS.out ▸ HD2.out⟩⟩
        case measure =>
          rw [(at_cells (s := ⟨tk + 1, rw, G * 256, V * 256 + d⟩) HSET).2.2.1, hc3]
          exact HM.out)
    · have HE : Aside0 ((⟨tk, rw, G, V⟩ : St) = D) := ⟨by
        have hst : Rd.step B ⟨tk, rw, G, V⟩ = ⟨tk, rw, G, V⟩ := by unfold Rd.step; rw [if_neg hle]
        have := HD.out
        rw [hst, hst] at this
        exact this⟩
      clear HD
      go_wp2
      first | go_end0 | ((try simp only [Exit.inBlock, Exit.then]); refine bodyPost_ret (results_none rfl _ _ _) rfl ?_)
      exact ⟨rfl, by rw [← HE.out]; exact HI.out, HW.out, HK.out⟩
end Go.Proofs.YtdfgoahfaebooaaDoor.RrWalk
namespace Go.Proofs.YtdfgoahfaebooaaDoor.RrWalk
open Go.RowKit Go.Proofs.YtdfgoahfaebooaaDoorW.PrintWords Go.Proofs.YtdfgoahfaebooaaDoorW.PrintLast Go.Proofs.YtdfgoahfaebooaaDoorW.PrintMore
open Go.Proofs.YtdfgoahfaebooaaDoor.Rd (St by_ Bytes)
open Go.Proofs.YtdfgoahfaebooaaDoor.RdWalk (wrap_u32 cutW cut_size cut_get cut_below NoByte left w64n tdiv8 tmod8)
attribute [local go_sem] max2_int min2_int max_two min_two max_three min_three max_four min_four   -- for this text's walks alone
set_option linter.unusedVariables false
set_option linter.unusedSimpArgs false
set_option maxHeartbeats 2000000 in
set_option maxRecDepth 100000 in
theorem take_e2 (g : Nat) (B : List Int) (hB : Bytes B) (tk rw : Nat) (G V a b n p o y G1 : Int) (ht : tk ≤ 9990) (w0 w : World) (hI : At w0 w g B ⟨tk, rw, G, V⟩) (hb : Below w0.heap.size w0 w)
    (d1 : decide (a < 0) = false) (d2 : decide (b ≤ a) = false) (d3 : decide (n < b) = false) (d0 : decide (4096 < n) = false) (d4 : (b == n) = true) (d5 : ¬ n = 0)
    (e2 : wrap64 (G.tdiv n) = p) (e4 : wrap64 (a * p) = o) (e5 : wrap64 (G - o) = G1) (e7 : wrap64 (b - a) = b - a) (e8 : wrap64 (V - o) = y) (d6 : decide (y < 0) = false) (e9 : wrap64 (G1 - 1) = G1 - 1) (d7 : decide (G1 - 1 < y) = true) (hf : Aside0 (Rd.Fair ⟨tk, rw, G1, G1 - 1⟩ 16)) :
    Calls Tryd.prog 15 #[.pointer (some ⟨g, 0, none⟩), .int .i64 a, .int .i64 b, .int .i64 n] w fun e w' => e = .returned (.tuple #[]) ∧ At w0 w' g B (Rd.step B (Rd.step B ⟨tk, rw, G1, G1 - 1⟩)) ∧ Below w0.heap.size w0 w' ∧ KeepBut w w' g none := by
  have HBy := Aside0.mk hB
  have HI := Aside0.mk hI
  have HW := Aside0.mk hb
  have HK := Aside0.mk (KeepBut.refl w g none)
  have HF := hf
  clear hB hb hf
  have hge1 := OSwiftPlays.IsS39.ge hI
  obtain ⟨_, _, hc3, hc4, _, _, hf3, hf4⟩ := at_cells hI
  simp only at hc3 hc4
  have HG := Aside0.mk hge1
  clear hge1 hI
  obtain ⟨D, hD⟩ : ∃ D, Rd.step B (Rd.step B ⟨tk, rw, G1, G1 - 1⟩) = D := ⟨_, rfl⟩
  have HDT : Aside0 (D.t ≤ 9992) := ⟨by
    have h1 := (Rd.step_t B ⟨tk, rw, G1, G1 - 1⟩).2
    have h2 := (Rd.step_t B (Rd.step B ⟨tk, rw, G1, G1 - 1⟩)).2
    rw [hD] at h2
    simp only at h1
    omega⟩
  have HDF : Aside0 (Rd.Fair D 65537) := ⟨hD ▸ Rd.step_fair2 HBy.out (by decide) (Rd.step_fair HBy.out (by decide) HF.out)⟩
  have HD := Aside0.mk hD
  rw [hD]
  clear hD
  go_enter Tryd.func15, Tryd.ntmps15
  go_wp2
  repeat (go_quiet (fail); try go_wp2)
  go_loopw [] (fun wr => ∃ (s : St), Aside0 (At w0 wr g B s) ∧ Aside0 (Below w0.heap.size w0 wr) ∧ Aside0 (KeepBut w wr g none) ∧ Aside0 (Rd.Fair s 16) ∧ Aside0 (Rd.step B (Rd.step B s) = D)) (fun wr => (65537 - intOf ((wr.cell? ⟨g, 3, none⟩).getD (.int .i64 0))).toNat)
  case atStart => exact ⟨⟨tk, rw, G1, G1 - 1⟩, ⟨by repeat (first | (with_reducible first | exact HI.out | apply OSwiftPlays.IsS39.drewN | apply OSwiftPlays.IsS39.drew | apply OSwiftPlays.IsS39.set_3 | apply OSwiftPlays.IsS39.set_4) | exact HI.out)⟩, ⟨by repeat (first | (with_reducible first | exact HW.out | apply pw_below_drewN | apply below_drew1 | refine below_set ?_ HG.out) | exact HW.out)⟩, ⟨by repeat (first | (with_reducible first | exact HK.out | apply KeepBut.set_ | apply keep_drewN | apply keep_drew) | exact HK.out)⟩, HF, HD⟩
  case round =>
    clear HI HW HK HF HD hc3 hc4 hf3 hf4 e2 e4 e5 e7 e8 e9 d0 d1 d2 d3 d4 d5 d6 d7
    obtain ⟨⟨tk, rw, G, V⟩, HI, HW, HK, HF, HD⟩ := hrel
    obtain ⟨hc1, _, hc3, hc4, hf1, _, hf3, hf4⟩ := at_cells HI.out
    simp only at hc1 hc3 hc4
    by_cases hle : G ≤ 65536
    · have hD2 := HD.out
      have hst : Rd.step B ⟨tk, rw, G, V⟩ = Rd.stp B ⟨tk, rw, G, V⟩ := by unfold Rd.step; rw [if_pos hle]
      rw [hst] at hD2
      have hT : tk ≤ 9992 := by
        have h1 := (Rd.step_t B (Rd.stp B ⟨tk, rw, G, V⟩)).1
        rw [hD2] at h1
        have h2 : tk + 1 ≤ D.t := h1
        have := HDT.out
        omega
      have HD2 : Aside0 (Rd.step B (Rd.step B (Rd.stp B ⟨tk, rw, G, V⟩)) = D) := ⟨by rw [hD2]; exact Rd.step_still HDF.out⟩
      have HF2 : Aside0 (Rd.Fair (Rd.stp B ⟨tk, rw, G, V⟩) 16) := ⟨by
        have h := Rd.step_fair HBy.out (k := 16) (by decide) HF.out
        rw [hst] at h
        exact ⟨by have := h.g0; omega, h.g1, h.v0, h.v1⟩⟩
      obtain ⟨d, hd'⟩ : ∃ d, by_ B tk = d := ⟨_, rfl⟩
      have hdb := Rd.by_in HBy.out tk
      rw [hd'] at hdb
      have HS : Aside0 (Rd.stp B ⟨tk, rw, G, V⟩ = ⟨tk + 1, rw, G * 256, V * 256 + d⟩) := ⟨by simp only [Rd.stp]; rw [hd']⟩
      have HH : Aside0 (∀ w1, At w0 w1 g B ⟨tk, rw, G * 256, V⟩ → Below w0.heap.size w0 w1 → Calls Tryd.prog 38 #[.pointer (some ⟨g, 0, none⟩), .int .i64 tk] w1 fun e w' => e = .returned (.int .i64 d) ∧ At w0 w' g B ⟨tk, rw, G * 256, V⟩ ∧ Below w0.heap.size w0 w' ∧ KeepBut w1 w' g none) :=
        ⟨fun w1 hI hb => (byte_any g B HBy.out ⟨tk, rw, G * 256, V⟩ tk w0 w1 hI hb).mono (fun e w' h => ⟨hd' ▸ h.1, h.2.1, h.2.2.1, h.2.2.2⟩)⟩
      have hV0 := HF.out.v0
      have hV1 := HF.out.v1
      have hG0 := HF.out.g0
      simp only at hV0 hV1 hG0
      have f1 : wrap64 (G * 256) = G * 256 := by unfold wrap64; omega
      have f2 : wrap64 (V * 256) = V * 256 := by unfold wrap64; omega
      have f3 : wrap64 (V * 256 + d) = V * 256 + d := by unfold wrap64; omega
      have HM : Aside0 ((65537 - G * 256).toNat < (65537 - G).toNat) := ⟨by omega⟩
      clear hD2 hst hd' hV0 hV1 hG0 hdb
      go_wp2
      go_region_with (first | (go_at_call 38; (first | (with_reducible refine (HH.out _ (OSwiftPlays.IsS39.set_3 HI.out _) (below_set HW.out HG.out)).mono ?_) | (with_reducible refine (HH.out _ (OSwiftPlays.IsS39.drew (OSwiftPlays.IsS39.set_3 HI.out _)) (below_drew1 (below_set HW.out HG.out))).mono ?_)); rintro e w2 ⟨rfl, hI2, hb2, hk2⟩; obtain ⟨hk1, _, hk3, hk4, hkf1, _, hkf3, hkf4⟩ := at_cells hI2; simp only at hk1 hk3 hk4))
      all_goals (
        have HSET : At w0 ((w2.setCell ⟨g, 4, none⟩ (.int .i64 (V * 256 + d))).setCell ⟨g, 1, none⟩ (.int .i64 ((tk : Int) + 1))) g B ⟨tk + 1, rw, G * 256, V * 256 + d⟩ := by
          have h := OSwiftPlays.IsS39.set_1 (OSwiftPlays.IsS39.set_4 hI2 (V * 256 + d)) ((tk : Int) + 1)
          exact h
        go_wp2
        go_roundw
        case rel => exact ⟨⟨tk + 1, rw, G * 256, V * 256 + d⟩, ⟨HSET⟩, ⟨below_set (below_set hb2 HG.out) HG.out⟩, ⟨KeepBut.set_ (KeepBut.set_ (KeepBut.trans (by first | exact keep_drew (KeepBut.set_ HK.out 3 _) | exact KeepBut.set_ HK.out 3 _) hk2 (.inl rfl)) 4 _) 1 _⟩, ⟨HS.out ▸ HF2.out⟩, ⟨HS.out ▸ HD2.out⟩⟩
        case measure =>
          rw [(at_cells (s := ⟨tk + 1, rw, G * 256, V * 256 + d⟩) HSET).2.2.1, hc3]
          exact HM.out)
    · have HE : Aside0 ((⟨tk, rw, G, V⟩ : St) = D) := ⟨by
        have hst : Rd.step B ⟨tk, rw, G, V⟩ = ⟨tk, rw, G, V⟩ := by unfold Rd.step; rw [if_neg hle]
        have := HD.out
        rw [hst, hst] at this
        exact this⟩
      clear HD
      go_wp2
      first | go_end0 | ((try simp only [Exit.inBlock, Exit.then]); refine bodyPost_ret (results_none rfl _ _ _) rfl ?_)
      exact ⟨rfl, by rw [← HE.out]; exact HI.out, HW.out, HK.out⟩
set_option maxHeartbeats 2000000 in
set_option maxRecDepth 100000 in
theorem take_m0 (g : Nat) (B : List Int) (hB : Bytes B) (tk rw : Nat) (G V a b n p o y G1 : Int) (ht : tk ≤ 9990) (w0 w : World) (hI : At w0 w g B ⟨tk, rw, G, V⟩) (hb : Below w0.heap.size w0 w)
    (d1 : decide (a < 0) = false) (d2 : decide (b ≤ a) = false) (d3 : decide (n < b) = false) (d0 : decide (4096 < n) = false) (d4 : (b == n) = false) (d5 : ¬ n = 0)
    (e2 : wrap64 (G.tdiv n) = p) (e4 : wrap64 (a * p) = o) (e5 : wrap64 ((b - a) * p) = G1) (e7 : wrap64 (b - a) = b - a) (e8 : wrap64 (V - o) = y) (d6 : decide (y < 0) = false) (e9 : wrap64 (G1 - 1) = G1 - 1) (d7 : decide (G1 - 1 < y) = false) (hf : Aside0 (Rd.Fair ⟨tk, rw, G1, y⟩ 16)) :
    Calls Tryd.prog 15 #[.pointer (some ⟨g, 0, none⟩), .int .i64 a, .int .i64 b, .int .i64 n] w fun e w' => e = .returned (.tuple #[]) ∧ At w0 w' g B (Rd.step B (Rd.step B ⟨tk, rw, G1, y⟩)) ∧ Below w0.heap.size w0 w' ∧ KeepBut w w' g none := by
  have HBy := Aside0.mk hB
  have HI := Aside0.mk hI
  have HW := Aside0.mk hb
  have HK := Aside0.mk (KeepBut.refl w g none)
  have HF := hf
  clear hB hb hf
  have hge1 := OSwiftPlays.IsS39.ge hI
  obtain ⟨_, _, hc3, hc4, _, _, hf3, hf4⟩ := at_cells hI
  simp only at hc3 hc4
  have HG := Aside0.mk hge1
  clear hge1 hI
  obtain ⟨D, hD⟩ : ∃ D, Rd.step B (Rd.step B ⟨tk, rw, G1, y⟩) = D := ⟨_, rfl⟩
  have HDT : Aside0 (D.t ≤ 9992) := ⟨by
    have h1 := (Rd.step_t B ⟨tk, rw, G1, y⟩).2
    have h2 := (Rd.step_t B (Rd.step B ⟨tk, rw, G1, y⟩)).2
    rw [hD] at h2
    simp only at h1
    omega⟩
  have HDF : Aside0 (Rd.Fair D 65537) := ⟨hD ▸ Rd.step_fair2 HBy.out (by decide) (Rd.step_fair HBy.out (by decide) HF.out)⟩
  have HD := Aside0.mk hD
  rw [hD]
  clear hD
  go_enter Tryd.func15, Tryd.ntmps15
  go_wp2
  repeat (go_quiet (fail); try go_wp2)
  go_loopw [] (fun wr => ∃ (s : St), Aside0 (At w0 wr g B s) ∧ Aside0 (Below w0.heap.size w0 wr) ∧ Aside0 (KeepBut w wr g none) ∧ Aside0 (Rd.Fair s 16) ∧ Aside0 (Rd.step B (Rd.step B s) = D)) (fun wr => (65537 - intOf ((wr.cell? ⟨g, 3, none⟩).getD (.int .i64 0))).toNat)
  case atStart => exact ⟨⟨tk, rw, G1, y⟩, ⟨by repeat (first | (with_reducible first | exact HI.out | apply OSwiftPlays.IsS39.drewN | apply OSwiftPlays.IsS39.drew | apply OSwiftPlays.IsS39.set_3 | apply OSwiftPlays.IsS39.set_4) | exact HI.out)⟩, ⟨by repeat (first | (with_reducible first | exact HW.out | apply pw_below_drewN | apply below_drew1 | refine below_set ?_ HG.out) | exact HW.out)⟩, ⟨by repeat (first | (with_reducible first | exact HK.out | apply KeepBut.set_ | apply keep_drewN | apply keep_drew) | exact HK.out)⟩, HF, HD⟩
  case round =>
    clear HI HW HK HF HD hc3 hc4 hf3 hf4 e2 e4 e5 e7 e8 e9 d0 d1 d2 d3 d4 d5 d6 d7
    obtain ⟨⟨tk, rw, G, V⟩, HI, HW, HK, HF, HD⟩ := hrel
    obtain ⟨hc1, _, hc3, hc4, hf1, _, hf3, hf4⟩ := at_cells HI.out
    simp only at hc1 hc3 hc4
    by_cases hle : G ≤ 65536
    · have hD2 := HD.out
      have hst : Rd.step B ⟨tk, rw, G, V⟩ = Rd.stp B ⟨tk, rw, G, V⟩ := by unfold Rd.step; rw [if_pos hle]
      rw [hst] at hD2
      have hT : tk ≤ 9992 := by
        have h1 := (Rd.step_t B (Rd.stp B ⟨tk, rw, G, V⟩)).1
        rw [hD2] at h1
        have h2 : tk + 1 ≤ D.t := h1
        have := HDT.out
        omega
      have HD2 : Aside0 (Rd.step B (Rd.step B (Rd.stp B ⟨tk, rw, G, V⟩)) = D) := ⟨by rw [hD2]; exact Rd.step_still HDF.out⟩
      have HF2 : Aside0 (Rd.Fair (Rd.stp B ⟨tk, rw, G, V⟩) 16) := ⟨by
        have h := Rd.step_fair HBy.out (k := 16) (by decide) HF.out
        rw [hst] at h
        exact ⟨by have := h.g0; omega, h.g1, h.v0, h.v1⟩⟩
      obtain ⟨d, hd'⟩ : ∃ d, by_ B tk = d := ⟨_, rfl⟩
      have hdb := Rd.by_in HBy.out tk
      rw [hd'] at hdb
      have HS : Aside0 (Rd.stp B ⟨tk, rw, G, V⟩ = ⟨tk + 1, rw, G * 256, V * 256 + d⟩) := ⟨by simp only [Rd.stp]; rw [hd']⟩
      have HH : Aside0 (∀ w1, At w0 w1 g B ⟨tk, rw, G * 256, V⟩ → Below w0.heap.size w0 w1 → Calls Tryd.prog 38 #[.pointer (some ⟨g, 0, none⟩), .int .i64 tk] w1 fun e w' => e = .returned (.int .i64 d) ∧ At w0 w' g B ⟨tk, rw, G * 256, V⟩ ∧ Below w0.heap.size w0 w' ∧ KeepBut w1 w' g none) :=
        ⟨fun w1 hI hb => (byte_any g B HBy.out ⟨tk, rw, G * 256, V⟩ tk w0 w1 hI hb).mono (fun e w' h => ⟨hd' ▸ h.1, h.2.1, h.2.2.1, h.2.2.2⟩)⟩
      have hV0 := HF.out.v0
      have hV1 := HF.out.v1
      have hG0 := HF.out.g0
      simp only at hV0 hV1 hG0
      have f1 : wrap64 (G * 256) = G * 256 := by unfold wrap64; omega
      have f2 : wrap64 (V * 256) = V * 256 := by unfold wrap64; omega
      have f3 : wrap64 (V * 256 + d) = V * 256 + d := by unfold wrap64; omega
      have HM : Aside0 ((65537 - G * 256).toNat < (65537 - G).toNat) := ⟨by omega⟩
      clear hD2 hst hd' hV0 hV1 hG0 hdb
      go_wp2
      go_region_with (first | (go_at_call 38; (first | (with_reducible refine (HH.out _ (OSwiftPlays.IsS39.set_3 HI.out _) (below_set HW.out HG.out)).mono ?_) | (with_reducible refine (HH.out _ (OSwiftPlays.IsS39.drew (OSwiftPlays.IsS39.set_3 HI.out _)) (below_drew1 (below_set HW.out HG.out))).mono ?_)); rintro e w2 ⟨rfl, hI2, hb2, hk2⟩; obtain ⟨hk1, _, hk3, hk4, hkf1, _, hkf3, hkf4⟩ := at_cells hI2; simp only at hk1 hk3 hk4))
      all_goals (
        have HSET : At w0 ((w2.setCell ⟨g, 4, none⟩ (.int .i64 (V * 256 + d))).setCell ⟨g, 1, none⟩ (.int .i64 ((tk : Int) + 1))) g B ⟨tk + 1, rw, G * 256, V * 256 + d⟩ := by
          have h := OSwiftPlays.IsS39.set_1 (OSwiftPlays.IsS39.set_4 hI2 (V * 256 + d)) ((tk : Int) + 1)
          exact h
        go_wp2
        go_roundw
        case rel => exact ⟨⟨tk + 1, rw, G * 256, V * 256 + d⟩, ⟨HSET⟩, ⟨below_set (below_set hb2 HG.out) HG.out⟩, ⟨KeepBut.set_ (KeepBut.set_ (KeepBut.trans (by first | exact keep_drew (KeepBut.set_ HK.out 3 _) | exact KeepBut.set_ HK.out 3 _) hk2 (.inl rfl)) 4 _) 1 _⟩, ⟨HS.out ▸ HF2.out⟩, ⟨HS.out ▸ HD2.out⟩⟩
        case measure =>
          rw [(at_cells (s := ⟨tk + 1, rw, G * 256, V * 256 + d⟩) HSET).2.2.1, hc3]
          exact HM.out)
    · have HE : Aside0 ((⟨tk, rw, G, V⟩ : St) = D) := ⟨by
        have hst : Rd.step B ⟨tk, rw, G, V⟩ = ⟨tk, rw, G, V⟩ := by unfold Rd.step; rw [if_neg hle]
        have := HD.out
        rw [hst, hst] at this
        exact this⟩
      clear HD
      go_wp2
      first | go_end0 | ((try simp only [Exit.inBlock, Exit.then]); refine bodyPost_ret (results_none rfl _ _ _) rfl ?_)
      exact ⟨rfl, by rw [← HE.out]; exact HI.out, HW.out, HK.out⟩
end Go.Proofs.YtdfgoahfaebooaaDoor.RrWalk
namespace Go.Proofs.YtdfgoahfaebooaaDoor.RrWalk
open Go.RowKit Go.Proofs.YtdfgoahfaebooaaDoorW.PrintWords Go.Proofs.YtdfgoahfaebooaaDoorW.PrintLast Go.Proofs.YtdfgoahfaebooaaDoorW.PrintMore
open Go.Proofs.YtdfgoahfaebooaaDoor.Rd (St by_ Bytes)
open Go.Proofs.YtdfgoahfaebooaaDoor.RdWalk (wrap_u32 cutW cut_size cut_get cut_below NoByte left w64n tdiv8 tmod8)
attribute [local go_sem] max2_int min2_int max_two min_two max_three min_three max_four min_four   -- for this text's walks alone
set_option linter.unusedVariables false
set_option linter.unusedSimpArgs false
set_option maxHeartbeats 2000000 in
set_option maxRecDepth 100000 in
theorem take_m1 (g : Nat) (B : List Int) (hB : Bytes B) (tk rw : Nat) (G V a b n p o y G1 : Int) (ht : tk ≤ 9990) (w0 w : World) (hI : At w0 w g B ⟨tk, rw, G, V⟩) (hb : Below w0.heap.size w0 w)
    (d1 : decide (a < 0) = false) (d2 : decide (b ≤ a) = false) (d3 : decide (n < b) = false) (d0 : decide (4096 < n) = false) (d4 : (b == n) = false) (d5 : ¬ n = 0)
    (e2 : wrap64 (G.tdiv n) = p) (e4 : wrap64 (a * p) = o) (e5 : wrap64 ((b - a) * p) = G1) (e7 : wrap64 (b - a) = b - a) (e8 : wrap64 (V - o) = y) (d6 : decide (y < 0) = true) (e9 : wrap64 (G1 - 1) = G1 - 1) (d7 : decide (G1 - 1 < 0) = false) (hf : Aside0 (Rd.Fair ⟨tk, rw, G1, 0⟩ 16)) :
    Calls Tryd.prog 15 #[.pointer (some ⟨g, 0, none⟩), .int .i64 a, .int .i64 b, .int .i64 n] w fun e w' => e = .returned (.tuple #[]) ∧ At w0 w' g B (Rd.step B (Rd.step B ⟨tk, rw, G1, 0⟩)) ∧ Below w0.heap.size w0 w' ∧ KeepBut w w' g none := by
  have HBy := Aside0.mk hB
  have HI := Aside0.mk hI
  have HW := Aside0.mk hb
  have HK := Aside0.mk (KeepBut.refl w g none)
  have HF := hf
  clear hB hb hf
  have hge1 := OSwiftPlays.IsS39.ge hI
  obtain ⟨_, _, hc3, hc4, _, _, hf3, hf4⟩ := at_cells hI
  simp only at hc3 hc4
  have HG := Aside0.mk hge1
  clear hge1 hI
  obtain ⟨D, hD⟩ : ∃ D, Rd.step B (Rd.step B ⟨tk, rw, G1, 0⟩) = D := ⟨_, rfl⟩
  have HDT : Aside0 (D.t ≤ 9992) := ⟨by
    have h1 := (Rd.step_t B ⟨tk, rw, G1, 0⟩).2
    have h2 := (Rd.step_t B (Rd.step B ⟨tk, rw, G1, 0⟩)).2
    rw [hD] at h2
    simp only at h1
    omega⟩
  have HDF : Aside0 (Rd.Fair D 65537) := ⟨hD ▸ Rd.step_fair2 HBy.out (by decide) (Rd.step_fair HBy.out (by decide) HF.out)⟩
  have HD := Aside0.mk hD
  rw [hD]
  clear hD
  go_enter Tryd.func15, Tryd.ntmps15
  go_wp2
  repeat (go_quiet (fail); try go_wp2)
  go_loopw [] (fun wr => ∃ (s : St), Aside0 (At w0 wr g B s) ∧ Aside0 (Below w0.heap.size w0 wr) ∧ Aside0 (KeepBut w wr g none) ∧ Aside0 (Rd.Fair s 16) ∧ Aside0 (Rd.step B (Rd.step B s) = D)) (fun wr => (65537 - intOf ((wr.cell? ⟨g, 3, none⟩).getD (.int .i64 0))).toNat)
  case atStart => exact ⟨⟨tk, rw, G1, 0⟩, ⟨by repeat (first | (with_reducible first | exact HI.out | apply OSwiftPlays.IsS39.drewN | apply OSwiftPlays.IsS39.drew | apply OSwiftPlays.IsS39.set_3 | apply OSwiftPlays.IsS39.set_4) | exact HI.out)⟩, ⟨by repeat (first | (with_reducible first | exact HW.out | apply pw_below_drewN | apply below_drew1 | refine below_set ?_ HG.out) | exact HW.out)⟩, ⟨by repeat (first | (with_reducible first | exact HK.out | apply KeepBut.set_ | apply keep_drewN | apply keep_drew) | exact HK.out)⟩, HF, HD⟩
  case round =>
    clear HI HW HK HF HD hc3 hc4 hf3 hf4 e2 e4 e5 e7 e8 e9 d0 d1 d2 d3 d4 d5 d6 d7
    obtain ⟨⟨tk, rw, G, V⟩, HI, HW, HK, HF, HD⟩ := hrel
    obtain ⟨hc1, _, hc3, hc4, hf1, _, hf3, hf4⟩ := at_cells HI.out
    simp only at hc1 hc3 hc4
    by_cases hle : G ≤ 65536
    · have hD2 := HD.out
      have hst : Rd.step B ⟨tk, rw, G, V⟩ = Rd.stp B ⟨tk, rw, G, V⟩ := by unfold Rd.step; rw [if_pos hle]
      rw [hst] at hD2
      have hT : tk ≤ 9992 := by
        have h1 := (Rd.step_t B (Rd.stp B ⟨tk, rw, G, V⟩)).1
        rw [hD2] at h1
        have h2 : tk + 1 ≤ D.t := h1
        have := HDT.out
        omega
      have HD2 : Aside0 (Rd.step B (Rd.step B (Rd.stp B ⟨tk, rw, G, V⟩)) = D) := ⟨by rw [hD2]; exact Rd.step_still HDF.out⟩
      have HF2 : Aside0 (Rd.Fair (Rd.stp B ⟨tk, rw, G, V⟩) 16) := ⟨by
        have h := Rd.step_fair HBy.out (k := 16) (by decide) HF.out
        rw [hst] at h
        exact ⟨by have := h.g0; omega, h.g1, h.v0, h.v1⟩⟩
      obtain ⟨d, hd'⟩ : ∃ d, by_ B tk = d := ⟨_, rfl⟩
      have hdb := Rd.by_in HBy.out tk
      rw [hd'] at hdb
      have HS : Aside0 (Rd.stp B ⟨tk, rw, G, V⟩ = ⟨tk + 1, rw, G * 256, V * 256 + d⟩) := ⟨by simp only [Rd.stp]; rw [hd']⟩
      have HH : Aside0 (∀ w1, At w0 w1 g B ⟨tk, rw, G * 256, V⟩ → Below w0.heap.size w0 w1 → Calls Tryd.prog 38 #[.pointer (some ⟨g, 0, none⟩), .int .i64 tk] w1 fun e w' => e = .returned (.int .i64 d) ∧ At w0 w' g B ⟨tk, rw, G * 256, V⟩ ∧ Below w0.heap.size w0 w' ∧ KeepBut w1 w' g none) :=
        ⟨fun w1 hI hb => (byte_any g B HBy.out ⟨tk, rw, G * 256, V⟩ tk w0 w1 hI hb).mono (fun e w' h => ⟨hd' ▸ h.1, h.2.1, h.2.2.1, h.2.2.2⟩)⟩
      have hV0 := HF.out.v0
      have hV1 := HF.out.v1
      have hG0 := HF.out.g0
      simp only at hV0 hV1 hG0
      have f1 : wrap64 (G * 256) = G * 256 := by unfold wrap64; omega
      have f2 : wrap64 (V * 256) = V * 256 := by unfold wrap64; omega
      have f3 : wrap64 (V * 256 + d) = V * 256 + d := by unfold wrap64; omega
      have HM : Aside0 ((65537 - G * 256).toNat < (65537 - G).toNat) := ⟨by omega⟩
      clear hD2 hst hd' hV0 hV1 hG0 hdb
      go_wp2
      go_region_with (first | (go_at_call 38; (first | (with_reducible refine (HH.out _ (OSwiftPlays.IsS39.set_3 HI.out _) (below_set HW.out HG.out)).mono ?_) | (with_reducible refine (HH.out _ (OSwiftPlays.IsS39.drew (OSwiftPlays.IsS39.set_3 HI.out _)) (below_drew1 (below_set HW.out HG.out))).mono ?_)); rintro e w2 ⟨rfl, hI2, hb2, hk2⟩; obtain ⟨hk1, _, hk3, hk4, hkf1, _, hkf3, hkf4⟩ := at_cells hI2; simp only at hk1 hk3 hk4))
      all_goals (
        have HSET : At w0 ((w2.setCell ⟨g, 4, none⟩ (.int .i64 (V * 256 + d))).setCell ⟨g, 1, none⟩ (.int .i64 ((tk : Int) + 1))) g B ⟨tk + 1, rw, G * 256, V * 256 + d⟩ := by
          have h := OSwiftPlays.IsS39.set_1 (OSwiftPlays.IsS39.set_4 hI2 (V * 256 + d)) ((tk : Int) + 1)
          exact h
        go_wp2
        go_roundw
        case rel => exact ⟨⟨tk + 1, rw, G * 256, V * 256 + d⟩, ⟨HSET⟩, ⟨below_set (below_set hb2 HG.out) HG.out⟩, ⟨KeepBut.set_ (KeepBut.set_ (KeepBut.trans (by first | exact keep_drew (KeepBut.set_ HK.out 3 _) | exact KeepBut.set_ HK.out 3 _) hk2 (.inl rfl)) 4 _) 1 _⟩, ⟨HS.out ▸ HF2.out⟩, ⟨HS.out ▸ HD2.out⟩⟩
        case measure =>
          rw [(at_cells (s := ⟨tk + 1, rw, G * 256, V * 256 + d⟩) HSET).2.2.1, hc3]
          exact HM.out)
    · have HE : Aside0 ((⟨tk, rw, G, V⟩ : St) = D) := ⟨by
        have hst : Rd.step B ⟨tk, rw, G, V⟩ = ⟨tk, rw, G, V⟩ := by unfold Rd.step; rw [if_neg hle]
        have := HD.out
        rw [hst, hst] at this
        exact this⟩
      clear HD
      go_wp2
      first | go_end0 | ((try simp only [Exit.inBlock, Exit.then]); refine bodyPost_ret (results_none rfl _ _ _) rfl ?_)
      exact ⟨rfl, by rw [← HE.out]; exact HI.out, HW.out, HK.out⟩
set_option maxHeartbeats 2000000 in
set_option maxRecDepth 100000 in
theorem take_m2 (g : Nat) (B : List Int) (hB : Bytes B) (tk rw : Nat) (G V a b n p o y G1 : Int) (ht : tk ≤ 9990) (w0 w : World) (hI : At w0 w g B ⟨tk, rw, G, V⟩) (hb : Below w0.heap.size w0 w)
    (d1 : decide (a < 0) = false) (d2 : decide (b ≤ a) = false) (d3 : decide (n < b) = false) (d0 : decide (4096 < n) = false) (d4 : (b == n) = false) (d5 : ¬ n = 0)
    (e2 : wrap64 (G.tdiv n) = p) (e4 : wrap64 (a * p) = o) (e5 : wrap64 ((b - a) * p) = G1) (e7 : wrap64 (b - a) = b - a) (e8 : wrap64 (V - o) = y) (d6 : decide (y < 0) = false) (e9 : wrap64 (G1 - 1) = G1 - 1) (d7 : decide (G1 - 1 < y) = true) (hf : Aside0 (Rd.Fair ⟨tk, rw, G1, G1 - 1⟩ 16)) :
    Calls Tryd.prog 15 #[.pointer (some ⟨g, 0, none⟩), .int .i64 a, .int .i64 b, .int .i64 n] w fun e w' => e = .returned (.tuple #[]) ∧ At w0 w' g B (Rd.step B (Rd.step B ⟨tk, rw, G1, G1 - 1⟩)) ∧ Below w0.heap.size w0 w' ∧ KeepBut w w' g none := by
  have HBy := Aside0.mk hB
  have HI := Aside0.mk hI
  have HW := Aside0.mk hb
  have HK := Aside0.mk (KeepBut.refl w g none)
  have HF := hf
  clear hB hb hf
  have hge1 := OSwiftPlays.IsS39.ge hI
  obtain ⟨_, _, hc3, hc4, _, _, hf3, hf4⟩ := at_cells hI
  simp only at hc3 hc4
  have HG := Aside0.mk hge1
  clear hge1 hI
  obtain ⟨D, hD⟩ : ∃ D, Rd.step B (Rd.step B ⟨tk, rw, G1, G1 - 1⟩) = D := ⟨_, rfl⟩
  have HDT : Aside0 (D.t ≤ 9992) := ⟨by
    have h1 := (Rd.step_t B ⟨tk, rw, G1, G1 - 1⟩).2
    have h2 := (Rd.step_t B (Rd.step B ⟨tk, rw, G1, G1 - 1⟩)).2
    rw [hD] at h2
    simp only at h1
    omega⟩
  have HDF : Aside0 (Rd.Fair D 65537) := ⟨hD ▸ Rd.step_fair2 HBy.out (by decide) (Rd.step_fair HBy.out (by decide) HF.out)⟩
  have HD := Aside0.mk hD
  rw [hD]
  clear hD
  go_enter Tryd.func15, Tryd.ntmps15
  go_wp2
  repeat (go_quiet (fail); try go_wp2)
  go_loopw [] (fun wr => ∃ (s : St), Aside0 (At w0 wr g B s) ∧ Aside0 (Below w0.heap.size w0 wr) ∧ Aside0 (KeepBut w wr g none) ∧ Aside0 (Rd.Fair s 16) ∧ Aside0 (Rd.step B (Rd.step B s) = D)) (fun wr => (65537 - intOf ((wr.cell? ⟨g, 3, none⟩).getD (.int .i64 0))).toNat)
  case atStart => exact ⟨⟨tk, rw, G1, G1 - 1⟩, ⟨by repeat (first | (with_reducible first | exact HI.out | apply OSwiftPlays.IsS39.drewN | apply OSwiftPlays.IsS39.drew | apply OSwiftPlays.IsS39.set_3 | apply OSwiftPlays.IsS39.set_4) | exact HI.out)⟩, ⟨by repeat (first | (with_reducible first | exact HW.out | apply pw_below_drewN | apply below_drew1 | refine below_set ?_ HG.out) | exact HW.out)⟩, ⟨by repeat (first | (with_reducible first | exact HK.out | apply KeepBut.set_ | apply keep_drewN | apply keep_drew) | exact HK.out)⟩, HF, HD⟩
  case round =>
    clear HI HW HK HF HD hc3 hc4 hf3 hf4 e2 e4 e5 e7 e8 e9 d0 d1 d2 d3 d4 d5 d6 d7
    obtain ⟨⟨tk, rw, G, V⟩, HI, HW, HK, HF, HD⟩ := hrel
    obtain ⟨hc1, _, hc3, hc4, hf1, _, hf3, hf4⟩ := at_cells HI.out
    simp only at hc1 hc3 hc4
    by_cases hle : G ≤ 65536
    · have hD2 := HD.out
      have hst : Rd.step B ⟨tk, rw, G, V⟩ = Rd.stp B ⟨tk, rw, G, V⟩ := by unfold Rd.step; rw [if_pos hle]
      rw [hst] at hD2
      have hT : tk ≤ 9992 := by
        have h1 := (Rd.step_t B (Rd.stp B ⟨tk, rw, G, V⟩)).1
        rw [hD2] at h1
        have h2 : tk + 1 ≤ D.t := h1
        have := HDT.out
        omega
      have HD2 : Aside0 (Rd.step B (Rd.step B (Rd.stp B ⟨tk, rw, G, V⟩)) = D) := ⟨by rw [hD2]; exact Rd.step_still HDF.out⟩
      have HF2 : Aside0 (Rd.Fair (Rd.stp B ⟨tk, rw, G, V⟩) 16) := ⟨by
        have h := Rd.step_fair HBy.out (k := 16) (by decide) HF.out
        rw [hst] at h
        exact ⟨by have := h.g0; omega, h.g1, h.v0, h.v1⟩⟩
      obtain ⟨d, hd'⟩ : ∃ d, by_ B tk = d := ⟨_, rfl⟩
      have hdb := Rd.by_in HBy.out tk
      rw [hd'] at hdb
      have HS : Aside0 (Rd.stp B ⟨tk, rw, G, V⟩ = ⟨tk + 1, rw, G * 256, V * 256 + d⟩) := ⟨by simp only [Rd.stp]; rw [hd']⟩
      have HH : Aside0 (∀ w1, At w0 w1 g B ⟨tk, rw, G * 256, V⟩ → Below w0.heap.size w0 w1 → Calls Tryd.prog 38 #[.pointer (some ⟨g, 0, none⟩), .int .i64 tk] w1 fun e w' => e = .returned (.int .i64 d) ∧ At w0 w' g B ⟨tk, rw, G * 256, V⟩ ∧ Below w0.heap.size w0 w' ∧ KeepBut w1 w' g none) :=
        ⟨fun w1 hI hb => (byte_any g B HBy.out ⟨tk, rw, G * 256, V⟩ tk w0 w1 hI hb).mono (fun e w' h => ⟨hd' ▸ h.1, h.2.1, h.2.2.1, h.2.2.2⟩)⟩
      have hV0 := HF.out.v0
      have hV1 := HF.out.v1
      have hG0 := HF.out.g0
      simp only at hV0 hV1 hG0
      have f1 : wrap64 (G * 256) = G * 256 := by unfold wrap64; omega
      have f2 : wrap64 (V * 256) = V * 256 := by unfold wrap64; omega
      have f3 : wrap64 (V * 256 + d) = V * 256 + d := by unfold wrap64; omega
      have HM : Aside0 ((65537 - G * 256).toNat < (65537 - G).toNat) := ⟨by omega⟩
      clear hD2 hst hd' hV0 hV1 hG0 hdb
      go_wp2
      go_region_with (first | (go_at_call 38; (first | (with_reducible refine (HH.out _ (OSwiftPlays.IsS39.set_3 HI.out _) (below_set HW.out HG.out)).mono ?_) | (with_reducible refine (HH.out _ (OSwiftPlays.IsS39.drew (OSwiftPlays.IsS39.set_3 HI.out _)) (below_drew1 (below_set HW.out HG.out))).mono ?_)); rintro e w2 ⟨rfl, hI2, hb2, hk2⟩; obtain ⟨hk1, _, hk3, hk4, hkf1, _, hkf3, hkf4⟩ := at_cells hI2; simp only at hk1 hk3 hk4))
      all_goals (
        have HSET : At w0 ((w2.setCell ⟨g, 4, none⟩ (.int .i64 (V * 256 + d))).setCell ⟨g, 1, none⟩ (.int .i64 ((tk : Int) + 1))) g B ⟨tk + 1, rw, G * 256, V * 256 + d⟩ := by
          have h := OSwiftPlays.IsS39.set_1 (OSwiftPlays.IsS39.set_4 hI2 (V * 256 + d)) ((tk : Int) + 1)
          exact h
        go_wp2
        go_roundw
        case rel => exact ⟨⟨tk + 1, rw, G * 256, V * 256 + d⟩, ⟨HSET⟩, ⟨below_set (below_set hb2 HG.out) HG.out⟩, ⟨KeepBut.set_ (KeepBut.set_ (KeepBut.trans (by first | exact keep_drew (KeepBut.set_ HK.out 3 _) | exact KeepBut.set_ HK.out 3 _) hk2 (.inl rfl)) 4 _) 1 _⟩, ⟨HS.out ▸ HF2.out⟩, ⟨HS.out ▸ HD2.out⟩⟩
        case measure =>
          rw [(at_cells (s := ⟨tk + 1, rw, G * 256, V * 256 + d⟩) HSET).2.2.1, hc3]
          exact HM.out)
    · have HE : Aside0 ((⟨tk, rw, G, V⟩ : St) = D) := ⟨by
        have hst : Rd.step B ⟨tk, rw, G, V⟩ = ⟨tk, rw, G, V⟩ := by unfold Rd.step; rw [if_neg hle]
        have := HD.out
        rw [hst, hst] at this
        exact this⟩
      clear HD
      go_wp2
      first | go_end0 | ((try simp only [Exit.inBlock, Exit.then]); refine bodyPost_ret (results_none rfl _ _ _) rfl ?_)
      exact ⟨rfl, by rw [← HE.out]; exact HI.out, HW.out, HK.out⟩
end Go.Proofs.YtdfgoahfaebooaaDoor.RrWalk
