import Derived.Test.YtjmoklebimejaaaDoorRdWalk
namespace Go.Proofs.YtjmoklebimejaaaDoor.RdWalk
open Go.RowKit Go.Proofs.YtjmoklebimejaaaDoorW.PrintWords Go.Proofs.YtjmoklebimejaaaDoorW.PrintLast Go.Proofs.YtjmoklebimejaaaDoorW.PrintMore
open Go.Proofs.YtjmoklebimejaaaDoor.Rd (St by_ Bytes)
attribute [local go_sem] max2_int min2_int max_two min_two max_three min_three max_four min_four   -- for this text's walks alone
set_option linter.unusedVariables false
set_option linter.unusedSimpArgs false
theorem at_three {w0 w : World} {g : Nat} {B : List Int} {s : St} (h : At w0 w g B s) : w.cell? ⟨g, 3, none⟩ = some (.int .u32 s.g) := by
  obtain ⟨A1, c1, hg1, _, _⟩ := h
  exact OSymReads.cellS81_3 hg1
set_option maxHeartbeats 2000000 in
set_option maxRecDepth 100000 in
theorem take_end (g : Nat) (B : List Int) (hB : Bytes B) (hl : B.length ≤ 10000) (tk rw : Nat) (G V a b n p o x y z G1 : Int) (ht : tk ≤ 9990) (w0 w : World) (hI : At w0 w g B ⟨tk, rw, G, V⟩) (hb : Below w0.heap.size w0 w)
    (h28 : ∀ w, Calls Tryd.prog 73 #[.int .i64 n] w fun e w' => e = .returned (.bool true) ∧ Drawn0 w w')
    (d1 : decide (a < 0) = false) (d2 : decide (b ≤ a) = false) (d3 : decide (n < b) = false) (d4 : (b == n) = true) (d5 : ¬ n = 0) (n0 : 0 ≤ n)
    (e1 : IntKind.u32.wrap n = n) (e2 : IntKind.u32.wrap (G.tdiv n) = p) (e3 : IntKind.u32.wrap a = a) (e4 : IntKind.u32.wrap (a * p) = o) (e5 : IntKind.u32.wrap (G - o) = G1) (e6 : IntKind.u32.wrap (b - a) = b - a) (e7 : wrap64 (b - a) = b - a) (m1 : (if V < o then V else o) = y) (e8 : IntKind.u32.wrap (V - y) = x) (m2 : (if G1 - 1 < x then G1 - 1 else x) = z) (e9 : IntKind.u32.wrap (G1 - 1) = G1 - 1) (hf : Aside0 (Rd.Fair ⟨tk, rw, G1, z⟩ 16)) :
    Calls Tryd.prog 72 #[.pointer (some ⟨g, 0, none⟩), .int .i64 a, .int .i64 b, .int .i64 n] w fun e w' => e = .returned (.tuple #[]) ∧ At w0 w' g B (Rd.step B (Rd.step B ⟨tk, rw, G1, z⟩)) ∧ Below w0.heap.size w0 w' ∧ KeepBut w w' g none := by
  have HBy := Aside0.mk hB
  have HI := Aside0.mk hI
  have HW := Aside0.mk hb
  have HK := Aside0.mk (KeepBut.refl w g none)
  have H28 := Aside0.mk h28
  have HF := hf
  clear hB hb h28 hf
  obtain ⟨A1, c1, hg1, hge1, _⟩ := hI
  have hc3 := OSymReads.cellS81_3 hg1
  have hc4 := OSymReads.cellS81_4 hg1
  have hf3 := blk_frozen hg1 3
  have hf4 := blk_frozen hg1 4
  have HG := Aside0.mk hge1
  clear hg1 hge1
  go_enter Tryd.func72, Tryd.ntmps72
  go_wp2_with (first
    | (go_at_call 73; (with_reducible refine (H28.out _).mono ?_); rintro e w1 ⟨rfl, ⟨nd, rfl⟩⟩))
  go_region
  go_wp2
  go_region
  go_wp2
  have HI1 : Aside0 (At w0 ((((w.drewN nd).setCell ⟨g, 3, none⟩ (.int .u32 G1)).setCell ⟨g, 4, none⟩ (.int .u32 x)).setCell ⟨g, 4, none⟩ (.int .u32 z)).drew.drew g B ⟨tk, rw, G1, z⟩) :=
    ⟨OSymReads.IsS81.drew (OSymReads.IsS81.drew (OSymReads.IsS81.set_4 (OSymReads.IsS81.set_4 (OSymReads.IsS81.set_3 (OSymReads.IsS81.drewN HI.out nd) G1) x) z))⟩
  have HW1 : Aside0 (Below w0.heap.size w0 ((((w.drewN nd).setCell ⟨g, 3, none⟩ (.int .u32 G1)).setCell ⟨g, 4, none⟩ (.int .u32 x)).setCell ⟨g, 4, none⟩ (.int .u32 z)).drew.drew) :=
    ⟨below_drew1 (below_drew1 (below_set (below_set (below_set (pw_below_drewN HW.out nd) HG.out) HG.out) HG.out))⟩
  have HK1 : Aside0 (KeepBut w ((((w.drewN nd).setCell ⟨g, 3, none⟩ (.int .u32 G1)).setCell ⟨g, 4, none⟩ (.int .u32 x)).setCell ⟨g, 4, none⟩ (.int .u32 z)).drew.drew g none) :=
    ⟨keep_drew (keep_drew (KeepBut.set_ (KeepBut.set_ (KeepBut.set_ (keep_drewN HK.out nd) 3 _) 4 _) 4 _))⟩
  obtain ⟨D, hD⟩ : ∃ D, Rd.step B (Rd.step B ⟨tk, rw, G1, z⟩) = D := ⟨_, rfl⟩
  have HDT : Aside0 (D.t ≤ 9992) := ⟨by
    have h1 := (Rd.step_t B ⟨tk, rw, G1, z⟩).2
    have h2 := (Rd.step_t B (Rd.step B ⟨tk, rw, G1, z⟩)).2
    rw [hD] at h2
    simp only at h1
    omega⟩
  have HDF : Aside0 (Rd.Fair D 65537) := ⟨hD ▸ Rd.step_fair2 HBy.out (by decide) (Rd.step_fair HBy.out (by decide) HF.out)⟩
  have HD := Aside0.mk hD
  have HF0 := HF
  clear HI HW HK hD HF hc3 hc4 hf3 hf4 e1 e2 e3 e4 e5 e6 e7 e8 e9 m1 m2 d1 d2 d3 d4 d5
  go_loopw [] (fun wr => ∃ (s : St), Aside0 (At w0 wr g B s) ∧ Aside0 (Below w0.heap.size w0 wr) ∧ Aside0 (KeepBut w wr g none) ∧ Aside0 (Rd.Fair s 16) ∧ Aside0 (Rd.step B (Rd.step B s) = D)) (fun wr => (65537 - intOf ((wr.cell? ⟨g, 3, none⟩).getD (.int .i64 0))).toNat)
  case atStart => exact ⟨_, HI1, HW1, HK1, HF0, HD⟩
  case round =>
    have HD0 := HD
    clear HI1 HW1 HK1 HF0 HD
    obtain ⟨⟨tk, rw, G, V⟩, HI, HW, HK, HF, HD⟩ := hrel
    obtain ⟨A1, c1, hg1, hge1, _⟩ := HI.out
    have hc3 := OSymReads.cellS81_3 hg1
    have hc4 := OSymReads.cellS81_4 hg1
    have hf3 := blk_frozen hg1 3
    have hf4 := blk_frozen hg1 4
    clear hg1 hge1
    by_cases hle : G ≤ 65536
    · have hD2 := HD.out
      have hst : Rd.step B ⟨tk, rw, G, V⟩ = Rd.stp B ⟨tk, rw, G, V⟩ := by unfold Rd.step; rw [if_pos hle]
      rw [hst] at hD2
      have HT : Aside0 (tk ≤ 9992) := ⟨by
        have h1 := (Rd.step_t B (Rd.stp B ⟨tk, rw, G, V⟩)).1
        rw [hD2] at h1
        have h2 : tk + 1 ≤ D.t := h1
        have := HDT.out
        omega⟩
      have HD2 : Aside0 (Rd.step B (Rd.step B (Rd.stp B ⟨tk, rw, G, V⟩)) = D) := ⟨by rw [hD2]; exact Rd.step_still HDF.out⟩
      have HF2 : Aside0 (Rd.Fair (Rd.stp B ⟨tk, rw, G, V⟩) 16) := ⟨by
        have h := Rd.step_fair HBy.out (k := 16) (by decide) HF.out
        rw [hst] at h
        exact ⟨by have := h.g0; omega, h.g1, h.v0, h.v1⟩⟩
      obtain ⟨d, hd'⟩ : ∃ d, by_ B tk = d := ⟨_, rfl⟩
      have HDB := Aside0.mk (Rd.by_in HBy.out tk)
      rw [hd'] at HDB
      have HS : Aside0 (Rd.stp B ⟨tk, rw, G, V⟩ = ⟨tk + 1, rw, G * 256, V * 256 + d⟩) := ⟨by simp only [Rd.stp]; rw [hd']⟩
      have HH : Aside0 (∀ w1, At w0 w1 g B ⟨tk, rw, G * 256, V⟩ → Below w0.heap.size w0 w1 → Calls Tryd.prog 40 #[.pointer (some ⟨g, 0, none⟩)] w1 fun e w' => e = .returned (.int .u32 d) ∧ At w0 w' g B ⟨tk + 1, rw, G * 256, V⟩ ∧ Below w0.heap.size w0 w' ∧ KeepBut w1 w' g none) :=
        ⟨fun w1 hI hb => (next_any g B HBy.out hl ⟨tk, rw, G * 256, V⟩ (by show tk ≤ 10000; have := HT.out; omega) w0 w1 hI hb).mono (fun e w' h => ⟨hd' ▸ h.1, h.2.1, h.2.2.1, h.2.2.2⟩)⟩
      have hV0 := HF.out.v0
      have hV1 := HF.out.v1
      have hG0 := HF.out.g0
      simp only at hV0 hV1 hG0
      have f1 : IntKind.u32.wrap (G * 256) = G * 256 := by rw [wrap_u32]; omega
      have f2 : IntKind.u32.wrap (V * 256) = V * 256 := by rw [wrap_u32]; omega
      have f3 : bits .or .u32 (V * 256) d = V * 256 + d := or_byte hV0 (by omega) HDB.out.1 HDB.out.2
      have HM : Aside0 ((65537 - G * 256).toNat < (65537 - G).toNat) := ⟨by omega⟩
      clear hD2 hst hd' hV0 hV1 hG0
      go_wp2
      go_region_with (first | (go_at_call 40; (first | (with_reducible refine (HH.out _ (OSymReads.IsS81.set_3 HI.out _) (below_set HW.out HG.out)).mono ?_) | (with_reducible refine (HH.out _ (OSymReads.IsS81.drew (OSymReads.IsS81.set_3 HI.out _)) (below_drew1 (below_set HW.out HG.out))).mono ?_)); rintro e w2 ⟨rfl, hI2, hb2, hk2⟩; have hk := at_keep hI2; have hk4 := hk.1; have hkf := hk.2; simp only at hk4))
      all_goals (
        go_wp2
        go_roundw
        case rel => exact ⟨⟨tk + 1, rw, G * 256, V * 256 + d⟩, ⟨OSymReads.IsS81.set_4 hI2 _⟩, ⟨below_set hb2 HG.out⟩, ⟨KeepBut.set_ (KeepBut.trans (by first | exact keep_drew (KeepBut.set_ HK.out 3 _) | exact KeepBut.set_ HK.out 3 _) hk2 (.inl rfl)) 4 _⟩, ⟨HS.out ▸ HF2.out⟩, ⟨HS.out ▸ HD2.out⟩⟩
        case measure =>
          rw [at_three (s := ⟨tk + 1, rw, G * 256, V * 256 + d⟩) (OSymReads.IsS81.set_4 hI2 _), hc3]
          exact HM.out)
    · have HE : Aside0 ((⟨tk, rw, G, V⟩ : St) = D) := ⟨by
        have hst : Rd.step B ⟨tk, rw, G, V⟩ = ⟨tk, rw, G, V⟩ := by unfold Rd.step; rw [if_neg hle]
        have := HD.out
        rw [hst, hst] at this
        exact this⟩
      clear HD
      go_wp2
      first | go_end0 | ((try simp only [Exit.inBlock, Exit.then]); refine bodyPost_ret (results_none rfl _ _ _) rfl ?_)
      exact ⟨rfl, by rw [HD0.out, ← HE.out]; exact HI.out, HW.out, HK.out⟩
set_option maxHeartbeats 2000000 in
set_option maxRecDepth 100000 in
theorem take_mid (g : Nat) (B : List Int) (hB : Bytes B) (hl : B.length ≤ 10000) (tk rw : Nat) (G V a b n p o x y z G1 : Int) (ht : tk ≤ 9990) (w0 w : World) (hI : At w0 w g B ⟨tk, rw, G, V⟩) (hb : Below w0.heap.size w0 w)
    (h28 : ∀ w, Calls Tryd.prog 73 #[.int .i64 n] w fun e w' => e = .returned (.bool true) ∧ Drawn0 w w')
    (d1 : decide (a < 0) = false) (d2 : decide (b ≤ a) = false) (d3 : decide (n < b) = false) (d4 : (b == n) = false) (d5 : ¬ n = 0) (n0 : 0 ≤ n)
    (e1 : IntKind.u32.wrap n = n) (e2 : IntKind.u32.wrap (G.tdiv n) = p) (e3 : IntKind.u32.wrap a = a) (e4 : IntKind.u32.wrap (a * p) = o) (e5 : IntKind.u32.wrap ((b - a) * p) = G1) (e6 : IntKind.u32.wrap (b - a) = b - a) (e7 : wrap64 (b - a) = b - a) (m1 : (if V < o then V else o) = y) (e8 : IntKind.u32.wrap (V - y) = x) (m2 : (if G1 - 1 < x then G1 - 1 else x) = z) (e9 : IntKind.u32.wrap (G1 - 1) = G1 - 1) (hf : Aside0 (Rd.Fair ⟨tk, rw, G1, z⟩ 16)) :
    Calls Tryd.prog 72 #[.pointer (some ⟨g, 0, none⟩), .int .i64 a, .int .i64 b, .int .i64 n] w fun e w' => e = .returned (.tuple #[]) ∧ At w0 w' g B (Rd.step B (Rd.step B ⟨tk, rw, G1, z⟩)) ∧ Below w0.heap.size w0 w' ∧ KeepBut w w' g none := by
  have HBy := Aside0.mk hB
  have HI := Aside0.mk hI
  have HW := Aside0.mk hb
  have HK := Aside0.mk (KeepBut.refl w g none)
  have H28 := Aside0.mk h28
  have HF := hf
  clear hB hb h28 hf
  obtain ⟨A1, c1, hg1, hge1, _⟩ := hI
  have hc3 := OSymReads.cellS81_3 hg1
  have hc4 := OSymReads.cellS81_4 hg1
  have hf3 := blk_frozen hg1 3
  have hf4 := blk_frozen hg1 4
  have HG := Aside0.mk hge1
  clear hg1 hge1
  go_enter Tryd.func72, Tryd.ntmps72
  go_wp2_with (first
    | (go_at_call 73; (with_reducible refine (H28.out _).mono ?_); rintro e w1 ⟨rfl, ⟨nd, rfl⟩⟩))
  go_region
  go_wp2
  go_region
  go_wp2
  have HI1 : Aside0 (At w0 ((((w.drewN nd).setCell ⟨g, 3, none⟩ (.int .u32 G1)).setCell ⟨g, 4, none⟩ (.int .u32 x)).setCell ⟨g, 4, none⟩ (.int .u32 z)).drew.drew g B ⟨tk, rw, G1, z⟩) :=
    ⟨OSymReads.IsS81.drew (OSymReads.IsS81.drew (OSymReads.IsS81.set_4 (OSymReads.IsS81.set_4 (OSymReads.IsS81.set_3 (OSymReads.IsS81.drewN HI.out nd) G1) x) z))⟩
  have HW1 : Aside0 (Below w0.heap.size w0 ((((w.drewN nd).setCell ⟨g, 3, none⟩ (.int .u32 G1)).setCell ⟨g, 4, none⟩ (.int .u32 x)).setCell ⟨g, 4, none⟩ (.int .u32 z)).drew.drew) :=
    ⟨below_drew1 (below_drew1 (below_set (below_set (below_set (pw_below_drewN HW.out nd) HG.out) HG.out) HG.out))⟩
  have HK1 : Aside0 (KeepBut w ((((w.drewN nd).setCell ⟨g, 3, none⟩ (.int .u32 G1)).setCell ⟨g, 4, none⟩ (.int .u32 x)).setCell ⟨g, 4, none⟩ (.int .u32 z)).drew.drew g none) :=
    ⟨keep_drew (keep_drew (KeepBut.set_ (KeepBut.set_ (KeepBut.set_ (keep_drewN HK.out nd) 3 _) 4 _) 4 _))⟩
  obtain ⟨D, hD⟩ : ∃ D, Rd.step B (Rd.step B ⟨tk, rw, G1, z⟩) = D := ⟨_, rfl⟩
  have HDT : Aside0 (D.t ≤ 9992) := ⟨by
    have h1 := (Rd.step_t B ⟨tk, rw, G1, z⟩).2
    have h2 := (Rd.step_t B (Rd.step B ⟨tk, rw, G1, z⟩)).2
    rw [hD] at h2
    simp only at h1
    omega⟩
  have HDF : Aside0 (Rd.Fair D 65537) := ⟨hD ▸ Rd.step_fair2 HBy.out (by decide) (Rd.step_fair HBy.out (by decide) HF.out)⟩
  have HD := Aside0.mk hD
  have HF0 := HF
  clear HI HW HK hD HF hc3 hc4 hf3 hf4 e1 e2 e3 e4 e5 e6 e7 e8 e9 m1 m2 d1 d2 d3 d4 d5
  go_loopw [] (fun wr => ∃ (s : St), Aside0 (At w0 wr g B s) ∧ Aside0 (Below w0.heap.size w0 wr) ∧ Aside0 (KeepBut w wr g none) ∧ Aside0 (Rd.Fair s 16) ∧ Aside0 (Rd.step B (Rd.step B s) = D)) (fun wr => (65537 - intOf ((wr.cell? ⟨g, 3, none⟩).getD (.int .i64 0))).toNat)
  case atStart => exact ⟨_, HI1, HW1, HK1, HF0, HD⟩
  case round =>
    have HD0 := HD
    clear HI1 HW1 HK1 HF0 HD
    obtain ⟨⟨tk, rw, G, V⟩, HI, HW, HK, HF, HD⟩ := hrel
    obtain ⟨A1, c1, hg1, hge1, _⟩ := HI.out
    have hc3 := OSymReads.cellS81_3 hg1
    have hc4 := OSymReads.cellS81_4 hg1
    have hf3 := blk_frozen hg1 3
    have hf4 := blk_frozen hg1 4
    clear hg1 hge1
    by_cases hle : G ≤ 65536
    · have hD2 := HD.out
      have hst : Rd.step B ⟨tk, rw, G, V⟩ = Rd.stp B ⟨tk, rw, G, V⟩ := by unfold Rd.step; rw [if_pos hle]
      rw [hst] at hD2
      have HT : Aside0 (tk ≤ 9992) := ⟨by
        have h1 := (Rd.step_t B (Rd.stp B ⟨tk, rw, G, V⟩)).1
        rw [hD2] at h1
        have h2 : tk + 1 ≤ D.t := h1
        have := HDT.out
        omega⟩
      have HD2 : Aside0 (Rd.step B (Rd.step B (Rd.stp B ⟨tk, rw, G, V⟩)) = D) := ⟨by rw [hD2]; exact Rd.step_still HDF.out⟩
      have HF2 : Aside0 (Rd.Fair (Rd.stp B ⟨tk, rw, G, V⟩) 16) := ⟨by
        have h := Rd.step_fair HBy.out (k := 16) (by decide) HF.out
        rw [hst] at h
        exact ⟨by have := h.g0; omega, h.g1, h.v0, h.v1⟩⟩
      obtain ⟨d, hd'⟩ : ∃ d, by_ B tk = d := ⟨_, rfl⟩
      have HDB := Aside0.mk (Rd.by_in HBy.out tk)
      rw [hd'] at HDB
      have HS : Aside0 (Rd.stp B ⟨tk, rw, G, V⟩ = ⟨tk + 1, rw, G * 256, V * 256 + d⟩) := ⟨by simp only [Rd.stp]; rw [hd']⟩
      have HH : Aside0 (∀ w1, At w0 w1 g B ⟨tk, rw, G * 256, V⟩ → Below w0.heap.size w0 w1 → Calls Tryd.prog 40 #[.pointer (some ⟨g, 0, none⟩)] w1 fun e w' => e = .returned (.int .u32 d) ∧ At w0 w' g B ⟨tk + 1, rw, G * 256, V⟩ ∧ Below w0.heap.size w0 w' ∧ KeepBut w1 w' g none) :=
        ⟨fun w1 hI hb => (next_any g B HBy.out hl ⟨tk, rw, G * 256, V⟩ (by show tk ≤ 10000; have := HT.out; omega) w0 w1 hI hb).mono (fun e w' h => ⟨hd' ▸ h.1, h.2.1, h.2.2.1, h.2.2.2⟩)⟩
      have hV0 := HF.out.v0
      have hV1 := HF.out.v1
      have hG0 := HF.out.g0
      simp only at hV0 hV1 hG0
      have f1 : IntKind.u32.wrap (G * 256) = G * 256 := by rw [wrap_u32]; omega
      have f2 : IntKind.u32.wrap (V * 256) = V * 256 := by rw [wrap_u32]; omega
      have f3 : bits .or .u32 (V * 256) d = V * 256 + d := or_byte hV0 (by omega) HDB.out.1 HDB.out.2
      have HM : Aside0 ((65537 - G * 256).toNat < (65537 - G).toNat) := ⟨by omega⟩
      clear hD2 hst hd' hV0 hV1 hG0
      go_wp2
      go_region_with (first | (go_at_call 40; (first | (with_reducible refine (HH.out _ (OSymReads.IsS81.set_3 HI.out _) (below_set HW.out HG.out)).mono ?_) | (with_reducible refine (HH.out _ (OSymReads.IsS81.drew (OSymReads.IsS81.set_3 HI.out _)) (below_drew1 (below_set HW.out HG.out))).mono ?_)); rintro e w2 ⟨rfl, hI2, hb2, hk2⟩; have hk := at_keep hI2; have hk4 := hk.1; have hkf := hk.2; simp only at hk4))
      all_goals (
        go_wp2
        go_roundw
        case rel => exact ⟨⟨tk + 1, rw, G * 256, V * 256 + d⟩, ⟨OSymReads.IsS81.set_4 hI2 _⟩, ⟨below_set hb2 HG.out⟩, ⟨KeepBut.set_ (KeepBut.trans (by first | exact keep_drew (KeepBut.set_ HK.out 3 _) | exact KeepBut.set_ HK.out 3 _) hk2 (.inl rfl)) 4 _⟩, ⟨HS.out ▸ HF2.out⟩, ⟨HS.out ▸ HD2.out⟩⟩
        case measure =>
          rw [at_three (s := ⟨tk + 1, rw, G * 256, V * 256 + d⟩) (OSymReads.IsS81.set_4 hI2 _), hc3]
          exact HM.out)
    · have HE : Aside0 ((⟨tk, rw, G, V⟩ : St) = D) := ⟨by
        have hst : Rd.step B ⟨tk, rw, G, V⟩ = ⟨tk, rw, G, V⟩ := by unfold Rd.step; rw [if_neg hle]
        have := HD.out
        rw [hst, hst] at this
        exact this⟩
      clear HD
      go_wp2
      first | go_end0 | ((try simp only [Exit.inBlock, Exit.then]); refine bodyPost_ret (results_none rfl _ _ _) rfl ?_)
      exact ⟨rfl, by rw [HD0.out, ← HE.out]; exact HI.out, HW.out, HK.out⟩
set_option maxHeartbeats 2000000 in
set_option maxRecDepth 100000 in
theorem take_no1 (g : Nat) (B : List Int) (s : St) (a b n : Int) (w0 w : World) (hI : At w0 w g B s) (hb : Below w0.heap.size w0 w)
    (h28 : ∀ w, Calls Tryd.prog 73 #[.int .i64 n] w fun e w' => e = .returned (.bool false) ∧ Drawn0 w w') :
    Calls Tryd.prog 72 #[.pointer (some ⟨g, 0, none⟩), .int .i64 a, .int .i64 b, .int .i64 n] w fun e w' => e = .returned (.tuple #[]) ∧ At w0 w' g B s ∧ Below w0.heap.size w0 w' ∧ KeepBut w w' g none := by
  have HI := Aside0.mk hI
  have HW := Aside0.mk hb
  have HK := Aside0.mk (KeepBut.refl w g none)
  have H28 := Aside0.mk h28
  clear hI hb h28
  go_enter Tryd.func72, Tryd.ntmps72
  go_wp2_with (first
    | (go_at_call 73; (with_reducible refine (H28.out _).mono ?_); rintro e w1 ⟨rfl, ⟨nd, rfl⟩⟩))
  first | go_end0 | ((try simp only [Exit.inBlock, Exit.then]); refine bodyPost_ret (results_none rfl _ _ _) rfl ?_)
  exact ⟨rfl, OSymReads.IsS81.drewN HI.out nd, pw_below_drewN HW.out nd, keep_drewN HK.out nd⟩
set_option maxHeartbeats 2000000 in
set_option maxRecDepth 100000 in
theorem take_no2 (g : Nat) (B : List Int) (s : St) (a b n : Int) (w0 w : World) (hI : At w0 w g B s) (hb : Below w0.heap.size w0 w)
    (h28 : ∀ w, Calls Tryd.prog 73 #[.int .i64 n] w fun e w' => e = .returned (.bool true) ∧ Drawn0 w w') (d1 : decide (a < 0) = true) :
    Calls Tryd.prog 72 #[.pointer (some ⟨g, 0, none⟩), .int .i64 a, .int .i64 b, .int .i64 n] w fun e w' => e = .returned (.tuple #[]) ∧ At w0 w' g B s ∧ Below w0.heap.size w0 w' ∧ KeepBut w w' g none := by
  have HI := Aside0.mk hI
  have HW := Aside0.mk hb
  have HK := Aside0.mk (KeepBut.refl w g none)
  have H28 := Aside0.mk h28
  clear hI hb h28
  go_enter Tryd.func72, Tryd.ntmps72
  go_wp2_with (first
    | (go_at_call 73; (with_reducible refine (H28.out _).mono ?_); rintro e w1 ⟨rfl, ⟨nd, rfl⟩⟩))
  first | go_end0 | ((try simp only [Exit.inBlock, Exit.then]); refine bodyPost_ret (results_none rfl _ _ _) rfl ?_)
  exact ⟨rfl, OSymReads.IsS81.drewN HI.out nd, pw_below_drewN HW.out nd, keep_drewN HK.out nd⟩
set_option maxHeartbeats 2000000 in
set_option maxRecDepth 100000 in
theorem take_no3 (g : Nat) (B : List Int) (s : St) (a b n : Int) (w0 w : World) (hI : At w0 w g B s) (hb : Below w0.heap.size w0 w)
    (h28 : ∀ w, Calls Tryd.prog 73 #[.int .i64 n] w fun e w' => e = .returned (.bool true) ∧ Drawn0 w w') (d1 : decide (a < 0) = false) (d2 : decide (b ≤ a) = true) :
    Calls Tryd.prog 72 #[.pointer (some ⟨g, 0, none⟩), .int .i64 a, .int .i64 b, .int .i64 n] w fun e w' => e = .returned (.tuple #[]) ∧ At w0 w' g B s ∧ Below w0.heap.size w0 w' ∧ KeepBut w w' g none := by
  have HI := Aside0.mk hI
  have HW := Aside0.mk hb
  have HK := Aside0.mk (KeepBut.refl w g none)
  have H28 := Aside0.mk h28
  clear hI hb h28
  go_enter Tryd.func72, Tryd.ntmps72
  go_wp2_with (first
    | (go_at_call 73; (with_reducible refine (H28.out _).mono ?_); rintro e w1 ⟨rfl, ⟨nd, rfl⟩⟩))
  first | go_end0 | ((try simp only [Exit.inBlock, Exit.then]); refine bodyPost_ret (results_none rfl _ _ _) rfl ?_)
  exact ⟨rfl, OSymReads.IsS81.drewN HI.out nd, pw_below_drewN HW.out nd, keep_drewN HK.out nd⟩
set_option maxHeartbeats 2000000 in
set_option maxRecDepth 100000 in
theorem take_no4 (g : Nat) (B : List Int) (s : St) (a b n : Int) (w0 w : World) (hI : At w0 w g B s) (hb : Below w0.heap.size w0 w)
    (h28 : ∀ w, Calls Tryd.prog 73 #[.int .i64 n] w fun e w' => e = .returned (.bool true) ∧ Drawn0 w w') (d1 : decide (a < 0) = false) (d2 : decide (b ≤ a) = false) (d3 : decide (n < b) = true) :
    Calls Tryd.prog 72 #[.pointer (some ⟨g, 0, none⟩), .int .i64 a, .int .i64 b, .int .i64 n] w fun e w' => e = .returned (.tuple #[]) ∧ At w0 w' g B s ∧ Below w0.heap.size w0 w' ∧ KeepBut w w' g none := by
  have HI := Aside0.mk hI
  have HW := Aside0.mk hb
  have HK := Aside0.mk (KeepBut.refl w g none)
  have H28 := Aside0.mk h28
  clear hI hb h28
  go_enter Tryd.func72, Tryd.ntmps72
  go_wp2_with (first
    | (go_at_call 73; (with_reducible refine (H28.out _).mono ?_); rintro e w1 ⟨rfl, ⟨nd, rfl⟩⟩))
  first | go_end0 | ((try simp only [Exit.inBlock, Exit.then]); refine bodyPost_ret (results_none rfl _ _ _) rfl ?_)
  exact ⟨rfl, OSymReads.IsS81.drewN HI.out nd, pw_below_drewN HW.out nd, keep_drewN HK.out nd⟩
theorem right_is (n : Int) (w : World) : Calls Tryd.prog 73 #[.int .i64 n] w fun e w' => e = .returned (.bool (decide (1 ≤ n ∧ n ≤ 4096))) ∧ Drawn0 w w' := by
  refine OSymReads.reader_right.calls n _ w ?_
  unfold OSymReads.reader_right.f
  by_cases h : 1 ≤ n
  · rw [if_pos h]
    simp [h]
  · rw [if_neg h]
    simp [h]
theorem right_bool (n : Int) {r : Bool} (h : decide (1 ≤ n ∧ n ≤ 4096) = r) (w : World) : Calls Tryd.prog 73 #[.int .i64 n] w fun e w' => e = .returned (.bool r) ∧ Drawn0 w w' := h ▸ right_is n w
theorem take_any (g : Nat) (B : List Int) (hB : Bytes B) (hl : B.length ≤ 10000) (s : St) (hs : Rd.Good s) (ht : s.t ≤ 9990) (a b n : Int) (w0 w : World) (hI : At w0 w g B s) (hb : Below w0.heap.size w0 w) :
    Calls Tryd.prog 72 #[.pointer (some ⟨g, 0, none⟩), .int .i64 a, .int .i64 b, .int .i64 n] w fun e w' => e = .returned (.tuple #[]) ∧ At w0 w' g B (Rd.take B s a b n) ∧ Below w0.heap.size w0 w' ∧ KeepBut w w' g none := by
  unfold Rd.take
  by_cases hk : Rd.ok a b n
  · rw [if_pos hk]
    obtain ⟨p0, p1, o0, o1, s0, s1⟩ := Rd.part_is hs.g0 hs.g1 hk
    have hrg := Rd.rg_in hs.g0 hs.g1 hk
    have hF := Rd.cut_fair hs hk
    obtain ⟨k0, k1, k2, k3⟩ := hk
    have hg0 := hs.g0
    have hg1 := hs.g1
    have hv0 := hs.v0
    have hv1 := hs.v1
    obtain ⟨tk, rw, G, V⟩ := s
    simp only at *
    have hq : G.tdiv n = G / n := Int.tdiv_eq_ediv_of_nonneg (by omega)
    have hr : decide (1 ≤ n ∧ n ≤ 4096) = true := decide_eq_true (by omega)
    have hw : ∀ x : Int, 0 ≤ x → x ≤ 4294967295 → IntKind.u32.wrap x = x := fun x h0 h1 => by rw [wrap_u32]; omega
    obtain ⟨p, hp⟩ : ∃ p, G / n = p := ⟨_, rfl⟩
    have hc : Rd.cut ⟨tk, rw, G, V⟩ a b n = ⟨tk, rw, Rd.rg G a b n, min (V - min (a * p) V) (Rd.rg G a b n - 1)⟩ := by simp only [Rd.cut]; rw [hp]
    rw [hc] at hF ⊢
    have hrg2 : Rd.rg G a b n = if b = n then G - a * p else (b - a) * p := by unfold Rd.rg; rw [hp]
    rw [hp] at p0 p1 o0 o1 s0 s1 hrg
    obtain ⟨R, hR⟩ : ∃ R, Rd.rg G a b n = R := ⟨_, rfl⟩
    rw [hR] at hF hrg hrg2 ⊢
    obtain ⟨o, ho⟩ : ∃ o, a * p = o := ⟨_, rfl⟩
    rw [ho] at o0 o1 s1 hrg hrg2 hF ⊢
    have m1 : (if V < o then V else o) = min o V := by split <;> omega
    have m2 : (if R - 1 < V - min o V then R - 1 else V - min o V) = min (V - min o V) (R - 1) := by split <;> omega
    by_cases hbn : b = n
    · rw [if_pos hbn] at hrg2
      exact take_end g B hB hl tk rw G V a b n p o _ _ _ R ht w0 w hI hb (right_bool n hr) (decide_eq_false (by omega)) (decide_eq_false (by omega)) (decide_eq_false (by omega)) (beq_iff_eq.2 hbn) (by omega) (by omega)
        (hw _ (by omega) (by omega)) (by rw [hq, hp]; exact hw _ (by omega) (by omega)) (hw _ (by omega) (by omega)) (by rw [ho]; exact hw _ (by omega) (by omega)) (by rw [← hrg2]; exact hw _ (by omega) (by omega)) (hw _ (by omega) (by omega)) (by unfold wrap64; omega) m1 (hw _ (by omega) (by omega)) m2 (hw _ (by omega) (by omega)) ⟨hF⟩
    · rw [if_neg hbn] at hrg2
      exact take_mid g B hB hl tk rw G V a b n p o _ _ _ R ht w0 w hI hb (right_bool n hr) (decide_eq_false (by omega)) (decide_eq_false (by omega)) (decide_eq_false (by omega)) (beq_eq_false_iff_ne.2 hbn) (by omega) (by omega)
        (hw _ (by omega) (by omega)) (by rw [hq, hp]; exact hw _ (by omega) (by omega)) (hw _ (by omega) (by omega)) (by rw [ho]; exact hw _ (by omega) (by omega)) (by rw [← hrg2]; exact hw _ (by omega) (by omega)) (hw _ (by omega) (by omega)) (by unfold wrap64; omega) m1 (hw _ (by omega) (by omega)) m2 (hw _ (by omega) (by omega)) ⟨hF⟩
  · rw [if_neg hk]
    by_cases hr : 1 ≤ n ∧ n ≤ 4096
    · have hr2 : decide (1 ≤ n ∧ n ≤ 4096) = true := decide_eq_true hr
      by_cases h1 : a < 0
      · exact take_no2 g B s a b n w0 w hI hb (right_bool n hr2) (decide_eq_true h1)
      · by_cases h2 : b ≤ a
        · exact take_no3 g B s a b n w0 w hI hb (right_bool n hr2) (decide_eq_false h1) (decide_eq_true h2)
        · exact take_no4 g B s a b n w0 w hI hb (right_bool n hr2) (decide_eq_false h1) (decide_eq_false h2) (decide_eq_true (by simp only [Rd.ok] at hk; omega))
    · exact take_no1 g B s a b n w0 w hI hb (right_bool n (decide_eq_false hr))
theorem get_is (B : List Int) (s : St) (hs : Rd.Good s) (n : Int) : OSymReads.reader_Reader_Get.f B s.t s.r s.g s.v n = some (Rd.get s n, (s.t : Int), (s.r : Int), s.g, s.v) := by
  have hg0 := hs.g0
  have hg1 := hs.g1
  have hv0 := hs.v0
  have hv1 := hs.v1
  unfold OSymReads.reader_Reader_Get.f OSymReads.reader_right.f Rd.get
  by_cases h : 1 ≤ n
  · rw [if_pos h, Option.bind_some]
    by_cases h2 : n ≤ 4096
    · have hp : 16 ≤ s.g / n := by
        have := Int.ediv_le_ediv (a := 65536) (b := s.g) (c := n) (by omega) (by omega)
        have h2 : (16 : Int) ≤ 65536 / n := (Int.le_ediv_iff_mul_le (by omega)).mpr (by omega)
        omega
      have hle : s.g / n ≤ s.g := Int.ediv_le_self n (by omega)
      have e1 : n % 4294967296 = n := by omega
      have e2 : s.g.tdiv n = s.g / n := Int.tdiv_eq_ediv_of_nonneg (by omega)
      have e3 : s.g / n % 4294967296 = s.g / n := by omega
      have e4 : s.v.tdiv (s.g / n) = s.v / (s.g / n) := Int.tdiv_eq_ediv_of_nonneg (by omega)
      have h5 : 0 ≤ s.v / (s.g / n) := Int.ediv_nonneg (by omega) (by omega)
      have h6 : s.v / (s.g / n) ≤ s.v := Int.ediv_le_self _ (by omega)
      have e5 : s.v / (s.g / n) % 4294967296 = s.v / (s.g / n) := by omega
      have e6 : wrap64 (n - 1) = n - 1 := by unfold wrap64; omega
      rw [if_pos (decide_eq_true h2), e1, if_neg (by omega), e2, e3, if_neg (by omega), e4, e5, e6, if_pos ⟨h, h2⟩, Math.mn_eq]
    · rw [if_neg (by simpa using h2), if_neg (by omega)]
  · rw [if_neg h, Option.bind_some, if_neg (by decide), if_neg (by omega)]
theorem get_any (g : Nat) (B : List Int) (s : St) (hs : Rd.Good s) (n : Int) (w0 w : World) (hI : At w0 w g B s) (hb : Below w0.heap.size w0 w) :
    Calls Tryd.prog 70 #[.pointer (some ⟨g, 0, none⟩), .int .i64 n] w fun e w' => e = .returned (.int .i64 (Rd.get s n)) ∧ At w0 w' g B s ∧ Below w0.heap.size w0 w' ∧ KeepBut w w' g none :=
  OSymReads.reader_Reader_Get.calls g B s.t s.r s.g s.v n _ _ _ _ _ w0 w hI hb (get_is B s hs n)
def left (B : List Int) (s : St) : Int := 8 * ((B.length : Int) - s.t) - s.r
theorem left_any (g : Nat) (B : List Int) (hl : B.length ≤ 10000) (s : St) (ht : s.t ≤ 10000) (hr : s.r ≤ 100000) (w0 w : World) (hI : At w0 w g B s) (hb : Below w0.heap.size w0 w) :
    Calls Tryd.prog 27 #[.pointer (some ⟨g, 0, none⟩)] w fun e w' => e = .returned (.int .i64 (left B s)) ∧ At w0 w' g B s ∧ Below w0.heap.size w0 w' ∧ KeepBut w w' g none :=
  OSymReads.reader_Reader_Left.calls g B s.t s.r s.g s.v _ _ _ _ _ w0 w hI hb (by
    unfold OSymReads.reader_Reader_Left.f left
    rw [show wrap64 (wrap64 (8 * wrap64 ((B.length : Int) - s.t)) - s.r) = 8 * ((B.length : Int) - s.t) - s.r by unfold wrap64; omega])
theorem rng_any (g : Nat) (B : List Int) (s : St) (w0 w : World) (hI : At w0 w g B s) (hb : Below w0.heap.size w0 w) :
    Calls Tryd.prog 30 #[.pointer (some ⟨g, 0, none⟩)] w fun e w' => e = .returned (.int .u32 s.g) ∧ At w0 w' g B s ∧ Below w0.heap.size w0 w' ∧ KeepBut w w' g none :=
  OSymReads.reader_Reader_Rng.calls g B s.t s.r s.g s.v _ _ _ _ _ w0 w hI hb rfl
end Go.Proofs.YtjmoklebimejaaaDoor.RdWalk
