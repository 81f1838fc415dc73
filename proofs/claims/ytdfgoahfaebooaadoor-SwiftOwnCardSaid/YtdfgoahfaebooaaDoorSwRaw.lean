import Derived.Test.YtdfgoahfaebooaaDoorSwSet
namespace Go.Proofs.YtdfgoahfaebooaaDoor.SwWalk
open Go.RowKit Go.Proofs.YtdfgoahfaebooaaDoorW.PrintWords Go.Proofs.YtdfgoahfaebooaaDoorW.PrintLast Go.Proofs.YtdfgoahfaebooaaDoorW.PrintMore
open Go.Proofs.YtdfgoahfaebooaaDoor.Rd (St by_ Bytes)
attribute [local go_sem] max2_int min2_int max_two min_two max_three min_three max_four min_four   -- for this text's walks alone
set_option linter.unusedVariables false
set_option linter.unusedSimpArgs false
theorem raw_add (B : List Int) (r a : Nat) : ∀ b, Rd.raw B r (a + b) = Rd.raw B r a + 2 ^ a * Rd.raw B (r + a) b
  | 0 => by rw [Nat.add_zero, Rd.raw]; omega
  | b + 1 => by
    rw [← Nat.add_assoc, Rd.raw, raw_add B r a b, Rd.raw, Int.mul_add, Nat.add_assoc r a b, Int.pow_add]
    rw [Int.mul_left_comm (Rd.bit B (r + (a + b)))]
    omega
theorem byte8 (B : List Int) (hB : Bytes B) (j : Nat) : Rd.raw B (8 * j) 8 = if j < B.length then by_ B (B.length - 1 - j) else 0 := by
  have hb : ∀ i, i < 8 → Rd.bit B (8 * j + i) = if j < B.length then by_ B (B.length - 1 - j) / 2 ^ i % 2 else 0 := by
    intro i hi
    unfold Rd.bit
    rw [show (8 * j + i) / 8 = j by omega, show (8 * j + i) % 8 = i by omega]
  simp only [Rd.raw]
  have h0 := hb 0 (by decide)
  rw [Nat.add_zero] at h0 ⊢
  rw [h0, hb 1 (by decide), hb 2 (by decide), hb 3 (by decide), hb 4 (by decide), hb 5 (by decide), hb 6 (by decide), hb 7 (by decide)]
  have hx := Rd.by_in hB (B.length - 1 - j)
  split
  · simp only [Int.reducePow]
    omega
  · omega
theorem or64 {x v : Int} {i : Nat} (hi : i ≤ 16) (h0 : 0 ≤ x) (h1 : x < 2 ^ i) (h2 : 0 ≤ v) (h3 : v ≤ 255) : bits .or .u64 x (v * 2 ^ i) = x + 2 ^ i * v := by
  obtain ⟨a, rfl⟩ := Int.eq_ofNat_of_zero_le h0
  obtain ⟨b, rfl⟩ := Int.eq_ofNat_of_zero_le h2
  have hpc : ((2 ^ i : Nat) : Int) = 2 ^ i := by rw [Int.natCast_pow]; rfl
  have hp : 2 ^ i ≤ 2 ^ 16 := Nat.pow_le_pow_right (by decide) hi
  have hp' : 2 ^ i ≤ 65536 := hp
  have h1' : a < 2 ^ i := by rw [← hpc] at h1; omega
  have e1 : ((b : Int) * 2 ^ i) = ((b <<< i : Nat) : Int) := by rw [Nat.shiftLeft_eq, Int.natCast_mul, hpc]
  have e2 : b <<< i ≤ 255 * 65536 := by rw [Nat.shiftLeft_eq]; exact Nat.mul_le_mul (by omega) hp'
  have key : ((BitVec.ofInt 64 (a : Int)) ||| (BitVec.ofInt 64 ((b <<< i : Nat) : Int))).toNat = a + b <<< i := by
    rw [BitVec.toNat_or, BitVec.ofInt_natCast, BitVec.ofInt_natCast, BitVec.toNat_ofNat, BitVec.toNat_ofNat, Nat.mod_eq_of_lt (by omega), Nat.mod_eq_of_lt (by omega), Nat.or_comm, ← Nat.shiftLeft_add_eq_or_of_lt h1']
    omega
  rw [Int.mul_comm (2 ^ i), e1]
  show IntKind.u64.wrap (((BitVec.ofInt 64 (a : Int)) ||| (BitVec.ofInt 64 ((b <<< i : Nat) : Int))).toNat) = _
  rw [key, wrap_u64]
  omega
theorem w64n {x : Int} (h0 : -1000000 ≤ x) (h1 : x ≤ 1000000) : wrap64 x = x := by unfold wrap64; omega
theorem RdW16 (c : Nat) (h : c ≤ 16) : (2 : Int) ^ c ≤ 65536 := by
  have h2 : 2 ^ c ≤ 2 ^ 16 := Nat.pow_le_pow_right (by decide) h
  have := Int.ofNat_le.mpr h2
  rw [Int.natCast_pow] at this
  exact this
theorem p16 {i : Nat} (h : i ≤ 24) : (0 : Int) < 2 ^ i ∧ (2 : Int) ^ i ≤ 16777216 := by
  have h2 : 2 ^ i ≤ 2 ^ 24 := Nat.pow_le_pow_right (by decide) h
  have := Int.ofNat_le.mpr h2
  rw [Int.natCast_pow] at this
  exact ⟨Int.pow_pos (by decide), this⟩
/-- The row's own block. -/
theorem SwAt.own {base g h : Nat} {w : World} {B : List Int} {s : St} (H : SwAt base w g B s h) (m : Nat) (hm : B.length = m) : ∃ (gb c0 : Nat), w.heap[g]? = some (.cells #[.slice (some ⟨gb, 0, none⟩) (m + 3) c0, .int .i64 m, .int .i64 s.t, .int .i64 s.r, .int .u32 s.g, .int .u32 s.v, .int .u64 (Rd.raw B s.r h), .int .i64 (h), .int .i64 ((m - (s.r + h) / 8 : Nat))] 59 (0, 0)) ∧ gb ≠ g ∧ base ≤ g ∧ Kd.R (Kd.int .u8) 5 w base (fun k => k ≠ g) (.slice (some ⟨gb, 0, none⟩) (m + 3) c0) (B ++ [0, 0, 0]) ∧ ∀ i, i < m + 3 → w.cell? ⟨gb, i, none⟩ = some (.int .u8 (by_ B i)) := by
  subst hm
  obtain ⟨A, c, hg, hge, hR⟩ := H
  have hl : (B ++ ([0, 0, 0] : List Int) : List Int).length = B.length + 3 := by simp
  obtain ⟨gb, cap, e, hb0, hb1, cells, hbl⟩ := Kd.R_form hR (by rw [hl]; omega)
  injection e with e1 e2 e3
  subst e1
  refine ⟨gb, c, hg, ?_, hge, hR, fun i hi => ?_⟩
  · rintro rfl
    rw [hg] at hbl
    injection hbl with hbl
    injection hbl with _ h2
    exact absurd h2 (by decide)
  · have hC : Kd.C (Kd.int .u8) w (some ⟨gb, 0, none⟩) (B ++ [0, 0, 0]).length (B ++ [0, 0, 0]) := (Kd.R_reads' hR).2.2
    rw [hl] at hC
    obtain ⟨ad, e, h⟩ := cell_C hC hi
    injection e with e
    subst e
    have h2 : (⟨gb, 0, none⟩ : Addr).add i = ⟨gb, i, none⟩ := by
      unfold Addr.add
      split
      · subst_vars; rfl
      · simp
    rw [h2] at h
    rw [h, buf_get]
set_option maxHeartbeats 4000000 in
set_option maxRecDepth 100000 in
theorem raw_mid (base g h : Nat) (B : List Int) (hB : Bytes B) (m : Nat) (hm : B.length = m) (hl : m ≤ 10000) (s : St) (hr : s.r ≤ 90000) (c : Nat) (hc16 : c ≤ 16) (q1 : ¬ (c : Int) < 0) (q2 : ¬ (16 : Int) < (c : Int)) (h8 : (s.r + h) % 8 = 0) (h7 : h ≤ 7) (w : World) (H : SwAt base w g B s h) :
    Calls Tryd.prog 16 #[.pointer (some ⟨g, 0, none⟩), .int .i64 (c : Int)] w fun e w' => ∃ h', e = .returned (.int .u32 (Rd.raw B s.r c)) ∧ SwAt base w' g B ⟨s.t, s.r + c, s.g, s.v⟩ h' ∧ (s.r + c + h') % 8 = 0 ∧ h' ≤ 7 ∧ KeepBut w w' g none ∧ Below g w w' := by
  have HBy := Aside0.mk hB
  have HMM := Aside0.mk hm
  obtain ⟨gb, c0, hg0, hne0, hge0, hR0, hrow0⟩ := H.own m hm
  have HNE := Aside0.mk hne0
  have HG : Aside0 (w.heap[g]? = some (.cells #[.slice (some ⟨gb, 0, none⟩) (m + 3) c0, .int .i64 m, .int .i64 s.t, .int .i64 s.r, .int .u32 s.g, .int .u32 s.v, .int .u64 (Rd.raw B s.r h), .int .i64 (h), .int .i64 ((m - (s.r + h) / 8 : Nat))] 59 (0, 0))) := ⟨hg0⟩
  have HROW : Aside0 (∀ W, KeepBut w W g none → Kd.R (Kd.int .u8) 5 W base (fun k => k ≠ g) (.slice (some ⟨gb, 0, none⟩) (m + 3) c0) (B ++ [0, 0, 0]) ∧ ∀ i, i < m + 3 → W.cell? ⟨gb, i, none⟩ = some (.int .u8 (by_ B i))) := ⟨fun W hk => ⟨Kd.R_keep hR0 hk (fun k hk => hk), fun i hi => keep_cell hk (hrow0 i hi) hne0⟩⟩
  have HK := Aside0.mk (KeepBut.refl w g none)
  have HB := Aside0.mk (Below.refl g w)
  have HGE := Aside0.mk hge0
  have H8 : Aside0 ((s.r + h) % 8 = 0 ∧ h ≤ 7) := ⟨h8, h7⟩
  obtain ⟨r, hr1⟩ : ∃ r, s.r = r := ⟨_, rfl⟩
  rw [hr1] at hr HG H8 ⊢
  clear hB hm hg0 hne0 hge0 hR0 hrow0 H h8 h7 hr1
  go_enter Tryd.func16, Tryd.ntmps16
  go_wp2
  go_loopw [] (fun wr => ∃ (h' : Nat), Aside0 (wr.heap[g]? = some (.cells #[.slice (some ⟨gb, 0, none⟩) (m + 3) c0, .int .i64 m, .int .i64 s.t, .int .i64 r, .int .u32 s.g, .int .u32 s.v, .int .u64 (Rd.raw B r h'), .int .i64 (h'), .int .i64 ((m - (r + h') / 8 : Nat))] 59 (0, 0))) ∧ Aside0 (KeepBut w wr g none) ∧ Aside0 (Below g w wr) ∧ Aside0 ((r + h') % 8 = 0 ∧ h' ≤ c + 7)) (fun wr => (c + 8 - (intOf ((wr.cell? ⟨g, 7, none⟩).getD (.int .i64 0))).toNat))
  case atStart => exact ⟨h, HG, HK, HB, ⟨H8.out.1, by have := H8.out.2; omega⟩⟩
  case round =>
    clear HG HK HB H8
    obtain ⟨h, HG, HK, HB, H8⟩ := hrel
    have hc6 : wr.cell? ⟨g, 6, none⟩ = some (.int .u64 (Rd.raw B r h)) := (blk_cell HG.out 6).trans rfl
    have hc7 : wr.cell? ⟨g, 7, none⟩ = some (.int .i64 h) := (blk_cell HG.out 7).trans rfl
    have hf6 := blk_frozen HG.out 6
    have hf7 := blk_frozen HG.out 7
    by_cases ht : h < c
    · have hc0 : wr.cell? ⟨g, 0, none⟩ = some (.slice (some ⟨gb, 0, none⟩) (m + 3) c0) := (blk_cell HG.out 0).trans rfl
      have hf8 := blk_frozen HG.out 8
      have hlt : (h : Int) < (c : Int) := by omega
      have hh : h ≤ 15 := by omega
      have HL8 : Aside0 (8 * ((r + h) / 8) = r + h) := ⟨by have := H8.out.1; omega⟩
      have HADD : Aside0 (Rd.raw B r (h + 8) = Rd.raw B r h + 2 ^ h * (if (r + h) / 8 < m then by_ B (m - 1 - (r + h) / 8) else 0)) := ⟨by rw [raw_add, show r + h = 8 * ((r + h) / 8) from HL8.out.symm, byte8 B HBy.out, HMM.out, HL8.out]⟩
      have HM : Aside0 (c + 8 - (h + 8) < c + 8 - h) := ⟨by omega⟩
      obtain ⟨L, hL⟩ : ∃ L, (r + h) / 8 = L := ⟨_, rfl⟩
      have hL8 : (r + (h + 8)) / 8 = L + 1 := by have := H8.out.1; omega
      have H82 : Aside0 ((r + (h + 8)) % 8 = 0 ∧ h + 8 ≤ c + 7) := ⟨by have := H8.out.1; omega⟩
      have HX := Aside0.mk (Rd.raw_in B r h)
      rw [hL] at HADD HG
      obtain ⟨X, hX⟩ : ∃ X, Rd.raw B r h = X := ⟨_, rfl⟩
      rw [hX] at hc6 HADD HG HX
      have HL9 := Aside0.mk hL8
      have j7 : IntKind.i64.wrap ((h : Int) + 8) = (h : Int) + 8 := IntWalk.i64_in _ (by omega)
      have j8 : wrap64 ((h : Int) + 8) = (h : Int) + 8 := by unfold wrap64; omega
      clear H8 hL8 hX hL
      by_cases hbk : L < m
      · obtain ⟨k, hk⟩ : ∃ k, m - L = k + 1 := ⟨m - L - 1, by omega⟩
        have hk2 : m - 1 - L = k := by omega
        have HK2 : Aside0 (m - (L + 1) = k) := ⟨by omega⟩
        rw [hk] at HG
        rw [if_pos hbk, hk2] at HADD
        have hkm : k < m + 3 := by omega
        have hkm2 : (k : Int) < (m : Int) + 3 := by omega
        have hk10 : k ≤ 10000 := by omega
        have hc8 : wr.cell? ⟨g, 8, none⟩ = some (.int .i64 ((k + 1 : Nat) : Int)) := (blk_cell HG.out 8).trans rfl
        have hxb := Rd.by_in HBy.out k
        obtain ⟨x, hx⟩ : ∃ x, by_ B k = x := ⟨_, rfl⟩
        have hrow := (HROW.out _ (KeepBut.set_ HK.out 8 (.int .i64 (k : Int)))).2 k hkm
        rw [hx] at hrow hxb HADD
        have hp := p16 (i := h) (by omega)
        have hm0 : 0 ≤ x * 2 ^ h ∧ x * 2 ^ h ≤ 255 * 16777216 := ⟨Int.mul_nonneg hxb.1 (by omega), Int.mul_le_mul hxb.2 hp.2 (by omega) (by omega)⟩
        have j1 : IntKind.u64.wrap x = x := by rw [wrap_u64]; omega
        have j2 : IntKind.u64.wrap (x * 2 ^ h) = x * 2 ^ h := by rw [wrap_u64]; omega
        have j3 : bits .or .u64 X (x * 2 ^ h) = X + 2 ^ h * x := or64 (by omega) HX.out.1 HX.out.2 hxb.1 hxb.2
        have j4 : wrap64 ((k : Int) + 1 - 1) = (k : Int) := by unfold wrap64; omega
        have j5 : (0 : Int) < (k : Int) + 1 := by omega
        clear hx hp hm0 hxb hk hk2 hbk
        rw [Int.natCast_add] at hc8
        go_wp2
        go_region
        go_wp2
        have HS3 : Aside0 ((((wr.setCell ⟨g, 8, none⟩ (.int .i64 (k : Int))).setCell ⟨g, 6, none⟩ (.int .u64 (X + 2 ^ h * x))).setCell ⟨g, 7, none⟩ (.int .i64 ((h : Int) + 8))).heap[g]? = some (.cells #[.slice (some ⟨gb, 0, none⟩) (m + 3) c0, .int .i64 m, .int .i64 s.t, .int .i64 r, .int .u32 s.g, .int .u32 s.v, .int .u64 (X + 2 ^ h * x), .int .i64 ((h : Int) + 8), .int .i64 (k)] 59 (0, 0))) := ⟨by
          have h3 := blk_set (blk_set (blk_set HG.out 8 (.int .i64 (k : Int))) 6 (.int .u64 (X + 2 ^ h * x))) 7 (.int .i64 ((h : Int) + 8))
          simpa using h3⟩
        go_roundw
        case rel =>
          refine ⟨h + 8, ⟨?_⟩, ⟨keep_drew (KeepBut.set_ (KeepBut.set_ (KeepBut.set_ HK.out 8 _) 6 _) 7 _)⟩, ⟨below_drew1 (Below.setCell (Below.setCell (Below.setCell HB.out (p := ⟨g, 8, none⟩) (Nat.le_refl _) _) (p := ⟨g, 6, none⟩) (Nat.le_refl _) _) (p := ⟨g, 7, none⟩) (Nat.le_refl _) _)⟩, H82⟩
          rw [HADD.out, HL9.out, HK2.out]
          exact HS3.out
        case measure =>
          simp only [World.cell?_drew]
          rw [(blk_cell HS3.out 7).trans rfl, hc7]
          show c + 8 - ((h : Int) + 8).toNat < c + 8 - ((h : Int)).toNat
          omega
      · have hk0 : m - L = 0 := by omega
        have HK2 : Aside0 (m - (L + 1) = 0) := ⟨by omega⟩
        rw [hk0] at HG
        rw [if_neg hbk, Int.mul_zero, Int.add_zero] at HADD
        have hc8 : wr.cell? ⟨g, 8, none⟩ = some (.int .i64 0) := (blk_cell HG.out 8).trans rfl
        clear hk0 hbk
        go_wp2
        have HS3 : Aside0 ((wr.setCell ⟨g, 7, none⟩ (.int .i64 ((h : Int) + 8))).heap[g]? = some (.cells #[.slice (some ⟨gb, 0, none⟩) (m + 3) c0, .int .i64 m, .int .i64 s.t, .int .i64 r, .int .u32 s.g, .int .u32 s.v, .int .u64 (X), .int .i64 ((h : Int) + 8), .int .i64 (((0 : Nat) : Int))] 59 (0, 0))) := ⟨by
          have h3 := blk_set HG.out 7 (.int .i64 ((h : Int) + 8))
          simpa using h3⟩
        go_roundw
        case rel =>
          refine ⟨h + 8, ⟨?_⟩, ⟨KeepBut.set_ HK.out 7 _⟩, ⟨Below.setCell HB.out (p := ⟨g, 7, none⟩) (Nat.le_refl _) _⟩, H82⟩
          rw [HADD.out, HL9.out, HK2.out]
          exact HS3.out
        case measure =>
          rw [(blk_cell HS3.out 7).trans rfl, hc7]
          show c + 8 - ((h : Int) + 8).toNat < c + 8 - ((h : Int)).toNat
          omega
    · have hc3 : wr.cell? ⟨g, 3, none⟩ = some (.int .i64 r) := (blk_cell HG.out 3).trans rfl
      have hf3 := blk_frozen HG.out 3
      have hlt : ¬ (h : Int) < (c : Int) := by omega
      obtain ⟨d, hd⟩ : ∃ d, h = c + d := ⟨h - c, by omega⟩
      have hh : h ≤ 23 := by have := H8.out.2; omega
      have HADD := Aside0.mk (raw_add B r c d)
      rw [← hd] at HADD
      have HX := Aside0.mk (Rd.raw_in B r c)
      have hp := p16 (i := c) (by omega)
      have hp2 := RdW16 c hc16
      obtain ⟨X, hX⟩ : ∃ X, Rd.raw B r h = X := ⟨_, rfl⟩
      obtain ⟨Rc, hRc⟩ : ∃ Rc, Rd.raw B r c = Rc := ⟨_, rfl⟩
      obtain ⟨X2, hX2⟩ : ∃ X2, Rd.raw B (r + c) d = X2 := ⟨_, rfl⟩
      have HX2 := Aside0.mk hX2
      rw [hX, hRc, hX2] at HADD
      rw [hX] at HG hc6
      rw [hRc] at HX
      have HD2 : Aside0 (d ≤ 7 ∧ (r + c + d) % 8 = 0 ∧ (r + h) / 8 = (r + c + d) / 8) := ⟨by have := H8.out; omega⟩
      have b6 : -1000000 ≤ (h : Int) - (c : Int) ∧ (h : Int) - (c : Int) ≤ 1000000 ∧ (h : Int) - (c : Int) = (d : Int) := by omega
      have b7 : -1000000 ≤ (r : Int) + (c : Int) ∧ (r : Int) + (c : Int) ≤ 1000000 := by omega
      have y1 : IntKind.u64.wrap (2 ^ c) = 2 ^ c := by rw [wrap_u64]; exact Int.emod_eq_of_lt (by omega) (by omega)
      have y2 : IntKind.u64.wrap (2 ^ c - 1) = 2 ^ c - 1 := by rw [wrap_u64]; exact Int.emod_eq_of_lt (by omega) (by omega)
      have y4 : IntKind.u32.wrap Rc = Rc := by rw [wrap_u32]; exact Int.emod_eq_of_lt HX.out.1 (Int.lt_of_lt_of_le HX.out.2 (Int.le_trans hp2 (by decide)))
      have y3 : bits .and .u64 X (2 ^ c - 1) = Rc := by rw [Math.and_u64 X c (Nat.le_trans hc16 (by decide)), HADD.out, Int.add_mul_emod_self_left, Int.emod_eq_of_lt HX.out.1 HX.out.2]
      have y5 : X / 2 ^ c = X2 := by rw [HADD.out, Int.add_mul_ediv_left _ _ (Int.ne_of_gt hp.1), Int.ediv_eq_zero_of_lt HX.out.1 HX.out.2, Int.zero_add]
      have HHC : Aside0 ((h : Int) - (c : Int) = (d : Int)) := ⟨by omega⟩
      have HRV : Aside0 (((r + c : Nat) : Int) = (r : Int) + (c : Int)) := ⟨by omega⟩
      clear b6 b7
      clear hp hp2 hX hX2 hd H8
      have HRc := Aside0.mk hRc
      clear hRc
      have Y4 := Aside0.mk y4
      have Y5 := Aside0.mk y5
      clear y4 y5
      go_wp2
      go_quiet (fail)
      have y4 := Y4.out
      have y5 := Y5.out
      go_wp2
      go_ret
      have HS3 := fun nq => blk_set (blk_set (blk_set (show (wr.drewN nq).heap[g]? = _ from HG.out) 6 (.int .u64 X2)) 7 (.int .i64 ((h : Int) - (c : Int)))) 3 (.int .i64 ((r : Int) + (c : Int)))
      refine ⟨d, (by rw [HRc.out]; rfl), ⟨some ⟨gb, 0, none⟩, c0, ?_, HGE.out, ?_⟩, HD2.out.2.1, HD2.out.1, ?_, ?_⟩
      · rw [HMM.out, HX2.out, ← HD2.out.2.2, ← HHC.out]
        show _ = some (Obj.cells #[.slice (some ⟨gb, 0, none⟩) (m + 3) c0, .int .i64 m, .int .i64 s.t, .int .i64 ((r + c : Nat) : Int), .int .u32 s.g, .int .u32 s.v, .int .u64 (X2), .int .i64 ((h : Int) - (c : Int)), .int .i64 ((m - (r + h) / 8 : Nat))] 59 (0, 0))
        rw [HRV.out]
        simpa using HS3 _
      · rw [HMM.out]
        exact (HROW.out _ (by repeat (first | (with_reducible first | exact HK.out | apply KeepBut.set_ | apply keep_drewN | apply keep_drew) | exact HK.out))).1
      · repeat (first | (with_reducible first | exact HK.out | apply KeepBut.set_ | apply keep_drewN | apply keep_drew) | exact HK.out)
      · exact Below.setCell (Below.setCell (Below.setCell (pw_below_drewN HB.out _) (p := ⟨g, 6, none⟩) (Nat.le_refl _) _) (p := ⟨g, 7, none⟩) (Nat.le_refl _) _) (p := ⟨g, 3, none⟩) (Nat.le_refl _) _
set_option maxHeartbeats 4000000 in
set_option maxRecDepth 100000 in
theorem raw_big (base g h : Nat) (B : List Int) (hB : Bytes B) (m : Nat) (hm : B.length = m) (hl : m ≤ 10000) (s : St) (hr : s.r ≤ 90000) (c : Nat) (n : Int) (hc16 : c ≤ 16) (hcc : c = 16) (q1 : ¬ n < 0) (q2 : (16 : Int) < n) (h8 : (s.r + h) % 8 = 0) (h7 : h ≤ 7) (w : World) (H : SwAt base w g B s h) :
    Calls Tryd.prog 16 #[.pointer (some ⟨g, 0, none⟩), .int .i64 n] w fun e w' => ∃ h', e = .returned (.int .u32 (Rd.raw B s.r c)) ∧ SwAt base w' g B ⟨s.t, s.r + c, s.g, s.v⟩ h' ∧ (s.r + c + h') % 8 = 0 ∧ h' ≤ 7 ∧ KeepBut w w' g none ∧ Below g w w' := by
  have HBy := Aside0.mk hB
  have HMM := Aside0.mk hm
  obtain ⟨gb, c0, hg0, hne0, hge0, hR0, hrow0⟩ := H.own m hm
  have HNE := Aside0.mk hne0
  have HG : Aside0 (w.heap[g]? = some (.cells #[.slice (some ⟨gb, 0, none⟩) (m + 3) c0, .int .i64 m, .int .i64 s.t, .int .i64 s.r, .int .u32 s.g, .int .u32 s.v, .int .u64 (Rd.raw B s.r h), .int .i64 (h), .int .i64 ((m - (s.r + h) / 8 : Nat))] 59 (0, 0))) := ⟨hg0⟩
  have HROW : Aside0 (∀ W, KeepBut w W g none → Kd.R (Kd.int .u8) 5 W base (fun k => k ≠ g) (.slice (some ⟨gb, 0, none⟩) (m + 3) c0) (B ++ [0, 0, 0]) ∧ ∀ i, i < m + 3 → W.cell? ⟨gb, i, none⟩ = some (.int .u8 (by_ B i))) := ⟨fun W hk => ⟨Kd.R_keep hR0 hk (fun k hk => hk), fun i hi => keep_cell hk (hrow0 i hi) hne0⟩⟩
  have HK := Aside0.mk (KeepBut.refl w g none)
  have HB := Aside0.mk (Below.refl g w)
  have HGE := Aside0.mk hge0
  have H8 : Aside0 ((s.r + h) % 8 = 0 ∧ h ≤ 7) := ⟨h8, h7⟩
  obtain ⟨r, hr1⟩ : ∃ r, s.r = r := ⟨_, rfl⟩
  rw [hr1] at hr HG H8 ⊢
  clear hB hm hg0 hne0 hge0 hR0 hrow0 H h8 h7 hr1
  go_enter Tryd.func16, Tryd.ntmps16
  go_wp2
  go_loopw [] (fun wr => ∃ (h' : Nat), Aside0 (wr.heap[g]? = some (.cells #[.slice (some ⟨gb, 0, none⟩) (m + 3) c0, .int .i64 m, .int .i64 s.t, .int .i64 r, .int .u32 s.g, .int .u32 s.v, .int .u64 (Rd.raw B r h'), .int .i64 (h'), .int .i64 ((m - (r + h') / 8 : Nat))] 59 (0, 0))) ∧ Aside0 (KeepBut w wr g none) ∧ Aside0 (Below g w wr) ∧ Aside0 ((r + h') % 8 = 0 ∧ h' ≤ c + 7)) (fun wr => (c + 8 - (intOf ((wr.cell? ⟨g, 7, none⟩).getD (.int .i64 0))).toNat))
  case atStart => exact ⟨h, HG, HK, HB, ⟨H8.out.1, by have := H8.out.2; omega⟩⟩
  case round =>
    clear HG HK HB H8
    obtain ⟨h, HG, HK, HB, H8⟩ := hrel
    have hc6 : wr.cell? ⟨g, 6, none⟩ = some (.int .u64 (Rd.raw B r h)) := (blk_cell HG.out 6).trans rfl
    have hc7 : wr.cell? ⟨g, 7, none⟩ = some (.int .i64 h) := (blk_cell HG.out 7).trans rfl
    have hf6 := blk_frozen HG.out 6
    have hf7 := blk_frozen HG.out 7
    by_cases ht : h < c
    · have hc0 : wr.cell? ⟨g, 0, none⟩ = some (.slice (some ⟨gb, 0, none⟩) (m + 3) c0) := (blk_cell HG.out 0).trans rfl
      have hf8 := blk_frozen HG.out 8
      have hlt : (h : Int) < 16 := by omega
      have hh : h ≤ 15 := by omega
      have HL8 : Aside0 (8 * ((r + h) / 8) = r + h) := ⟨by have := H8.out.1; omega⟩
      have HADD : Aside0 (Rd.raw B r (h + 8) = Rd.raw B r h + 2 ^ h * (if (r + h) / 8 < m then by_ B (m - 1 - (r + h) / 8) else 0)) := ⟨by rw [raw_add, show r + h = 8 * ((r + h) / 8) from HL8.out.symm, byte8 B HBy.out, HMM.out, HL8.out]⟩
      have HM : Aside0 (c + 8 - (h + 8) < c + 8 - h) := ⟨by omega⟩
      obtain ⟨L, hL⟩ : ∃ L, (r + h) / 8 = L := ⟨_, rfl⟩
      have hL8 : (r + (h + 8)) / 8 = L + 1 := by have := H8.out.1; omega
      have H82 : Aside0 ((r + (h + 8)) % 8 = 0 ∧ h + 8 ≤ c + 7) := ⟨by have := H8.out.1; omega⟩
      have HX := Aside0.mk (Rd.raw_in B r h)
      rw [hL] at HADD HG
      obtain ⟨X, hX⟩ : ∃ X, Rd.raw B r h = X := ⟨_, rfl⟩
      rw [hX] at hc6 HADD HG HX
      have HL9 := Aside0.mk hL8
      have j7 : IntKind.i64.wrap ((h : Int) + 8) = (h : Int) + 8 := IntWalk.i64_in _ (by omega)
      have j8 : wrap64 ((h : Int) + 8) = (h : Int) + 8 := by unfold wrap64; omega
      clear H8 hL8 hX hL
      by_cases hbk : L < m
      · obtain ⟨k, hk⟩ : ∃ k, m - L = k + 1 := ⟨m - L - 1, by omega⟩
        have hk2 : m - 1 - L = k := by omega
        have HK2 : Aside0 (m - (L + 1) = k) := ⟨by omega⟩
        rw [hk] at HG
        rw [if_pos hbk, hk2] at HADD
        have hkm : k < m + 3 := by omega
        have hkm2 : (k : Int) < (m : Int) + 3 := by omega
        have hk10 : k ≤ 10000 := by omega
        have hc8 : wr.cell? ⟨g, 8, none⟩ = some (.int .i64 ((k + 1 : Nat) : Int)) := (blk_cell HG.out 8).trans rfl
        have hxb := Rd.by_in HBy.out k
        obtain ⟨x, hx⟩ : ∃ x, by_ B k = x := ⟨_, rfl⟩
        have hrow := (HROW.out _ (KeepBut.set_ HK.out 8 (.int .i64 (k : Int)))).2 k hkm
        rw [hx] at hrow hxb HADD
        have hp := p16 (i := h) (by omega)
        have hm0 : 0 ≤ x * 2 ^ h ∧ x * 2 ^ h ≤ 255 * 16777216 := ⟨Int.mul_nonneg hxb.1 (by omega), Int.mul_le_mul hxb.2 hp.2 (by omega) (by omega)⟩
        have j1 : IntKind.u64.wrap x = x := by rw [wrap_u64]; omega
        have j2 : IntKind.u64.wrap (x * 2 ^ h) = x * 2 ^ h := by rw [wrap_u64]; omega
        have j3 : bits .or .u64 X (x * 2 ^ h) = X + 2 ^ h * x := or64 (by omega) HX.out.1 HX.out.2 hxb.1 hxb.2
        have j4 : wrap64 ((k : Int) + 1 - 1) = (k : Int) := by unfold wrap64; omega
        have j5 : (0 : Int) < (k : Int) + 1 := by omega
        clear hx hp hm0 hxb hk hk2 hbk
        rw [Int.natCast_add] at hc8
        go_wp2
        go_region
        go_wp2
        have HS3 : Aside0 ((((wr.setCell ⟨g, 8, none⟩ (.int .i64 (k : Int))).setCell ⟨g, 6, none⟩ (.int .u64 (X + 2 ^ h * x))).setCell ⟨g, 7, none⟩ (.int .i64 ((h : Int) + 8))).heap[g]? = some (.cells #[.slice (some ⟨gb, 0, none⟩) (m + 3) c0, .int .i64 m, .int .i64 s.t, .int .i64 r, .int .u32 s.g, .int .u32 s.v, .int .u64 (X + 2 ^ h * x), .int .i64 ((h : Int) + 8), .int .i64 (k)] 59 (0, 0))) := ⟨by
          have h3 := blk_set (blk_set (blk_set HG.out 8 (.int .i64 (k : Int))) 6 (.int .u64 (X + 2 ^ h * x))) 7 (.int .i64 ((h : Int) + 8))
          simpa using h3⟩
        go_roundw
        case rel =>
          refine ⟨h + 8, ⟨?_⟩, ⟨keep_drew (KeepBut.set_ (KeepBut.set_ (KeepBut.set_ HK.out 8 _) 6 _) 7 _)⟩, ⟨below_drew1 (Below.setCell (Below.setCell (Below.setCell HB.out (p := ⟨g, 8, none⟩) (Nat.le_refl _) _) (p := ⟨g, 6, none⟩) (Nat.le_refl _) _) (p := ⟨g, 7, none⟩) (Nat.le_refl _) _)⟩, H82⟩
          rw [HADD.out, HL9.out, HK2.out]
          exact HS3.out
        case measure =>
          simp only [World.cell?_drew]
          rw [(blk_cell HS3.out 7).trans rfl, hc7]
          show c + 8 - ((h : Int) + 8).toNat < c + 8 - ((h : Int)).toNat
          omega
      · have hk0 : m - L = 0 := by omega
        have HK2 : Aside0 (m - (L + 1) = 0) := ⟨by omega⟩
        rw [hk0] at HG
        rw [if_neg hbk, Int.mul_zero, Int.add_zero] at HADD
        have hc8 : wr.cell? ⟨g, 8, none⟩ = some (.int .i64 0) := (blk_cell HG.out 8).trans rfl
        clear hk0 hbk
        go_wp2
        have HS3 : Aside0 ((wr.setCell ⟨g, 7, none⟩ (.int .i64 ((h : Int) + 8))).heap[g]? = some (.cells #[.slice (some ⟨gb, 0, none⟩) (m + 3) c0, .int .i64 m, .int .i64 s.t, .int .i64 r, .int .u32 s.g, .int .u32 s.v, .int .u64 (X), .int .i64 ((h : Int) + 8), .int .i64 (((0 : Nat) : Int))] 59 (0, 0))) := ⟨by
          have h3 := blk_set HG.out 7 (.int .i64 ((h : Int) + 8))
          simpa using h3⟩
        go_roundw
        case rel =>
          refine ⟨h + 8, ⟨?_⟩, ⟨KeepBut.set_ HK.out 7 _⟩, ⟨Below.setCell HB.out (p := ⟨g, 7, none⟩) (Nat.le_refl _) _⟩, H82⟩
          rw [HADD.out, HL9.out, HK2.out]
          exact HS3.out
        case measure =>
          rw [(blk_cell HS3.out 7).trans rfl, hc7]
          show c + 8 - ((h : Int) + 8).toNat < c + 8 - ((h : Int)).toNat
          omega
    · have hc3 : wr.cell? ⟨g, 3, none⟩ = some (.int .i64 r) := (blk_cell HG.out 3).trans rfl
      have hf3 := blk_frozen HG.out 3
      have hlt : ¬ (h : Int) < 16 := by omega
      obtain ⟨d, hd⟩ : ∃ d, h = c + d := ⟨h - c, by omega⟩
      have hh : h ≤ 23 := by have := H8.out.2; omega
      have HADD := Aside0.mk (raw_add B r c d)
      rw [← hd] at HADD
      have HX := Aside0.mk (Rd.raw_in B r c)
      have hp := p16 (i := c) (by omega)
      have hp2 := RdW16 c hc16
      obtain ⟨X, hX⟩ : ∃ X, Rd.raw B r h = X := ⟨_, rfl⟩
      obtain ⟨Rc, hRc⟩ : ∃ Rc, Rd.raw B r c = Rc := ⟨_, rfl⟩
      obtain ⟨X2, hX2⟩ : ∃ X2, Rd.raw B (r + c) d = X2 := ⟨_, rfl⟩
      have HX2 := Aside0.mk hX2
      rw [hX, hRc, hX2] at HADD
      rw [hX] at HG hc6
      rw [hRc] at HX
      have HD2 : Aside0 (d ≤ 7 ∧ (r + c + d) % 8 = 0 ∧ (r + h) / 8 = (r + c + d) / 8) := ⟨by have := H8.out; omega⟩
      have b6 : -1000000 ≤ (h : Int) - (c : Int) ∧ (h : Int) - (c : Int) ≤ 1000000 ∧ (h : Int) - (c : Int) = (d : Int) := by omega
      have b7 : -1000000 ≤ (r : Int) + (c : Int) ∧ (r : Int) + (c : Int) ≤ 1000000 := by omega
      have y1 : IntKind.u64.wrap (2 ^ c) = 2 ^ c := by rw [wrap_u64]; exact Int.emod_eq_of_lt (by omega) (by omega)
      have y2 : IntKind.u64.wrap (2 ^ c - 1) = 2 ^ c - 1 := by rw [wrap_u64]; exact Int.emod_eq_of_lt (by omega) (by omega)
      have y4 : IntKind.u32.wrap Rc = Rc := by rw [wrap_u32]; exact Int.emod_eq_of_lt HX.out.1 (Int.lt_of_lt_of_le HX.out.2 (Int.le_trans hp2 (by decide)))
      have y3 : bits .and .u64 X (2 ^ c - 1) = Rc := by rw [Math.and_u64 X c (Nat.le_trans hc16 (by decide)), HADD.out, Int.add_mul_emod_self_left, Int.emod_eq_of_lt HX.out.1 HX.out.2]
      have y5 : X / 2 ^ c = X2 := by rw [HADD.out, Int.add_mul_ediv_left _ _ (Int.ne_of_gt hp.1), Int.ediv_eq_zero_of_lt HX.out.1 HX.out.2, Int.zero_add]
      have HHC : Aside0 ((h : Int) - 16 = (d : Int)) := ⟨by omega⟩
      have HRV : Aside0 (((r + c : Nat) : Int) = (r : Int) + 16) := ⟨by omega⟩
      clear b6 b7
      clear hp hp2 hX hX2 hd H8
      have HRc := Aside0.mk hRc
      clear hRc
      have z1 : bits .and .u64 X 65535 = Rc := by have h := y3; rw [hcc] at h; simpa using h
      have z2 : X / 65536 = X2 := by have h := y5; rw [hcc] at h; simpa using h
      have Y4 := Aside0.mk y4
      have Y5 := Aside0.mk y5
      clear y4 y5
      go_wp2
      go_quiet (fail)
      have y4 := Y4.out
      have y5 := Y5.out
      go_wp2
      go_ret
      have HS3 := fun nq => blk_set (blk_set (blk_set (show (wr.drewN nq).heap[g]? = _ from HG.out) 6 (.int .u64 X2)) 7 (.int .i64 ((h : Int) - 16))) 3 (.int .i64 ((r : Int) + 16))
      refine ⟨d, (by rw [HRc.out]; rfl), ⟨some ⟨gb, 0, none⟩, c0, ?_, HGE.out, ?_⟩, HD2.out.2.1, HD2.out.1, ?_, ?_⟩
      · rw [HMM.out, HX2.out, ← HD2.out.2.2, ← HHC.out]
        show _ = some (Obj.cells #[.slice (some ⟨gb, 0, none⟩) (m + 3) c0, .int .i64 m, .int .i64 s.t, .int .i64 ((r + c : Nat) : Int), .int .u32 s.g, .int .u32 s.v, .int .u64 (X2), .int .i64 ((h : Int) - 16), .int .i64 ((m - (r + h) / 8 : Nat))] 59 (0, 0))
        rw [HRV.out]
        simpa using HS3 _
      · rw [HMM.out]
        exact (HROW.out _ (by repeat (first | (with_reducible first | exact HK.out | apply KeepBut.set_ | apply keep_drewN | apply keep_drew) | exact HK.out))).1
      · repeat (first | (with_reducible first | exact HK.out | apply KeepBut.set_ | apply keep_drewN | apply keep_drew) | exact HK.out)
      · exact Below.setCell (Below.setCell (Below.setCell (pw_below_drewN HB.out _) (p := ⟨g, 6, none⟩) (Nat.le_refl _) _) (p := ⟨g, 7, none⟩) (Nat.le_refl _) _) (p := ⟨g, 3, none⟩) (Nat.le_refl _) _
set_option maxHeartbeats 4000000 in
set_option maxRecDepth 100000 in
theorem raw_neg (base g h : Nat) (B : List Int) (hB : Bytes B) (m : Nat) (hm : B.length = m) (hl : m ≤ 10000) (s : St) (hr : s.r ≤ 90000) (c : Nat) (n : Int) (hc16 : c ≤ 16) (hcc : c = 0) (q1 : n < 0) (h8 : (s.r + h) % 8 = 0) (h7 : h ≤ 7) (w : World) (H : SwAt base w g B s h) :
    Calls Tryd.prog 16 #[.pointer (some ⟨g, 0, none⟩), .int .i64 n] w fun e w' => ∃ h', e = .returned (.int .u32 (Rd.raw B s.r c)) ∧ SwAt base w' g B ⟨s.t, s.r + c, s.g, s.v⟩ h' ∧ (s.r + c + h') % 8 = 0 ∧ h' ≤ 7 ∧ KeepBut w w' g none ∧ Below g w w' := by
  have HBy := Aside0.mk hB
  have HMM := Aside0.mk hm
  obtain ⟨gb, c0, hg0, hne0, hge0, hR0, hrow0⟩ := H.own m hm
  have HNE := Aside0.mk hne0
  have HG : Aside0 (w.heap[g]? = some (.cells #[.slice (some ⟨gb, 0, none⟩) (m + 3) c0, .int .i64 m, .int .i64 s.t, .int .i64 s.r, .int .u32 s.g, .int .u32 s.v, .int .u64 (Rd.raw B s.r h), .int .i64 (h), .int .i64 ((m - (s.r + h) / 8 : Nat))] 59 (0, 0))) := ⟨hg0⟩
  have HROW : Aside0 (∀ W, KeepBut w W g none → Kd.R (Kd.int .u8) 5 W base (fun k => k ≠ g) (.slice (some ⟨gb, 0, none⟩) (m + 3) c0) (B ++ [0, 0, 0]) ∧ ∀ i, i < m + 3 → W.cell? ⟨gb, i, none⟩ = some (.int .u8 (by_ B i))) := ⟨fun W hk => ⟨Kd.R_keep hR0 hk (fun k hk => hk), fun i hi => keep_cell hk (hrow0 i hi) hne0⟩⟩
  have HK := Aside0.mk (KeepBut.refl w g none)
  have HB := Aside0.mk (Below.refl g w)
  have HGE := Aside0.mk hge0
  have H8 : Aside0 ((s.r + h) % 8 = 0 ∧ h ≤ 7) := ⟨h8, h7⟩
  obtain ⟨r, hr1⟩ : ∃ r, s.r = r := ⟨_, rfl⟩
  rw [hr1] at hr HG H8 ⊢
  clear hB hm hg0 hne0 hge0 hR0 hrow0 H h8 h7 hr1
  go_enter Tryd.func16, Tryd.ntmps16
  go_wp2
  go_loopw [] (fun wr => ∃ (h' : Nat), Aside0 (wr.heap[g]? = some (.cells #[.slice (some ⟨gb, 0, none⟩) (m + 3) c0, .int .i64 m, .int .i64 s.t, .int .i64 r, .int .u32 s.g, .int .u32 s.v, .int .u64 (Rd.raw B r h'), .int .i64 (h'), .int .i64 ((m - (r + h') / 8 : Nat))] 59 (0, 0))) ∧ Aside0 (KeepBut w wr g none) ∧ Aside0 (Below g w wr) ∧ Aside0 ((r + h') % 8 = 0 ∧ h' ≤ c + 7)) (fun wr => (c + 8 - (intOf ((wr.cell? ⟨g, 7, none⟩).getD (.int .i64 0))).toNat))
  case atStart => exact ⟨h, HG, HK, HB, ⟨H8.out.1, by have := H8.out.2; omega⟩⟩
  case round =>
    clear HG HK HB H8
    obtain ⟨h, HG, HK, HB, H8⟩ := hrel
    have hc6 : wr.cell? ⟨g, 6, none⟩ = some (.int .u64 (Rd.raw B r h)) := (blk_cell HG.out 6).trans rfl
    have hc7 : wr.cell? ⟨g, 7, none⟩ = some (.int .i64 h) := (blk_cell HG.out 7).trans rfl
    have hf6 := blk_frozen HG.out 6
    have hf7 := blk_frozen HG.out 7
    by_cases ht : h < c
    · exfalso; omega
    · have hc3 : wr.cell? ⟨g, 3, none⟩ = some (.int .i64 r) := (blk_cell HG.out 3).trans rfl
      have hf3 := blk_frozen HG.out 3
      have hlt : ¬ (h : Int) < 0 := by omega
      obtain ⟨d, hd⟩ : ∃ d, h = c + d := ⟨h - c, by omega⟩
      have hh : h ≤ 23 := by have := H8.out.2; omega
      have HADD := Aside0.mk (raw_add B r c d)
      rw [← hd] at HADD
      have HX := Aside0.mk (Rd.raw_in B r c)
      have hp := p16 (i := c) (by omega)
      have hp2 := RdW16 c hc16
      obtain ⟨X, hX⟩ : ∃ X, Rd.raw B r h = X := ⟨_, rfl⟩
      obtain ⟨Rc, hRc⟩ : ∃ Rc, Rd.raw B r c = Rc := ⟨_, rfl⟩
      obtain ⟨X2, hX2⟩ : ∃ X2, Rd.raw B (r + c) d = X2 := ⟨_, rfl⟩
      have HX2 := Aside0.mk hX2
      rw [hX, hRc, hX2] at HADD
      rw [hX] at HG hc6
      rw [hRc] at HX
      have HD2 : Aside0 (d ≤ 7 ∧ (r + c + d) % 8 = 0 ∧ (r + h) / 8 = (r + c + d) / 8) := ⟨by have := H8.out; omega⟩
      have b6 : -1000000 ≤ (h : Int) - (c : Int) ∧ (h : Int) - (c : Int) ≤ 1000000 ∧ (h : Int) - (c : Int) = (d : Int) := by omega
      have b7 : -1000000 ≤ (r : Int) + (c : Int) ∧ (r : Int) + (c : Int) ≤ 1000000 := by omega
      have y1 : IntKind.u64.wrap (2 ^ c) = 2 ^ c := by rw [wrap_u64]; exact Int.emod_eq_of_lt (by omega) (by omega)
      have y2 : IntKind.u64.wrap (2 ^ c - 1) = 2 ^ c - 1 := by rw [wrap_u64]; exact Int.emod_eq_of_lt (by omega) (by omega)
      have y4 : IntKind.u32.wrap Rc = Rc := by rw [wrap_u32]; exact Int.emod_eq_of_lt HX.out.1 (Int.lt_of_lt_of_le HX.out.2 (Int.le_trans hp2 (by decide)))
      have y3 : bits .and .u64 X (2 ^ c - 1) = Rc := by rw [Math.and_u64 X c (Nat.le_trans hc16 (by decide)), HADD.out, Int.add_mul_emod_self_left, Int.emod_eq_of_lt HX.out.1 HX.out.2]
      have y5 : X / 2 ^ c = X2 := by rw [HADD.out, Int.add_mul_ediv_left _ _ (Int.ne_of_gt hp.1), Int.ediv_eq_zero_of_lt HX.out.1 HX.out.2, Int.zero_add]
      have HHC : Aside0 ((h : Int) = (d : Int)) := ⟨by omega⟩
      have HRV : Aside0 (((r + c : Nat) : Int) = (r : Int)) := ⟨by omega⟩
      clear b6 b7
      clear hp hp2 hX hX2 hd H8
      have HRc := Aside0.mk hRc
      clear hRc
      have z1 : bits .and .u64 X 0 = Rc := by have h := y3; rw [hcc] at h; simpa using h
      have hXX : X2 = X := by have h := y5; rw [hcc] at h; simpa using h.symm
      subst hXX
      have Y4 := Aside0.mk y4
      have Y5 := Aside0.mk y5
      clear y4 y5
      go_wp2
      go_quiet (fail)
      have y4 := Y4.out
      have y5 := Y5.out
      go_wp2
      go_ret
      have HS3 := fun nq => blk_set (blk_set (blk_set (show (wr.drewN nq).heap[g]? = _ from HG.out) 6 (.int .u64 X2)) 7 (.int .i64 ((h : Int)))) 3 (.int .i64 ((r : Int)))
      refine ⟨d, (by rw [HRc.out]; rfl), ⟨some ⟨gb, 0, none⟩, c0, ?_, HGE.out, ?_⟩, HD2.out.2.1, HD2.out.1, ?_, ?_⟩
      · rw [HMM.out, HX2.out, ← HD2.out.2.2, ← HHC.out]
        show _ = some (Obj.cells #[.slice (some ⟨gb, 0, none⟩) (m + 3) c0, .int .i64 m, .int .i64 s.t, .int .i64 ((r + c : Nat) : Int), .int .u32 s.g, .int .u32 s.v, .int .u64 (X2), .int .i64 ((h : Int)), .int .i64 ((m - (r + h) / 8 : Nat))] 59 (0, 0))
        rw [HRV.out]
        simpa using HS3 _
      · rw [HMM.out]
        exact (HROW.out _ (by repeat (first | (with_reducible first | exact HK.out | apply KeepBut.set_ | apply keep_drewN | apply keep_drew) | exact HK.out))).1
      · repeat (first | (with_reducible first | exact HK.out | apply KeepBut.set_ | apply keep_drewN | apply keep_drew) | exact HK.out)
      · exact Below.setCell (Below.setCell (Below.setCell (pw_below_drewN HB.out _) (p := ⟨g, 6, none⟩) (Nat.le_refl _) _) (p := ⟨g, 7, none⟩) (Nat.le_refl _) _) (p := ⟨g, 3, none⟩) (Nat.le_refl _) _
end Go.Proofs.YtdfgoahfaebooaaDoor.SwWalk
