import Derived.Test.YtjmoklebimejaaaDoorRfPut
namespace Go.Proofs.YtjmoklebimejaaaDoor.RfWalk
open Go.RowKit Go.Proofs.YtjmoklebimejaaaDoorW.PrintWords Go.Proofs.YtjmoklebimejaaaDoorW.PrintLast Go.Proofs.YtjmoklebimejaaaDoorW.PrintMore
open Go.Proofs.YtjmoklebimejaaaDoor.Wr (St dig dig_len)
open Go.Proofs.YtjmoklebimejaaaDoor.WrWalk
open Go.Proofs.YtjmoklebimejaaaDoor.WrLaw
open Go.Proofs.YtjmoklebimejaaaDoor.Rf (b2i)
open Go.Proofs.YtjmoklebimejaaaDoor.Pack (bitsOf bi rb pb pk pk_len)
attribute [local go_sem] max2_int min2_int max_two min_two max_three min_three max_four min_four   -- for this text's walks alone
set_option linter.unusedVariables false
set_option linter.unusedSimpArgs false
set_option maxHeartbeats 2000000 in
set_option maxRecDepth 100000 in
theorem same_any (A0 : Option Addr) (c0 : Nat) (A1 : Option Addr) (c1 : Nat) (m : Nat) (L : List Int) (w : World) (hm : m ≤ 10000) (hb : ∀ x ∈ L, 0 ≤ x ∧ x ≤ 255) (h0 : Kd.C (Kd.int .u8) w A0 m L) (h1 : Kd.C (Kd.int .i64) w A1 m L) :
    Calls Tryd.prog 16 #[.slice A0 m c0, .slice A1 m c1] w fun e w' => e = .returned (.bool true) ∧ Below w.heap.size w w' := by
  have HB := Aside0.mk (Below.refl w.heap.size w)
  have H0 := Aside0.mk h0
  have H1 := Aside0.mk h1
  have HBY := Aside0.mk hb
  have HL : Aside0 (L.length = m) := ⟨h0.1⟩
  clear h0 h1 hb
  go_enter Tryd.func16, Tryd.ntmps16
  go_wp2
  go_loopw [13] (fun iv wr => ∃ j : Nat, j ≤ m ∧ iv = .int .i64 (j : Int) ∧ Aside0 (Below w.heap.size w wr)) (fun iv _ => m - (intOf iv).toNat)
  case atStart => exact ⟨0, Nat.zero_le _, rfl, HB⟩
  case round =>
    obtain ⟨j, hj, rfl, HB'⟩ := hrel
    clear HB
    by_cases hjm : j < m
    · obtain ⟨a0, hA0, hc0⟩ := Kd.at_int (Kd.C_below H0.out HB'.out) (j : Int) (by omega) (by omega)
      obtain ⟨a1, hA1, hc1⟩ := Kd.at_int (Kd.C_below H1.out HB'.out) (j : Int) (by omega) (by omega)
      subst hA0
      subst hA1
      have hyb : 0 ≤ rd L (j : Int) ∧ rd L (j : Int) ≤ 255 := by
        unfold rd
        rw [Int.toNat_natCast, List.getD_eq_getElem?_getD, List.getElem?_eq_getElem (by rw [HL.out]; exact hjm)]
        exact HBY.out _ (List.getElem_mem _)
      obtain ⟨y, hy⟩ : ∃ y, rd L (j : Int) = y := ⟨_, rfl⟩
      rw [hy] at hc0 hc1 hyb
      rw [Int.toNat_natCast] at hc0 hc1
      obtain ⟨hy0, hy1⟩ := hyb
      have hjm' : (j : Int) < (m : Int) := by omega
      clear hy
      go_wp2
      repeat (go_quiet (fail); try go_wp2)
      go_roundw
      case rel => exact ⟨j + 1, by omega, by simp, (by first | exact HB' | exact ⟨pw_below_drewN HB'.out _⟩ | exact ⟨below_drew1 HB'.out⟩)⟩
      case measure => simp [intOf]; omega
    · have hjm' : ¬ (j : Int) < (m : Int) := by omega
      go_wp2
      go_ret
      exact ⟨rfl, HB'.out⟩
/-- The raw bits of a byte, the first k of them. -/
def rbk (R : List Bool) (b : Nat) : Nat → Int
  | 0 => 0
  | k + 1 => rbk R b k + bi R (b + k) * 2 ^ k
theorem rbk_8 (R : List Bool) (i : Nat) : rbk R (i * 8) 8 = rb R i := by
  simp only [rbk, rb, Int.reducePow, Nat.add_zero]
  omega
theorem rbk_in (R : List Bool) (b : Nat) : ∀ k, 0 ≤ rbk R b k ∧ rbk R b k < 2 ^ k
  | 0 => by simp [rbk]
  | k + 1 => by
    have h := rbk_in R b k
    have hb := Pack.bi_in R (b + k)
    rw [rbk, Int.pow_succ]
    rcases (by omega : bi R (b + k) = 0 ∨ bi R (b + k) = 1) with e | e <;> rw [e] <;> omega
theorem pow_8 {k : Nat} (h : k ≤ 8) : (1 : Int) ≤ 2 ^ k ∧ (2 : Int) ^ k ≤ 256 := by
  have h1 : (0 : Int) < 2 ^ k := Int.pow_pos (by decide)
  have h2 : 2 ^ k ≤ 2 ^ 8 := Nat.pow_le_pow_right (by decide) h
  have h3 : 2 ^ k ≤ 256 := h2
  have e : ((2 ^ k : Nat) : Int) = 2 ^ k := by rw [Int.natCast_pow]; rfl
  rw [← e] at h1 ⊢
  omega
theorem b2i_bi (R : List Bool) (b : Nat) (h : b < R.length) : (R.map b2i).getD b 0 = bi R b := by
  unfold bi b2i
  rw [List.getD_eq_getElem?_getD, List.getElem?_map, List.getElem?_eq_getElem h, List.getD_eq_getElem?_getD, List.getElem?_eq_getElem h]
  rfl
set_option maxHeartbeats 4000000 in
set_option maxRecDepth 100000 in
theorem packet_any (ok : Nat → Prop) (g n : Nat) (s : St) (R : List Bool) (w : World) (H : RfAt ok w g n s R) (hn : n ≤ 1275) (hR : R.length ≤ 20000) (hm : s.m ≤ 900) :
    Calls Tryd.prog 17 #[.pointer (some ⟨g, 0, none⟩)] w fun e w' => ∃ v, e = .returned v ∧ Kd.R (Kd.int .i64) 3 w' 0 (fun k => w.heap.size ≤ k) v (pk n s.m s.V R) ∧ Below w.heap.size w w' := by
  have HB := Aside0.mk (Below.refl w.heap.size w)
  obtain ⟨vb, vr, hg, ho, hD, hRr⟩ := H
  obtain ⟨A3, c3, rfl⟩ := Kd.R_slice hD
  obtain ⟨A4, c4, rfl⟩ := Kd.R_slice hRr
  rw [dig_len] at hg hD
  obtain ⟨rl, hrl⟩ : ∃ rl, (R.map b2i).length = rl := ⟨_, rfl⟩
  rw [hrl] at hg hRr
  obtain ⟨M, hM⟩ : ∃ M, s.m + 3 = M := ⟨_, rfl⟩
  rw [hM] at hg hD
  obtain ⟨DD, hDD⟩ : ∃ DD, dig s.V M = DD := ⟨_, rfl⟩
  have hDl : DD.length = M := by rw [← hDD, dig_len]
  have hDb : ∀ x ∈ DD, 0 ≤ x ∧ x ≤ 255 := by rw [← hDD]; exact Wr.dig_in _ _
  rw [hDD] at hD
  have hrl2 : R.length = rl := by rw [← hrl, List.length_map]
  have HG := Aside0.mk hg
  have HD := Aside0.mk hD
  have HRR := Aside0.mk hRr
  have HDL := Aside0.mk (And.intro hDl hDb)
  have HRL := Aside0.mk (And.intro hrl hrl2)
  have HPB : Aside0 (∀ i, pb n s.m s.V R i = (if i < M then DD.getD i 0 else 0) + rb R (n - 1 - i)) := ⟨fun i => by unfold pb; rw [hM, hDD]⟩
  have HCF : Aside0 (∀ wz, Below w.heap.size w wz → wz.cell? ⟨g, 0, none⟩ = some (.int .i64 n) ∧ wz.cell? ⟨g, 2, none⟩ = some (.slice A3 M c3) ∧ wz.cell? ⟨g, 3, none⟩ = some (.slice A4 rl c4)) := ⟨fun wz hb => by
    have h := (hb.block g (blk_lt hg)).trans hg
    exact ⟨(blk_cell h 0).trans rfl, (blk_cell h 2).trans rfl, (blk_cell h 3).trans rfl⟩⟩
  obtain ⟨hc0, hc2, hc3⟩ := HCF.out w HB.out
  have hM2 : M ≤ 1000 := by omega
  have hrl3 : rl ≤ 20000 := by omega
  clear hg ho hD hRr hrl hM hDD hDl hDb hrl2 hR hm
  have HO : Aside0 (Kd.R (Kd.int .i64) 3 w 0 (fun k => w.heap.size ≤ k) (.slice none 0 0) ((List.range 0).map (pb n s.m s.V R))) := ⟨Kd.R_nil _ _ _ _ _⟩
  go_enter Tryd.func17, Tryd.ntmps17
  go_wp2
  go_loopw [3, 4] (fun vo iv wr => ∃ i : Nat, i ≤ n ∧ iv = .int .i64 (i : Int) ∧ Aside0 (Kd.R (Kd.int .i64) 3 wr 0 (fun k => w.heap.size ≤ k) vo ((List.range i).map (pb n s.m s.V R))) ∧ Aside0 (Below w.heap.size w wr)) (fun _ iv _ => n - (intOf iv).toNat)
  case atStart => exact ⟨0, Nat.zero_le _, rfl, HO, HB⟩
  case round =>
    obtain ⟨i, hi, rfl, HO', HB'⟩ := hrel
    clear HO HB hc0 hc2 hc3
    obtain ⟨hc0, hc2, hc3⟩ := HCF.out wr HB'.out
    by_cases hin : i < n
    · have hin' : (i : Int) < (n : Int) := by omega
      obtain ⟨d0, hd0⟩ : ∃ d, (if i < M then DD.getD i 0 else 0) = d := ⟨_, rfl⟩
      have hd0b : 0 ≤ d0 ∧ d0 ≤ 255 := by
        rw [← hd0]
        split
        · rename_i h
          rw [List.getD_eq_getElem?_getD, List.getElem?_eq_getElem (by rw [HDL.out.1]; exact h)]
          exact HDL.out.2 _ (List.getElem_mem _)
        · omega
      have hcell : ∀ (h : i < M), ∃ gd, A3 = some ⟨gd, 0, none⟩ ∧ wr.cell? ⟨gd, i, none⟩ = some (.int .i64 d0) := fun h => by
        have h2 := Kd.R_below HD.out HB'.out
        obtain ⟨gd, c', he⟩ := R_openI h2 (by rw [HDL.out.1]; omega)
        injection he with h3 h4 h5
        subst h3
        have h6 := (Kd.R_cell (xs := DD) (0 : Int) (by rw [HDL.out.1]; exact h2) (i : Int) (by omega) (by rw [HDL.out.1]; omega)).1
        rw [Int.toNat_natCast] at h6
        refine ⟨gd, rfl, ?_⟩
        rw [h6, ← hd0, if_pos h]
        unfold rdOf
        rw [Int.toNat_natCast]
      obtain ⟨q, hq⟩ : ∃ q, n - 1 - i = q := ⟨_, rfl⟩
      have hqi : (n : Int) - 1 - (i : Int) = (q : Int) := by omega
      have hq2 : q ≤ 1274 := by omega
      have HPI : Aside0 (pb n s.m s.V R i = d0 + rbk R (q * 8) 8) := ⟨by rw [HPB.out, hd0, hq, rbk_8]⟩
      obtain ⟨hd00, hd01⟩ := hd0b
      have hd0z : ¬ i < M → d0 = 0 := fun h => by rw [← hd0, if_neg h]
      clear hd0 hq
      by_cases hiM : i < M
      · obtain ⟨gd, rfl, hcd⟩ := hcell hiM
        have hiM' : (i : Int) < (M : Int) := by omega
        clear hcell hiM hd0z
        go_wp2
        have HO0 := HO'
        have HBB0 := HB'
        go_loopw [5, 6, 7] (fun nv pv kv wr2 => ∃ k : Nat, k ≤ 8 ∧ kv = .int .i64 (k : Int) ∧ pv = .int .i64 (2 ^ k) ∧ nv = .int .i64 (d0 + rbk R (q * 8) k) ∧ Aside0 (Kd.R (Kd.int .i64) 3 wr2 0 (fun k => w.heap.size ≤ k) u3 ((List.range i).map (pb n s.m s.V R))) ∧ Aside0 (Below w.heap.size w wr2)) (fun _ _ kv _ => 8 - (intOf kv).toNat)
        case atStart => exact ⟨0, by omega, rfl, by simp, by simp [rbk], HO0, HBB0⟩
        case round =>
          obtain ⟨k, hk, rfl, rfl, rfl, HO2, HB2⟩ := hrel
          clear HO' HB' HO0 HBB0 hc0 hc2 hc3 hcd
          obtain ⟨hc0, hc2, hc3⟩ := HCF.out wr HB2.out
          have hrk := rbk_in R (q * 8) k
          obtain ⟨hp1, hp2⟩ := pow_8 hk
          have HNP : Aside0 ((2 : Int) ^ k * 2 = 2 ^ (k + 1)) := ⟨(Int.pow_succ 2 k).symm⟩
          have HNX : Aside0 (rbk R (q * 8) (k + 1) = rbk R (q * 8) k + bi R (q * 8 + k) * 2 ^ k) := ⟨rfl⟩
          obtain ⟨P, hP⟩ : ∃ P : Int, 2 ^ k = P := ⟨_, rfl⟩
          obtain ⟨X, hX⟩ : ∃ X, d0 + rbk R (q * 8) k = X := ⟨_, rfl⟩
          rw [hP] at HNP HNX hp1 hp2 hrk
          have hX0 : 0 ≤ X ∧ X ≤ 600 := by omega
          rw [hP, hX]
          obtain ⟨hX1, hX2⟩ := hX0
          have HX := Aside0.mk hX
          clear hrk hP hX
          by_cases hk8 : k < 8
          · have hk8' : (k : Int) < 8 := by omega
            obtain ⟨b, hb⟩ : ∃ b, q * 8 + k = b := ⟨_, rfl⟩
            have hbq : (q : Int) * 8 + (k : Int) = (b : Int) := by omega
            rw [hb] at HNX
            clear hb hk8
            by_cases hbr : b < rl
            · have h2 := Kd.R_below HRR.out HB2.out
              obtain ⟨gd2, c', he⟩ := R_openI h2 (by rw [HRL.out.1]; omega)
              injection he with h3 h4 h5
              clear h4 h5
              subst h3
              have h6 := (Kd.R_cell (xs := R.map b2i) (0 : Int) (by rw [HRL.out.1]; exact h2) (b : Int) (by omega) (by rw [HRL.out.1]; omega)).1
              rw [Int.toNat_natCast, show rdOf (0 : Int) (R.map b2i) (b : Int) = bi R b by unfold rdOf; rw [Int.toNat_natCast]; exact b2i_bi R b (by rw [HRL.out.2]; exact hbr)] at h6
              have hbr' : (b : Int) < (rl : Int) := by omega
              have hyb := Pack.bi_in R b
              obtain ⟨y, hy⟩ : ∃ y, bi R b = y := ⟨_, rfl⟩
              rw [hy] at h6 hyb HNX
              clear h2 hbr hy
              rcases (by omega : y = 0 ∨ y = 1) with rfl | rfl
              · clear hyb
                go_wp2
                exact ⟨⟨k + 1, by omega, congrArg (Value.int .i64) (by omega), congrArg (Value.int .i64) HNP.out, congrArg (Value.int .i64) (by have := HNX.out; have := HX.out; omega), HO2, HB2⟩, by simp [intOf]; omega⟩
              · clear hyb
                go_wp2
                exact ⟨⟨k + 1, by omega, congrArg (Value.int .i64) (by omega), congrArg (Value.int .i64) HNP.out, congrArg (Value.int .i64) (by have := HNX.out; have := HX.out; omega), HO2, HB2⟩, by simp [intOf]; omega⟩
            · have hbr' : ¬ (b : Int) < (rl : Int) := by omega
              have hb0 := Pack.bi_out R b (by rw [HRL.out.2]; omega)
              rw [hb0] at HNX
              clear hbr hb0
              go_wp2
              exact ⟨⟨k + 1, by omega, congrArg (Value.int .i64) (by omega), congrArg (Value.int .i64) HNP.out, congrArg (Value.int .i64) (by have := HNX.out; have := HX.out; omega), HO2, HB2⟩, by simp [intOf]; omega⟩
          · obtain rfl : k = 8 := by omega
            have HXP : Aside0 (X = pb n s.m s.V R i) := ⟨by rw [HPI.out, ← HX.out]⟩
            have hll : ((List.range i).map (pb n s.m s.V R)).length ≤ 1300 := by rw [List.length_map, List.length_range]; omega
            have HLL := Aside0.mk hll
            have HB0 := Aside0.mk (Below.refl 0 wr)
            clear hk8 hll
            go_wp2_with (first | ((with_reducible refine gate_builtin (b := .append) (xs := #[.tmp 65, .tmp 67]) rfl ?_); at_builtin; refine Kd.R_append (Kd.int .i64) (w0 := wr) 0 rfl (.tmp 65) (.tmp 67) 42 3 (.int .i64 0) 8 rfl Tryd.underlying42 infoI rfl (by decide) (by decide) u3 ((List.range i).map (pb n s.m s.V R)) X [.int .i64 X] (fun k => w.heap.size ≤ k) (fun _ => False) rfl rfl rfl (fun _ hk => hk.elim) (fun k hk => Nat.le_trans HB2.out.size hk) HO2.out HB0.out (Nat.zero_le _) (by have := HLL.out; omega) ?_; intro v1 w2 hR hb2 hgr hat; have HO3 := Aside0.mk hR; have HB3 := Aside0.mk (pw_below_grown HB2.out u3.ownBlock HB2.out.size hgr (fun k hk => HO2.out.1 k hk)); clear hR hb2 hgr hat))
            exact ⟨⟨i + 1, by omega, congrArg (Value.int .i64) (by omega), ⟨by rw [List.range_succ, List.map_append, List.map_singleton, ← HXP.out]; exact HO3.out⟩, HB3⟩, by simp [intOf]; omega⟩
      · have hiM' : ¬ (i : Int) < (M : Int) := by omega
        have HDZ := Aside0.mk (hd0z hiM)
        clear hcell hiM hd0z
        go_wp2
        have HO0 := HO'
        have HBB0 := HB'
        go_loopw [5, 6, 7] (fun nv pv kv wr2 => ∃ k : Nat, k ≤ 8 ∧ kv = .int .i64 (k : Int) ∧ pv = .int .i64 (2 ^ k) ∧ nv = .int .i64 (d0 + rbk R (q * 8) k) ∧ Aside0 (Kd.R (Kd.int .i64) 3 wr2 0 (fun k => w.heap.size ≤ k) u3 ((List.range i).map (pb n s.m s.V R))) ∧ Aside0 (Below w.heap.size w wr2)) (fun _ _ kv _ => 8 - (intOf kv).toNat)
        case atStart => exact ⟨0, by omega, rfl, by simp, by have h0 := HDZ.out; simp [rbk, h0], HO0, HBB0⟩
        case round =>
          obtain ⟨k, hk, rfl, rfl, rfl, HO2, HB2⟩ := hrel
          clear HO' HB' HO0 HBB0 hc0 hc2 hc3
          obtain ⟨hc0, hc2, hc3⟩ := HCF.out wr HB2.out
          have hrk := rbk_in R (q * 8) k
          obtain ⟨hp1, hp2⟩ := pow_8 hk
          have HNP : Aside0 ((2 : Int) ^ k * 2 = 2 ^ (k + 1)) := ⟨(Int.pow_succ 2 k).symm⟩
          have HNX : Aside0 (rbk R (q * 8) (k + 1) = rbk R (q * 8) k + bi R (q * 8 + k) * 2 ^ k) := ⟨rfl⟩
          obtain ⟨P, hP⟩ : ∃ P : Int, 2 ^ k = P := ⟨_, rfl⟩
          obtain ⟨X, hX⟩ : ∃ X, d0 + rbk R (q * 8) k = X := ⟨_, rfl⟩
          rw [hP] at HNP HNX hp1 hp2 hrk
          have hX0 : 0 ≤ X ∧ X ≤ 600 := by omega
          rw [hP, hX]
          obtain ⟨hX1, hX2⟩ := hX0
          have HX := Aside0.mk hX
          clear hrk hP hX
          by_cases hk8 : k < 8
          · have hk8' : (k : Int) < 8 := by omega
            obtain ⟨b, hb⟩ : ∃ b, q * 8 + k = b := ⟨_, rfl⟩
            have hbq : (q : Int) * 8 + (k : Int) = (b : Int) := by omega
            rw [hb] at HNX
            clear hb hk8
            by_cases hbr : b < rl
            · have h2 := Kd.R_below HRR.out HB2.out
              obtain ⟨gd2, c', he⟩ := R_openI h2 (by rw [HRL.out.1]; omega)
              injection he with h3 h4 h5
              clear h4 h5
              subst h3
              have h6 := (Kd.R_cell (xs := R.map b2i) (0 : Int) (by rw [HRL.out.1]; exact h2) (b : Int) (by omega) (by rw [HRL.out.1]; omega)).1
              rw [Int.toNat_natCast, show rdOf (0 : Int) (R.map b2i) (b : Int) = bi R b by unfold rdOf; rw [Int.toNat_natCast]; exact b2i_bi R b (by rw [HRL.out.2]; exact hbr)] at h6
              have hbr' : (b : Int) < (rl : Int) := by omega
              have hyb := Pack.bi_in R b
              obtain ⟨y, hy⟩ : ∃ y, bi R b = y := ⟨_, rfl⟩
              rw [hy] at h6 hyb HNX
              clear h2 hbr hy
              rcases (by omega : y = 0 ∨ y = 1) with rfl | rfl
              · clear hyb
                go_wp2
                exact ⟨⟨k + 1, by omega, congrArg (Value.int .i64) (by omega), congrArg (Value.int .i64) HNP.out, congrArg (Value.int .i64) (by have := HNX.out; have := HX.out; omega), HO2, HB2⟩, by simp [intOf]; omega⟩
              · clear hyb
                go_wp2
                exact ⟨⟨k + 1, by omega, congrArg (Value.int .i64) (by omega), congrArg (Value.int .i64) HNP.out, congrArg (Value.int .i64) (by have := HNX.out; have := HX.out; omega), HO2, HB2⟩, by simp [intOf]; omega⟩
            · have hbr' : ¬ (b : Int) < (rl : Int) := by omega
              have hb0 := Pack.bi_out R b (by rw [HRL.out.2]; omega)
              rw [hb0] at HNX
              clear hbr hb0
              go_wp2
              exact ⟨⟨k + 1, by omega, congrArg (Value.int .i64) (by omega), congrArg (Value.int .i64) HNP.out, congrArg (Value.int .i64) (by have := HNX.out; have := HX.out; omega), HO2, HB2⟩, by simp [intOf]; omega⟩
          · obtain rfl : k = 8 := by omega
            have HXP : Aside0 (X = pb n s.m s.V R i) := ⟨by rw [HPI.out, ← HX.out]⟩
            have hll : ((List.range i).map (pb n s.m s.V R)).length ≤ 1300 := by rw [List.length_map, List.length_range]; omega
            have HLL := Aside0.mk hll
            have HB0 := Aside0.mk (Below.refl 0 wr)
            clear hk8 hll
            go_wp2_with (first | ((with_reducible refine gate_builtin (b := .append) (xs := #[.tmp 65, .tmp 67]) rfl ?_); at_builtin; refine Kd.R_append (Kd.int .i64) (w0 := wr) 0 rfl (.tmp 65) (.tmp 67) 42 3 (.int .i64 0) 8 rfl Tryd.underlying42 infoI rfl (by decide) (by decide) u3 ((List.range i).map (pb n s.m s.V R)) X [.int .i64 X] (fun k => w.heap.size ≤ k) (fun _ => False) rfl rfl rfl (fun _ hk => hk.elim) (fun k hk => Nat.le_trans HB2.out.size hk) HO2.out HB0.out (Nat.zero_le _) (by have := HLL.out; omega) ?_; intro v1 w2 hR hb2 hgr hat; have HO3 := Aside0.mk hR; have HB3 := Aside0.mk (pw_below_grown HB2.out u3.ownBlock HB2.out.size hgr (fun k hk => HO2.out.1 k hk)); clear hR hb2 hgr hat))
            exact ⟨⟨i + 1, by omega, congrArg (Value.int .i64) (by omega), ⟨by rw [List.range_succ, List.map_append, List.map_singleton, ← HXP.out]; exact HO3.out⟩, HB3⟩, by simp [intOf]; omega⟩
    · have hin' : ¬ (i : Int) < (n : Int) := by omega
      obtain rfl : i = n := by omega
      go_wp2
      go_ret
      exact ⟨_, rfl, HO'.out, HB'.out⟩
end Go.Proofs.YtjmoklebimejaaaDoor.RfWalk
