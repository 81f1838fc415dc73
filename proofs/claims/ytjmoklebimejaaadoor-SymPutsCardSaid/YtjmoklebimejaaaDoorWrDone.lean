import Derived.Test.YtjmoklebimejaaaDoorWrRaw
import Derived.Test.YtjmoklebimejaaaDoorPackMore
namespace Go.Proofs.YtjmoklebimejaaaDoor.WrWalk
open Go.RowKit Go.Proofs.YtjmoklebimejaaaDoorW.PrintWords Go.Proofs.YtjmoklebimejaaaDoorW.PrintLast Go.Proofs.YtjmoklebimejaaaDoorW.PrintMore
open Go.Proofs.YtjmoklebimejaaaDoor.Wr (St dig crow)
attribute [local go_sem] max2_int min2_int max_two min_two max_three min_three max_four min_four   -- for this text's walks alone
open Go.Proofs.YtjmoklebimejaaaDoor.Pack (pk pb rb bi pk_len pk_zero pk_true pk_false rb_lt rb_in)
set_option linter.unusedVariables false
set_option linter.unusedSimpArgs false
theorem infoB8 : (Tryd.prog.info? 5).map (fun i => (i.zero, i.size, i.bytes)) = some (some (.int .u8 0), 1, 1) := by kernel_rfl
set_option maxHeartbeats 1000000 in
theorem done_no (ok : Nat → Prop) (g : Nat) (sz rg lw : Int) (bs : List Int) (R : List Bool) (w : World) (H : WrB ok w g sz rg lw bs R) (h0 : 0 ≤ sz ∧ sz ≤ 10000) (h1 : bs.length ≤ 10000) (h2 : R.length ≤ 100000) (hn : 8 * (sz - 3 - bs.length) - R.length < 0) :
    Calls Tryd.prog 15 #[.pointer (some ⟨g, 0, none⟩)] w fun e w' => e = .returned (.tuple #[.slice none 0 0, .int .i64 4]) ∧ Below w.heap.size w w' := by
  have HB := Aside0.mk (Below.refl w.heap.size w)
  have HL : Aside0 (Calls Tryd.prog 13 #[.pointer (some ⟨g, 0, none⟩)] w fun e w' => e = .returned (.int .i64 (8 * (sz - 3 - bs.length) - R.length)) ∧ Below w.heap.size w w') := ⟨left_at ok g sz rg lw bs R w H h0 h1 h2⟩
  have d0 : decide (8 * (sz - 3 - bs.length) - R.length < 0) = true := decide_eq_true hn
  clear H h0 h1 h2 hn
  go_enter Tryd.func15, Tryd.ntmps15
  go_wp2_with (first | (go_at_call 13; (with_reducible refine HL.out.mono ?_); rintro e w1 ⟨rfl, hb⟩; have HB1 := Aside0.mk hb; clear hb))
  go_ret2
  exact ⟨rfl, by repeat (first | exact HB1.out | apply below_drew1 | apply pw_below_drewN)⟩
theorem R_of_heap {w : World} {g n : Nat} {xs : List Int} {ok : Nat → Prop} (h : w.heap[g]? = some (.cells (xs.map (Value.int .u8)).toArray 5 (0, 0))) (hl : xs.length = n) (hn : n ≤ 10000) (hok : ok g) : Kd.R (Kd.int .u8) 5 w 0 ok (.slice (some ⟨g, 0, none⟩) n n) xs := by
  subst hl
  refine Kd.R_of_own ⟨by simp [encs], Or.inr ⟨g, xs.length, _, rfl, Nat.zero_le _, h, Nat.le_refl _, by unfold maxLen; omega, by simp, by show List.take _ (List.map _ _) = _; rw [Nat.mul_one, List.take_of_length_le (by simp)]; rfl⟩⟩ (fun k hk => ?_)
  simp only [Value.ownBlock, Option.some.injEq] at hk
  exact hk ▸ hok
/-- The bytes of a row, as copy reads them. -/
theorem R_src {w : World} {ok : Nat → Prop} {A : Option Addr} {c : Nat} {bs : List Int} (h : Kd.R (Kd.int .u8) 5 w 0 ok (.slice A bs.length c) bs) (hn : 0 < bs.length) : ∃ ad, A = some ad ∧ ∀ j v, (bs.map (Value.int .u8))[j]? = some v → w.cell? (ad.add j) = some v := by
  obtain ⟨gb, c', he⟩ := R_open (n := 0) h hn
  injection he with h1 h2 h3
  subst h1
  refine ⟨_, rfl, fun j v hv => ?_⟩
  rw [List.getElem?_map] at hv
  obtain ⟨x, hx, rfl⟩ := Option.map_eq_some_iff.1 hv
  obtain ⟨hj, _⟩ := List.getElem?_eq_some_iff.1 hx
  have h2 := (Kd.R_cell (0 : Int) h (j : Int) (by omega) (by omega)).1
  rw [Int.toNat_natCast] at h2
  have e : rdOf (0 : Int) bs (j : Int) = x := by unfold rdOf; rw [Int.toNat_natCast, List.getD_eq_getElem?_getD, hx]; rfl
  rw [e] at h2
  have e2 : Addr.add ⟨gb, 0, none⟩ j = ⟨gb, j, none⟩ := by cases j <;> simp [Addr.add]
  rw [e2]
  exact h2
/-- A writer's block, its rows' heads told. -/
def WF (ok : Nat → Prop) (w : World) (g n : Nat) (rg lw : Int) (A3 : Option Addr) (m c3 : Nat) (A4 : Option Addr) (rl c4 : Nat) (bs : List Int) (R : List Bool) : Prop :=
  w.heap[g]? = some (.cells #[.int .i64 n, .int .u32 rg, .int .u32 lw, .slice A3 m c3, .slice A4 rl c4] 65 (0, 0)) ∧ ok g ∧ Kd.R (Kd.int .u8) 5 w 0 (fun k => ok k ∧ k ≠ g) (.slice A3 m c3) bs ∧ Kd.R Kd.bool 4 w 0 (fun k => ok k ∧ k ≠ g) (.slice A4 rl c4) R
section
variable {ok : Nat → Prop} {w w1 : World} {g n : Nat} {rg lw : Int} {A3 A4 : Option Addr} {m c3 rl c4 : Nat} {bs : List Int} {R : List Bool}
theorem WF.of (H : WrB ok w g n rg lw bs R) : ∃ A3 c3 A4 c4, WF ok w g n rg lw A3 bs.length c3 A4 R.length c4 bs R := by
  obtain ⟨vb, vr, hg, ho, h1, h2⟩ := H
  obtain ⟨A3, c3, rfl⟩ := Kd.R_slice h1
  obtain ⟨A4, c4, rfl⟩ := Kd.R_slice h2
  exact ⟨A3, c3, A4, c4, hg, ho, h1, h2⟩
theorem WF.below (H : WF ok w g n rg lw A3 m c3 A4 rl c4 bs R) (hb : Below w.heap.size w w1) : WF ok w1 g n rg lw A3 m c3 A4 rl c4 bs R := by
  obtain ⟨hg, ho, h1, h2⟩ := H
  exact ⟨(hb.block g (blk_lt hg)).trans hg, ho, Kd.R_below h1 hb, Kd.R_below h2 hb⟩
theorem WF.cells (H : WF ok w g n rg lw A3 m c3 A4 rl c4 bs R) : w.cell? ⟨g, 0, none⟩ = some (.int .i64 n) ∧ w.cell? ⟨g, 2, none⟩ = some (.int .u32 lw) ∧ w.cell? ⟨g, 3, none⟩ = some (.slice A3 m c3) ∧ w.cell? ⟨g, 4, none⟩ = some (.slice A4 rl c4) := by
  obtain ⟨hg, ho, h1, h2⟩ := H
  exact ⟨(blk_cell hg 0).trans rfl, (blk_cell hg 2).trans rfl, (blk_cell hg 3).trans rfl, (blk_cell hg 4).trans rfl⟩
theorem WF.lt (H : WF ok w g n rg lw A3 m c3 A4 rl c4 bs R) : g < w.heap.size := blk_lt H.1
end
theorem R_openB {w : World} {e base n : Nat} {ok : Nat → Prop} {v : Value} {bs : List Bool} (h : Kd.R Kd.bool e w base ok v bs) (hn : 0 < bs.length) : ∃ gb c, v = .slice (some ⟨gb, 0, none⟩) bs.length c := by
  obtain ⟨inner, hi, ho⟩ := Kd.R_own h
  rcases ho with ⟨_, h0⟩ | ⟨gb, cap, cur, rfl, _⟩
  · omega
  · exact ⟨gb, cap, rfl⟩
theorem made_rep (z : Value) (n : Nat) : madeCells #[z] n = (List.replicate n z).toArray := by
  simp only [madeCells]
  apply Array.ext
  · simp
  · intro i h1 h2
    simp [Nat.mod_one]
theorem below_self {w w1 : World} (h : Below w.heap.size w w1) (o : Obj) : Below w.heap.size w (w1.alloc o) := below_alloc h o
theorem or_u8 {x : Int} {i : Nat} (hi : i < 8) (h0 : 0 ≤ x) (h1 : x < 2 ^ i) : bits .or .u8 x (2 ^ i) = x + 2 ^ i := by
  obtain ⟨a, rfl⟩ := Int.eq_ofNat_of_zero_le h0
  have hp : 2 ^ i ≤ 2 ^ 7 := Nat.pow_le_pow_right (by decide) (by omega)
  have hp' : 2 ^ i ≤ 128 := hp
  have e0 : ((2 ^ i : Nat) : Int) = 2 ^ i := by rw [Int.natCast_pow]; rfl
  have h1' : a < 2 ^ i := by rw [← e0] at h1; omega
  have key : ((BitVec.ofInt 8 (a : Int)) ||| (BitVec.ofInt 8 ((2 ^ i : Nat) : Int))).toNat = a + 2 ^ i := by
    rw [BitVec.toNat_or, BitVec.ofInt_natCast, BitVec.ofInt_natCast, BitVec.toNat_ofNat, BitVec.toNat_ofNat, Nat.mod_eq_of_lt (by omega), Nat.mod_eq_of_lt (by omega), Nat.or_comm]
    have h2 := Nat.shiftLeft_add_eq_or_of_lt h1' 1
    rw [Nat.shiftLeft_eq, Nat.one_mul] at h2
    rw [← h2]
    omega
  rw [← e0]
  show IntKind.u8.wrap (((BitVec.ofInt 8 (a : Int)) ||| (BitVec.ofInt 8 ((2 ^ i : Nat) : Int))).toNat) = _
  rw [key, show IntKind.u8.wrap ((a + 2 ^ i : Nat) : Int) = ((a + 2 ^ i : Nat) : Int) % 256 by simp [IntKind.wrap, IntKind.bits, IntKind.signed]]
  omega
theorem pow_128 {i : Nat} (hi : i ≤ 7) : (2 : Int) ^ i ≤ 128 := by
  have hp : 2 ^ i ≤ 2 ^ 7 := Nat.pow_le_pow_right (by decide) hi
  have hp' : 2 ^ i ≤ 128 := hp
  have e0 : ((2 ^ i : Nat) : Int) = 2 ^ i := by rw [Int.natCast_pow]; rfl
  rw [← e0]
  omega
theorem tdiv8 (n : Nat) : ((n : Int)).tdiv 8 = ((n / 8 : Nat) : Int) := by rw [Int.tdiv_eq_ediv_of_nonneg (by omega)]; omega
theorem tmod8 (n : Nat) : ((n : Int)).tmod 8 = ((n % 8 : Nat) : Int) := by rw [Int.tmod_eq_emod_of_nonneg (by omega)]; omega
theorem e_facts (n j : Nat) (hj8 : j / 8 < n) (hn : n ≤ 10000) : wrap64 ((n : Int) - 1) = (n : Int) - 1 ∧ ((j : Int)).tdiv 8 = ((j / 8 : Nat) : Int) ∧ wrap64 ((j / 8 : Nat) : Int) = ((j / 8 : Nat) : Int) ∧ wrap64 ((n : Int) - 1 - ((j / 8 : Nat) : Int)) = ((n - 1 - j / 8 : Nat) : Int) ∧ ((j : Int)).tmod 8 = ((j % 8 : Nat) : Int) ∧ ((n - 1 - j / 8 : Nat) : Int) < (n : Int) :=
  ⟨w64n (by omega) (by omega), tdiv8 j, w64n (by omega) (by omega), by rw [w64n (by omega) (by omega)]; omega, tmod8 j, by omega⟩
theorem min_is {i : Nat} (hi : i < 8) : (2 : Int) ^ min i 8 % 256 = 2 ^ i := by
  have hp0 : (0 : Int) < 2 ^ i := Int.pow_pos (by decide)
  have hp2 := pow_128 (i := i) (by omega)
  rw [Nat.min_eq_left (by omega), Int.emod_eq_of_lt (by omega) (by omega)]
theorem shl_is {i : Nat} (hi : i < 8) : shl .u8 1 (i : Int) = 2 ^ i := by
  have hp0 : (0 : Int) < 2 ^ i := Int.pow_pos (by decide)
  have hp2 := pow_128 (i := i) (by omega)
  unfold shl
  rw [show min ((i : Int)).toNat (IntKind.u8).bits = i by rw [Int.toNat_natCast]; exact Nat.min_eq_left (by show i ≤ 8; omega), Int.one_mul]
  rw [show IntKind.u8.wrap (2 ^ i) = (2 ^ i) % 256 by simp [IntKind.wrap, IntKind.bits, IntKind.signed], Int.emod_eq_of_lt (by omega) (by omega)]
/-- One bit is laid in. -/
theorem lay_bit {w : World} {G n m : Nat} {ok : Nat → Prop} {V : Int} {R : List Bool} {j : Nat} (hK : Kd.R (Kd.int .u8) 5 w 0 ok (.slice (some ⟨G, 0, none⟩) n n) (pk n m V (R.take j))) (hj : j < R.length) (hf : R.length + 8 * (m + 3) ≤ 8 * n) (hbb : R.getD j false = true) :
    ∃ y p2, (2 : Int) ^ min (j % 8) 8 % 256 = p2 ∧ w.cell? ⟨G, n - 1 - j / 8, none⟩ = some (.int .u8 y) ∧ w.frozen? ⟨G, n - 1 - j / 8, none⟩ = false ∧ bits .or .u8 y p2 = y + p2 ∧ Kd.R (Kd.int .u8) 5 (w.setCell ⟨G, n - 1 - j / 8, none⟩ (.int .u8 (y + p2))) 0 ok (.slice (some ⟨G, 0, none⟩) n n) (pk n m V (R.take (j + 1))) := by
  have hpt := pk_true (V := V) hj hf hbb
  have hlen : (pk n m V (R.take j)).length = n := pk_len _ _ _ _
  have hix : n - 1 - j / 8 < n := by omega
  obtain ⟨ix, hi⟩ : ∃ ix, n - 1 - j / 8 = ix := ⟨_, rfl⟩
  have hor := or_u8 (x := rb (R.take j) (j / 8)) (i := j % 8) (by omega) (rb_in _ _).1 (rb_lt R j)
  rw [hi] at hix hpt ⊢
  have hcell := Kd.R_cell (xs := pk n m V (R.take j)) (0 : Int) (by rw [hlen]; exact hK) (ix : Int) (by omega) (by omega)
  rw [show rdOf (0 : Int) (pk n m V (R.take j)) (ix : Int) = rb (R.take j) (j / 8) by unfold rdOf; rw [Int.toNat_natCast]; exact hpt.2, Int.toNat_natCast] at hcell
  refine ⟨_, _, min_is (by omega), hcell.1, hcell.2, hor, ?_⟩
  have hput := (Kd.R_put (xs := pk n m V (R.take j)) (by rw [hlen]; exact hK) (ix : Int) (rb (R.take j) (j / 8) + 2 ^ (j % 8))).1
  rw [hlen, Int.toNat_natCast, hpt.1] at hput
  exact hput
set_option maxHeartbeats 2000000 in
set_option maxRecDepth 100000 in
theorem done_ok (ok : Nat → Prop) (g n m : Nat) (rg lw V : Int) (R : List Bool) (bs : List Int) (w : World) (H : WrB ok w g (n : Int) rg lw bs R) (h0 : n ≤ 10000) (hlw : 0 ≤ lw ∧ lw < 16777216) (hV : bs ++ [lw / 65536, lw / 256 % 256, lw % 256] = dig V (m + 3)) (hm : bs.length = m) (hf : R.length + 8 * (m + 3) ≤ 8 * n) :
    Calls Tryd.prog 15 #[.pointer (some ⟨g, 0, none⟩)] w fun e w' => ∃ gb, e = .returned (.tuple #[.slice (some ⟨gb, 0, none⟩) n n, .int .i64 0]) ∧ Kd.R (Kd.int .u8) 5 w' 0 (fun k => w.heap.size ≤ k) (.slice (some ⟨gb, 0, none⟩) n n) (pk n m V R) ∧ Below w.heap.size w w' := by
  have HB := Aside0.mk (Below.refl w.heap.size w)
  have HL : Aside0 (Calls Tryd.prog 13 #[.pointer (some ⟨g, 0, none⟩)] w fun e w' => e = .returned (.int .i64 (8 * (((n : Int)) - 3 - bs.length) - R.length)) ∧ Below w.heap.size w w') := ⟨left_at ok g n rg lw bs R w H (by omega) (by omega) (by omega)⟩
  have hmk := run_make_row' (P := Tryd.prog) 38 5 (.int .u8 0) 1 Tryd.underlying38 infoB8 rfl .i64 .i64 n (by omega) (by omega)
  obtain ⟨lf, hlf⟩ : ∃ lf, 8 * (((n : Int)) - 3 - bs.length) - R.length = lf := ⟨_, rfl⟩
  rw [hlf] at HL
  have d0 : decide (lf < 0) = false := decide_eq_false (by omega)
  have hn1 : m + 3 ≤ n := by omega
  have HW := Aside0.mk H
  have HS := Aside0.mk (And.intro hm hf)
  have HV := Aside0.mk hV
  clear H hlf hm hf hV
  go_enter Tryd.func15, Tryd.ntmps15
  go_upto_region 3 with (first | (go_at_call 13; (with_reducible refine HL.out.mono ?_); rintro e w1 ⟨rfl, hb⟩; have HB1 := Aside0.mk hb; have HW1 := Aside0.mk (HW.out.below hb); clear hb))
  obtain ⟨A3, c3, A4, c4, hWF⟩ := WF.of HW1.out
  have hm := HS.out.1
  obtain ⟨rl, hrl⟩ : ∃ rl, R.length = rl := ⟨_, rfl⟩
  have HSRC : Aside0 (0 < m → ∃ ad, A3 = some ad ∧ ∀ j v, (bs.map (Value.int .u8))[j]? = some v → w1.cell? (ad.add j) = some v) := ⟨fun h0 => R_src hWF.2.2.1 (by omega)⟩
  rw [hm, hrl] at hWF
  have HWF := Aside0.mk hWF
  obtain ⟨hc0, hc2, hc3, hc4⟩ := hWF.cells
  have HRL := Aside0.mk hrl
  clear hWF hm hrl HW HW1 HL
  go_upto_region 4 with (fail)
  obtain ⟨w2, hw2⟩ : ∃ w2, w1.alloc (.cells (madeCells #[Value.int .u8 0] n) 5) = w2 := ⟨_, rfl⟩
  rw [hw2]
  have HB2 : Aside0 (Below w1.heap.size w1 w2) := ⟨by rw [← hw2]; exact below_alloc (Below.refl _ _) _⟩
  have HZ : Aside0 (w2.heap[w1.heap.size]? = some (.cells (List.replicate n (Value.int .u8 0)).toArray 5 (0, 0))) := ⟨by rw [← hw2, blk_new, made_rep]⟩
  have HW2 := Aside0.mk (HWF.out.below HB2.out)
  obtain ⟨hc0, hc2, hc3, hc4⟩ := HW2.out.cells
  have hm := HS.out.1
  obtain ⟨cs, hcs⟩ : ∃ cs, bs.map (Value.int .u8) = cs := ⟨_, rfl⟩
  have HCS := Aside0.mk hcs
  have hcl : cs.length = m := by rw [← hcs, List.length_map]; exact hm
  have HN1 : Aside0 (cs.length = Nat.min m n) := ⟨by rw [hcl]; exact (Nat.min_eq_left (by omega)).symm⟩
  have HP1 : Aside0 (0 < cs.length → (some (⟨w1.heap.size, 0, none⟩ : Addr)) = some ⟨w1.heap.size, 0, none⟩ ∧ ∃ ad, A3 = some ad ∧ ∀ j v, cs[j]? = some v → w2.cell? (ad.add j) = some v) := ⟨fun h => ⟨rfl, by rw [← hcs]; exact R_src (by rw [hm]; exact HW2.out.2.2.1) (by omega)⟩⟩
  have HF1 : Aside0 (0 + cs.length ≤ (List.replicate n (Value.int .u8 0)).length) := ⟨by rw [hcl, List.length_replicate]; omega⟩
  have HO1 : Aside0 (∀ v ∈ cs, v.oneCell' = true) := ⟨fun v hv => by rw [← hcs] at hv; obtain ⟨x, _, rfl⟩ := List.mem_map.1 hv; rfl⟩
  have HCL := Aside0.mk hcl
  obtain ⟨Z0, hZ0⟩ : ∃ Z0, List.replicate n (Value.int .u8 0) = Z0 := ⟨_, rfl⟩
  rw [hZ0] at HZ HF1
  have HZ0 := Aside0.mk hZ0
  clear hw2 hcs hcl hm hZ0
  go_upto_region 5 with (first | (with_reducible refine wpList_copy_splice rfl (.tmp 16) (.tmp 20) 38 38 rfl 5 Tryd.underlying38 (by kernel_rfl) _ _ n n m c3 rfl rfl w1.heap.size 0 Z0 5 HZ.out cs HN1.out HP1.out HF1.out HO1.out w1.heap.size w1 HB2.out (Nat.le_refl _) ?_; rw [goInt, HCL.out]; intro w3 HG3 hb3; have HB3 := Aside0.mk hb3; clear hb3))
  clear hc0 hc2 hc3 hc4 HZ HN1 HP1 HF1 HO1
  have HW3 := Aside0.mk (HWF.out.below HB3.out)
  obtain ⟨hc0, hc2, hc3, hc4⟩ := HW3.out.cells
  obtain ⟨Z1, hZ1⟩ : ∃ Z1, splice Z0 0 cs = Z1 := ⟨_, rfl⟩
  rw [hZ1] at HG3
  have HZL : Aside0 (Z1.length = n) := ⟨by rw [← hZ1, length_splice _ _ _ (by rw [← HZ0.out, List.length_replicate, HCL.out]; omega), ← HZ0.out, List.length_replicate]⟩
  have HZ1 := Aside0.mk hZ1
  obtain ⟨b2, hb2⟩ : ∃ b2, lw / 65536 = b2 := ⟨_, rfl⟩
  obtain ⟨b1, hb1⟩ : ∃ b1, lw / 256 % 256 = b1 := ⟨_, rfl⟩
  obtain ⟨b0, hb0⟩ : ∃ b0, lw % 256 = b0 := ⟨_, rfl⟩
  have w8 : ∀ x : Int, IntKind.u8.wrap x = x % 256 := fun x => by simp [IntKind.wrap, IntKind.bits, IntKind.signed]
  have u2 : IntKind.u8.wrap (lw / 65536) = b2 := by rw [w8]; omega
  have u1 : IntKind.u8.wrap (lw / 256) = b1 := by rw [w8]; exact hb1
  have u0 : IntKind.u8.wrap lw = b0 := by rw [w8]; exact hb0
  have HBB : Aside0 (lw / 65536 = b2 ∧ lw / 256 % 256 = b1 ∧ lw % 256 = b0) := ⟨⟨hb2, hb1, hb0⟩⟩
  have HF2 : Aside0 (m + [Value.int .u8 b2, Value.int .u8 b1, Value.int .u8 b0].length ≤ Z1.length) := ⟨by rw [HZL.out]; exact hn1⟩
  have HO2 : Aside0 (∀ v ∈ [Value.int .u8 b2, Value.int .u8 b1, Value.int .u8 b0], v.oneCell' = true) := ⟨fun v hv => by simp only [List.mem_cons, List.mem_nil_iff, or_false] at hv; rcases hv with rfl | rfl | rfl <;> rfl⟩
  have HP2 : Aside0 (∀ W : World, ∀ j v, [Value.int .u8 b2, Value.int .u8 b1, Value.int .u8 b0][j]? = some v → (W.alloc (.cells #[.int .u8 b2, .int .u8 b1, .int .u8 b0] 5)).cell? (Addr.add ⟨W.heap.size, 0, none⟩ j) = some v) := ⟨fun W j v hv => by
    have hn := blk_new W (.cells #[.int .u8 b2, .int .u8 b1, .int .u8 b0] 5)
    rcases j with _ | _ | _ | j <;> simp at hv
    · subst hv; exact (blk_cell hn 0).trans rfl
    · subst hv; exact (blk_cell hn 1).trans rfl
    · subst hv; exact (blk_cell hn 2).trans rfl⟩
  have hmn : (m : Int) ≤ n := by omega
  clear hZ1 hb2 hb1 hb0 w8
  have HN2 : Aside0 ([Value.int .u8 b2, Value.int .u8 b1, Value.int .u8 b0].length = Nat.min 3 (n - m)) := ⟨by show 3 = Nat.min 3 (n - m); exact (Nat.min_eq_left (by omega)).symm⟩
  have hnm : ¬ (n = m) := by omega
  clear hlw
  go_region_held3 (fun wz => wz.cell? ⟨g, 2, none⟩ = some (.int .u32 lw))
    (first | exact (HWF.out.below HB4.out).cells.2.1 | exact hc2 | exact HW3.out.cells.2.1 | exact (HW3.out.below (below_alloc (Below.refl _ _) _)).cells.2.1 | exact (HW3.out.below (below_drew1 (Below.refl _ _))).cells.2.1 | exact (HW3.out.below (below_drew1 (below_alloc (Below.refl _ _) _))).cells.2.1)
    (first | ((try rw [alloc_drew]); refine step_copy_splice rfl (.tmp 24) (.tmp 42) 38 38 rfl 5 Tryd.underlying38 (by kernel_rfl) (some ⟨w1.heap.size, m, none⟩) _ (n - m) (n - m) 3 3 ?aX rfl w1.heap.size m Z1 5 ?aH [.int .u8 b2, .int .u8 b1, .int .u8 b0] HN2.out ?aP HF2.out HO2.out w1.heap.size w1 ?aB (Nat.le_refl _) ?_; (case aX => exact rfl); (case aH => first | exact blk_alloc HG3.out _ | exact blk_alloc (blk_drew HG3.out) _); (case aP => exact fun _ => ⟨rfl, _, rfl, HP2.out _⟩); (case aB => first | exact below_alloc HB3.out _ | exact below_alloc (below_drew1 HB3.out) _); intro w4 HG4 hb4; have HB4 := Aside0.mk hb4; clear hb4))
  have HWF4 := Aside0.mk (HWF.out.below HB4.out)
  have hL0 : splice Z1 m [Value.int .u8 b2, Value.int .u8 b1, Value.int .u8 b0] = (pk n m V []).map (Value.int .u8) := by
    have hm := HCL.out
    obtain ⟨x1, x2, x3⟩ := HBB.out
    rw [pk_zero hn1, ← HV.out, x1, x2, x3, List.map_append, List.map_append, HCS.out, List.map_replicate]
    rw [← HZ1.out, ← HZ0.out]
    simp only [splice, List.take_zero, List.nil_append, Nat.zero_add, List.length_cons, List.length_nil]
    rw [hm, List.take_append_of_le_length (by omega), List.take_of_length_le (by omega), List.drop_append, hm, List.drop_of_length_le (by omega), List.nil_append, List.drop_drop, List.drop_replicate, List.append_assoc]
    congr 3
    omega
  have HKR : Aside0 (Kd.R (Kd.int .u8) 5 w4 0 (fun k => w.heap.size ≤ k) (.slice (some ⟨w1.heap.size, 0, none⟩) n n) (pk n m V (R.take 0))) := ⟨by
    have h := HG4.out
    rw [hL0] at h
    exact R_of_heap h (pk_len _ _ _ _) (by omega) HB1.out.size⟩
  have HNG : Aside0 (g < w1.heap.size) := ⟨HWF.out.lt⟩
  have hc4 := HWF4.out.cells.2.2.2
  have HVS : Aside0 (R.length = rl ∧ R.length + 8 * (m + 3) ≤ 8 * n) := ⟨⟨HRL.out, HS.out.2⟩⟩
  clear hL0 HG4 HG3 HBB HZ1 HZ0 HZL HF2 HO2 HP2 HN2 HCL HCS HV hc0 hc2 hc3 u2 u1 u0 HW3 HB3 HW2 HB2 HSRC hmk d0 HS HRL
  go_wp2
  go_loopw [49] (fun i wr => ∃ j : Nat, j ≤ rl ∧ i = .int .i64 (j : Int) ∧ Aside0 (Kd.R (Kd.int .u8) 5 wr 0 (fun k => w.heap.size ≤ k) (.slice (some ⟨w1.heap.size, 0, none⟩) n n) (pk n m V (R.take j))) ∧ Aside0 (WF ok wr g n rg lw A3 m c3 A4 rl c4 bs R) ∧ Aside0 (Below w1.heap.size w1 wr)) (fun i wr => rl - (intOf i).toNat)
  case atStart => exact ⟨0, Nat.zero_le _, rfl, HKR, HWF4, HB4⟩
  case round =>
    obtain ⟨j, hj, rfl, HKR', HWF', HB'⟩ := hrel
    clear HKR HWF4 HB4 hc4
    by_cases hjr : j < rl
    · obtain ⟨bb, hbb⟩ : ∃ bb, R.getD j false = bb := ⟨_, rfl⟩
      have hRl := HVS.out.1
      have hrow : ∃ gr, A4 = some ⟨gr, 0, none⟩ ∧ wr.cell? ⟨gr, j, none⟩ = some (.bool bb) := by
        have h2 := HWF'.out.2.2.2
        obtain ⟨gr, c', he⟩ := R_openB (n := 0) h2 (by omega)
        injection he with h3 h4 h5
        subst h3
        rw [← hRl] at h2
        have h6 := (Kd.R_cell (false : Bool) h2 (j : Int) (by omega) (by omega)).1
        rw [Int.toNat_natCast] at h6
        refine ⟨gr, rfl, ?_⟩
        rw [h6, ← hbb]
        unfold rdOf
        rw [Int.toNat_natCast]
      obtain ⟨gr, rfl, hcb⟩ := hrow
      obtain ⟨hc0, hc2, hc3, hc4⟩ := HWF'.out.cells
      have hjr' : (j : Int) < (rl : Int) := by omega
      have hrl2 : rl ≤ 80000 := by have := HVS.out; omega
      clear hRl
      cases bb
      · have HK2 : Aside0 (pk n m V (R.take (j + 1)) = pk n m V (R.take j)) := ⟨pk_false hbb⟩
        clear hbb hc0 hc2 hc3
        go_wp2
        repeat (go_quiet (fail); try go_wp2)
        go_roundw
        case rel => exact ⟨j + 1, by omega, congrArg (Value.int .i64) (by omega), ⟨by rw [HK2.out]; exact (by first | exact HKR'.out | exact Kd.R_drew HKR'.out)⟩, (by first | exact HWF' | exact ⟨HWF'.out.below (below_drew1 (Below.refl _ _))⟩), (by first | exact HB' | exact ⟨below_drew1 HB'.out⟩)⟩
        case measure => simp [intOf]; omega
      · have hj8 : j / 8 < n := by have := HVS.out; omega
        obtain ⟨y, p2, e6, hci, hfi, hor, hput⟩ := lay_bit HKR'.out (by have := HVS.out.1; omega) HVS.out.2 hbb
        obtain ⟨e1, e2, e3, e4, e5, hix'⟩ := e_facts n j hj8 h0
        obtain ⟨ix, hi⟩ : ∃ ix, n - 1 - j / 8 = ix := ⟨_, rfl⟩
        rw [hi] at hci hfi hput e4 hix'
        obtain ⟨jq, hjq⟩ : ∃ jq, j / 8 = jq := ⟨_, rfl⟩
        rw [hjq] at e2 e3 e4
        obtain ⟨jm, hjm⟩ : ∃ jm, j % 8 = jm := ⟨_, rfl⟩
        rw [hjm] at e5 e6
        have HPUT := Aside0.mk hput
        have HG2 : Aside0 (WF ok (wr.setCell ⟨w1.heap.size, ix, none⟩ (.int .u8 (y + p2))) g n rg lw A3 m c3 (some ⟨gr, 0, none⟩) rl c4 bs R ∧ Below w1.heap.size w1 (wr.setCell ⟨w1.heap.size, ix, none⟩ (.int .u8 (y + p2)))) := ⟨by
          have hb : Below w1.heap.size w1 (wr.setCell ⟨w1.heap.size, ix, none⟩ (.int .u8 (y + p2))) := Below.setCell HB'.out (p := ⟨w1.heap.size, ix, none⟩) (Nat.le_refl _) _
          exact ⟨HWF.out.below hb, hb⟩⟩
        clear hput hi hjq hjm hj8 hbb hc2 hc3
        go_wp2
        repeat (go_region; try go_wp2)
        all_goals exact ⟨⟨j + 1, by omega, congrArg (Value.int .i64) (by omega), ⟨Kd.R_drew HPUT.out⟩, ⟨HG2.out.1.below (below_drew1 (Below.refl _ _))⟩, ⟨below_drew1 HG2.out.2⟩⟩, by simp [intOf]; omega⟩
    · obtain rfl : j = rl := by omega
      clear hjr
      go_wp2
      go_ret2
      refine ⟨w1.heap.size, rfl, ?_, Below.trans HB1.out (HB'.out.mono HB1.out.size)⟩
      have h := HKR'.out
      rwa [List.take_of_length_le (by have := HVS.out; omega)] at h
theorem dig3 (V : Int) (m : Nat) : dig (V / 16777216) m ++ [V % 16777216 / 65536, V % 16777216 / 256 % 256, V % 16777216 % 256] = dig V (m + 3) := by
  rw [show m + 3 = (m + 2) + 1 by omega, dig, show m + 2 = (m + 1) + 1 by omega, dig, dig, List.append_assoc, List.append_assoc]
  rw [show V / 256 / 256 / 256 = V / 16777216 by omega, show V / 256 / 256 % 256 = V % 16777216 / 65536 by omega, show V / 256 % 256 = V % 16777216 / 256 % 256 by omega, show V % 256 = V % 16777216 % 256 by omega]
  rfl
/-- Does it fit? -/
abbrev Fits (n m k : Nat) : Prop := k + 8 * (m + 3) ≤ 8 * n
theorem done_yes (ok : Nat → Prop) (g n : Nat) (s : St) (R : List Bool) (w : World) (H : WrAt ok w g n s R) (h0 : n ≤ 10000) (hf : Fits n s.m R.length) :
    Calls Tryd.prog 15 #[.pointer (some ⟨g, 0, none⟩)] w fun e w' => ∃ gb, e = .returned (.tuple #[.slice (some ⟨gb, 0, none⟩) n n, .int .i64 0]) ∧ Kd.R (Kd.int .u8) 5 w' 0 (fun k => w.heap.size ≤ k) (.slice (some ⟨gb, 0, none⟩) n n) (pk n s.m s.V R) ∧ Below w.heap.size w w' :=
  done_ok ok g n s.m s.g (s.V % 16777216) s.V R _ w H h0 (by omega) (dig3 _ _) (Wr.dig_len _ _) hf
theorem done_not (ok : Nat → Prop) (g n : Nat) (s : St) (R : List Bool) (w : World) (H : WrAt ok w g n s R) (h0 : n ≤ 10000) (h1 : s.m ≤ 10000) (h2 : R.length ≤ 100000) (hf : ¬ Fits n s.m R.length) :
    Calls Tryd.prog 15 #[.pointer (some ⟨g, 0, none⟩)] w fun e w' => e = .returned (.tuple #[.slice none 0 0, .int .i64 4]) ∧ Below w.heap.size w w' :=
  done_no ok g n s.g (s.V % 16777216) _ R w H (by omega) (by rw [Wr.dig_len]; exact h1) h2 (by rw [Wr.dig_len]; unfold Fits at hf; omega)
end Go.Proofs.YtjmoklebimejaaaDoor.WrWalk
