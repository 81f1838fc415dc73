import Derived.Test.YtjmoklebimejaaaDoorWrRaw
import Derived.Test.YtjmoklebimejaaaDoorOSymPutsx1
import Derived.Test.YtjmoklebimejaaaDoorWrDone
import Derived.Deep.RegionWith
import Derived.Test.YtjmoklebimejaaaDoorRdFace
import Derived.Test.YtjmoklebimejaaaDoorWrSep
import Derived.Test.YtjmoklebimejaaaDoorRows
import Derived.Lib.LaidTab
import Derived.LaidMore
import Derived.Stop.Joined
import Derived.BigQuiet
import Derived.Test.YtjmoklebimejaaaDoorRfPack
import Derived.Test.YtjmoklebimejaaaDoorOSymPutsx2
namespace Go.Proofs.YtjmoklebimejaaaDoor.Sy
open Go.RowKit Go.Proofs.YtjmoklebimejaaaDoorW.PrintWords Go.Proofs.YtjmoklebimejaaaDoorW.PrintLast Go.Proofs.YtjmoklebimejaaaDoorW.PrintMore
open Go.Proofs.YtjmoklebimejaaaDoor.Wr (St)
open Go.Proofs.YtjmoklebimejaaaDoor.WrWalk Go.Proofs.YtjmoklebimejaaaDoor.OSymPuts
set_option linter.unusedVariables false
set_option linter.unusedSimpArgs false
/-- How many raw bits, and the symbol's total. -/
def sl (n : Int) : Nat := if n ≤ 256 then 0 else Lib.bitLen (n - 1).toNat - 8
def sh (n : Int) : Int := if n ≤ 256 then n else (n - 1) / 2 ^ sl n + 1
theorem bitLen_two : ∀ (f x : Nat), x < 2 ^ f → x < 2 ^ Lib.bitLenAux f x ∧ (0 < x → 2 ^ Lib.bitLenAux f x ≤ 2 * x)
  | 0, x, h => ⟨by simpa [Lib.bitLenAux] using h, by simp [Lib.bitLenAux]; omega⟩
  | f + 1, x, h => by
    unfold Lib.bitLenAux
    split
    · rename_i hz; subst hz; simp
    · have hp : 2 ^ (f + 1) = 2 * 2 ^ f := by rw [Nat.pow_succ]; omega
      obtain ⟨h1, h2⟩ := bitLen_two f (x / 2) (by omega)
      rw [Nat.add_comm 1, Nat.pow_succ]
      refine ⟨by omega, fun _ => ?_⟩
      by_cases hx : x / 2 = 0
      · have e : Lib.bitLenAux f (x / 2) = 0 := by
          rw [hx]; cases f <;> simp [Lib.bitLenAux]
        rw [e]; omega
      · have := h2 (by omega); omega
theorem bitLen_in {x : Nat} (h0 : 256 ≤ x) (h1 : x < 16777216) : ∃ k, Lib.bitLen x = k + 8 ∧ 1 ≤ k ∧ k ≤ 16 ∧ x / 2 ^ k ≤ 255 ∧ 128 ≤ x / 2 ^ k := by
  obtain ⟨a, b⟩ := bitLen_two 64 x (Nat.lt_trans h1 (by decide))
  have b := b (by omega)
  change x < 2 ^ Lib.bitLen x at a
  change 2 ^ Lib.bitLen x ≤ 2 * x at b
  generalize Lib.bitLen x = L at a b ⊢
  have hl : 8 < L := by
    refine Nat.lt_of_not_le fun hc => ?_
    have : 2 ^ L ≤ 2 ^ 8 := Nat.pow_le_pow_right (by decide) hc
    have e : 2 ^ 8 = 256 := by decide
    omega
  have hu : L ≤ 24 := by
    refine Nat.le_of_not_lt fun hc => ?_
    have : 2 ^ 25 ≤ 2 ^ L := Nat.pow_le_pow_right (by decide) hc
    have e : 2 ^ 25 = 33554432 := by decide
    omega
  refine ⟨L - 8, by omega, by omega, by omega, ?_, ?_⟩
  · have e : 2 ^ L = 256 * 2 ^ (L - 8) := by rw [show 256 = 2 ^ 8 by decide, ← Nat.pow_add]; congr 1; omega
    have : x / 2 ^ (L - 8) < 256 := Nat.div_lt_of_lt_mul (by rw [Nat.mul_comm, ← e]; exact a)
    omega
  · have e : 2 ^ L = 256 * 2 ^ (L - 8) := by rw [show 256 = 2 ^ 8 by decide, ← Nat.pow_add]; congr 1; omega
    rw [Nat.le_div_iff_mul_le (Nat.two_pow_pos _)]
    omega
theorem sl_big {n : Int} (h0 : 256 < n) (h1 : n ≤ 16777216) : ∃ k : Nat, sl n = k ∧ Lib.bitLen (n - 1).toNat = k + 8 ∧ 1 ≤ k ∧ k ≤ 16 ∧ (n - 1) / 2 ^ k ≤ 255 ∧ 128 ≤ (n - 1) / 2 ^ k := by
  obtain ⟨k, hk, a, b, c, d⟩ := bitLen_in (x := (n - 1).toNat) (by omega) (by omega)
  have e : (((n - 1).toNat / 2 ^ k : Nat) : Int) = (n - 1) / 2 ^ k := by rw [Int.natCast_ediv, Int.toNat_of_nonneg (by omega), Int.natCast_pow]; rfl
  refine ⟨k, ?_, hk, a, b, by omega, by omega⟩
  unfold sl
  rw [if_neg (by omega), hk]; omega
theorem sl_is {n : Int} (h0 : 1 ≤ n) (h1 : n ≤ 16777216) : sl n ≤ 16 ∧ 1 ≤ sh n ∧ sh n ≤ 256 ∧ sh n = (n - 1) / 2 ^ sl n + 1 ∧ (256 < n → 129 ≤ sh n) := by
  by_cases h : n ≤ 256
  · have e : sl n = 0 := by unfold sl; rw [if_pos h]
    have e2 : sh n = n := by unfold sh; rw [if_pos h]
    rw [e, e2, Int.pow_zero, Int.ediv_one]
    omega
  · obtain ⟨k, hk, _, b, b2, c, d⟩ := sl_big (n := n) (by omega) h1
    have e2 : sh n = (n - 1) / 2 ^ sl n + 1 := by unfold sh; rw [if_neg h]
    refine ⟨by omega, ?_, ?_, e2, fun _ => ?_⟩ <;> rw [e2, hk] <;> omega
theorem sw64 {x : Int} (h0 : -9223372036854775808 ≤ x) (h1 : x < 9223372036854775808) : wrap64 x = x := w64n h0 h1
theorem shr_64 (x : Int) (k : Nat) (hk : k ≤ 16) : shr .i64 x (k : Int) = x / 2 ^ k := by
  unfold shr
  rw [Int.toNat_natCast, Nat.min_eq_left (by show k ≤ 64; omega)]
/-- What parts computes. -/
theorem parts_is {n : Int} (h0 : 1 ≤ n) (h1 : n ≤ 16777216) (k : Nat) : sym_parts.f k n = some (sh n, (sl n : Int)) := by
  unfold sym_parts.f
  by_cases h : n ≤ 256
  · rw [if_pos h]; unfold sh sl; rw [if_pos h, if_pos h]; rfl
  · obtain ⟨j, hj, hL, a, b, c, d⟩ := sl_big (n := n) (by omega) h1
    have e1 : wrap64 (n - 1) = n - 1 := sw64 (by omega) (by omega)
    have e2 : IntKind.u64.wrap (n - 1) = n - 1 := by rw [show IntKind.u64.wrap (n - 1) = (n - 1) % 18446744073709551616 by simp [IntKind.wrap, IntKind.bits, IntKind.signed]]; omega
    rw [if_neg h, e1, e2]
    have e3 : bits_Len.f k (n - 1) = some ((j + 8 : Nat) : Int) := by
      unfold bits_Len.f bits_Len64.f
      rw [if_pos (by omega), hL]; rfl
    rw [e3, Option.bind_some]
    have e4 : wrap64 (((j + 8 : Nat) : Int) - 8) = (j : Int) := by rw [sw64 (by omega) (by omega)]; omega
    rw [e4, if_pos (by omega), shr_64 _ _ b, sw64 (by omega) (by omega)]
    unfold sh
    rw [if_neg h, hj]
theorem u64s {x : Int} (h0 : 0 ≤ x) (h1 : x < 18446744073709551616) : IntKind.u64.wrap x = x := by
  rw [show IntKind.u64.wrap x = x % 18446744073709551616 by simp [IntKind.wrap, IntKind.bits, IntKind.signed]]; omega
theorem pow_16 {k : Nat} (h : k ≤ 16) : (1 : Int) ≤ 2 ^ k ∧ (2 : Int) ^ k ≤ 65536 := by
  have h1 : (0 : Int) < 2 ^ k := Int.pow_pos (by decide)
  have h2 : 2 ^ k ≤ 2 ^ 16 := Nat.pow_le_pow_right (by decide) h
  have h3 : 2 ^ k ≤ 65536 := h2
  have e : ((2 ^ k : Nat) : Int) = 2 ^ k := by rw [Int.natCast_pow]; rfl
  omega
theorem and_u64 (x : Int) (i : Nat) (hi : i ≤ 16) (h0 : 0 ≤ x) (h1 : x < 4294967296) : bits .and .u64 x (2 ^ i - 1) = x % 2 ^ i := by
  have hpos : 0 < 2 ^ i := Nat.two_pow_pos i
  have hle : 2 ^ i ≤ 2 ^ 16 := Nat.pow_le_pow_right (by decide) hi
  have hle' : 2 ^ i ≤ 65536 := hle
  obtain ⟨a, rfl⟩ := Int.eq_ofNat_of_zero_le h0
  have hc : ((2 : Int) ^ i - 1) = ((2 ^ i - 1 : Nat) : Int) := by rw [Int.natCast_sub hpos, Int.natCast_pow]; rfl
  have key : ((BitVec.ofInt 64 (a : Int)) &&& (BitVec.ofInt 64 ((2 : Int) ^ i - 1))).toNat = a % 2 ^ i := by
    rw [BitVec.toNat_and, hc, BitVec.ofInt_natCast, BitVec.ofInt_natCast, BitVec.toNat_ofNat, BitVec.toNat_ofNat, Nat.mod_eq_of_lt (by omega), Nat.mod_eq_of_lt (by omega), Nat.and_two_pow_sub_one_eq_mod]
  show IntKind.u64.wrap (((BitVec.ofInt 64 (a : Int)) &&& (BitVec.ofInt 64 ((2 : Int) ^ i - 1))).toNat) = _
  have h2 : a % 2 ^ i ≤ a := Nat.mod_le _ _
  rw [key, u64s (by omega) (by omega), Int.natCast_emod, Int.natCast_pow]; rfl
/-- What Low computes. -/
theorem low_is {v : Int} (h0 : 0 ≤ v) (h1 : v < 4294967296) {k : Nat} (hk : k ≤ 16) : fix_Low.f v (k : Int) = some (v % 2 ^ k) := by
  have hp := pow_16 hk
  unfold fix_Low.f
  rw [if_neg (by omega)]
  have e1 : mx (k : Int) 0 = (k : Int) := by unfold mx; split <;> omega
  have e2 : shl .u64 1 (k : Int) = 2 ^ k := by
    unfold shl
    rw [Int.toNat_natCast, Nat.min_eq_left (by show k ≤ 64; omega), Int.one_mul, u64s (by omega) (by omega)]
  rw [e1, e2, u64s (by omega) (by omega), and_u64 v k hk h0 h1]
/-- A number that may be put. -/
abbrev okU (v n : Int) : Prop := 1 ≤ n ∧ n ≤ 16777216 ∧ 0 ≤ v ∧ v < n
def uput (s : St) (v n : Int) : St := if okU v n then Wr.put s (v / 2 ^ sl n) (v / 2 ^ sl n + 1) (sh n) else s
def uraw (v n : Int) : List Bool := if okU v n then rawN (v % 2 ^ sl n) (sl n : Int) else []
theorem okU_is {v n : Int} (h : okU v n) : Rd.ok (v / 2 ^ sl n) (v / 2 ^ sl n + 1) (sh n) ∧ Rw (v % 2 ^ sl n) (sl n : Int) ∧ sl n ≤ 16 ∧ 0 ≤ v % 2 ^ sl n ∧ v % 2 ^ sl n < 65536 ∧ 0 ≤ v / 2 ^ sl n ∧ v / 2 ^ sl n ≤ 255 := by
  obtain ⟨h0, h1, h2, h3⟩ := h
  obtain ⟨a, b, c, d, _⟩ := sl_is h0 h1
  have hp := pow_16 a
  have m0 : 0 ≤ v % 2 ^ sl n := Int.emod_nonneg _ (by omega)
  have m1 : v % 2 ^ sl n < 2 ^ sl n := Int.emod_lt_of_pos _ (by omega)
  have e0 : 0 ≤ v / 2 ^ sl n := Int.ediv_nonneg h2 (by omega)
  have e1 : v / 2 ^ sl n ≤ (n - 1) / 2 ^ sl n := Int.ediv_le_ediv (by omega) (by omega)
  exact ⟨⟨e0, by omega, by omega, by omega⟩, ⟨by omega, by omega, by rw [Int.toNat_natCast]; exact m1⟩, a, m0, by omega, e0, by omega⟩
end Go.Proofs.YtjmoklebimejaaaDoor.Sy
namespace Go.Proofs.YtjmoklebimejaaaDoor.SyWalk
open Go.RowKit Go.Proofs.YtjmoklebimejaaaDoorW.PrintWords Go.Proofs.YtjmoklebimejaaaDoorW.PrintLast Go.Proofs.YtjmoklebimejaaaDoorW.PrintMore
open Go.Proofs.YtjmoklebimejaaaDoor.Wr (St dig crow)
attribute [local go_sem] max2_int min2_int max_two min_two max_three min_three max_four min_four   -- for this text's walks alone
open Go.Proofs.YtjmoklebimejaaaDoor.WrWalk Go.Proofs.YtjmoklebimejaaaDoor.Sy Go.Proofs.YtjmoklebimejaaaDoor.OSymPuts
open Go.Proofs.YtjmoklebimejaaaDoor.Pack (bitsOf bitsOf_len)
set_option linter.unusedVariables false
set_option linter.unusedSimpArgs false
theorem at_below {ok : Nat → Prop} {w w1 : World} {g : Nat} {sz : Int} {s : St} {R : List Bool} (H : WrAt ok w g sz s R) (hb : Below w.heap.size w w1) : WrAt ok w1 g sz s R := WrB.below H hb
theorem at_drew {ok : Nat → Prop} {w : World} {g : Nat} {sz : Int} {s : St} {R : List Bool} (H : WrAt ok w g sz s R) : WrAt ok w.drew g sz s R := WrB.drew H
theorem raw_at (ok : Nat → Prop) (g : Nat) (sz x n : Int) (s : St) (R : List Bool) (w : World) (hx0 : 0 ≤ x) (hx1 : x < 4294967296) (hR : R.length ≤ 50000) (hfr : ∀ k, w.heap.size ≤ k → ok k) (H : WrAt ok w g sz s R) :
    Calls Tryd.prog 68 #[.pointer (some ⟨g, 0, none⟩), .int .u32 x, .int .i64 n] w fun e w' => e = .returned (.int .i64 (if Rw x n then 0 else 1)) ∧ WrAt ok w' g sz s (R ++ rawN x n) ∧ Foot ok w w' := raw_any ok g sz _ _ x n _ R w hx0 hx1 hR hfr H
theorem meth_put (a : Addr) (w : World) : (method 212 25 (.pointer (some a)) "Put").run Tryd.prog w = .ok (67, .pointer (some a)) w := by kernel_rfl
theorem meth_raw (a : Addr) (w : World) : (method 212 25 (.pointer (some a)) "Raw").run Tryd.prog w = .ok (68, .pointer (some a)) w := by kernel_rfl
set_option maxHeartbeats 1000000 in
theorem put_yes (ok : Nat → Prop) (g k : Nat) (hk : k ≤ 16) (v n h A A1 v64 lo sz : Int) (s : St) (R : List Bool) (w : World) (hfr : ∀ k, w.heap.size ≤ k → ok k) (H : WrAt ok w g sz s R) (hs : Wr.Fair s 65537) (hm : s.m ≤ 900) (hR : R.length ≤ 50000) (hA : v / 2 ^ k = A) (hA1 : IntKind.i64.wrap (A + 1) = A1) (hv : IntKind.u64.wrap v = v64) (hl : IntKind.u32.wrap lo = lo) (hok : Rd.ok A A1 h) (hrw : Rw lo (k : Int)) (hlo : 0 ≤ lo ∧ lo < 4294967296) (d1 : decide (n < 1) = false) (d2 : decide (16777216 < n) = false) (d3 : decide (v < 0) = false) (d4 : decide (n ≤ v) = false)
    (hp : ∀ w, Calls Tryd.prog 35 #[.int .i64 n] w fun e w' => e = .returned (.tuple #[.int .i64 h, .int .i64 (k : Int)]) ∧ Below w.heap.size w w')
    (hq : ∀ w, Calls Tryd.prog 36 #[.int .u64 v64, .int .i64 (k : Int)] w fun e w' => e = .returned (.int .u64 lo) ∧ Below w.heap.size w w') :
    Calls Tryd.prog 11 #[.pointer (some ⟨g, 0, none⟩), .int .i64 v, .int .i64 n] w fun e w' => e = .returned (.int .i64 0) ∧ WrAt ok w' g sz (Wr.put s A A1 h) (R ++ rawN lo (k : Int)) ∧ Foot ok w w' := by
  have HP := Aside0.mk hp
  have HQ := Aside0.mk hq
  clear hp hq
  have HH := Aside0.mk (p := WrAt ok w g sz s R) H
  clear H
  have HO := Aside0.mk hok
  have HR := Aside0.mk hrw
  clear hok hrw
  have HF := Aside0.mk (Foot.refl ok w)
  go_enter Tryd.func11, Tryd.ntmps11
  go_wp2_with (go_at_call 35; (with_reducible refine (HP.out _).mono ?_); rintro e w1 ⟨rfl, hb⟩; have HB := Aside0.mk hb; clear hb; have HF1 := Aside0.mk (HF.out.step HB.out); clear HF; have HF := HF1; clear HF1; have HH1 := Aside0.mk (at_below HH.out HB.out); clear HH HB; have HH := HH1; clear HH1)
  have M1 := meth_put
  have M2 := meth_raw
  go_region_with (first
    | (go_at_call 67; (with_reducible refine (put_any ok g sz A A1 h s R _ hs hm (fun k hk => hfr k (Nat.le_trans (HF.out.drew).b.size hk)) (at_drew HH.out)).mono ?_); rintro e w2 ⟨he, hw, hf⟩; rw [if_pos HO.out] at he; subst he; have HH2 := Aside0.mk hw; have HF2 := Aside0.mk ((HF.out.drew).trans hf); clear hw hf HH HF; have HH := HH2; have HF := HF2; clear HH2 HF2))
  go_wp2_with (first
    | (go_at_call 36; (with_reducible refine (HQ.out _).mono ?_); rintro e w3 ⟨rfl, hb⟩; have HB := Aside0.mk hb; clear hb; have HF1 := Aside0.mk (HF.out.step HB.out); clear HF; have HF := HF1; clear HF1; have HH1 := Aside0.mk (at_below HH.out HB.out); clear HH HB; have HH := HH1; clear HH1)
    | (go_at_call 68; (with_reducible refine (raw_at ok g sz lo (k : Int) _ R _ hlo.1 hlo.2 hR (fun k hk => hfr k (Nat.le_trans HF.out.b.size hk)) HH.out).mono ?_); rintro e w4 ⟨he, hw, hf⟩; rw [if_pos HR.out] at he; subst he; have HH2 := Aside0.mk hw; have HF2 := Aside0.mk ((HF.out).trans hf); clear hw hf HH HF; have HH := HH2; have HF := HF2; clear HH2 HF2))
  go_ret
  exact ⟨rfl, HH.out, HF.out⟩
theorem uput_no1 (g : Nat) (v n : Int) (w : World) (d1 : decide (n < 1) = true) :
    Calls Tryd.prog 11 #[.pointer (some ⟨g, 0, none⟩), .int .i64 v, .int .i64 n] w fun e w' => e = .returned (.int .i64 1) ∧ Below w.heap.size w w' := by
  have HB := Aside0.mk (Below.refl w.heap.size w)
  go_enter Tryd.func11, Tryd.ntmps11
  go_wp2
  go_ret
  exact ⟨rfl, (by repeat (first | exact HB.out | apply below_drew1 | apply pw_below_drewN))⟩
theorem uput_no2 (g : Nat) (v n : Int) (w : World) (d1 : decide (n < 1) = false) (d2 : decide (16777216 < n) = true) :
    Calls Tryd.prog 11 #[.pointer (some ⟨g, 0, none⟩), .int .i64 v, .int .i64 n] w fun e w' => e = .returned (.int .i64 1) ∧ Below w.heap.size w w' := by
  have HB := Aside0.mk (Below.refl w.heap.size w)
  go_enter Tryd.func11, Tryd.ntmps11
  go_wp2
  go_ret
  exact ⟨rfl, (by repeat (first | exact HB.out | apply below_drew1 | apply pw_below_drewN))⟩
theorem uput_no3 (g : Nat) (v n : Int) (w : World) (d1 : decide (n < 1) = false) (d2 : decide (16777216 < n) = false) (d3 : decide (v < 0) = true) :
    Calls Tryd.prog 11 #[.pointer (some ⟨g, 0, none⟩), .int .i64 v, .int .i64 n] w fun e w' => e = .returned (.int .i64 1) ∧ Below w.heap.size w w' := by
  have HB := Aside0.mk (Below.refl w.heap.size w)
  go_enter Tryd.func11, Tryd.ntmps11
  go_wp2
  go_ret
  exact ⟨rfl, (by repeat (first | exact HB.out | apply below_drew1 | apply pw_below_drewN))⟩
theorem uput_no4 (g : Nat) (v n : Int) (w : World) (d1 : decide (n < 1) = false) (d2 : decide (16777216 < n) = false) (d3 : decide (v < 0) = false) (d4 : decide (n ≤ v) = true) :
    Calls Tryd.prog 11 #[.pointer (some ⟨g, 0, none⟩), .int .i64 v, .int .i64 n] w fun e w' => e = .returned (.int .i64 1) ∧ Below w.heap.size w w' := by
  have HB := Aside0.mk (Below.refl w.heap.size w)
  go_enter Tryd.func11, Tryd.ntmps11
  go_wp2
  go_ret
  exact ⟨rfl, (by repeat (first | exact HB.out | apply below_drew1 | apply pw_below_drewN))⟩
theorem parts_call {n : Int} (h0 : 1 ≤ n) (h1 : n ≤ 16777216) (w : World) : Calls Tryd.prog 35 #[.int .i64 n] w fun e w' => e = .returned (.tuple #[.int .i64 (sh n), .int .i64 (sl n : Int)]) ∧ Below w.heap.size w w' :=
  (sym_parts.calls 1 n (sh n) (sl n : Int) w (parts_is h0 h1 1)).mono (by first | (rintro e w' ⟨he, hb⟩; exact ⟨he, hb⟩) | (rintro e w' ⟨he, nd, rfl⟩; exact ⟨he, by repeat (first | exact Below.refl _ _ | apply below_drew1 | apply pw_below_drewN)⟩))
theorem low_call {v : Int} (h0 : 0 ≤ v) (h1 : v < 4294967296) {k : Nat} (hk : k ≤ 16) (w : World) : Calls Tryd.prog 36 #[.int .u64 v, .int .i64 (k : Int)] w fun e w' => e = .returned (.int .u64 (v % 2 ^ k)) ∧ Below w.heap.size w w' :=
  fix_Low.calls v (k : Int) _ w (low_is h0 h1 hk)
/-- Whatever number is put. -/
theorem uput_any (ok : Nat → Prop) (g : Nat) (v n sz : Int) (s : St) (R : List Bool) (w : World) (hs : Wr.Fair s 65537) (hm : s.m ≤ 900) (hR : R.length ≤ 50000) (hfr : ∀ k, w.heap.size ≤ k → ok k) (H : WrAt ok w g sz s R) :
    Calls Tryd.prog 11 #[.pointer (some ⟨g, 0, none⟩), .int .i64 v, .int .i64 n] w fun e w' => e = .returned (.int .i64 (if okU v n then 0 else 1)) ∧ WrAt ok w' g sz (uput s v n) (R ++ uraw v n) ∧ Foot ok w w' := by
  by_cases h : okU v n
  · have h' := h
    obtain ⟨b1, b2, b3, b4, b5, b6, b7⟩ := okU_is h
    obtain ⟨h0, h1, h2, h3⟩ := h'
    unfold uput uraw
    rw [if_pos h, if_pos h, if_pos h]
    exact put_yes ok g (sl n) b3 v n (sh n) (v / 2 ^ sl n) (v / 2 ^ sl n + 1) v (v % 2 ^ sl n) sz s R w hfr H hs hm hR rfl (by rw [i64_w]; exact w64n (by omega) (by omega)) (u64s h2 (by omega)) (u32s b4 (by omega)) b1 b2 ⟨b4, by omega⟩ (decide_eq_false (by omega)) (decide_eq_false (by omega)) (decide_eq_false (by omega)) (decide_eq_false (by omega)) (parts_call h0 h1) (low_call h2 (by omega) b3)
  · unfold uput uraw
    rw [if_neg h, if_neg h, if_neg h, List.append_nil]
    have fin : ∀ (e : Ending) (w' : World), (e = .returned (.int .i64 1) ∧ Below w.heap.size w w') → e = .returned (.int .i64 1) ∧ WrAt ok w' g sz s R ∧ Foot ok w w' := fun e w' hh => ⟨hh.1, at_below H hh.2, Foot.of_below hh.2⟩
    by_cases c1 : n < 1
    · exact (uput_no1 g v n w (decide_eq_true c1)).mono fin
    by_cases c2 : (16777216 : Int) < n
    · exact (uput_no2 g v n w (decide_eq_false c1) (decide_eq_true c2)).mono fin
    by_cases c3 : v < 0
    · exact (uput_no3 g v n w (decide_eq_false c1) (decide_eq_false c2) (decide_eq_true c3)).mono fin
    · exact (uput_no4 g v n w (decide_eq_false c1) (decide_eq_false c2) (decide_eq_false c3) (decide_eq_true (by unfold okU at h; omega))).mono fin
theorem uput_fair {s : St} (hs : Wr.Fair s 65537) (v n : Int) : Wr.Fair (uput s v n) 65537 := by unfold uput; split; exact Wr.put_fair hs _ _ _; exact hs
theorem uput_m (s : St) (v n : Int) : s.m ≤ (uput s v n).m ∧ (uput s v n).m ≤ s.m + 2 := by unfold uput; split; exact Wr.put_m s _ _ _; omega
theorem uraw_len (v n : Int) : (uraw v n).length ≤ 16 := by
  unfold uraw rawN
  split
  · rename_i h
    obtain ⟨_, b2, b3, _⟩ := okU_is h
    rw [if_pos b2, bitsOf_len, Int.toNat_natCast]; exact b3
  · simp
end Go.Proofs.YtjmoklebimejaaaDoor.SyWalk
namespace Go.Proofs.YtjmoklebimejaaaDoor.SyWalk
open Go.RowKit Go.Proofs.YtjmoklebimejaaaDoorW.PrintWords Go.Proofs.YtjmoklebimejaaaDoorW.PrintLast Go.Proofs.YtjmoklebimejaaaDoorW.PrintMore
open Go.Proofs.YtjmoklebimejaaaDoor.WrWalk Go.Proofs.YtjmoklebimejaaaDoor.Sy Go.Proofs.YtjmoklebimejaaaDoor.OSymPuts
set_option linter.unusedVariables false
set_option linter.unusedSimpArgs false
/-- How a reader keeps the world. -/
structure Keeps (T : World → World → Prop) : Prop where
  below : ∀ {w w' : World}, Below w.heap.size w w' → T w w'
  trans : ∀ {w w' w'' : World}, T w w' → T w' w'' → T w w''
/-- What stays under what touches nothing that was there. -/
abbrev Stays (P : World → Prop) : Prop := ∀ {w w' : World}, Below w.heap.size w w' → P w → P w'
theorem drew_self (w : World) : Below w.heap.size w w.drew := below_drew1 (Below.refl _ _)
/-- A number that is read: what was found, and whether it is one. -/
def uval (n v x : Int) : Int := v * 2 ^ sl n + x
def ures (n u : Int) : Int := min u (n - 1)
theorem rmeth_get (a : Addr) (w : World) : (method 212 45 (.pointer (some a)) "Get").run Tryd.prog w = .ok (70, .pointer (some a)) w := by kernel_rfl
theorem rmeth_take (a : Addr) (w : World) : (method 212 45 (.pointer (some a)) "Take").run Tryd.prog w = .ok (72, .pointer (some a)) w := by kernel_rfl
theorem rmeth_raw (a : Addr) (w : World) : (method 212 45 (.pointer (some a)) "Raw").run Tryd.prog w = .ok (71, .pointer (some a)) w := by kernel_rfl
set_option maxHeartbeats 1000000 in
theorem rone_any (g : Nat) (P0 P1 : World → Prop) (T : World → World → Prop) (hT : Keeps T) (s0 : Stays P0) (s1 : Stays P1) (v v1 n : Int) (hv1 : wrap64 (v + 1) = v1)
    (CG : ∀ w, P0 w → Calls Tryd.prog 70 #[.pointer (some ⟨g, 0, none⟩), .int .i64 n] w fun e w' => e = .returned (.int .i64 v) ∧ P0 w' ∧ T w w')
    (CT : ∀ w, P0 w → Calls Tryd.prog 72 #[.pointer (some ⟨g, 0, none⟩), .int .i64 v, .int .i64 v1, .int .i64 n] w fun e w' => e = .returned (.tuple #[]) ∧ P1 w' ∧ T w w') (w : World) (h : P0 w) :
    Calls Tryd.prog 45 #[.pointer (some ⟨g, 0, none⟩), .int .i64 n] w fun e w' => e = .returned (.int .i64 v) ∧ P1 w' ∧ T w w' := by
  have HG := Aside0.mk CG
  have HT := Aside0.mk CT
  clear CG CT
  have HP := Aside0.mk h
  clear h
  have HK := Aside0.mk (hT.below (Below.refl w.heap.size w))
  go_enter Tryd.func45, Tryd.ntmps45
  have M1 := rmeth_get
  have M2 := rmeth_take
  go_wp2_with (first
    | (go_at_call 70; (with_reducible refine (HG.out _ HP.out).mono ?_); rintro e w1 ⟨rfl, hp, ht⟩; have HP1 := Aside0.mk hp; have HK1 := Aside0.mk (hT.trans HK.out ht); clear HP HK hp ht; have HP := HP1; have HK := HK1; clear HP1 HK1)
    | (go_at_call 72; (with_reducible refine (HT.out _ HP.out).mono ?_); rintro e w1 ⟨rfl, hp, ht⟩; have HP1 := Aside0.mk hp; have HK1 := Aside0.mk (hT.trans HK.out ht); clear HP HK hp ht; have HP := HP1; have HK := HK1; clear HP1 HK1))
  go_ret
  exact ⟨rfl, HP.out, HK.out⟩
set_option maxHeartbeats 1000000 in
theorem ruint_walk (g k : Nat) (P0 P1 P2 : World → Prop) (T : World → World → Prop) (hT : Keeps T) (s0 : Stays P0) (s1 : Stays P1) (s2 : Stays P2) (n h v x A1 u : Int) (d1 : decide (n < 1) = false) (d2 : decide (16777216 < n) = false) (hk : k ≤ 16)
    (e1 : IntKind.i64.wrap (v * 2 ^ k) = A1) (e2 : IntKind.i64.wrap x = x) (e3 : bits .or .i64 A1 x = u) (e4 : wrap64 (n - 1) = n - 1)
    (CP : ∀ w, Calls Tryd.prog 35 #[.int .i64 n] w fun e w' => e = .returned (.tuple #[.int .i64 h, .int .i64 (k : Int)]) ∧ Below w.heap.size w w')
    (CO : ∀ w, P0 w → Calls Tryd.prog 45 #[.pointer (some ⟨g, 0, none⟩), .int .i64 h] w fun e w' => e = .returned (.int .i64 v) ∧ P1 w' ∧ T w w')
    (CR : ∀ w, P1 w → Calls Tryd.prog 71 #[.pointer (some ⟨g, 0, none⟩), .int .i64 (k : Int)] w fun e w' => e = .returned (.int .u32 x) ∧ P2 w' ∧ T w w') (w : World) (hp : P0 w) :
    Calls Tryd.prog 24 #[.pointer (some ⟨g, 0, none⟩), .int .i64 n] w fun e w' => e = .returned (.tuple #[.int .i64 (min u (n - 1)), .bool (decide (u < n))]) ∧ P2 w' ∧ T w w' := by
  have HC := Aside0.mk CP
  have HO := Aside0.mk CO
  have HR := Aside0.mk CR
  clear CP CO CR
  have HP := Aside0.mk hp
  clear hp
  have HK := Aside0.mk (hT.below (Below.refl w.heap.size w))
  go_enter Tryd.func24, Tryd.ntmps24
  have M1 := rmeth_raw
  go_wp2_with (first
    | (go_at_call 35; (with_reducible refine (HC.out _).mono ?_); rintro e w1 ⟨rfl, hb⟩; have HP1 := Aside0.mk (s0 hb HP.out); have HK1 := Aside0.mk (hT.trans HK.out (hT.below hb)); clear HP HK hb; have HP := HP1; have HK := HK1; clear HP1 HK1))
  go_region_with (first
    | (go_at_call 45; (with_reducible refine (HO.out _ (s0 (drew_self _) HP.out)).mono ?_); rintro e w2 ⟨rfl, hp, ht⟩; have HP1 := Aside0.mk hp; have HK1 := Aside0.mk (hT.trans (hT.trans HK.out (hT.below (drew_self _))) ht); clear HP HK hp ht; have HP := HP1; have HK := HK1; clear HP1 HK1)
    | (go_at_call 71; (with_reducible refine (HR.out _ HP.out).mono ?_); rintro e w3 ⟨rfl, hp, ht⟩; have HP1 := Aside0.mk hp; have HK1 := Aside0.mk (hT.trans HK.out ht); clear HP HK hp ht; have HP := HP1; have HK := HK1; clear HP1 HK1))
  all_goals (go_wp2; go_ret2; exact ⟨rfl, HP.out, HK.out⟩)
theorem smeth_get (a : Addr) (w : World) : (method 212 47 (.pointer (some a)) "Get").run Tryd.prog w = .ok (74, .pointer (some a)) w := by kernel_rfl
theorem smeth_take (a : Addr) (w : World) : (method 212 47 (.pointer (some a)) "Take").run Tryd.prog w = .ok (76, .pointer (some a)) w := by kernel_rfl
theorem smeth_raw (a : Addr) (w : World) : (method 212 47 (.pointer (some a)) "Raw").run Tryd.prog w = .ok (75, .pointer (some a)) w := by kernel_rfl
set_option maxHeartbeats 1000000 in
theorem sone_any (g : Nat) (P0 P1 : World → Prop) (T : World → World → Prop) (hT : Keeps T) (s0 : Stays P0) (s1 : Stays P1) (v v1 n : Int) (hv1 : wrap64 (v + 1) = v1)
    (CG : ∀ w, P0 w → Calls Tryd.prog 74 #[.pointer (some ⟨g, 0, none⟩), .int .i64 n] w fun e w' => e = .returned (.int .i64 v) ∧ P0 w' ∧ T w w')
    (CT : ∀ w, P0 w → Calls Tryd.prog 76 #[.pointer (some ⟨g, 0, none⟩), .int .i64 v, .int .i64 v1, .int .i64 n] w fun e w' => e = .returned (.tuple #[]) ∧ P1 w' ∧ T w w') (w : World) (h : P0 w) :
    Calls Tryd.prog 46 #[.pointer (some ⟨g, 0, none⟩), .int .i64 n] w fun e w' => e = .returned (.int .i64 v) ∧ P1 w' ∧ T w w' := by
  have HG := Aside0.mk CG
  have HT := Aside0.mk CT
  clear CG CT
  have HP := Aside0.mk h
  clear h
  have HK := Aside0.mk (hT.below (Below.refl w.heap.size w))
  go_enter Tryd.func46, Tryd.ntmps46
  have M1 := smeth_get
  have M2 := smeth_take
  go_wp2_with (first
    | (go_at_call 74; (with_reducible refine (HG.out _ HP.out).mono ?_); rintro e w1 ⟨rfl, hp, ht⟩; have HP1 := Aside0.mk hp; have HK1 := Aside0.mk (hT.trans HK.out ht); clear HP HK hp ht; have HP := HP1; have HK := HK1; clear HP1 HK1)
    | (go_at_call 76; (with_reducible refine (HT.out _ HP.out).mono ?_); rintro e w1 ⟨rfl, hp, ht⟩; have HP1 := Aside0.mk hp; have HK1 := Aside0.mk (hT.trans HK.out ht); clear HP HK hp ht; have HP := HP1; have HK := HK1; clear HP1 HK1))
  go_ret
  exact ⟨rfl, HP.out, HK.out⟩
set_option maxHeartbeats 1000000 in
theorem suint_walk (g k : Nat) (P0 P1 P2 : World → Prop) (T : World → World → Prop) (hT : Keeps T) (s0 : Stays P0) (s1 : Stays P1) (s2 : Stays P2) (n h v x A1 u : Int) (d1 : decide (n < 1) = false) (d2 : decide (16777216 < n) = false) (hk : k ≤ 16)
    (e1 : IntKind.i64.wrap (v * 2 ^ k) = A1) (e2 : IntKind.i64.wrap x = x) (e3 : bits .or .i64 A1 x = u) (e4 : wrap64 (n - 1) = n - 1)
    (CP : ∀ w, Calls Tryd.prog 35 #[.int .i64 n] w fun e w' => e = .returned (.tuple #[.int .i64 h, .int .i64 (k : Int)]) ∧ Below w.heap.size w w')
    (CO : ∀ w, P0 w → Calls Tryd.prog 46 #[.pointer (some ⟨g, 0, none⟩), .int .i64 h] w fun e w' => e = .returned (.int .i64 v) ∧ P1 w' ∧ T w w')
    (CR : ∀ w, P1 w → Calls Tryd.prog 75 #[.pointer (some ⟨g, 0, none⟩), .int .i64 (k : Int)] w fun e w' => e = .returned (.int .u32 x) ∧ P2 w' ∧ T w w') (w : World) (hp : P0 w) :
    Calls Tryd.prog 25 #[.pointer (some ⟨g, 0, none⟩), .int .i64 n] w fun e w' => e = .returned (.tuple #[.int .i64 (min u (n - 1)), .bool (decide (u < n))]) ∧ P2 w' ∧ T w w' := by
  have HC := Aside0.mk CP
  have HO := Aside0.mk CO
  have HR := Aside0.mk CR
  clear CP CO CR
  have HP := Aside0.mk hp
  clear hp
  have HK := Aside0.mk (hT.below (Below.refl w.heap.size w))
  go_enter Tryd.func25, Tryd.ntmps25
  have M1 := smeth_raw
  go_wp2_with (first
    | (go_at_call 35; (with_reducible refine (HC.out _).mono ?_); rintro e w1 ⟨rfl, hb⟩; have HP1 := Aside0.mk (s0 hb HP.out); have HK1 := Aside0.mk (hT.trans HK.out (hT.below hb)); clear HP HK hb; have HP := HP1; have HK := HK1; clear HP1 HK1))
  go_region_with (first
    | (go_at_call 46; (with_reducible refine (HO.out _ (s0 (drew_self _) HP.out)).mono ?_); rintro e w2 ⟨rfl, hp, ht⟩; have HP1 := Aside0.mk hp; have HK1 := Aside0.mk (hT.trans (hT.trans HK.out (hT.below (drew_self _))) ht); clear HP HK hp ht; have HP := HP1; have HK := HK1; clear HP1 HK1)
    | (go_at_call 75; (with_reducible refine (HR.out _ HP.out).mono ?_); rintro e w3 ⟨rfl, hp, ht⟩; have HP1 := Aside0.mk hp; have HK1 := Aside0.mk (hT.trans HK.out ht); clear HP HK hp ht; have HP := HP1; have HK := HK1; clear HP1 HK1))
  all_goals (go_wp2; go_ret2; exact ⟨rfl, HP.out, HK.out⟩)
end Go.Proofs.YtjmoklebimejaaaDoor.SyWalk
namespace Go.Proofs.YtjmoklebimejaaaDoor.SyWalk
open Go.RowKit Go.Proofs.YtjmoklebimejaaaDoorW.PrintWords Go.Proofs.YtjmoklebimejaaaDoorW.PrintLast Go.Proofs.YtjmoklebimejaaaDoorW.PrintMore
open Go.Proofs.YtjmoklebimejaaaDoor.WrWalk Go.Proofs.YtjmoklebimejaaaDoor.Sy Go.Proofs.YtjmoklebimejaaaDoor.OSymPuts
open Go.Proofs.YtjmoklebimejaaaDoor.RdWalk (RdAt rd_get rd_take rd_raw rd_new rawn)
open Go.Proofs.YtjmoklebimejaaaDoor.Rd (by_ Bytes)
set_option linter.unusedVariables false
set_option linter.unusedSimpArgs false
theorem or_i64 {v x : Int} {k : Nat} (hk : k ≤ 16) (h0 : 0 ≤ v) (h1 : v ≤ 4096) (h2 : 0 ≤ x) (h3 : x < 2 ^ k) : bits .or .i64 (v * 2 ^ k) x = v * 2 ^ k + x := by
  obtain ⟨a, rfl⟩ := Int.eq_ofNat_of_zero_le h0
  obtain ⟨b, rfl⟩ := Int.eq_ofNat_of_zero_le h2
  have hp : 2 ^ k ≤ 2 ^ 16 := Nat.pow_le_pow_right (by decide) hk
  have hp' : 2 ^ k ≤ 65536 := hp
  have h3' : b < 2 ^ k := by
    have : ((2 ^ k : Nat) : Int) = 2 ^ k := by rw [Int.natCast_pow]; rfl
    rw [← this] at h3
    omega
  have e1 : ((a : Int) * 2 ^ k) = ((a <<< k : Nat) : Int) := by rw [Nat.shiftLeft_eq, Int.natCast_mul, Int.natCast_pow]; rfl
  have e2 : a <<< k ≤ 268435456 := by
    rw [Nat.shiftLeft_eq]
    exact Nat.le_trans (Nat.mul_le_mul (show a ≤ 4096 by omega) hp') (by decide)
  have key : ((BitVec.ofInt 64 ((a <<< k : Nat) : Int)) ||| (BitVec.ofInt 64 (b : Int))).toNat = a <<< k + b := by
    rw [BitVec.toNat_or, BitVec.ofInt_natCast, BitVec.ofInt_natCast, BitVec.toNat_ofNat, BitVec.toNat_ofNat, Nat.mod_eq_of_lt (by omega), Nat.mod_eq_of_lt (by omega), ← Nat.shiftLeft_add_eq_or_of_lt h3']
  rw [e1]
  show IntKind.i64.wrap (((BitVec.ofInt 64 ((a <<< k : Nat) : Int)) ||| (BitVec.ofInt 64 (b : Int))).toNat) = _
  rw [key, i64_w, sw64 (by omega) (by omega)]
  omega
theorem uval_in {n v x : Int} (h0 : 0 ≤ v) (h1 : v ≤ 4096) (h2 : 0 ≤ x) (h3 : x < 2 ^ sl n) (hk : sl n ≤ 16) : 0 ≤ uval n v x ∧ uval n v x ≤ 268500992 ∧ 0 ≤ v * 2 ^ sl n ∧ v * 2 ^ sl n ≤ 268435456 := by
  have hp := pow_16 hk
  have a1 : 0 ≤ v * 2 ^ sl n := Int.mul_nonneg h0 (by omega)
  have a2 : v * 2 ^ sl n ≤ 4096 * 65536 := Int.mul_le_mul h1 hp.2 (by omega) (by omega)
  unfold uval
  omega
/-- How a reader's call leaves the world. -/
def RT (g : Nat) (w w' : World) : Prop := g < w.heap.size → Below g w w' ∧ KeepBut w w' g none
theorem rt_keeps (g : Nat) : Keeps (RT g) := ⟨fun h hg => ⟨h.mono (by omega), KeepBut.of_below h g none⟩, fun h h2 hg => by
  have a := h hg
  have b := h2 (Nat.lt_of_lt_of_le hg a.1.size)
  exact ⟨a.1.trans b.1, a.2.trans b.2 (.inl rfl)⟩⟩
theorem rd_stays (g : Nat) (B : List Int) (s : Rd.St) : Stays (fun w => RdAt w g B s) := fun hb h => h.below hb
/-- What a number costs a reader, and what it is. -/
def ut (B : List Int) (s : Rd.St) (n : Int) : Rd.St := Rd.take B s (Rd.get s (sh n)) (Rd.get s (sh n) + 1) (sh n)
def uu (B : List Int) (s : Rd.St) (n : Int) : Int := uval n (Rd.get s (sh n)) (Rd.raw B (ut B s n).r (sl n))
def us (B : List Int) (s : Rd.St) (n : Int) : Rd.St := rawn (ut B s n) (sl n : Int)
theorem cl_sl {k : Nat} (h : k ≤ 16) : Rd.cl (k : Int) = k := by unfold Rd.cl; omega
theorem us_good {B : List Int} (hB : Bytes B) {s : Rd.St} (hs : Rd.Good s) (n : Int) : Rd.Good (us B s n) := by
  have h := Rd.take_good hB hs (Rd.get s (sh n)) (Rd.get s (sh n) + 1) (sh n)
  obtain ⟨a, b, c, d⟩ := h
  exact ⟨a, b, c, d⟩
theorem us_t (B : List Int) (s : Rd.St) (n : Int) : s.t ≤ (us B s n).t ∧ (us B s n).t ≤ s.t + 2 := Rd.take_t B s _ _ _
theorem us_r (B : List Int) (s : Rd.St) {n : Int} (h0 : 1 ≤ n) (h1 : n ≤ 16777216) : (us B s n).r = s.r + sl n := by
  have hk := (sl_is h0 h1).1
  show (ut B s n).r + Rd.cl (sl n : Int) = _
  rw [cl_sl hk]
  exact congrArg (· + sl n) (Rd.take_r B s _ _ _)
theorem uu_in {B : List Int} {s : Rd.St} (hs : Rd.Good s) {n : Int} (h0 : 1 ≤ n) (h1 : n ≤ 16777216) : 0 ≤ uu B s n ∧ uu B s n ≤ 268500992 := by
  have hg := Rd.get_in hs (sh n)
  have hr := Rd.raw_in B (ut B s n).r (sl n)
  have := uval_in (n := n) hg.1 (by omega) hr.1 hr.2 (sl_is h0 h1).1
  exact ⟨this.1, this.2.1⟩
theorem rd_uint {g : Nat} {B : List Int} (hB : Bytes B) (hl : B.length ≤ 10000) {s : Rd.St} (hs : Rd.Good s) (ht : s.t ≤ 9990) (hr : s.r ≤ 80000) {n : Int} (h0 : 1 ≤ n) (h1 : n ≤ 16777216) {w : World} (h : RdAt w g B s) :
    Calls Tryd.prog 24 #[.pointer (some ⟨g, 0, none⟩), .int .i64 n] w fun e w' => e = .returned (.tuple #[.int .i64 (min (uu B s n) (n - 1)), .bool (decide (uu B s n < n))]) ∧ RdAt w' g B (us B s n) ∧ RT g w w' := by
  have hk := (sl_is h0 h1).1
  have hg := Rd.get_in hs (sh n)
  have hx := Rd.raw_in B (ut B s n).r (sl n)
  have hu := uval_in (n := n) hg.1 (by omega) hx.1 hx.2 hk
  have hp := pow_16 hk
  have hrr : (ut B s n).r = s.r := Rd.take_r B s _ _ _
  refine ruint_walk g (sl n) (fun w => RdAt w g B s) (fun w => RdAt w g B (ut B s n)) (fun w => RdAt w g B (us B s n)) (RT g) (rt_keeps g) (rd_stays g B s) (rd_stays g B _) (rd_stays g B _) n (sh n) (Rd.get s (sh n)) (Rd.raw B (ut B s n).r (sl n)) (Rd.get s (sh n) * 2 ^ sl n) (uu B s n) (decide_eq_false (by omega)) (decide_eq_false (by omega)) hk ?_ ?_ ?_ (sw64 (by omega) (by omega)) (parts_call h0 h1) ?_ ?_ w h
  · rw [i64_w]; exact sw64 (by omega) (by omega)
  · rw [i64_w]; exact sw64 (by omega) (by omega)
  · exact or_i64 hk hg.1 (by omega) hx.1 hx.2
  · intro w h
    exact rone_any g (fun w => RdAt w g B s) (fun w => RdAt w g B (ut B s n)) (RT g) (rt_keeps g) (rd_stays g B s) (rd_stays g B _) _ _ (sh n) (sw64 (by omega) (by omega)) (fun w h => (rd_get hs (sh n) h).mono (fun e w' hh => ⟨hh.1, hh.2.1, fun _ => hh.2.2⟩)) (fun w h => (rd_take hB hl hs ht _ _ _ h).mono (fun e w' hh => ⟨hh.1, hh.2.1, fun _ => hh.2.2⟩)) w h
  · intro w h
    exact (rd_raw hB hl (by rw [hrr]; omega) (sl n : Int) h).mono (fun e w' hh => ⟨by rw [hh.1, cl_sl hk], hh.2.1, fun _ => hh.2.2⟩)
theorem ruint_no (g : Nat) (n : Int) (w : World) (h : n < 1 ∨ 16777216 < n) :
    Calls Tryd.prog 24 #[.pointer (some ⟨g, 0, none⟩), .int .i64 n] w fun e w' => e = .returned (.tuple #[.int .i64 0, .bool false]) ∧ Below w.heap.size w w' := by
  have HB := Aside0.mk (Below.refl w.heap.size w)
  by_cases c : n < 1
  · have d1 : decide (n < 1) = true := decide_eq_true c
    clear c h
    go_enter Tryd.func24, Tryd.ntmps24
    go_wp2
    go_ret2
    exact ⟨rfl, by repeat (first | exact HB.out | apply below_drew1 | apply pw_below_drewN)⟩
  · have d1 : decide (n < 1) = false := decide_eq_false c
    have d2 : decide (16777216 < n) = true := decide_eq_true (by omega)
    clear c h
    go_enter Tryd.func24, Tryd.ntmps24
    go_wp2
    go_ret2
    exact ⟨rfl, by repeat (first | exact HB.out | apply below_drew1 | apply pw_below_drewN)⟩
end Go.Proofs.YtjmoklebimejaaaDoor.SyWalk
namespace Go.Proofs.YtjmoklebimejaaaDoor.SyWalk
open Go.RowKit Go.Proofs.YtjmoklebimejaaaDoorW.PrintWords Go.Proofs.YtjmoklebimejaaaDoorW.PrintLast Go.Proofs.YtjmoklebimejaaaDoorW.PrintMore
open Go.Proofs.YtjmoklebimejaaaDoor.WrWalk Go.Proofs.YtjmoklebimejaaaDoor.Sy Go.Proofs.YtjmoklebimejaaaDoor.OSymPuts
open Go.Proofs.YtjmoklebimejaaaDoor.RdWalk (RdAt rd_new)
open Go.Proofs.YtjmoklebimejaaaDoor.Rd (by_ Bytes)
open Go.Proofs.YtjmoklebimejaaaDoor.Wr (St)
open Go.Proofs.YtjmoklebimejaaaDoor.Pack (pk)
open Go.Proofs.YtjmoklebimejaaaDoor.WrLaw (new_wr2)
set_option linter.unusedVariables false
set_option linter.unusedSimpArgs false
theorem row_c8 {w : World} {Av : Option Addr} {m cc : Nat} {L : List Int} {ok : Nat → Prop} (h : Kd.R (Kd.int .u8) 5 w 0 ok (.slice Av m cc) L) (hl : L.length = m) : Kd.C (Kd.int .u8) w Av m L := by
  obtain ⟨h1, h2, h3⟩ := Kd.R_reads' h
  rw [hl] at h3
  exact h3
def exB : List Int := [254, 249, 4, 0, 0, 0, 0, 3]
theorem ex_ok : (if okU 999 1000 then (0 : Int) else 1) = 0 := by kernel_rfl
theorem ex_len : (uraw 999 1000).length = 2 := by kernel_rfl
theorem ex_m : (uput Wr.new 999 1000).m = 0 := by kernel_rfl
theorem ex_pk : pk 8 (uput Wr.new 999 1000).m (uput Wr.new 999 1000).V ([] ++ uraw 999 1000) = exB := by kernel_rfl
theorem ex_u : uu exB (Rd.new exB) 1000 = 999 := by kernel_rfl
theorem ex_by : Bytes exB := by
  intro x hx
  simp only [exB, List.mem_cons, List.not_mem_nil, or_false] at hx
  omega
theorem at_mono {ok ok' : Nat → Prop} {w : World} {g : Nat} {sz : Int} {s : St} {R : List Bool} (H : WrAt ok w g sz s R) (h : ∀ k, ok k → ok' k) : WrAt ok' w g sz s R := WrB.mono H (fun k hk _ => h k hk)
theorem cell_under {b : Nat} {w w' : World} (h : Below b w w') {a : Addr} (ha : a.block < b) : w'.cell? a = w.cell? a := by
  simp only [World.cell?, h.block _ ha]
set_option maxHeartbeats 4000000 in
set_option maxRecDepth 100000 in
theorem awake_any (w : World) : Calls Tryd.prog 6 #[] w fun e w' => e = .returned (.bool true) ∧ Below w.heap.size w w' := by
  have HB := Aside0.mk (Below.refl w.heap.size w)
  obtain ⟨S1, hS1⟩ : ∃ s, uput Wr.new 999 1000 = s := ⟨_, rfl⟩
  obtain ⟨R1, hR1⟩ : ∃ s, ([] : List Bool) ++ uraw 999 1000 = s := ⟨_, rfl⟩
  have CN : Aside0 (∀ w1, Calls Tryd.prog 7 #[.int .i64 8] w1 fun e w' => ∃ g, e = .returned (.tuple #[.pointer (some ⟨g, 0, none⟩), .int .i64 0]) ∧ WrAt (fun k => w1.heap.size ≤ k) w' g 8 Wr.new [] ∧ Below w1.heap.size w1 w') := ⟨fun w1 => new_wr2 8 (by omega) w1⟩
  have CP : Aside0 (∀ g w1, w.heap.size ≤ w1.heap.size → WrAt (fun k => w.heap.size ≤ k) w1 g 8 Wr.new [] → Calls Tryd.prog 11 #[.pointer (some ⟨g, 0, none⟩), .int .i64 999, .int .i64 1000] w1 fun e w' => e = .returned (.int .i64 0) ∧ WrAt (fun k => w.heap.size ≤ k) w' g 8 S1 R1 ∧ Below w.heap.size w1 w') := ⟨fun g w1 hs H => (uput_any _ g 999 1000 8 Wr.new [] w1 Wr.new_fair (by decide) (by decide) (fun k hk => Nat.le_trans hs hk) H).mono (fun e w' h => ⟨by rw [ex_ok] at h; exact h.1, hR1 ▸ hS1 ▸ h.2.1, h.2.2.below (fun k hk => hk) hs⟩)⟩
  have CD : Aside0 (∀ g w1, WrAt (fun k => w.heap.size ≤ k) w1 g 8 S1 R1 → Calls Tryd.prog 15 #[.pointer (some ⟨g, 0, none⟩)] w1 fun e w' => ∃ gb, e = .returned (.tuple #[.slice (some ⟨gb, 0, none⟩) 8 8, .int .i64 0]) ∧ Kd.C (Kd.int .u8) w' (some ⟨gb, 0, none⟩) 8 exB ∧ w'.cell? ⟨gb, 7, none⟩ = some (.int .u8 3) ∧ gb < w'.heap.size ∧ Below w1.heap.size w1 w') := ⟨fun g w1 H => by
    have h := done_yes _ g 8 S1 R1 w1 H (by omega) (by rw [← hR1, ← hS1, ex_m, List.nil_append, ex_len]; decide)
    refine h.mono ?_
    rintro e w' ⟨gb, rfl, hR, hb⟩
    rw [← hR1, ← hS1, ex_pk] at hR
    have hC := row_c8 hR rfl
    obtain ⟨ad, c, he, _, hK, hc⟩ := Kd.C_get hC (0 : Int) 7 (by omega) (by omega)
    injection he with he
    subst he
    have hK' : c = [Value.int .u8 (exB.getD 7 0)] := hK
    subst hK'
    have h7 : w'.cell? ⟨gb, 7, none⟩ = some (.int .u8 3) := hc 0 _ rfl
    refine ⟨gb, rfl, hC, h7, ?_, hb⟩
    refine Nat.lt_of_not_le fun hn => ?_
    simp [World.cell?, Array.getElem?_eq_none hn] at h7⟩
  have CR : Aside0 (∀ gb w1, Kd.C (Kd.int .u8) w1 (some ⟨gb, 0, none⟩) 8 exB → Calls Tryd.prog 18 #[.slice (some ⟨gb, 0, none⟩) 8 8] w1 fun e w' => ∃ g, e = .returned (.pointer (some ⟨g, 0, none⟩)) ∧ RdAt w' g exB (Rd.new exB) ∧ w1.heap.size ≤ g ∧ Below w1.heap.size w1 w') := ⟨fun gb w1 hC => rd_new exB 8 rfl ex_by (by omega) _ 8 w1 hC (Nat.le_refl _)⟩
  have CU : Aside0 (∀ g w1, RdAt w1 g exB (Rd.new exB) → Calls Tryd.prog 24 #[.pointer (some ⟨g, 0, none⟩), .int .i64 1000] w1 fun e w' => e = .returned (.tuple #[.int .i64 999, .bool true]) ∧ Below g w1 w') := ⟨fun g w1 h => (rd_uint ex_by (by decide) (Rd.new_good ex_by) (by decide) (by decide) (n := 1000) (by omega) (by omega) h).mono (fun e w' hh => ⟨by rw [hh.1, ex_u]; rfl, (hh.2.2 (RdWalk.at_lt h)).1⟩)⟩
  clear hS1 hR1
  go_enter Tryd.func6, Tryd.ntmps6
  go_wp2_with (first
    | (go_at_call 7; (with_reducible refine (CN.out _).mono ?_); rintro e w1 ⟨g, rfl, hI, hb⟩; have HI := Aside0.mk (at_mono (ok' := fun k => w.heap.size ≤ k) hI (fun k hk => Nat.le_trans HB.out.size hk)); have HB1 := Aside0.mk (below_step HB.out hb); clear hI hb)
    | (go_at_call 11; (with_reducible refine (CP.out g _ HB1.out.size HI.out).mono ?_); rintro e w2 ⟨rfl, hI, hf⟩; have HI2 := Aside0.mk hI; have HB2 := Aside0.mk (HB1.out.trans hf); clear HI hI hf)
    | (go_at_call 15; (with_reducible refine (CD.out g _ HI2.out).mono ?_); rintro e w3 ⟨gb, rfl, hC, h7, hlt, hb⟩; have HC := Aside0.mk hC; have H7 := Aside0.mk h7; have HL := Aside0.mk hlt; have HB3 := Aside0.mk (below_step HB2.out hb); clear hC h7 hlt hb)
    | (go_at_call 18; (with_reducible refine (CR.out gb _ HC.out).mono ?_); rintro e w4 ⟨gr, rfl, hr, hg, hb⟩; have HR := Aside0.mk hr; have HG := Aside0.mk hg; have H74 := Aside0.mk ((cell_under hb (a := ⟨gb, 7, none⟩) HL.out).trans H7.out); have HB4 := Aside0.mk (below_step HB3.out hb); have HX := Aside0.mk hb.size; clear hr hg hb)
    | (go_at_call 24; (with_reducible refine (CU.out gr _ HR.out).mono ?_); rintro e w5 ⟨rfl, hb⟩; have h75 := (cell_under hb (a := ⟨gb, 7, none⟩) (Nat.lt_of_lt_of_le HL.out HG.out)).trans H74.out; have HB5 := Aside0.mk (HB4.out.trans (hb.mono (Nat.le_trans HB3.out.size HG.out))); clear hb))
  go_ret
  exact ⟨rfl, HB5.out⟩
end Go.Proofs.YtjmoklebimejaaaDoor.SyWalk
namespace Go.Proofs.YtjmoklebimejaaaDoor.SyWalk
open Go.RowKit Go.Proofs.YtjmoklebimejaaaDoorW.PrintWords Go.Proofs.YtjmoklebimejaaaDoorW.PrintLast Go.Proofs.YtjmoklebimejaaaDoorW.PrintMore
open Go.Proofs.YtjmoklebimejaaaDoor.WrWalk Go.Proofs.YtjmoklebimejaaaDoor.Sy Go.Proofs.YtjmoklebimejaaaDoor.OSymPuts
open Go.Lib (tabData mapM_at mapM_length cells_of_tab)
set_option linter.unusedVariables false
set_option linter.unusedSimpArgs false
def widths : List Int := [20, 9, 5, 3, 2, 1, 1, 1]
/-- The table lies in its variable. -/
def Laid (w : World) : Prop := ∀ i : Nat, i < 8 → w.cell? ⟨0, i, none⟩ = some (.int .i64 (widths.getD i 0))
theorem Laid.below {w w' : World} (h : Laid w) (hb : Below w.heap.size w w') : Laid w' := fun i hi => pw_cell_below hb (h i hi)
theorem gWidths : Tryd.prog.globalNamed "spinet/sym.widths" = some 0 := by kernel_rfl
theorem of_laid {W : World} (h : laidMetH Tryd.prog [("spinet/sym.widths", Rows.laid_spinet_sym_widths)] W) : Laid W := by
  rw [MakeChecks.laidMetH_plain _ _ _ (by kernel_rfl)] at h
  obtain ⟨ps, ⟨g', t', cs, fuel, p, q, hg', ht', hvar, hd, _, _⟩, _⟩ := h
  obtain rfl := Option.some.inj (gWidths.symm.trans hg')
  have hty : (Tryd.prog.globals[0]?).map (·.type) = some 89 := by kernel_rfl
  obtain rfl := Option.some.inj (hty.symm.trans ht')
  have hc := cells_of_tab (zs := widths) (n := 8) (k := .i64) Tryd.underlying89 Tryd.underlying3 (by kernel_rfl) (by kernel_rfl) hd
  intro i hi
  have := World.var?_cell gWidths hvar i
  rw [this, ← Array.getElem?_toList, hc]
  rcases (by omega : i = 0 ∨ i = 1 ∨ i = 2 ∨ i = 3 ∨ i = 4 ∨ i = 5 ∨ i = 6 ∨ i = 7) with rfl | rfl | rfl | rfl | rfl | rfl | rfl | rfl <;> rfl
/-- Where a place begins. -/
def pf : Nat → Int
  | 0 => 0
  | k + 1 => pf k + widths.getD ((k + 1) / 2) 0
theorem Below_drewN (w : World) (n : Nat) : Below w.heap.size w (w.drewN n) := by repeat (first | exact Below.refl _ _ | apply pw_below_drewN)
set_option maxHeartbeats 8000000 in
set_option maxRecDepth 100000 in
theorem place_any (a : Nat) (ha : a ≤ 14) (w : World) (hL : Laid w) : Calls Tryd.prog 32 #[.int .i64 a] w fun e w' => e = .returned (.tuple #[.int .i64 (pf a), .int .i64 (pf (a + 1))]) ∧ Below w.heap.size w w' := by
  have HL := Aside0.mk hL
  clear hL
  have HB := Aside0.mk (Below.refl w.heap.size w)
  have hu := Tryd.underlying89
  go_enter Tryd.func32, Tryd.ntmps32
  go_wp2
  go_loopw [7, 4] (fun i f wr => ∃ k : Nat, k ≤ a ∧ i = .int .i64 k ∧ f = .int .i64 (pf k) ∧ Aside0 (Below w.heap.size w wr)) (fun i _ _ => (a - intOf i).toNat)
  case atStart => exact ⟨0, by omega, rfl, rfl, HB⟩
  case round =>
    obtain ⟨k, hk, rfl, rfl, HB2⟩ := hrel
    clear HB
    have HB := HB2
    clear HB2
    have HL2 := Aside0.mk (HL.out.below HB.out)
    by_cases ht : k < a
    · rcases (by omega : k = 0 ∨ k = 1 ∨ k = 2 ∨ k = 3 ∨ k = 4 ∨ k = 5 ∨ k = 6 ∨ k = 7 ∨ k = 8 ∨ k = 9 ∨ k = 10 ∨ k = 11 ∨ k = 12 ∨ k = 13) with rfl | rfl | rfl | rfl | rfl | rfl | rfl | rfl | rfl | rfl | rfl | rfl | rfl | rfl
      · have hp : pf 0 = 0 := by kernel_rfl
        have hc := HL2.out 0 (by omega)
        rw [show widths.getD 0 0 = 20 from rfl] at hc
        have d1 : decide ((0 : Int) < (a : Int)) = true := decide_eq_true (by omega)
        rw [hp]
        go_wp2
        exact ⟨⟨1, by omega, rfl, rfl, HB⟩, by simp [intOf]; omega⟩
      · have hp : pf 1 = 20 := by kernel_rfl
        have hc := HL2.out 1 (by omega)
        rw [show widths.getD 1 0 = 9 from rfl] at hc
        have d1 : decide ((1 : Int) < (a : Int)) = true := decide_eq_true (by omega)
        rw [hp]
        go_wp2
        exact ⟨⟨2, by omega, rfl, rfl, HB⟩, by simp [intOf]; omega⟩
      · have hp : pf 2 = 29 := by kernel_rfl
        have hc := HL2.out 1 (by omega)
        rw [show widths.getD 1 0 = 9 from rfl] at hc
        have d1 : decide ((2 : Int) < (a : Int)) = true := decide_eq_true (by omega)
        rw [hp]
        go_wp2
        exact ⟨⟨3, by omega, rfl, rfl, HB⟩, by simp [intOf]; omega⟩
      · have hp : pf 3 = 38 := by kernel_rfl
        have hc := HL2.out 2 (by omega)
        rw [show widths.getD 2 0 = 5 from rfl] at hc
        have d1 : decide ((3 : Int) < (a : Int)) = true := decide_eq_true (by omega)
        rw [hp]
        go_wp2
        exact ⟨⟨4, by omega, rfl, rfl, HB⟩, by simp [intOf]; omega⟩
      · have hp : pf 4 = 43 := by kernel_rfl
        have hc := HL2.out 2 (by omega)
        rw [show widths.getD 2 0 = 5 from rfl] at hc
        have d1 : decide ((4 : Int) < (a : Int)) = true := decide_eq_true (by omega)
        rw [hp]
        go_wp2
        exact ⟨⟨5, by omega, rfl, rfl, HB⟩, by simp [intOf]; omega⟩
      · have hp : pf 5 = 48 := by kernel_rfl
        have hc := HL2.out 3 (by omega)
        rw [show widths.getD 3 0 = 3 from rfl] at hc
        have d1 : decide ((5 : Int) < (a : Int)) = true := decide_eq_true (by omega)
        rw [hp]
        go_wp2
        exact ⟨⟨6, by omega, rfl, rfl, HB⟩, by simp [intOf]; omega⟩
      · have hp : pf 6 = 51 := by kernel_rfl
        have hc := HL2.out 3 (by omega)
        rw [show widths.getD 3 0 = 3 from rfl] at hc
        have d1 : decide ((6 : Int) < (a : Int)) = true := decide_eq_true (by omega)
        rw [hp]
        go_wp2
        exact ⟨⟨7, by omega, rfl, rfl, HB⟩, by simp [intOf]; omega⟩
      · have hp : pf 7 = 54 := by kernel_rfl
        have hc := HL2.out 4 (by omega)
        rw [show widths.getD 4 0 = 2 from rfl] at hc
        have d1 : decide ((7 : Int) < (a : Int)) = true := decide_eq_true (by omega)
        rw [hp]
        go_wp2
        exact ⟨⟨8, by omega, rfl, rfl, HB⟩, by simp [intOf]; omega⟩
      · have hp : pf 8 = 56 := by kernel_rfl
        have hc := HL2.out 4 (by omega)
        rw [show widths.getD 4 0 = 2 from rfl] at hc
        have d1 : decide ((8 : Int) < (a : Int)) = true := decide_eq_true (by omega)
        rw [hp]
        go_wp2
        exact ⟨⟨9, by omega, rfl, rfl, HB⟩, by simp [intOf]; omega⟩
      · have hp : pf 9 = 58 := by kernel_rfl
        have hc := HL2.out 5 (by omega)
        rw [show widths.getD 5 0 = 1 from rfl] at hc
        have d1 : decide ((9 : Int) < (a : Int)) = true := decide_eq_true (by omega)
        rw [hp]
        go_wp2
        exact ⟨⟨10, by omega, rfl, rfl, HB⟩, by simp [intOf]; omega⟩
      · have hp : pf 10 = 59 := by kernel_rfl
        have hc := HL2.out 5 (by omega)
        rw [show widths.getD 5 0 = 1 from rfl] at hc
        have d1 : decide ((10 : Int) < (a : Int)) = true := decide_eq_true (by omega)
        rw [hp]
        go_wp2
        exact ⟨⟨11, by omega, rfl, rfl, HB⟩, by simp [intOf]; omega⟩
      · have hp : pf 11 = 60 := by kernel_rfl
        have hc := HL2.out 6 (by omega)
        rw [show widths.getD 6 0 = 1 from rfl] at hc
        have d1 : decide ((11 : Int) < (a : Int)) = true := decide_eq_true (by omega)
        rw [hp]
        go_wp2
        exact ⟨⟨12, by omega, rfl, rfl, HB⟩, by simp [intOf]; omega⟩
      · have hp : pf 12 = 61 := by kernel_rfl
        have hc := HL2.out 6 (by omega)
        rw [show widths.getD 6 0 = 1 from rfl] at hc
        have d1 : decide ((12 : Int) < (a : Int)) = true := decide_eq_true (by omega)
        rw [hp]
        go_wp2
        exact ⟨⟨13, by omega, rfl, rfl, HB⟩, by simp [intOf]; omega⟩
      · have hp : pf 13 = 62 := by kernel_rfl
        have hc := HL2.out 7 (by omega)
        rw [show widths.getD 7 0 = 1 from rfl] at hc
        have d1 : decide ((13 : Int) < (a : Int)) = true := decide_eq_true (by omega)
        rw [hp]
        go_wp2
        exact ⟨⟨14, by omega, rfl, rfl, HB⟩, by simp [intOf]; omega⟩
    · obtain rfl : k = a := by omega
      rcases (by omega : k = 0 ∨ k = 1 ∨ k = 2 ∨ k = 3 ∨ k = 4 ∨ k = 5 ∨ k = 6 ∨ k = 7 ∨ k = 8 ∨ k = 9 ∨ k = 10 ∨ k = 11 ∨ k = 12 ∨ k = 13 ∨ k = 14) with rfl | rfl | rfl | rfl | rfl | rfl | rfl | rfl | rfl | rfl | rfl | rfl | rfl | rfl | rfl
      · have hp : pf 0 = 0 := by kernel_rfl
        have hc := HL2.out 0 (by omega)
        rw [show widths.getD 0 0 = 20 from rfl] at hc
        rw [hp]
        go_wp2
        go_quiet (fail)
        go_wp2
        go_ret2
        exact ⟨rfl, by repeat (first | exact HB.out | apply below_drew1 | apply pw_below_drewN)⟩
      · have hp : pf 1 = 20 := by kernel_rfl
        have hc := HL2.out 1 (by omega)
        rw [show widths.getD 1 0 = 9 from rfl] at hc
        rw [hp]
        go_wp2
        go_quiet (fail)
        go_wp2
        go_ret2
        exact ⟨rfl, by repeat (first | exact HB.out | apply below_drew1 | apply pw_below_drewN)⟩
      · have hp : pf 2 = 29 := by kernel_rfl
        have hc := HL2.out 1 (by omega)
        rw [show widths.getD 1 0 = 9 from rfl] at hc
        rw [hp]
        go_wp2
        go_quiet (fail)
        go_wp2
        go_ret2
        exact ⟨rfl, by repeat (first | exact HB.out | apply below_drew1 | apply pw_below_drewN)⟩
      · have hp : pf 3 = 38 := by kernel_rfl
        have hc := HL2.out 2 (by omega)
        rw [show widths.getD 2 0 = 5 from rfl] at hc
        rw [hp]
        go_wp2
        go_quiet (fail)
        go_wp2
        go_ret2
        exact ⟨rfl, by repeat (first | exact HB.out | apply below_drew1 | apply pw_below_drewN)⟩
      · have hp : pf 4 = 43 := by kernel_rfl
        have hc := HL2.out 2 (by omega)
        rw [show widths.getD 2 0 = 5 from rfl] at hc
        rw [hp]
        go_wp2
        go_quiet (fail)
        go_wp2
        go_ret2
        exact ⟨rfl, by repeat (first | exact HB.out | apply below_drew1 | apply pw_below_drewN)⟩
      · have hp : pf 5 = 48 := by kernel_rfl
        have hc := HL2.out 3 (by omega)
        rw [show widths.getD 3 0 = 3 from rfl] at hc
        rw [hp]
        go_wp2
        go_quiet (fail)
        go_wp2
        go_ret2
        exact ⟨rfl, by repeat (first | exact HB.out | apply below_drew1 | apply pw_below_drewN)⟩
      · have hp : pf 6 = 51 := by kernel_rfl
        have hc := HL2.out 3 (by omega)
        rw [show widths.getD 3 0 = 3 from rfl] at hc
        rw [hp]
        go_wp2
        go_quiet (fail)
        go_wp2
        go_ret2
        exact ⟨rfl, by repeat (first | exact HB.out | apply below_drew1 | apply pw_below_drewN)⟩
      · have hp : pf 7 = 54 := by kernel_rfl
        have hc := HL2.out 4 (by omega)
        rw [show widths.getD 4 0 = 2 from rfl] at hc
        rw [hp]
        go_wp2
        go_quiet (fail)
        go_wp2
        go_ret2
        exact ⟨rfl, by repeat (first | exact HB.out | apply below_drew1 | apply pw_below_drewN)⟩
      · have hp : pf 8 = 56 := by kernel_rfl
        have hc := HL2.out 4 (by omega)
        rw [show widths.getD 4 0 = 2 from rfl] at hc
        rw [hp]
        go_wp2
        go_quiet (fail)
        go_wp2
        go_ret2
        exact ⟨rfl, by repeat (first | exact HB.out | apply below_drew1 | apply pw_below_drewN)⟩
      · have hp : pf 9 = 58 := by kernel_rfl
        have hc := HL2.out 5 (by omega)
        rw [show widths.getD 5 0 = 1 from rfl] at hc
        rw [hp]
        go_wp2
        go_quiet (fail)
        go_wp2
        go_ret2
        exact ⟨rfl, by repeat (first | exact HB.out | apply below_drew1 | apply pw_below_drewN)⟩
      · have hp : pf 10 = 59 := by kernel_rfl
        have hc := HL2.out 5 (by omega)
        rw [show widths.getD 5 0 = 1 from rfl] at hc
        rw [hp]
        go_wp2
        go_quiet (fail)
        go_wp2
        go_ret2
        exact ⟨rfl, by repeat (first | exact HB.out | apply below_drew1 | apply pw_below_drewN)⟩
      · have hp : pf 11 = 60 := by kernel_rfl
        have hc := HL2.out 6 (by omega)
        rw [show widths.getD 6 0 = 1 from rfl] at hc
        rw [hp]
        go_wp2
        go_quiet (fail)
        go_wp2
        go_ret2
        exact ⟨rfl, by repeat (first | exact HB.out | apply below_drew1 | apply pw_below_drewN)⟩
      · have hp : pf 12 = 61 := by kernel_rfl
        have hc := HL2.out 6 (by omega)
        rw [show widths.getD 6 0 = 1 from rfl] at hc
        rw [hp]
        go_wp2
        go_quiet (fail)
        go_wp2
        go_ret2
        exact ⟨rfl, by repeat (first | exact HB.out | apply below_drew1 | apply pw_below_drewN)⟩
      · have hp : pf 13 = 62 := by kernel_rfl
        have hc := HL2.out 7 (by omega)
        rw [show widths.getD 7 0 = 1 from rfl] at hc
        rw [hp]
        go_wp2
        go_quiet (fail)
        go_wp2
        go_ret2
        exact ⟨rfl, by repeat (first | exact HB.out | apply below_drew1 | apply pw_below_drewN)⟩
      · have hp : pf 14 = 63 := by kernel_rfl
        have hc := HL2.out 7 (by omega)
        rw [show widths.getD 7 0 = 1 from rfl] at hc
        rw [hp]
        go_wp2
        go_quiet (fail)
        go_wp2
        go_ret2
        exact ⟨rfl, by repeat (first | exact HB.out | apply below_drew1 | apply pw_below_drewN)⟩
end Go.Proofs.YtjmoklebimejaaaDoor.SyWalk
namespace Go.Proofs.YtjmoklebimejaaaDoor.SyWalk
open Go.RowKit Go.Proofs.YtjmoklebimejaaaDoorW.PrintWords Go.Proofs.YtjmoklebimejaaaDoorW.PrintLast Go.Proofs.YtjmoklebimejaaaDoorW.PrintMore
open Go.Proofs.YtjmoklebimejaaaDoor.WrWalk Go.Proofs.YtjmoklebimejaaaDoor.Sy Go.Proofs.YtjmoklebimejaaaDoor.OSymPuts
open Go.Proofs.YtjmoklebimejaaaDoor.Wr (St)
set_option linter.unusedVariables false
set_option linter.unusedSimpArgs false
theorem pf_up : ∀ k : Nat, k ≤ 14 → pf k < pf (k + 1) ∧ 0 ≤ pf k ∧ pf (k + 1) ≤ 64 := by
  intro k hk
  rcases (by omega : k = 0 ∨ k = 1 ∨ k = 2 ∨ k = 3 ∨ k = 4 ∨ k = 5 ∨ k = 6 ∨ k = 7 ∨ k = 8 ∨ k = 9 ∨ k = 10 ∨ k = 11 ∨ k = 12 ∨ k = 13 ∨ k = 14) with rfl | rfl | rfl | rfl | rfl | rfl | rfl | rfl | rfl | rfl | rfl | rfl | rfl | rfl | rfl <;> decide
theorem pf_mono {j k : Nat} (h : j ≤ k) (hk : k ≤ 15) : pf j ≤ pf k := by
  induction k with
  | zero => obtain rfl : j = 0 := by omega
            exact Int.le_refl _
  | succ k ih =>
    by_cases e : j = k + 1
    · rw [e]; exact Int.le_refl _
    · have := ih (by omega) (by omega)
      have := pf_up k (by omega)
      omega
/-- A step's place in the order. -/
def sa (v : Int) : Nat := if v ≤ 0 then (-2 * v).toNat else (2 * v - 1).toNat
abbrev okS (v : Int) : Prop := -7 ≤ v ∧ v ≤ 7
theorem sa_le {v : Int} (h : okS v) : sa v ≤ 14 := by unfold sa; split <;> omega
def sput (s : St) (v : Int) : St := if okS v then Wr.put s (pf (sa v)) (pf (sa v + 1)) 64 else s
theorem pf_ok {k : Nat} (h : k ≤ 14) : Rd.ok (pf k) (pf (k + 1)) 64 := by
  have := pf_up k h
  exact ⟨this.2.1, this.1, this.2.2, by omega⟩
theorem sput_fair {s : St} (hs : Wr.Fair s 65537) (v : Int) : Wr.Fair (sput s v) 65537 := by unfold sput; split; exact Wr.put_fair hs _ _ _; exact hs
theorem sput_m (s : St) (v : Int) : s.m ≤ (sput s v).m ∧ (sput s v).m ≤ s.m + 2 := by unfold sput; split; exact Wr.put_m s _ _ _; omega
set_option maxHeartbeats 1000000 in
theorem step_up (ok : Nat → Prop) (g a : Nat) (v b sz : Int) (s : St) (R : List Bool) (w : World) (ha : a ≤ 14) (hL : Laid w) (hfr : ∀ k, w.heap.size ≤ k → ok k) (H : WrAt ok w g sz s R) (hs : Wr.Fair s 65537) (hm : s.m ≤ 900) (d1 : decide (v < -7) = false) (d2 : decide (7 < v) = false) (d3 : decide (v ≤ 0) = false) (e1 : wrap64 (2 * v) = b) (e2 : wrap64 (b - 1) = (a : Int)) :
    Calls Tryd.prog 9 #[.pointer (some ⟨g, 0, none⟩), .int .i64 v] w fun e w' => e = .returned (.int .i64 0) ∧ WrAt ok w' g sz (Wr.put s (pf a) (pf (a + 1)) 64) R ∧ Foot ok w w' := by
  have HP := Aside0.mk (fun w (h : Laid w) => place_any a ha w h)
  have HO := Aside0.mk (pf_ok ha)
  have HL := Aside0.mk hL
  have HH := Aside0.mk (p := WrAt ok w g sz s R) H
  clear H hL
  have HB := Aside0.mk (Below.refl w.heap.size w)
  have HF := Aside0.mk (Foot.refl ok w)
  obtain ⟨f, hf⟩ : ∃ f, pf a = f := ⟨_, rfl⟩
  obtain ⟨f1, hf1⟩ : ∃ f, pf (a + 1) = f := ⟨_, rfl⟩
  rw [hf, hf1] at HP HO ⊢
  clear hf hf1
  go_enter Tryd.func9, Tryd.ntmps9
  have M1 := meth_put
  go_wp2_with (first
    | (go_at_call 32; (with_reducible refine (HP.out _ (HL.out.below HB.out)).mono ?_); rintro e w1 ⟨rfl, hb⟩; have HB1 := Aside0.mk hb; have HF1 := Aside0.mk (HF.out.step hb); have HH1 := Aside0.mk (at_below HH.out hb); clear hb HF HH HB; have HF := HF1; have HH := HH1; clear HF1 HH1)
    | (go_at_call 67; (with_reducible refine (put_any ok g sz f f1 64 s R _ hs hm (fun k hk => hfr k (Nat.le_trans HF.out.b.size hk)) HH.out).mono ?_); rintro e w2 ⟨he, hw, hf⟩; rw [if_pos HO.out] at he; subst he; have HH2 := Aside0.mk hw; have HF2 := Aside0.mk (HF.out.trans hf); clear hw hf HH HF; have HH := HH2; have HF := HF2; clear HH2 HF2))
  go_ret
  exact ⟨rfl, HH.out, HF.out⟩
set_option maxHeartbeats 1000000 in
theorem step_down (ok : Nat → Prop) (g a : Nat) (v b sz : Int) (s : St) (R : List Bool) (w : World) (ha : a ≤ 14) (hL : Laid w) (hfr : ∀ k, w.heap.size ≤ k → ok k) (H : WrAt ok w g sz s R) (hs : Wr.Fair s 65537) (hm : s.m ≤ 900) (d1 : decide (v < -7) = false) (d2 : decide (7 < v) = false) (d3 : decide (v ≤ 0) = true) (e1 : wrap64 (2 * v) = b) (e2 : wrap64 (b - 1) = b - 1) (e3 : wrap64 (-2 * v) = (a : Int)) :
    Calls Tryd.prog 9 #[.pointer (some ⟨g, 0, none⟩), .int .i64 v] w fun e w' => e = .returned (.int .i64 0) ∧ WrAt ok w' g sz (Wr.put s (pf a) (pf (a + 1)) 64) R ∧ Foot ok w w' := by
  have HP := Aside0.mk (fun w (h : Laid w) => place_any a ha w h)
  have HO := Aside0.mk (pf_ok ha)
  have HL := Aside0.mk hL
  have HH := Aside0.mk (p := WrAt ok w g sz s R) H
  clear H hL
  have HB := Aside0.mk (Below.refl w.heap.size w)
  have HF := Aside0.mk (Foot.refl ok w)
  obtain ⟨f, hf⟩ : ∃ f, pf a = f := ⟨_, rfl⟩
  obtain ⟨f1, hf1⟩ : ∃ f, pf (a + 1) = f := ⟨_, rfl⟩
  rw [hf, hf1] at HP HO ⊢
  clear hf hf1
  go_enter Tryd.func9, Tryd.ntmps9
  have M1 := meth_put
  go_wp2_with (first
    | (go_at_call 32; (with_reducible refine (HP.out _ (HL.out.below HB.out)).mono ?_); rintro e w1 ⟨rfl, hb⟩; have HB1 := Aside0.mk hb; have HF1 := Aside0.mk (HF.out.step hb); have HH1 := Aside0.mk (at_below HH.out hb); clear hb HF HH HB; have HF := HF1; have HH := HH1; clear HF1 HH1)
    | (go_at_call 67; (with_reducible refine (put_any ok g sz f f1 64 s R _ hs hm (fun k hk => hfr k (Nat.le_trans HF.out.b.size hk)) HH.out).mono ?_); rintro e w2 ⟨he, hw, hf⟩; rw [if_pos HO.out] at he; subst he; have HH2 := Aside0.mk hw; have HF2 := Aside0.mk (HF.out.trans hf); clear hw hf HH HF; have HH := HH2; have HF := HF2; clear HH2 HF2))
  go_ret
  exact ⟨rfl, HH.out, HF.out⟩
theorem step_no1 (g : Nat) (v : Int) (w : World) (d1 : decide (v < -7) = true) :
    Calls Tryd.prog 9 #[.pointer (some ⟨g, 0, none⟩), .int .i64 v] w fun e w' => e = .returned (.int .i64 1) ∧ Below w.heap.size w w' := by
  have HB := Aside0.mk (Below.refl w.heap.size w)
  go_enter Tryd.func9, Tryd.ntmps9
  go_wp2
  go_ret
  exact ⟨rfl, (by repeat (first | exact HB.out | apply below_drew1 | apply pw_below_drewN))⟩
theorem step_no2 (g : Nat) (v : Int) (w : World) (d1 : decide (v < -7) = false) (d2 : decide (7 < v) = true) :
    Calls Tryd.prog 9 #[.pointer (some ⟨g, 0, none⟩), .int .i64 v] w fun e w' => e = .returned (.int .i64 1) ∧ Below w.heap.size w w' := by
  have HB := Aside0.mk (Below.refl w.heap.size w)
  go_enter Tryd.func9, Tryd.ntmps9
  go_wp2
  go_ret
  exact ⟨rfl, (by repeat (first | exact HB.out | apply below_drew1 | apply pw_below_drewN))⟩
/-- Whatever step is put. -/
theorem sput_any (ok : Nat → Prop) (g : Nat) (v sz : Int) (s : St) (R : List Bool) (w : World) (hL : Laid w) (hs : Wr.Fair s 65537) (hm : s.m ≤ 900) (hfr : ∀ k, w.heap.size ≤ k → ok k) (H : WrAt ok w g sz s R) :
    Calls Tryd.prog 9 #[.pointer (some ⟨g, 0, none⟩), .int .i64 v] w fun e w' => e = .returned (.int .i64 (if okS v then 0 else 1)) ∧ WrAt ok w' g sz (sput s v) R ∧ Foot ok w w' := by
  by_cases h : okS v
  · have ha := sa_le h
    unfold sput
    rw [if_pos h, if_pos h]
    obtain ⟨h0, h1⟩ := h
    by_cases hv : v ≤ 0
    · have e : (sa v : Int) = -2 * v := by unfold sa; rw [if_pos hv]; omega
      exact step_down ok g (sa v) v (2 * v) sz s R w ha hL hfr H hs hm (decide_eq_false (by omega)) (decide_eq_false (by omega)) (decide_eq_true hv) (sw64 (by omega) (by omega)) (sw64 (by omega) (by omega)) (by rw [e]; exact sw64 (by omega) (by omega))
    · have e : (sa v : Int) = 2 * v - 1 := by unfold sa; rw [if_neg hv]; omega
      exact step_up ok g (sa v) v (2 * v) sz s R w ha hL hfr H hs hm (decide_eq_false (by omega)) (decide_eq_false (by omega)) (decide_eq_false hv) (sw64 (by omega) (by omega)) (by rw [e]; exact sw64 (by omega) (by omega))
  · unfold sput
    rw [if_neg h, if_neg h]
    have fin : ∀ (e : Ending) (w' : World), (e = .returned (.int .i64 1) ∧ Below w.heap.size w w') → e = .returned (.int .i64 1) ∧ WrAt ok w' g sz s R ∧ Foot ok w w' := fun e w' hh => ⟨hh.1, at_below H hh.2, Foot.of_below hh.2⟩
    by_cases c1 : v < -7
    · exact (step_no1 g v w (decide_eq_true c1)).mono fin
    · exact (step_no2 g v w (decide_eq_false c1) (decide_eq_true (by unfold okS at h; omega))).mono fin
/-- In which place a symbol lies, and which step that is. -/
def sk (v : Int) : Nat := ((List.range 15).find? fun k => decide (v < pf (k + 1))).getD 14
def sv (k : Nat) : Int := if k % 2 = 1 then (((k + 1) / 2 : Nat) : Int) else -((k / 2 : Nat) : Int)
theorem sk_is : ∀ v : Fin 64, sk (v.val : Int) ≤ 14 ∧ pf (sk (v.val : Int)) ≤ (v.val : Int) ∧ (v.val : Int) < pf (sk (v.val : Int) + 1) := by decide +kernel
theorem sk_in {v : Int} (h0 : 0 ≤ v) (h1 : v < 64) : sk v ≤ 14 ∧ pf (sk v) ≤ v ∧ v < pf (sk v + 1) := by
  obtain ⟨n, rfl⟩ := Int.eq_ofNat_of_zero_le h0
  exact sk_is ⟨n, by omega⟩
set_option maxHeartbeats 4000000 in
theorem rstep_any (g : Nat) (P0 P1 : World → Prop) (T : World → World → Prop) (hT : Keeps T) (s0 : Stays P0) (s1 : Stays P1) (v : Int) (K : Nat) (hK : K ≤ 14) (hv0 : pf K ≤ v) (hv1 : v < pf (K + 1)) (w : World) (hL : ∀ w', T w w' → Laid w')
    (CG : ∀ w, P0 w → Calls Tryd.prog 70 #[.pointer (some ⟨g, 0, none⟩), .int .i64 64] w fun e w' => e = .returned (.int .i64 v) ∧ P0 w' ∧ T w w')
    (CT : ∀ w, P0 w → Calls Tryd.prog 72 #[.pointer (some ⟨g, 0, none⟩), .int .i64 (pf K), .int .i64 (pf (K + 1)), .int .i64 64] w fun e w' => e = .returned (.tuple #[]) ∧ P1 w' ∧ T w w') (h : P0 w) :
    Calls Tryd.prog 22 #[.pointer (some ⟨g, 0, none⟩)] w fun e w' => e = .returned (.int .i64 (sv K)) ∧ P1 w' ∧ T w w' := by
  have HG := Aside0.mk CG
  have HT := Aside0.mk CT
  have HL := Aside0.mk hL
  have HV := Aside0.mk (And.intro hK (And.intro hv0 hv1))
  have CP : Aside0 (∀ (a : Nat), a ≤ 14 → ∀ w, Laid w → Calls Tryd.prog 32 #[.int .i64 a] w fun e w' => e = .returned (.tuple #[.int .i64 (pf a), .int .i64 (pf (a + 1))]) ∧ Below w.heap.size w w') := ⟨fun a ha w h => place_any a ha w h⟩
  have CP0 : Aside0 (∀ w, Laid w → Calls Tryd.prog 32 #[.int .i64 0] w fun e w' => e = .returned (.tuple #[.int .i64 (pf 0), .int .i64 (pf (0 + 1))]) ∧ Below w.heap.size w w') := ⟨fun w h => place_any 0 (by omega) w h⟩
  clear CG CT hL hK hv0 hv1
  have HP := Aside0.mk h
  clear h
  have HK := Aside0.mk (hT.below (Below.refl w.heap.size w))
  go_enter Tryd.func22, Tryd.ntmps22
  have M1 := rmeth_get
  have M2 := rmeth_take
  go_wp2_with (first
    | (go_at_call 70; (with_reducible refine (HG.out _ HP.out).mono ?_); rintro e w1 ⟨rfl, hp, ht⟩; have HP1 := Aside0.mk hp; have HK1 := Aside0.mk (hT.trans HK.out ht); clear HP HK hp ht; have HP := HP1; have HK := HK1; clear HP1 HK1)
    | (go_at_call 32; (with_reducible refine (CP0.out _ (HL.out _ HK.out)).mono ?_); rintro e w1 ⟨rfl, hb⟩; have HP1 := Aside0.mk (s0 hb HP.out); have HK1 := Aside0.mk (hT.trans HK.out (hT.below hb)); clear HP HK hb; have HP := HP1; have HK := HK1; clear HP1 HK1))
  go_loopw [4, 5, 6] (fun a f u wr => ∃ k : Nat, k ≤ K ∧ a = .int .i64 k ∧ f = .int .i64 (pf k) ∧ u = .int .i64 (pf (k + 1)) ∧ Aside0 (P0 wr) ∧ Aside0 (T w wr)) (fun a _ _ _ => (K - intOf a).toNat)
  case atStart => exact ⟨0, by omega, rfl, rfl, rfl, HP, HK⟩
  case round =>
    obtain ⟨k, hk, rfl, rfl, rfl, HP2, HK2⟩ := hrel
    clear HP HK
    have HP := HP2
    have HK := HK2
    clear HP2 HK2
    have hK := HV.out.1
    by_cases ht : k < K
    · have d1 : decide (pf (k + 1) ≤ v) = true := decide_eq_true (Int.le_trans (pf_mono (by omega) (by omega)) HV.out.2.1)
      have e1 : wrap64 ((k : Int) + 1) = (k : Int) + 1 := sw64 (by omega) (by omega)
      have CPk : Aside0 (∀ w, Laid w → Calls Tryd.prog 32 #[.int .i64 ((k : Int) + 1)] w fun e w' => e = .returned (.tuple #[.int .i64 (pf (k + 1)), .int .i64 (pf (k + 1 + 1))]) ∧ Below w.heap.size w w') := ⟨fun w h => CP.out (k + 1) (by omega) w h⟩
      go_wp2_with (first
        | (go_at_call 32; (with_reducible refine (CPk.out _ (HL.out _ HK.out)).mono ?_); rintro e w1 ⟨rfl, hb⟩; have HP1 := Aside0.mk (s0 hb HP.out); have HK1 := Aside0.mk (hT.trans HK.out (hT.below hb)); clear HP HK hb; have HP := HP1; have HK := HK1; clear HP1 HK1))
      exact ⟨⟨k + 1, by omega, congrArg (Value.int .i64) (by omega), rfl, rfl, HP, HK⟩, by simp [intOf]; omega⟩
    · obtain rfl : k = K := by omega
      have d1 : decide (pf (k + 1) ≤ v) = false := decide_eq_false (by have := HV.out.2.2; omega)
      obtain ⟨f, hf⟩ : ∃ f, pf k = f := ⟨_, rfl⟩
      obtain ⟨f1, hf1⟩ : ∃ f, pf (k + 1) = f := ⟨_, rfl⟩
      rw [hf, hf1] at HT
      rw [hf1] at d1
      rw [hf, hf1]
      clear hf hf1 ht hk
      rcases (by omega : k = 0 ∨ k = 1 ∨ k = 2 ∨ k = 3 ∨ k = 4 ∨ k = 5 ∨ k = 6 ∨ k = 7 ∨ k = 8 ∨ k = 9 ∨ k = 10 ∨ k = 11 ∨ k = 12 ∨ k = 13 ∨ k = 14) with rfl | rfl | rfl | rfl | rfl | rfl | rfl | rfl | rfl | rfl | rfl | rfl | rfl | rfl | rfl
      all_goals (go_wp2_with (first
        | (go_at_call 72; (with_reducible refine (HT.out _ HP.out).mono ?_); rintro e w1 ⟨rfl, hp, ht⟩; have HP1 := Aside0.mk hp; have HK1 := Aside0.mk (hT.trans HK.out ht); clear HP HK hp ht; have HP := HP1; have HK := HK1; clear HP1 HK1)); go_ret; exact ⟨rfl, HP.out, HK.out⟩)
set_option maxHeartbeats 4000000 in
theorem sstep_any (g : Nat) (P0 P1 : World → Prop) (T : World → World → Prop) (hT : Keeps T) (s0 : Stays P0) (s1 : Stays P1) (v : Int) (K : Nat) (hK : K ≤ 14) (hv0 : pf K ≤ v) (hv1 : v < pf (K + 1)) (w : World) (hL : ∀ w', T w w' → Laid w')
    (CG : ∀ w, P0 w → Calls Tryd.prog 74 #[.pointer (some ⟨g, 0, none⟩), .int .i64 64] w fun e w' => e = .returned (.int .i64 v) ∧ P0 w' ∧ T w w')
    (CT : ∀ w, P0 w → Calls Tryd.prog 76 #[.pointer (some ⟨g, 0, none⟩), .int .i64 (pf K), .int .i64 (pf (K + 1)), .int .i64 64] w fun e w' => e = .returned (.tuple #[]) ∧ P1 w' ∧ T w w') (h : P0 w) :
    Calls Tryd.prog 23 #[.pointer (some ⟨g, 0, none⟩)] w fun e w' => e = .returned (.int .i64 (sv K)) ∧ P1 w' ∧ T w w' := by
  have HG := Aside0.mk CG
  have HT := Aside0.mk CT
  have HL := Aside0.mk hL
  have HV := Aside0.mk (And.intro hK (And.intro hv0 hv1))
  have CP : Aside0 (∀ (a : Nat), a ≤ 14 → ∀ w, Laid w → Calls Tryd.prog 32 #[.int .i64 a] w fun e w' => e = .returned (.tuple #[.int .i64 (pf a), .int .i64 (pf (a + 1))]) ∧ Below w.heap.size w w') := ⟨fun a ha w h => place_any a ha w h⟩
  have CP0 : Aside0 (∀ w, Laid w → Calls Tryd.prog 32 #[.int .i64 0] w fun e w' => e = .returned (.tuple #[.int .i64 (pf 0), .int .i64 (pf (0 + 1))]) ∧ Below w.heap.size w w') := ⟨fun w h => place_any 0 (by omega) w h⟩
  clear CG CT hL hK hv0 hv1
  have HP := Aside0.mk h
  clear h
  have HK := Aside0.mk (hT.below (Below.refl w.heap.size w))
  go_enter Tryd.func23, Tryd.ntmps23
  have M1 := smeth_get
  have M2 := smeth_take
  go_wp2_with (first
    | (go_at_call 74; (with_reducible refine (HG.out _ HP.out).mono ?_); rintro e w1 ⟨rfl, hp, ht⟩; have HP1 := Aside0.mk hp; have HK1 := Aside0.mk (hT.trans HK.out ht); clear HP HK hp ht; have HP := HP1; have HK := HK1; clear HP1 HK1)
    | (go_at_call 32; (with_reducible refine (CP0.out _ (HL.out _ HK.out)).mono ?_); rintro e w1 ⟨rfl, hb⟩; have HP1 := Aside0.mk (s0 hb HP.out); have HK1 := Aside0.mk (hT.trans HK.out (hT.below hb)); clear HP HK hb; have HP := HP1; have HK := HK1; clear HP1 HK1))
  go_loopw [4, 5, 6] (fun a f u wr => ∃ k : Nat, k ≤ K ∧ a = .int .i64 k ∧ f = .int .i64 (pf k) ∧ u = .int .i64 (pf (k + 1)) ∧ Aside0 (P0 wr) ∧ Aside0 (T w wr)) (fun a _ _ _ => (K - intOf a).toNat)
  case atStart => exact ⟨0, by omega, rfl, rfl, rfl, HP, HK⟩
  case round =>
    obtain ⟨k, hk, rfl, rfl, rfl, HP2, HK2⟩ := hrel
    clear HP HK
    have HP := HP2
    have HK := HK2
    clear HP2 HK2
    have hK := HV.out.1
    by_cases ht : k < K
    · have d1 : decide (pf (k + 1) ≤ v) = true := decide_eq_true (Int.le_trans (pf_mono (by omega) (by omega)) HV.out.2.1)
      have e1 : wrap64 ((k : Int) + 1) = (k : Int) + 1 := sw64 (by omega) (by omega)
      have CPk : Aside0 (∀ w, Laid w → Calls Tryd.prog 32 #[.int .i64 ((k : Int) + 1)] w fun e w' => e = .returned (.tuple #[.int .i64 (pf (k + 1)), .int .i64 (pf (k + 1 + 1))]) ∧ Below w.heap.size w w') := ⟨fun w h => CP.out (k + 1) (by omega) w h⟩
      go_wp2_with (first
        | (go_at_call 32; (with_reducible refine (CPk.out _ (HL.out _ HK.out)).mono ?_); rintro e w1 ⟨rfl, hb⟩; have HP1 := Aside0.mk (s0 hb HP.out); have HK1 := Aside0.mk (hT.trans HK.out (hT.below hb)); clear HP HK hb; have HP := HP1; have HK := HK1; clear HP1 HK1))
      exact ⟨⟨k + 1, by omega, congrArg (Value.int .i64) (by omega), rfl, rfl, HP, HK⟩, by simp [intOf]; omega⟩
    · obtain rfl : k = K := by omega
      have d1 : decide (pf (k + 1) ≤ v) = false := decide_eq_false (by have := HV.out.2.2; omega)
      obtain ⟨f, hf⟩ : ∃ f, pf k = f := ⟨_, rfl⟩
      obtain ⟨f1, hf1⟩ : ∃ f, pf (k + 1) = f := ⟨_, rfl⟩
      rw [hf, hf1] at HT
      rw [hf1] at d1
      rw [hf, hf1]
      clear hf hf1 ht hk
      rcases (by omega : k = 0 ∨ k = 1 ∨ k = 2 ∨ k = 3 ∨ k = 4 ∨ k = 5 ∨ k = 6 ∨ k = 7 ∨ k = 8 ∨ k = 9 ∨ k = 10 ∨ k = 11 ∨ k = 12 ∨ k = 13 ∨ k = 14) with rfl | rfl | rfl | rfl | rfl | rfl | rfl | rfl | rfl | rfl | rfl | rfl | rfl | rfl | rfl
      all_goals (go_wp2_with (first
        | (go_at_call 76; (with_reducible refine (HT.out _ HP.out).mono ?_); rintro e w1 ⟨rfl, hp, ht⟩; have HP1 := Aside0.mk hp; have HK1 := Aside0.mk (hT.trans HK.out ht); clear HP HK hp ht; have HP := HP1; have HK := HK1; clear HP1 HK1)); go_ret; exact ⟨rfl, HP.out, HK.out⟩)
end Go.Proofs.YtjmoklebimejaaaDoor.SyWalk
namespace Go.Proofs.YtjmoklebimejaaaDoor.SyWalk
open Go.RowKit Go.Proofs.YtjmoklebimejaaaDoorW.PrintWords Go.Proofs.YtjmoklebimejaaaDoorW.PrintLast Go.Proofs.YtjmoklebimejaaaDoorW.PrintMore
open Go.Proofs.YtjmoklebimejaaaDoor.WrWalk Go.Proofs.YtjmoklebimejaaaDoor.Sy Go.Proofs.YtjmoklebimejaaaDoor.OSymPuts
open Go.Proofs.YtjmoklebimejaaaDoor.Wr (St)
open Go.Proofs.YtjmoklebimejaaaDoor.Rf (b2i)
open Go.Proofs.YtjmoklebimejaaaDoor.RfWalk (RfAt RfB rput_any rraw_any)
open Go.Proofs.YtjmoklebimejaaaDoor.Pack (bitsOf bitsOf_len)
set_option linter.unusedVariables false
set_option linter.unusedSimpArgs false
theorem rparts_l {n : Int} (h0 : 256 < n) (h1 : n ≤ 16777216) {S : Nat} (hS : S ≤ 16) (hlo : 128 ≤ (n - 1) / 2 ^ S) (hhi : (n - 1) / 2 ^ S ≤ 255) : ∀ (d j k : Nat), j + d = S → d < k → OSymPuts.spinetref09_Parts.l0 k n (2 ^ j) j = some ((n - 1) / 2 ^ S + 1, 2 ^ S, (S : Int)) := by
  intro d
  induction d with
  | zero =>
    intro j k hj hk
    obtain ⟨k, rfl⟩ : ∃ m, k = m + 1 := ⟨k - 1, by omega⟩
    obtain rfl : j = S := by omega
    have hp := pow_16 hS
    simp only [OSymPuts.spinetref09_Parts.l0]
    have e : wrap64 (Int.tdiv (wrap64 (n - 1)) (2 ^ j)) = (n - 1) / 2 ^ j := by
      rw [sw64 (x := n - 1) (by omega) (by omega), Int.tdiv_eq_ediv_of_nonneg (by omega), sw64 (by omega) (by omega)]
    rw [if_neg (by omega), e, if_neg (by omega), sw64 (by omega) (by omega)]
  | succ d ih =>
    intro j k hj hk
    obtain ⟨k, rfl⟩ : ∃ m, k = m + 1 := ⟨k - 1, by omega⟩
    have hp := pow_16 (k := j) (by omega)
    have hp2 := pow_16 (k := j + 1) (by omega)
    have e0 : (2 : Int) ^ (j + 1) = 2 ^ j * 2 := Int.pow_succ _ _
    have hd : (n - 1) / 2 ^ S ≤ (n - 1) / 2 ^ (j + 1) := by
      obtain ⟨m, hm⟩ : ∃ m, S = j + 1 + m := ⟨S - (j + 1), by omega⟩
      have h2 := pow_16 (k := m) (by omega)
      rw [hm, Int.pow_add, ← Int.ediv_ediv_of_nonneg (by omega)]
      exact Int.ediv_le_self _ (Int.ediv_nonneg (by omega) (by omega))
    have hd2 : 256 ≤ (n - 1) / 2 ^ j := by
      have e3 : (n - 1) / 2 ^ (j + 1) = (n - 1) / 2 ^ j / 2 := by rw [e0, ← Int.ediv_ediv_of_nonneg (by omega)]
      omega
    have hd3 : (n - 1) / 2 ^ j ≤ n - 1 := Int.ediv_le_self _ (by omega)
    simp only [OSymPuts.spinetref09_Parts.l0]
    have e : wrap64 (Int.tdiv (wrap64 (n - 1)) (2 ^ j)) = (n - 1) / 2 ^ j := by
      rw [sw64 (x := n - 1) (by omega) (by omega), Int.tdiv_eq_ediv_of_nonneg (by omega), sw64 (by omega) (by omega)]
    rw [if_neg (by omega), e, if_pos (by omega), ← e0, sw64 (by omega) (by omega), sw64 (by omega) (by omega)]
    exact ih (j + 1) k (by omega) (by omega)
theorem rparts_is {n : Int} (h0 : 1 ≤ n) (h1 : n ≤ 16777216) : OSymPuts.spinetref09_Parts.f 20 n = some (sh n, 2 ^ sl n, (sl n : Int)) := by
  unfold OSymPuts.spinetref09_Parts.f
  by_cases h : n ≤ 256
  · rw [if_pos h]; unfold sh sl; rw [if_pos h, if_pos h]; rfl
  · rw [if_neg h]
    obtain ⟨k, hk, hL, a, b, c, d⟩ := sl_big (n := n) (by omega) h1
    have := rparts_l (n := n) (by omega) h1 (S := k) b d c k 0 20 (by omega) (by omega)
    rw [hk]
    unfold sh
    rw [if_neg h, hk]
    exact this
theorem rplace_is (v : Int) (h : okS v) : OSymPuts.spinetref09_Place.f 20 v = some (pf (sa v), pf (sa v + 1)) := by
  obtain ⟨h0, h1⟩ := h
  rcases (by omega : v = -7 ∨ v = -6 ∨ v = -5 ∨ v = -4 ∨ v = -3 ∨ v = -2 ∨ v = -1 ∨ v = 0 ∨ v = 1 ∨ v = 2 ∨ v = 3 ∨ v = 4 ∨ v = 5 ∨ v = 6 ∨ v = 7) with rfl | rfl | rfl | rfl | rfl | rfl | rfl | rfl | rfl | rfl | rfl | rfl | rfl | rfl | rfl <;> kernel_rfl
theorem rparts_call {n : Int} (h0 : 1 ≤ n) (h1 : n ≤ 16777216) (w : World) : Calls Tryd.prog 37 #[.int .i64 n] w fun e w' => e = .returned (.tuple #[.int .i64 (sh n), .int .i64 (2 ^ sl n), .int .i64 (sl n : Int)]) ∧ Below w.heap.size w w' :=
  (spinetref09_Parts.calls 20 n _ _ _ w (rparts_is h0 h1)).mono (by rintro e w' ⟨he, nd, rfl⟩; exact ⟨he, by repeat (first | exact Below.refl _ _ | apply below_drew1 | apply pw_below_drewN)⟩)
theorem rplace_call (v : Int) (h : okS v) (w : World) : Calls Tryd.prog 33 #[.int .i64 v] w fun e w' => e = .returned (.tuple #[.int .i64 (pf (sa v)), .int .i64 (pf (sa v + 1))]) ∧ Below w.heap.size w w' :=
  spinetref09_Place.calls 20 v _ _ w (rplace_is v h)
theorem rf_below {ok : Nat → Prop} {w w1 : World} {g : Nat} {sz : Int} {s : St} {R : List Bool} (H : RfAt ok w g sz s R) (hb : Below w.heap.size w w1) : RfAt ok w1 g sz s R := RfB.below H hb
theorem rf_drew {ok : Nat → Prop} {w : World} {g : Nat} {sz : Int} {s : St} {R : List Bool} (H : RfAt ok w g sz s R) : RfAt ok w.drew g sz s R := RfB.below H (drew_self w)
theorem rraw_at (ok : Nat → Prop) (g : Nat) (sz x : Int) (k : Nat) (s : St) (R : List Bool) (w : World) (h : Rw x (k : Int)) (hx0 : 0 ≤ x) (hx1 : x < 4294967296) (hR : R.length ≤ 50000) (hfr : ∀ k, w.heap.size ≤ k → ok k) (H : RfAt ok w g sz s R) :
    Calls Tryd.prog 38 #[.pointer (some ⟨g, 0, none⟩), .int .i64 x, .int .i64 (k : Int)] w fun e w' => e = .returned (.tuple #[]) ∧ RfAt ok w' g sz s (R ++ rawN x (k : Int)) ∧ Foot ok w w' := by
  refine (rraw_any ok g k sz s.g x _ (R.map b2i) w hx0 hx1 (by have := h.2.1; omega) (by rw [List.length_map]; exact hR) hfr H).mono ?_
  rintro e w' ⟨he, hI, hf⟩
  refine ⟨he, ?_, hf⟩
  unfold RfAt rawN
  rw [if_pos h, List.map_append, Int.toNat_natCast]
  exact hI
set_option maxHeartbeats 1000000 in
theorem ruput_walk (ok : Nat → Prop) (g k : Nat) (v n h p A A1 lo sz : Int) (s : St) (R : List Bool) (w : World) (hp0 : ¬ p = 0) (hfr : ∀ k, w.heap.size ≤ k → ok k) (H : RfAt ok w g sz s R) (hs : Wr.Fair s 65537) (hm : s.m ≤ 900) (hR : R.length ≤ 50000) (e1 : wrap64 (v.tdiv p) = A) (e1b : IntKind.i64.wrap (v.tdiv p) = A) (e2 : wrap64 (A + 1) = A1) (e2b : IntKind.i64.wrap (A + 1) = A1) (e3 : v.tmod p = lo) (hok : Rd.ok A A1 h) (hrw : Rw lo (k : Int)) (hlo : 0 ≤ lo ∧ lo < 4294967296)
    (hpa : ∀ w, Calls Tryd.prog 37 #[.int .i64 n] w fun e w' => e = .returned (.tuple #[.int .i64 h, .int .i64 p, .int .i64 (k : Int)]) ∧ Below w.heap.size w w') :
    Calls Tryd.prog 12 #[.pointer (some ⟨g, 0, none⟩), .int .i64 v, .int .i64 n] w fun e w' => e = .returned (.tuple #[]) ∧ RfAt ok w' g sz (Wr.put s A A1 h) (R ++ rawN lo (k : Int)) ∧ Foot ok w w' := by
  have HP := Aside0.mk hpa
  clear hpa
  have HH := Aside0.mk (p := RfAt ok w g sz s R) H
  clear H
  have HO := Aside0.mk hok
  have HR := Aside0.mk hrw
  clear hok hrw
  have HF := Aside0.mk (Foot.refl ok w)
  go_enter Tryd.func12, Tryd.ntmps12
  go_wp2_with (first
    | (go_at_call 37; (with_reducible refine (HP.out _).mono ?_); rintro e w1 ⟨rfl, hb⟩; have HF1 := Aside0.mk (HF.out.step hb); have HH1 := Aside0.mk (rf_below HH.out hb); clear HF hb HH; have HF := HF1; have HH := HH1; clear HF1 HH1))
  go_region_with (first
    | (go_at_call 34; (with_reducible refine (rput_any ok g sz A A1 h _ _ s R _ HO.out hs hm (fun k hk => hfr k (Nat.le_trans (HF.out.drew).b.size hk)) (rf_drew HH.out) rfl rfl).mono ?_); rintro e w2 ⟨rfl, hw, hf⟩; have HH2 := Aside0.mk hw; have HF2 := Aside0.mk ((HF.out.drew).trans hf); clear hw hf HH HF; have HH := HH2; have HF := HF2; clear HH2 HF2))
  all_goals (go_wp2_with (first
    | (go_at_call 38; (with_reducible refine (rraw_at ok g sz lo k _ R _ HR.out hlo.1 hlo.2 hR (fun k hk => hfr k (Nat.le_trans HF.out.b.size hk)) HH.out).mono ?_); rintro e w4 ⟨rfl, hw, hf⟩; have HH2 := Aside0.mk hw; have HF2 := Aside0.mk ((HF.out).trans hf); clear hw hf HH HF; have HH := HH2; have HF := HF2; clear HH2 HF2)); (first | go_end0 | ((try simp only [Exit.inBlock, Exit.then]); refine bodyPost_ret (results_none rfl _ _ _) rfl ?_)); exact ⟨rfl, HH.out, HF.out⟩)
theorem ruput_any (ok : Nat → Prop) (g : Nat) (v n sz : Int) (s : St) (R : List Bool) (w : World) (h : okU v n) (hs : Wr.Fair s 65537) (hm : s.m ≤ 900) (hR : R.length ≤ 50000) (hfr : ∀ k, w.heap.size ≤ k → ok k) (H : RfAt ok w g sz s R) :
    Calls Tryd.prog 12 #[.pointer (some ⟨g, 0, none⟩), .int .i64 v, .int .i64 n] w fun e w' => e = .returned (.tuple #[]) ∧ RfAt ok w' g sz (uput s v n) (R ++ uraw v n) ∧ Foot ok w w' := by
  have h' := h
  obtain ⟨b1, b2, b3, b4, b5, b6, b7⟩ := okU_is h
  obtain ⟨h0, h1, h2, h3⟩ := h'
  have hp := pow_16 b3
  unfold uput uraw
  rw [if_pos h, if_pos h]
  have e : v.tdiv (2 ^ sl n) = v / 2 ^ sl n := Int.tdiv_eq_ediv_of_nonneg h2
  exact ruput_walk ok g (sl n) v n (sh n) (2 ^ sl n) (v / 2 ^ sl n) (v / 2 ^ sl n + 1) (v % 2 ^ sl n) sz s R w (by omega) hfr H hs hm hR (by rw [e]; exact sw64 (by omega) (by omega)) (by rw [e, i64_w]; exact sw64 (by omega) (by omega)) (sw64 (by omega) (by omega)) (by rw [i64_w]; exact sw64 (by omega) (by omega)) (Int.tmod_eq_emod_of_nonneg h2) b1 b2 ⟨b4, by omega⟩ (rparts_call h0 h1)
set_option maxHeartbeats 1000000 in
theorem rsput_any (ok : Nat → Prop) (g : Nat) (v sz : Int) (s : St) (R : List Bool) (w : World) (h : okS v) (hs : Wr.Fair s 65537) (hm : s.m ≤ 900) (hfr : ∀ k, w.heap.size ≤ k → ok k) (H : RfAt ok w g sz s R) :
    Calls Tryd.prog 10 #[.pointer (some ⟨g, 0, none⟩), .int .i64 v] w fun e w' => e = .returned (.tuple #[]) ∧ RfAt ok w' g sz (sput s v) R ∧ Foot ok w w' := by
  have HP := Aside0.mk (rplace_call v h)
  have HO := Aside0.mk (pf_ok (sa_le h))
  unfold sput
  rw [if_pos h]
  clear h
  obtain ⟨f, hf⟩ : ∃ f, pf (sa v) = f := ⟨_, rfl⟩
  obtain ⟨f1, hf1⟩ : ∃ f, pf (sa v + 1) = f := ⟨_, rfl⟩
  rw [hf, hf1] at HP HO ⊢
  clear hf hf1
  have HH := Aside0.mk (p := RfAt ok w g sz s R) H
  clear H
  have HF := Aside0.mk (Foot.refl ok w)
  go_enter Tryd.func10, Tryd.ntmps10
  go_wp2_with (first
    | (go_at_call 33; (with_reducible refine (HP.out _).mono ?_); rintro e w1 ⟨rfl, hb⟩; have HF1 := Aside0.mk (HF.out.step hb); have HH1 := Aside0.mk (rf_below HH.out hb); clear HF hb HH; have HF := HF1; have HH := HH1; clear HF1 HH1)
    | (go_at_call 34; (with_reducible refine (rput_any ok g sz f f1 64 _ _ s R _ HO.out hs hm (fun k hk => hfr k (Nat.le_trans HF.out.b.size hk)) HH.out rfl rfl).mono ?_); rintro e w2 ⟨rfl, hw, hf⟩; have HH2 := Aside0.mk hw; have HF2 := Aside0.mk (HF.out.trans hf); clear hw hf HH HF; have HH := HH2; have HF := HF2; clear HH2 HF2))
  first | go_end0 | ((try simp only [Exit.inBlock, Exit.then]); refine bodyPost_ret (results_none rfl _ _ _) rfl ?_)
  exact ⟨rfl, HH.out, HF.out⟩
end Go.Proofs.YtjmoklebimejaaaDoor.SyWalk
namespace Go.Proofs.YtjmoklebimejaaaDoor.SyWalk
open Go.RowKit Go.Proofs.YtjmoklebimejaaaDoorW.PrintWords Go.Proofs.YtjmoklebimejaaaDoorW.PrintLast Go.Proofs.YtjmoklebimejaaaDoorW.PrintMore
open Go.Proofs.YtjmoklebimejaaaDoor.WrWalk Go.Proofs.YtjmoklebimejaaaDoor.Sy
open Go.Proofs.YtjmoklebimejaaaDoor.Wr (St)
open Go.Proofs.YtjmoklebimejaaaDoor.Rf (b2i)
open Go.Proofs.YtjmoklebimejaaaDoor.RfWalk (RfAt RfB)
open Go.Proofs.YtjmoklebimejaaaDoor.Pack (pk pk_in pk_len bitsOf bitsOf_len)
open Go.Proofs.YtjmoklebimejaaaDoor.WrLaw
set_option linter.unusedVariables false
set_option linter.unusedSimpArgs false
theorem ow_rf (g : Nat) (sz : Int) (s : St) (R : List Bool) : Ow (fun ok w => RfAt ok w g sz s R) := ⟨fun h hk => RfB.mono h hk, fun h hf hd => RfB.foot h hf hd⟩
/-- The writer and the document's. -/
def FP (w0 : World) (g1 g2 : Nat) (Z : Int) (s1 : St) (R1 : List Bool) (s2 : St) (R2 : List Bool) (zb : Option (Nat × Obj)) (w : World) : Prop :=
  Sep w0 (fun ok w => WrAt ok w g1 Z s1 R1) (fun ok w => RfAt ok w g2 Z s2 R2) zb w
section
variable {w0 w w' : World} {g1 g2 : Nat} {Z : Int} {s1 s2 : St} {R1 R2 : List Bool} {zb : Option (Nat × Obj)}
theorem FP.below (S : FP w0 g1 g2 Z s1 R1 s2 R2 zb w) (h : Below w.heap.size w w') : FP w0 g1 g2 Z s1 R1 s2 R2 zb w' := Sep.below (ow_wr g1 Z s1 R1) (ow_rf g2 Z s2 R2) S h
theorem FP.box (S : FP w0 g1 g2 Z s1 R1 s2 R2 zb w) (o : Obj) : FP w0 g1 g2 Z s1 R1 s2 R2 (some (w.heap.size, o)) (w.alloc o) := Sep.box (ow_wr g1 Z s1 R1) (ow_rf g2 Z s2 R2) S o
theorem FP.unbox (S : FP w0 g1 g2 Z s1 R1 s2 R2 zb w) : FP w0 g1 g2 Z s1 R1 s2 R2 none w := Sep.unbox S
theorem FP.laid (S : FP w0 g1 g2 Z s1 R1 s2 R2 zb w) (hL : Laid w0) : Laid w := hL.below S.hb
theorem FP.cu (S : FP w0 g1 g2 Z s1 R1 s2 R2 zb w) (hs : Wr.Fair s1 65537) (hm : s1.m ≤ 900) (hR : R1.length ≤ 50000) (v n : Int) : Calls Tryd.prog 11 #[.pointer (some ⟨g1, 0, none⟩), .int .i64 v, .int .i64 n] w fun e w' => e = .returned (.int .i64 (if okU v n then 0 else 1)) ∧ FP w0 g1 g2 Z (uput s1 v n) (R1 ++ uraw v n) s2 R2 zb w' :=
  Sep.call1 S (ow_wr g1 Z s1 R1) (ow_wr g1 Z _ _) (ow_rf g2 Z s2 R2) (fun ok hfr H => uput_any ok g1 v n Z s1 R1 w hs hm hR hfr H)
theorem FP.cs (S : FP w0 g1 g2 Z s1 R1 s2 R2 zb w) (hL : Laid w0) (hs : Wr.Fair s1 65537) (hm : s1.m ≤ 900) (v : Int) : Calls Tryd.prog 9 #[.pointer (some ⟨g1, 0, none⟩), .int .i64 v] w fun e w' => e = .returned (.int .i64 (if okS v then 0 else 1)) ∧ FP w0 g1 g2 Z (sput s1 v) R1 s2 R2 zb w' :=
  Sep.call1 S (ow_wr g1 Z s1 R1) (ow_wr g1 Z _ _) (ow_rf g2 Z s2 R2) (fun ok hfr H => sput_any ok g1 v Z s1 R1 w (S.laid hL) hs hm hfr H)
theorem FP.ru (S : FP w0 g1 g2 Z s1 R1 s2 R2 zb w) (hs : Wr.Fair s2 65537) (hm : s2.m ≤ 900) (hR : R2.length ≤ 50000) {v n : Int} (h : okU v n) : Calls Tryd.prog 12 #[.pointer (some ⟨g2, 0, none⟩), .int .i64 v, .int .i64 n] w fun e w' => e = .returned (.tuple #[]) ∧ FP w0 g1 g2 Z s1 R1 (uput s2 v n) (R2 ++ uraw v n) zb w' :=
  Sep.call2 S (ow_wr g1 Z s1 R1) (ow_rf g2 Z s2 R2) (ow_rf g2 Z _ _) (fun ok hfr H => ruput_any ok g2 v n Z s2 R2 w h hs hm hR hfr H)
theorem FP.rs (S : FP w0 g1 g2 Z s1 R1 s2 R2 zb w) (hs : Wr.Fair s2 65537) (hm : s2.m ≤ 900) {v : Int} (h : okS v) : Calls Tryd.prog 10 #[.pointer (some ⟨g2, 0, none⟩), .int .i64 v] w fun e w' => e = .returned (.tuple #[]) ∧ FP w0 g1 g2 Z s1 R1 (sput s2 v) R2 zb w' :=
  Sep.call2 S (ow_wr g1 Z s1 R1) (ow_rf g2 Z s2 R2) (ow_rf g2 Z _ _) (fun ok hfr H => rsput_any ok g2 v Z s2 R2 w h hs hm hfr H)
theorem FP.left (S : FP w0 g1 g2 Z s1 R1 s2 R2 zb w) (h0 : 0 ≤ Z ∧ Z ≤ 10000) (h1 : s1.m ≤ 10000) (h2 : R1.length ≤ 100000) : Calls Tryd.prog 13 #[.pointer (some ⟨g1, 0, none⟩)] w fun e w' => e = .returned (.int .i64 (8 * (Z - 3 - s1.m) - R1.length)) ∧ FP w0 g1 g2 Z s1 R1 s2 R2 zb w' :=
  Sep.call1 S (ow_wr g1 Z s1 R1) (ow_wr g1 Z s1 R1) (ow_rf g2 Z s2 R2) (fun ok hfr H => wr_left H h0 h1 h2)
theorem FP.rleft (S : FP w0 g1 g2 Z s1 R1 s2 R2 zb w) (h0 : 0 ≤ Z ∧ Z ≤ 10000) (h1 : s2.m ≤ 900) (h2 : R2.length ≤ 100000) : Calls Tryd.prog 14 #[.pointer (some ⟨g2, 0, none⟩)] w fun e w' => e = .returned (.int .i64 (8 * (Z - 3 - s2.m) - R2.length)) ∧ FP w0 g1 g2 Z s1 R1 s2 R2 zb w' := by
  obtain ⟨_, o2, _, hq, _⟩ := Sep.ex S
  refine (RfWalk.rleft_any o2 g2 Z s2.g _ _ w hq h0 (by rw [Wr.dig_len]; omega) (by rw [List.length_map]; exact h2)).mono ?_
  rintro e w' ⟨he, hb⟩
  refine ⟨?_, S.below hb⟩
  rw [he, Wr.dig_len, List.length_map]
  congr 2
  omega
end
theorem row_ci {w : World} {Av : Option Addr} {m cc : Nat} {L : List Int} {ok : Nat → Prop} (h : Kd.R (Kd.int .i64) 3 w 0 ok (.slice Av m cc) L) (hl : L.length = m) : Kd.C (Kd.int .i64) w Av m L := by
  obtain ⟨h1, h2, h3⟩ := Kd.R_reads' h
  rw [hl] at h3
  exact h3
theorem size_is {z Z : Int} (hz : 0 ≤ z ∧ z < 65536) (hZ : 4 + z % 1272 = Z) : wrap64 (4 + (wrap64 z).tmod 1272) = Z := by
  rw [sw64 (x := z) (by omega) (by omega), Int.tmod_eq_emod_of_nonneg hz.1, sw64 (by omega) (by omega)]; exact hZ
theorem puts_long (sz : Int) (A1 : Option Addr) (n c1 : Nat) (w : World) (hd2 : decide ((200 : Int) < (n : Int)) = true) :
    Calls Tryd.prog 3 #[.int .u16 sz, .slice A1 n c1] w fun e w' => e = .returned (.bool true) ∧ Below w.heap.size w w' := by
  have HB := Aside0.mk (Below.refl w.heap.size w)
  go_enter Tryd.func3, Tryd.ntmps3
  go_wp2_with (first
    | (go_at_call 6; (with_reducible refine (SyWalk.awake_any _).mono ?_); rintro e wa ⟨rfl, hb⟩; have HB1 := Aside0.mk (below_step HB.out hb); clear HB hb; have HB := HB1; clear HB1))
  go_ret
  exact ⟨rfl, HB.out⟩
set_option maxHeartbeats 8000000 in
set_option maxRecDepth 100000 in
theorem puts_at (z : Int) (Z : Nat) (hz : 0 ≤ z ∧ z < 65536) (hZ : 4 + z % 1272 = (Z : Int)) (l : List S32) (n : Nat) (hn : l.length = n) (hn2 : n ≤ 200) (A1 : Option Addr) (c1 : Nat) (w : World) (hL : Laid w) (hD : Kd.C k32 w A1 n l) :
    Calls Tryd.prog 3 #[.int .u16 z, .slice A1 n c1] w fun e w' => e = .returned (.bool true) ∧ Below w.heap.size w w' := by
  have HB := Aside0.mk (Below.refl w.heap.size w)
  have HD := Aside0.mk hD
  have HN := Aside0.mk hn
  have HL := Aside0.mk hL
  have HZ : Aside0 (4 ≤ Z ∧ Z ≤ 1275) := ⟨by omega⟩
  have hd2 : decide ((200 : Int) < (n : Int)) = false := decide_eq_false (by omega)
  have hu := size_is hz hZ
  have CN : Aside0 (∀ w1, Calls Tryd.prog 7 #[.int .i64 (Z : Int)] w1 fun e w' => ∃ g, e = .returned (.tuple #[.pointer (some ⟨g, 0, none⟩), .int .i64 0]) ∧ WrAt (fun k => w1.heap.size ≤ k) w' g Z Wr.new [] ∧ Below w1.heap.size w1 w') := ⟨fun w1 => new_wr2 Z (by have := HZ.out; omega) w1⟩
  clear hD hn hL hZ hz
  go_enter Tryd.func3, Tryd.ntmps3
  go_wp2_with (first
    | (go_at_call 6; (with_reducible refine (SyWalk.awake_any _).mono ?_); rintro e wa ⟨rfl, hb⟩; have HB1 := Aside0.mk (below_step HB.out hb); clear HB hb; have HB := HB1; clear HB1)
    | (go_at_call 7; (with_reducible refine (CN.out wa).mono ?_); rintro e wx ⟨g1, rfl, hI, hb⟩; have HX := Aside0.mk (And.intro hI hb); clear hb hI)
    | (go_at_call 8; (with_reducible refine (RfWalk.rnew_any (Z : Int) wx).mono ?_); rintro e wy ⟨g2, rfl, hI, hb⟩; have HS : Aside0 (FP w g1 g2 Z Wr.new [] Wr.new [] none wy) := ⟨Sep.two (Sep.one (below_step HB.out HX.out.2) (ow_wr g1 Z Wr.new []) HX.out.1 (fun k hk => Nat.le_trans HB.out.size hk)) (ow_wr g1 Z Wr.new []) (ow_rf g2 Z Wr.new []) hb hI (fun k hk => hk)⟩; clear HB HX hb hI))
  clear hu
  go_loopw [39] (fun i wr => ∃ (k : Nat) (s : St) (R : List Bool), k ≤ n ∧ i = .int .i64 k ∧ Aside0 (FP w g1 g2 Z s R s R none wr) ∧ Aside0 (Wr.Fair s 65537 ∧ s.m ≤ 2 * k ∧ R.length ≤ 16 * k)) (fun i _ => (n - intOf i).toNat)
  case atStart => exact ⟨0, Wr.new, [], by omega, rfl, HS, ⟨Wr.new_fair, Nat.zero_le _, Nat.zero_le _⟩⟩
  case round =>
    obtain ⟨k, s, R, hk, rfl, HS2, HF⟩ := hrel
    clear HS
    have HS := HS2
    clear HS2
    by_cases ht : k < n
    · obtain ⟨ad, hA, hc0, hc1⟩ := at_T32 (Kd.C_below HD.out HS.out.hb) (k : Int) (by omega) (by omega)
      rw [Int.toNat_natCast] at hc0 hc1
      obtain ⟨⟨X, Y⟩, ho⟩ : ∃ o, rd_T32 l k = o := ⟨_, rfl⟩
      rw [ho] at hc0 hc1
      simp only at hc0 hc1
      clear ho
      subst hA
      have hm3 : s.m ≤ 900 := by have := HF.out.2; omega
      have hR5 : R.length ≤ 40000 := by have := HF.out.2; omega
      have hR5 : R.length ≤ 50000 := by omega
      obtain ⟨bo, hbo⟩ : ∃ bo, (Obj.cells #[.int .i64 X, .int .i64 Y] 32 (0, 0)) = bo := ⟨_, rfl⟩
      have HBO := Aside0.mk hbo
      have HBX : Aside0 (FP w g1 g2 Z s R s R (some (wr.heap.size, bo)) (wr.alloc (.cells #[.int .i64 X, .int .i64 Y] 32))) := ⟨by subst hbo; exact HS.out.box _⟩
      clear hbo
      by_cases hx : X = 0
      · have b0 : (X == 0) = true := by simp [hx]
        clear hx
        obtain ⟨s', hs'⟩ : ∃ s', sput s Y = s' := ⟨_, rfl⟩
        obtain ⟨R', hRR⟩ : ∃ R', R = R' := ⟨_, rfl⟩
        have HS' : Aside0 (Wr.Fair s' 65537 ∧ s'.m ≤ 2 * (k + 1) ∧ R'.length ≤ 16 * (k + 1)) := ⟨by
          rw [← hs', ← hRR]
          have := sput_m s Y
          have := HF.out.2
          exact ⟨sput_fair HF.out.1 _, by omega, by omega⟩⟩
        have hsm : s'.m ≤ 900 ∧ R'.length ≤ 40000 := by have := HS'.out.2; omega
        obtain ⟨lf, hlf⟩ : ∃ x, 8 * ((Z : Int) - 3 - s'.m) - R'.length = x := ⟨_, rfl⟩
        by_cases hok : okS Y
        · have hok2 := hok
          unfold okS at hok2
          have C1 : Aside0 (∀ wz zb, FP w g1 g2 Z s R s R zb wz → Calls Tryd.prog 9 #[.pointer (some ⟨g1, 0, none⟩), .int .i64 Y] wz fun e w' => e = .returned (.int .i64 0) ∧ FP w g1 g2 Z s' R' s R zb w') := ⟨fun wz zb S => by have h := S.cs HL.out HF.out.1 hm3 Y; rw [if_pos hok, hs'] at h; rw [← hRR]; exact h⟩
          have C2 : Aside0 (∀ wz zb, FP w g1 g2 Z s' R' s R zb wz → Calls Tryd.prog 10 #[.pointer (some ⟨g2, 0, none⟩), .int .i64 Y] wz fun e w' => e = .returned (.tuple #[]) ∧ FP w g1 g2 Z s' R' s' R' zb w') := ⟨fun wz zb S => by have h := S.rs HF.out.1 hm3 hok; rw [hs'] at h; subst hRR; exact h⟩
          have CL1 : Aside0 (∀ wz zb, FP w g1 g2 Z s' R' s' R' zb wz → Calls Tryd.prog 13 #[.pointer (some ⟨g1, 0, none⟩)] wz fun e w' => e = .returned (.int .i64 lf) ∧ FP w g1 g2 Z s' R' s' R' zb w') := ⟨fun wz zb S => hlf ▸ S.left (by have := HZ.out; omega) (by omega) (by omega)⟩
          have CL2 : Aside0 (∀ wz zb, FP w g1 g2 Z s' R' s' R' zb wz → Calls Tryd.prog 14 #[.pointer (some ⟨g2, 0, none⟩)] wz fun e w' => e = .returned (.int .i64 lf) ∧ FP w g1 g2 Z s' R' s' R' zb w') := ⟨fun wz zb S => hlf ▸ S.rleft (by have := HZ.out; omega) (by omega) (by omega)⟩
          have t1 : decide (-7 ≤ Y) = true := decide_eq_true (by omega)
          have t2 : decide (Y ≤ 7) = true := decide_eq_true (by omega)
          clear hok2
          clear hlf hm3 hR5 hsm hs' hRR hok
          go_wp2_with (first
            | (go_at_call 9; (with_reducible refine (C1.out _ _ HBX.out).mono ?_); rintro e w1 ⟨rfl, hT⟩; have hh := (hT.hz _ rfl).2; rw [← HBO.out] at hh; have hv0 : w1.cell? ⟨wr.heap.size, 0, none⟩ = some (.int .i64 X) := (blk_cell hh 0).trans rfl; have hv1 : w1.cell? ⟨wr.heap.size, 1, none⟩ = some (.int .i64 Y) := (blk_cell hh 1).trans rfl; have m0 := Aside0.mk hT; clear hh HS hT; have HS := m0; clear m0)
            | (go_at_call 10; (with_reducible refine (C2.out _ _ HS.out).mono ?_); rintro e w1 ⟨rfl, hT⟩; clear hv0 hv1; have hh := (hT.hz _ rfl).2; rw [← HBO.out] at hh; have hv0 : w1.cell? ⟨wr.heap.size, 0, none⟩ = some (.int .i64 X) := (blk_cell hh 0).trans rfl; have hv1 : w1.cell? ⟨wr.heap.size, 1, none⟩ = some (.int .i64 Y) := (blk_cell hh 1).trans rfl; have m0 := Aside0.mk hT; clear hh HS hT; have HS := m0; clear m0)
            | (go_at_call 13; (with_reducible refine (CL1.out _ _ HS.out).mono ?_); rintro e w1 ⟨rfl, hT⟩; clear hv0 hv1; have hh := (hT.hz _ rfl).2; rw [← HBO.out] at hh; have hv0 : w1.cell? ⟨wr.heap.size, 0, none⟩ = some (.int .i64 X) := (blk_cell hh 0).trans rfl; have hv1 : w1.cell? ⟨wr.heap.size, 1, none⟩ = some (.int .i64 Y) := (blk_cell hh 1).trans rfl; have m0 := Aside0.mk hT; clear hh HS hT; have HS := m0; clear m0)
            | (go_at_call 14; (with_reducible refine (CL2.out _ _ HS.out).mono ?_); rintro e w1 ⟨rfl, hT⟩; clear hv0 hv1; have hh := (hT.hz _ rfl).2; rw [← HBO.out] at hh; have hv0 : w1.cell? ⟨wr.heap.size, 0, none⟩ = some (.int .i64 X) := (blk_cell hh 0).trans rfl; have hv1 : w1.cell? ⟨wr.heap.size, 1, none⟩ = some (.int .i64 Y) := (blk_cell hh 1).trans rfl; have m0 := Aside0.mk hT; clear hh HS hT; have HS := m0; clear m0))
          exact ⟨⟨k + 1, s', R', by omega, congrArg (Value.int .i64) (by omega), ⟨HS.out.unbox⟩, HS'⟩, by simp [intOf]; omega⟩
        · have hok2 := hok
          unfold okS at hok2
          have hss : s' = s := by rw [← hs']; unfold sput; rw [if_neg hok]
          have hRs : R' = R := hRR.symm
          by_cases c1 : -7 ≤ Y
          · have C1 : Aside0 (∀ wz zb, FP w g1 g2 Z s R s R zb wz → Calls Tryd.prog 9 #[.pointer (some ⟨g1, 0, none⟩), .int .i64 Y] wz fun e w' => e = .returned (.int .i64 1) ∧ FP w g1 g2 Z s' R' s' R' zb w') := ⟨fun wz zb S => by have h := S.cs HL.out HF.out.1 hm3 Y; rw [if_neg hok, hs'] at h; subst hss; subst hRs; exact h⟩
            have CL1 : Aside0 (∀ wz zb, FP w g1 g2 Z s' R' s' R' zb wz → Calls Tryd.prog 13 #[.pointer (some ⟨g1, 0, none⟩)] wz fun e w' => e = .returned (.int .i64 lf) ∧ FP w g1 g2 Z s' R' s' R' zb w') := ⟨fun wz zb S => hlf ▸ S.left (by have := HZ.out; omega) (by omega) (by omega)⟩
            have CL2 : Aside0 (∀ wz zb, FP w g1 g2 Z s' R' s' R' zb wz → Calls Tryd.prog 14 #[.pointer (some ⟨g2, 0, none⟩)] wz fun e w' => e = .returned (.int .i64 lf) ∧ FP w g1 g2 Z s' R' s' R' zb w') := ⟨fun wz zb S => hlf ▸ S.rleft (by have := HZ.out; omega) (by omega) (by omega)⟩
            have t1 : decide (-7 ≤ Y) = true := decide_eq_true (by omega)
            have t2 : decide (Y ≤ 7) = false := decide_eq_false (by omega)
            clear hok2 c1
            clear hlf hm3 hR5 hsm hs' hRR hok hss hRs
            go_wp2_with (first
              | (go_at_call 9; (with_reducible refine (C1.out _ _ HBX.out).mono ?_); rintro e w1 ⟨rfl, hT⟩; have hh := (hT.hz _ rfl).2; rw [← HBO.out] at hh; have hv0 : w1.cell? ⟨wr.heap.size, 0, none⟩ = some (.int .i64 X) := (blk_cell hh 0).trans rfl; have hv1 : w1.cell? ⟨wr.heap.size, 1, none⟩ = some (.int .i64 Y) := (blk_cell hh 1).trans rfl; have m0 := Aside0.mk hT; clear hh HS hT; have HS := m0; clear m0)
              | (go_at_call 13; (with_reducible refine (CL1.out _ _ HS.out).mono ?_); rintro e w1 ⟨rfl, hT⟩; clear hv0 hv1; have hh := (hT.hz _ rfl).2; rw [← HBO.out] at hh; have hv0 : w1.cell? ⟨wr.heap.size, 0, none⟩ = some (.int .i64 X) := (blk_cell hh 0).trans rfl; have hv1 : w1.cell? ⟨wr.heap.size, 1, none⟩ = some (.int .i64 Y) := (blk_cell hh 1).trans rfl; have m0 := Aside0.mk hT; clear hh HS hT; have HS := m0; clear m0)
              | (go_at_call 14; (with_reducible refine (CL2.out _ _ HS.out).mono ?_); rintro e w1 ⟨rfl, hT⟩; clear hv0 hv1; have hh := (hT.hz _ rfl).2; rw [← HBO.out] at hh; have hv0 : w1.cell? ⟨wr.heap.size, 0, none⟩ = some (.int .i64 X) := (blk_cell hh 0).trans rfl; have hv1 : w1.cell? ⟨wr.heap.size, 1, none⟩ = some (.int .i64 Y) := (blk_cell hh 1).trans rfl; have m0 := Aside0.mk hT; clear hh HS hT; have HS := m0; clear m0))
            exact ⟨⟨k + 1, s', R', by omega, congrArg (Value.int .i64) (by omega), ⟨HS.out.unbox⟩, HS'⟩, by simp [intOf]; omega⟩
          · have C1 : Aside0 (∀ wz zb, FP w g1 g2 Z s R s R zb wz → Calls Tryd.prog 9 #[.pointer (some ⟨g1, 0, none⟩), .int .i64 Y] wz fun e w' => e = .returned (.int .i64 1) ∧ FP w g1 g2 Z s' R' s' R' zb w') := ⟨fun wz zb S => by have h := S.cs HL.out HF.out.1 hm3 Y; rw [if_neg hok, hs'] at h; subst hss; subst hRs; exact h⟩
            have CL1 : Aside0 (∀ wz zb, FP w g1 g2 Z s' R' s' R' zb wz → Calls Tryd.prog 13 #[.pointer (some ⟨g1, 0, none⟩)] wz fun e w' => e = .returned (.int .i64 lf) ∧ FP w g1 g2 Z s' R' s' R' zb w') := ⟨fun wz zb S => hlf ▸ S.left (by have := HZ.out; omega) (by omega) (by omega)⟩
            have CL2 : Aside0 (∀ wz zb, FP w g1 g2 Z s' R' s' R' zb wz → Calls Tryd.prog 14 #[.pointer (some ⟨g2, 0, none⟩)] wz fun e w' => e = .returned (.int .i64 lf) ∧ FP w g1 g2 Z s' R' s' R' zb w') := ⟨fun wz zb S => hlf ▸ S.rleft (by have := HZ.out; omega) (by omega) (by omega)⟩
            have t1 : decide (-7 ≤ Y) = false := decide_eq_false (by omega)
            clear hok2 c1
            clear hlf hm3 hR5 hsm hs' hRR hok hss hRs
            go_wp2_with (first
              | (go_at_call 9; (with_reducible refine (C1.out _ _ HBX.out).mono ?_); rintro e w1 ⟨rfl, hT⟩; have hh := (hT.hz _ rfl).2; rw [← HBO.out] at hh; have hv0 : w1.cell? ⟨wr.heap.size, 0, none⟩ = some (.int .i64 X) := (blk_cell hh 0).trans rfl; have hv1 : w1.cell? ⟨wr.heap.size, 1, none⟩ = some (.int .i64 Y) := (blk_cell hh 1).trans rfl; have m0 := Aside0.mk hT; clear hh HS hT; have HS := m0; clear m0)
              | (go_at_call 13; (with_reducible refine (CL1.out _ _ HS.out).mono ?_); rintro e w1 ⟨rfl, hT⟩; clear hv0 hv1; have hh := (hT.hz _ rfl).2; rw [← HBO.out] at hh; have hv0 : w1.cell? ⟨wr.heap.size, 0, none⟩ = some (.int .i64 X) := (blk_cell hh 0).trans rfl; have hv1 : w1.cell? ⟨wr.heap.size, 1, none⟩ = some (.int .i64 Y) := (blk_cell hh 1).trans rfl; have m0 := Aside0.mk hT; clear hh HS hT; have HS := m0; clear m0)
              | (go_at_call 14; (with_reducible refine (CL2.out _ _ HS.out).mono ?_); rintro e w1 ⟨rfl, hT⟩; clear hv0 hv1; have hh := (hT.hz _ rfl).2; rw [← HBO.out] at hh; have hv0 : w1.cell? ⟨wr.heap.size, 0, none⟩ = some (.int .i64 X) := (blk_cell hh 0).trans rfl; have hv1 : w1.cell? ⟨wr.heap.size, 1, none⟩ = some (.int .i64 Y) := (blk_cell hh 1).trans rfl; have m0 := Aside0.mk hT; clear hh HS hT; have HS := m0; clear m0))
            exact ⟨⟨k + 1, s', R', by omega, congrArg (Value.int .i64) (by omega), ⟨HS.out.unbox⟩, HS'⟩, by simp [intOf]; omega⟩
      · have b0 : (X == 0) = false := by simp [hx]
        obtain ⟨s', hs'⟩ : ∃ s', uput s Y X = s' := ⟨_, rfl⟩
        obtain ⟨R', hRR⟩ : ∃ R', R ++ uraw Y X = R' := ⟨_, rfl⟩
        have HS' : Aside0 (Wr.Fair s' 65537 ∧ s'.m ≤ 2 * (k + 1) ∧ R'.length ≤ 16 * (k + 1)) := ⟨by
          rw [← hs', ← hRR, List.length_append]
          have := uput_m s Y X
          have := uraw_len Y X
          have := HF.out.2
          exact ⟨uput_fair HF.out.1 _ _, by omega, by omega⟩⟩
        have hsm : s'.m ≤ 900 ∧ R'.length ≤ 40000 := by have := HS'.out.2; omega
        obtain ⟨lf, hlf⟩ : ∃ x, 8 * ((Z : Int) - 3 - s'.m) - R'.length = x := ⟨_, rfl⟩
        by_cases hok : okU Y X
        · have hok2 := hok
          unfold okU at hok2
          have C1 : Aside0 (∀ wz zb, FP w g1 g2 Z s R s R zb wz → Calls Tryd.prog 11 #[.pointer (some ⟨g1, 0, none⟩), .int .i64 Y, .int .i64 X] wz fun e w' => e = .returned (.int .i64 0) ∧ FP w g1 g2 Z s' R' s R zb w') := ⟨fun wz zb S => by have h := S.cu HF.out.1 hm3 hR5 Y X; rw [if_pos hok, hs', hRR] at h; exact h⟩
          have C2 : Aside0 (∀ wz zb, FP w g1 g2 Z s' R' s R zb wz → Calls Tryd.prog 12 #[.pointer (some ⟨g2, 0, none⟩), .int .i64 Y, .int .i64 X] wz fun e w' => e = .returned (.tuple #[]) ∧ FP w g1 g2 Z s' R' s' R' zb w') := ⟨fun wz zb S => by have h := S.ru HF.out.1 hm3 hR5 hok; rw [hs', hRR] at h; exact h⟩
          have CL1 : Aside0 (∀ wz zb, FP w g1 g2 Z s' R' s' R' zb wz → Calls Tryd.prog 13 #[.pointer (some ⟨g1, 0, none⟩)] wz fun e w' => e = .returned (.int .i64 lf) ∧ FP w g1 g2 Z s' R' s' R' zb w') := ⟨fun wz zb S => hlf ▸ S.left (by have := HZ.out; omega) (by omega) (by omega)⟩
          have CL2 : Aside0 (∀ wz zb, FP w g1 g2 Z s' R' s' R' zb wz → Calls Tryd.prog 14 #[.pointer (some ⟨g2, 0, none⟩)] wz fun e w' => e = .returned (.int .i64 lf) ∧ FP w g1 g2 Z s' R' s' R' zb w') := ⟨fun wz zb S => hlf ▸ S.rleft (by have := HZ.out; omega) (by omega) (by omega)⟩
          have t1 : decide (1 ≤ X) = true := decide_eq_true (by omega)
          have t2 : decide (X ≤ 16777216) = true := decide_eq_true (by omega)
          have t3 : decide (0 ≤ Y) = true := decide_eq_true (by omega)
          have t4 : decide (Y < X) = true := decide_eq_true (by omega)
          clear hok2 hx
          clear hlf hm3 hR5 hsm hs' hRR hok
          go_wp2_with (first
            | (go_at_call 11; (with_reducible refine (C1.out _ _ HBX.out).mono ?_); rintro e w1 ⟨rfl, hT⟩; have hh := (hT.hz _ rfl).2; rw [← HBO.out] at hh; have hv0 : w1.cell? ⟨wr.heap.size, 0, none⟩ = some (.int .i64 X) := (blk_cell hh 0).trans rfl; have hv1 : w1.cell? ⟨wr.heap.size, 1, none⟩ = some (.int .i64 Y) := (blk_cell hh 1).trans rfl; have m0 := Aside0.mk hT; clear hh HS hT; have HS := m0; clear m0)
            | (go_at_call 12; (with_reducible refine (C2.out _ _ HS.out).mono ?_); rintro e w1 ⟨rfl, hT⟩; clear hv0 hv1; have hh := (hT.hz _ rfl).2; rw [← HBO.out] at hh; have hv0 : w1.cell? ⟨wr.heap.size, 0, none⟩ = some (.int .i64 X) := (blk_cell hh 0).trans rfl; have hv1 : w1.cell? ⟨wr.heap.size, 1, none⟩ = some (.int .i64 Y) := (blk_cell hh 1).trans rfl; have m0 := Aside0.mk hT; clear hh HS hT; have HS := m0; clear m0)
            | (go_at_call 13; (with_reducible refine (CL1.out _ _ HS.out).mono ?_); rintro e w1 ⟨rfl, hT⟩; clear hv0 hv1; have hh := (hT.hz _ rfl).2; rw [← HBO.out] at hh; have hv0 : w1.cell? ⟨wr.heap.size, 0, none⟩ = some (.int .i64 X) := (blk_cell hh 0).trans rfl; have hv1 : w1.cell? ⟨wr.heap.size, 1, none⟩ = some (.int .i64 Y) := (blk_cell hh 1).trans rfl; have m0 := Aside0.mk hT; clear hh HS hT; have HS := m0; clear m0)
            | (go_at_call 14; (with_reducible refine (CL2.out _ _ HS.out).mono ?_); rintro e w1 ⟨rfl, hT⟩; clear hv0 hv1; have hh := (hT.hz _ rfl).2; rw [← HBO.out] at hh; have hv0 : w1.cell? ⟨wr.heap.size, 0, none⟩ = some (.int .i64 X) := (blk_cell hh 0).trans rfl; have hv1 : w1.cell? ⟨wr.heap.size, 1, none⟩ = some (.int .i64 Y) := (blk_cell hh 1).trans rfl; have m0 := Aside0.mk hT; clear hh HS hT; have HS := m0; clear m0))
          exact ⟨⟨k + 1, s', R', by omega, congrArg (Value.int .i64) (by omega), ⟨HS.out.unbox⟩, HS'⟩, by simp [intOf]; omega⟩
        · have hok2 := hok
          unfold okU at hok2
          have hss : s' = s := by rw [← hs']; unfold uput; rw [if_neg hok]
          have hRs : R' = R := by rw [← hRR]; unfold uraw; rw [if_neg hok, List.append_nil]
          by_cases c1 : 1 ≤ X
          · by_cases c2 : X ≤ 16777216
            · by_cases c3 : 0 ≤ Y
              · have C1 : Aside0 (∀ wz zb, FP w g1 g2 Z s R s R zb wz → Calls Tryd.prog 11 #[.pointer (some ⟨g1, 0, none⟩), .int .i64 Y, .int .i64 X] wz fun e w' => e = .returned (.int .i64 1) ∧ FP w g1 g2 Z s' R' s' R' zb w') := ⟨fun wz zb S => by have h := S.cu HF.out.1 hm3 hR5 Y X; rw [if_neg hok, hs', hRR] at h; subst hss; subst hRs; exact h⟩
                have CL1 : Aside0 (∀ wz zb, FP w g1 g2 Z s' R' s' R' zb wz → Calls Tryd.prog 13 #[.pointer (some ⟨g1, 0, none⟩)] wz fun e w' => e = .returned (.int .i64 lf) ∧ FP w g1 g2 Z s' R' s' R' zb w') := ⟨fun wz zb S => hlf ▸ S.left (by have := HZ.out; omega) (by omega) (by omega)⟩
                have CL2 : Aside0 (∀ wz zb, FP w g1 g2 Z s' R' s' R' zb wz → Calls Tryd.prog 14 #[.pointer (some ⟨g2, 0, none⟩)] wz fun e w' => e = .returned (.int .i64 lf) ∧ FP w g1 g2 Z s' R' s' R' zb w') := ⟨fun wz zb S => hlf ▸ S.rleft (by have := HZ.out; omega) (by omega) (by omega)⟩
                have t1 : decide (1 ≤ X) = true := decide_eq_true (by omega)
                have t2 : decide (X ≤ 16777216) = true := decide_eq_true (by omega)
                have t3 : decide (0 ≤ Y) = true := decide_eq_true (by omega)
                have t4 : decide (Y < X) = false := decide_eq_false (by omega)
                clear hok2 c1 c2 c3 hx
                clear hlf hm3 hR5 hsm hs' hRR hok hss hRs
                go_wp2_with (first
                  | (go_at_call 11; (with_reducible refine (C1.out _ _ HBX.out).mono ?_); rintro e w1 ⟨rfl, hT⟩; have hh := (hT.hz _ rfl).2; rw [← HBO.out] at hh; have hv0 : w1.cell? ⟨wr.heap.size, 0, none⟩ = some (.int .i64 X) := (blk_cell hh 0).trans rfl; have hv1 : w1.cell? ⟨wr.heap.size, 1, none⟩ = some (.int .i64 Y) := (blk_cell hh 1).trans rfl; have m0 := Aside0.mk hT; clear hh HS hT; have HS := m0; clear m0)
                  | (go_at_call 13; (with_reducible refine (CL1.out _ _ HS.out).mono ?_); rintro e w1 ⟨rfl, hT⟩; clear hv0 hv1; have hh := (hT.hz _ rfl).2; rw [← HBO.out] at hh; have hv0 : w1.cell? ⟨wr.heap.size, 0, none⟩ = some (.int .i64 X) := (blk_cell hh 0).trans rfl; have hv1 : w1.cell? ⟨wr.heap.size, 1, none⟩ = some (.int .i64 Y) := (blk_cell hh 1).trans rfl; have m0 := Aside0.mk hT; clear hh HS hT; have HS := m0; clear m0)
                  | (go_at_call 14; (with_reducible refine (CL2.out _ _ HS.out).mono ?_); rintro e w1 ⟨rfl, hT⟩; clear hv0 hv1; have hh := (hT.hz _ rfl).2; rw [← HBO.out] at hh; have hv0 : w1.cell? ⟨wr.heap.size, 0, none⟩ = some (.int .i64 X) := (blk_cell hh 0).trans rfl; have hv1 : w1.cell? ⟨wr.heap.size, 1, none⟩ = some (.int .i64 Y) := (blk_cell hh 1).trans rfl; have m0 := Aside0.mk hT; clear hh HS hT; have HS := m0; clear m0))
                exact ⟨⟨k + 1, s', R', by omega, congrArg (Value.int .i64) (by omega), ⟨HS.out.unbox⟩, HS'⟩, by simp [intOf]; omega⟩
              · have C1 : Aside0 (∀ wz zb, FP w g1 g2 Z s R s R zb wz → Calls Tryd.prog 11 #[.pointer (some ⟨g1, 0, none⟩), .int .i64 Y, .int .i64 X] wz fun e w' => e = .returned (.int .i64 1) ∧ FP w g1 g2 Z s' R' s' R' zb w') := ⟨fun wz zb S => by have h := S.cu HF.out.1 hm3 hR5 Y X; rw [if_neg hok, hs', hRR] at h; subst hss; subst hRs; exact h⟩
                have CL1 : Aside0 (∀ wz zb, FP w g1 g2 Z s' R' s' R' zb wz → Calls Tryd.prog 13 #[.pointer (some ⟨g1, 0, none⟩)] wz fun e w' => e = .returned (.int .i64 lf) ∧ FP w g1 g2 Z s' R' s' R' zb w') := ⟨fun wz zb S => hlf ▸ S.left (by have := HZ.out; omega) (by omega) (by omega)⟩
                have CL2 : Aside0 (∀ wz zb, FP w g1 g2 Z s' R' s' R' zb wz → Calls Tryd.prog 14 #[.pointer (some ⟨g2, 0, none⟩)] wz fun e w' => e = .returned (.int .i64 lf) ∧ FP w g1 g2 Z s' R' s' R' zb w') := ⟨fun wz zb S => hlf ▸ S.rleft (by have := HZ.out; omega) (by omega) (by omega)⟩
                have t1 : decide (1 ≤ X) = true := decide_eq_true (by omega)
                have t2 : decide (X ≤ 16777216) = true := decide_eq_true (by omega)
                have t3 : decide (0 ≤ Y) = false := decide_eq_false (by omega)
                clear hok2 c1 c2 c3 hx
                clear hlf hm3 hR5 hsm hs' hRR hok hss hRs
                go_wp2_with (first
                  | (go_at_call 11; (with_reducible refine (C1.out _ _ HBX.out).mono ?_); rintro e w1 ⟨rfl, hT⟩; have hh := (hT.hz _ rfl).2; rw [← HBO.out] at hh; have hv0 : w1.cell? ⟨wr.heap.size, 0, none⟩ = some (.int .i64 X) := (blk_cell hh 0).trans rfl; have hv1 : w1.cell? ⟨wr.heap.size, 1, none⟩ = some (.int .i64 Y) := (blk_cell hh 1).trans rfl; have m0 := Aside0.mk hT; clear hh HS hT; have HS := m0; clear m0)
                  | (go_at_call 13; (with_reducible refine (CL1.out _ _ HS.out).mono ?_); rintro e w1 ⟨rfl, hT⟩; clear hv0 hv1; have hh := (hT.hz _ rfl).2; rw [← HBO.out] at hh; have hv0 : w1.cell? ⟨wr.heap.size, 0, none⟩ = some (.int .i64 X) := (blk_cell hh 0).trans rfl; have hv1 : w1.cell? ⟨wr.heap.size, 1, none⟩ = some (.int .i64 Y) := (blk_cell hh 1).trans rfl; have m0 := Aside0.mk hT; clear hh HS hT; have HS := m0; clear m0)
                  | (go_at_call 14; (with_reducible refine (CL2.out _ _ HS.out).mono ?_); rintro e w1 ⟨rfl, hT⟩; clear hv0 hv1; have hh := (hT.hz _ rfl).2; rw [← HBO.out] at hh; have hv0 : w1.cell? ⟨wr.heap.size, 0, none⟩ = some (.int .i64 X) := (blk_cell hh 0).trans rfl; have hv1 : w1.cell? ⟨wr.heap.size, 1, none⟩ = some (.int .i64 Y) := (blk_cell hh 1).trans rfl; have m0 := Aside0.mk hT; clear hh HS hT; have HS := m0; clear m0))
                exact ⟨⟨k + 1, s', R', by omega, congrArg (Value.int .i64) (by omega), ⟨HS.out.unbox⟩, HS'⟩, by simp [intOf]; omega⟩
            · have C1 : Aside0 (∀ wz zb, FP w g1 g2 Z s R s R zb wz → Calls Tryd.prog 11 #[.pointer (some ⟨g1, 0, none⟩), .int .i64 Y, .int .i64 X] wz fun e w' => e = .returned (.int .i64 1) ∧ FP w g1 g2 Z s' R' s' R' zb w') := ⟨fun wz zb S => by have h := S.cu HF.out.1 hm3 hR5 Y X; rw [if_neg hok, hs', hRR] at h; subst hss; subst hRs; exact h⟩
              have CL1 : Aside0 (∀ wz zb, FP w g1 g2 Z s' R' s' R' zb wz → Calls Tryd.prog 13 #[.pointer (some ⟨g1, 0, none⟩)] wz fun e w' => e = .returned (.int .i64 lf) ∧ FP w g1 g2 Z s' R' s' R' zb w') := ⟨fun wz zb S => hlf ▸ S.left (by have := HZ.out; omega) (by omega) (by omega)⟩
              have CL2 : Aside0 (∀ wz zb, FP w g1 g2 Z s' R' s' R' zb wz → Calls Tryd.prog 14 #[.pointer (some ⟨g2, 0, none⟩)] wz fun e w' => e = .returned (.int .i64 lf) ∧ FP w g1 g2 Z s' R' s' R' zb w') := ⟨fun wz zb S => hlf ▸ S.rleft (by have := HZ.out; omega) (by omega) (by omega)⟩
              have t1 : decide (1 ≤ X) = true := decide_eq_true (by omega)
              have t2 : decide (X ≤ 16777216) = false := decide_eq_false (by omega)
              clear hok2 c1 c2 hx
              clear hlf hm3 hR5 hsm hs' hRR hok hss hRs
              go_wp2_with (first
                | (go_at_call 11; (with_reducible refine (C1.out _ _ HBX.out).mono ?_); rintro e w1 ⟨rfl, hT⟩; have hh := (hT.hz _ rfl).2; rw [← HBO.out] at hh; have hv0 : w1.cell? ⟨wr.heap.size, 0, none⟩ = some (.int .i64 X) := (blk_cell hh 0).trans rfl; have hv1 : w1.cell? ⟨wr.heap.size, 1, none⟩ = some (.int .i64 Y) := (blk_cell hh 1).trans rfl; have m0 := Aside0.mk hT; clear hh HS hT; have HS := m0; clear m0)
                | (go_at_call 13; (with_reducible refine (CL1.out _ _ HS.out).mono ?_); rintro e w1 ⟨rfl, hT⟩; clear hv0 hv1; have hh := (hT.hz _ rfl).2; rw [← HBO.out] at hh; have hv0 : w1.cell? ⟨wr.heap.size, 0, none⟩ = some (.int .i64 X) := (blk_cell hh 0).trans rfl; have hv1 : w1.cell? ⟨wr.heap.size, 1, none⟩ = some (.int .i64 Y) := (blk_cell hh 1).trans rfl; have m0 := Aside0.mk hT; clear hh HS hT; have HS := m0; clear m0)
                | (go_at_call 14; (with_reducible refine (CL2.out _ _ HS.out).mono ?_); rintro e w1 ⟨rfl, hT⟩; clear hv0 hv1; have hh := (hT.hz _ rfl).2; rw [← HBO.out] at hh; have hv0 : w1.cell? ⟨wr.heap.size, 0, none⟩ = some (.int .i64 X) := (blk_cell hh 0).trans rfl; have hv1 : w1.cell? ⟨wr.heap.size, 1, none⟩ = some (.int .i64 Y) := (blk_cell hh 1).trans rfl; have m0 := Aside0.mk hT; clear hh HS hT; have HS := m0; clear m0))
              exact ⟨⟨k + 1, s', R', by omega, congrArg (Value.int .i64) (by omega), ⟨HS.out.unbox⟩, HS'⟩, by simp [intOf]; omega⟩
          · have C1 : Aside0 (∀ wz zb, FP w g1 g2 Z s R s R zb wz → Calls Tryd.prog 11 #[.pointer (some ⟨g1, 0, none⟩), .int .i64 Y, .int .i64 X] wz fun e w' => e = .returned (.int .i64 1) ∧ FP w g1 g2 Z s' R' s' R' zb w') := ⟨fun wz zb S => by have h := S.cu HF.out.1 hm3 hR5 Y X; rw [if_neg hok, hs', hRR] at h; subst hss; subst hRs; exact h⟩
            have CL1 : Aside0 (∀ wz zb, FP w g1 g2 Z s' R' s' R' zb wz → Calls Tryd.prog 13 #[.pointer (some ⟨g1, 0, none⟩)] wz fun e w' => e = .returned (.int .i64 lf) ∧ FP w g1 g2 Z s' R' s' R' zb w') := ⟨fun wz zb S => hlf ▸ S.left (by have := HZ.out; omega) (by omega) (by omega)⟩
            have CL2 : Aside0 (∀ wz zb, FP w g1 g2 Z s' R' s' R' zb wz → Calls Tryd.prog 14 #[.pointer (some ⟨g2, 0, none⟩)] wz fun e w' => e = .returned (.int .i64 lf) ∧ FP w g1 g2 Z s' R' s' R' zb w') := ⟨fun wz zb S => hlf ▸ S.rleft (by have := HZ.out; omega) (by omega) (by omega)⟩
            have t1 : decide (1 ≤ X) = false := decide_eq_false (by omega)
            clear hok2 c1 hx
            clear hlf hm3 hR5 hsm hs' hRR hok hss hRs
            go_wp2_with (first
              | (go_at_call 11; (with_reducible refine (C1.out _ _ HBX.out).mono ?_); rintro e w1 ⟨rfl, hT⟩; have hh := (hT.hz _ rfl).2; rw [← HBO.out] at hh; have hv0 : w1.cell? ⟨wr.heap.size, 0, none⟩ = some (.int .i64 X) := (blk_cell hh 0).trans rfl; have hv1 : w1.cell? ⟨wr.heap.size, 1, none⟩ = some (.int .i64 Y) := (blk_cell hh 1).trans rfl; have m0 := Aside0.mk hT; clear hh HS hT; have HS := m0; clear m0)
              | (go_at_call 13; (with_reducible refine (CL1.out _ _ HS.out).mono ?_); rintro e w1 ⟨rfl, hT⟩; clear hv0 hv1; have hh := (hT.hz _ rfl).2; rw [← HBO.out] at hh; have hv0 : w1.cell? ⟨wr.heap.size, 0, none⟩ = some (.int .i64 X) := (blk_cell hh 0).trans rfl; have hv1 : w1.cell? ⟨wr.heap.size, 1, none⟩ = some (.int .i64 Y) := (blk_cell hh 1).trans rfl; have m0 := Aside0.mk hT; clear hh HS hT; have HS := m0; clear m0)
              | (go_at_call 14; (with_reducible refine (CL2.out _ _ HS.out).mono ?_); rintro e w1 ⟨rfl, hT⟩; clear hv0 hv1; have hh := (hT.hz _ rfl).2; rw [← HBO.out] at hh; have hv0 : w1.cell? ⟨wr.heap.size, 0, none⟩ = some (.int .i64 X) := (blk_cell hh 0).trans rfl; have hv1 : w1.cell? ⟨wr.heap.size, 1, none⟩ = some (.int .i64 Y) := (blk_cell hh 1).trans rfl; have m0 := Aside0.mk hT; clear hh HS hT; have HS := m0; clear m0))
            exact ⟨⟨k + 1, s', R', by omega, congrArg (Value.int .i64) (by omega), ⟨HS.out.unbox⟩, HS'⟩, by simp [intOf]; omega⟩
    · obtain ⟨o1, o2, hw1, hq2, _⟩ := Sep.ex HS.out
      have HB := Aside0.mk (Sep.hb HS.out)
      have hmm : s.m ≤ 900 ∧ R.length ≤ 20000 := by have := HF.out; omega
      have hzz := HZ.out
      have hfair := HF.out.1
      obtain ⟨lf, hlf⟩ : ∃ x, 8 * ((Z : Int) - 3 - s.m) - R.length = x := ⟨_, rfl⟩
      have CL2 : Aside0 (∀ wz, Below wr.heap.size wr wz → Calls Tryd.prog 14 #[.pointer (some ⟨g2, 0, none⟩)] wz fun e w' => e = .returned (.int .i64 lf) ∧ Below wz.heap.size wz w') := ⟨fun wz hb => (RfWalk.rleft_any o2 g2 Z s.g _ _ wz (RfB.below hq2 hb) (by omega) (by rw [Wr.dig_len]; omega) (by rw [List.length_map]; omega)).mono (fun e w' h => ⟨by rw [h.1, Wr.dig_len, List.length_map, ← hlf]; congr 2; omega, h.2⟩)⟩
      by_cases hfit : Fits Z s.m R.length
      · have hl0 : decide (lf < 0) = false := decide_eq_false (by unfold Fits at hfit; omega)
        obtain ⟨P1, hP1⟩ : ∃ P1, pk Z s.m s.V R = P1 := ⟨_, rfl⟩
        have CD : Aside0 (Calls Tryd.prog 15 #[.pointer (some ⟨g1, 0, none⟩)] wr fun e w' => ∃ gb, e = .returned (.tuple #[.slice (some ⟨gb, 0, none⟩) Z Z, .int .i64 0]) ∧ Kd.R (Kd.int .u8) 5 w' 0 (fun k => wr.heap.size ≤ k) (.slice (some ⟨gb, 0, none⟩) Z Z) P1 ∧ Below wr.heap.size wr w') := ⟨hP1 ▸ done_yes o1 g1 Z s R wr hw1 (by omega) hfit⟩
        have CP : Aside0 (∀ wz, Below wr.heap.size wr wz → Calls Tryd.prog 17 #[.pointer (some ⟨g2, 0, none⟩)] wz fun e w' => ∃ Av cv, e = .returned (.slice Av Z cv) ∧ Kd.R (Kd.int .i64) 3 w' 0 (fun k => wz.heap.size ≤ k) (.slice Av Z cv) P1 ∧ Below wz.heap.size wz w') := ⟨fun wz hb => (RfWalk.packet_any o2 g2 Z s R wz (RfB.below hq2 hb) (by omega) hmm.2 hmm.1).mono (fun e w' h => by
          obtain ⟨v, he, hR, hb2⟩ := h
          obtain ⟨Av, cv, rfl⟩ := Kd.R_slice hR
          rw [hP1] at hR he
          rw [show P1.length = Z by rw [← hP1, pk_len]] at hR he
          exact ⟨Av, cv, he, hR, hb2⟩)⟩
        have HPB : Aside0 (P1.length = Z ∧ ∀ x ∈ P1, 0 ≤ x ∧ x ≤ 255) := ⟨by rw [← hP1]; exact ⟨pk_len _ _ _ _, fun x hx => pk_in hfit x hx⟩⟩
        have CS : Aside0 (∀ wz gb Av cv, Kd.C (Kd.int .u8) wz (some ⟨gb, 0, none⟩) Z P1 → Kd.C (Kd.int .i64) wz Av Z P1 → Calls Tryd.prog 16 #[.slice (some ⟨gb, 0, none⟩) Z Z, .slice Av Z cv] wz fun e w' => e = .returned (.bool true) ∧ Below wz.heap.size wz w') := ⟨fun wz gb Av cv h0 h1 => RfWalk.same_any _ Z _ cv Z P1 wz (by omega) HPB.out.2 h0 h1⟩
        have HBr := Aside0.mk (Below.refl wr.heap.size wr)
        have ht' : ¬ (k : Int) < (n : Int) := by omega
        clear hw1 hq2 hmm hzz hfair hlf hfit hP1 ht
        go_wp2_with (first
          | (go_at_call 15; (with_reducible refine CD.out.mono ?_); rintro e w1 ⟨gb, rfl, hR, hb⟩; have HR := Aside0.mk hR; have HB1 := Aside0.mk (hb.mono (Nat.le_refl _)); clear hR hb)
          | (go_at_call 14; (with_reducible refine (CL2.out _ HB1.out).mono ?_); rintro e w2 ⟨rfl, hb⟩; have HR2 := Aside0.mk (Kd.R_below HR.out hb); have HB2 := Aside0.mk (below_step HB1.out hb); clear hb)
          | (go_at_call 17; (with_reducible refine (CP.out _ HB2.out).mono ?_); rintro e w3 ⟨Av, cv, rfl, hR, hb⟩; have HR3 := Aside0.mk (Kd.R_below HR2.out hb); have HV := Aside0.mk hR; have HB3 := Aside0.mk (below_step HB2.out hb); clear hR hb)
          | (go_at_call 16; (with_reducible refine (CS.out _ _ _ _ (row_c8 HR3.out HPB.out.1) (row_ci HV.out HPB.out.1)).mono ?_); rintro e w4 ⟨rfl, hb⟩; have HB4 := Aside0.mk (below_step HB3.out hb); clear hb))
        go_ret
        exact ⟨rfl, below_step HB.out HB4.out⟩
      · have hl0 : decide (lf < 0) = true := decide_eq_true (by unfold Fits at hfit; omega)
        have CD : Aside0 (Calls Tryd.prog 15 #[.pointer (some ⟨g1, 0, none⟩)] wr fun e w' => e = .returned (.tuple #[.slice none 0 0, .int .i64 4]) ∧ Below wr.heap.size wr w') := ⟨done_not o1 g1 Z s R wr hw1 (by omega) (by omega) (by omega) hfit⟩
        have ht' : ¬ (k : Int) < (n : Int) := by omega
        clear hw1 hq2 hmm hzz hfair hlf hfit ht
        go_wp2_with (first
          | (go_at_call 15; (with_reducible refine CD.out.mono ?_); rintro e w1 ⟨rfl, hb⟩; have HB1 := Aside0.mk (hb.mono (Nat.le_refl _)); clear hb)
          | (go_at_call 14; (with_reducible refine (CL2.out _ HB1.out).mono ?_); rintro e w2 ⟨rfl, hb⟩; have HB2 := Aside0.mk (below_step HB1.out hb); clear hb))
        go_ret
        exact ⟨rfl, below_step HB.out HB2.out⟩
theorem puts_row (a0 : Int) (w0 : (Lit.int .u16 a0).wf = true) (a1 : Option Addr) (len1 cap1 : Nat) (z1 : List (List Int)) (w : World) (hL : Laid w) (w1 : StructRows.Rows [.i64, .i64] w a1 len1 cap1 z1) :
    Calls Tryd.prog 3 #[.int .u16 a0, .slice a1 len1 cap1] w fun e w' => e = .returned (.bool true) ∧ Below w.heap.size w w' := by
  obtain ⟨hD, _, hop⟩ := ops32 w1
  have h0 := wf_u16 w0
  by_cases hn : len1 ≤ 200
  · exact puts_at a0 (4 + a0 % 1272).toNat h0 (by omega) (z1.map to32) len1 hD.1 hn a1 cap1 w hL hD
  · exact puts_long _ _ _ _ _ (decide_eq_true (by omega))
end Go.Proofs.YtjmoklebimejaaaDoor.SyWalk
