import Derived.Test.YtjmoklebimejaaaSyGet
import Derived.Test.YtjmoklebimejaaaRdFace
namespace Go.Proofs.Ytjmoklebimejaaa.SyWalk
open Go.RowKit Go.Proofs.YtjmoklebimejaaaW.PrintWords Go.Proofs.YtjmoklebimejaaaW.PrintLast Go.Proofs.YtjmoklebimejaaaW.PrintMore
open Go.Proofs.Ytjmoklebimejaaa.WrWalk Go.Proofs.Ytjmoklebimejaaa.Sy Go.Proofs.Ytjmoklebimejaaa.OSymCosts
open Go.Proofs.Ytjmoklebimejaaa.RdWalk (RdAt rd_get rd_take rd_raw rd_new rawn)
open Go.Proofs.Ytjmoklebimejaaa.Rd (by_ Bytes)
set_option linter.unusedVariables false
set_option linter.unusedSimpArgs false
theorem or_i64 {v x : Int} {k : Nat} (hk : k ≤ 16) (h0 : 0 ≤ v) (h1 : v ≤ 4096) (h2 : 0 ≤ x) (h3 : x < 2 ^ k) : bits .or .i64 (v * 2 ^ k) x = v * 2 ^ k + x := by
  obtain ⟨a, rfl⟩ := Int.eq_ofNat_of_zero_le h0
  obtain ⟨b, rfl⟩ := Int.eq_ofNat_of_zero_le h2
  have hp : 2 ^ k ≤ 2 ^ 16 := Nat.pow_le_pow_right (by decide) hk
  have hp' : 2 ^ k ≤ 65536 := hp
  have h3' : b < 2 ^ k := by
    have : ((2 ^ k : Nat) : Int) = 2 ^ k := by rw [Int.natCast_pow]; rfl
    rw [← this] at h3
    omega
  have e1 : ((a : Int) * 2 ^ k) = ((a <<< k : Nat) : Int) := by rw [Nat.shiftLeft_eq, Int.natCast_mul, Int.natCast_pow]; rfl
  have e2 : a <<< k ≤ 268435456 := by
    rw [Nat.shiftLeft_eq]
    exact Nat.le_trans (Nat.mul_le_mul (show a ≤ 4096 by omega) hp') (by decide)
  have key : ((BitVec.ofInt 64 ((a <<< k : Nat) : Int)) ||| (BitVec.ofInt 64 (b : Int))).toNat = a <<< k + b := by
    rw [BitVec.toNat_or, BitVec.ofInt_natCast, BitVec.ofInt_natCast, BitVec.toNat_ofNat, BitVec.toNat_ofNat, Nat.mod_eq_of_lt (by omega), Nat.mod_eq_of_lt (by omega), ← Nat.shiftLeft_add_eq_or_of_lt h3']
  rw [e1]
  show IntKind.i64.wrap (((BitVec.ofInt 64 ((a <<< k : Nat) : Int)) ||| (BitVec.ofInt 64 (b : Int))).toNat) = _
  rw [key, i64_w, sw64 (by omega) (by omega)]
  omega
theorem uval_in {n v x : Int} (h0 : 0 ≤ v) (h1 : v ≤ 4096) (h2 : 0 ≤ x) (h3 : x < 2 ^ sl n) (hk : sl n ≤ 16) : 0 ≤ uval n v x ∧ uval n v x ≤ 268500992 ∧ 0 ≤ v * 2 ^ sl n ∧ v * 2 ^ sl n ≤ 268435456 := by
  have hp := pow_16 hk
  have a1 : 0 ≤ v * 2 ^ sl n := Int.mul_nonneg h0 (by omega)
  have a2 : v * 2 ^ sl n ≤ 4096 * 65536 := Int.mul_le_mul h1 hp.2 (by omega) (by omega)
  unfold uval
  omega
/-- How a reader's call leaves the world. -/
def RT (g : Nat) (w w' : World) : Prop := g < w.heap.size → Below g w w' ∧ KeepBut w w' g none
theorem rt_keeps (g : Nat) : Keeps (RT g) := ⟨fun h hg => ⟨h.mono (by omega), KeepBut.of_below h g none⟩, fun h h2 hg => by
  have a := h hg
  have b := h2 (Nat.lt_of_lt_of_le hg a.1.size)
  exact ⟨a.1.trans b.1, a.2.trans b.2 (.inl rfl)⟩⟩
theorem rd_stays (g : Nat) (B : List Int) (s : Rd.St) : Stays (fun w => RdAt w g B s) := fun hb h => h.below hb
/-- What a number costs a reader, and what it is. -/
def ut (B : List Int) (s : Rd.St) (n : Int) : Rd.St := Rd.take B s (Rd.get s (sh n)) (Rd.get s (sh n) + 1) (sh n)
def uu (B : List Int) (s : Rd.St) (n : Int) : Int := uval n (Rd.get s (sh n)) (Rd.raw B (ut B s n).r (sl n))
def us (B : List Int) (s : Rd.St) (n : Int) : Rd.St := rawn (ut B s n) (sl n : Int)
theorem cl_sl {k : Nat} (h : k ≤ 16) : Rd.cl (k : Int) = k := by unfold Rd.cl; omega
theorem us_good {B : List Int} (hB : Bytes B) {s : Rd.St} (hs : Rd.Good s) (n : Int) : Rd.Good (us B s n) := by
  have h := Rd.take_good hB hs (Rd.get s (sh n)) (Rd.get s (sh n) + 1) (sh n)
  obtain ⟨a, b, c, d⟩ := h
  exact ⟨a, b, c, d⟩
theorem us_t (B : List Int) (s : Rd.St) (n : Int) : s.t ≤ (us B s n).t ∧ (us B s n).t ≤ s.t + 2 := Rd.take_t B s _ _ _
theorem us_r (B : List Int) (s : Rd.St) {n : Int} (h0 : 1 ≤ n) (h1 : n ≤ 16777216) : (us B s n).r = s.r + sl n := by
  have hk := (sl_is h0 h1).1
  show (ut B s n).r + Rd.cl (sl n : Int) = _
  rw [cl_sl hk]
  exact congrArg (· + sl n) (Rd.take_r B s _ _ _)
theorem uu_in {B : List Int} {s : Rd.St} (hs : Rd.Good s) {n : Int} (h0 : 1 ≤ n) (h1 : n ≤ 16777216) : 0 ≤ uu B s n ∧ uu B s n ≤ 268500992 := by
  have hg := Rd.get_in hs (sh n)
  have hr := Rd.raw_in B (ut B s n).r (sl n)
  have := uval_in (n := n) hg.1 (by omega) hr.1 hr.2 (sl_is h0 h1).1
  exact ⟨this.1, this.2.1⟩
theorem rd_uint {g : Nat} {B : List Int} (hB : Bytes B) (hl : B.length ≤ 10000) {s : Rd.St} (hs : Rd.Good s) (ht : s.t ≤ 9990) (hr : s.r ≤ 80000) {n : Int} (h0 : 1 ≤ n) (h1 : n ≤ 16777216) {w : World} (h : RdAt w g B s) :
    Calls Try.prog 9 #[.pointer (some ⟨g, 0, none⟩), .int .i64 n] w fun e w' => e = .returned (.tuple #[.int .i64 (min (uu B s n) (n - 1)), .bool (decide (uu B s n < n))]) ∧ RdAt w' g B (us B s n) ∧ RT g w w' := by
  have hk := (sl_is h0 h1).1
  have hg := Rd.get_in hs (sh n)
  have hx := Rd.raw_in B (ut B s n).r (sl n)
  have hu := uval_in (n := n) hg.1 (by omega) hx.1 hx.2 hk
  have hp := pow_16 hk
  have hrr : (ut B s n).r = s.r := Rd.take_r B s _ _ _
  refine ruint_walk g (sl n) (fun w => RdAt w g B s) (fun w => RdAt w g B (ut B s n)) (fun w => RdAt w g B (us B s n)) (RT g) (rt_keeps g) (rd_stays g B s) (rd_stays g B _) (rd_stays g B _) n (sh n) (Rd.get s (sh n)) (Rd.raw B (ut B s n).r (sl n)) (Rd.get s (sh n) * 2 ^ sl n) (uu B s n) (decide_eq_false (by omega)) (decide_eq_false (by omega)) hk ?_ ?_ ?_ (sw64 (by omega) (by omega)) (parts_call h0 h1) ?_ ?_ w h
  · rw [i64_w]; exact sw64 (by omega) (by omega)
  · rw [i64_w]; exact sw64 (by omega) (by omega)
  · exact or_i64 hk hg.1 (by omega) hx.1 hx.2
  · intro w h
    exact rone_any g (fun w => RdAt w g B s) (fun w => RdAt w g B (ut B s n)) (RT g) (rt_keeps g) (rd_stays g B s) (rd_stays g B _) _ _ (sh n) (sw64 (by omega) (by omega)) (fun w h => (rd_get hs (sh n) h).mono (fun e w' hh => ⟨hh.1, hh.2.1, fun _ => hh.2.2⟩)) (fun w h => (rd_take hB hl hs ht _ _ _ h).mono (fun e w' hh => ⟨hh.1, hh.2.1, fun _ => hh.2.2⟩)) w h
  · intro w h
    exact (rd_raw hB hl (by rw [hrr]; omega) (sl n : Int) h).mono (fun e w' hh => ⟨by rw [hh.1, cl_sl hk], hh.2.1, fun _ => hh.2.2⟩)
theorem ruint_no (g : Nat) (n : Int) (w : World) (h : n < 1 ∨ 16777216 < n) :
    Calls Try.prog 9 #[.pointer (some ⟨g, 0, none⟩), .int .i64 n] w fun e w' => e = .returned (.tuple #[.int .i64 0, .bool false]) ∧ Below w.heap.size w w' := by
  have HB := Aside0.mk (Below.refl w.heap.size w)
  by_cases c : n < 1
  · have d1 : decide (n < 1) = true := decide_eq_true c
    clear c h
    go_enter Try.func9, Try.ntmps9
    go_wp2
    go_ret2
    exact ⟨rfl, by repeat (first | exact HB.out | apply below_drew1 | apply pw_below_drewN)⟩
  · have d1 : decide (n < 1) = false := decide_eq_false c
    have d2 : decide (16777216 < n) = true := decide_eq_true (by omega)
    clear c h
    go_enter Try.func9, Try.ntmps9
    go_wp2
    go_ret2
    exact ⟨rfl, by repeat (first | exact HB.out | apply below_drew1 | apply pw_below_drewN)⟩
end Go.Proofs.Ytjmoklebimejaaa.SyWalk
