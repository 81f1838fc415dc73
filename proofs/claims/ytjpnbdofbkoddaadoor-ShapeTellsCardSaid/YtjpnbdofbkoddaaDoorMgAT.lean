import Derived.Test.YtjpnbdofbkoddaaDoorMathT
import Derived.Test.YtjpnbdofbkoddaaDoorOShapeSeedsx2T
import Derived.LoopTactic
import Derived.Lib.SliceRun
import Derived.Deep.RegionHeld3
import Derived.WalkSpells
import Derived.Laws.CopyOwn
import Derived.Deep.RegionLaw
import Derived.StillTailTactics
import Derived.Test.YtjpnbdofbkoddaaDoorOShapeSeedsx1T
import Derived.Deep.RegionWith
set_option linter.unusedVariables false
set_option linter.unusedSimpArgs false
namespace Go.Proofs.YtjpnbdofbkoddaaDoor.Rd
structure St where
 t : Nat
 r : Nat
 g : Int
 v : Int
def by_ (B : List Int) (i : Nat) : Int := B.getD i 0
abbrev Bytes (B : List Int) : Prop := ∀ x ∈ B, 0 ≤ x ∧ x ≤ 255
theorem by_in {B : List Int} (h : Bytes B) (i : Nat) : 0 ≤ by_ B i ∧ by_ B i ≤ 255 := by
 unfold by_
 by_cases hi : i < B.length
 ·rw [List.getD_eq_getElem?_getD, List.getElem?_eq_getElem hi, Option.getD_some]; exact h _ (List.getElem_mem hi)
 ·rw [List.getD_eq_getElem?_getD, List.getElem?_eq_none (by omega), Option.getD_none]; omega
def stp (B : List Int) (s : St) : St := ⟨s.t + 1, s.r, s.g * 256, s.v * 256 + by_ B s.t⟩
def step (B : List Int) (s : St) : St := if s.g ≤ 65536 then stp B s else s
def rg (g a b n : Int) : Int := if b = n then g - a * (g / n) else (b - a) * (g / n)
def cut (s : St) (a b n : Int) : St := ⟨s.t, s.r, rg s.g a b n, min (s.v - min (a * (s.g / n)) s.v) (rg s.g a b n - 1)⟩
abbrev ok (a b n : Int) : Prop := 0 ≤ a ∧ a < b ∧ b ≤ n ∧ n ≤ 4096
def take (B : List Int) (s : St) (a b n : Int) : St := if ok a b n then step B (step B (cut s a b n)) else s
structure Good (s : St) : Prop where
 g0 : 65536 < s.g
 g1 : s.g ≤ 16777216
 v0 : 0 ≤ s.v
 v1 : s.v < s.g
structure Part (g p a b n : Int) : Prop where
 p0 : 16 ≤ p
 p1 : p ≤ 16777216
 o0 : 0 ≤ a * p
 o1 : a * p ≤ g - p
 s0 : p ≤ (b - a) * p
 s1 : (b - a) * p ≤ g - a * p
theorem part_is {g a b n : Int} (h0 : 65536 < g) (h1 : g ≤ 16777216) (h : ok a b n) : Part g (g / n) a b n := by
 obtain ⟨ha, hab, hbn, hn⟩ := h
 have hn0 : 0 < n := by omega
 have hp : 16 ≤ g / n := by
  have := Int.ediv_le_ediv (a := 65536) (b := g) hn0 (by omega)
  have h2 : (16 : Int) ≤ 65536 / n := (Int.le_ediv_iff_mul_le hn0).mpr (by omega)
  omega
 have hm : g / n * n ≤ g := Int.ediv_mul_le g (by omega)
 have hle : g / n ≤ g := Int.ediv_le_self n (by omega)
 obtain ⟨p, hp'⟩ : ∃ p, g / n = p := ⟨_, rfl⟩
 rw [hp'] at hp hm hle ⊢
 have e1 : a * p ≤ (n - 1) * p := Int.mul_le_mul_of_nonneg_right (by omega) (by omega)
 have e2 : (b - a) * p ≤ (n - a) * p := Int.mul_le_mul_of_nonneg_right (by omega) (by omega)
 have e3 : 1 * p ≤ (b - a) * p := Int.mul_le_mul_of_nonneg_right (by omega) (by omega)
 have e4 : 0 ≤ a * p := Int.mul_nonneg ha (by omega)
 rw [Int.sub_mul] at e1 e2 e3
 rw [Int.sub_mul] at e2
 rw [Int.mul_comm n p] at e1 e2
 rw [Int.mul_comm p n] at e1 e2
 rw [Int.mul_comm p n] at hm
 constructor <;> (try rw [Int.sub_mul]) <;> omega
theorem rg_in {g a b n : Int} (h0 : 65536 < g) (h1 : g ≤ 16777216) (h : ok a b n) : 16 ≤ rg g a b n ∧ rg g a b n ≤ g - a * (g / n) := by
 obtain ⟨p0, p1, o0, o1, s0, s1⟩ := part_is h0 h1 h
 unfold rg
 split <;> omega
structure Fair (s : St) (k : Int) : Prop where
 g0 : k ≤ s.g
 g1 : s.g ≤ 16777216
 v0 : 0 ≤ s.v
 v1 : s.v < s.g
theorem cut_fair {s : St} (hs : Good s) {a b n : Int} (h : ok a b n) : Fair (cut s a b n) 16 := by
 have h1 := rg_in hs.g0 hs.g1 h
 obtain ⟨p0, p1, o0, o1, s0, s1⟩ := part_is hs.g0 hs.g1 h
 have := hs.v0
 have := hs.v1
 have := hs.g1
 refine ⟨h1.1, ?_, ?_, ?_⟩ <;> simp only [cut] <;> omega
theorem step_fair {B : List Int} (hB : Bytes B) {s : St} {k : Int} (hk : k ≤ 256) (h : Fair s k) : Fair (step B s) (k * 256) := by
 obtain ⟨g0, g1, v0, v1⟩ := h
 have := by_in hB s.t
 unfold step
 split
 ·refine ⟨?_, ?_, ?_, ?_⟩ <;> simp only [stp] <;> omega
 ·refine ⟨?_, ?_, ?_, ?_⟩ <;> omega
theorem step_fair2 {B : List Int} (hB : Bytes B) {s : St} {k : Int} (hk : 4096 ≤ k) (h : Fair s k) : Fair (step B s) 65537 := by
 obtain ⟨g0, g1, v0, v1⟩ := h
 have := by_in hB s.t
 unfold step
 split
 ·refine ⟨?_, ?_, ?_, ?_⟩ <;> simp only [stp] <;> omega
 ·refine ⟨?_, ?_, ?_, ?_⟩ <;> omega
def new (B : List Int) : St := ⟨3, 0, 16777216, by_ B 0 * 65536 + by_ B 1 * 256 + by_ B 2⟩
def bit (B : List Int) (k : Nat) : Int := if k / 8 < B.length then by_ B (B.length - 1 - k / 8) / 2 ^ (k % 8) % 2 else 0
def raw (B : List Int) (r : Nat) : Nat → Int
 | 0 => 0
 | i + 1 => raw B r i + bit B (r + i) * 2 ^ i
end Go.Proofs.YtjpnbdofbkoddaaDoor.Rd
namespace Go.Proofs.YtjpnbdofbkoddaaDoor.Wr
open Go.Proofs.YtjpnbdofbkoddaaDoor.Rd (ok rg part_is Part)
def dig (V : Int) : Nat → List Int
 | 0 => []
 | k + 1 => dig (V / 256) k ++ [V % 256]
theorem dig_len : ∀ (k : Nat) (V : Int), (dig V k).length = k
 | 0, _ => rfl
 | k + 1, V => by rw [dig, List.length_append, dig_len]; rfl
theorem dig_app (V : Int) (m : Nat) (d : Int) (h0 : 0 ≤ d) (h1 : d ≤ 255) : dig V m ++ [d] = dig (V * 256 + d) (m + 1) := by
 rw [dig, show (V * 256 + d) / 256 = V by omega, show (V * 256 + d) % 256 = d by omega]
structure St where
 m : Nat
 V : Int
 g : Int
def stp (s : St) : St := ⟨s.m + 1, s.V * 256, s.g * 256⟩
def step (s : St) : St := if s.g ≤ 65536 then stp s else s
def cut (s : St) (a b n : Int) : St := ⟨s.m, s.V + a * (s.g / n), rg s.g a b n⟩
def put (s : St) (a b n : Int) : St := if ok a b n then step (step (cut s a b n)) else s
structure Fair (s : St) (k : Int) : Prop where
 g0 : k ≤ s.g
 g1 : s.g ≤ 16777216
 v0 : 0 ≤ s.V
 v1 : s.V + s.g ≤ 16777216 * 256 ^ s.m
theorem cut_fair {s : St} (hs : Fair s 65537) {a b n : Int} (h : ok a b n) : Fair (cut s a b n) 16 := by
 have h1 := Rd.rg_in (by have := hs.g0; omega) hs.g1 h
 obtain ⟨p0, p1, o0, o1, s0, s1⟩ := part_is (by have := hs.g0; omega) hs.g1 h
 have := hs.v0
 have := hs.v1
 have := hs.g1
 refine ⟨h1.1, ?_, ?_, ?_⟩ <;> simp only [cut] <;> omega
theorem step_fair {s : St} {k : Int} (hk : k ≤ 256) (h : Fair s k) : Fair (step s) (k * 256) := by
 obtain ⟨g0, g1, v0, v1⟩ := h
 unfold step
 split
 ·refine ⟨?_, ?_, ?_, ?_⟩ <;> simp only [stp]
  ·omega
  ·omega
  ·omega
  ·rw [Int.pow_succ]; omega
 ·refine ⟨?_, ?_, ?_, ?_⟩ <;> omega
theorem step_fair2 {s : St} {k : Int} (hk : 4096 ≤ k) (h : Fair s k) : Fair (step s) 65537 := by
 obtain ⟨g0, g1, v0, v1⟩ := h
 unfold step
 split
 ·refine ⟨?_, ?_, ?_, ?_⟩ <;> simp only [stp]
  ·omega
  ·omega
  ·omega
  ·rw [Int.pow_succ]; omega
 ·refine ⟨?_, ?_, ?_, ?_⟩ <;> omega
theorem put_fair {s : St} (hs : Fair s 65537) (a b n : Int) : Fair (put s a b n) 65537 := by
 unfold put
 split
 ·rename_i h
  exact step_fair2 (by decide) (step_fair (by decide) (cut_fair hs h))
 ·exact hs
def new : St := ⟨0, 0, 16777216⟩
theorem new_fair : Fair new 65537 := by constructor <;> decide
theorem step_m (s : St) : s.m ≤ (step s).m ∧ (step s).m ≤ s.m + 1 := by unfold step; split <;> simp [stp]
theorem put_m (s : St) (a b n : Int) : s.m ≤ (put s a b n).m ∧ (put s a b n).m ≤ s.m + 2 := by
 unfold put
 split
 ·have h1 := step_m (cut s a b n)
  have h2 := step_m (step (cut s a b n))
  simp only [cut] at h1 h2 ⊢
  omega
 ·omega
def X (F : St) (s : St) : Int := F.V / 256 ^ (F.m - s.m)
structure In (F s : St) : Prop where
 m : s.m ≤ F.m
 lo : s.V * 256 ^ (F.m - s.m) ≤ F.V
 hi : F.V + F.g ≤ (s.V + s.g) * 256 ^ (F.m - s.m)
theorem In.refl (s : St) : In s s := ⟨Nat.le_refl _, by simp, by simp⟩
theorem pow_pos (k : Nat) : (0 : Int) < 256 ^ k := Int.pow_pos (by decide)
def crow (U : Int) (m j : Nat) : List Int := dig U (m - j) ++ List.replicate j 0
end Go.Proofs.YtjpnbdofbkoddaaDoor.Wr
namespace Go.Proofs.YtjpnbdofbkoddaaDoor.Back
open Go.Proofs.YtjpnbdofbkoddaaDoor.Rd (ok rg part_is Part by_)
open Go.Proofs.YtjpnbdofbkoddaaDoor.Wr (X In)
end Go.Proofs.YtjpnbdofbkoddaaDoor.Back
namespace Go.Proofs.YtjpnbdofbkoddaaDoor.Pack
open Go.Proofs.YtjpnbdofbkoddaaDoor.Rd (by_)
open Go.Proofs.YtjpnbdofbkoddaaDoor.Wr (dig)
def lo (x : Int) (i : Nat) : Bool := x / 2 ^ i % 2 == 1
def bitsOf (x : Int) (n : Nat) : List Bool := (List.range n).map (lo x)
theorem bitsOf_len (x : Int) (n : Nat) : (bitsOf x n).length = n := by simp [bitsOf]
theorem bitsOf_more (x : Int) (n : Nat) : bitsOf x (n + 1) = bitsOf x n ++ [lo x n] := by simp [bitsOf, List.range_succ]
end Go.Proofs.YtjpnbdofbkoddaaDoor.Pack
namespace Go.Proofs.YtjpnbdofbkoddaaDoor.Rf
open Go.Proofs.YtjpnbdofbkoddaaDoor.Wr (dig dig_len)
theorem dig_split : ∀ (j k : Nat) (V : Int), dig V (k + j) = dig (V / 256 ^ j) k ++ dig V j
 | 0, k, V => by simp [dig]
 | j + 1, k, V => by
  rw [← Nat.add_assoc, dig, dig_split j k (V / 256), dig, List.append_assoc, Int.ediv_ediv_of_nonneg (by decide), ← Int.pow_succ']
theorem dig_front (j : Nat) (X : Int) : dig X (j + 1) = (X / 256 ^ j % 256) :: dig X j := by
 rw [Nat.add_comm, dig_split j 1 X]
 rfl
def arow (V n : Int) (M j : Nat) : List Int := dig (V / 256 ^ j) (M - j) ++ dig (V + n) j
def car (V n : Int) (j : Nat) : Int := (V + n) / 256 ^ j - V / 256 ^ j
theorem arow_len {V n : Int} {M j : Nat} (h : j ≤ M) : (arow V n M j).length = M := by
 rw [arow, List.length_append, dig_len, dig_len]; omega
theorem arow_0 (V n : Int) (M : Nat) : arow V n M 0 = dig V M := by simp [arow, dig]
theorem arow_M (V n : Int) (M : Nat) : arow V n M M = dig (V + n) M := by simp [arow, dig]
theorem arow_split {V n : Int} {M j k : Nat} (h : k + j + 1 = M) : arow V n M j = dig (V / 256 ^ j / 256) k ++ (V / 256 ^ j % 256 :: dig (V + n) j) := by
 rw [arow, show M - j = k + 1 by omega, dig, List.append_assoc]
 rfl
theorem arow_at {V n : Int} {M j k : Nat} (h : k + j + 1 = M) : (arow V n M j).getD k 0 = V / 256 ^ j % 256 := by
 rw [arow_split h, List.getD_eq_getElem?_getD, List.getElem?_append_right (by rw [dig_len]; exact Nat.le_refl _), dig_len, Nat.sub_self]
 rfl
theorem arow_next {V n : Int} {M j k : Nat} (h : k + j + 1 = M) : (arow V n M j).set k ((V + n) / 256 ^ j % 256) = arow V n M (j + 1) := by
 rw [arow_split h, List.set_append_right _ _ (by rw [dig_len]; exact Nat.le_refl _), dig_len, Nat.sub_self, arow, dig_front, show M - (j + 1) = k by omega, Int.pow_succ, ← Int.ediv_ediv_of_nonneg (by have := Int.pow_pos (n := 256) (m := j) (by decide); omega)]
 rfl
theorem car_0 (V n : Int) : car V n 0 = n := by simp [car]; omega
theorem car_step (V n : Int) (j : Nat) : (car V n j + V / 256 ^ j % 256) % 256 = (V + n) / 256 ^ j % 256 ∧ (car V n j + V / 256 ^ j % 256) / 256 = car V n (j + 1) := by
 unfold car
 rw [Int.pow_succ, ← Int.ediv_ediv_of_nonneg (by have := Int.pow_pos (n := 256) (m := j) (by decide); omega), ← Int.ediv_ediv_of_nonneg (by have := Int.pow_pos (n := 256) (m := j) (by decide); omega)]
 obtain ⟨a, ha⟩ : ∃ a, (V + n) / 256 ^ j = a := ⟨_, rfl⟩
 obtain ⟨b, hb⟩ : ∃ b, V / 256 ^ j = b := ⟨_, rfl⟩
 rw [ha, hb]
 omega
theorem car_in {V n : Int} (h0 : 0 ≤ n) (h1 : n ≤ 16777216) : ∀ j, 0 ≤ car V n j ∧ car V n j ≤ 16777216
 | 0 => by rw [car_0]; omega
 | j + 1 => by
  have h := car_in (V := V) h0 h1 j
  have := (car_step V n j).2
  omega
def b2i (b : Bool) : Int := if b then 1 else 0
end Go.Proofs.YtjpnbdofbkoddaaDoor.Rf
namespace Go.Proofs.YtjpnbdofbkoddaaDoor.WrWalk
open Go.RowKit Go.Proofs.YtjpnbdofbkoddaaDoorW.PrintWords Go.Proofs.YtjpnbdofbkoddaaDoorW.PrintLast Go.Proofs.YtjpnbdofbkoddaaDoorW.PrintMore
open Go.Proofs.YtjpnbdofbkoddaaDoor.Wr (St dig crow)
open Go.Proofs.YtjpnbdofbkoddaaDoor.Pack (bitsOf bitsOf_len)
theorem wrap_u32 (n : Int) : IntKind.u32.wrap n = n % 4294967296 := by simp [IntKind.wrap, IntKind.bits, IntKind.signed]
theorem w64n {x : Int} (h0 : -9223372036854775808 ≤ x) (h1 : x < 9223372036854775808) : wrap64 x = x := by rw [← i64_w]; exact IntWalk.i64_in _ ⟨h0, by omega⟩
structure Foot (ok : Nat → Prop) (w w' : World) : Prop where
 b : Below 0 w w'
 k : ∀ k, k < w.heap.size → ¬ ok k → w'.heap[k]? = w.heap[k]?
section
variable {ok : Nat → Prop} {w w1 w2 : World}
theorem Foot.refl (ok : Nat → Prop) (w : World) : Foot ok w w := ⟨Below.refl _ _, fun _ _ _ => rfl⟩
theorem Foot.trans (h : Foot ok w w1) (h2 : Foot ok w1 w2) : Foot ok w w2 := ⟨h.b.trans h2.b, fun k hk ho => (h2.k k (Nat.lt_of_lt_of_le hk h.b.size) ho).trans (h.k k hk ho)⟩
theorem Foot.of_below (h : Below w.heap.size w w1) : Foot ok w w1 := ⟨h.mono (Nat.zero_le _), fun k hk _ => h.block k hk⟩
theorem Foot.step (h : Foot ok w w1) (hb : Below w1.heap.size w1 w2) : Foot ok w w2 := h.trans (Foot.of_below hb)
theorem Foot.set_ (h : Foot ok w w1) {p : Addr} (hp : ok p.block) (u : Value) : Foot ok w (w1.setCell p u) :=
 h.trans ⟨Below.setCell (Below.refl 0 w1) (p := p) (Nat.zero_le _) u, fun k hk ho => Below.heap_setCell _ _ _ k (fun e => ho (e ▸ hp))⟩
theorem Foot.grown (h : Foot ok w w1) (hb : Below 0 w1 w2) {row : Option Nat} (hg : w1.grownBy w2 row) (hr : ∀ k, row = some k → ok k) : Foot ok w w2 :=
 h.trans ⟨hb, fun k hk ho => hg.block k hk (fun e => ho (hr k e.symm))⟩
theorem Foot.below {B : Nat} (h : Foot ok w w1) (hB : ∀ k, ok k → B ≤ k) (hs : B ≤ w.heap.size) : Below B w w1 :=
 ⟨h.b.os, h.b.tape, h.b.output, h.b.size, fun k hk => h.k k (Nat.lt_of_lt_of_le hk hs) (fun ho => by have := hB k ho; omega)⟩
theorem Foot.drew (h : Foot ok w w1) : Foot ok w w1.drew := h.step (below_drew1 (Below.refl _ _))
theorem Foot.alloc (h : Foot ok w w1) (o : Obj) : Foot ok w (w1.alloc o) := h.step (below_alloc (Below.refl _ _) _)
theorem Foot.mono {ok' : Nat → Prop} (h : Foot ok w w1) (ho : ∀ k, k < w.heap.size → ok k → ok' k) : Foot ok' w w1 := ⟨h.b, fun k hk hn => h.k k hk (fun h2 => hn (ho k hk h2))⟩
end
section
variable {ok : Nat → Prop} {w w1 : World} {g : Nat} {sz rg lo : Int} {bs : List Int} {R : List Bool}
end
theorem step_ge {s : St} (h : 16 ≤ s.g) : 65536 < (Wr.step (Wr.step s)).g := by
 have h1 : ∀ s : St, (Wr.step s).g = if s.g ≤ 65536 then s.g * 256 else s.g := fun s => by unfold Wr.step; split <;> rfl
 rw [h1, h1]
 by_cases a : s.g ≤ 65536
 ·rw [if_pos a]
  split <;> omega
 ·rw [if_neg a, if_neg a]
  omega
theorem step_id {s : St} (h : 65536 < s.g) : Wr.step s = s := by unfold Wr.step; rw [if_neg (by omega)]
theorem step_stp {s : St} (h0 : 16 ≤ s.g) (h : s.g ≤ 65536) : Wr.step (Wr.step (Wr.stp s)) = Wr.step (Wr.step s) := by
 have e : Wr.step s = Wr.stp s := by unfold Wr.step; rw [if_pos h]
 rw [← e]
 exact step_id (step_ge h0)
def rgOf (w : World) (g : Nat) : Int := intOf ((w.cell? ⟨g, 1, none⟩).getD undef)
abbrev Rw (x n : Int) : Prop := 0 ≤ n ∧ n ≤ 16 ∧ x < 2 ^ n.toNat
def rawN (x n : Int) : List Bool := if Rw x n then bitsOf x n.toNat else []
end Go.Proofs.YtjpnbdofbkoddaaDoor.WrWalk
namespace Go.Proofs.YtjpnbdofbkoddaaDoor.WrLaw
open Go.RowKit Go.Proofs.YtjpnbdofbkoddaaDoorW.PrintWords Go.Proofs.YtjpnbdofbkoddaaDoorW.PrintLast Go.Proofs.YtjpnbdofbkoddaaDoorW.PrintMore
open Go.Proofs.YtjpnbdofbkoddaaDoor.Wr (St)
open Go.Proofs.YtjpnbdofbkoddaaDoor.WrWalk
open Go.Proofs.YtjpnbdofbkoddaaDoor.Pack (bitsOf bitsOf_len)
structure Ow (P : (Nat → Prop) → World → Prop) : Prop where
 mono : ∀ {ok ok' : Nat → Prop} {w : World}, P ok w → (∀ k, ok k → k < w.heap.size → ok' k) → P ok' w
 foot : ∀ {ok ok' : Nat → Prop} {w w' : World}, P ok w → Foot ok' w w' → (∀ k, ok k → k < w.heap.size → ¬ ok' k) → P ok w'
structure Sep (w0 : World) (P Q : (Nat → Prop) → World → Prop) (Z : Option (Nat × Obj)) (w : World) : Prop where
 hb : Below w0.heap.size w0 w
 ex : ∃ o1 o2, P o1 w ∧ Q o2 w ∧ (∀ k, o1 k → ¬ o2 k) ∧ (∀ k, o1 k → w0.heap.size ≤ k ∧ k < w.heap.size ∧ ∀ z, Z = some z → k ≠ z.1) ∧ (∀ k, o2 k → w0.heap.size ≤ k ∧ k < w.heap.size ∧ ∀ z, Z = some z → k ≠ z.1)
 hz : ∀ z, Z = some z → w0.heap.size ≤ z.1 ∧ w.heap[z.1]? = some z.2
section
variable {w0 w w' : World} {P Q P' Q' : (Nat → Prop) → World → Prop} {Z : Option (Nat × Obj)} {f : Nat} {args : Array Value} {E : Ending → Prop}
theorem Sep.below (oP : Ow P) (oQ : Ow Q) (S : Sep w0 P Q Z w) (h : Below w.heap.size w w') : Sep w0 P Q Z w' := by
 obtain ⟨hb, ⟨o1, o2, h1, h2, hd, k1, k2⟩, hz⟩ := S
 have hf : Foot (fun _ => False) w w' := Foot.of_below h
 refine ⟨hb.trans (h.mono hb.size), ⟨o1, o2, oP.foot h1 hf (fun _ _ _ h => h), oQ.foot h2 hf (fun _ _ _ h => h), hd, fun k hk => ?_, fun k hk => ?_⟩, fun z e => ⟨(hz z e).1, (h.block z.1 (blk_lt (hz z e).2)).trans (hz z e).2⟩⟩
 ·have := k1 k hk; exact ⟨this.1, Nat.lt_of_lt_of_le this.2.1 h.size, this.2.2⟩
 ·have := k2 k hk; exact ⟨this.1, Nat.lt_of_lt_of_le this.2.1 h.size, this.2.2⟩
theorem Sep.one (hb : Below w0.heap.size w0 w) {o : Nat → Prop} (oP : Ow P) (h : P o w) (ho : ∀ k, o k → w0.heap.size ≤ k) : Sep w0 P (fun _ _ => True) none w :=
 ⟨hb, ⟨fun k => o k ∧ k < w.heap.size, fun _ => False, oP.mono h (fun k hk hl => ⟨hk, hl⟩), trivial, fun _ _ h => h, fun k hk => ⟨ho k hk.1, hk.2, fun z e => nomatch e⟩, fun k hk => hk.elim⟩, fun z e => nomatch e⟩
end
section
variable {w0 w w' : World} {P Q : (Nat → Prop) → World → Prop} {Z : Option (Nat × Obj)}
theorem Sep.store (oP : Ow P) (oQ : Ow Q) {g j : Nat} {o o' : Obj} {v : Value} (S : Sep w0 P Q (some (g, o)) w) (ho : (w.setCell ⟨g, j, none⟩ v).heap[g]? = some o') : Sep w0 P Q (some (g, o')) (w.setCell ⟨g, j, none⟩ v) := by
 obtain ⟨hb, ⟨o1, o2, h1, h2, hd, k1, k2⟩, hz⟩ := S
 have hg := hz _ rfl
 have hf : Foot (fun k => k = g) w (w.setCell ⟨g, j, none⟩ v) := Foot.set_ (ok := fun k => k = g) (Foot.refl _ w) (p := ⟨g, j, none⟩) rfl v
 have hs := hf.b.size
 refine ⟨hb.setCell (p := ⟨g, j, none⟩) hg.1 v, ⟨o1, o2, oP.foot h1 hf (fun k hk _ e => (k1 k hk).2.2 _ rfl e), oQ.foot h2 hf (fun k hk _ e => (k2 k hk).2.2 _ rfl e), hd, fun k hk => ?_, fun k hk => ?_⟩, fun z e => ?_⟩
 ·exact ⟨(k1 k hk).1, Nat.lt_of_lt_of_le (k1 k hk).2.1 hs, fun z e => by injection e with e; subst e; exact (k1 k hk).2.2 (g, o) rfl⟩
 ·exact ⟨(k2 k hk).1, Nat.lt_of_lt_of_le (k2 k hk).2.1 hs, fun z e => by injection e with e; subst e; exact (k2 k hk).2.2 (g, o) rfl⟩
 ·injection e with e; subst e
  exact ⟨hg.1, ho⟩
end
theorem wf_u16 {n : Int} (h : (Lit.int .u16 n).wf = true) : 0 ≤ n ∧ n < 65536 := by
 have h2 : 0 ≤ n ∧ n ≤ 65535 := by simpa [Lit.wf, IntKind.min, IntKind.max, IntKind.signed, IntKind.bits] using h
 omega
theorem rawN_len (x n : Int) : (rawN x n).length ≤ 16 := by
 unfold rawN
 split
 ·rename_i h; rw [bitsOf_len]; omega
 ·simp
section
variable {w : World} {gp Z : Nat} {P1 : List Int} {ok : Nat → Prop}
end
end Go.Proofs.YtjpnbdofbkoddaaDoor.WrLaw
namespace Go.Proofs.YtjpnbdofbkoddaaDoor.RfWalk
open Go.RowKit Go.Proofs.YtjpnbdofbkoddaaDoorW.PrintWords Go.Proofs.YtjpnbdofbkoddaaDoorW.PrintLast Go.Proofs.YtjpnbdofbkoddaaDoorW.PrintMore
open Go.Proofs.YtjpnbdofbkoddaaDoor.Wr (St dig dig_len)
open Go.Proofs.YtjpnbdofbkoddaaDoor.WrWalk
open Go.Proofs.YtjpnbdofbkoddaaDoor.WrLaw
open Go.Proofs.YtjpnbdofbkoddaaDoor.Rf (arow car arow_len arow_0 arow_M arow_at arow_next car_0 car_step car_in b2i)
attribute [local go_sem] max2_int min2_int max_two min_two max_three min_three max_four min_four
def RfB (ok : Nat → Prop) (w : World) (g : Nat) (sz rg : Int) (D Rl : List Int) : Prop :=
 ∃ vb vr, w.heap[g]? = some (.cells #[.int .i64 sz, .int .i64 rg, vb, vr] 129 (0, 0)) ∧ ok g ∧ Kd.R (Kd.int .i64) 3 w 0 (fun k => (ok k ∧ k ≠ g) ∧ some k ≠ vr.ownBlock) vb D ∧ Kd.R (Kd.int .i64) 3 w 0 (fun k => (ok k ∧ k ≠ g) ∧ some k ≠ vb.ownBlock) vr Rl
section
variable {ok ok' : Nat → Prop} {w w1 : World} {g : Nat} {sz rg : Int} {D Rl : List Int}
theorem RfB.foot (H : RfB ok w g sz rg D Rl) (h : Foot ok' w w1) (hd : ∀ k, ok k → k < w.heap.size → ¬ ok' k) : RfB ok w1 g sz rg D Rl := by
 obtain ⟨vb, vr, hg, ho, h1, h2⟩ := H
 exact ⟨vb, vr, (h.k g (blk_lt hg) (hd g ho (blk_lt hg))).trans hg, ho, Kd.R_step h1 (fun k hk hlt => h.k k hlt (hd k hk.1.1 hlt)), Kd.R_step h2 (fun k hk hlt => h.k k hlt (hd k hk.1.1 hlt))⟩
theorem RfB.mono (H : RfB ok w g sz rg D Rl) (h : ∀ k, ok k → k < w.heap.size → ok' k) : RfB ok' w g sz rg D Rl := by
 obtain ⟨vb, vr, hg, ho, h1, h2⟩ := H
 exact ⟨vb, vr, hg, h g ho (blk_lt hg), Kd.R_mono (Kd.R_bound h1) (fun k hk => ⟨⟨h k hk.1.1.1 hk.2.2.1, hk.1.1.2⟩, hk.1.2⟩), Kd.R_mono (Kd.R_bound h2) (fun k hk => ⟨⟨h k hk.1.1.1 hk.2.2.1, hk.1.1.2⟩, hk.1.2⟩)⟩
theorem RfB.below (H : RfB ok w g sz rg D Rl) (hb : Below w.heap.size w w1) : RfB ok w1 g sz rg D Rl := by
 obtain ⟨vb, vr, hg, ho, h1, h2⟩ := H
 exact ⟨vb, vr, (hb.block g (blk_lt hg)).trans hg, ho, Kd.R_below h1 hb, Kd.R_below h2 hb⟩
theorem RfB.set1 (H : RfB ok w g sz rg D Rl) (x : Int) : RfB ok (w.setCell ⟨g, 1, none⟩ (.int .i64 x)) g sz x D Rl := by
 obtain ⟨vb, vr, hg, ho, h1, h2⟩ := H
 exact ⟨vb, vr, by simpa using blk_set hg 1 (.int .i64 x), ho, Kd.R_far h1 (fun k hk => hk.1.2) _, Kd.R_far h2 (fun k hk => hk.1.2) _⟩
theorem RfB.frozen (H : RfB ok w g sz rg D Rl) (j : Nat) : w.frozen? ⟨g, j, none⟩ = false := by
 obtain ⟨_, _, hg, _⟩ := H
 exact blk_frozen hg j
theorem RfB.cells (H : RfB ok w g sz rg D Rl) : w.cell? ⟨g, 0, none⟩ = some (.int .i64 sz) ∧ w.cell? ⟨g, 1, none⟩ = some (.int .i64 rg) ∧ (∃ A3 c3, w.cell? ⟨g, 2, none⟩ = some (.slice A3 D.length c3)) ∧ (∃ A4 c4, w.cell? ⟨g, 3, none⟩ = some (.slice A4 Rl.length c4)) := by
 obtain ⟨vb, vr, hg, ho, h1, h2⟩ := H
 obtain ⟨A3, c3, rfl⟩ := Kd.R_slice h1
 obtain ⟨A4, c4, rfl⟩ := Kd.R_slice h2
 exact ⟨(blk_cell hg 0).trans rfl, (blk_cell hg 1).trans rfl, ⟨A3, c3, (blk_cell hg 2).trans rfl⟩, ⟨A4, c4, (blk_cell hg 3).trans rfl⟩⟩
end
theorem R_openI {w : World} {e base : Nat} {ok : Nat → Prop} {v : Value} {xs : List Int} (h : Kd.R (Kd.int .i64) e w base ok v xs) (hn : 0 < xs.length) : ∃ gb c, v = .slice (some ⟨gb, 0, none⟩) xs.length c := by
 obtain ⟨inner, hi, ho⟩ := Kd.R_own h
 rcases ho with ⟨_, h0⟩ | ⟨gb, cap, cur, rfl, _⟩
 ·omega
 ·exact ⟨gb, cap, rfl⟩
theorem emod256 (x : Int) : 0 ≤ x % 256 ∧ x % 256 ≤ 255 := by omega
set_option maxHeartbeats 2000000 in
set_option maxRecDepth 100000 in
theorem add_any (ok : Nat → Prop) (g M : Nat) (sz rg V n : Int) (Rl : List Int) (w : World) (H : RfB ok w g sz rg (dig V M) Rl) (hM : M ≤ 1000) (h0 : 0 ≤ n) (h1 : n ≤ 16777216) :
 Calls Tryd.prog 93 #[.pointer (some ⟨g, 0, none⟩), .int .i64 n] w fun e w' => e = .returned (.tuple #[]) ∧ RfB ok w' g sz rg (dig (V + n) M) Rl ∧ Foot ok w w' := by
 obtain ⟨vb, vr, hg, ho, hD, hR⟩ := H
 obtain ⟨A3, c3, rfl⟩ := Kd.R_slice hD
 rw [dig_len] at hg hD hR
 have HG := Aside0.mk hg
 have HO := Aside0.mk ho
 have HRR := Aside0.mk hR
 have HDD : Aside0 (Kd.R (Kd.int .i64) 3 w 0 (fun k => (ok k ∧ k ≠ g) ∧ some k ≠ vr.ownBlock) (.slice A3 M c3) (arow V n M 0)) := ⟨by rw [arow_0]; exact hD⟩
 have HF := Aside0.mk (Foot.refl ok w)
 have hc2 : w.cell? ⟨g, 2, none⟩ = some (.slice A3 M c3) := (blk_cell hg 2).trans rfl
 have H01 := Aside0.mk (And.intro h0 h1)
 have hc0 : n = car V n 0 := (car_0 V n).symm
 have HC0 := Aside0.mk hc0
 have hM' : (M : Int) ≤ 1000 := by omega
 clear hg ho hR hD h0 h1 hc0
 go_enter Tryd.func93, Tryd.ntmps93
 go_wp2
 go_loopw [1, 4] (fun nv iv wr => ∃ (j kk : Nat), kk + j = M ∧ nv = .int .i64 (car V n j) ∧ iv = .int .i64 ((kk : Int) - 1) ∧ wr.cell? ⟨g, 2, none⟩ = some (.slice A3 M c3) ∧ Aside0 (wr.heap[g]? = some (.cells #[.int .i64 sz, .int .i64 rg, .slice A3 M c3, vr] 129 (0, 0))) ∧ Aside0 (Kd.R (Kd.int .i64) 3 wr 0 (fun k => (ok k ∧ k ≠ g) ∧ some k ≠ vr.ownBlock) (.slice A3 M c3) (arow V n M j)) ∧ Aside0 (Kd.R (Kd.int .i64) 3 wr 0 (fun k => (ok k ∧ k ≠ g) ∧ some k ≠ (Value.slice A3 M c3).ownBlock) vr Rl) ∧ Aside0 (Foot ok w wr)) (fun _ iv _ => (intOf iv + 1).toNat)
 case atStart => exact ⟨0, M, by omega, congrArg (Value.int .i64) HC0.out, rfl, hc2, HG, HDD, HRR, HF⟩
 case round =>
  obtain ⟨j, kk, hjk, rfl, rfl, hc2', HG', HD', HR', HF'⟩ := hrel
  clear hc2 HG HDD HRR HF HC0
  obtain ⟨cj, hcj⟩ : ∃ x, car V n j = x := ⟨_, rfl⟩
  have hcb := car_in (V := V) H01.out.1 H01.out.2 j
  rw [hcj] at hcb
  rw [hcj]
  have HCJ := Aside0.mk hcj
  clear hcj
  obtain ⟨hcb0, hcb1⟩ := hcb
  rcases kk with _ | k
  ·obtain rfl : j = M := by omega
   go_wp2
   first | go_end0 | ((try simp only [Exit.inBlock, Exit.then]); refine bodyPost_ret (results_none rfl _ _ _) rfl ?_)
   exact ⟨rfl, ⟨_, vr, HG'.out, HO.out, by rw [← arow_M]; exact HD'.out, HR'.out⟩, HF'.out⟩
  ·have hlen : (arow V n M j).length = M := arow_len (by omega)
   obtain ⟨gb, c', he⟩ := R_openI HD'.out (by rw [hlen]; omega)
   injection he with he1 he2 he3
   clear he2 he3
   subst he1
   have hok := HD'.out.1 gb rfl
   have hrc := Kd.R_cell (xs := arow V n M j) (0 : Int) (by rw [hlen]; exact HD'.out) (k : Int) (by omega) (by rw [hlen]; omega)
   have hat := arow_at (V := V) (n := n) (M := M) (j := j) (k := k) (by omega)
   obtain ⟨y, hy⟩ : ∃ y, V / 256 ^ j % 256 = y := ⟨_, rfl⟩
   rw [hy] at hat
   rw [show rdOf (0 : Int) (arow V n M j) (k : Int) = y by unfold rdOf; rw [Int.toNat_natCast]; exact hat, Int.toNat_natCast] at hrc
   obtain ⟨hck, hfk⟩ := hrc
   have hst := car_step V n j
   rw [HCJ.out, hy] at hst
   have hnx := arow_next (V := V) (n := n) (M := M) (j := j) (k := k) (by omega)
   rw [← hst.1] at hnx
   have hput := (Kd.R_put (xs := arow V n M j) (by rw [hlen]; exact HD'.out) (k : Int) ((cj + y) % 256)).1
   rw [hlen, Int.toNat_natCast, hnx] at hput
   have HPUT := Aside0.mk hput
   have HNX := Aside0.mk hst.2
   have hyb : 0 ≤ y ∧ y ≤ 255 := by rw [← hy]; exact emod256 _
   obtain ⟨hy0, hy1⟩ := hyb
   have hkM : (k : Int) < (M : Int) := by omega
   have HGS : Aside0 (∀ v, (wr.setCell ⟨gb, k, none⟩ v).heap[g]? = some (.cells #[.int .i64 sz, .int .i64 rg, .slice (some ⟨gb, 0, none⟩) M c3, vr] 129 (0, 0))) := ⟨fun v => blk_far HG'.out (p := ⟨gb, k, none⟩) (Ne.symm hok.1.2) v⟩
   have HRS : Aside0 (∀ v, Kd.R (Kd.int .i64) 3 (wr.setCell ⟨gb, k, none⟩ v) 0 (fun k => (ok k ∧ k ≠ g) ∧ some k ≠ (Value.slice (some ⟨gb, 0, none⟩) M c3).ownBlock) vr Rl) := ⟨fun v => Kd.R_far HR'.out (p := ⟨gb, k, none⟩) (fun k hk e => hk.2 (by rw [e]; rfl)) v⟩
   have HFS : Aside0 (∀ v, Foot ok w (wr.setCell ⟨gb, k, none⟩ v)) := ⟨fun v => Foot.set_ HF'.out (p := ⟨gb, k, none⟩) hok.1.1 v⟩
   have hne : gb ≠ g := hok.1.2
   have hc2s : ∀ v, (wr.setCell ⟨gb, k, none⟩ v).cell? ⟨g, 2, none⟩ = some (.slice (some ⟨gb, 0, none⟩) M c3) := fun v => (blk_cell (HGS.out v) 2).trans rfl
   have HC2S := Aside0.mk hc2s
   have hneA := Aside0.mk hne
   clear hlen hok hat hy hst hnx hput hne hc2s HCJ HD' HR' HG' HF'
   go_wp2
   exact ⟨⟨j + 1, k, by omega, congrArg (Value.int .i64) HNX.out, rfl, HC2S.out _, ⟨HGS.out _⟩, HPUT, ⟨HRS.out _⟩, ⟨HFS.out _⟩⟩, by simp [intOf]⟩
set_option maxHeartbeats 1000000 in
theorem rleft_any (ok : Nat → Prop) (g : Nat) (sz rg : Int) (D Rl : List Int) (w : World) (H : RfB ok w g sz rg D Rl) (h0 : 0 ≤ sz ∧ sz ≤ 10000) (h1 : D.length ≤ 10000) (h2 : Rl.length ≤ 100000) :
 Calls Tryd.prog 55 #[.pointer (some ⟨g, 0, none⟩)] w fun e w' => e = .returned (.int .i64 (8 * sz - 8 * D.length - Rl.length)) ∧ Below w.heap.size w w' := by
 have HB := Aside0.mk (Below.refl w.heap.size w)
 obtain ⟨hc0, _, ⟨A3, c3, hc3⟩, ⟨A4, c4, hc4⟩⟩ := H.cells
 clear H
 obtain ⟨h0a, h0b⟩ := h0
 go_enter Tryd.func55, Tryd.ntmps55
 go_wp2
 repeat (go_quiet (fail); try go_wp2)
 go_ret
 exact ⟨rfl, by repeat (first | exact HB.out | apply below_drew1 | apply pw_below_drewN)⟩
theorem alloc_size (w : World) (o : Obj) : (w.alloc o).heap.size = w.heap.size + 1 := Array.size_push _
def RfAt (ok : Nat → Prop) (w : World) (g : Nat) (sz : Int) (s : St) (R : List Bool) : Prop := RfB ok w g sz s.g (dig s.V (s.m + 3)) (R.map b2i)
set_option maxHeartbeats 1000000 in
theorem rnew_any (sz : Int) (w : World) :
 Calls Tryd.prog 50 #[.int .i64 sz] w fun e w' => ∃ g, e = .returned (.pointer (some ⟨g, 0, none⟩)) ∧ RfAt (fun k => w.heap.size ≤ k) w' g sz Wr.new [] ∧ Below w.heap.size w w' := by
 have HB := Aside0.mk (Below.refl w.heap.size w)
 go_enter Tryd.func50, Tryd.ntmps50
 go_wp2
 repeat (go_quiet (fail); try go_wp2)
 go_ret
 refine ⟨w.heap.size + 1, rfl, ⟨.slice (some ⟨w.heap.size, 0, none⟩) 3 3, .slice none 0 0, ?_, Nat.le_succ _, ?_, Kd.R_nil _ _ _ _ _⟩, below_alloc (below_alloc HB.out _) _⟩
 ·have h := blk_new (w.alloc (Obj.cells #[Value.int IntKind.i64 0, Value.int IntKind.i64 0, Value.int IntKind.i64 0] 3)) (Obj.cells #[Value.int IntKind.i64 sz, Value.int IntKind.i64 16777216, Value.slice (some ⟨w.heap.size, 0, none⟩) 3 3, Value.slice none 0 0] 129)
  rw [alloc_size] at h
  exact h
 ·have h : Kd.R (Kd.int .i64) 3 (w.alloc (Obj.cells #[Value.int IntKind.i64 0, Value.int IntKind.i64 0, Value.int IntKind.i64 0] 3)) 0 (fun k => (w.heap.size ≤ k ∧ k ≠ w.heap.size + 1) ∧ some k ≠ (Value.slice none 0 0).ownBlock) (.slice (some ⟨w.heap.size, 0, none⟩) 3 3) (dig 0 3) := Kd.R_of_own (own_lit w 0 3 .i64 [0, 0, 0] (Nat.zero_le _) (by decide)) (fun k hk => by
   simp only [Value.ownBlock, Option.some.injEq] at hk
   subst hk
   exact ⟨⟨Nat.le_refl _, by omega⟩, by simp [Value.ownBlock]⟩)
  exact Kd.R_below h (below_alloc (Below.refl _ _) _)
section
variable {ok : Nat → Prop} {w w1 : World} {g : Nat} {sz rg : Int} {D Rl : List Int} {vb vr v1 : Value} {d : Int}
theorem pushD (hg : w.heap[g]? = some (.cells #[.int .i64 sz, .int .i64 rg, vb, vr] 129 (0, 0))) (ho : ok g) (h1 : Kd.R (Kd.int .i64) 3 w 0 (fun k => (ok k ∧ k ≠ g) ∧ some k ≠ vr.ownBlock) vb D) (h2 : Kd.R (Kd.int .i64) 3 w 0 (fun k => (ok k ∧ k ≠ g) ∧ some k ≠ vb.ownBlock) vr Rl) (hR : Kd.R (Kd.int .i64) 3 w1 0 (fun k => (ok k ∧ k ≠ g) ∧ some k ≠ vr.ownBlock) v1 (D ++ [d])) (hgr : w.grownBy w1 vb.ownBlock) (hat : v1.ownBlock = vb.ownBlock ∨ ∃ b, v1.ownBlock = some b ∧ w.heap.size ≤ b) :
 RfB ok (w1.setCell ⟨g, 2, none⟩ v1) g sz rg (D ++ [d]) Rl ∧ w1.heap[g]? = some (.cells #[.int .i64 sz, .int .i64 rg, vb, vr] 129 (0, 0)) := by
 have hg1 : w1.heap[g]? = some (.cells #[.int .i64 sz, .int .i64 rg, vb, vr] 129 (0, 0)) := blk_grown hg hgr (fun e => (h1.1 g e.symm).1.2 rfl)
 refine ⟨⟨v1, vr, by simpa using blk_set hg1 2 v1, ho, Kd.R_far hR (fun k hk => hk.1.2) _, Kd.R_far (Kd.R_mono (Kd.R_grown (Kd.R_bound h2) hgr (fun k hk => hk.1.2)) (fun k hk => ⟨hk.1.1, fun e => ?_⟩)) (fun k hk => hk.1.2) _⟩, hg1⟩
 rcases hat with h | ⟨b, hb, hlt⟩
 ·exact hk.1.2 (e.trans h)
 ·rw [hb] at e; injection e with e; have := hk.2.2.1; omega
theorem pushRl (hg : w.heap[g]? = some (.cells #[.int .i64 sz, .int .i64 rg, vb, vr] 129 (0, 0))) (ho : ok g) (h1 : Kd.R (Kd.int .i64) 3 w 0 (fun k => (ok k ∧ k ≠ g) ∧ some k ≠ vr.ownBlock) vb D) (h2 : Kd.R (Kd.int .i64) 3 w 0 (fun k => (ok k ∧ k ≠ g) ∧ some k ≠ vb.ownBlock) vr Rl) (hR : Kd.R (Kd.int .i64) 3 w1 0 (fun k => (ok k ∧ k ≠ g) ∧ some k ≠ vb.ownBlock) v1 (Rl ++ [d])) (hgr : w.grownBy w1 vr.ownBlock) (hat : v1.ownBlock = vr.ownBlock ∨ ∃ b, v1.ownBlock = some b ∧ w.heap.size ≤ b) :
 RfB ok (w1.setCell ⟨g, 3, none⟩ v1) g sz rg D (Rl ++ [d]) ∧ w1.heap[g]? = some (.cells #[.int .i64 sz, .int .i64 rg, vb, vr] 129 (0, 0)) := by
 have hg1 : w1.heap[g]? = some (.cells #[.int .i64 sz, .int .i64 rg, vb, vr] 129 (0, 0)) := blk_grown hg hgr (fun e => (h2.1 g e.symm).1.2 rfl)
 refine ⟨⟨vb, v1, by simpa using blk_set hg1 3 v1, ho, Kd.R_far (Kd.R_mono (Kd.R_grown (Kd.R_bound h1) hgr (fun k hk => hk.1.2)) (fun k hk => ⟨hk.1.1, fun e => ?_⟩)) (fun k hk => hk.1.2) _, Kd.R_far hR (fun k hk => hk.1.2) _⟩, hg1⟩
 rcases hat with h | ⟨b, hb, hlt⟩
 ·exact hk.1.2 (e.trans h)
 ·rw [hb] at e; injection e with e; have := hk.2.2.1; omega
end
open Go.Proofs.YtjpnbdofbkoddaaDoor.Rf (b2i)
open Go.Proofs.YtjpnbdofbkoddaaDoor.Pack (bitsOf bitsOf_more bitsOf_len lo)
theorem infoI : (Tryd.prog.info? 3).map (fun i => (i.zero, i.size, i.bytes)) = some (some (.int .i64 0), 1, 8) := by kernel_rfl
theorem b2i_lo (x : Int) (j : Nat) : b2i (lo x j) = x / 2 ^ j % 2 := by
 unfold b2i lo
 by_cases h : x / 2 ^ j % 2 = 1
 ·rw [h]; rfl
 ·have h0 : x / 2 ^ j % 2 = 0 := by omega
  rw [h0]; rfl
theorem rf_ok {ok : Nat → Prop} {w : World} {g : Nat} {sz rg : Int} {D Rl : List Int} (H : RfB ok w g sz rg D Rl) : ok g := by
 obtain ⟨_, _, _, h, _⟩ := H
 exact h
theorem own_lt {w : World} {e base : Nat} {ok : Nat → Prop} {v : Value} {xs : List Int} (h : Kd.R (Kd.int .i64) e w base ok v xs) {k : Nat} (hk : v.ownBlock = some k) (hl : w.heap.size ≤ k) : False := by
 have := ((Kd.R_bound h).1 k hk).2.2.1
 omega
set_option maxHeartbeats 2000000 in
set_option maxRecDepth 100000 in
theorem rraw_any (ok : Nat → Prop) (g n : Nat) (sz rg x : Int) (D Rl : List Int) (w : World) (hx0 : 0 ≤ x) (hx1 : x < 4294967296) (hn : n ≤ 16) (hRl : Rl.length ≤ 50000) (hfr : ∀ k, w.heap.size ≤ k → ok k) (H : RfB ok w g sz rg D Rl) :
 Calls Tryd.prog 56 #[.pointer (some ⟨g, 0, none⟩), .int .i64 x, .int .i64 (n : Int)] w fun e w' => e = .returned (.tuple #[]) ∧ RfB ok w' g sz rg D (Rl ++ (bitsOf x n).map b2i) ∧ Foot ok w w' := by
 have HFR := Aside0.mk hfr
 have HF := Aside0.mk (Foot.refl ok w)
 have HI : Aside0 (RfB ok w g sz rg D (Rl ++ (bitsOf x 0).map b2i)) := ⟨by simpa [bitsOf] using H⟩
 have HRL := Aside0.mk hRl
 clear hfr hRl H
 go_enter Tryd.func56, Tryd.ntmps56
 go_wp2
 go_loopw [1, 6] (fun xv iv wr => ∃ j : Nat, j ≤ n ∧ xv = .int .i64 (x / 2 ^ j) ∧ iv = .int .i64 (j : Int) ∧ Aside0 (RfB ok wr g sz rg D (Rl ++ (bitsOf x j).map b2i)) ∧ Aside0 (Foot ok w wr)) (fun _ iv _ => n - (intOf iv).toNat)
 case atStart => exact ⟨0, Nat.zero_le _, by simp, rfl, HI, HF⟩
 case round =>
  obtain ⟨j, hj, rfl, rfl, HI', HF'⟩ := hrel
  clear HI HF
  obtain ⟨y, hy⟩ : ∃ y, x / 2 ^ j = y := ⟨_, rfl⟩
  have hyb : 0 ≤ y ∧ y < 4294967296 := by rw [← hy]; exact ⟨Int.ediv_nonneg hx0 (by have := Int.pow_pos (n := 2) (m := j) (by decide); omega), Int.lt_of_le_of_lt (Int.ediv_le_self _ hx0) hx1⟩
  have HNY : Aside0 (y / 2 = x / 2 ^ (j + 1)) := ⟨by rw [← hy, Int.pow_succ, Int.ediv_ediv_of_nonneg (by have := Int.pow_pos (n := 2) (m := j) (by decide); omega)]⟩
  have hbit : b2i (lo x j) = y % 2 := by rw [← hy]; exact b2i_lo x j
  rw [hy]
  obtain ⟨hy0, hy1⟩ := hyb
  by_cases hjn : j < n
  ·have hnew : Rl ++ (bitsOf x (j + 1)).map b2i = (Rl ++ (bitsOf x j).map b2i) ++ [y % 2] := by rw [bitsOf_more, List.map_append, List.append_assoc, List.map_singleton, hbit]
   have HNEW := Aside0.mk hnew
   obtain ⟨Rj, hRj⟩ : ∃ Rj, Rl ++ (bitsOf x j).map b2i = Rj := ⟨_, rfl⟩
   have hRl : Rj.length ≤ 60000 := by rw [← hRj, List.length_append, List.length_map, bitsOf_len]; have := HRL.out; omega
   have hA := HI'.out
   rw [hRj] at hA HNEW
   obtain ⟨vb, vr, hg, ho, h1, h2⟩ := hA
   obtain ⟨A4, c4, rfl⟩ := Kd.R_slice h2
   obtain ⟨mm, hmm⟩ : ∃ mm, Rj.length = mm := ⟨_, rfl⟩
   rw [hmm] at h1 h2 hg
   have HML : Aside0 (Rj.length = mm ∧ mm ≤ 60000) := ⟨hmm, by omega⟩
   have hc3 : wr.cell? ⟨g, 3, none⟩ = some (.slice A4 mm c4) := (blk_cell hg 3).trans rfl
   have hf3 := blk_frozen hg 3
   have HG := Aside0.mk hg
   have HO := Aside0.mk ho
   have HR1 := Aside0.mk h1
   have HR2 := Aside0.mk h2
   have HFR2 : Aside0 (∀ k, wr.heap.size ≤ k → (ok k ∧ k ≠ g) ∧ some k ≠ vb.ownBlock) := ⟨fun k hk => ⟨⟨HFR.out k (Nat.le_trans HF'.out.b.size hk), by have := blk_lt hg; omega⟩, fun e => own_lt h1 e.symm hk⟩⟩
   have HB0 := Aside0.mk (Below.refl 0 wr)
   have hcB : (wr.alloc (.cells #[.int .i64 (y % 2)] 3)).cell? ⟨g, 3, none⟩ = some (.slice A4 mm c4) := (blk_cell (blk_alloc hg _) 3).trans rfl
   have hjk' : (j : Int) < (n : Int) := by omega
   clear HI' hnew hRj hRl hmm hg ho h1 h2 hbit hy
   go_wp2_with (first | ((with_reducible refine gate_builtin (b := .append) (xs := #[.tmp 16, .tmp 19]) rfl ?_); at_builtin; refine Kd.R_append (Kd.int .i64) (w0 := wr) 0 rfl (.tmp 16) (.tmp 19) 113 3 (.int .i64 0) 8 rfl Tryd.underlying113 infoI rfl (by decide) (by decide) (.slice A4 mm c4) Rj (y % 2) [.int .i64 (y % 2)] (fun k => (ok k ∧ k ≠ g) ∧ some k ≠ vb.ownBlock) (fun _ => False) rfl rfl rfl (fun _ hk => hk.elim) HFR2.out HR2.out HB0.out (Nat.zero_le _) (by have := HML.out; omega) ?_; intro v1 w2 hR hb2 hgr hat; obtain ⟨A2, c2, rfl⟩ := Kd.R_slice hR; rw [show (Rj ++ [y % 2]).length = Rj.length + 1 from by simp] at hR hat; have HP := Aside0.mk (pushRl HG.out HO.out HR1.out HR2.out hR hgr hat); have HF2 := Aside0.mk (Foot.grown HF'.out hb2 hgr (fun k hk => (HR2.out.1 k hk).1.1)); have hc3 : w2.cell? ⟨g, 3, none⟩ = some (.slice A4 mm c4) := (blk_cell HP.out.2 3).trans rfl; have hf3 := blk_frozen HP.out.2 3; clear hR hb2 hgr hat))
   exact ⟨⟨j + 1, by omega, congrArg (Value.int .i64) HNY.out, congrArg (Value.int .i64) (by omega), ⟨by rw [HNEW.out]; exact HP.out.1⟩, ⟨Foot.set_ HF2.out (p := ⟨g, 3, none⟩) HO.out _⟩⟩, by simp [intOf]; omega⟩
  ·obtain rfl : j = n := by omega
   have hjk' : ¬ (j : Int) < (j : Int) := by omega
   clear hjn hbit hy
   go_wp2
   first | go_end0 | ((try simp only [Exit.inBlock, Exit.then]); refine bodyPost_ret (results_none rfl _ _ _) rfl ?_)
   exact ⟨rfl, HI'.out, HF'.out⟩
set_option maxHeartbeats 2000000 in
set_option maxRecDepth 100000 in
theorem rput_any (ok : Nat → Prop) (g : Nat) (sz a b n p o : Int) (s : St) (R : List Bool) (w : World) (hok : Rd.ok a b n) (hs : Wr.Fair s 65537) (hm : s.m ≤ 900) (hfr : ∀ k, w.heap.size ≤ k → ok k) (H : RfAt ok w g sz s R) (hp : s.g / n = p) (ho : a * p = o) :
 Calls Tryd.prog 79 #[.pointer (some ⟨g, 0, none⟩), .int .i64 a, .int .i64 b, .int .i64 n] w fun e w' => e = .returned (.tuple #[]) ∧ RfAt ok w' g sz (Wr.put s a b n) R ∧ Foot ok w w' := by
 have HFR := Aside0.mk hfr
 have hg0 := hs.g0
 have hg1 := hs.g1
 obtain ⟨P0, P1, O0, O1, S0, S1⟩ := Rd.part_is (by omega) hg1 hok
 rw [hp] at P0 P1 O0 O1 S0 S1
 rw [ho] at O0 O1 S1
 have hok0 := hok
 obtain ⟨k0, k1, k2, k3⟩ := hok
 obtain ⟨G, hG⟩ : ∃ G, s.g = G := ⟨_, rfl⟩
 have CA : Aside0 (Calls Tryd.prog 93 #[.pointer (some ⟨g, 0, none⟩), .int .i64 o] w fun e w' => e = .returned (.tuple #[]) ∧ RfB ok w' g sz G (dig (s.V + o) (s.m + 3)) (R.map b2i) ∧ Foot ok w w') := ⟨hG ▸ add_any ok g (s.m + 3) sz s.g s.V o (R.map b2i) w H (by omega) O0 (by omega)⟩
 obtain ⟨hc0, hc1, _, _⟩ := H.cells
 have hf1 := H.frozen 1
 rw [hG] at hc1 hp hg0 hg1 O1 S1
 have hdiv : G / n = p := hp
 have hmul : a * p = o := ho
 have hn0 : ¬ n = 0 := by omega
 have hG0 : 0 ≤ G := by omega
 clear H hfr hp ho
 obtain ⟨fin, hfin⟩ : ∃ f, Wr.put s a b n = f := ⟨_, rfl⟩
 have hfin2 : Wr.step (Wr.step (⟨s.m, s.V + o, if b = n then G - o else (b - a) * p⟩ : St)) = fin := by
  rw [← hfin]; unfold Wr.put Wr.cut Rd.rg; rw [if_pos hok0, hG, hdiv, hmul]
 have hV0 : 0 ≤ s.V + o := by have := hs.v0; omega
 have hfinm : fin.m ≤ 902 := by rw [← hfin]; have := (Wr.put_m s a b n).2; omega
 by_cases hb : b = n
 ·have d5 : (b == n) = true := by rw [hb]; exact beq_self_eq_true n
  rw [if_pos hb] at hfin2
  have hR16 : 16 ≤ G - o ∧ G - o ≤ 16777216 := by omega
  obtain ⟨R1, hR1⟩ : ∃ x, G - o = x := ⟨_, rfl⟩
  rw [hR1] at hfin2 hR16
  rw [hfin]
  clear hb hfin
  have HV0 := Aside0.mk hV0
  have HFIN := Aside0.mk (And.intro hfin2 hfinm)
  have HR16 := Aside0.mk hR16
  have hob : o ≤ 16777216 := by omega
  have u3 : wrap64 R1 = R1 := w64n (by omega) (by omega)
  have u2 : wrap64 ((b - a) * p) = (b - a) * p := w64n (by omega) (by omega)
  clear hfin2 hfinm hR16 hV0 hs P0 P1 O1 S0 S1 hok0
  go_enter Tryd.func79, Tryd.ntmps79
  go_wp2_with (first
   | (go_at_call 93; (with_reducible refine CA.out.mono ?_); rintro e w1 ⟨rfl, hI, hf⟩; have HI := Aside0.mk hI; have HF1 := Aside0.mk hf; have hc1 := hI.cells.2.1; have hf1 := hI.frozen 1; have HOG := Aside0.mk (rf_ok hI); clear hI hf))
  have HS0 : Aside0 (RfAt ok (w1.setCell ⟨g, 1, none⟩ (.int .i64 R1)) g sz ⟨s.m, s.V + o, R1⟩ R) := ⟨HI.out.set1 R1⟩
  have HS1 : Aside0 (16 ≤ (⟨s.m, s.V + o, R1⟩ : St).g ∧ (⟨s.m, s.V + o, R1⟩ : St).g ≤ 16777216 ∧ Wr.step (Wr.step (⟨s.m, s.V + o, R1⟩ : St)) = fin ∧ fin.m ≤ 902) := ⟨⟨HR16.out.1, HR16.out.2, HFIN.out.1, HFIN.out.2⟩⟩
  have HF2 : Aside0 (Foot ok w (w1.setCell ⟨g, 1, none⟩ (.int .i64 R1))) := ⟨Foot.set_ HF1.out (p := ⟨g, 1, none⟩) HOG.out _⟩
  clear HI HF1 hc1 hf1 CA hdiv hmul hob u2 u3 O0 d5 hc0 hG0 hg0 hg1 HV0 HFIN HR16 hR1
  go_loopw [] (fun wr => ∃ s2 : St, Aside0 (RfAt ok wr g sz s2 R) ∧ Aside0 (16 ≤ s2.g ∧ s2.g ≤ 16777216 ∧ Wr.step (Wr.step s2) = fin ∧ fin.m ≤ 902) ∧ Aside0 (Foot ok w wr)) (fun wr => (65537 - rgOf wr g).toNat)
  case atStart => exact ⟨_, HS0, HS1, HF2⟩
  case round =>
   obtain ⟨s2, HA, HS, HF⟩ := hrel
   clear HS0 HS1 HF2
   obtain ⟨G1, hG1⟩ : ∃ x, s2.g = x := ⟨_, rfl⟩
   have hr1 : rgOf wr g = G1 := by unfold rgOf; rw [HA.out.cells.2.1, hG1]; rfl
   have hg16 : 16 ≤ G1 ∧ G1 ≤ 16777216 := by have := HS.out; omega
   have hc1 : wr.cell? ⟨g, 1, none⟩ = some (.int .i64 G1) := hG1 ▸ HA.out.cells.2.1
   by_cases hle : G1 ≤ 65536
   ·have hmm : s2.m + 1 ≤ 902 := by
     have h := HS.out
     have e : Wr.step s2 = Wr.stp s2 := by unfold Wr.step; rw [if_pos (by omega)]
     have h1 := (Wr.step_m (Wr.step s2)).1
     have h2 : (Wr.step s2).m = s2.m + 1 := by rw [e]; rfl
     have h3 : (Wr.step (Wr.step s2)).m ≤ 902 := by rw [h.2.2.1]; exact h.2.2.2
     omega
    have HS' : Aside0 (16 ≤ (Wr.stp s2).g ∧ (Wr.stp s2).g ≤ 16777216 ∧ Wr.step (Wr.step (Wr.stp s2)) = fin ∧ fin.m ≤ 902) := ⟨by simp only [Wr.stp]; omega, by simp only [Wr.stp]; omega, by rw [step_stp (by omega) (by omega)]; exact HS.out.2.2.1, HS.out.2.2.2⟩
    have hdd : dig s2.V (s2.m + 3) ++ [0] = dig (Wr.stp s2).V ((Wr.stp s2).m + 3) := by
     rw [Wr.dig_app _ _ _ (by omega) (by omega)]
     simp only [Wr.stp]
     rw [Int.add_zero, show s2.m + 3 + 1 = s2.m + 1 + 3 by omega]
    obtain ⟨DD, hDD⟩ : ∃ DD, dig s2.V (s2.m + 3) = DD := ⟨_, rfl⟩
    have hDl : DD.length ≤ 1000 := by rw [← hDD, dig_len]; omega
    have hA := (HA.out.set1 (G1 * 256) : RfB ok (wr.setCell ⟨g, 1, none⟩ (.int .i64 (G1 * 256))) g sz (G1 * 256) (dig s2.V (s2.m + 3)) (R.map b2i))
    rw [hDD] at hA hdd
    have HDD := Aside0.mk hdd
    obtain ⟨wq, hwq⟩ : ∃ wq, wr.setCell ⟨g, 1, none⟩ (.int .i64 (G1 * 256)) = wq := ⟨_, rfl⟩
    have HWQ := Aside0.mk hwq
    have HFQ : Aside0 (Foot ok w wq) := ⟨hwq ▸ Foot.set_ HF.out (p := ⟨g, 1, none⟩) HOG.out _⟩
    rw [hwq] at hA
    obtain ⟨vb, vr, hg, ho, h1, h2⟩ := hA
    obtain ⟨A3, c3, rfl⟩ := Kd.R_slice h1
    obtain ⟨mm, hmm2⟩ : ∃ x, DD.length = x := ⟨_, rfl⟩
    rw [hmm2] at h1 h2 hg
    have hf1 := HA.out.frozen 1
    have hc2 : wq.cell? ⟨g, 2, none⟩ = some (.slice A3 mm c3) := (blk_cell hg 2).trans rfl
    have hf2 := blk_frozen hg 2
    have HG := Aside0.mk hg
    have HR1 := Aside0.mk h1
    have HR2 := Aside0.mk h2
    have HFR2 : Aside0 (∀ k, wq.heap.size ≤ k → (ok k ∧ k ≠ g) ∧ some k ≠ vr.ownBlock) := ⟨fun k hk => ⟨⟨HFR.out k (Nat.le_trans HFQ.out.b.size hk), by have := blk_lt hg; omega⟩, fun e => own_lt h2 e.symm hk⟩⟩
    have HB0 := Aside0.mk (Below.refl 0 wq)
    have HML : Aside0 (DD.length = mm ∧ mm ≤ 1000) := ⟨hmm2, by omega⟩
    have hcB : (wq.alloc (.cells #[.int .i64 0] 3)).cell? ⟨g, 2, none⟩ = some (.slice A3 mm c3) := (blk_cell (blk_alloc hg _) 2).trans rfl
    have HGL := Aside0.mk (And.intro hg16 hle)
    have HGE := Aside0.mk hG1
    obtain ⟨hgA, hgB⟩ := hg16
    clear HA HS HF hG1 hdd hDD hDl hg ho h1 h2 hmm hmm2 hwq
    go_upto_region 7 with (fail)
    rw [HWQ.out]
    go_wp2_with (first | ((with_reducible refine gate_builtin (b := .append) (xs := #[.tmp 59, .tmp 60]) rfl ?_); at_builtin; refine Kd.R_append (Kd.int .i64) (w0 := wq) 0 rfl (.tmp 59) (.tmp 60) 113 3 (.int .i64 0) 8 rfl Tryd.underlying113 infoI rfl (by decide) (by decide) (.slice A3 mm c3) DD 0 [.int .i64 0] (fun k => (ok k ∧ k ≠ g) ∧ some k ≠ vr.ownBlock) (fun _ => False) rfl rfl rfl (fun _ hk => hk.elim) HFR2.out HR1.out HB0.out (Nat.zero_le _) (by have := HML.out; omega) ?_; intro v1 w2 hR hb2 hgr hat; obtain ⟨A2, c2, rfl⟩ := Kd.R_slice hR; rw [show (DD ++ [(0 : Int)]).length = DD.length + 1 from by simp] at hR hat; have HP := Aside0.mk (pushD HG.out HOG.out HR1.out HR2.out hR hgr hat); have HF3 := Aside0.mk (Foot.grown HFQ.out hb2 hgr (fun k hk => (HR1.out.1 k hk).1.1)); have hc2 : w2.cell? ⟨g, 2, none⟩ = some (.slice A3 mm c3) := (blk_cell HP.out.2 2).trans rfl; have hf2 := blk_frozen HP.out.2 2; clear hR hb2 hgr hat))
    have HN : Aside0 (RfAt ok (w2.setCell ⟨g, 2, none⟩ (.slice A2 (DD.length + 1) c2)) g sz (Wr.stp s2) R) := ⟨by
     have h := HP.out.1
     rw [HDD.out] at h
     unfold RfAt
     rw [show (Wr.stp s2).g = G1 * 256 by simp only [Wr.stp]; rw [HGE.out]]
     exact h⟩
    have hcm : rgOf (w2.setCell ⟨g, 2, none⟩ (.slice A2 (DD.length + 1) c2)) g = G1 * 256 := by unfold rgOf; rw [HN.out.cells.2.1, show (Wr.stp s2).g = G1 * 256 by simp only [Wr.stp]; rw [HGE.out]]; rfl
    exact ⟨⟨Wr.stp s2, HN, HS', ⟨Foot.set_ HF3.out (p := ⟨g, 2, none⟩) HOG.out _⟩⟩, by rw [hcm, hr1]; have := HGL.out; omega⟩
   ·have HE : Aside0 (RfAt ok wr g sz fin R) := ⟨by
     have h := HS.out
     have e : Wr.step s2 = s2 := step_id (by omega)
     rw [e, e] at h
     rw [← h.2.2.1]
     exact HA.out⟩
    have hle' : decide (G1 ≤ 65536) = false := decide_eq_false hle
    clear HA HS hr1 hG1 hle hg16
    go_wp2
    first | go_end0 | ((try simp only [Exit.inBlock, Exit.then]); refine bodyPost_ret (results_none rfl _ _ _) rfl ?_)
    exact ⟨rfl, HE.out, HF.out⟩
 ·have d5 : (b == n) = false := by simp [hb]
  rw [if_neg hb] at hfin2
  obtain ⟨R1, hR1⟩ : ∃ x, (b - a) * p = x := ⟨_, rfl⟩
  rw [hR1] at hfin2 S0 S1
  have hR16 : 16 ≤ R1 ∧ R1 ≤ 16777216 := by omega
  rw [hfin]
  clear hb hfin
  have HV0 := Aside0.mk hV0
  have HFIN := Aside0.mk (And.intro hfin2 hfinm)
  have HR16 := Aside0.mk hR16
  have hob : o ≤ 16777216 := by omega
  have u3 : wrap64 R1 = R1 := w64n (by omega) (by omega)
  have u2 : wrap64 ((b - a) * p) = (b - a) * p := w64n (by omega) (by omega)
  clear hfin2 hfinm hR16 hV0 hs P0 P1 O1 S0 S1 hok0
  go_enter Tryd.func79, Tryd.ntmps79
  go_wp2_with (first
   | (go_at_call 93; (with_reducible refine CA.out.mono ?_); rintro e w1 ⟨rfl, hI, hf⟩; have HI := Aside0.mk hI; have HF1 := Aside0.mk hf; have hc1 := hI.cells.2.1; have hf1 := hI.frozen 1; have HOG := Aside0.mk (rf_ok hI); clear hI hf))
  have HS0 : Aside0 (RfAt ok (w1.setCell ⟨g, 1, none⟩ (.int .i64 R1)) g sz ⟨s.m, s.V + o, R1⟩ R) := ⟨HI.out.set1 R1⟩
  have HS1 : Aside0 (16 ≤ (⟨s.m, s.V + o, R1⟩ : St).g ∧ (⟨s.m, s.V + o, R1⟩ : St).g ≤ 16777216 ∧ Wr.step (Wr.step (⟨s.m, s.V + o, R1⟩ : St)) = fin ∧ fin.m ≤ 902) := ⟨⟨HR16.out.1, HR16.out.2, HFIN.out.1, HFIN.out.2⟩⟩
  have HF2 : Aside0 (Foot ok w (w1.setCell ⟨g, 1, none⟩ (.int .i64 R1))) := ⟨Foot.set_ HF1.out (p := ⟨g, 1, none⟩) HOG.out _⟩
  clear HI HF1 hc1 hf1 CA hdiv hmul hob u2 u3 O0 d5 hc0 hG0 hg0 hg1 HV0 HFIN HR16 hR1
  go_loopw [] (fun wr => ∃ s2 : St, Aside0 (RfAt ok wr g sz s2 R) ∧ Aside0 (16 ≤ s2.g ∧ s2.g ≤ 16777216 ∧ Wr.step (Wr.step s2) = fin ∧ fin.m ≤ 902) ∧ Aside0 (Foot ok w wr)) (fun wr => (65537 - rgOf wr g).toNat)
  case atStart => exact ⟨_, HS0, HS1, HF2⟩
  case round =>
   obtain ⟨s2, HA, HS, HF⟩ := hrel
   clear HS0 HS1 HF2
   obtain ⟨G1, hG1⟩ : ∃ x, s2.g = x := ⟨_, rfl⟩
   have hr1 : rgOf wr g = G1 := by unfold rgOf; rw [HA.out.cells.2.1, hG1]; rfl
   have hg16 : 16 ≤ G1 ∧ G1 ≤ 16777216 := by have := HS.out; omega
   have hc1 : wr.cell? ⟨g, 1, none⟩ = some (.int .i64 G1) := hG1 ▸ HA.out.cells.2.1
   by_cases hle : G1 ≤ 65536
   ·have hmm : s2.m + 1 ≤ 902 := by
     have h := HS.out
     have e : Wr.step s2 = Wr.stp s2 := by unfold Wr.step; rw [if_pos (by omega)]
     have h1 := (Wr.step_m (Wr.step s2)).1
     have h2 : (Wr.step s2).m = s2.m + 1 := by rw [e]; rfl
     have h3 : (Wr.step (Wr.step s2)).m ≤ 902 := by rw [h.2.2.1]; exact h.2.2.2
     omega
    have HS' : Aside0 (16 ≤ (Wr.stp s2).g ∧ (Wr.stp s2).g ≤ 16777216 ∧ Wr.step (Wr.step (Wr.stp s2)) = fin ∧ fin.m ≤ 902) := ⟨by simp only [Wr.stp]; omega, by simp only [Wr.stp]; omega, by rw [step_stp (by omega) (by omega)]; exact HS.out.2.2.1, HS.out.2.2.2⟩
    have hdd : dig s2.V (s2.m + 3) ++ [0] = dig (Wr.stp s2).V ((Wr.stp s2).m + 3) := by
     rw [Wr.dig_app _ _ _ (by omega) (by omega)]
     simp only [Wr.stp]
     rw [Int.add_zero, show s2.m + 3 + 1 = s2.m + 1 + 3 by omega]
    obtain ⟨DD, hDD⟩ : ∃ DD, dig s2.V (s2.m + 3) = DD := ⟨_, rfl⟩
    have hDl : DD.length ≤ 1000 := by rw [← hDD, dig_len]; omega
    have hA := (HA.out.set1 (G1 * 256) : RfB ok (wr.setCell ⟨g, 1, none⟩ (.int .i64 (G1 * 256))) g sz (G1 * 256) (dig s2.V (s2.m + 3)) (R.map b2i))
    rw [hDD] at hA hdd
    have HDD := Aside0.mk hdd
    obtain ⟨wq, hwq⟩ : ∃ wq, wr.setCell ⟨g, 1, none⟩ (.int .i64 (G1 * 256)) = wq := ⟨_, rfl⟩
    have HWQ := Aside0.mk hwq
    have HFQ : Aside0 (Foot ok w wq) := ⟨hwq ▸ Foot.set_ HF.out (p := ⟨g, 1, none⟩) HOG.out _⟩
    rw [hwq] at hA
    obtain ⟨vb, vr, hg, ho, h1, h2⟩ := hA
    obtain ⟨A3, c3, rfl⟩ := Kd.R_slice h1
    obtain ⟨mm, hmm2⟩ : ∃ x, DD.length = x := ⟨_, rfl⟩
    rw [hmm2] at h1 h2 hg
    have hf1 := HA.out.frozen 1
    have hc2 : wq.cell? ⟨g, 2, none⟩ = some (.slice A3 mm c3) := (blk_cell hg 2).trans rfl
    have hf2 := blk_frozen hg 2
    have HG := Aside0.mk hg
    have HR1 := Aside0.mk h1
    have HR2 := Aside0.mk h2
    have HFR2 : Aside0 (∀ k, wq.heap.size ≤ k → (ok k ∧ k ≠ g) ∧ some k ≠ vr.ownBlock) := ⟨fun k hk => ⟨⟨HFR.out k (Nat.le_trans HFQ.out.b.size hk), by have := blk_lt hg; omega⟩, fun e => own_lt h2 e.symm hk⟩⟩
    have HB0 := Aside0.mk (Below.refl 0 wq)
    have HML : Aside0 (DD.length = mm ∧ mm ≤ 1000) := ⟨hmm2, by omega⟩
    have hcB : (wq.alloc (.cells #[.int .i64 0] 3)).cell? ⟨g, 2, none⟩ = some (.slice A3 mm c3) := (blk_cell (blk_alloc hg _) 2).trans rfl
    have HGL := Aside0.mk (And.intro hg16 hle)
    have HGE := Aside0.mk hG1
    obtain ⟨hgA, hgB⟩ := hg16
    clear HA HS HF hG1 hdd hDD hDl hg ho h1 h2 hmm hmm2 hwq
    go_upto_region 7 with (fail)
    rw [HWQ.out]
    go_wp2_with (first | ((with_reducible refine gate_builtin (b := .append) (xs := #[.tmp 59, .tmp 60]) rfl ?_); at_builtin; refine Kd.R_append (Kd.int .i64) (w0 := wq) 0 rfl (.tmp 59) (.tmp 60) 113 3 (.int .i64 0) 8 rfl Tryd.underlying113 infoI rfl (by decide) (by decide) (.slice A3 mm c3) DD 0 [.int .i64 0] (fun k => (ok k ∧ k ≠ g) ∧ some k ≠ vr.ownBlock) (fun _ => False) rfl rfl rfl (fun _ hk => hk.elim) HFR2.out HR1.out HB0.out (Nat.zero_le _) (by have := HML.out; omega) ?_; intro v1 w2 hR hb2 hgr hat; obtain ⟨A2, c2, rfl⟩ := Kd.R_slice hR; rw [show (DD ++ [(0 : Int)]).length = DD.length + 1 from by simp] at hR hat; have HP := Aside0.mk (pushD HG.out HOG.out HR1.out HR2.out hR hgr hat); have HF3 := Aside0.mk (Foot.grown HFQ.out hb2 hgr (fun k hk => (HR1.out.1 k hk).1.1)); have hc2 : w2.cell? ⟨g, 2, none⟩ = some (.slice A3 mm c3) := (blk_cell HP.out.2 2).trans rfl; have hf2 := blk_frozen HP.out.2 2; clear hR hb2 hgr hat))
    have HN : Aside0 (RfAt ok (w2.setCell ⟨g, 2, none⟩ (.slice A2 (DD.length + 1) c2)) g sz (Wr.stp s2) R) := ⟨by
     have h := HP.out.1
     rw [HDD.out] at h
     unfold RfAt
     rw [show (Wr.stp s2).g = G1 * 256 by simp only [Wr.stp]; rw [HGE.out]]
     exact h⟩
    have hcm : rgOf (w2.setCell ⟨g, 2, none⟩ (.slice A2 (DD.length + 1) c2)) g = G1 * 256 := by unfold rgOf; rw [HN.out.cells.2.1, show (Wr.stp s2).g = G1 * 256 by simp only [Wr.stp]; rw [HGE.out]]; rfl
    exact ⟨⟨Wr.stp s2, HN, HS', ⟨Foot.set_ HF3.out (p := ⟨g, 2, none⟩) HOG.out _⟩⟩, by rw [hcm, hr1]; have := HGL.out; omega⟩
   ·have HE : Aside0 (RfAt ok wr g sz fin R) := ⟨by
     have h := HS.out
     have e : Wr.step s2 = s2 := step_id (by omega)
     rw [e, e] at h
     rw [← h.2.2.1]
     exact HA.out⟩
    have hle' : decide (G1 ≤ 65536) = false := decide_eq_false hle
    clear HA HS hr1 hG1 hle hg16
    go_wp2
    first | go_end0 | ((try simp only [Exit.inBlock, Exit.then]); refine bodyPost_ret (results_none rfl _ _ _) rfl ?_)
    exact ⟨rfl, HE.out, HF.out⟩
end Go.Proofs.YtjpnbdofbkoddaaDoor.RfWalk
namespace Go.Proofs.YtjpnbdofbkoddaaDoor.Sy
open Go.RowKit Go.Proofs.YtjpnbdofbkoddaaDoorW.PrintWords Go.Proofs.YtjpnbdofbkoddaaDoorW.PrintLast Go.Proofs.YtjpnbdofbkoddaaDoorW.PrintMore
open Go.Proofs.YtjpnbdofbkoddaaDoor.Wr (St)
open Go.Proofs.YtjpnbdofbkoddaaDoor.WrWalk
def sl (n : Int) : Nat := if n ≤ 256 then 0 else Lib.bitLen (n - 1).toNat - 8
def sh (n : Int) : Int := if n ≤ 256 then n else (n - 1) / 2 ^ sl n + 1
theorem bitLen_two : ∀ (f x : Nat), x < 2 ^ f → x < 2 ^ Lib.bitLenAux f x ∧ (0 < x → 2 ^ Lib.bitLenAux f x ≤ 2 * x)
 | 0, x, h => ⟨by simpa [Lib.bitLenAux] using h, by simp [Lib.bitLenAux]; omega⟩
 | f + 1, x, h => by
  unfold Lib.bitLenAux
  split
  ·rename_i hz; subst hz; simp
  ·have hp : 2 ^ (f + 1) = 2 * 2 ^ f := by rw [Nat.pow_succ]; omega
   obtain ⟨h1, h2⟩ := bitLen_two f (x / 2) (by omega)
   rw [Nat.add_comm 1, Nat.pow_succ]
   refine ⟨by omega, fun _ => ?_⟩
   by_cases hx : x / 2 = 0
   ·have e : Lib.bitLenAux f (x / 2) = 0 := by
     rw [hx]; cases f <;> simp [Lib.bitLenAux]
    rw [e]; omega
   ·have := h2 (by omega); omega
theorem bitLen_in {x : Nat} (h0 : 256 ≤ x) (h1 : x < 16777216) : ∃ k, Lib.bitLen x = k + 8 ∧ 1 ≤ k ∧ k ≤ 16 ∧ x / 2 ^ k ≤ 255 ∧ 128 ≤ x / 2 ^ k := by
 obtain ⟨a, b⟩ := bitLen_two 64 x (Nat.lt_trans h1 (by decide))
 have b := b (by omega)
 change x < 2 ^ Lib.bitLen x at a
 change 2 ^ Lib.bitLen x ≤ 2 * x at b
 generalize Lib.bitLen x = L at a b ⊢
 have hl : 8 < L := by
  refine Nat.lt_of_not_le fun hc => ?_
  have : 2 ^ L ≤ 2 ^ 8 := Nat.pow_le_pow_right (by decide) hc
  have e : 2 ^ 8 = 256 := by decide
  omega
 have hu : L ≤ 24 := by
  refine Nat.le_of_not_lt fun hc => ?_
  have : 2 ^ 25 ≤ 2 ^ L := Nat.pow_le_pow_right (by decide) hc
  have e : 2 ^ 25 = 33554432 := by decide
  omega
 refine ⟨L - 8, by omega, by omega, by omega, ?_, ?_⟩
 ·have e : 2 ^ L = 256 * 2 ^ (L - 8) := by rw [show 256 = 2 ^ 8 by decide, ← Nat.pow_add]; congr 1; omega
  have : x / 2 ^ (L - 8) < 256 := Nat.div_lt_of_lt_mul (by rw [Nat.mul_comm, ← e]; exact a)
  omega
 ·have e : 2 ^ L = 256 * 2 ^ (L - 8) := by rw [show 256 = 2 ^ 8 by decide, ← Nat.pow_add]; congr 1; omega
  rw [Nat.le_div_iff_mul_le (Nat.two_pow_pos _)]
  omega
theorem sl_big {n : Int} (h0 : 256 < n) (h1 : n ≤ 16777216) : ∃ k : Nat, sl n = k ∧ Lib.bitLen (n - 1).toNat = k + 8 ∧ 1 ≤ k ∧ k ≤ 16 ∧ (n - 1) / 2 ^ k ≤ 255 ∧ 128 ≤ (n - 1) / 2 ^ k := by
 obtain ⟨k, hk, a, b, c, d⟩ := bitLen_in (x := (n - 1).toNat) (by omega) (by omega)
 have e : (((n - 1).toNat / 2 ^ k : Nat) : Int) = (n - 1) / 2 ^ k := by rw [Int.natCast_ediv, Int.toNat_of_nonneg (by omega), Int.natCast_pow]; rfl
 refine ⟨k, ?_, hk, a, b, by omega, by omega⟩
 unfold sl
 rw [if_neg (by omega), hk]; omega
theorem sl_is {n : Int} (h0 : 1 ≤ n) (h1 : n ≤ 16777216) : sl n ≤ 16 ∧ 1 ≤ sh n ∧ sh n ≤ 256 ∧ sh n = (n - 1) / 2 ^ sl n + 1 ∧ (256 < n → 129 ≤ sh n) := by
 by_cases h : n ≤ 256
 ·have e : sl n = 0 := by unfold sl; rw [if_pos h]
  have e2 : sh n = n := by unfold sh; rw [if_pos h]
  rw [e, e2, Int.pow_zero, Int.ediv_one]
  omega
 ·obtain ⟨k, hk, _, b, b2, c, d⟩ := sl_big (n := n) (by omega) h1
  have e2 : sh n = (n - 1) / 2 ^ sl n + 1 := by unfold sh; rw [if_neg h]
  refine ⟨by omega, ?_, ?_, e2, fun _ => ?_⟩ <;> rw [e2, hk] <;> omega
theorem sw64 {x : Int} (h0 : -9223372036854775808 ≤ x) (h1 : x < 9223372036854775808) : wrap64 x = x := w64n h0 h1
theorem u64s {x : Int} (h0 : 0 ≤ x) (h1 : x < 18446744073709551616) : IntKind.u64.wrap x = x := by
 rw [show IntKind.u64.wrap x = x % 18446744073709551616 by simp [IntKind.wrap, IntKind.bits, IntKind.signed]]; omega
theorem pow_16 {k : Nat} (h : k ≤ 16) : (1 : Int) ≤ 2 ^ k ∧ (2 : Int) ^ k ≤ 65536 := by
 have h1 : (0 : Int) < 2 ^ k := Int.pow_pos (by decide)
 have h2 : 2 ^ k ≤ 2 ^ 16 := Nat.pow_le_pow_right (by decide) h
 have h3 : 2 ^ k ≤ 65536 := h2
 have e : ((2 ^ k : Nat) : Int) = 2 ^ k := by rw [Int.natCast_pow]; rfl
 omega
abbrev okU (v n : Int) : Prop := 1 ≤ n ∧ n ≤ 16777216 ∧ 0 ≤ v ∧ v < n
def uput (s : St) (v n : Int) : St := if okU v n then Wr.put s (v / 2 ^ sl n) (v / 2 ^ sl n + 1) (sh n) else s
def uraw (v n : Int) : List Bool := if okU v n then rawN (v % 2 ^ sl n) (sl n : Int) else []
theorem okU_is {v n : Int} (h : okU v n) : Rd.ok (v / 2 ^ sl n) (v / 2 ^ sl n + 1) (sh n) ∧ Rw (v % 2 ^ sl n) (sl n : Int) ∧ sl n ≤ 16 ∧ 0 ≤ v % 2 ^ sl n ∧ v % 2 ^ sl n < 65536 ∧ 0 ≤ v / 2 ^ sl n ∧ v / 2 ^ sl n ≤ 255 := by
 obtain ⟨h0, h1, h2, h3⟩ := h
 obtain ⟨a, b, c, d, _⟩ := sl_is h0 h1
 have hp := pow_16 a
 have m0 : 0 ≤ v % 2 ^ sl n := Int.emod_nonneg _ (by omega)
 have m1 : v % 2 ^ sl n < 2 ^ sl n := Int.emod_lt_of_pos _ (by omega)
 have e0 : 0 ≤ v / 2 ^ sl n := Int.ediv_nonneg h2 (by omega)
 have e1 : v / 2 ^ sl n ≤ (n - 1) / 2 ^ sl n := Int.ediv_le_ediv (by omega) (by omega)
 exact ⟨⟨e0, by omega, by omega, by omega⟩, ⟨by omega, by omega, by rw [Int.toNat_natCast]; exact m1⟩, a, m0, by omega, e0, by omega⟩
end Go.Proofs.YtjpnbdofbkoddaaDoor.Sy
namespace Go.Proofs.YtjpnbdofbkoddaaDoor.SyWalk
open Go.RowKit Go.Proofs.YtjpnbdofbkoddaaDoorW.PrintWords Go.Proofs.YtjpnbdofbkoddaaDoorW.PrintLast Go.Proofs.YtjpnbdofbkoddaaDoorW.PrintMore
open Go.Proofs.YtjpnbdofbkoddaaDoor.WrWalk Go.Proofs.YtjpnbdofbkoddaaDoor.Sy Go.Proofs.YtjpnbdofbkoddaaDoor.OShapeSeeds
open Go.Proofs.YtjpnbdofbkoddaaDoor.Wr (St dig)
open Go.Proofs.YtjpnbdofbkoddaaDoor.Rf (b2i)
open Go.Proofs.YtjpnbdofbkoddaaDoor.RfWalk (RfAt RfB rput_any rraw_any)
open Go.Proofs.YtjpnbdofbkoddaaDoor.Pack (bitsOf bitsOf_len)
def widths : List Int := [20, 9, 5, 3, 2, 1, 1, 1]
def pf : Nat → Int
 | 0 => 0
 | k + 1 => pf k + widths.getD ((k + 1) / 2) 0
theorem pf_up : ∀ k : Nat, k ≤ 14 → pf k < pf (k + 1) ∧ 0 ≤ pf k ∧ pf (k + 1) ≤ 64 := by
 intro k hk
 rcases (by omega : k = 0 ∨ k = 1 ∨ k = 2 ∨ k = 3 ∨ k = 4 ∨ k = 5 ∨ k = 6 ∨ k = 7 ∨ k = 8 ∨ k = 9 ∨ k = 10 ∨ k = 11 ∨ k = 12 ∨ k = 13 ∨ k = 14) with rfl | rfl | rfl | rfl | rfl | rfl | rfl | rfl | rfl | rfl | rfl | rfl | rfl | rfl | rfl <;> decide
def sa (v : Int) : Nat := if v ≤ 0 then (-2 * v).toNat else (2 * v - 1).toNat
abbrev okS (v : Int) : Prop := -7 ≤ v ∧ v ≤ 7
theorem sa_le {v : Int} (h : okS v) : sa v ≤ 14 := by unfold sa; split <;> omega
def sput (s : St) (v : Int) : St := if okS v then Wr.put s (pf (sa v)) (pf (sa v + 1)) 64 else s
theorem pf_ok {k : Nat} (h : k ≤ 14) : Rd.ok (pf k) (pf (k + 1)) 64 := by
 have := pf_up k h
 exact ⟨this.2.1, this.1, this.2.2, by omega⟩
theorem sput_fair {s : St} (hs : Wr.Fair s 65537) (v : Int) : Wr.Fair (sput s v) 65537 := by unfold sput; split; exact Wr.put_fair hs _ _ _; exact hs
theorem sput_m (s : St) (v : Int) : s.m ≤ (sput s v).m ∧ (sput s v).m ≤ s.m + 2 := by unfold sput; split; exact Wr.put_m s _ _ _; omega
theorem uput_fair {s : St} (hs : Wr.Fair s 65537) (v n : Int) : Wr.Fair (uput s v n) 65537 := by unfold uput; split; exact Wr.put_fair hs _ _ _; exact hs
theorem uput_m (s : St) (v n : Int) : s.m ≤ (uput s v n).m ∧ (uput s v n).m ≤ s.m + 2 := by unfold uput; split; exact Wr.put_m s _ _ _; omega
theorem uraw_len (v n : Int) : (uraw v n).length ≤ 16 := by
 unfold uraw rawN
 split
 ·rename_i h
  obtain ⟨_, b2, b3, _⟩ := okU_is h
  rw [if_pos b2, bitsOf_len, Int.toNat_natCast]; exact b3
 ·simp
theorem drew_self (w : World) : Below w.heap.size w w.drew := below_drew1 (Below.refl _ _)
theorem rparts_l {n : Int} (h0 : 256 < n) (h1 : n ≤ 16777216) {S : Nat} (hS : S ≤ 16) (hlo : 128 ≤ (n - 1) / 2 ^ S) (hhi : (n - 1) / 2 ^ S ≤ 255) : ∀ (d j k : Nat), j + d = S → d < k → OShapeSeeds.spinetref09_Parts.l0 k n (2 ^ j) j = some ((n - 1) / 2 ^ S + 1, 2 ^ S, (S : Int)) := by
 intro d
 induction d with
 | zero =>
  intro j k hj hk
  obtain ⟨k, rfl⟩ : ∃ m, k = m + 1 := ⟨k - 1, by omega⟩
  obtain rfl : j = S := by omega
  have hp := pow_16 hS
  simp only [OShapeSeeds.spinetref09_Parts.l0]
  have e : wrap64 (Int.tdiv (wrap64 (n - 1)) (2 ^ j)) = (n - 1) / 2 ^ j := by
   rw [sw64 (x := n - 1) (by omega) (by omega), Int.tdiv_eq_ediv_of_nonneg (by omega), sw64 (by omega) (by omega)]
  rw [if_neg (by omega), e, if_neg (by omega), sw64 (by omega) (by omega)]
 | succ d ih =>
  intro j k hj hk
  obtain ⟨k, rfl⟩ : ∃ m, k = m + 1 := ⟨k - 1, by omega⟩
  have hp := pow_16 (k := j) (by omega)
  have hp2 := pow_16 (k := j + 1) (by omega)
  have e0 : (2 : Int) ^ (j + 1) = 2 ^ j * 2 := Int.pow_succ _ _
  have hd : (n - 1) / 2 ^ S ≤ (n - 1) / 2 ^ (j + 1) := by
   obtain ⟨m, hm⟩ : ∃ m, S = j + 1 + m := ⟨S - (j + 1), by omega⟩
   have h2 := pow_16 (k := m) (by omega)
   rw [hm, Int.pow_add, ← Int.ediv_ediv_of_nonneg (by omega)]
   exact Int.ediv_le_self _ (Int.ediv_nonneg (by omega) (by omega))
  have hd2 : 256 ≤ (n - 1) / 2 ^ j := by
   have e3 : (n - 1) / 2 ^ (j + 1) = (n - 1) / 2 ^ j / 2 := by rw [e0, ← Int.ediv_ediv_of_nonneg (by omega)]
   omega
  have hd3 : (n - 1) / 2 ^ j ≤ n - 1 := Int.ediv_le_self _ (by omega)
  simp only [OShapeSeeds.spinetref09_Parts.l0]
  have e : wrap64 (Int.tdiv (wrap64 (n - 1)) (2 ^ j)) = (n - 1) / 2 ^ j := by
   rw [sw64 (x := n - 1) (by omega) (by omega), Int.tdiv_eq_ediv_of_nonneg (by omega), sw64 (by omega) (by omega)]
  rw [if_neg (by omega), e, if_pos (by omega), ← e0, sw64 (by omega) (by omega), sw64 (by omega) (by omega)]
  exact ih (j + 1) k (by omega) (by omega)
theorem rparts_is {n : Int} (h0 : 1 ≤ n) (h1 : n ≤ 16777216) : OShapeSeeds.spinetref09_Parts.f 20 n = some (sh n, 2 ^ sl n, (sl n : Int)) := by
 unfold OShapeSeeds.spinetref09_Parts.f
 by_cases h : n ≤ 256
 ·rw [if_pos h]; unfold sh sl; rw [if_pos h, if_pos h]; rfl
 ·rw [if_neg h]
  obtain ⟨k, hk, hL, a, b, c, d⟩ := sl_big (n := n) (by omega) h1
  have := rparts_l (n := n) (by omega) h1 (S := k) b d c k 0 20 (by omega) (by omega)
  rw [hk]
  unfold sh
  rw [if_neg h, hk]
  exact this
theorem rplace_is (v : Int) (h : okS v) : OShapeSeeds.spinetref09_Place.f 20 v = some (pf (sa v), pf (sa v + 1)) := by
 obtain ⟨h0, h1⟩ := h
 rcases (by omega : v = -7 ∨ v = -6 ∨ v = -5 ∨ v = -4 ∨ v = -3 ∨ v = -2 ∨ v = -1 ∨ v = 0 ∨ v = 1 ∨ v = 2 ∨ v = 3 ∨ v = 4 ∨ v = 5 ∨ v = 6 ∨ v = 7) with rfl | rfl | rfl | rfl | rfl | rfl | rfl | rfl | rfl | rfl | rfl | rfl | rfl | rfl | rfl <;> kernel_rfl
theorem rparts_call {n : Int} (h0 : 1 ≤ n) (h1 : n ≤ 16777216) (w : World) : Calls Tryd.prog 78 #[.int .i64 n] w fun e w' => e = .returned (.tuple #[.int .i64 (sh n), .int .i64 (2 ^ sl n), .int .i64 (sl n : Int)]) ∧ Below w.heap.size w w' :=
 (spinetref09_Parts.calls 20 n _ _ _ w (rparts_is h0 h1)).mono (by rintro e w' ⟨he, nd, rfl⟩; exact ⟨he, by repeat (first | exact Below.refl _ _ | apply below_drew1 | apply pw_below_drewN)⟩)
theorem rplace_call (v : Int) (h : okS v) (w : World) : Calls Tryd.prog 94 #[.int .i64 v] w fun e w' => e = .returned (.tuple #[.int .i64 (pf (sa v)), .int .i64 (pf (sa v + 1))]) ∧ Below w.heap.size w w' :=
 spinetref09_Place.calls 20 v _ _ w (rplace_is v h)
theorem rf_below {ok : Nat → Prop} {w w1 : World} {g : Nat} {sz : Int} {s : St} {R : List Bool} (H : RfAt ok w g sz s R) (hb : Below w.heap.size w w1) : RfAt ok w1 g sz s R := RfB.below H hb
theorem rf_drew {ok : Nat → Prop} {w : World} {g : Nat} {sz : Int} {s : St} {R : List Bool} (H : RfAt ok w g sz s R) : RfAt ok w.drew g sz s R := RfB.below H (drew_self w)
theorem rraw_at (ok : Nat → Prop) (g : Nat) (sz x : Int) (k : Nat) (s : St) (R : List Bool) (w : World) (h : Rw x (k : Int)) (hx0 : 0 ≤ x) (hx1 : x < 4294967296) (hR : R.length ≤ 50000) (hfr : ∀ k, w.heap.size ≤ k → ok k) (H : RfAt ok w g sz s R) :
 Calls Tryd.prog 56 #[.pointer (some ⟨g, 0, none⟩), .int .i64 x, .int .i64 (k : Int)] w fun e w' => e = .returned (.tuple #[]) ∧ RfAt ok w' g sz s (R ++ rawN x (k : Int)) ∧ Foot ok w w' := by
 refine (rraw_any ok g k sz s.g x _ (R.map b2i) w hx0 hx1 (by have := h.2.1; omega) (by rw [List.length_map]; exact hR) hfr H).mono ?_
 rintro e w' ⟨he, hI, hf⟩
 refine ⟨he, ?_, hf⟩
 unfold RfAt rawN
 rw [if_pos h, List.map_append, Int.toNat_natCast]
 exact hI
set_option maxHeartbeats 1000000 in
theorem ruput_walk (ok : Nat → Prop) (g k : Nat) (v n h p A A1 lo sz : Int) (s : St) (R : List Bool) (w : World) (hp0 : ¬ p = 0) (hfr : ∀ k, w.heap.size ≤ k → ok k) (H : RfAt ok w g sz s R) (hs : Wr.Fair s 65537) (hm : s.m ≤ 900) (hR : R.length ≤ 50000) (e1 : wrap64 (v.tdiv p) = A) (e1b : IntKind.i64.wrap (v.tdiv p) = A) (e2 : wrap64 (A + 1) = A1) (e2b : IntKind.i64.wrap (A + 1) = A1) (e3 : v.tmod p = lo) (hok : Rd.ok A A1 h) (hrw : Rw lo (k : Int)) (hlo : 0 ≤ lo ∧ lo < 4294967296)
 (hpa : ∀ w, Calls Tryd.prog 78 #[.int .i64 n] w fun e w' => e = .returned (.tuple #[.int .i64 h, .int .i64 p, .int .i64 (k : Int)]) ∧ Below w.heap.size w w') :
 Calls Tryd.prog 51 #[.pointer (some ⟨g, 0, none⟩), .int .i64 v, .int .i64 n] w fun e w' => e = .returned (.tuple #[]) ∧ RfAt ok w' g sz (Wr.put s A A1 h) (R ++ rawN lo (k : Int)) ∧ Foot ok w w' := by
 have HP := Aside0.mk hpa
 clear hpa
 have HH := Aside0.mk (p := RfAt ok w g sz s R) H
 clear H
 have HO := Aside0.mk hok
 have HR := Aside0.mk hrw
 clear hok hrw
 have HF := Aside0.mk (Foot.refl ok w)
 go_enter Tryd.func51, Tryd.ntmps51
 go_wp2_with (first
  | (go_at_call 78; (with_reducible refine (HP.out _).mono ?_); rintro e w1 ⟨rfl, hb⟩; have HF1 := Aside0.mk (HF.out.step hb); have HH1 := Aside0.mk (rf_below HH.out hb); clear HF hb HH; have HF := HF1; have HH := HH1; clear HF1 HH1))
 go_region_with (first
  | (go_at_call 79; (with_reducible refine (rput_any ok g sz A A1 h _ _ s R _ HO.out hs hm (fun k hk => hfr k (Nat.le_trans (HF.out.drew).b.size hk)) (rf_drew HH.out) rfl rfl).mono ?_); rintro e w2 ⟨rfl, hw, hf⟩; have HH2 := Aside0.mk hw; have HF2 := Aside0.mk ((HF.out.drew).trans hf); clear hw hf HH HF; have HH := HH2; have HF := HF2; clear HH2 HF2))
 all_goals (go_wp2_with (first
  | (go_at_call 56; (with_reducible refine (rraw_at ok g sz lo k _ R _ HR.out hlo.1 hlo.2 hR (fun k hk => hfr k (Nat.le_trans HF.out.b.size hk)) HH.out).mono ?_); rintro e w4 ⟨rfl, hw, hf⟩; have HH2 := Aside0.mk hw; have HF2 := Aside0.mk ((HF.out).trans hf); clear hw hf HH HF; have HH := HH2; have HF := HF2; clear HH2 HF2)); (first | go_end0 | ((try simp only [Exit.inBlock, Exit.then]); refine bodyPost_ret (results_none rfl _ _ _) rfl ?_)); exact ⟨rfl, HH.out, HF.out⟩)
theorem ruput_any (ok : Nat → Prop) (g : Nat) (v n sz : Int) (s : St) (R : List Bool) (w : World) (h : okU v n) (hs : Wr.Fair s 65537) (hm : s.m ≤ 900) (hR : R.length ≤ 50000) (hfr : ∀ k, w.heap.size ≤ k → ok k) (H : RfAt ok w g sz s R) :
 Calls Tryd.prog 51 #[.pointer (some ⟨g, 0, none⟩), .int .i64 v, .int .i64 n] w fun e w' => e = .returned (.tuple #[]) ∧ RfAt ok w' g sz (uput s v n) (R ++ uraw v n) ∧ Foot ok w w' := by
 have h' := h
 obtain ⟨b1, b2, b3, b4, b5, b6, b7⟩ := okU_is h
 obtain ⟨h0, h1, h2, h3⟩ := h'
 have hp := pow_16 b3
 unfold uput uraw
 rw [if_pos h, if_pos h]
 have e : v.tdiv (2 ^ sl n) = v / 2 ^ sl n := Int.tdiv_eq_ediv_of_nonneg h2
 exact ruput_walk ok g (sl n) v n (sh n) (2 ^ sl n) (v / 2 ^ sl n) (v / 2 ^ sl n + 1) (v % 2 ^ sl n) sz s R w (by omega) hfr H hs hm hR (by rw [e]; exact sw64 (by omega) (by omega)) (by rw [e, i64_w]; exact sw64 (by omega) (by omega)) (sw64 (by omega) (by omega)) (by rw [i64_w]; exact sw64 (by omega) (by omega)) (Int.tmod_eq_emod_of_nonneg h2) b1 b2 ⟨b4, by omega⟩ (rparts_call h0 h1)
set_option maxHeartbeats 1000000 in
theorem rsput_any (ok : Nat → Prop) (g : Nat) (v sz : Int) (s : St) (R : List Bool) (w : World) (h : okS v) (hs : Wr.Fair s 65537) (hm : s.m ≤ 900) (hfr : ∀ k, w.heap.size ≤ k → ok k) (H : RfAt ok w g sz s R) :
 Calls Tryd.prog 80 #[.pointer (some ⟨g, 0, none⟩), .int .i64 v] w fun e w' => e = .returned (.tuple #[]) ∧ RfAt ok w' g sz (sput s v) R ∧ Foot ok w w' := by
 have HP := Aside0.mk (rplace_call v h)
 have HO := Aside0.mk (pf_ok (sa_le h))
 unfold sput
 rw [if_pos h]
 clear h
 obtain ⟨f, hf⟩ : ∃ f, pf (sa v) = f := ⟨_, rfl⟩
 obtain ⟨f1, hf1⟩ : ∃ f, pf (sa v + 1) = f := ⟨_, rfl⟩
 rw [hf, hf1] at HP HO ⊢
 clear hf hf1
 have HH := Aside0.mk (p := RfAt ok w g sz s R) H
 clear H
 have HF := Aside0.mk (Foot.refl ok w)
 go_enter Tryd.func80, Tryd.ntmps80
 go_wp2_with (first
  | (go_at_call 94; (with_reducible refine (HP.out _).mono ?_); rintro e w1 ⟨rfl, hb⟩; have HF1 := Aside0.mk (HF.out.step hb); have HH1 := Aside0.mk (rf_below HH.out hb); clear HF hb HH; have HF := HF1; have HH := HH1; clear HF1 HH1)
  | (go_at_call 79; (with_reducible refine (rput_any ok g sz f f1 64 _ _ s R _ HO.out hs hm (fun k hk => hfr k (Nat.le_trans HF.out.b.size hk)) HH.out rfl rfl).mono ?_); rintro e w2 ⟨rfl, hw, hf⟩; have HH2 := Aside0.mk hw; have HF2 := Aside0.mk (HF.out.trans hf); clear hw hf HH HF; have HH := HH2; have HF := HF2; clear HH2 HF2))
 first | go_end0 | ((try simp only [Exit.inBlock, Exit.then]); refine bodyPost_ret (results_none rfl _ _ _) rfl ?_)
 exact ⟨rfl, HH.out, HF.out⟩
end Go.Proofs.YtjpnbdofbkoddaaDoor.SyWalk
