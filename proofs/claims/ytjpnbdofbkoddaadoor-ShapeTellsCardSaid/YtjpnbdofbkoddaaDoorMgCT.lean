import Derived.Test.YtjpnbdofbkoddaaDoorOShapeSeedsx5T
import Derived.Test.YtjpnbdofbkoddaaDoorMgAT
import Derived.Test.YtjpnbdofbkoddaaDoorArrsT
import Derived.Deep.MidRow
import Derived.Great.BuildSlice
import Derived.Deep.WholeRow
import Derived.Laws.Rows
import Derived.Test.YtjpnbdofbkoddaaDoorShoT
set_option linter.unusedVariables false
set_option linter.unusedSimpArgs false
namespace Go.Proofs.YtjpnbdofbkoddaaDoor.Sh
open Go.RowKit Go.Proofs.YtjpnbdofbkoddaaDoorW.PrintWords Go.Proofs.YtjpnbdofbkoddaaDoorW.PrintLast Go.Proofs.YtjpnbdofbkoddaaDoorW.PrintMore
open Go.Proofs.YtjpnbdofbkoddaaDoor.OShapeSeeds Go.Proofs.YtjpnbdofbkoddaaDoor.Sy
def sm (f : Nat → Nat) : Nat → Nat
 | 0 => 0
 | m + 1 => sm f m + f m
def vv : Nat → Nat → Nat
 | 0, k => if k = 0 then 1 else 0
 | n + 1, k => vv n k + 2 * sm (vv n) k
theorem v_is : ∀ n : Fin 9, ∀ k : Fin 33, spinetref10_V.f 60 ((n.val : Nat) : Int) ((k.val : Nat) : Int) = some ((vv n.val k.val : Nat) : Int) := by decide +kernel
theorem v_lt : ∀ n : Fin 9, ∀ k : Fin 33, vv n.val k.val < 4294967296 ∧ (1 ≤ n.val → 1 ≤ vv n.val k.val) := by decide +kernel
theorem v_at {n k : Nat} (hn : n ≤ 8) (hk : k ≤ 32) (f : Nat) : spinetref10_V.f (60 + f) (n : Int) (k : Int) = some ((vv n k : Nat) : Int) := by
 induction f with
 | zero => exact v_is ⟨n, by omega⟩ ⟨k, by omega⟩
 | succ f ih => exact spinetref10_V.mono _ _ _ _ ih
def aj (j : Nat) : Int := if j % 2 = 1 then (((j + 1) / 2 : Nat) : Int) else -((j / 2 : Nat) : Int)
def ts (n k : Nat) : Nat → Nat
 | 0 => 0
 | d + 1 => ts n k d + vv n (k - (2 * k - d + 1) / 2)
theorem vv_ts : ∀ n : Fin 8, ∀ k : Fin 33, vv (n.val + 1) k.val = ts n.val k.val (2 * k.val + 1) := by decide +kernel
def asum : List Int → Int
 | [] => 0
 | x :: l => (if x < 0 then -x else x) + asum l
theorem aj_size {j : Nat} (hj : j ≤ 100) : spinetref16_size.f (aj j) = some (((j + 1) / 2 : Nat) : Int) ∧ (if aj j < 0 then -aj j else aj j) = (((j + 1) / 2 : Nat) : Int) ∧ -(j : Int) ≤ aj j ∧ aj j ≤ j + 1 := by
 unfold spinetref16_size.f aj
 by_cases h : j % 2 = 1
 ·rw [if_pos h, if_neg (by omega), if_neg (by omega)]; refine ⟨rfl, rfl, by omega, by omega⟩
 ·rw [if_neg h]
  by_cases h0 : j = 0
  ·subst h0; refine ⟨rfl, rfl, by omega, by omega⟩
  ·rw [if_pos (by omega), if_pos (by omega)]
   refine ⟨?_, by omega, by omega, by omega⟩
   rw [sw64 (by omega) (by omega)]
   congr 1; omega
theorem aj_next {j : Nat} (hj : j ≤ 100) : (aj j > 0 → wrap64 (-aj j) = aj (j + 1)) ∧ (¬ aj j > 0 → wrap64 (1 - aj j) = aj (j + 1)) := by
 unfold aj
 by_cases h : j % 2 = 1
 ·rw [if_pos h, if_neg (show ¬ (j + 1) % 2 = 1 by omega)]
  exact ⟨fun _ => by rw [sw64 (by omega) (by omega)], fun h => absurd h (by omega)⟩
 ·rw [if_neg h, if_pos (show (j + 1) % 2 = 1 by omega)]
  refine ⟨fun h => absurd h (by omega), fun _ => ?_⟩
  rw [sw64 (by omega) (by omega)]
  omega
theorem asum_app (l m : List Int) : asum (l ++ m) = asum l + asum m := by
 induction l with
 | nil => simp [asum]
 | cons x l ih => simp only [List.cons_append, asum, ih]; omega
theorem vec_l0 : ∀ (n : Nat), n ≤ 8 → ∀ (k i : Nat) (out : List Int) (f : Nat), k ≤ 32 → i < vv n k → out.length + n ≤ 100 → n * 70 < f → ∃ l, l.length = n ∧ asum l = k ∧ spinetref16_Vector.l0 (60 + f) (n : Int) (k : Int) (i : Int) out = some (out ++ l) := by
 intro n
 induction n with
 | zero =>
  intro _ k i out f hk hi ho hf
  obtain ⟨f, rfl⟩ : ∃ m, f = m + 1 := ⟨f - 1, by omega⟩
  refine ⟨[], rfl, ?_, ?_⟩
  ·unfold vv at hi
   split at hi
   ·rename_i h; subst h; rfl
   ·omega
  ·show spinetref16_Vector.l0 ((60 + f) + 1) _ _ _ _ = _
   simp only [spinetref16_Vector.l0]
   rw [if_neg (by omega), List.append_nil]
 | succ n ih =>
  intro hn k i out f hk hi ho hf
  obtain ⟨f, rfl⟩ : ∃ m, f = m + 1 := ⟨f - 1, by omega⟩
  have main : ∀ (d j i f : Nat), j + d = 2 * k → i < ts n k (d + 1) → i < 4294967296 → n * 70 + d + 2 < f → ∃ l, l.length = n + 1 ∧ asum l = k ∧ spinetref16_Vector.l1 (60 + f) ((n + 1 : Nat) : Int) (k : Int) (i : Int) out (aj j) = some (out ++ l) := by
   intro d
   induction d with
   | zero =>
    intro j i f hj hi hil hf
    obtain ⟨f, rfl⟩ : ∃ m, f = m + 1 := ⟨f - 1, by omega⟩
    obtain ⟨z1, z2, z3, z4⟩ := aj_size (j := j) (by omega)
    have hv := v_at (n := n) (k := k - (j + 1) / 2) (by omega) (by omega) f
    have e1 : wrap64 (((n + 1 : Nat) : Int) - 1) = (n : Int) := by rw [sw64 (by omega) (by omega)]; omega
    have e2 : wrap64 ((k : Int) - (((j + 1) / 2 : Nat) : Int)) = ((k - (j + 1) / 2 : Nat) : Int) := by rw [sw64 (by omega) (by omega)]; omega
    have et : ts n k (0 + 1) = vv n (k - (j + 1) / 2) := by
     show 0 + vv n (k - (2 * k - 0 + 1) / 2) = _
     rw [Nat.zero_add, show 2 * k - 0 = j by omega]
    rw [et] at hi
    obtain ⟨l, l1, l2, l3⟩ := ih (by omega) (k - (j + 1) / 2) i (out ++ [aj j]) f (by omega) hi (by rw [List.length_append]; simp only [List.length_cons, List.length_nil]; omega) (by omega)
    refine ⟨aj j :: l, by simp [l1], ?_, ?_⟩
    ·show (if aj j < 0 then -aj j else aj j) + asum l = _
     rw [z2, l2]; omega
    ·show spinetref16_Vector.l1 ((60 + f) + 1) _ _ _ _ _ = _
     simp only [spinetref16_Vector.l1]
     rw [z1, Option.bind_some, e1, e2, hv, Option.bind_some, if_neg (by omega), if_pos (by omega), Option.bind_some, e2, l3, List.append_assoc]
     rfl
   | succ d ihd =>
    intro j i f hj hi hil hf
    obtain ⟨f, rfl⟩ : ∃ m, f = m + 1 := ⟨f - 1, by omega⟩
    obtain ⟨z1, z2, z3, z4⟩ := aj_size (j := j) (by omega)
    have hv := v_at (n := n) (k := k - (j + 1) / 2) (by omega) (by omega) f
    have e1 : wrap64 (((n + 1 : Nat) : Int) - 1) = (n : Int) := by rw [sw64 (by omega) (by omega)]; omega
    have e2 : wrap64 ((k : Int) - (((j + 1) / 2 : Nat) : Int)) = ((k - (j + 1) / 2 : Nat) : Int) := by rw [sw64 (by omega) (by omega)]; omega
    have et : ts n k (d + 1 + 1) = ts n k (d + 1) + vv n (k - (j + 1) / 2) := by
     show ts n k (d + 1) + vv n (k - (2 * k - (d + 1) + 1) / 2) = _
     rw [show 2 * k - (d + 1) = j by omega]
    rw [et] at hi
    by_cases hc : i < vv n (k - (j + 1) / 2)
    ·obtain ⟨l, l1, l2, l3⟩ := ih (by omega) (k - (j + 1) / 2) i (out ++ [aj j]) f (by omega) hc (by rw [List.length_append]; simp only [List.length_cons, List.length_nil]; omega) (by omega)
     refine ⟨aj j :: l, by simp [l1], ?_, ?_⟩
     ·show (if aj j < 0 then -aj j else aj j) + asum l = _
      rw [z2, l2]; omega
     ·show spinetref16_Vector.l1 ((60 + f) + 1) _ _ _ _ _ = _
      simp only [spinetref16_Vector.l1]
      rw [z1, Option.bind_some, e1, e2, hv, Option.bind_some, if_neg (by omega), if_pos (by omega), Option.bind_some, e2, l3, List.append_assoc]
      rfl
    ·obtain ⟨l, l1, l2, l3⟩ := ihd (j + 1) (i - vv n (k - (j + 1) / 2)) f (by omega) (by omega) (by omega) (by omega)
     refine ⟨l, l1, l2, ?_⟩
     have hvl := (v_lt ⟨n, by omega⟩ ⟨k - (j + 1) / 2, by omega⟩).1
     have e4 : IntKind.u64.wrap ((i : Int) - ((vv n (k - (j + 1) / 2) : Nat) : Int)) = ((i - vv n (k - (j + 1) / 2) : Nat) : Int) := by
      rw [show IntKind.u64.wrap ((i : Int) - ((vv n (k - (j + 1) / 2) : Nat) : Int)) = ((i : Int) - ((vv n (k - (j + 1) / 2) : Nat) : Int)) % 18446744073709551616 by simp [IntKind.wrap, IntKind.bits, IntKind.signed]]
      omega
     show spinetref16_Vector.l1 ((60 + f) + 1) _ _ _ _ _ = _
     simp only [spinetref16_Vector.l1]
     obtain ⟨n1, n2⟩ := aj_next (j := j) (by omega)
     rw [z1, Option.bind_some, e1, e2, hv, Option.bind_some, if_pos (by omega), Option.bind_some, e2, hv, Option.bind_some, e4]
     by_cases hp : aj j > 0
     ·rw [if_pos hp, n1 hp]; exact l3
     ·rw [if_neg hp, n2 hp]; exact l3
  have hvb := (v_lt ⟨n + 1, by omega⟩ ⟨k, by omega⟩).1
  simp only at hvb
  have hib : i < 4294967296 := by omega
  have hvt := vv_ts ⟨n, by omega⟩ ⟨k, by omega⟩
  simp only at hvt
  rw [hvt] at hi
  obtain ⟨l, l1, l2, l3⟩ := main (2 * k) 0 i f (by omega) hi hib (by omega)
  refine ⟨l, l1, l2, ?_⟩
  show spinetref16_Vector.l0 ((60 + f) + 1) _ _ _ _ = _
  simp only [spinetref16_Vector.l0]
  rw [if_pos (by omega)]
  exact l3
theorem vec_is {n k i : Nat} (hn : n ≤ 8) (hk : k ≤ 32) (hi : i < vv n k) {f : Nat} (hf : 660 ≤ f) : ∃ l, l.length = n ∧ asum l = k ∧ spinetref16_Vector.f (60 + f) (n : Int) (k : Int) (i : Int) = some l := by
 obtain ⟨l, l1, l2, l3⟩ := vec_l0 n hn k i [] f hk hi (by simp; omega) (by omega)
 exact ⟨l, l1, l2, l3⟩
theorem asum_zero (n : Nat) : asum (List.replicate n 0) = 0 := by
 induction n with
 | zero => rfl
 | succ n ih => rw [List.replicate_succ]; simp only [asum, ih]; rfl
theorem wished_8 {n k : Nat} (hn0 : 1 ≤ n) (hn : n ≤ 8) (hk : k ≤ 32) {x : Int} (hx : 0 ≤ x) {f : Nat} (hf : 660 ≤ f) : ∃ l, l.length = n ∧ asum l = k ∧ spinetref17_wished.f (60 + f + 1) (n : Int) (k : Int) x = some l := by
 by_cases h0 : k = 0
 ·subst h0
  refine ⟨List.replicate n 0, by simp, by rw [asum_zero]; rfl, ?_⟩
  simp only [spinetref17_wished.f]
  rw [if_pos (by omega), if_pos (by omega), if_pos (by omega), Int.toNat_natCast]
 ·have hv := v_at (n := n) (k := k) hn hk f
  have hv1 := (v_lt ⟨n, by omega⟩ ⟨k, by omega⟩).2 hn0
  simp only at hv1
  obtain ⟨y, hy⟩ : ∃ y : Nat, x.tmod ((vv n k : Nat) : Int) = (y : Int) ∧ y < vv n k := by
   rw [Int.tmod_eq_emod_of_nonneg hx]
   have h1 := Int.emod_nonneg x (b := ((vv n k : Nat) : Int)) (by omega)
   have h2 := Int.emod_lt_of_pos x (b := ((vv n k : Nat) : Int)) (by omega)
   exact ⟨(x % ((vv n k : Nat) : Int)).toNat, by omega, by omega⟩
  obtain ⟨l, l1, l2, l3⟩ := vec_is hn hk hy.2 hf
  refine ⟨l, l1, l2, ?_⟩
  simp only [spinetref17_wished.f]
  rw [if_neg (by omega), if_pos (by omega), hv, Option.bind_some, if_neg (by omega), hy.1, l3, Option.bind_some]
theorem wished_16 {k : Nat} (hk : k ≤ 32) {x : Int} (hx : 0 ≤ x) (hx2 : x < 18446744073709551616) {f : Nat} (hf : 660 ≤ f) : ∃ l, l.length = 16 ∧ asum l = k ∧ spinetref17_wished.f (60 + f + 2) 16 (k : Int) x = some l := by
 by_cases h0 : k = 0
 ·subst h0
  refine ⟨List.replicate 16 0, by simp, by rw [asum_zero]; rfl, ?_⟩
  simp only [spinetref17_wished.f]
  rw [if_pos (by omega), if_pos (by omega), if_pos (by omega)]
  rfl
 ·have e1 : IntKind.u64.wrap (wrap64 ((k : Int) + 1)) = (k : Int) + 1 := by rw [sw64 (by omega) (by omega), u64s (by omega) (by omega)]
  obtain ⟨a, ha, hak⟩ : ∃ a : Nat, x.tmod ((k : Int) + 1) = (a : Int) ∧ a ≤ k := by
   rw [Int.tmod_eq_emod_of_nonneg hx]
   have h1 := Int.emod_nonneg x (b := (k : Int) + 1) (by omega)
   have h2 := Int.emod_lt_of_pos x (b := (k : Int) + 1) (by omega)
   exact ⟨(x % ((k : Int) + 1)).toNat, by omega, by omega⟩
  obtain ⟨y, hy, hy0⟩ : ∃ y, IntKind.u64.wrap (x.tdiv ((k : Int) + 1)) = y ∧ 0 ≤ y := by
   refine ⟨_, rfl, ?_⟩
   rw [Int.tdiv_eq_ediv_of_nonneg hx]
   have h1 : 0 ≤ x / ((k : Int) + 1) := Int.ediv_nonneg hx (by omega)
   have h2 : x / ((k : Int) + 1) ≤ x := Int.ediv_le_self _ hx
   rw [u64s h1 (by omega)]
   exact h1
  have e3 : wrap64 (Int.tdiv 16 2) = ((8 : Nat) : Int) := by kernel_rfl
  have e4 : wrap64 (a : Int) = (a : Int) := sw64 (by omega) (by omega)
  have e5 : wrap64 ((k : Int) - (a : Int)) = ((k - a : Nat) : Int) := by rw [sw64 (by omega) (by omega)]; omega
  have e6 : wrap64 (16 - ((8 : Nat) : Int)) = ((8 : Nat) : Int) := by kernel_rfl
  obtain ⟨l, l1, l2, l3⟩ := wished_8 (n := 8) (k := a) (by omega) (by omega) (by omega) hy0 hf
  obtain ⟨m, m1, m2, m3⟩ := wished_8 (n := 8) (k := k - a) (by omega) (by omega) (by omega) hy0 hf
  refine ⟨l ++ m, by simp [l1, m1], by rw [asum_app, l2, m2]; omega, ?_⟩
  show spinetref17_wished.f ((60 + f + 1) + 1) _ _ _ = _
  rw [spinetref17_wished.f]
  rw [if_neg (by omega), if_neg (by omega), e1, if_neg (by omega), e3, ha, e4, hy, l3, Option.bind_some, if_pos (by simp only [List.length_nil]; omega), Option.bind_some, e6, e5, m3, Option.bind_some, if_pos (by simp only [List.length_append, List.length_nil]; omega)]
  rfl
def bf (b : Nat) : Int := [0, 2, 4, 8, 16].getD b 0
def bw (b : Nat) : Nat := [2, 2, 4, 8, 16].getD b 0
theorem band_is : ∀ b : Nat, b ≤ 4 → spinetref05_Band.f 20 (b : Int) = some (bf b, (bw b : Int)) := by
 intro b hb
 rcases (by omega : b = 0 ∨ b = 1 ∨ b = 2 ∨ b = 3 ∨ b = 4) with rfl | rfl | rfl | rfl | rfl <;> kernel_rfl
theorem band_call {b : Nat} (hb : b ≤ 4) (w : World) : Calls Tryd.prog 58 #[.int .i64 b] w fun e w' => e = .returned (.tuple #[.int .i64 (bf b), .int .i64 (bw b)]) ∧ Below w.heap.size w w' :=
 (spinetref05_Band.calls 20 b _ _ w (band_is b hb)).mono (by rintro e w' ⟨he, nd, rfl⟩; exact ⟨he, by repeat (first | exact Below.refl _ _ | apply below_drew1 | apply pw_below_drewN)⟩)
theorem bands_call {s : Nat} (hs : s ≤ 2) (w : World) : Calls Tryd.prog 47 #[.int .i64 s] w fun e w' => e = .returned (.int .i64 ((s + 3 : Nat) : Int)) ∧ Below w.heap.size w w' :=
 (spinetref05_Bands.calls s ((s + 3 : Nat) : Int) w (by unfold spinetref05_Bands.f; rw [sw64 (by omega) (by omega)]; rfl)).mono (by rintro e w' ⟨he, nd, rfl⟩; exact ⟨he, by repeat (first | exact Below.refl _ _ | apply below_drew1 | apply pw_below_drewN)⟩)
theorem bw_in {b : Nat} (hb : b ≤ 4) : 2 ≤ bw b ∧ bw b ≤ 16 ∧ 0 ≤ bf b ∧ bf b + bw b ≤ 32 := by
 rcases (by omega : b = 0 ∨ b = 1 ∨ b = 2 ∨ b = 3 ∨ b = 4) with rfl | rfl | rfl | rfl | rfl <;> decide
def rowOf (n : Nat) : List Int := (spinetref13_Row.f 600 (n : Int)).getD []
theorem row_is : ∀ b : Fin 5, spinetref13_Row.f 600 ((bw b.val : Nat) : Int) = some (rowOf (bw b.val)) ∧ 1 ≤ (rowOf (bw b.val)).length ∧ (rowOf (bw b.val)).length ≤ 33 ∧ ∀ x ∈ rowOf (bw b.val), 0 ≤ x ∧ x ≤ 1000 := by decide +kernel
theorem row_call {b : Nat} (hb : b ≤ 4) (w : World) : Calls Tryd.prog 81 #[.int .i64 (bw b : Int)] w fun e w' => ∃ v, e = .returned v ∧ Kd.R (Kd.int .i64) 3 w' w.heap.size (fun _ => True) v (rowOf (bw b)) ∧ Below w.heap.size w w' :=
 spinetref13_Row.calls 600 _ _ w (row_is ⟨b, by omega⟩).1
theorem held_call (e0 : Int) (w : World) : Calls Tryd.prog 48 #[.int .i64 e0] w fun e w' => e = .returned (.int .i64 (max 0 (min e0 31))) ∧ Below w.heap.size w w' :=
 (spinetref16_Held.calls e0 (max 0 (min e0 31)) w (by unfold spinetref16_Held.f; split; · congr 1; omega
                                                      split <;> (congr 1; omega))).mono (by rintro e w' ⟨he, nd, rfl⟩; exact ⟨he, by repeat (first | exact Below.refl _ _ | apply below_drew1 | apply pw_below_drewN)⟩)
def slo (t b : Nat) : Int := 64 / (bw b : Int) + (8 - t) * b
structure Fr where
 si : Bool
 it : Bool
 L : List Int
def Fr.cells (f : Fr) : List Value := .bool f.si :: .bool f.it :: f.L.map (Value.int .i64)
def ga (l : List Int) (i : Nat) : Int := l.getD i 0
theorem Fr.cells_at (f : Fr) (i : Nat) (h : i < f.L.length) : f.cells.toArray[i + 2]? = some (.int .i64 (ga f.L i)) := by
 simp [Fr.cells, ga, List.getD_eq_getElem?_getD, List.getElem?_eq_getElem h]
theorem Fr.cells_0 (f : Fr) : f.cells.toArray[0]? = some (.bool f.si) := by simp [Fr.cells]
theorem Fr.cells_1 (f : Fr) : f.cells.toArray[1]? = some (.bool f.it) := by simp [Fr.cells]
def headOf (f : Fr) : Int := 4 * ga f.L 0 + (if f.si then 1 else 0) + (if f.it then 2 else 0)
set_option maxHeartbeats 1000000 in
theorem head_call (f : Fr) (hl : f.L.length = 92) (hs : 0 ≤ ga f.L 0 ∧ ga f.L 0 ≤ 3) (w : World) : Calls Tryd.prog 52 #[.agg f.cells.toArray] w fun e w' => e = .returned (.int .i64 (headOf f)) ∧ Below w.heap.size w w' := by
 have h0 := f.cells_0
 have h1 := f.cells_1
 have h2 := f.cells_at 0 (by omega)
 unfold headOf
 obtain ⟨si, it, L⟩ := f
 simp only at h0 h1 h2 hl hs ⊢
 obtain ⟨s, hs'⟩ : ∃ s, ga L 0 = s := ⟨_, rfl⟩
 rw [hs'] at h2 hs ⊢
 obtain ⟨cs, hcs⟩ : ∃ cs, (Fr.cells ⟨si, it, L⟩).toArray = cs := ⟨_, rfl⟩
 rw [hcs] at h0 h1 h2 ⊢
 have g0 : (w.alloc (.cells cs 62)).cell? ⟨w.heap.size, 0, none⟩ = some (.bool si) := (blk_cell (blk_new w (.cells cs 62)) 0).trans h0
 have g1 : (w.alloc (.cells cs 62)).cell? ⟨w.heap.size, 1, none⟩ = some (.bool it) := (blk_cell (blk_new w (.cells cs 62)) 1).trans h1
 have g2 : (w.alloc (.cells cs 62)).cell? ⟨w.heap.size, 2, none⟩ = some (.int .i64 s) := (blk_cell (blk_new w (.cells cs 62)) 2).trans h2
 have HB := Aside0.mk (below_alloc (Below.refl w.heap.size w) (.cells cs 62))
 have e1 : wrap64 (4 * s) = 4 * s := sw64 (by omega) (by omega)
 have e2 : wrap64 (4 * s + 1) = 4 * s + 1 := sw64 (by omega) (by omega)
 have e3 : wrap64 (4 * s + 2) = 4 * s + 2 := sw64 (by omega) (by omega)
 have e4 : wrap64 (4 * s + 1 + 2) = 4 * s + 1 + 2 := sw64 (by omega) (by omega)
 clear hcs h0 h1 h2 hs' hl
 cases si <;> cases it
 all_goals
  go_enter Tryd.func52, Tryd.ntmps52
  go_wp2
  go_ret
  exact ⟨by simp, (by repeat (first | exact HB.out | apply below_drew1 | apply pw_below_drewN))⟩
theorem nums_at' (l : List Int) (i : Nat) (h : i < l.length) : (l.map (Value.int .i64)).toArray[i]? = some (.int .i64 (ga l i)) := by
 simp [ga, List.getD_eq_getElem?_getD, List.getElem?_eq_getElem h]
def guessOf (f : Fr) (prev : List Int) (c b : Nat) : Int := if f.it then (if b = 0 then 8 else ga f.L (3 + (c * 5 + (b - 1)))) else ga prev (c * 5 + b)
set_option maxHeartbeats 1000000 in
theorem guess_000 (si : Bool) (L prev : List Int) (hl : L.length = 92) (hp : prev.length = 10) (w : World) : Calls Tryd.prog 49 #[.agg (Fr.cells ⟨si, false, L⟩).toArray, .agg (prev.map (Value.int .i64)).toArray, .int .i64 0, .int .i64 0] w fun e w' => e = .returned (.int .i64 (ga prev 0)) ∧ Below w.heap.size w w' := by
 have h1 := (Fr.cells_1 ⟨si, false, L⟩)
 have h2 := (Fr.cells_at ⟨si, false, L⟩ 3 (by show _ < L.length; omega))
 have h3 := nums_at' prev 0 (by omega)
 obtain ⟨cs, hcs⟩ : ∃ cs, (Fr.cells ⟨si, false, L⟩).toArray = cs := ⟨_, rfl⟩
 obtain ⟨ps, hps⟩ : ∃ cs, (prev.map (Value.int .i64)).toArray = cs := ⟨_, rfl⟩
 rw [hcs] at h1 h2 ⊢
 rw [hps] at h3 ⊢
 have g1 : ((w.alloc (.cells cs 62)).alloc (.cells ps 55)).cell? ⟨w.heap.size, 1, none⟩ = some (.bool false) := (World.cell?_alloc_lt _ _ _ (by simp)).trans ((blk_cell (blk_new w (.cells cs 62)) 1).trans h1)
 have g2 : ((w.alloc (.cells cs 62)).alloc (.cells ps 55)).cell? ⟨w.heap.size, 5, none⟩ = some (.int .i64 (ga L 3)) := (World.cell?_alloc_lt _ _ _ (by simp)).trans ((blk_cell (blk_new w (.cells cs 62)) 5).trans h2)
 have g3 : ((w.alloc (.cells cs 62)).alloc (.cells ps 55)).cell? ⟨w.heap.size + 1, 0, none⟩ = some (.int .i64 (ga prev 0)) := by
  have := (blk_cell (blk_new (w.alloc (.cells cs 62)) (.cells ps 55)) 0).trans h3
  rwa [show (w.alloc (.cells cs 62)).heap.size = w.heap.size + 1 by simp [World.alloc_eq]] at this
 have HB := Aside0.mk (below_alloc (below_alloc (Below.refl w.heap.size w) (.cells cs 62)) (.cells ps 55))
 clear hcs hps h1 h2 h3 hl hp
 go_enter Tryd.func49, Tryd.ntmps49
 go_wp2
 go_ret
 exact ⟨rfl, (by repeat (first | exact HB.out | apply below_drew1 | apply pw_below_drewN))⟩
set_option maxHeartbeats 1000000 in
theorem guess_001 (si : Bool) (L prev : List Int) (hl : L.length = 92) (hp : prev.length = 10) (w : World) : Calls Tryd.prog 49 #[.agg (Fr.cells ⟨si, true, L⟩).toArray, .agg (prev.map (Value.int .i64)).toArray, .int .i64 0, .int .i64 0] w fun e w' => e = .returned (.int .i64 (8)) ∧ Below w.heap.size w w' := by
 have h1 := (Fr.cells_1 ⟨si, true, L⟩)
 have h2 := (Fr.cells_at ⟨si, true, L⟩ 3 (by show _ < L.length; omega))
 have h3 := nums_at' prev 0 (by omega)
 obtain ⟨cs, hcs⟩ : ∃ cs, (Fr.cells ⟨si, true, L⟩).toArray = cs := ⟨_, rfl⟩
 obtain ⟨ps, hps⟩ : ∃ cs, (prev.map (Value.int .i64)).toArray = cs := ⟨_, rfl⟩
 rw [hcs] at h1 h2 ⊢
 rw [hps] at h3 ⊢
 have g1 : ((w.alloc (.cells cs 62)).alloc (.cells ps 55)).cell? ⟨w.heap.size, 1, none⟩ = some (.bool true) := (World.cell?_alloc_lt _ _ _ (by simp)).trans ((blk_cell (blk_new w (.cells cs 62)) 1).trans h1)
 have g2 : ((w.alloc (.cells cs 62)).alloc (.cells ps 55)).cell? ⟨w.heap.size, 5, none⟩ = some (.int .i64 (ga L 3)) := (World.cell?_alloc_lt _ _ _ (by simp)).trans ((blk_cell (blk_new w (.cells cs 62)) 5).trans h2)
 have g3 : ((w.alloc (.cells cs 62)).alloc (.cells ps 55)).cell? ⟨w.heap.size + 1, 0, none⟩ = some (.int .i64 (ga prev 0)) := by
  have := (blk_cell (blk_new (w.alloc (.cells cs 62)) (.cells ps 55)) 0).trans h3
  rwa [show (w.alloc (.cells cs 62)).heap.size = w.heap.size + 1 by simp [World.alloc_eq]] at this
 have HB := Aside0.mk (below_alloc (below_alloc (Below.refl w.heap.size w) (.cells cs 62)) (.cells ps 55))
 clear hcs hps h1 h2 h3 hl hp
 go_enter Tryd.func49, Tryd.ntmps49
 go_wp2
 go_ret
 exact ⟨rfl, (by repeat (first | exact HB.out | apply below_drew1 | apply pw_below_drewN))⟩
set_option maxHeartbeats 1000000 in
theorem guess_010 (si : Bool) (L prev : List Int) (hl : L.length = 92) (hp : prev.length = 10) (w : World) : Calls Tryd.prog 49 #[.agg (Fr.cells ⟨si, false, L⟩).toArray, .agg (prev.map (Value.int .i64)).toArray, .int .i64 0, .int .i64 1] w fun e w' => e = .returned (.int .i64 (ga prev 1)) ∧ Below w.heap.size w w' := by
 have h1 := (Fr.cells_1 ⟨si, false, L⟩)
 have h2 := (Fr.cells_at ⟨si, false, L⟩ 3 (by show _ < L.length; omega))
 have h3 := nums_at' prev 1 (by omega)
 obtain ⟨cs, hcs⟩ : ∃ cs, (Fr.cells ⟨si, false, L⟩).toArray = cs := ⟨_, rfl⟩
 obtain ⟨ps, hps⟩ : ∃ cs, (prev.map (Value.int .i64)).toArray = cs := ⟨_, rfl⟩
 rw [hcs] at h1 h2 ⊢
 rw [hps] at h3 ⊢
 have g1 : ((w.alloc (.cells cs 62)).alloc (.cells ps 55)).cell? ⟨w.heap.size, 1, none⟩ = some (.bool false) := (World.cell?_alloc_lt _ _ _ (by simp)).trans ((blk_cell (blk_new w (.cells cs 62)) 1).trans h1)
 have g2 : ((w.alloc (.cells cs 62)).alloc (.cells ps 55)).cell? ⟨w.heap.size, 5, none⟩ = some (.int .i64 (ga L 3)) := (World.cell?_alloc_lt _ _ _ (by simp)).trans ((blk_cell (blk_new w (.cells cs 62)) 5).trans h2)
 have g3 : ((w.alloc (.cells cs 62)).alloc (.cells ps 55)).cell? ⟨w.heap.size + 1, 1, none⟩ = some (.int .i64 (ga prev 1)) := by
  have := (blk_cell (blk_new (w.alloc (.cells cs 62)) (.cells ps 55)) 1).trans h3
  rwa [show (w.alloc (.cells cs 62)).heap.size = w.heap.size + 1 by simp [World.alloc_eq]] at this
 have HB := Aside0.mk (below_alloc (below_alloc (Below.refl w.heap.size w) (.cells cs 62)) (.cells ps 55))
 clear hcs hps h1 h2 h3 hl hp
 go_enter Tryd.func49, Tryd.ntmps49
 go_wp2
 go_ret
 exact ⟨rfl, (by repeat (first | exact HB.out | apply below_drew1 | apply pw_below_drewN))⟩
set_option maxHeartbeats 1000000 in
theorem guess_011 (si : Bool) (L prev : List Int) (hl : L.length = 92) (hp : prev.length = 10) (w : World) : Calls Tryd.prog 49 #[.agg (Fr.cells ⟨si, true, L⟩).toArray, .agg (prev.map (Value.int .i64)).toArray, .int .i64 0, .int .i64 1] w fun e w' => e = .returned (.int .i64 (ga L 3)) ∧ Below w.heap.size w w' := by
 have h1 := (Fr.cells_1 ⟨si, true, L⟩)
 have h2 := (Fr.cells_at ⟨si, true, L⟩ 3 (by show _ < L.length; omega))
 have h3 := nums_at' prev 1 (by omega)
 obtain ⟨cs, hcs⟩ : ∃ cs, (Fr.cells ⟨si, true, L⟩).toArray = cs := ⟨_, rfl⟩
 obtain ⟨ps, hps⟩ : ∃ cs, (prev.map (Value.int .i64)).toArray = cs := ⟨_, rfl⟩
 rw [hcs] at h1 h2 ⊢
 rw [hps] at h3 ⊢
 have g1 : ((w.alloc (.cells cs 62)).alloc (.cells ps 55)).cell? ⟨w.heap.size, 1, none⟩ = some (.bool true) := (World.cell?_alloc_lt _ _ _ (by simp)).trans ((blk_cell (blk_new w (.cells cs 62)) 1).trans h1)
 have g2 : ((w.alloc (.cells cs 62)).alloc (.cells ps 55)).cell? ⟨w.heap.size, 5, none⟩ = some (.int .i64 (ga L 3)) := (World.cell?_alloc_lt _ _ _ (by simp)).trans ((blk_cell (blk_new w (.cells cs 62)) 5).trans h2)
 have g3 : ((w.alloc (.cells cs 62)).alloc (.cells ps 55)).cell? ⟨w.heap.size + 1, 1, none⟩ = some (.int .i64 (ga prev 1)) := by
  have := (blk_cell (blk_new (w.alloc (.cells cs 62)) (.cells ps 55)) 1).trans h3
  rwa [show (w.alloc (.cells cs 62)).heap.size = w.heap.size + 1 by simp [World.alloc_eq]] at this
 have HB := Aside0.mk (below_alloc (below_alloc (Below.refl w.heap.size w) (.cells cs 62)) (.cells ps 55))
 clear hcs hps h1 h2 h3 hl hp
 go_enter Tryd.func49, Tryd.ntmps49
 go_wp2
 go_ret
 exact ⟨rfl, (by repeat (first | exact HB.out | apply below_drew1 | apply pw_below_drewN))⟩
set_option maxHeartbeats 1000000 in
theorem guess_020 (si : Bool) (L prev : List Int) (hl : L.length = 92) (hp : prev.length = 10) (w : World) : Calls Tryd.prog 49 #[.agg (Fr.cells ⟨si, false, L⟩).toArray, .agg (prev.map (Value.int .i64)).toArray, .int .i64 0, .int .i64 2] w fun e w' => e = .returned (.int .i64 (ga prev 2)) ∧ Below w.heap.size w w' := by
 have h1 := (Fr.cells_1 ⟨si, false, L⟩)
 have h2 := (Fr.cells_at ⟨si, false, L⟩ 4 (by show _ < L.length; omega))
 have h3 := nums_at' prev 2 (by omega)
 obtain ⟨cs, hcs⟩ : ∃ cs, (Fr.cells ⟨si, false, L⟩).toArray = cs := ⟨_, rfl⟩
 obtain ⟨ps, hps⟩ : ∃ cs, (prev.map (Value.int .i64)).toArray = cs := ⟨_, rfl⟩
 rw [hcs] at h1 h2 ⊢
 rw [hps] at h3 ⊢
 have g1 : ((w.alloc (.cells cs 62)).alloc (.cells ps 55)).cell? ⟨w.heap.size, 1, none⟩ = some (.bool false) := (World.cell?_alloc_lt _ _ _ (by simp)).trans ((blk_cell (blk_new w (.cells cs 62)) 1).trans h1)
 have g2 : ((w.alloc (.cells cs 62)).alloc (.cells ps 55)).cell? ⟨w.heap.size, 6, none⟩ = some (.int .i64 (ga L 4)) := (World.cell?_alloc_lt _ _ _ (by simp)).trans ((blk_cell (blk_new w (.cells cs 62)) 6).trans h2)
 have g3 : ((w.alloc (.cells cs 62)).alloc (.cells ps 55)).cell? ⟨w.heap.size + 1, 2, none⟩ = some (.int .i64 (ga prev 2)) := by
  have := (blk_cell (blk_new (w.alloc (.cells cs 62)) (.cells ps 55)) 2).trans h3
  rwa [show (w.alloc (.cells cs 62)).heap.size = w.heap.size + 1 by simp [World.alloc_eq]] at this
 have HB := Aside0.mk (below_alloc (below_alloc (Below.refl w.heap.size w) (.cells cs 62)) (.cells ps 55))
 clear hcs hps h1 h2 h3 hl hp
 go_enter Tryd.func49, Tryd.ntmps49
 go_wp2
 go_ret
 exact ⟨rfl, (by repeat (first | exact HB.out | apply below_drew1 | apply pw_below_drewN))⟩
set_option maxHeartbeats 1000000 in
theorem guess_021 (si : Bool) (L prev : List Int) (hl : L.length = 92) (hp : prev.length = 10) (w : World) : Calls Tryd.prog 49 #[.agg (Fr.cells ⟨si, true, L⟩).toArray, .agg (prev.map (Value.int .i64)).toArray, .int .i64 0, .int .i64 2] w fun e w' => e = .returned (.int .i64 (ga L 4)) ∧ Below w.heap.size w w' := by
 have h1 := (Fr.cells_1 ⟨si, true, L⟩)
 have h2 := (Fr.cells_at ⟨si, true, L⟩ 4 (by show _ < L.length; omega))
 have h3 := nums_at' prev 2 (by omega)
 obtain ⟨cs, hcs⟩ : ∃ cs, (Fr.cells ⟨si, true, L⟩).toArray = cs := ⟨_, rfl⟩
 obtain ⟨ps, hps⟩ : ∃ cs, (prev.map (Value.int .i64)).toArray = cs := ⟨_, rfl⟩
 rw [hcs] at h1 h2 ⊢
 rw [hps] at h3 ⊢
 have g1 : ((w.alloc (.cells cs 62)).alloc (.cells ps 55)).cell? ⟨w.heap.size, 1, none⟩ = some (.bool true) := (World.cell?_alloc_lt _ _ _ (by simp)).trans ((blk_cell (blk_new w (.cells cs 62)) 1).trans h1)
 have g2 : ((w.alloc (.cells cs 62)).alloc (.cells ps 55)).cell? ⟨w.heap.size, 6, none⟩ = some (.int .i64 (ga L 4)) := (World.cell?_alloc_lt _ _ _ (by simp)).trans ((blk_cell (blk_new w (.cells cs 62)) 6).trans h2)
 have g3 : ((w.alloc (.cells cs 62)).alloc (.cells ps 55)).cell? ⟨w.heap.size + 1, 2, none⟩ = some (.int .i64 (ga prev 2)) := by
  have := (blk_cell (blk_new (w.alloc (.cells cs 62)) (.cells ps 55)) 2).trans h3
  rwa [show (w.alloc (.cells cs 62)).heap.size = w.heap.size + 1 by simp [World.alloc_eq]] at this
 have HB := Aside0.mk (below_alloc (below_alloc (Below.refl w.heap.size w) (.cells cs 62)) (.cells ps 55))
 clear hcs hps h1 h2 h3 hl hp
 go_enter Tryd.func49, Tryd.ntmps49
 go_wp2
 go_ret
 exact ⟨rfl, (by repeat (first | exact HB.out | apply below_drew1 | apply pw_below_drewN))⟩
set_option maxHeartbeats 1000000 in
theorem guess_030 (si : Bool) (L prev : List Int) (hl : L.length = 92) (hp : prev.length = 10) (w : World) : Calls Tryd.prog 49 #[.agg (Fr.cells ⟨si, false, L⟩).toArray, .agg (prev.map (Value.int .i64)).toArray, .int .i64 0, .int .i64 3] w fun e w' => e = .returned (.int .i64 (ga prev 3)) ∧ Below w.heap.size w w' := by
 have h1 := (Fr.cells_1 ⟨si, false, L⟩)
 have h2 := (Fr.cells_at ⟨si, false, L⟩ 5 (by show _ < L.length; omega))
 have h3 := nums_at' prev 3 (by omega)
 obtain ⟨cs, hcs⟩ : ∃ cs, (Fr.cells ⟨si, false, L⟩).toArray = cs := ⟨_, rfl⟩
 obtain ⟨ps, hps⟩ : ∃ cs, (prev.map (Value.int .i64)).toArray = cs := ⟨_, rfl⟩
 rw [hcs] at h1 h2 ⊢
 rw [hps] at h3 ⊢
 have g1 : ((w.alloc (.cells cs 62)).alloc (.cells ps 55)).cell? ⟨w.heap.size, 1, none⟩ = some (.bool false) := (World.cell?_alloc_lt _ _ _ (by simp)).trans ((blk_cell (blk_new w (.cells cs 62)) 1).trans h1)
 have g2 : ((w.alloc (.cells cs 62)).alloc (.cells ps 55)).cell? ⟨w.heap.size, 7, none⟩ = some (.int .i64 (ga L 5)) := (World.cell?_alloc_lt _ _ _ (by simp)).trans ((blk_cell (blk_new w (.cells cs 62)) 7).trans h2)
 have g3 : ((w.alloc (.cells cs 62)).alloc (.cells ps 55)).cell? ⟨w.heap.size + 1, 3, none⟩ = some (.int .i64 (ga prev 3)) := by
  have := (blk_cell (blk_new (w.alloc (.cells cs 62)) (.cells ps 55)) 3).trans h3
  rwa [show (w.alloc (.cells cs 62)).heap.size = w.heap.size + 1 by simp [World.alloc_eq]] at this
 have HB := Aside0.mk (below_alloc (below_alloc (Below.refl w.heap.size w) (.cells cs 62)) (.cells ps 55))
 clear hcs hps h1 h2 h3 hl hp
 go_enter Tryd.func49, Tryd.ntmps49
 go_wp2
 go_ret
 exact ⟨rfl, (by repeat (first | exact HB.out | apply below_drew1 | apply pw_below_drewN))⟩
set_option maxHeartbeats 1000000 in
theorem guess_031 (si : Bool) (L prev : List Int) (hl : L.length = 92) (hp : prev.length = 10) (w : World) : Calls Tryd.prog 49 #[.agg (Fr.cells ⟨si, true, L⟩).toArray, .agg (prev.map (Value.int .i64)).toArray, .int .i64 0, .int .i64 3] w fun e w' => e = .returned (.int .i64 (ga L 5)) ∧ Below w.heap.size w w' := by
 have h1 := (Fr.cells_1 ⟨si, true, L⟩)
 have h2 := (Fr.cells_at ⟨si, true, L⟩ 5 (by show _ < L.length; omega))
 have h3 := nums_at' prev 3 (by omega)
 obtain ⟨cs, hcs⟩ : ∃ cs, (Fr.cells ⟨si, true, L⟩).toArray = cs := ⟨_, rfl⟩
 obtain ⟨ps, hps⟩ : ∃ cs, (prev.map (Value.int .i64)).toArray = cs := ⟨_, rfl⟩
 rw [hcs] at h1 h2 ⊢
 rw [hps] at h3 ⊢
 have g1 : ((w.alloc (.cells cs 62)).alloc (.cells ps 55)).cell? ⟨w.heap.size, 1, none⟩ = some (.bool true) := (World.cell?_alloc_lt _ _ _ (by simp)).trans ((blk_cell (blk_new w (.cells cs 62)) 1).trans h1)
 have g2 : ((w.alloc (.cells cs 62)).alloc (.cells ps 55)).cell? ⟨w.heap.size, 7, none⟩ = some (.int .i64 (ga L 5)) := (World.cell?_alloc_lt _ _ _ (by simp)).trans ((blk_cell (blk_new w (.cells cs 62)) 7).trans h2)
 have g3 : ((w.alloc (.cells cs 62)).alloc (.cells ps 55)).cell? ⟨w.heap.size + 1, 3, none⟩ = some (.int .i64 (ga prev 3)) := by
  have := (blk_cell (blk_new (w.alloc (.cells cs 62)) (.cells ps 55)) 3).trans h3
  rwa [show (w.alloc (.cells cs 62)).heap.size = w.heap.size + 1 by simp [World.alloc_eq]] at this
 have HB := Aside0.mk (below_alloc (below_alloc (Below.refl w.heap.size w) (.cells cs 62)) (.cells ps 55))
 clear hcs hps h1 h2 h3 hl hp
 go_enter Tryd.func49, Tryd.ntmps49
 go_wp2
 go_ret
 exact ⟨rfl, (by repeat (first | exact HB.out | apply below_drew1 | apply pw_below_drewN))⟩
set_option maxHeartbeats 1000000 in
theorem guess_040 (si : Bool) (L prev : List Int) (hl : L.length = 92) (hp : prev.length = 10) (w : World) : Calls Tryd.prog 49 #[.agg (Fr.cells ⟨si, false, L⟩).toArray, .agg (prev.map (Value.int .i64)).toArray, .int .i64 0, .int .i64 4] w fun e w' => e = .returned (.int .i64 (ga prev 4)) ∧ Below w.heap.size w w' := by
 have h1 := (Fr.cells_1 ⟨si, false, L⟩)
 have h2 := (Fr.cells_at ⟨si, false, L⟩ 6 (by show _ < L.length; omega))
 have h3 := nums_at' prev 4 (by omega)
 obtain ⟨cs, hcs⟩ : ∃ cs, (Fr.cells ⟨si, false, L⟩).toArray = cs := ⟨_, rfl⟩
 obtain ⟨ps, hps⟩ : ∃ cs, (prev.map (Value.int .i64)).toArray = cs := ⟨_, rfl⟩
 rw [hcs] at h1 h2 ⊢
 rw [hps] at h3 ⊢
 have g1 : ((w.alloc (.cells cs 62)).alloc (.cells ps 55)).cell? ⟨w.heap.size, 1, none⟩ = some (.bool false) := (World.cell?_alloc_lt _ _ _ (by simp)).trans ((blk_cell (blk_new w (.cells cs 62)) 1).trans h1)
 have g2 : ((w.alloc (.cells cs 62)).alloc (.cells ps 55)).cell? ⟨w.heap.size, 8, none⟩ = some (.int .i64 (ga L 6)) := (World.cell?_alloc_lt _ _ _ (by simp)).trans ((blk_cell (blk_new w (.cells cs 62)) 8).trans h2)
 have g3 : ((w.alloc (.cells cs 62)).alloc (.cells ps 55)).cell? ⟨w.heap.size + 1, 4, none⟩ = some (.int .i64 (ga prev 4)) := by
  have := (blk_cell (blk_new (w.alloc (.cells cs 62)) (.cells ps 55)) 4).trans h3
  rwa [show (w.alloc (.cells cs 62)).heap.size = w.heap.size + 1 by simp [World.alloc_eq]] at this
 have HB := Aside0.mk (below_alloc (below_alloc (Below.refl w.heap.size w) (.cells cs 62)) (.cells ps 55))
 clear hcs hps h1 h2 h3 hl hp
 go_enter Tryd.func49, Tryd.ntmps49
 go_wp2
 go_ret
 exact ⟨rfl, (by repeat (first | exact HB.out | apply below_drew1 | apply pw_below_drewN))⟩
set_option maxHeartbeats 1000000 in
theorem guess_041 (si : Bool) (L prev : List Int) (hl : L.length = 92) (hp : prev.length = 10) (w : World) : Calls Tryd.prog 49 #[.agg (Fr.cells ⟨si, true, L⟩).toArray, .agg (prev.map (Value.int .i64)).toArray, .int .i64 0, .int .i64 4] w fun e w' => e = .returned (.int .i64 (ga L 6)) ∧ Below w.heap.size w w' := by
 have h1 := (Fr.cells_1 ⟨si, true, L⟩)
 have h2 := (Fr.cells_at ⟨si, true, L⟩ 6 (by show _ < L.length; omega))
 have h3 := nums_at' prev 4 (by omega)
 obtain ⟨cs, hcs⟩ : ∃ cs, (Fr.cells ⟨si, true, L⟩).toArray = cs := ⟨_, rfl⟩
 obtain ⟨ps, hps⟩ : ∃ cs, (prev.map (Value.int .i64)).toArray = cs := ⟨_, rfl⟩
 rw [hcs] at h1 h2 ⊢
 rw [hps] at h3 ⊢
 have g1 : ((w.alloc (.cells cs 62)).alloc (.cells ps 55)).cell? ⟨w.heap.size, 1, none⟩ = some (.bool true) := (World.cell?_alloc_lt _ _ _ (by simp)).trans ((blk_cell (blk_new w (.cells cs 62)) 1).trans h1)
 have g2 : ((w.alloc (.cells cs 62)).alloc (.cells ps 55)).cell? ⟨w.heap.size, 8, none⟩ = some (.int .i64 (ga L 6)) := (World.cell?_alloc_lt _ _ _ (by simp)).trans ((blk_cell (blk_new w (.cells cs 62)) 8).trans h2)
 have g3 : ((w.alloc (.cells cs 62)).alloc (.cells ps 55)).cell? ⟨w.heap.size + 1, 4, none⟩ = some (.int .i64 (ga prev 4)) := by
  have := (blk_cell (blk_new (w.alloc (.cells cs 62)) (.cells ps 55)) 4).trans h3
  rwa [show (w.alloc (.cells cs 62)).heap.size = w.heap.size + 1 by simp [World.alloc_eq]] at this
 have HB := Aside0.mk (below_alloc (below_alloc (Below.refl w.heap.size w) (.cells cs 62)) (.cells ps 55))
 clear hcs hps h1 h2 h3 hl hp
 go_enter Tryd.func49, Tryd.ntmps49
 go_wp2
 go_ret
 exact ⟨rfl, (by repeat (first | exact HB.out | apply below_drew1 | apply pw_below_drewN))⟩
set_option maxHeartbeats 1000000 in
theorem guess_100 (si : Bool) (L prev : List Int) (hl : L.length = 92) (hp : prev.length = 10) (w : World) : Calls Tryd.prog 49 #[.agg (Fr.cells ⟨si, false, L⟩).toArray, .agg (prev.map (Value.int .i64)).toArray, .int .i64 1, .int .i64 0] w fun e w' => e = .returned (.int .i64 (ga prev 5)) ∧ Below w.heap.size w w' := by
 have h1 := (Fr.cells_1 ⟨si, false, L⟩)
 have h2 := (Fr.cells_at ⟨si, false, L⟩ 8 (by show _ < L.length; omega))
 have h3 := nums_at' prev 5 (by omega)
 obtain ⟨cs, hcs⟩ : ∃ cs, (Fr.cells ⟨si, false, L⟩).toArray = cs := ⟨_, rfl⟩
 obtain ⟨ps, hps⟩ : ∃ cs, (prev.map (Value.int .i64)).toArray = cs := ⟨_, rfl⟩
 rw [hcs] at h1 h2 ⊢
 rw [hps] at h3 ⊢
 have g1 : ((w.alloc (.cells cs 62)).alloc (.cells ps 55)).cell? ⟨w.heap.size, 1, none⟩ = some (.bool false) := (World.cell?_alloc_lt _ _ _ (by simp)).trans ((blk_cell (blk_new w (.cells cs 62)) 1).trans h1)
 have g2 : ((w.alloc (.cells cs 62)).alloc (.cells ps 55)).cell? ⟨w.heap.size, 10, none⟩ = some (.int .i64 (ga L 8)) := (World.cell?_alloc_lt _ _ _ (by simp)).trans ((blk_cell (blk_new w (.cells cs 62)) 10).trans h2)
 have g3 : ((w.alloc (.cells cs 62)).alloc (.cells ps 55)).cell? ⟨w.heap.size + 1, 5, none⟩ = some (.int .i64 (ga prev 5)) := by
  have := (blk_cell (blk_new (w.alloc (.cells cs 62)) (.cells ps 55)) 5).trans h3
  rwa [show (w.alloc (.cells cs 62)).heap.size = w.heap.size + 1 by simp [World.alloc_eq]] at this
 have HB := Aside0.mk (below_alloc (below_alloc (Below.refl w.heap.size w) (.cells cs 62)) (.cells ps 55))
 clear hcs hps h1 h2 h3 hl hp
 go_enter Tryd.func49, Tryd.ntmps49
 go_wp2
 go_ret
 exact ⟨rfl, (by repeat (first | exact HB.out | apply below_drew1 | apply pw_below_drewN))⟩
set_option maxHeartbeats 1000000 in
theorem guess_101 (si : Bool) (L prev : List Int) (hl : L.length = 92) (hp : prev.length = 10) (w : World) : Calls Tryd.prog 49 #[.agg (Fr.cells ⟨si, true, L⟩).toArray, .agg (prev.map (Value.int .i64)).toArray, .int .i64 1, .int .i64 0] w fun e w' => e = .returned (.int .i64 (8)) ∧ Below w.heap.size w w' := by
 have h1 := (Fr.cells_1 ⟨si, true, L⟩)
 have h2 := (Fr.cells_at ⟨si, true, L⟩ 8 (by show _ < L.length; omega))
 have h3 := nums_at' prev 5 (by omega)
 obtain ⟨cs, hcs⟩ : ∃ cs, (Fr.cells ⟨si, true, L⟩).toArray = cs := ⟨_, rfl⟩
 obtain ⟨ps, hps⟩ : ∃ cs, (prev.map (Value.int .i64)).toArray = cs := ⟨_, rfl⟩
 rw [hcs] at h1 h2 ⊢
 rw [hps] at h3 ⊢
 have g1 : ((w.alloc (.cells cs 62)).alloc (.cells ps 55)).cell? ⟨w.heap.size, 1, none⟩ = some (.bool true) := (World.cell?_alloc_lt _ _ _ (by simp)).trans ((blk_cell (blk_new w (.cells cs 62)) 1).trans h1)
 have g2 : ((w.alloc (.cells cs 62)).alloc (.cells ps 55)).cell? ⟨w.heap.size, 10, none⟩ = some (.int .i64 (ga L 8)) := (World.cell?_alloc_lt _ _ _ (by simp)).trans ((blk_cell (blk_new w (.cells cs 62)) 10).trans h2)
 have g3 : ((w.alloc (.cells cs 62)).alloc (.cells ps 55)).cell? ⟨w.heap.size + 1, 5, none⟩ = some (.int .i64 (ga prev 5)) := by
  have := (blk_cell (blk_new (w.alloc (.cells cs 62)) (.cells ps 55)) 5).trans h3
  rwa [show (w.alloc (.cells cs 62)).heap.size = w.heap.size + 1 by simp [World.alloc_eq]] at this
 have HB := Aside0.mk (below_alloc (below_alloc (Below.refl w.heap.size w) (.cells cs 62)) (.cells ps 55))
 clear hcs hps h1 h2 h3 hl hp
 go_enter Tryd.func49, Tryd.ntmps49
 go_wp2
 go_ret
 exact ⟨rfl, (by repeat (first | exact HB.out | apply below_drew1 | apply pw_below_drewN))⟩
set_option maxHeartbeats 1000000 in
theorem guess_110 (si : Bool) (L prev : List Int) (hl : L.length = 92) (hp : prev.length = 10) (w : World) : Calls Tryd.prog 49 #[.agg (Fr.cells ⟨si, false, L⟩).toArray, .agg (prev.map (Value.int .i64)).toArray, .int .i64 1, .int .i64 1] w fun e w' => e = .returned (.int .i64 (ga prev 6)) ∧ Below w.heap.size w w' := by
 have h1 := (Fr.cells_1 ⟨si, false, L⟩)
 have h2 := (Fr.cells_at ⟨si, false, L⟩ 8 (by show _ < L.length; omega))
 have h3 := nums_at' prev 6 (by omega)
 obtain ⟨cs, hcs⟩ : ∃ cs, (Fr.cells ⟨si, false, L⟩).toArray = cs := ⟨_, rfl⟩
 obtain ⟨ps, hps⟩ : ∃ cs, (prev.map (Value.int .i64)).toArray = cs := ⟨_, rfl⟩
 rw [hcs] at h1 h2 ⊢
 rw [hps] at h3 ⊢
 have g1 : ((w.alloc (.cells cs 62)).alloc (.cells ps 55)).cell? ⟨w.heap.size, 1, none⟩ = some (.bool false) := (World.cell?_alloc_lt _ _ _ (by simp)).trans ((blk_cell (blk_new w (.cells cs 62)) 1).trans h1)
 have g2 : ((w.alloc (.cells cs 62)).alloc (.cells ps 55)).cell? ⟨w.heap.size, 10, none⟩ = some (.int .i64 (ga L 8)) := (World.cell?_alloc_lt _ _ _ (by simp)).trans ((blk_cell (blk_new w (.cells cs 62)) 10).trans h2)
 have g3 : ((w.alloc (.cells cs 62)).alloc (.cells ps 55)).cell? ⟨w.heap.size + 1, 6, none⟩ = some (.int .i64 (ga prev 6)) := by
  have := (blk_cell (blk_new (w.alloc (.cells cs 62)) (.cells ps 55)) 6).trans h3
  rwa [show (w.alloc (.cells cs 62)).heap.size = w.heap.size + 1 by simp [World.alloc_eq]] at this
 have HB := Aside0.mk (below_alloc (below_alloc (Below.refl w.heap.size w) (.cells cs 62)) (.cells ps 55))
 clear hcs hps h1 h2 h3 hl hp
 go_enter Tryd.func49, Tryd.ntmps49
 go_wp2
 go_ret
 exact ⟨rfl, (by repeat (first | exact HB.out | apply below_drew1 | apply pw_below_drewN))⟩
set_option maxHeartbeats 1000000 in
theorem guess_111 (si : Bool) (L prev : List Int) (hl : L.length = 92) (hp : prev.length = 10) (w : World) : Calls Tryd.prog 49 #[.agg (Fr.cells ⟨si, true, L⟩).toArray, .agg (prev.map (Value.int .i64)).toArray, .int .i64 1, .int .i64 1] w fun e w' => e = .returned (.int .i64 (ga L 8)) ∧ Below w.heap.size w w' := by
 have h1 := (Fr.cells_1 ⟨si, true, L⟩)
 have h2 := (Fr.cells_at ⟨si, true, L⟩ 8 (by show _ < L.length; omega))
 have h3 := nums_at' prev 6 (by omega)
 obtain ⟨cs, hcs⟩ : ∃ cs, (Fr.cells ⟨si, true, L⟩).toArray = cs := ⟨_, rfl⟩
 obtain ⟨ps, hps⟩ : ∃ cs, (prev.map (Value.int .i64)).toArray = cs := ⟨_, rfl⟩
 rw [hcs] at h1 h2 ⊢
 rw [hps] at h3 ⊢
 have g1 : ((w.alloc (.cells cs 62)).alloc (.cells ps 55)).cell? ⟨w.heap.size, 1, none⟩ = some (.bool true) := (World.cell?_alloc_lt _ _ _ (by simp)).trans ((blk_cell (blk_new w (.cells cs 62)) 1).trans h1)
 have g2 : ((w.alloc (.cells cs 62)).alloc (.cells ps 55)).cell? ⟨w.heap.size, 10, none⟩ = some (.int .i64 (ga L 8)) := (World.cell?_alloc_lt _ _ _ (by simp)).trans ((blk_cell (blk_new w (.cells cs 62)) 10).trans h2)
 have g3 : ((w.alloc (.cells cs 62)).alloc (.cells ps 55)).cell? ⟨w.heap.size + 1, 6, none⟩ = some (.int .i64 (ga prev 6)) := by
  have := (blk_cell (blk_new (w.alloc (.cells cs 62)) (.cells ps 55)) 6).trans h3
  rwa [show (w.alloc (.cells cs 62)).heap.size = w.heap.size + 1 by simp [World.alloc_eq]] at this
 have HB := Aside0.mk (below_alloc (below_alloc (Below.refl w.heap.size w) (.cells cs 62)) (.cells ps 55))
 clear hcs hps h1 h2 h3 hl hp
 go_enter Tryd.func49, Tryd.ntmps49
 go_wp2
 go_ret
 exact ⟨rfl, (by repeat (first | exact HB.out | apply below_drew1 | apply pw_below_drewN))⟩
set_option maxHeartbeats 1000000 in
theorem guess_120 (si : Bool) (L prev : List Int) (hl : L.length = 92) (hp : prev.length = 10) (w : World) : Calls Tryd.prog 49 #[.agg (Fr.cells ⟨si, false, L⟩).toArray, .agg (prev.map (Value.int .i64)).toArray, .int .i64 1, .int .i64 2] w fun e w' => e = .returned (.int .i64 (ga prev 7)) ∧ Below w.heap.size w w' := by
 have h1 := (Fr.cells_1 ⟨si, false, L⟩)
 have h2 := (Fr.cells_at ⟨si, false, L⟩ 9 (by show _ < L.length; omega))
 have h3 := nums_at' prev 7 (by omega)
 obtain ⟨cs, hcs⟩ : ∃ cs, (Fr.cells ⟨si, false, L⟩).toArray = cs := ⟨_, rfl⟩
 obtain ⟨ps, hps⟩ : ∃ cs, (prev.map (Value.int .i64)).toArray = cs := ⟨_, rfl⟩
 rw [hcs] at h1 h2 ⊢
 rw [hps] at h3 ⊢
 have g1 : ((w.alloc (.cells cs 62)).alloc (.cells ps 55)).cell? ⟨w.heap.size, 1, none⟩ = some (.bool false) := (World.cell?_alloc_lt _ _ _ (by simp)).trans ((blk_cell (blk_new w (.cells cs 62)) 1).trans h1)
 have g2 : ((w.alloc (.cells cs 62)).alloc (.cells ps 55)).cell? ⟨w.heap.size, 11, none⟩ = some (.int .i64 (ga L 9)) := (World.cell?_alloc_lt _ _ _ (by simp)).trans ((blk_cell (blk_new w (.cells cs 62)) 11).trans h2)
 have g3 : ((w.alloc (.cells cs 62)).alloc (.cells ps 55)).cell? ⟨w.heap.size + 1, 7, none⟩ = some (.int .i64 (ga prev 7)) := by
  have := (blk_cell (blk_new (w.alloc (.cells cs 62)) (.cells ps 55)) 7).trans h3
  rwa [show (w.alloc (.cells cs 62)).heap.size = w.heap.size + 1 by simp [World.alloc_eq]] at this
 have HB := Aside0.mk (below_alloc (below_alloc (Below.refl w.heap.size w) (.cells cs 62)) (.cells ps 55))
 clear hcs hps h1 h2 h3 hl hp
 go_enter Tryd.func49, Tryd.ntmps49
 go_wp2
 go_ret
 exact ⟨rfl, (by repeat (first | exact HB.out | apply below_drew1 | apply pw_below_drewN))⟩
set_option maxHeartbeats 1000000 in
theorem guess_121 (si : Bool) (L prev : List Int) (hl : L.length = 92) (hp : prev.length = 10) (w : World) : Calls Tryd.prog 49 #[.agg (Fr.cells ⟨si, true, L⟩).toArray, .agg (prev.map (Value.int .i64)).toArray, .int .i64 1, .int .i64 2] w fun e w' => e = .returned (.int .i64 (ga L 9)) ∧ Below w.heap.size w w' := by
 have h1 := (Fr.cells_1 ⟨si, true, L⟩)
 have h2 := (Fr.cells_at ⟨si, true, L⟩ 9 (by show _ < L.length; omega))
 have h3 := nums_at' prev 7 (by omega)
 obtain ⟨cs, hcs⟩ : ∃ cs, (Fr.cells ⟨si, true, L⟩).toArray = cs := ⟨_, rfl⟩
 obtain ⟨ps, hps⟩ : ∃ cs, (prev.map (Value.int .i64)).toArray = cs := ⟨_, rfl⟩
 rw [hcs] at h1 h2 ⊢
 rw [hps] at h3 ⊢
 have g1 : ((w.alloc (.cells cs 62)).alloc (.cells ps 55)).cell? ⟨w.heap.size, 1, none⟩ = some (.bool true) := (World.cell?_alloc_lt _ _ _ (by simp)).trans ((blk_cell (blk_new w (.cells cs 62)) 1).trans h1)
 have g2 : ((w.alloc (.cells cs 62)).alloc (.cells ps 55)).cell? ⟨w.heap.size, 11, none⟩ = some (.int .i64 (ga L 9)) := (World.cell?_alloc_lt _ _ _ (by simp)).trans ((blk_cell (blk_new w (.cells cs 62)) 11).trans h2)
 have g3 : ((w.alloc (.cells cs 62)).alloc (.cells ps 55)).cell? ⟨w.heap.size + 1, 7, none⟩ = some (.int .i64 (ga prev 7)) := by
  have := (blk_cell (blk_new (w.alloc (.cells cs 62)) (.cells ps 55)) 7).trans h3
  rwa [show (w.alloc (.cells cs 62)).heap.size = w.heap.size + 1 by simp [World.alloc_eq]] at this
 have HB := Aside0.mk (below_alloc (below_alloc (Below.refl w.heap.size w) (.cells cs 62)) (.cells ps 55))
 clear hcs hps h1 h2 h3 hl hp
 go_enter Tryd.func49, Tryd.ntmps49
 go_wp2
 go_ret
 exact ⟨rfl, (by repeat (first | exact HB.out | apply below_drew1 | apply pw_below_drewN))⟩
set_option maxHeartbeats 1000000 in
theorem guess_130 (si : Bool) (L prev : List Int) (hl : L.length = 92) (hp : prev.length = 10) (w : World) : Calls Tryd.prog 49 #[.agg (Fr.cells ⟨si, false, L⟩).toArray, .agg (prev.map (Value.int .i64)).toArray, .int .i64 1, .int .i64 3] w fun e w' => e = .returned (.int .i64 (ga prev 8)) ∧ Below w.heap.size w w' := by
 have h1 := (Fr.cells_1 ⟨si, false, L⟩)
 have h2 := (Fr.cells_at ⟨si, false, L⟩ 10 (by show _ < L.length; omega))
 have h3 := nums_at' prev 8 (by omega)
 obtain ⟨cs, hcs⟩ : ∃ cs, (Fr.cells ⟨si, false, L⟩).toArray = cs := ⟨_, rfl⟩
 obtain ⟨ps, hps⟩ : ∃ cs, (prev.map (Value.int .i64)).toArray = cs := ⟨_, rfl⟩
 rw [hcs] at h1 h2 ⊢
 rw [hps] at h3 ⊢
 have g1 : ((w.alloc (.cells cs 62)).alloc (.cells ps 55)).cell? ⟨w.heap.size, 1, none⟩ = some (.bool false) := (World.cell?_alloc_lt _ _ _ (by simp)).trans ((blk_cell (blk_new w (.cells cs 62)) 1).trans h1)
 have g2 : ((w.alloc (.cells cs 62)).alloc (.cells ps 55)).cell? ⟨w.heap.size, 12, none⟩ = some (.int .i64 (ga L 10)) := (World.cell?_alloc_lt _ _ _ (by simp)).trans ((blk_cell (blk_new w (.cells cs 62)) 12).trans h2)
 have g3 : ((w.alloc (.cells cs 62)).alloc (.cells ps 55)).cell? ⟨w.heap.size + 1, 8, none⟩ = some (.int .i64 (ga prev 8)) := by
  have := (blk_cell (blk_new (w.alloc (.cells cs 62)) (.cells ps 55)) 8).trans h3
  rwa [show (w.alloc (.cells cs 62)).heap.size = w.heap.size + 1 by simp [World.alloc_eq]] at this
 have HB := Aside0.mk (below_alloc (below_alloc (Below.refl w.heap.size w) (.cells cs 62)) (.cells ps 55))
 clear hcs hps h1 h2 h3 hl hp
 go_enter Tryd.func49, Tryd.ntmps49
 go_wp2
 go_ret
 exact ⟨rfl, (by repeat (first | exact HB.out | apply below_drew1 | apply pw_below_drewN))⟩
set_option maxHeartbeats 1000000 in
theorem guess_131 (si : Bool) (L prev : List Int) (hl : L.length = 92) (hp : prev.length = 10) (w : World) : Calls Tryd.prog 49 #[.agg (Fr.cells ⟨si, true, L⟩).toArray, .agg (prev.map (Value.int .i64)).toArray, .int .i64 1, .int .i64 3] w fun e w' => e = .returned (.int .i64 (ga L 10)) ∧ Below w.heap.size w w' := by
 have h1 := (Fr.cells_1 ⟨si, true, L⟩)
 have h2 := (Fr.cells_at ⟨si, true, L⟩ 10 (by show _ < L.length; omega))
 have h3 := nums_at' prev 8 (by omega)
 obtain ⟨cs, hcs⟩ : ∃ cs, (Fr.cells ⟨si, true, L⟩).toArray = cs := ⟨_, rfl⟩
 obtain ⟨ps, hps⟩ : ∃ cs, (prev.map (Value.int .i64)).toArray = cs := ⟨_, rfl⟩
 rw [hcs] at h1 h2 ⊢
 rw [hps] at h3 ⊢
 have g1 : ((w.alloc (.cells cs 62)).alloc (.cells ps 55)).cell? ⟨w.heap.size, 1, none⟩ = some (.bool true) := (World.cell?_alloc_lt _ _ _ (by simp)).trans ((blk_cell (blk_new w (.cells cs 62)) 1).trans h1)
 have g2 : ((w.alloc (.cells cs 62)).alloc (.cells ps 55)).cell? ⟨w.heap.size, 12, none⟩ = some (.int .i64 (ga L 10)) := (World.cell?_alloc_lt _ _ _ (by simp)).trans ((blk_cell (blk_new w (.cells cs 62)) 12).trans h2)
 have g3 : ((w.alloc (.cells cs 62)).alloc (.cells ps 55)).cell? ⟨w.heap.size + 1, 8, none⟩ = some (.int .i64 (ga prev 8)) := by
  have := (blk_cell (blk_new (w.alloc (.cells cs 62)) (.cells ps 55)) 8).trans h3
  rwa [show (w.alloc (.cells cs 62)).heap.size = w.heap.size + 1 by simp [World.alloc_eq]] at this
 have HB := Aside0.mk (below_alloc (below_alloc (Below.refl w.heap.size w) (.cells cs 62)) (.cells ps 55))
 clear hcs hps h1 h2 h3 hl hp
 go_enter Tryd.func49, Tryd.ntmps49
 go_wp2
 go_ret
 exact ⟨rfl, (by repeat (first | exact HB.out | apply below_drew1 | apply pw_below_drewN))⟩
set_option maxHeartbeats 1000000 in
theorem guess_140 (si : Bool) (L prev : List Int) (hl : L.length = 92) (hp : prev.length = 10) (w : World) : Calls Tryd.prog 49 #[.agg (Fr.cells ⟨si, false, L⟩).toArray, .agg (prev.map (Value.int .i64)).toArray, .int .i64 1, .int .i64 4] w fun e w' => e = .returned (.int .i64 (ga prev 9)) ∧ Below w.heap.size w w' := by
 have h1 := (Fr.cells_1 ⟨si, false, L⟩)
 have h2 := (Fr.cells_at ⟨si, false, L⟩ 11 (by show _ < L.length; omega))
 have h3 := nums_at' prev 9 (by omega)
 obtain ⟨cs, hcs⟩ : ∃ cs, (Fr.cells ⟨si, false, L⟩).toArray = cs := ⟨_, rfl⟩
 obtain ⟨ps, hps⟩ : ∃ cs, (prev.map (Value.int .i64)).toArray = cs := ⟨_, rfl⟩
 rw [hcs] at h1 h2 ⊢
 rw [hps] at h3 ⊢
 have g1 : ((w.alloc (.cells cs 62)).alloc (.cells ps 55)).cell? ⟨w.heap.size, 1, none⟩ = some (.bool false) := (World.cell?_alloc_lt _ _ _ (by simp)).trans ((blk_cell (blk_new w (.cells cs 62)) 1).trans h1)
 have g2 : ((w.alloc (.cells cs 62)).alloc (.cells ps 55)).cell? ⟨w.heap.size, 13, none⟩ = some (.int .i64 (ga L 11)) := (World.cell?_alloc_lt _ _ _ (by simp)).trans ((blk_cell (blk_new w (.cells cs 62)) 13).trans h2)
 have g3 : ((w.alloc (.cells cs 62)).alloc (.cells ps 55)).cell? ⟨w.heap.size + 1, 9, none⟩ = some (.int .i64 (ga prev 9)) := by
  have := (blk_cell (blk_new (w.alloc (.cells cs 62)) (.cells ps 55)) 9).trans h3
  rwa [show (w.alloc (.cells cs 62)).heap.size = w.heap.size + 1 by simp [World.alloc_eq]] at this
 have HB := Aside0.mk (below_alloc (below_alloc (Below.refl w.heap.size w) (.cells cs 62)) (.cells ps 55))
 clear hcs hps h1 h2 h3 hl hp
 go_enter Tryd.func49, Tryd.ntmps49
 go_wp2
 go_ret
 exact ⟨rfl, (by repeat (first | exact HB.out | apply below_drew1 | apply pw_below_drewN))⟩
set_option maxHeartbeats 1000000 in
theorem guess_141 (si : Bool) (L prev : List Int) (hl : L.length = 92) (hp : prev.length = 10) (w : World) : Calls Tryd.prog 49 #[.agg (Fr.cells ⟨si, true, L⟩).toArray, .agg (prev.map (Value.int .i64)).toArray, .int .i64 1, .int .i64 4] w fun e w' => e = .returned (.int .i64 (ga L 11)) ∧ Below w.heap.size w w' := by
 have h1 := (Fr.cells_1 ⟨si, true, L⟩)
 have h2 := (Fr.cells_at ⟨si, true, L⟩ 11 (by show _ < L.length; omega))
 have h3 := nums_at' prev 9 (by omega)
 obtain ⟨cs, hcs⟩ : ∃ cs, (Fr.cells ⟨si, true, L⟩).toArray = cs := ⟨_, rfl⟩
 obtain ⟨ps, hps⟩ : ∃ cs, (prev.map (Value.int .i64)).toArray = cs := ⟨_, rfl⟩
 rw [hcs] at h1 h2 ⊢
 rw [hps] at h3 ⊢
 have g1 : ((w.alloc (.cells cs 62)).alloc (.cells ps 55)).cell? ⟨w.heap.size, 1, none⟩ = some (.bool true) := (World.cell?_alloc_lt _ _ _ (by simp)).trans ((blk_cell (blk_new w (.cells cs 62)) 1).trans h1)
 have g2 : ((w.alloc (.cells cs 62)).alloc (.cells ps 55)).cell? ⟨w.heap.size, 13, none⟩ = some (.int .i64 (ga L 11)) := (World.cell?_alloc_lt _ _ _ (by simp)).trans ((blk_cell (blk_new w (.cells cs 62)) 13).trans h2)
 have g3 : ((w.alloc (.cells cs 62)).alloc (.cells ps 55)).cell? ⟨w.heap.size + 1, 9, none⟩ = some (.int .i64 (ga prev 9)) := by
  have := (blk_cell (blk_new (w.alloc (.cells cs 62)) (.cells ps 55)) 9).trans h3
  rwa [show (w.alloc (.cells cs 62)).heap.size = w.heap.size + 1 by simp [World.alloc_eq]] at this
 have HB := Aside0.mk (below_alloc (below_alloc (Below.refl w.heap.size w) (.cells cs 62)) (.cells ps 55))
 clear hcs hps h1 h2 h3 hl hp
 go_enter Tryd.func49, Tryd.ntmps49
 go_wp2
 go_ret
 exact ⟨rfl, (by repeat (first | exact HB.out | apply below_drew1 | apply pw_below_drewN))⟩
theorem guess_call (f : Fr) (prev : List Int) (hl : f.L.length = 92) (hp : prev.length = 10) {c b : Nat} (hc : c ≤ 1) (hb : b ≤ 4) (w : World) : Calls Tryd.prog 49 #[.agg f.cells.toArray, .agg (prev.map (Value.int .i64)).toArray, .int .i64 c, .int .i64 b] w fun e w' => e = .returned (.int .i64 (guessOf f prev c b)) ∧ Below w.heap.size w w' := by
 obtain ⟨si, it, L⟩ := f
 simp only at hl
 rcases (by omega : c = 0 ∨ c = 1) with rfl | rfl <;> rcases (by omega : b = 0 ∨ b = 1 ∨ b = 2 ∨ b = 3 ∨ b = 4) with rfl | rfl | rfl | rfl | rfl <;> cases it
 ·exact guess_000 si L prev hl hp w
 ·exact guess_001 si L prev hl hp w
 ·exact guess_010 si L prev hl hp w
 ·exact guess_011 si L prev hl hp w
 ·exact guess_020 si L prev hl hp w
 ·exact guess_021 si L prev hl hp w
 ·exact guess_030 si L prev hl hp w
 ·exact guess_031 si L prev hl hp w
 ·exact guess_040 si L prev hl hp w
 ·exact guess_041 si L prev hl hp w
 ·exact guess_100 si L prev hl hp w
 ·exact guess_101 si L prev hl hp w
 ·exact guess_110 si L prev hl hp w
 ·exact guess_111 si L prev hl hp w
 ·exact guess_120 si L prev hl hp w
 ·exact guess_121 si L prev hl hp w
 ·exact guess_130 si L prev hl hp w
 ·exact guess_131 si L prev hl hp w
 ·exact guess_140 si L prev hl hp w
 ·exact guess_141 si L prev hl hp w
theorem long_call (cs : Array Value) (x : Int) (hx : 0 ≤ x ∧ x < 65536) (h0 : cs[0]? = some (.int .u16 x)) (w : World) : Calls Tryd.prog 20 #[.agg cs] w fun e w' => e = .returned (.int .i64 (4 + x % 1272)) ∧ Below w.heap.size w w' := by
 have g0 : (w.alloc (.cells cs 51)).cell? ⟨w.heap.size, 0, none⟩ = some (.int .u16 x) := (blk_cell (blk_new w (.cells cs 51)) 0).trans h0
 have HB := Aside0.mk (below_alloc (Below.refl w.heap.size w) (.cells cs 51))
 obtain ⟨Z, hZ⟩ : ∃ Z, 4 + x % 1272 = Z := ⟨_, rfl⟩
 have e1 : wrap64 x = x := sw64 (by omega) (by omega)
 obtain ⟨y, hy⟩ : ∃ y, x.tmod 1272 = y := ⟨_, rfl⟩
 have hy2 : y = x % 1272 := by rw [← hy]; exact Int.tmod_eq_emod_of_nonneg hx.1
 have e2 : wrap64 (4 + y) = Z := by rw [hy2, hZ]; exact sw64 (by omega) (by omega)
 rw [hZ]
 clear hx h0 hZ hy2
 go_enter Tryd.func20, Tryd.ntmps20
 go_wp2
 go_ret
 exact ⟨congrArg (fun z => Ending.returned (Value.int .i64 z)) e2, (by repeat (first | exact HB.out | apply below_drew1 | apply pw_below_drewN))⟩
set_option maxHeartbeats 1000000 in
theorem mode_call (cs : Array Value) (x y s c : Int) (hx : wrap64 x = x) (hy : wrap64 y = y) (es : x.tmod 3 = s) (ec : y.tmod 2 = c) (e1 : wrap64 (c + 1) = c + 1) (h1 : cs[1]? = some (.int .u8 x)) (h2 : cs[2]? = some (.int .u8 y)) (w : World) : Calls Tryd.prog 45 #[.agg cs] w fun e w' => e = .returned (.agg #[.int .i64 s, .int .i64 (c + 1)]) ∧ Below w.heap.size w w' := by
 have g1 : (w.alloc (.cells cs 99)).cell? ⟨w.heap.size, 1, none⟩ = some (.int .u8 x) := (blk_cell (blk_new w (.cells cs 99)) 1).trans h1
 have g2 : (w.alloc (.cells cs 99)).cell? ⟨w.heap.size, 2, none⟩ = some (.int .u8 y) := (blk_cell (blk_new w (.cells cs 99)) 2).trans h2
 have HB := Aside0.mk (below_alloc (Below.refl w.heap.size w) (.cells cs 99))
 have A0 := World.cell?_alloc_lt (w.alloc (.cells cs 99)) (.cells #[.int .i64 0, .int .i64 0] 53) ⟨w.heap.size, 1, none⟩ (by simp)
 have A1 := World.cell?_alloc_lt (w.alloc (.cells cs 99)) (.cells #[.int .i64 0, .int .i64 0] 53) ⟨w.heap.size, 2, none⟩ (by simp)
 have k1 := A0.trans g1
 have k2 := A1.trans g2
 clear h1 h2 A0 A1
 go_enter Tryd.func45, Tryd.ntmps45
 go_wp2
 have HN := blk_new (w.alloc (.cells cs 99)) (.cells #[.int .i64 s, .int .i64 (c + 1)] 53)
 rw [show (w.alloc (.cells cs 99)).heap.size = w.heap.size + 1 by simp [World.alloc_eq]] at HN
 refine bodyPost_ret (results_cell_row rfl _ _ (w.heap.size + 1) 53 _ _ _ rfl HN Tryd.underlying53 rfl (by kernel_rfl)) rfl ?_
 exact ⟨rfl, below_alloc HB.out _⟩
theorem row_sz {xs : List Int} {n : Nat} (hl : xs.length = n) : (xs.map (Value.int .i64)).toArray.size = n := by simp [hl]
theorem row_one (xs : List Int) : (xs.map (Value.int .i64)).toArray.all (·.oneCell') = true := all_oneCell_toArray (fun v hv => by
 obtain ⟨x, _, rfl⟩ := List.mem_map.1 hv; rfl)
section
variable {P : Program}
theorem results_cells2 {fn : Func} {p q : Tmp} {ty tu : TypeId} (h : fn.results = #[.cell p ty, .cell q tu]) (tmps : Array Value) (w : World) (g k : Nat) (t u : TypeId) (cs ds : Array Value) (fr fu : Nat × Nat) (d e : TypeDesc)
 (hp : tmps.getD p undef = .pointer (some ⟨g, 0, none⟩)) (hg : w.heap[g]? = some (.cells cs t fr))
 (hu : P.underlying ty = some d) (hd : (match d with | .struct _ | .array _ _ => true | _ => false) = true) (hi : (P.info? ty).map (·.size) = some cs.size)
 (hq : tmps.getD q undef = .pointer (some ⟨k, 0, none⟩)) (hk : w.heap[k]? = some (.cells ds u fu))
 (hu2 : P.underlying tu = some e) (he : (match e with | .struct _ | .array _ _ => true | _ => false) = true) (hi2 : (P.info? tu).map (·.size) = some ds.size) :
 (results fn tmps).run P w = .ok (.tuple #[.agg cs, .agg ds]) w := by
 have hp' : tmps[p]?.getD undef = .pointer (some ⟨g, 0, none⟩) := by simpa using hp
 have hq' : tmps[q]?.getD undef = .pointer (some ⟨k, 0, none⟩) := by simpa using hq
 simp [results, h, hp', hq', asAddr, run_loadVar_row w g t ty cs fr d hg hu hd hi, run_loadVar_row w k u tu ds fu e hk hu2 he hi2]
theorem results_cell_tmp {fn : Func} {p q : Tmp} {ty : TypeId} (h : fn.results = #[.cell p ty, .tmp q]) (tmps : Array Value) (w : World) (g : Nat) (t : TypeId) (cs : Array Value) (fr : Nat × Nat) (d : TypeDesc) (v : Value)
 (hp : tmps.getD p undef = .pointer (some ⟨g, 0, none⟩)) (hg : w.heap[g]? = some (.cells cs t fr))
 (hu : P.underlying ty = some d) (hd : (match d with | .struct _ | .array _ _ => true | _ => false) = true) (hi : (P.info? ty).map (·.size) = some cs.size)
 (hq : tmps.getD q undef = v) :
 (results fn tmps).run P w = .ok (.tuple #[.agg cs, v]) w := by
 have hp' : tmps[p]?.getD undef = .pointer (some ⟨g, 0, none⟩) := by simpa using hp
 have hq' : tmps[q]?.getD undef = v := by simpa using hq
 simp [results, h, hp', hq', asAddr, run_loadVar_row w g t ty cs fr d hg hu hd hi]
theorem loadAt_row (w : World) (g : Nat) (t ty : TypeId) (cs : Array Value) (fr : Nat × Nat) (d : TypeDesc) (hg : w.heap[g]? = some (.cells cs t fr))
 (hu : P.underlying ty = some d) (hd : (match d with | .struct _ | .array _ _ => true | _ => false) = true) (hi : (P.info? ty).map (·.size) = some cs.size) :
 (Instr.loadAt ty (.pointer (some ⟨g, 0, none⟩))).run P w = .ok (.agg cs) w := by
 simp only [Instr.loadAt, Instr.sureAddr, Sem.run_bind, Sem.run_pure, Result.andThen_ok, run_loadVar_row w g t ty cs fr d hg hu hd hi]
theorem store_fresh {ops : Array Oper} {rest : List Oper} {o : Oper} {a : Act} {w : World} {Q : Exit → Act → World → Prop} (hgd : o.guard = none) (ty : TypeId) (x y : Operand) (ho : o.op = .store ty x y) (old cells : Array Value) (W : World) (hW : w = W.alloc (.cells old ty))
 (g : Nat) (hx : a.eval x = .pointer (some ⟨g, 0, none⟩)) (hy : a.eval y = .agg cells) (hg : g = W.heap.size) (hi : (P.info? ty).map (·.size) = some cells.size)
 (hold : old.size = cells.size) (h1 : cells.all (·.oneCell') = true)
 (h : wpList P ops Q rest (a.put o.dst undef) (W.alloc (.cells cells ty))) : wpList P ops Q (o :: rest) a w := by
 subst hW
 subst hg
 refine wpList_store_row hgd ty x y ho W.heap.size cells hx hy ty old (blk_new W _) hi hold h1 ?_
 rw [World.setRow_alloc_new]
 exact h
theorem yieldsIf_load_row {ops : Array Oper} {S : World → Prop} {op : Oper} {a : Act} (hw : Region.wanted op (yielded ops a.tmps) = true) (ty : TypeId) (x : Operand) (ho : op.op = .load ty x)
 (g : Nat) (hx : a.eval x = .pointer (some ⟨g, 0, none⟩)) (t : TypeId) (cs : Array Value) (fr : Nat × Nat) (d : TypeDesc) (hS : ∀ w, S w → w.heap[g]? = some (.cells cs t fr))
 (hu : P.underlying ty = some d) (hd : (match d with | .struct _ | .array _ _ => true | _ => false) = true) (hi : (P.info? ty).map (·.size) = some cs.size) : YieldsIf P ops S op (.agg cs) a :=
 .inl ⟨hw, fun w hw' => by
  unfold execOp
  simp only [ho, hx, Sem.run_bind, loadAt_row w g t ty cs fr d (hS w hw') hu hd hi, Result.andThen_ok]
  rfl⟩
theorem build_to {ops : Array Oper} {rest : List Oper} {o : Oper} {a : Act} {w : World} {Q : Exit → Act → World → Prop} (hg : o.guard = none) (t : TypeId) (parts : Array (Nat × Operand)) (ho : o.op = .build t parts) (cells : Array Value)
 (hf : P.built t (parts.map fun (i, x) => (i, a.eval x)).toList = some cells)
 (h : wpList P ops Q rest (a.put o.dst (.agg cells)) w) : wpList P ops Q (o :: rest) a w := by
 refine wpList_build hg t parts ho (by rw [hf]; rfl) ?_
 rw [hf]
 exact h
end
def Ten (w : World) (g : Nat) : Prop := ∃ xs : List Int, xs.length = 10 ∧ (∀ x ∈ xs, 0 ≤ x ∧ x ≤ 31) ∧ w.heap[g]? = some (.cells (xs.map (Value.int .i64)).toArray 55 (0, 0))
theorem Ten.set {w : World} {g : Nat} (h : Ten w g) (i : Nat) {y : Int} (hy : 0 ≤ y ∧ y ≤ 31) : Ten (w.setCell ⟨g, i, none⟩ (.int .i64 y)) g := by
 obtain ⟨xs, hl, hx, hb⟩ := h
 refine ⟨xs.set i y, by simpa using hl, fun x hm => ?_, ?_⟩
 ·rcases List.mem_or_eq_of_mem_set hm with h | rfl
  ·exact hx x h
  ·exact hy
 ·exact Arrs.blk_set1 (k := .i64) hb i y
theorem Ten.zero (w : World) : Ten (w.alloc (.cells #[.int .i64 0, .int .i64 0, .int .i64 0, .int .i64 0, .int .i64 0, .int .i64 0, .int .i64 0, .int .i64 0, .int .i64 0, .int .i64 0] 55)) w.heap.size :=
 ⟨List.replicate 10 0, by simp, by simp, blk_new w _⟩
theorem Ten.frozen {w : World} {g : Nat} (h : Ten w g) (j : Nat) : w.frozen? ⟨g, j, none⟩ = false := by
 obtain ⟨xs, _, _, hb⟩ := h
 exact blk_frozen hb j
theorem Ten.cell {w : World} {g : Nat} (h : Ten w g) {j : Nat} (hj : j < 10) : ∃ x : Int, w.cell? ⟨g, j, none⟩ = some (.int .i64 x) := by
 obtain ⟨xs, hl, _, hb⟩ := h
 exact ⟨ga xs j, (blk_cell hb j).trans (nums_at' xs j (by omega))⟩
def Blk (w0 w : World) (cs : Array Value) : Prop := Below w0.heap.size w0 w ∧ w.heap[w0.heap.size]? = some (.cells cs 99 (0, 0)) ∧ Ten w (w0.heap.size + 1) ∧ Ten w (w0.heap.size + 1 + 1)
theorem ten_below {w w1 : World} {g : Nat} (h : Ten w g) (hb : Below w.heap.size w w1) : Ten w1 g := by
 obtain ⟨xs, hl, hx, h⟩ := h
 exact ⟨xs, hl, hx, (hb.block g (blk_lt h)).trans h⟩
theorem Blk.below {w0 w w1 : World} {cs : Array Value} (h : Blk w0 w cs) (hb : Below w.heap.size w w1) : Blk w0 w1 cs :=
 ⟨h.1.trans (hb.mono h.1.size), (hb.block _ (blk_lt h.2.1)).trans h.2.1, ten_below h.2.2.1 hb, ten_below h.2.2.2 hb⟩
theorem Blk.set {w0 w : World} {cs : Array Value} (h : Blk w0 w cs) (i : Nat) {y : Int} (hy : 0 ≤ y ∧ y ≤ 31) : Blk w0 (w.setCell ⟨w0.heap.size + 1 + 1, i, none⟩ (.int .i64 y)) cs := by
 refine ⟨h.1.setCell (p := ⟨w0.heap.size + 1 + 1, i, none⟩) (by show w0.heap.size ≤ w0.heap.size + 1 + 1; omega) _, (Below.heap_setCell _ _ _ _ (by show w0.heap.size ≠ w0.heap.size + 1 + 1; omega)).trans h.2.1, ?_, h.2.2.2.set i hy⟩
 obtain ⟨xs, hl, hx, hb⟩ := h.2.2.1
 exact ⟨xs, hl, hx, (Below.heap_setCell _ _ _ _ (by show w0.heap.size + 1 ≠ w0.heap.size + 1 + 1; omega)).trans hb⟩
theorem mod32 {p : Int} (h : 0 ≤ p ∧ p ≤ 255) : ∃ y, p.tmod 32 = y ∧ 0 ≤ y ∧ y ≤ 31 := by
 refine ⟨_, rfl, ?_⟩
 rw [Int.tmod_eq_emod_of_nonneg h.1]
 omega
set_option maxHeartbeats 8000000 in
set_option maxRecDepth 100000 in
theorem energies_call (cs : Array Value) (hp : ∀ i, i < 10 → ∃ p : Int, cs[3 + i]? = some (.int .u8 p) ∧ 0 ≤ p ∧ p ≤ 255) (w : World) : Calls Tryd.prog 46 #[.agg cs] w fun e w' => ∃ xs : List Int, xs.length = 10 ∧ (∀ x ∈ xs, 0 ≤ x ∧ x ≤ 31) ∧ e = .returned (.agg (xs.map (Value.int .i64)).toArray) ∧ Below w.heap.size w w' := by
 have HP := Aside0.mk hp
 clear hp
 have HB : Aside0 (Blk w (((w.alloc (.cells cs 99)).alloc (.cells #[.int .i64 0, .int .i64 0, .int .i64 0, .int .i64 0, .int .i64 0, .int .i64 0, .int .i64 0, .int .i64 0, .int .i64 0, .int .i64 0] 55)).alloc (.cells #[.int .i64 0, .int .i64 0, .int .i64 0, .int .i64 0, .int .i64 0, .int .i64 0, .int .i64 0, .int .i64 0, .int .i64 0, .int .i64 0] 55)) cs) := ⟨by
  have s1 : (w.alloc (.cells cs 99)).heap.size = w.heap.size + 1 := by simp [World.alloc_eq]
  have z1 := Ten.zero (w.alloc (.cells cs 99))
  rw [s1] at z1
  have z2 := Ten.zero ((w.alloc (.cells cs 99)).alloc (.cells #[.int .i64 0, .int .i64 0, .int .i64 0, .int .i64 0, .int .i64 0, .int .i64 0, .int .i64 0, .int .i64 0, .int .i64 0, .int .i64 0] 55))
  rw [show ((w.alloc (.cells cs 99)).alloc (.cells #[.int .i64 0, .int .i64 0, .int .i64 0, .int .i64 0, .int .i64 0, .int .i64 0, .int .i64 0, .int .i64 0, .int .i64 0, .int .i64 0] 55)).heap.size = w.heap.size + 1 + 1 by simp [World.alloc_eq]] at z2
  have b1 : Below w.heap.size w (w.alloc (.cells cs 99)) := below_alloc (Below.refl _ _) _
  have n1 := blk_new w (.cells cs 99)
  have b2 := below_alloc (Below.refl (w.alloc (.cells cs 99)).heap.size (w.alloc (.cells cs 99))) (.cells #[.int .i64 0, .int .i64 0, .int .i64 0, .int .i64 0, .int .i64 0, .int .i64 0, .int .i64 0, .int .i64 0, .int .i64 0, .int .i64 0] 55)
  refine ⟨below_alloc (below_alloc b1 _) _, ?_, ten_below z1 (below_alloc (Below.refl _ _) _), z2⟩
  exact (blk_alloc (blk_alloc n1 _) _)⟩
 go_enter Tryd.func46, Tryd.ntmps46
 go_wp2
 go_loopw [6] (fun i wr => ∃ c : Nat, c ≤ 2 ∧ i = .int .i64 c ∧ Aside0 (Blk w wr cs)) (fun i _ => (2 - intOf i).toNat)
 case atStart => exact ⟨0, by omega, rfl, HB⟩
 case round =>
  obtain ⟨c, hc, rfl, HB2⟩ := hrel
  clear HB
  have HB := HB2
  clear HB2
  by_cases ht : c < 2
  ·have d1 : decide ((c : Int) < 2) = true := decide_eq_true (by omega)
   go_wp2
   go_loopw [9] (fun i wr => ∃ b : Nat, b ≤ 5 ∧ i = .int .i64 b ∧ Aside0 (Blk w wr cs)) (fun i _ => (5 - intOf i).toNat)
   case atStart => exact ⟨0, by omega, rfl, HB⟩
   case round =>
    obtain ⟨b, hb, rfl, HB2⟩ := hrel
    clear HB
    have HB := HB2
    clear HB2
    by_cases ht2 : b < 5
    ·rcases (by omega : c = 0 ∨ c = 1) with rfl | rfl <;> rcases (by omega : b = 0 ∨ b = 1 ∨ b = 2 ∨ b = 3 ∨ b = 4) with rfl | rfl | rfl | rfl | rfl
     ·obtain ⟨p, hp, hp0⟩ := HP.out 0 (by omega)
      obtain ⟨y, hy, hy2⟩ := mod32 hp0
      have hcell := (blk_cell HB.out.2.1 3).trans hp
      have hw : wrap64 p = p := sw64 (by omega) (by omega)
      have hw2 : IntKind.i64.wrap p = p := by rw [i64_w]; exact hw
      have hf := HB.out.2.2.2.frozen 0
      obtain ⟨x, hx⟩ := HB.out.2.2.2.cell (j := 0) (by omega)
      have HY := Aside0.mk hy2
      clear hp0 hy2 hp
      go_wp2
      go_region_with (fail)
      all_goals (
       have HN : Aside0 (Blk w _ cs) := ⟨(HB.out.set 0 HY.out).below (below_drew1 (Below.refl _ _))⟩
       go_wp2
       go_roundw
       case rel => exact ⟨_, _, _, _, _, _, _, _, _, _, _, _, _, _, _, _, _, ⟨1, by omega, rfl, HN⟩, rfl⟩
       case measure => simp [intOf])
     ·obtain ⟨p, hp, hp0⟩ := HP.out 1 (by omega)
      obtain ⟨y, hy, hy2⟩ := mod32 hp0
      have hcell := (blk_cell HB.out.2.1 4).trans hp
      have hw : wrap64 p = p := sw64 (by omega) (by omega)
      have hw2 : IntKind.i64.wrap p = p := by rw [i64_w]; exact hw
      have hf := HB.out.2.2.2.frozen 1
      obtain ⟨x, hx⟩ := HB.out.2.2.2.cell (j := 1) (by omega)
      have HY := Aside0.mk hy2
      clear hp0 hy2 hp
      go_wp2
      go_region_with (fail)
      all_goals (
       have HN : Aside0 (Blk w _ cs) := ⟨(HB.out.set 1 HY.out).below (below_drew1 (Below.refl _ _))⟩
       go_wp2
       go_roundw
       case rel => exact ⟨_, _, _, _, _, _, _, _, _, _, _, _, _, _, _, _, _, ⟨2, by omega, rfl, HN⟩, rfl⟩
       case measure => simp [intOf])
     ·obtain ⟨p, hp, hp0⟩ := HP.out 2 (by omega)
      obtain ⟨y, hy, hy2⟩ := mod32 hp0
      have hcell := (blk_cell HB.out.2.1 5).trans hp
      have hw : wrap64 p = p := sw64 (by omega) (by omega)
      have hw2 : IntKind.i64.wrap p = p := by rw [i64_w]; exact hw
      have hf := HB.out.2.2.2.frozen 2
      obtain ⟨x, hx⟩ := HB.out.2.2.2.cell (j := 2) (by omega)
      have HY := Aside0.mk hy2
      clear hp0 hy2 hp
      go_wp2
      go_region_with (fail)
      all_goals (
       have HN : Aside0 (Blk w _ cs) := ⟨(HB.out.set 2 HY.out).below (below_drew1 (Below.refl _ _))⟩
       go_wp2
       go_roundw
       case rel => exact ⟨_, _, _, _, _, _, _, _, _, _, _, _, _, _, _, _, _, ⟨3, by omega, rfl, HN⟩, rfl⟩
       case measure => simp [intOf])
     ·obtain ⟨p, hp, hp0⟩ := HP.out 3 (by omega)
      obtain ⟨y, hy, hy2⟩ := mod32 hp0
      have hcell := (blk_cell HB.out.2.1 6).trans hp
      have hw : wrap64 p = p := sw64 (by omega) (by omega)
      have hw2 : IntKind.i64.wrap p = p := by rw [i64_w]; exact hw
      have hf := HB.out.2.2.2.frozen 3
      obtain ⟨x, hx⟩ := HB.out.2.2.2.cell (j := 3) (by omega)
      have HY := Aside0.mk hy2
      clear hp0 hy2 hp
      go_wp2
      go_region_with (fail)
      all_goals (
       have HN : Aside0 (Blk w _ cs) := ⟨(HB.out.set 3 HY.out).below (below_drew1 (Below.refl _ _))⟩
       go_wp2
       go_roundw
       case rel => exact ⟨_, _, _, _, _, _, _, _, _, _, _, _, _, _, _, _, _, ⟨4, by omega, rfl, HN⟩, rfl⟩
       case measure => simp [intOf])
     ·obtain ⟨p, hp, hp0⟩ := HP.out 4 (by omega)
      obtain ⟨y, hy, hy2⟩ := mod32 hp0
      have hcell := (blk_cell HB.out.2.1 7).trans hp
      have hw : wrap64 p = p := sw64 (by omega) (by omega)
      have hw2 : IntKind.i64.wrap p = p := by rw [i64_w]; exact hw
      have hf := HB.out.2.2.2.frozen 4
      obtain ⟨x, hx⟩ := HB.out.2.2.2.cell (j := 4) (by omega)
      have HY := Aside0.mk hy2
      clear hp0 hy2 hp
      go_wp2
      go_region_with (fail)
      all_goals (
       have HN : Aside0 (Blk w _ cs) := ⟨(HB.out.set 4 HY.out).below (below_drew1 (Below.refl _ _))⟩
       go_wp2
       go_roundw
       case rel => exact ⟨_, _, _, _, _, _, _, _, _, _, _, _, _, _, _, _, _, ⟨5, by omega, rfl, HN⟩, rfl⟩
       case measure => simp [intOf])
     ·obtain ⟨p, hp, hp0⟩ := HP.out 5 (by omega)
      obtain ⟨y, hy, hy2⟩ := mod32 hp0
      have hcell := (blk_cell HB.out.2.1 8).trans hp
      have hw : wrap64 p = p := sw64 (by omega) (by omega)
      have hw2 : IntKind.i64.wrap p = p := by rw [i64_w]; exact hw
      have hf := HB.out.2.2.2.frozen 5
      obtain ⟨x, hx⟩ := HB.out.2.2.2.cell (j := 5) (by omega)
      have HY := Aside0.mk hy2
      clear hp0 hy2 hp
      go_wp2
      go_region_with (fail)
      all_goals (
       have HN : Aside0 (Blk w _ cs) := ⟨(HB.out.set 5 HY.out).below (below_drew1 (Below.refl _ _))⟩
       go_wp2
       go_roundw
       case rel => exact ⟨_, _, _, _, _, _, _, _, _, _, _, _, _, _, _, _, _, ⟨1, by omega, rfl, HN⟩, rfl⟩
       case measure => simp [intOf])
     ·obtain ⟨p, hp, hp0⟩ := HP.out 6 (by omega)
      obtain ⟨y, hy, hy2⟩ := mod32 hp0
      have hcell := (blk_cell HB.out.2.1 9).trans hp
      have hw : wrap64 p = p := sw64 (by omega) (by omega)
      have hw2 : IntKind.i64.wrap p = p := by rw [i64_w]; exact hw
      have hf := HB.out.2.2.2.frozen 6
      obtain ⟨x, hx⟩ := HB.out.2.2.2.cell (j := 6) (by omega)
      have HY := Aside0.mk hy2
      clear hp0 hy2 hp
      go_wp2
      go_region_with (fail)
      all_goals (
       have HN : Aside0 (Blk w _ cs) := ⟨(HB.out.set 6 HY.out).below (below_drew1 (Below.refl _ _))⟩
       go_wp2
       go_roundw
       case rel => exact ⟨_, _, _, _, _, _, _, _, _, _, _, _, _, _, _, _, _, ⟨2, by omega, rfl, HN⟩, rfl⟩
       case measure => simp [intOf])
     ·obtain ⟨p, hp, hp0⟩ := HP.out 7 (by omega)
      obtain ⟨y, hy, hy2⟩ := mod32 hp0
      have hcell := (blk_cell HB.out.2.1 10).trans hp
      have hw : wrap64 p = p := sw64 (by omega) (by omega)
      have hw2 : IntKind.i64.wrap p = p := by rw [i64_w]; exact hw
      have hf := HB.out.2.2.2.frozen 7
      obtain ⟨x, hx⟩ := HB.out.2.2.2.cell (j := 7) (by omega)
      have HY := Aside0.mk hy2
      clear hp0 hy2 hp
      go_wp2
      go_region_with (fail)
      all_goals (
       have HN : Aside0 (Blk w _ cs) := ⟨(HB.out.set 7 HY.out).below (below_drew1 (Below.refl _ _))⟩
       go_wp2
       go_roundw
       case rel => exact ⟨_, _, _, _, _, _, _, _, _, _, _, _, _, _, _, _, _, ⟨3, by omega, rfl, HN⟩, rfl⟩
       case measure => simp [intOf])
     ·obtain ⟨p, hp, hp0⟩ := HP.out 8 (by omega)
      obtain ⟨y, hy, hy2⟩ := mod32 hp0
      have hcell := (blk_cell HB.out.2.1 11).trans hp
      have hw : wrap64 p = p := sw64 (by omega) (by omega)
      have hw2 : IntKind.i64.wrap p = p := by rw [i64_w]; exact hw
      have hf := HB.out.2.2.2.frozen 8
      obtain ⟨x, hx⟩ := HB.out.2.2.2.cell (j := 8) (by omega)
      have HY := Aside0.mk hy2
      clear hp0 hy2 hp
      go_wp2
      go_region_with (fail)
      all_goals (
       have HN : Aside0 (Blk w _ cs) := ⟨(HB.out.set 8 HY.out).below (below_drew1 (Below.refl _ _))⟩
       go_wp2
       go_roundw
       case rel => exact ⟨_, _, _, _, _, _, _, _, _, _, _, _, _, _, _, _, _, ⟨4, by omega, rfl, HN⟩, rfl⟩
       case measure => simp [intOf])
     ·obtain ⟨p, hp, hp0⟩ := HP.out 9 (by omega)
      obtain ⟨y, hy, hy2⟩ := mod32 hp0
      have hcell := (blk_cell HB.out.2.1 12).trans hp
      have hw : wrap64 p = p := sw64 (by omega) (by omega)
      have hw2 : IntKind.i64.wrap p = p := by rw [i64_w]; exact hw
      have hf := HB.out.2.2.2.frozen 9
      obtain ⟨x, hx⟩ := HB.out.2.2.2.cell (j := 9) (by omega)
      have HY := Aside0.mk hy2
      clear hp0 hy2 hp
      go_wp2
      go_region_with (fail)
      all_goals (
       have HN : Aside0 (Blk w _ cs) := ⟨(HB.out.set 9 HY.out).below (below_drew1 (Below.refl _ _))⟩
       go_wp2
       go_roundw
       case rel => exact ⟨_, _, _, _, _, _, _, _, _, _, _, _, _, _, _, _, _, ⟨5, by omega, rfl, HN⟩, rfl⟩
       case measure => simp [intOf])
    ·obtain rfl : b = 5 := by omega
     clear ht2
     go_wp2
     go_roundw
     case rel => exact ⟨c + 1, by omega, congrArg (Value.int .i64) (by omega), HB⟩
     case measure => simp [intOf]; omega
  ·obtain rfl : c = 2 := by omega
   clear ht
   obtain ⟨xs, hl, hx, hb⟩ := HB.out.2.2.2
   obtain ⟨ys, hyl, _, hyb⟩ := HB.out.2.2.1
   have HBb := HB.out.1
   have HX := Aside0.mk hx
   have HL := Aside0.mk hl
   have HYL := Aside0.mk hyl
   have Hb := Aside0.mk hb
   have Hyb := Aside0.mk hyb
   have HBB := Aside0.mk HBb
   clear hx hl hyl hb hyb HBb
   go_wp2_with (first
    | (refine wpList_load_row rfl 55 (.tmp 3) rfl (w.heap.size + 1 + 1) rfl 55 _ (0,0) _ Hb.out Tryd.underlying55 rfl (by rw [row_sz HL.out]; kernel_rfl) ?_)
    | (refine wpList_store_row rfl 55 (.tmp 2) (.tmp 26) rfl (w.heap.size + 1) _ rfl rfl 55 _ Hyb.out (by rw [row_sz HL.out]; kernel_rfl) (by rw [row_sz HL.out, row_sz HYL.out]) (row_one _) ?_))
   refine bodyPost_ret (results_cell_row rfl _ _ (w.heap.size + 1) 55 _ _ _ rfl (setRow_heap _ _ _ _ _ _ Hyb.out) Tryd.underlying55 rfl (by rw [row_sz HL.out]; kernel_rfl)) rfl ?_
   exact ⟨xs, HL.out, HX.out, rfl, below_setRow HBB.out (by omega) _⟩
def SW (g : Nat) (C : Array Value) (w : World) : Prop := w.heap[g + 1 + 1 + 1]? = some (.cells C 99 (0, 0)) ∧ (∃ x y, w.heap[g + 1]? = some (.cells #[x, y] 53 (0, 0))) ∧ (∃ xs : List Int, xs.length = 10 ∧ w.heap[g + 1 + 1]? = some (.cells (xs.map (Value.int .i64)).toArray 55 (0, 0)))
theorem SW.below {g : Nat} {C : Array Value} {w w1 : World} (h : SW g C w) (hb : Below w.heap.size w w1) : SW g C w1 := by
 obtain ⟨h1, ⟨x, y, h2⟩, ⟨xs, hl, h3⟩⟩ := h
 exact ⟨blk_below h1 hb, ⟨x, y, blk_below h2 hb⟩, ⟨xs, hl, blk_below h3 hb⟩⟩
set_option maxHeartbeats 4000000 in
set_option maxRecDepth 100000 in
theorem where_call (cs : Array Value) (a b : Int) (ps : List Int) (hpl : ps.length = 10) (ha : 0 ≤ a ∧ a ≤ 255) (hb : 0 ≤ b ∧ b ≤ 255) (hp : ∀ p ∈ ps, 0 ≤ p ∧ p ≤ 255) (h1 : cs[1]? = some (.int .u8 a)) (h2 : cs[2]? = some (.int .u8 b)) (h3 : ∀ j v, (ps.map (Value.int .u8))[j]? = some v → cs[3 + j]? = some v) (w : World) :
 Calls Tryd.prog 18 #[.agg cs] w fun e w' => ∃ (s c : Nat) (xs : List Int), s ≤ 2 ∧ 1 ≤ c ∧ c ≤ 2 ∧ xs.length = 10 ∧ (∀ x ∈ xs, 0 ≤ x ∧ x ≤ 31) ∧ e = .returned (.tuple #[.agg #[.int .i64 s, .int .i64 c], .agg (xs.map (Value.int .i64)).toArray]) ∧ Below w.heap.size w w' := by
 have g1 : (w.alloc (.cells cs 51)).heap[w.heap.size]? = some (.cells cs 51 (0, 0)) := blk_new w _
 have HR : Aside0 ((((w.alloc (.cells cs 51)).alloc (.cells #[.int .i64 0, .int .i64 0] 53)).alloc (.cells #[.int .i64 0, .int .i64 0, .int .i64 0, .int .i64 0, .int .i64 0, .int .i64 0, .int .i64 0, .int .i64 0, .int .i64 0, .int .i64 0] 55)).rangeAt w.heap.size 3 (ps.map (Value.int .u8))) := ⟨fun j v hv => by
  rw [blk_cell (blk_alloc (blk_alloc g1 _) _)]
  exact h3 j v hv⟩
 have k1 : (((w.alloc (.cells cs 51)).alloc (.cells #[.int .i64 0, .int .i64 0] 53)).alloc (.cells #[.int .i64 0, .int .i64 0, .int .i64 0, .int .i64 0, .int .i64 0, .int .i64 0, .int .i64 0, .int .i64 0, .int .i64 0, .int .i64 0] 55)).cell? ⟨w.heap.size, 1, none⟩ = some (.int .u8 a) := (blk_cell (blk_alloc (blk_alloc g1 _) _) 1).trans h1
 have k2 : (((w.alloc (.cells cs 51)).alloc (.cells #[.int .i64 0, .int .i64 0] 53)).alloc (.cells #[.int .i64 0, .int .i64 0, .int .i64 0, .int .i64 0, .int .i64 0, .int .i64 0, .int .i64 0, .int .i64 0, .int .i64 0, .int .i64 0] 55)).cell? ⟨w.heap.size, 2, none⟩ = some (.int .u8 b) := (blk_cell (blk_alloc (blk_alloc g1 _) _) 2).trans h2
 obtain ⟨p0, p1, p2, p3, p4, p5, p6, p7, p8, p9, rfl⟩ : ∃ p0 p1 p2 p3 p4 p5 p6 p7 p8 p9, ps = [p0, p1, p2, p3, p4, p5, p6, p7, p8, p9] := by
  match ps, hpl with
  | [p0, p1, p2, p3, p4, p5, p6, p7, p8, p9], _ => exact ⟨_, _, _, _, _, _, _, _, _, _, rfl⟩
 simp only [List.map_cons, List.map_nil] at HR
 obtain ⟨C, hC⟩ : ∃ C : Array Value, #[.slice none 0 0, .int .u8 a, .int .u8 b, .int .u8 p0, .int .u8 p1, .int .u8 p2, .int .u8 p3, .int .u8 p4, .int .u8 p5, .int .u8 p6, .int .u8 p7, .int .u8 p8, .int .u8 p9] = C := ⟨_, rfl⟩
 have HC := Aside0.mk hC
 have HP := Aside0.mk hp
 obtain ⟨s, es⟩ : ∃ s, a.tmod 3 = s := ⟨_, rfl⟩
 obtain ⟨c, ec⟩ : ∃ c, b.tmod 2 = c := ⟨_, rfl⟩
 have hwa : wrap64 a = a := sw64 (by omega) (by omega)
 have hwb : wrap64 b = b := sw64 (by omega) (by omega)
 have hs : 0 ≤ s ∧ s ≤ 2 := by rw [← es, Int.tmod_eq_emod_of_nonneg ha.1]; omega
 have hc : 0 ≤ c ∧ c ≤ 1 := by rw [← ec, Int.tmod_eq_emod_of_nonneg hb.1]; omega
 have e1 : wrap64 (c + 1) = c + 1 := sw64 (by omega) (by omega)
 clear h1 h2 h3 g1 hpl hC ha hb hp
 go_enter Tryd.func18, Tryd.ntmps18
 go_wp2_with (first
  | (refine wpList_load_mid rfl 41 (.tmp 9) rfl w.heap.size 3 rfl _ _ HR.out Tryd.underlying41 rfl (by kernel_rfl) ?_)
  | (refine build_to rfl 99 _ rfl C (by rw [← HC.out]; kernel_rfl) ?_)
  | (refine store_fresh rfl 99 (.tmp 4) (.tmp 11) rfl _ C _ rfl _ rfl rfl ?sd ?se ?sf ?sg ?_; (case sd => simp [World.alloc_eq]); (case se => rw [← HC.out]; kernel_rfl); (case sf => rw [← HC.out]; rfl); (case sg => rw [← HC.out]; simp [Value.oneCell'])))
 have HE := Aside0.mk (fun w => energies_call C (by
  rw [← HC.out]
  intro i hi
  rcases (by omega : i = 0 ∨ i = 1 ∨ i = 2 ∨ i = 3 ∨ i = 4 ∨ i = 5 ∨ i = 6 ∨ i = 7 ∨ i = 8 ∨ i = 9) with rfl | rfl | rfl | rfl | rfl | rfl | rfl | rfl | rfl | rfl
  all_goals exact ⟨_, rfl, HP.out _ (by simp)⟩) w)
 have HM := Aside0.mk (fun w => mode_call C a b s c hwa hwb es ec e1 (by rw [← HC.out]; rfl) (by rw [← HC.out]; rfl) w)
 have HS0 : SW w.heap.size C ((((w.alloc (.cells cs 51)).alloc (.cells #[.int .i64 0, .int .i64 0] 53)).alloc (.cells #[.int .i64 0, .int .i64 0, .int .i64 0, .int .i64 0, .int .i64 0, .int .i64 0, .int .i64 0, .int .i64 0, .int .i64 0, .int .i64 0] 55)).alloc (.cells C 99)) ∧ Below w.heap.size w ((((w.alloc (.cells cs 51)).alloc (.cells #[.int .i64 0, .int .i64 0] 53)).alloc (.cells #[.int .i64 0, .int .i64 0, .int .i64 0, .int .i64 0, .int .i64 0, .int .i64 0, .int .i64 0, .int .i64 0, .int .i64 0, .int .i64 0] 55)).alloc (.cells C 99)) := by
  have s1 : (w.alloc (.cells cs 51)).heap.size = w.heap.size + 1 := by simp [World.alloc_eq]
  have s2 : ((w.alloc (.cells cs 51)).alloc (.cells #[.int .i64 0, .int .i64 0] 53)).heap.size = w.heap.size + 1 + 1 := by simp [World.alloc_eq]
  have s3 : (((w.alloc (.cells cs 51)).alloc (.cells #[.int .i64 0, .int .i64 0] 53)).alloc (.cells #[.int .i64 0, .int .i64 0, .int .i64 0, .int .i64 0, .int .i64 0, .int .i64 0, .int .i64 0, .int .i64 0, .int .i64 0, .int .i64 0] 55)).heap.size = w.heap.size + 1 + 1 + 1 := by simp [World.alloc_eq]
  have n1 := blk_new (w.alloc (.cells cs 51)) (.cells #[.int .i64 0, .int .i64 0] 53)
  have n2 := blk_new ((w.alloc (.cells cs 51)).alloc (.cells #[.int .i64 0, .int .i64 0] 53)) (.cells #[.int .i64 0, .int .i64 0, .int .i64 0, .int .i64 0, .int .i64 0, .int .i64 0, .int .i64 0, .int .i64 0, .int .i64 0, .int .i64 0] 55)
  have n3 := blk_new (((w.alloc (.cells cs 51)).alloc (.cells #[.int .i64 0, .int .i64 0] 53)).alloc (.cells #[.int .i64 0, .int .i64 0, .int .i64 0, .int .i64 0, .int .i64 0, .int .i64 0, .int .i64 0, .int .i64 0, .int .i64 0, .int .i64 0] 55)) (.cells C 99)
  rw [s1] at n1; rw [s2] at n2; rw [s3] at n3
  exact ⟨⟨n3, ⟨_, _, blk_alloc (blk_alloc n1 _) _⟩, ⟨List.replicate 10 0, by simp, blk_alloc n2 _⟩⟩, below_alloc (below_alloc (below_alloc (below_alloc (Below.refl _ _) _) _) _) _⟩
 generalize (((w.alloc (.cells cs 51)).alloc (.cells #[.int .i64 0, .int .i64 0] 53)).alloc (.cells #[.int .i64 0, .int .i64 0, .int .i64 0, .int .i64 0, .int .i64 0, .int .i64 0, .int .i64 0, .int .i64 0, .int .i64 0, .int .i64 0] 55)).alloc (.cells C 99) = W at HS0 ⊢
 refine wp_region_held_drew (S := (fun w1 => SW w.heap.size C w1 ∧ Below w.heap.size w w1)) (by kernel_rfl) ?hS0 (fun hHeld => ?_)
 case hS0 => exact ⟨HS0.1, HS0.2.drew⟩
 refine wpAnyH_take (i := 0) (oi := ⟨_, _, _, _, _, _⟩) (v := .agg C) rfl (by kernel_rfl) (by kernel_rfl) (by kernel_rfl) (fun _ _ _ h => h) (yieldsIf_load_row (by rfl) 99 (.tmp 4) rfl (w.heap.size + 1 + 1 + 1) rfl 99 C (0, 0) _ (fun w1 h1 => h1.1.1) Tryd.underlying99 rfl (by rw [← HC.out]; kernel_rfl)) hHeld ?_
 (try simp only [Act.put, zA1, zA2, zA3])
 refine wpAnyH_take (i := 2) (oi := ⟨_, _, _, _, _, _⟩) (v := .agg C) rfl (by kernel_rfl) (by kernel_rfl) (by kernel_rfl) (fun _ _ _ h => h) (yieldsIf_load_row (by rfl) 99 (.tmp 4) rfl (w.heap.size + 1 + 1 + 1) rfl 99 C (0, 0) _ (fun w1 h1 => h1.1.1) Tryd.underlying99 rfl (by rw [← HC.out]; kernel_rfl)) hHeld ?_
 (try simp only [Act.put, zA1, zA2, zA3])
 refine zOH 1 rfl fun K hK => ?_
 refine goes_ (N := some 13) Tryd.func45 (by kernel_rfl) rfl #[.agg C] (by rfl) rfl rfl (by first | rfl | (simp only [List.map_toArray, List.map_cons, List.map_nil]; rfl)) ?_
 (with_reducible refine (HM.out _).mono ?_); rintro e w1 ⟨rfl, hb⟩
 refine ⟨_, rfl, ?_⟩
 refine hK.out _ _ ?hSn (fun hHeld => ?_)
 case hSn => exact ⟨hHeld.1.below hb, below_step hHeld.2 hb⟩
 clear hK K
 (try simp only [Act.put, zA1, zA2, zA3])
 refine zOH 3 rfl fun K hK => ?_
 refine goes_ (N := some 15) Tryd.func46 (by kernel_rfl) rfl #[.agg C] (by rfl) rfl rfl (by first | rfl | (simp only [List.map_toArray, List.map_cons, List.map_nil]; rfl)) ?_
 (with_reducible refine (HE.out _).mono ?_); rintro e w2 ⟨xs, hxl, hxx, rfl, hb⟩
 refine ⟨_, rfl, ?_⟩
 refine hK.out _ _ ?hSn (fun hHeld => ?_)
 case hSn => exact ⟨hHeld.1.below hb, below_step hHeld.2 hb⟩
 clear hK K
 (try simp only [Act.put, zA1, zA2, zA3])
 obtain ⟨⟨hb3, ⟨x1, x2, hb1⟩, ⟨ys, hyl, hb2⟩⟩, hbel⟩ := hHeld
 have hHeld : (fun w1 => SW w.heap.size C w1 ∧ Below w.heap.size w w1) w2 := ⟨⟨hb3, ⟨x1, x2, hb1⟩, ⟨ys, hyl, hb2⟩⟩, hbel⟩
 refine zOH 4 rfl fun K hK => ?_
 rw [if_pos (by rfl)]
 refine wp_store_row 53 (.tmp 2) (.tmp 13) rfl (w.heap.size + 1) #[.int .i64 s, .int .i64 (c + 1)] rfl rfl 53 #[x1, x2] hb1 (by kernel_rfl) rfl (by simp [Value.oneCell']) ?_
 refine hK.out _ _ ?hSn (fun hHeld => ?_)
 case hSn => exact ⟨⟨(setRow_other _ _ _ _ (by omega)).trans hb3, ⟨_, _, setRow_heap _ _ _ _ _ _ hb1⟩, ⟨ys, hyl, (setRow_other _ _ _ _ (by omega)).trans hb2⟩⟩, below_setRow hbel (by omega) _⟩
 clear hK K
 (try simp only [Act.put, zA1, zA2, zA3])
 refine zOH 5 rfl fun K hK => ?_
 rw [if_pos (by rfl)]
 refine wp_store_row 55 (.tmp 3) (.tmp 15) rfl (w.heap.size + 1 + 1) (xs.map (Value.int .i64)).toArray rfl rfl 55 _ ((setRow_other _ _ _ _ (by omega)).trans hb2) (by rw [row_sz hxl]; kernel_rfl) (by rw [row_sz hyl, row_sz hxl]) (row_one _) ?_
 refine hK.out _ _ ?hSn (fun hHeld => ?_)
 case hSn => exact ⟨⟨(setRow_other _ _ _ _ (by omega)).trans hHeld.1.1, ⟨_, _, (setRow_other _ _ _ _ (by omega)).trans (setRow_heap _ _ _ _ _ _ hb1)⟩, ⟨xs, hxl, setRow_heap _ _ _ _ _ _ ((setRow_other _ _ _ _ (by omega)).trans hb2)⟩⟩, below_setRow hHeld.2 (by omega) _⟩
 clear hK K
 (try simp only [Act.put, zA1, zA2, zA3])
 refine wpAnyH_done (by kernel_rfl) ?_ _
 go_wp2
 refine bodyPost_ret (results_cells2 rfl _ _ (w.heap.size + 1) (w.heap.size + 1 + 1) 53 55 #[.int .i64 s, .int .i64 (c + 1)] (xs.map (Value.int .i64)).toArray (0, 0) (0, 0) _ _ rfl ((setRow_other _ _ _ _ (by omega)).trans (setRow_heap _ _ _ _ _ _ hb1)) Tryd.underlying53 rfl (by kernel_rfl) rfl (setRow_heap _ _ _ _ _ _ ((setRow_other _ _ _ _ (by omega)).trans hb2)) Tryd.underlying55 rfl (by rw [row_sz hxl]; kernel_rfl)) rfl ?_
 exact ⟨s.toNat, by omega, (c + 1).toNat, by omega, by omega, xs, hxl, hxx, by rw [Int.toNat_of_nonneg hs.1, Int.toNat_of_nonneg (show 0 ≤ c + 1 by omega)], hHeld.2⟩
end Go.Proofs.YtjpnbdofbkoddaaDoor.Sh
