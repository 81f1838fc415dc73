import Derived.Test.YtjpnbdofbkoddaaDoorOShapeNoisex2T
import Derived.Test.YtjpnbdofbkoddaaDoorOShapeNoisex3T
import Derived.Test.YtjpnbdofbkoddaaDoorMathT
set_option linter.unusedVariables false
set_option linter.unusedSimpArgs false
namespace Go.Proofs.YtjpnbdofbkoddaaDoor.NoisePlain
open Go.RowKit Go.Proofs.YtjpnbdofbkoddaaDoor.OShapeNoise Go.Proofs.YtjpnbdofbkoddaaDoorW.PrintWords Go.Proofs.YtjpnbdofbkoddaaDoorW.PrintLast Go.Proofs.YtjpnbdofbkoddaaDoorW.PrintMore
open Go.Proofs.YtjpnbdofbkoddaaDoor.Math
theorem pow_loop (n : Nat) (hn : n ≤ 62) (d : Nat) : ∀ (k : Nat) (j : Nat), j + d = n → d < k → spinetref01_Pow.l0 k n (2 ^ j) j = some (2 ^ n) := by
 induction d with
 | zero =>
  intro k j hj hk
  obtain ⟨k, rfl⟩ : ∃ m, k = m + 1 := ⟨k - 1, by omega⟩
  obtain rfl : j = n := by omega
  simp only [spinetref01_Pow.l0]
  rw [if_neg (by omega)]
 | succ d ih =>
  intro k j hj hk
  obtain ⟨k, rfl⟩ : ∃ m, k = m + 1 := ⟨k - 1, by omega⟩
  simp only [spinetref01_Pow.l0]
  have e1 : wrap64 ((j : Int) + 1) = ((j + 1 : Nat) : Int) := by rw [w64 (by omega) (by omega)]; omega
  have hle : (2 : Int) ^ (j + 1) ≤ 4611686018427387904 := pow_le_62 (by omega)
  have hp : (0 : Int) < 2 ^ (j + 1) := Int.pow_pos (by decide)
  have e2 : wrap64 ((2 : Int) ^ j * 2) = 2 ^ (j + 1) := by rw [← Int.pow_succ, w64 (by omega) (by omega)]
  rw [if_pos (by omega), e1, e2]
  exact ih k (j + 1) (by omega) (by omega)
theorem pow_is (n : Nat) (hn : n ≤ 62) (k : Nat) (hk : 63 < k) : spinetref01_Pow.f k n = some (2 ^ n) :=
 pow_loop n hn n k 0 (by omega) (by omega)
theorem ref_sat {x n : Int} (k : Nat) (hk : 63 < k) : spinetref01_Sat.f k x n = some (st x (min (max n 1) 63).toNat) := by
 unfold spinetref01_Sat.f spinetref01_Bits.f
 obtain ⟨m, hm⟩ : ∃ m : Nat, min (max n 1) 63 = m := ⟨(min (max n 1) 63).toNat, by omega⟩
 have e : spinetref01_Held.f n 1 63 = some (m : Int) := by
  unfold spinetref01_Held.f
  rw [← hm]
  (repeat' split) <;> (congr 1; omega)
 rw [e, hm, Int.toNat_natCast]
 simp only [Option.bind_some]
 have e1 : wrap64 ((m : Int) - 1) = ((m - 1 : Nat) : Int) := by rw [w64 (by omega) (by omega)]; omega
 rw [e1, pow_is (m - 1) (by omega) k hk]
 simp only [Option.bind_some]
 have hle : (2 : Int) ^ (m - 1) ≤ 4611686018427387904 := pow_le_62 (by omega)
 have hp : (0 : Int) < 2 ^ (m - 1) := Int.pow_pos (by decide)
 rw [w64 (n := -(2 ^ (m - 1))) (by omega) (by omega), w64 (by omega) (by omega)]
 unfold spinetref01_Held.f st
 (repeat' split) <;> (simp only [Option.bind_some]; congr 1; omega)
def I32 (x : Int) : Prop := -2147483648 ≤ x ∧ x ≤ 2147483647
def U32 (x : Int) : Prop := 0 ≤ x ∧ x ≤ 4294967295
def lcg (a : Int) : Int := (a * 1664525 + 1013904223) % 4294967296
theorem lcg_in (a : Int) : U32 (lcg a) := by unfold lcg U32; omega
theorem lcg_fn (a : Int) : fix_Lcg.f a = some (lcg a) := by
 unfold fix_Lcg.f lcg
 congr 1
 omega
theorem lcg_ref (a : Int) (h : U32 a) : spinetref01_Lcg.f a = some (lcg a) := by
 obtain ⟨h0, h1⟩ := h
 unfold spinetref01_Lcg.f lcg
 rw [u64_in (n := a) (by omega) (by omega), u64_in (n := a * 1664525) (by omega) (by omega), u64_in (n := a * 1664525 + 1013904223) (by omega) (by omega), Int.tmod_eq_emod_of_nonneg (by omega)]
 congr 1
 omega
def ch (t : Int) : Int := if t / 268435456 ≥ 8 then (t / 268435456 - 16) * 1024 else t / 268435456 * 1024
theorem ch_in (t : Int) (h : U32 t) : I32 (ch t) := by
 obtain ⟨h0, h1⟩ := h
 unfold ch I32
 split <;> omega
theorem ch_fn (t : Int) (h : U32 t) : shape_chance.f t = some (ch t) := by
 obtain ⟨h0, h1⟩ := h
 unfold shape_chance.f ch
 congr 1
 by_cases hb : t < 2147483648
 ·rw [if_neg (by omega)]
  unfold wrap32
  omega
 ·rw [if_pos (by omega)]
  unfold wrap32
  omega
def nz : Nat → Int → List Int × Int
 | 0, s => ([], s)
 | d + 1, s => (ch (lcg s) :: (nz d (lcg s)).1, (nz d (lcg s)).2)
theorem nz_len : ∀ (d : Nat) (s : Int), (nz d s).1.length = d
 | 0, _ => rfl
 | d + 1, s => by simp [nz, nz_len d]
theorem nz_in : ∀ (d : Nat) (s : Int), ∀ x ∈ (nz d s).1, I32 x
 | 0, _ => fun x hx => by cases hx
 | d + 1, s => fun x hx => by
  rcases List.mem_cons.mp hx with rfl | h
  ·exact ch_in _ (lcg_in s)
  ·exact nz_in d _ x h
theorem noise_loop (n : Nat) (hn : n ≤ 32) : ∀ (d k i : Nat) (s : Int) (acc : List Int), i + d = n → d < k → acc.length = i → shape_Noise.l0 k s acc n i = some (acc ++ (nz d s).1, (nz d s).2)
 | 0, k, i, s, acc, hi, hk, hacc => by
  obtain ⟨k, rfl⟩ : ∃ m, k = m + 1 := ⟨k - 1, by omega⟩
  simp only [shape_Noise.l0]
  rw [if_neg (by omega)]
  simp [nz]
 | d + 1, k, i, s, acc, hi, hk, hacc => by
  obtain ⟨k, rfl⟩ : ∃ m, k = m + 1 := ⟨k - 1, by omega⟩
  simp only [shape_Noise.l0]
  rw [if_pos (by omega), lcg_fn, Option.bind_some, ch_fn _ (lcg_in s), Option.bind_some, if_pos (by omega), step64 (n := n) (by omega) (by omega),
   noise_loop n hn d k (i + 1) _ _ (by omega) (by omega) (by simp [hacc])]
  simp [nz]
theorem ref_noise_loop (n : Nat) (hn : n ≤ 32) : ∀ (d k i : Nat) (s : Int) (acc : List Int), U32 s → i + d = n → d < k → acc.length = i → spinetref19_Noise.l0 k n s acc i = some (acc ++ (nz d s).1, (nz d s).2)
 | 0, k, i, s, acc, hs, hi, hk, hacc => by
  obtain ⟨k, rfl⟩ : ∃ m, k = m + 1 := ⟨k - 1, by omega⟩
  simp only [spinetref19_Noise.l0]
  rw [if_neg (by omega)]
  simp [nz]
 | d + 1, k, i, s, acc, hs, hi, hk, hacc => by
  obtain ⟨k, rfl⟩ : ∃ m, k = m + 1 := ⟨k - 1, by omega⟩
  obtain ⟨h0, h1⟩ := lcg_in s
  have e : Int.tdiv (lcg s) 268435456 % 4294967296 = lcg s / 268435456 := by rw [Int.tdiv_eq_ediv_of_nonneg h0]; omega
  have hlen : (acc ++ [ch (lcg s)]).length = i + 1 := by simp [hacc]
  have ih := ref_noise_loop n hn d k (i + 1) (lcg s) (acc ++ [ch (lcg s)]) (lcg_in s) (by omega) (by omega) hlen
  have hfin : acc ++ (nz (d + 1) s).1 = acc ++ [ch (lcg s)] ++ (nz d (lcg s)).1 := by simp [nz]
  rw [hfin]
  simp only [spinetref19_Noise.l0]
  rw [if_pos (by omega), lcg_ref s hs, Option.bind_some, e, step64 (n := n) (by omega) (by omega)]
  by_cases hb : lcg s / 268435456 ≥ 8
  ·have ec : ch (lcg s) = (lcg s / 268435456 - 16) * 1024 := by unfold ch; rw [if_pos hb]
   rw [if_pos hb, if_pos (by omega), ← ec, ih]
   rfl
  ·have ec : ch (lcg s) = lcg s / 268435456 * 1024 := by unfold ch; rw [if_neg hb]
   rw [if_neg hb, if_pos (by omega), ← ec, ih]
   rfl
def hd (n : Int) : Nat := (min (max n 0) 32).toNat
theorem hd_is (n : Int) : min (max n 0) 32 = ((hd n : Nat) : Int) ∧ hd n ≤ 32 := by unfold hd; omega
theorem noise_fn (n s : Int) : shape_Noise.f 100 n s = some (nz (hd n) s) := by
 unfold shape_Noise.f
 rw [mx_eq, mn_eq, (hd_is n).1]
 exact noise_loop (hd n) (hd_is n).2 (hd n) 100 0 s [] (by omega) (by have := (hd_is n).2; omega) rfl
theorem noise_ref (n : Nat) (hn : n ≤ 32) (s : Int) (hs : U32 s) (k : Nat) (hk : 50 < k) : spinetref19_Noise.f k n s = some (nz n s) :=
 ref_noise_loop n hn n k 0 s [] hs (by omega) (by omega) rfl
theorem held_fn (n : Int) : spinetlaw19_held.f n = some ((hd n : Nat) : Int) := by
 unfold spinetlaw19_held.f spinetref01_Held.f
 rw [← (hd_is n).1]
 by_cases h1 : n < 0
 ·rw [if_pos h1, Option.bind_some]; congr 1; omega
 ·rw [if_neg h1]
  by_cases h2 : n > 32
  ·rw [if_pos h2, Option.bind_some]; congr 1; omega
  ·rw [if_neg h2, Option.bind_some]; congr 1; omega
def em : List Int → Bool
 | [] => true
 | x :: r => if x = 0 then em r else false
theorem empty_loop (l : List Int) (hl : l.length ≤ 200) : ∀ (d k i : Nat), i + d = l.length → d < k → shape_empty.l0 k l l.length i = some (em (l.drop i))
 | 0, k, i, hi, hk => by
  obtain ⟨k, rfl⟩ : ∃ m, k = m + 1 := ⟨k - 1, by omega⟩
  simp only [shape_empty.l0]
  rw [if_neg (by omega), List.drop_of_length_le (by omega)]
  rfl
 | d + 1, k, i, hi, hk => by
  obtain ⟨k, rfl⟩ : ∃ m, k = m + 1 := ⟨k - 1, by omega⟩
  have ih := empty_loop l hl d k (i + 1) (by omega) (by omega)
  simp only [shape_empty.l0]
  rw [if_pos (by omega), if_pos (by omega), if_pos (by omega), step64 (n := l.length) (by omega) (by omega), rd_drop (by omega), em, ih]
  by_cases hz : rd l i = 0
  ·rw [if_pos hz, if_pos hz]
  ·rw [if_neg hz, if_neg hz]
theorem empty_fn (l : List Int) (hl : l.length ≤ 200) (k : Nat) (hk : 200 < k) : shape_empty.f k l = some (em l) := by
 have h := empty_loop l hl l.length k 0 (by omega) (by omega)
 rw [List.drop_zero] at h
 exact h
def s32 (x : Int) : Int := mn (mx x (-2147483648)) 2147483647
theorem s32_is (x : Int) : s32 x = st x 32 := by
 unfold s32 st
 rw [mn_eq, mx_eq]
 have e : (2 : Int) ^ (32 - 1) = 2147483648 := by decide
 rw [e]
 rfl
theorem s32_in (x : Int) : I32 (s32 x) := by
 unfold s32 I32
 rw [mn_eq, mx_eq]
 omega
def fv (l : List Int) (i : Nat) (t : Int) : Int := if t ≥ 2147483648 then s32 (-(rd l ((i % l.length : Nat) : Int))) else rd l ((i % l.length : Nat) : Int)
def fz (l : List Int) : Nat → Nat → Int → List Int × Int
 | 0, _, s => ([], s)
 | d + 1, i, s => (fv l i (lcg s) :: (fz l d (i + 1) (lcg s)).1, (fz l d (i + 1) (lcg s)).2)
theorem fz_len (l : List Int) : ∀ (d i : Nat) (s : Int), (fz l d i s).1.length = d
 | 0, _, _ => rfl
 | d + 1, i, s => by simp [fz, fz_len l d]
theorem fv_in (l : List Int) (h0 : 0 < l.length) (hw : ∀ x ∈ l, I32 x) (i : Nat) (t : Int) : I32 (fv l i t) := by
 unfold fv
 split
 ·exact s32_in _
 ·exact hw _ (rd_mem (Nat.mod_lt _ h0))
theorem fz_in (l : List Int) (h0 : 0 < l.length) (hw : ∀ x ∈ l, I32 x) : ∀ (d i : Nat) (s : Int), ∀ x ∈ (fz l d i s).1, I32 x
 | 0, _, _ => fun x hx => by cases hx
 | d + 1, i, s => fun x hx => by
  rcases List.mem_cons.mp hx with rfl | h
  ·exact fv_in l h0 hw _ _
  ·exact fz_in l h0 hw d _ _ x h
theorem tmod_nat (i n : Nat) : Int.tmod (i : Int) (n : Int) = ((i % n : Nat) : Int) := by
 rw [Int.tmod_eq_emod_of_nonneg (by omega)]; rfl
theorem fold_loop (l : List Int) (h0 : 0 < l.length) (hl : l.length ≤ 200) (hw : ∀ x ∈ l, I32 x) (n : Nat) (hn : n ≤ 32) : ∀ (d k i : Nat) (s : Int) (acc : List Int), i + d = n → d < k → acc.length = i → shape_Fold.l0 k l s acc n i = some (acc ++ (fz l d i s).1, (fz l d i s).2)
 | 0, k, i, s, acc, hi, hk, hacc => by
  obtain ⟨k, rfl⟩ : ∃ m, k = m + 1 := ⟨k - 1, by omega⟩
  simp only [shape_Fold.l0]
  rw [if_neg (by omega)]
  simp [fz]
 | d + 1, k, i, s, acc, hi, hk, hacc => by
  obtain ⟨k, rfl⟩ : ∃ m, k = m + 1 := ⟨k - 1, by omega⟩
  obtain ⟨t0, t1⟩ := lcg_in s
  have hlt := Nat.mod_lt i h0
  obtain ⟨x0, x1⟩ := hw _ (rd_mem hlt)
  have ih := fold_loop l h0 hl hw n hn d k (i + 1) (lcg s) (acc ++ [fv l i (lcg s)]) (by omega) (by omega) (by simp [hacc])
  have hfin : acc ++ (fz l (d + 1) i s).1 = acc ++ [fv l i (lcg s)] ++ (fz l d (i + 1) (lcg s)).1 := by simp [fz]
  rw [hfin]
  simp only [shape_Fold.l0]
  rw [if_pos (by omega), lcg_fn, Option.bind_some, if_neg (by omega), tmod_nat, if_pos (by omega), if_pos (by omega), step64 (n := n) (by omega) (by omega)]
  by_cases hb : lcg s ≥ 2147483648
  ·have ec : fv l i (lcg s) = s32 (-(rd l ((i % l.length : Nat) : Int))) := by unfold fv; rw [if_pos hb]
   rw [if_pos (by omega), fix_Sat32.f, Option.bind_some, if_pos (by omega), w64 (n := rd l ((i % l.length : Nat) : Int)) (by omega) (by omega), w64 (n := -rd l ((i % l.length : Nat) : Int)) (by omega) (by omega)]
   rw [ec] at ih
   rw [ec]
   exact ih
  ·have ec : fv l i (lcg s) = rd l ((i % l.length : Nat) : Int) := by unfold fv; rw [if_neg hb]
   rw [if_neg (by omega), if_pos (by omega)]
   rw [ec] at ih
   rw [ec]
   exact ih
theorem ref_fold_two (l : List Int) (h0 : 0 < l.length) (hl : l.length ≤ 200) (hw : ∀ x ∈ l, I32 x) (n : Nat) (hn : n ≤ 32) : ∀ (d k i : Nat) (s : Int) (acc : List Int), U32 s → i + d = n → d + 70 < k → acc.length = i → spinetref19_Fold.l1 k l n s acc i = some (acc ++ (fz l d i s).1, (fz l d i s).2)
 | 0, k, i, s, acc, hs, hi, hk, hacc => by
  obtain ⟨k, rfl⟩ : ∃ m, k = m + 1 := ⟨k - 1, by omega⟩
  simp only [spinetref19_Fold.l1]
  rw [if_neg (by omega)]
  simp [fz]
 | d + 1, k, i, s, acc, hs, hi, hk, hacc => by
  obtain ⟨k, rfl⟩ : ∃ m, k = m + 1 := ⟨k - 1, by omega⟩
  obtain ⟨t0, t1⟩ := lcg_in s
  have hlt := Nat.mod_lt i h0
  obtain ⟨x0, x1⟩ := hw _ (rd_mem hlt)
  have ih := ref_fold_two l h0 hl hw n hn d k (i + 1) (lcg s) (acc ++ [fv l i (lcg s)]) (lcg_in s) (by omega) (by omega) (by simp [hacc])
  have hfin : acc ++ (fz l (d + 1) i s).1 = acc ++ [fv l i (lcg s)] ++ (fz l d (i + 1) (lcg s)).1 := by simp [fz]
  rw [hfin]
  simp only [spinetref19_Fold.l1]
  rw [if_pos (by omega), lcg_ref s hs, Option.bind_some, if_neg (by omega), tmod_nat, if_pos (by omega), if_pos (by omega), step64 (n := n) (by omega) (by omega)]
  by_cases hb : lcg s ≥ 2147483648
  ·have ec : fv l i (lcg s) = s32 (-(rd l ((i % l.length : Nat) : Int))) := by unfold fv; rw [if_pos hb]
   rw [if_pos hb, ref_sat k (by omega), Option.bind_some, if_pos (by omega), w64 (n := -rd l ((i % l.length : Nat) : Int)) (by omega) (by omega)]
   rw [ec, s32_is] at ih
   rw [ec, s32_is]
   exact ih
  ·have ec : fv l i (lcg s) = rd l ((i % l.length : Nat) : Int) := by unfold fv; rw [if_neg hb]
   rw [if_neg hb, if_pos (by omega)]
   rw [ec] at ih
   rw [ec]
   exact ih
def fo (l : List Int) (n : Nat) (s : Int) : List Int × Int := if em l = true then nz n s else fz l n 0 s
theorem em_pos (l : List Int) (h : em l = false) : 0 < l.length := by
 cases l with
 | nil => cases h
 | cons x r => simp
theorem fo_len (l : List Int) (n : Nat) (s : Int) : (fo l n s).1.length = n := by
 unfold fo; split
 ·exact nz_len n s
 ·exact fz_len l n 0 s
theorem fo_in (l : List Int) (hw : ∀ x ∈ l, I32 x) (n : Nat) (s : Int) : ∀ x ∈ (fo l n s).1, I32 x := by
 unfold fo; split
 ·exact nz_in n s
 ·rename_i h
  exact fz_in l (em_pos l (by simpa using h)) hw n 0 s
theorem fold_fn (l : List Int) (hl : l.length ≤ 200) (hw : ∀ x ∈ l, I32 x) (n s : Int) : shape_Fold.f 300 l n s = some (fo l (hd n) s) := by
 unfold shape_Fold.f fo
 rw [empty_fn l hl 300 (by decide), Option.bind_some]
 cases h : em l with
 | true =>
  rw [if_pos rfl, if_pos rfl]
  have e := at_rounds (g := fun k => shape_Noise.f k n s) (fun k => shape_Noise.mono n s k) (show 100 ≤ 300 by decide) (noise_fn n s)
  rw [e, Option.bind_some]
 | false =>
  rw [if_neg (by decide), if_neg (by decide), mx_eq, mn_eq, (hd_is n).1]
  exact fold_loop l (em_pos l h) hl hw (hd n) (hd_is n).2 (hd n) 300 0 s [] (by omega) (by have := (hd_is n).2; omega) rfl
theorem ref_fold_one (l : List Int) (hl : l.length ≤ 200) (n : Nat) (s : Int) (R : List Int × Int) (hT : em l = false → ∀ k, 150 < k → spinetref19_Fold.l1 k l n s [] 0 = some R) (hE : em l = true → ∀ k, 150 < k → spinetref19_Noise.f k n s = some R) : ∀ (d k i : Nat) (b : Bool), i + d = l.length → d + 160 < k → (b = true → em l = false) → (b = false → em l = em (l.drop i)) → spinetref19_Fold.l0 k l n s b i = some R
 | 0, k, i, b, hi, hk, hb, he => by
  obtain ⟨k, rfl⟩ : ∃ m, k = m + 1 := ⟨k - 1, by omega⟩
  simp only [spinetref19_Fold.l0]
  rw [if_neg (by omega)]
  cases b with
  | true => rw [if_pos rfl]; exact hT (hb rfl) k (by omega)
  | false =>
   rw [if_neg (by decide)]
   have h := he rfl
   rw [List.drop_of_length_le (by omega)] at h
   rw [hE h k (by omega), Option.bind_some]
 | d + 1, k, i, b, hi, hk, hb, he => by
  obtain ⟨k, rfl⟩ : ∃ m, k = m + 1 := ⟨k - 1, by omega⟩
  simp only [spinetref19_Fold.l0]
  rw [if_pos (by omega), step64 (n := l.length) (by omega) (by omega)]
  cases b with
  | true =>
   rw [if_pos rfl]
   exact ref_fold_one l hl n s R hT hE d k (i + 1) true (by omega) (by omega) hb (fun h => by cases h)
  | false =>
   rw [if_neg (by decide), if_pos (by omega)]
   refine ref_fold_one l hl n s R hT hE d k (i + 1) _ (by omega) (by omega) (fun h => ?_) (fun h => ?_)
   ·have hz : rd l i ≠ 0 := by simpa using h
    rw [he rfl, rd_drop (by omega), em, if_neg hz]
   ·have hz : rd l i = 0 := by simpa using h
    rw [he rfl, rd_drop (by omega), em, if_pos hz]
theorem fold_ref (l : List Int) (hl : l.length ≤ 200) (hw : ∀ x ∈ l, I32 x) (n : Nat) (hn : n ≤ 32) (s : Int) (hs : U32 s) : spinetref19_Fold.f 500 l n s = some (fo l n s) := by
 unfold spinetref19_Fold.f
 refine ref_fold_one l hl n s (fo l n s) (fun h k hk => ?_) (fun h k hk => ?_) l.length 500 0 false (by omega) (by omega) (fun h => by cases h) (fun _ => rfl)
 ·unfold fo
  rw [if_neg (by rw [h]; decide)]
  exact ref_fold_two l (em_pos l h) hl hw n hn n k 0 s [] hs (by omega) (by omega) rfl
 ·unfold fo
  rw [if_pos h]
  exact noise_ref n hn s hs k (by omega)
end Go.Proofs.YtjpnbdofbkoddaaDoor.NoisePlain
