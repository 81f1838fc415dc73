import Derived.Test.YtjpnbdofbkoddaaDoorOShapeNoisex2U
import Derived.Test.YtjpnbdofbkoddaaDoorOShapeNoisex3U
import Derived.Test.YtjpnbdofbkoddaaDoorMathU
namespace Go.Proofs.YtjpnbdofbkoddaaDoor.NoisePlain
open Go.RowKit Go.Proofs.YtjpnbdofbkoddaaDoor.OShapeNoise Go.Proofs.YtjpnbdofbkoddaaDoorW.PrintWords Go.Proofs.YtjpnbdofbkoddaaDoorW.PrintLast Go.Proofs.YtjpnbdofbkoddaaDoorW.PrintMore
open Go.Proofs.YtjpnbdofbkoddaaDoor.Math
set_option linter.unusedVariables false
set_option linter.unusedSimpArgs false
def I32 (x : Int) : Prop := -2147483648 ≤ x ∧ x ≤ 2147483647
def U32 (x : Int) : Prop := 0 ≤ x ∧ x ≤ 4294967295
def lcg (a : Int) : Int := (a * 1664525 + 1013904223) % 4294967296
theorem lcg_in (a : Int) : U32 (lcg a) := by unfold lcg U32; omega
theorem lcg_fn (a : Int) : fix_Lcg.f a = some (lcg a) := by
  unfold fix_Lcg.f lcg
  congr 1
  omega
def ch (t : Int) : Int := if t / 268435456 ≥ 8 then (t / 268435456 - 16) * 1024 else t / 268435456 * 1024
theorem ch_in (t : Int) (h : U32 t) : I32 (ch t) := by
  obtain ⟨h0, h1⟩ := h
  unfold ch I32
  split <;> omega
theorem ch_fn (t : Int) (h : U32 t) : shape_chance.f t = some (ch t) := by
  obtain ⟨h0, h1⟩ := h
  unfold shape_chance.f ch
  congr 1
  by_cases hb : t < 2147483648
  · rw [if_neg (by omega)]
    unfold wrap32
    omega
  · rw [if_pos (by omega)]
    unfold wrap32
    omega
def nz : Nat → Int → List Int × Int
  | 0, s => ([], s)
  | d + 1, s => (ch (lcg s) :: (nz d (lcg s)).1, (nz d (lcg s)).2)
theorem nz_len : ∀ (d : Nat) (s : Int), (nz d s).1.length = d
  | 0, _ => rfl
  | d + 1, s => by simp [nz, nz_len d]
theorem nz_in : ∀ (d : Nat) (s : Int), ∀ x ∈ (nz d s).1, I32 x
  | 0, _ => fun x hx => by cases hx
  | d + 1, s => fun x hx => by
    rcases List.mem_cons.mp hx with rfl | h
    · exact ch_in _ (lcg_in s)
    · exact nz_in d _ x h
theorem noise_loop (n : Nat) (hn : n ≤ 32) : ∀ (d k i : Nat) (s : Int) (acc : List Int), i + d = n → d < k → acc.length = i → shape_Noise.l0 k s acc n i = some (acc ++ (nz d s).1, (nz d s).2)
  | 0, k, i, s, acc, hi, hk, hacc => by
    obtain ⟨k, rfl⟩ : ∃ m, k = m + 1 := ⟨k - 1, by omega⟩
    simp only [shape_Noise.l0]
    rw [if_neg (by omega)]
    simp [nz]
  | d + 1, k, i, s, acc, hi, hk, hacc => by
    obtain ⟨k, rfl⟩ : ∃ m, k = m + 1 := ⟨k - 1, by omega⟩
    simp only [shape_Noise.l0]
    rw [if_pos (by omega), lcg_fn, Option.bind_some, ch_fn _ (lcg_in s), Option.bind_some, if_pos (by omega), step64 (n := n) (by omega) (by omega),
      noise_loop n hn d k (i + 1) _ _ (by omega) (by omega) (by simp [hacc])]
    simp [nz]
def hd (n : Int) : Nat := (min (max n 0) 32).toNat
theorem hd_is (n : Int) : min (max n 0) 32 = ((hd n : Nat) : Int) ∧ hd n ≤ 32 := by unfold hd; omega
theorem noise_fn (n s : Int) : shape_Noise.f 100 n s = some (nz (hd n) s) := by
  unfold shape_Noise.f
  rw [mx_eq, mn_eq, (hd_is n).1]
  exact noise_loop (hd n) (hd_is n).2 (hd n) 100 0 s [] (by omega) (by have := (hd_is n).2; omega) rfl
def em : List Int → Bool
  | [] => true
  | x :: r => if x = 0 then em r else false
theorem empty_loop (l : List Int) (hl : l.length ≤ 200) : ∀ (d k i : Nat), i + d = l.length → d < k → shape_empty.l0 k l l.length i = some (em (l.drop i))
  | 0, k, i, hi, hk => by
    obtain ⟨k, rfl⟩ : ∃ m, k = m + 1 := ⟨k - 1, by omega⟩
    simp only [shape_empty.l0]
    rw [if_neg (by omega), List.drop_of_length_le (by omega)]
    rfl
  | d + 1, k, i, hi, hk => by
    obtain ⟨k, rfl⟩ : ∃ m, k = m + 1 := ⟨k - 1, by omega⟩
    have ih := empty_loop l hl d k (i + 1) (by omega) (by omega)
    simp only [shape_empty.l0]
    rw [if_pos (by omega), if_pos (by omega), if_pos (by omega), step64 (n := l.length) (by omega) (by omega), rd_drop (by omega), em, ih]
    by_cases hz : rd l i = 0
    · rw [if_pos hz, if_pos hz]
    · rw [if_neg hz, if_neg hz]
theorem empty_fn (l : List Int) (hl : l.length ≤ 200) (k : Nat) (hk : 200 < k) : shape_empty.f k l = some (em l) := by
  have h := empty_loop l hl l.length k 0 (by omega) (by omega)
  rw [List.drop_zero] at h
  exact h
def s32 (x : Int) : Int := mn (mx x (-2147483648)) 2147483647
theorem s32_in (x : Int) : I32 (s32 x) := by
  unfold s32 I32
  rw [mn_eq, mx_eq]
  omega
def fv (l : List Int) (i : Nat) (t : Int) : Int := if t ≥ 2147483648 then s32 (-(rd l ((i % l.length : Nat) : Int))) else rd l ((i % l.length : Nat) : Int)
def fz (l : List Int) : Nat → Nat → Int → List Int × Int
  | 0, _, s => ([], s)
  | d + 1, i, s => (fv l i (lcg s) :: (fz l d (i + 1) (lcg s)).1, (fz l d (i + 1) (lcg s)).2)
theorem fz_len (l : List Int) : ∀ (d i : Nat) (s : Int), (fz l d i s).1.length = d
  | 0, _, _ => rfl
  | d + 1, i, s => by simp [fz, fz_len l d]
theorem fv_in (l : List Int) (h0 : 0 < l.length) (hw : ∀ x ∈ l, I32 x) (i : Nat) (t : Int) : I32 (fv l i t) := by
  unfold fv
  split
  · exact s32_in _
  · exact hw _ (rd_mem (Nat.mod_lt _ h0))
theorem fz_in (l : List Int) (h0 : 0 < l.length) (hw : ∀ x ∈ l, I32 x) : ∀ (d i : Nat) (s : Int), ∀ x ∈ (fz l d i s).1, I32 x
  | 0, _, _ => fun x hx => by cases hx
  | d + 1, i, s => fun x hx => by
    rcases List.mem_cons.mp hx with rfl | h
    · exact fv_in l h0 hw _ _
    · exact fz_in l h0 hw d _ _ x h
theorem tmod_nat (i n : Nat) : Int.tmod (i : Int) (n : Int) = ((i % n : Nat) : Int) := by
  rw [Int.tmod_eq_emod_of_nonneg (by omega)]; rfl
theorem fold_loop (l : List Int) (h0 : 0 < l.length) (hl : l.length ≤ 200) (hw : ∀ x ∈ l, I32 x) (n : Nat) (hn : n ≤ 32) : ∀ (d k i : Nat) (s : Int) (acc : List Int), i + d = n → d < k → acc.length = i → shape_Fold.l0 k l s acc n i = some (acc ++ (fz l d i s).1, (fz l d i s).2)
  | 0, k, i, s, acc, hi, hk, hacc => by
    obtain ⟨k, rfl⟩ : ∃ m, k = m + 1 := ⟨k - 1, by omega⟩
    simp only [shape_Fold.l0]
    rw [if_neg (by omega)]
    simp [fz]
  | d + 1, k, i, s, acc, hi, hk, hacc => by
    obtain ⟨k, rfl⟩ : ∃ m, k = m + 1 := ⟨k - 1, by omega⟩
    obtain ⟨t0, t1⟩ := lcg_in s
    have hlt := Nat.mod_lt i h0
    obtain ⟨x0, x1⟩ := hw _ (rd_mem hlt)
    have ih := fold_loop l h0 hl hw n hn d k (i + 1) (lcg s) (acc ++ [fv l i (lcg s)]) (by omega) (by omega) (by simp [hacc])
    have hfin : acc ++ (fz l (d + 1) i s).1 = acc ++ [fv l i (lcg s)] ++ (fz l d (i + 1) (lcg s)).1 := by simp [fz]
    rw [hfin]
    simp only [shape_Fold.l0]
    rw [if_pos (by omega), lcg_fn, Option.bind_some, if_neg (by omega), tmod_nat, if_pos (by omega), if_pos (by omega), step64 (n := n) (by omega) (by omega)]
    by_cases hb : lcg s ≥ 2147483648
    · have ec : fv l i (lcg s) = s32 (-(rd l ((i % l.length : Nat) : Int))) := by unfold fv; rw [if_pos hb]
      rw [if_pos (by omega), fix_Sat32.f, Option.bind_some, if_pos (by omega), w64 (n := rd l ((i % l.length : Nat) : Int)) (by omega) (by omega), w64 (n := -rd l ((i % l.length : Nat) : Int)) (by omega) (by omega)]
      rw [ec] at ih
      rw [ec]
      exact ih
    · have ec : fv l i (lcg s) = rd l ((i % l.length : Nat) : Int) := by unfold fv; rw [if_neg hb]
      rw [if_neg (by omega), if_pos (by omega)]
      rw [ec] at ih
      rw [ec]
      exact ih
def fo (l : List Int) (n : Nat) (s : Int) : List Int × Int := if em l = true then nz n s else fz l n 0 s
theorem em_pos (l : List Int) (h : em l = false) : 0 < l.length := by
  cases l with
  | nil => cases h
  | cons x r => simp
theorem fo_len (l : List Int) (n : Nat) (s : Int) : (fo l n s).1.length = n := by
  unfold fo; split
  · exact nz_len n s
  · exact fz_len l n 0 s
theorem fo_in (l : List Int) (hw : ∀ x ∈ l, I32 x) (n : Nat) (s : Int) : ∀ x ∈ (fo l n s).1, I32 x := by
  unfold fo; split
  · exact nz_in n s
  · rename_i h
    exact fz_in l (em_pos l (by simpa using h)) hw n 0 s
theorem fold_fn (l : List Int) (hl : l.length ≤ 200) (hw : ∀ x ∈ l, I32 x) (n s : Int) : shape_Fold.f 300 l n s = some (fo l (hd n) s) := by
  unfold shape_Fold.f fo
  rw [empty_fn l hl 300 (by decide), Option.bind_some]
  cases h : em l with
  | true =>
    rw [if_pos rfl, if_pos rfl]
    have e := at_rounds (g := fun k => shape_Noise.f k n s) (fun k => shape_Noise.mono n s k) (show 100 ≤ 300 by decide) (noise_fn n s)
    rw [e, Option.bind_some]
  | false =>
    rw [if_neg (by decide), if_neg (by decide), mx_eq, mn_eq, (hd_is n).1]
    exact fold_loop l (em_pos l h) hl hw (hd n) (hd_is n).2 (hd n) 300 0 s [] (by omega) (by have := (hd_is n).2; omega) rfl
end Go.Proofs.YtjpnbdofbkoddaaDoor.NoisePlain

