/- Numbers in two parts sound as at once, the second part behind the first one's memory. Conditions: none but that each number fits its type. -/
import Derived.Test.YtcmkejlkcfhklaaOEmphPartsx1
import Derived.Test.YtcmkejlkcfhklaaMath
namespace Go.Proofs.Ytcmkejlkcfhklaa.Pure
open Go.RowKit Go.Proofs.Ytcmkejlkcfhklaa.OEmphParts Go.Proofs.YtcmkejlkcfhklaaW.PrintWords Go.Proofs.YtcmkejlkcfhklaaW.PrintLast Go.Proofs.YtcmkejlkcfhklaaW.PrintMore
open Go.Proofs.Ytcmkejlkcfhklaa.Math
set_option linter.unusedVariables false
theorem sat_is {x n : Int} : fix_Sat.f x n = some (st x (min (max n 1) 63).toNat) := by
  unfold fix_Sat.f
  rw [mx_eq n, mn_eq (max n 1)]
  obtain ⟨m, hm⟩ : ∃ m : Nat, min (max n 1) 63 = m := ⟨(min (max n 1) 63).toNat, by omega⟩
  rw [hm, Int.toNat_natCast]
  have e : ((m : Int) - 1).toNat = m - 1 := by omega
  have hle : (2 : Int) ^ (m - 1) ≤ 4611686018427387904 := pow_le_62 (by omega)
  have hp : (0 : Int) < 2 ^ (m - 1) := Int.pow_pos (by decide)
  rw [e, w64 (n := 2 ^ (m - 1)) (by omega) (by omega), w64 (by omega) (by omega), xor_i64_1' (by omega) (by omega), mx_eq, mn_eq]
  unfold st
  congr 1; omega
theorem round_is {x s : Int} (h0 : -9223372036854775808 ≤ x) (h1 : x ≤ 9223372036854775807) : fix_Round.f x s = some (rnd x s) := by
  unfold fix_Round.f rnd
  by_cases hs : s ≤ 0
  · rw [if_pos hs, if_pos hs]
  rw [if_neg hs, if_neg hs, mn_eq]
  obtain ⟨n, hn⟩ : ∃ n : Nat, min s 62 = n := ⟨(min s 62).toNat, by omega⟩
  rw [hn]
  have e1 : wrap64 ((n : Int) - 1) = ((n - 1 : Nat) : Int) := by rw [w64 (by omega) (by omega)]; omega
  rw [if_pos (by omega), e1, if_pos (by omega), Int.toNat_natCast]
  have e2 : shr .i64 x ((n - 1 : Nat) : Int) = x / 2 ^ (n - 1) := by
    unfold shr
    have : min ((n - 1 : Nat) : Int).toNat IntKind.i64.bits = n - 1 := by simp [IntKind.bits]; omega
    rw [this]
  have e3 : bits .and .i64 (x / 2 ^ (n - 1)) 1 = x / 2 ^ (n - 1) % 2 := and_i64 _ 1 (by decide)
  rw [e2, e3]
  have hr := rn_range h0 h1 (n := n) (by omega)
  unfold rn at hr
  rw [w64 hr.2.2.1 hr.2.2.2]
  rfl
/-- The memory behind a number. -/
def nx (x m : Int) : Int := st (x + rnd (27853 * m) 15) 28
def I32 (x : Int) : Prop := -2147483648 ≤ x ∧ x ≤ 2147483647
theorem st_range (x : Int) (m : Nat) : -(2 ^ (m - 1)) ≤ st x m ∧ st x m ≤ 2 ^ (m - 1) - 1 := by
  have hp : (0 : Int) < 2 ^ (m - 1) := Int.pow_pos (by decide)
  unfold st; omega
theorem nx_range (x m : Int) : -134217728 ≤ nx x m ∧ nx x m ≤ 134217727 := st_range _ 28
theorem nx_i32 (x m : Int) : I32 (nx x m) := by have := nx_range x m; unfold I32; omega
theorem rnd_small {m : Int} (hm : I32 m) : -2147483648 ≤ rnd (27853 * m) 15 ∧ rnd (27853 * m) 15 ≤ 2147483648 := by
  rw [rnd15]; obtain ⟨h0, h1⟩ := hm; omega
theorem next_is {x m : Int} (hx : I32 x) (hm : I32 m) : emph_next.f x m = some (nx x m) := by
  obtain ⟨x0, x1⟩ := hx
  have hr := rnd_small hm
  obtain ⟨m0, m1⟩ := hm
  unfold emph_next.f
  rw [w64 (n := m) (by omega) (by omega), w64 (n := 27853 * m) (by omega) (by omega), w64 (n := x) (by omega) (by omega), round_is (by omega) (by omega)]
  simp only [Option.bind_some]
  rw [w64 (by omega) (by omega), sat_is]
  simp only [Option.bind_some]
  have e : (min (max (28 : Int) 1) 63).toNat = 28 := rfl
  rw [e]
  have hn := nx_range x m
  unfold nx at hn ⊢
  congr 1
  unfold wrap32; omega
/-- The sound of a memory. -/
def c16 (m : Int) : Int := min (max m (-32768)) 32767
/-- The sound of numbers behind a memory, and the last memory. -/
def so : List Int → Int → List Int
  | [], _ => []
  | x :: r, m => c16 (nx x m) :: so r (nx x m)
def la : List Int → Int → Int
  | [], m => m
  | x :: r, m => la r (nx x m)
theorem so_length : ∀ (xs : List Int) (m : Int), (so xs m).length = xs.length
  | [], _ => rfl
  | x :: r, m => by unfold so; rw [List.length_cons, List.length_cons, so_length r]
theorem so_i32 : ∀ (xs : List Int) (m : Int), ∀ y ∈ so xs m, -2147483648 ≤ y ∧ y ≤ 2147483647
  | [], _ => fun y h => by cases h
  | x :: r, m => fun y h => by
    unfold so at h
    rcases List.mem_cons.1 h with h | h
    · subst h; unfold c16; omega
    · exact so_i32 r _ y h
theorem la_i32 : ∀ (xs : List Int) (m : Int), I32 m → I32 (la xs m)
  | [], m => fun h => h
  | x :: r, m => fun _ => la_i32 r _ (nx_i32 x m)
theorem plain_loop (xs : List Int) (hn : xs.length ≤ 70368744177664) (hw : ∀ x ∈ xs, I32 x) (d : Nat) : ∀ (k i : Nat) (m : Int) (acc : List Int), i + d = xs.length → d < k → acc.length = i → I32 m →
    emph_Plain.l0 k m acc xs xs.length i = some (acc ++ so (xs.drop i) m, la (xs.drop i) m) := by
  induction d with
  | zero =>
    intro k i m acc hi hk ha hm
    obtain ⟨k, rfl⟩ : ∃ m, k = m + 1 := ⟨k - 1, by omega⟩
    simp only [emph_Plain.l0]
    rw [if_neg (by omega), List.drop_of_length_le (by omega)]
    simp [so, la]
  | succ d ih =>
    intro k i m acc hi hk ha hm
    obtain ⟨k, rfl⟩ : ∃ m, k = m + 1 := ⟨k - 1, by omega⟩
    simp only [emph_Plain.l0]
    have hlt : i < xs.length := by omega
    have hx := hw _ (rd_mem hlt)
    have hr := nx_range (rd xs i) m
    rw [if_pos (by omega), if_pos (by omega), if_pos (by omega), next_is hx hm]
    simp only [Option.bind_some]
    have e16 : fix_Sat16.f (wrap64 (nx (rd xs i) m)) = some (c16 (nx (rd xs i) m)) := by
      unfold fix_Sat16.f c16; rw [mx_eq, mn_eq, w64 (by omega) (by omega)]
    rw [e16]
    simp only [Option.bind_some]
    rw [if_pos (by omega), step64 hlt (by omega), ih k (i + 1) _ _ (by omega) (by omega) (by simp; omega) (nx_i32 _ _), rd_drop hlt, List.append_assoc]
    rfl
theorem plain_is (xs : List Int) (hn : xs.length ≤ 70368744177664) (hw : ∀ x ∈ xs, I32 x) (m : Int) (hm : I32 m) (k : Nat) (hk : xs.length < k) : emph_Plain.f k xs m = some (so xs m, la xs m) := by
  have := plain_loop xs hn hw xs.length k 0 m [] (by omega) hk rfl hm
  simp only [List.drop, List.nil_append] at this
  exact this
theorem so_append : ∀ (xs ys : List Int) (m : Int), so (xs ++ ys) m = so xs m ++ so ys (la xs m)
  | [], _, _ => rfl
  | x :: r, ys, m => by rw [List.cons_append, so, so, so_append r, la]; rfl
theorem la_append : ∀ (xs ys : List Int) (m : Int), la (xs ++ ys) m = la ys (la xs m)
  | [], _, _ => rfl
  | x :: r, ys, m => by rw [List.cons_append, la, la_append r, la]

theorem awake_parts (k : Nat) (hk : 2 < k) : spinetlaw24_awake.f k = some true := by
  have h : spinetlaw24_awake.f 3 = some true := by decide +kernel
  exact at_rounds (g := fun k => spinetlaw24_awake.f k) (fun k => spinetlaw24_awake.mono k) (by omega) h
theorem parts_loop (xs : List Int) (hn : xs.length ≤ 200) (d : Nat) : ∀ (k i : Nat), i + d = xs.length → d < k → spinetlaw24_EmphParts.l0 k xs xs xs.length i = some true := by
  induction d with
  | zero =>
    intro k i hi hk
    obtain ⟨k, rfl⟩ : ∃ m, k = m + 1 := ⟨k - 1, by omega⟩
    simp only [spinetlaw24_EmphParts.l0]
    rw [if_neg (by omega)]
  | succ d ih =>
    intro k i hi hk
    obtain ⟨k, rfl⟩ : ∃ m, k = m + 1 := ⟨k - 1, by omega⟩
    simp only [spinetlaw24_EmphParts.l0]
    have hlt : i < xs.length := by omega
    rw [if_pos (by omega), if_pos (by omega), if_pos (by omega), if_pos (by omega), step64 hlt (by omega)]
    simp only [if_true]
    exact ih k (i + 1) (by omega) (by omega)
theorem EmphParts : spinetlaw24_EmphParts.Pure := by
  intro xs m at_ hmax hlen hw hm ha
  have hm' : I32 m := wf_i32 hm
  have hw' : ∀ x ∈ xs, I32 x := fun x h => wf_i32 (hw x h)
  obtain ⟨a0, a1⟩ := wf_u8 ha
  refine ⟨300, ?_⟩
  unfold spinetlaw24_EmphParts.f
  rw [awake_parts 300 (by decide)]
  simp only [Option.bind_some, if_true]
  by_cases h : (xs.length : Int) > 200
  · rw [if_pos h]
  rw [if_neg h, plain_is xs (by omega) hw' m hm' 300 (by omega)]
  simp only [Option.bind_some]
  obtain ⟨j, hj, hj2⟩ : ∃ j : Nat, mn (wrap64 at_) (xs.length : Int) = j ∧ j ≤ xs.length := by
    rw [w64 (by omega) (by omega), mn_eq]
    exact ⟨(min at_ (xs.length : Int)).toNat, by omega, by omega⟩
  rw [hj, if_pos (by omega), if_pos (by omega), Int.toNat_natCast]
  have ht : ∀ x ∈ xs.take j, I32 x := fun x h => hw' x (List.mem_of_mem_take h)
  have hd : ∀ x ∈ xs.drop j, I32 x := fun x h => hw' x (List.mem_of_mem_drop h)
  have hl := la_i32 (xs.take j) m hm'
  have lt : (xs.take j).length = j := by rw [List.length_take]; omega
  have ld : (xs.drop j).length = xs.length - j := List.length_drop
  rw [plain_is (xs.take j) (by omega) ht m hm' 300 (by omega)]
  simp only [Option.bind_some]
  rw [plain_is (xs.drop j) (by omega) hd _ hl 300 (by omega)]
  simp only [Option.bind_some, List.nil_append, List.length_nil]
  rw [if_pos (by rw [so_length]; omega), if_pos (by rw [so_length, so_length]; omega)]
  have e1 : so (xs.take j) m ++ so (xs.drop j) (la (xs.take j) m) = so xs m := by rw [← so_append, List.take_append_drop]
  have e2 : la (xs.drop j) (la (xs.take j) m) = la xs m := by rw [← la_append, List.take_append_drop]
  rw [e1, e2, if_pos rfl]
  have e3 : (la xs m != la xs m) = false := bne_self_eq_false _
  rw [e3]
  show spinetlaw24_EmphParts.j0 (299 + 1) _ _ _ = some true
  simp only [spinetlaw24_EmphParts.j0]
  rw [if_neg (by decide)]
  exact parts_loop _ (by rw [so_length]; omega) (so xs m).length 299 0 (by omega) (by rw [so_length]; omega)

end Go.Proofs.Ytcmkejlkcfhklaa.Pure
