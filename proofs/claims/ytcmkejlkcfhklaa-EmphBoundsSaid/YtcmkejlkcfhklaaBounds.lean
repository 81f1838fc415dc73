/- Two memories behind the same numbers, and the sounds on the way, are no further apart than the bound says, step by step. Conditions: none but that each number fits its type. -/
import Derived.Test.YtcmkejlkcfhklaaOEmphFadesx1
import Derived.Test.YtcmkejlkcfhklaaMath
import Derived.LoopTactic
namespace Go.Proofs.Ytcmkejlkcfhklaa.Bounds
open Go.RowKit Go.Proofs.Ytcmkejlkcfhklaa.OEmphFades Go.Proofs.YtcmkejlkcfhklaaW.PrintWords Go.Proofs.YtcmkejlkcfhklaaW.PrintLast Go.Proofs.YtcmkejlkcfhklaaW.PrintMore
open Go.Proofs.Ytcmkejlkcfhklaa.Math
attribute [local go_sem] max2_int min2_int max_two min_two max_three min_three max_four min_four   -- for this text's walks alone
set_option linter.unusedVariables false
set_option linter.unusedSimpArgs false
theorem sat_is {x n : Int} : fix_Sat.f x n = some (st x (min (max n 1) 63).toNat) := by
  unfold fix_Sat.f
  rw [mx_eq n, mn_eq (max n 1)]
  obtain ⟨m, hm⟩ : ∃ m : Nat, min (max n 1) 63 = m := ⟨(min (max n 1) 63).toNat, by omega⟩
  rw [hm, Int.toNat_natCast]
  have e : ((m : Int) - 1).toNat = m - 1 := by omega
  have hle : (2 : Int) ^ (m - 1) ≤ 4611686018427387904 := pow_le_62 (by omega)
  have hp : (0 : Int) < 2 ^ (m - 1) := Int.pow_pos (by decide)
  rw [e, w64 (n := 2 ^ (m - 1)) (by omega) (by omega), w64 (by omega) (by omega), xor_i64_1' (by omega) (by omega), mx_eq, mn_eq]
  unfold st
  congr 1; omega
theorem round_is {x s : Int} (h0 : -9223372036854775808 ≤ x) (h1 : x ≤ 9223372036854775807) : fix_Round.f x s = some (rnd x s) := by
  unfold fix_Round.f rnd
  by_cases hs : s ≤ 0
  · rw [if_pos hs, if_pos hs]
  rw [if_neg hs, if_neg hs, mn_eq]
  obtain ⟨n, hn⟩ : ∃ n : Nat, min s 62 = n := ⟨(min s 62).toNat, by omega⟩
  rw [hn]
  have e1 : wrap64 ((n : Int) - 1) = ((n - 1 : Nat) : Int) := by rw [w64 (by omega) (by omega)]; omega
  rw [if_pos (by omega), e1, if_pos (by omega), Int.toNat_natCast]
  have e2 : shr .i64 x ((n - 1 : Nat) : Int) = x / 2 ^ (n - 1) := by
    unfold shr
    have : min ((n - 1 : Nat) : Int).toNat IntKind.i64.bits = n - 1 := by simp [IntKind.bits]; omega
    rw [this]
  have e3 : bits .and .i64 (x / 2 ^ (n - 1)) 1 = x / 2 ^ (n - 1) % 2 := and_i64 _ 1 (by decide)
  rw [e2, e3]
  have hr := rn_range h0 h1 (n := n) (by omega)
  unfold rn at hr
  rw [w64 hr.2.2.1 hr.2.2.2]
  rfl
/-- The memory behind a number. -/
def nx (x m : Int) : Int := st (x + rnd (27853 * m) 15) 28
def I32 (x : Int) : Prop := -2147483648 ≤ x ∧ x ≤ 2147483647
theorem st_range (x : Int) (m : Nat) : -(2 ^ (m - 1)) ≤ st x m ∧ st x m ≤ 2 ^ (m - 1) - 1 := by
  have hp : (0 : Int) < 2 ^ (m - 1) := Int.pow_pos (by decide)
  unfold st; omega
theorem nx_range (x m : Int) : -134217728 ≤ nx x m ∧ nx x m ≤ 134217727 := st_range _ 28
theorem nx_i32 (x m : Int) : I32 (nx x m) := by have := nx_range x m; unfold I32; omega
theorem rnd_small {m : Int} (hm : I32 m) : -2147483648 ≤ rnd (27853 * m) 15 ∧ rnd (27853 * m) 15 ≤ 2147483648 := by
  rw [rnd15]; obtain ⟨h0, h1⟩ := hm; omega
theorem next_is {x m : Int} (hx : I32 x) (hm : I32 m) : emph_next.f x m = some (nx x m) := by
  obtain ⟨x0, x1⟩ := hx
  have hr := rnd_small hm
  obtain ⟨m0, m1⟩ := hm
  unfold emph_next.f
  rw [w64 (n := m) (by omega) (by omega), w64 (n := 27853 * m) (by omega) (by omega), w64 (n := x) (by omega) (by omega), round_is (by omega) (by omega)]
  simp only [Option.bind_some]
  rw [w64 (by omega) (by omega), sat_is]
  simp only [Option.bind_some]
  have e : (min (max (28 : Int) 1) 63).toNat = 28 := rfl
  rw [e]
  have hn := nx_range x m
  unfold nx at hn ⊢
  congr 1
  unfold wrap32; omega
/-- The sound of a memory. -/
def c16 (m : Int) : Int := min (max m (-32768)) 32767
/-- The sound of numbers behind a memory, and the last memory. -/
def so : List Int → Int → List Int
  | [], _ => []
  | x :: r, m => c16 (nx x m) :: so r (nx x m)
def la : List Int → Int → Int
  | [], m => m
  | x :: r, m => la r (nx x m)
theorem so_length : ∀ (xs : List Int) (m : Int), (so xs m).length = xs.length
  | [], _ => rfl
  | x :: r, m => by unfold so; rw [List.length_cons, List.length_cons, so_length r]
theorem so_i32 : ∀ (xs : List Int) (m : Int), ∀ y ∈ so xs m, -2147483648 ≤ y ∧ y ≤ 2147483647
  | [], _ => fun y h => by cases h
  | x :: r, m => fun y h => by
    unfold so at h
    rcases List.mem_cons.1 h with h | h
    · subst h; unfold c16; omega
    · exact so_i32 r _ y h
theorem la_i32 : ∀ (xs : List Int) (m : Int), I32 m → I32 (la xs m)
  | [], m => fun h => h
  | x :: r, m => fun _ => la_i32 r _ (nx_i32 x m)
theorem plain_loop (xs : List Int) (hn : xs.length ≤ 70368744177664) (hw : ∀ x ∈ xs, I32 x) (d : Nat) : ∀ (k i : Nat) (m : Int) (acc : List Int), i + d = xs.length → d < k → acc.length = i → I32 m →
    emph_Plain.l0 k m acc xs xs.length i = some (acc ++ so (xs.drop i) m, la (xs.drop i) m) := by
  induction d with
  | zero =>
    intro k i m acc hi hk ha hm
    obtain ⟨k, rfl⟩ : ∃ m, k = m + 1 := ⟨k - 1, by omega⟩
    simp only [emph_Plain.l0]
    rw [if_neg (by omega), List.drop_of_length_le (by omega)]
    simp [so, la]
  | succ d ih =>
    intro k i m acc hi hk ha hm
    obtain ⟨k, rfl⟩ : ∃ m, k = m + 1 := ⟨k - 1, by omega⟩
    simp only [emph_Plain.l0]
    have hlt : i < xs.length := by omega
    have hx := hw _ (rd_mem hlt)
    have hr := nx_range (rd xs i) m
    rw [if_pos (by omega), if_pos (by omega), if_pos (by omega), next_is hx hm]
    simp only [Option.bind_some]
    have e16 : fix_Sat16.f (wrap64 (nx (rd xs i) m)) = some (c16 (nx (rd xs i) m)) := by
      unfold fix_Sat16.f c16; rw [mx_eq, mn_eq, w64 (by omega) (by omega)]
    rw [e16]
    simp only [Option.bind_some]
    rw [if_pos (by omega), step64 hlt (by omega), ih k (i + 1) _ _ (by omega) (by omega) (by simp; omega) (nx_i32 _ _), rd_drop hlt, List.append_assoc]
    rfl
theorem plain_is (xs : List Int) (hn : xs.length ≤ 70368744177664) (hw : ∀ x ∈ xs, I32 x) (m : Int) (hm : I32 m) (k : Nat) (hk : xs.length < k) : emph_Plain.f k xs m = some (so xs m, la xs m) := by
  have := plain_loop xs hn hw xs.length k 0 m [] (by omega) hk rfl hm
  simp only [List.drop, List.nil_append] at this
  exact this
/-- One step of the bound. -/
def bs (x : Int) : Int := (27853 * x + 32767) / 32768
def bi : Nat → Int → Int
  | 0, x => x
  | n + 1, x => bi n (bs x)
theorem bs_range {x : Int} (h0 : 0 ≤ x) : 0 ≤ bs x ∧ bs x ≤ x := by unfold bs; omega
theorem bs_mono {x y : Int} (h : x ≤ y) : bs x ≤ bs y := by unfold bs; omega
theorem bi_range : ∀ (n : Nat) {x : Int}, 0 ≤ x → 0 ≤ bi n x ∧ bi n x ≤ x
  | 0, x, h => ⟨h, Int.le_refl _⟩
  | n + 1, x, h => by
    have h1 := bs_range h
    have h2 := bi_range n h1.1
    unfold bi; omega
theorem bi_mono : ∀ (n : Nat) {x y : Int}, x ≤ y → bi n x ≤ bi n y
  | 0, _, _, h => h
  | n + 1, _, _, h => by unfold bi; exact bi_mono n (bs_mono h)
theorem bi_add : ∀ (m n : Nat) (x : Int), bi (m + n) x = bi n (bi m x)
  | 0, n, x => by rw [Nat.zero_add]; rfl
  | m + 1, n, x => by rw [show m + 1 + n = (m + n) + 1 by omega]; exact bi_add m n (bs x)
theorem bi_more {m n : Nat} (h : m ≤ n) {x : Int} (hx : 0 ≤ x) : bi n x ≤ bi m x := by
  obtain ⟨d, rfl⟩ : ∃ d, n = m + d := ⟨n - m, by omega⟩
  rw [bi_add]
  exact (bi_range d (bi_range m hx).1).2
theorem bound_loop (n : Nat) (hn : n ≤ 1000) (d : Nat) : ∀ (k j : Nat) (x : Int), j + d = n → d < k → 0 ≤ x → x ≤ 1099511627776 → emph_Bound.l0 k x n j = some (bi d x) := by
  induction d with
  | zero =>
    intro k j x hj hk h0 h1
    obtain ⟨k, rfl⟩ : ∃ m, k = m + 1 := ⟨k - 1, by omega⟩
    simp only [emph_Bound.l0]
    rw [if_neg (by omega)]; rfl
  | succ d ih =>
    intro k j x hj hk h0 h1
    obtain ⟨k, rfl⟩ : ∃ m, k = m + 1 := ⟨k - 1, by omega⟩
    simp only [emph_Bound.l0]
    have hr := bs_range h0
    have e : wrap64 (Int.tdiv (wrap64 (wrap64 (wrap64 (27853 * x) + 32768) - 1)) 32768) = bs x := by
      rw [w64 (n := 27853 * x) (by omega) (by omega), w64 (n := 27853 * x + 32768) (by omega) (by omega), w64 (n := 27853 * x + 32768 - 1) (by omega) (by omega), Int.tdiv_eq_ediv_of_nonneg (by omega)]
      unfold bs at hr ⊢
      have : 27853 * x + 32768 - 1 = 27853 * x + 32767 := by omega
      rw [this, w64 (by omega) (by omega)]
    rw [if_pos (by omega), e, step64 (n := n) (by omega) (by omega)]
    exact ih k (j + 1) (bs x) (by omega) (by omega) hr.1 (by omega)
/-- How many steps count, and how far apart one begins. -/
def cs (s : Int) : Nat := (min (max s 0) 1000).toNat
def co (x : Int) : Int := min (max x 0) 1099511627776
theorem bound_is (off s : Int) (k : Nat) (hk : 1000 < k) : emph_Bound.f k off s = some (bi (cs s) (co off)) := by
  unfold emph_Bound.f
  have e1 : mn (mx off 0) 1099511627776 = co off := by rw [mx_eq, mn_eq]; rfl
  have e2 : mn (mx s 0) 1000 = (cs s : Int) := by rw [mx_eq, mn_eq]; unfold cs; omega
  have hc : cs s ≤ 1000 := by unfold cs; omega
  rw [e1, e2]
  exact bound_loop (cs s) hc (cs s) k 0 (co off) (by omega) (by omega) (by unfold co; omega) (by unfold co; omega)

theorem awake_any (w : World) : Calls Try.prog 8 #[] w fun e w' => e = .returned (.bool true) ∧ Below w.heap.size w w' :=
  spinetlaw24_awake.calls 3 true w (by decide +kernel)
/-- The sound of the first j + 1 numbers: where its last one lies. -/
theorem plain_at (A0 : Option Addr) (c0 : Nat) (xs : List Int) (m : Int) (j : Nat) (w : World) (hr : Kd.C (Kd.int .i32) w A0 xs.length xs) (hc : xs.length ≤ c0) (hn : xs.length ≤ 200) (hw : ∀ x ∈ xs, I32 x) (hm : I32 m) (hj : j < xs.length) :
    Calls Try.prog 10 #[.slice A0 (j + 1) c0, .int .i32 m] w fun e w' => ∃ (ad : Addr) (c : Nat), e = .returned (.tuple #[.slice (some ad) (j + 1) c, .int .i32 (la (xs.take (j + 1)) m)]) ∧ w'.cell? (ad.add j) = some (.int .i16 (rd (so (xs.take (j + 1)) m) j)) ∧ Below w.heap.size w w' := by
  have hl : (xs.take (j + 1)).length = j + 1 := by rw [List.length_take]; omega
  have hsl : (so (xs.take (j + 1)) m).length = j + 1 := by rw [so_length, hl]
  obtain ⟨i0, hi0, _, hsz, _⟩ := info_parts info21
  obtain ⟨hcut, hA, hC⟩ := print_take_of (P := Try.prog) (Value.int .i32) 0 22 21 .i64 Try.underlying22 hi0 hsz A0 c0 xs ((j : Int) + 1) (by omega) (by omega) hc
  have ht : ((j : Int) + 1).toNat = j + 1 := by omega
  rw [ht] at hA hC
  have h := emph_Plain.calls 300 A0 c0 (xs.take (j + 1)) m (so (xs.take (j + 1)) m) (la (xs.take (j + 1)) m) w (Kd.C_of_reads (h1 := fun _ => rfl) (hA w (Kd.reads_of_C hr))) hC
    (plain_is _ (by omega) (fun x h => hw x (List.mem_of_mem_take h)) m hm 300 (by omega))
  rw [hl] at h
  refine h.mono ?_
  rintro e w' ⟨v, rfl, ho, hb⟩
  obtain ⟨A, c, rfl⟩ := Kd.R_slice ho
  obtain ⟨ad, rfl, hcell⟩ := Kd.at_int (Kd.R_reads' ho).2.2 (j : Int) (by omega) (by omega)
  exact ⟨ad, c, by rw [hsl], hcell, hb⟩
set_option maxHeartbeats 4000000 in
set_option maxRecDepth 100000 in
theorem bounds_any (A0 : Option Addr) (c0 : Nat) (xs : List Int) (a b : Int) (w : World) (hr : Kd.C (Kd.int .i32) w A0 xs.length xs) (hc : xs.length ≤ c0) (hn : xs.length ≤ 200) (hw : ∀ x ∈ xs, I32 x) (ha : I32 a) (hb : I32 b)
    (off : Int) (hoff : (0 ≤ a - b ∧ off = a - b) ∨ (a - b < 0 ∧ off = -(a - b))) (B : Nat → Int) (hB : ∀ (j : Nat) w, j < xs.length → Calls Try.prog 14 #[.int .i64 off, .int .i64 ((j : Int) + 1)] w fun e w' => e = .returned (.int .i64 (B j)) ∧ Below w.heap.size w w')
    (hM : ∀ j : Nat, j < xs.length → la (xs.take (j + 1)) a - la (xs.take (j + 1)) b ≤ B j ∧ -(la (xs.take (j + 1)) a - la (xs.take (j + 1)) b) ≤ B j)
    (hS : ∀ j : Nat, j < xs.length → rd (so (xs.take (j + 1)) a) j - rd (so (xs.take (j + 1)) b) j ≤ B j ∧ -(rd (so (xs.take (j + 1)) a) j - rd (so (xs.take (j + 1)) b) j) ≤ B j)
    (hs16 : ∀ (j : Nat) (m : Int), j < xs.length → -32768 ≤ rd (so (xs.take (j + 1)) m) j ∧ rd (so (xs.take (j + 1)) m) j ≤ 32767) :
    Calls Try.prog 5 #[.slice A0 xs.length c0, .int .i32 a, .int .i32 b] w fun e w' => e = .returned (.bool true) ∧ Below w.heap.size w w' := by
  have HR := Aside0.mk hr
  have HC := Aside0.mk hc
  have HW := Aside0.mk hw
  have HA := Aside0.mk ha
  have HB2 := Aside0.mk hb
  have HBd := Aside0.mk hB
  have HM := Aside0.mk hM
  have HS := Aside0.mk hS
  have HS16 := Aside0.mk hs16
  have HB := Aside0.mk (Below.refl w.heap.size w)
  obtain ⟨a0, a1⟩ := ha
  obtain ⟨b0, b1⟩ := hb
  have hn' : (xs.length : Int) ≤ 200 := by omega
  clear hr hw hB hM hS hs16
  rcases hoff with ⟨hab, rfl⟩ | ⟨hab, rfl⟩
  all_goals
    go_enter Try.func5, Try.ntmps5
    go_wp2_with (first | (go_at_call 8; (with_reducible refine (awake_any _).mono ?_); rintro e w1 ⟨rfl, hb⟩; have n0 := Aside0.mk (below_step HB.out hb); clear HB hb; have HB := n0; clear n0))
    go_loopw [32] (fun i wr => ∃ j : Nat, j ≤ xs.length ∧ i = .int .i64 j ∧ Aside0 (Below w.heap.size w wr)) (fun i _ => xs.length - (intOf i).toNat)
    case atStart => exact ⟨0, by omega, rfl, HB⟩
    case round =>
      obtain ⟨j, hj, rfl, HBr⟩ := hrel
      clear HB
      have HB := HBr
      clear HBr
      by_cases hlt : j < xs.length
      · obtain ⟨M, hM0⟩ : ∃ M : Int, la (xs.take (j + 1)) a = M := ⟨_, rfl⟩
        obtain ⟨M', hM1⟩ : ∃ M : Int, la (xs.take (j + 1)) b = M := ⟨_, rfl⟩
        obtain ⟨P, hP0⟩ : ∃ P : Int, rd (so (xs.take (j + 1)) a) j = P := ⟨_, rfl⟩
        obtain ⟨P', hP1⟩ : ∃ P : Int, rd (so (xs.take (j + 1)) b) j = P := ⟨_, rfl⟩
        obtain ⟨E, hE⟩ : ∃ E : Int, B j = E := ⟨_, rfl⟩
        have f1 := HM.out j hlt
        have f2 := HS.out j hlt
        have f3 := HS16.out j a hlt
        have f4 := HS16.out j b hlt
        have f5 : I32 (la (xs.take (j + 1)) a) := la_i32 _ _ HA.out
        have f6 : I32 (la (xs.take (j + 1)) b) := la_i32 _ _ HB2.out
        unfold I32 at f5 f6
        rw [hM0, hM1, hE] at f1
        rw [hP0, hP1, hE] at f2
        rw [hP0] at f3
        rw [hP1] at f4
        rw [hM0] at f5
        rw [hM1] at f6
        obtain ⟨f1a, f1b⟩ := f1
        obtain ⟨f2a, f2b⟩ := f2
        obtain ⟨f3a, f3b⟩ := f3
        obtain ⟨f4a, f4b⟩ := f4
        obtain ⟨f5a, f5b⟩ := f5
        obtain ⟨f6a, f6b⟩ := f6
        have hA' := fun w' hb => plain_at A0 c0 xs a j w' (Kd.C_below HR.out hb) HC.out hn HW.out HA.out hlt
        have hB' := fun w' hb => plain_at A0 c0 xs b j w' (Kd.C_below HR.out hb) HC.out hn HW.out HB2.out hlt
        have hE' := fun w' => HBd.out j w' hlt
        rw [hM0, hP0] at hA'
        rw [hM1, hP1] at hB'
        rw [hE] at hE'
        have KA := Aside0.mk hA'
        have KB := Aside0.mk hB'
        have KE := Aside0.mk hE'
        have hcut : ∀ W : World, (Instr.slice 22 (.slice A0 xs.length c0) none (some (.int .i64 ((j : Int) + 1))) none).run Try.prog W = .ok (.slice A0 (j + 1) c0) W := by
          obtain ⟨i0, hi0, _, hsz, _⟩ := info_parts info21
          obtain ⟨hc1, _, _⟩ := print_take_of (P := Try.prog) (Value.int .i32) 0 22 21 .i64 Try.underlying22 hi0 hsz A0 c0 xs ((j : Int) + 1) (by omega) (by omega) HC.out
          have ht : ((j : Int) + 1).toNat = j + 1 := by omega
          have hl : (xs.take (j + 1)).length = j + 1 := by rw [List.length_take]; omega
          rw [ht, hl] at hc1
          exact hc1
        have hji : (0 : Int) ≤ j := by omega
        have hj1 : (j : Int) < ((j + 1 : Nat) : Int) := by omega
        clear hA' hB' hE' hM0 hM1 hP0 hP1 hE
        rcases (by omega : (M - M' < -(M - M')) ∨ (-(M - M') ≤ M - M')) with hd | hd
        all_goals
          rcases (by omega : (P - P' < -(P - P')) ∨ (-(P - P') ≤ P - P')) with hs | hs
          all_goals
            go_wp2_with (first | (go_at_call 10; (with_reducible refine (KA.out _ HB.out).mono ?_); rintro e w2 ⟨ad9, c9, rfl, hc9, hb⟩; have n0 := Aside0.mk (below_step HB.out hb); clear HB hb; have HB := n0; clear n0) | (go_at_call 10; (with_reducible refine (KB.out _ HB.out).mono ?_); rintro e w2 ⟨ad11, c11, rfl, hc11, hb⟩; have n0 := Aside0.mk (below_step HB.out hb); clear HB; have HB := n0; clear n0; have n1 := pw_cell_below hb hc9; clear hc9 hb; have hc9 := n1; clear n1))
            go_quiet (fail)
            go_wp2_with (first  | (go_at_call 14; (with_reducible refine (KE.out _).mono ?_); rintro e w3 ⟨rfl, hb⟩; have n0 := Aside0.mk (below_step (by first | exact HB.out | exact pw_below_drewN HB.out _) hb); clear HB hb; have HB := n0; clear n0))
            go_roundw
            case rel => exact ⟨j + 1, by omega, by go_num, HB⟩
            case measure => simp [intOf]; omega
      · go_wp2
        go_ret
        exact ⟨rfl, HB.out⟩

def ab (x : Int) : Int := max x (-x)
theorem nx_near (x m m' : Int) : ab (nx x m - nx x m') ≤ bs (ab (m - m')) := by
  have e : ∀ y : Int, nx x y = st (x + (27853 * y + 16384) / 32768) 28 := fun y => by unfold nx; rw [rnd15]
  rw [e, e]
  have hp : (0 : Int) < 2 ^ (28 - 1) := by decide
  unfold st bs ab
  generalize (2 : Int) ^ (28 - 1) = q at *
  omega
theorem la_near : ∀ (xs : List Int) (m m' : Int), ab (la xs m - la xs m') ≤ bi xs.length (ab (m - m'))
  | [], _, _ => Int.le_refl _
  | x :: r, m, m' => by
    rw [la, la]
    exact Int.le_trans (la_near r _ _) (bi_mono r.length (nx_near x m m'))
theorem so_append : ∀ (xs ys : List Int) (m : Int), so (xs ++ ys) m = so xs m ++ so ys (la xs m)
  | [], _, _ => rfl
  | x :: r, ys, m => by rw [List.cons_append, so, so, so_append r, la]; rfl
theorem la_append : ∀ (xs ys : List Int) (m : Int), la (xs ++ ys) m = la ys (la xs m)
  | [], _, _ => rfl
  | x :: r, ys, m => by rw [List.cons_append, la, la_append r, la]
theorem so_last (xs : List Int) (m : Int) (j : Nat) (hj : j < xs.length) : rd (so (xs.take (j + 1)) m) j = c16 (la (xs.take (j + 1)) m) := by
  rw [List.take_succ_eq_append_getElem hj, so_append, la_append]
  have hl : (so (xs.take j) m).length = j := by rw [so_length, List.length_take]; omega
  unfold rd
  rw [Int.toNat_natCast, List.getD_eq_getElem?_getD, List.getElem?_append_right (by omega), hl, Nat.sub_self]
  rfl
theorem c16_near (x y : Int) : ab (c16 x - c16 y) ≤ ab (x - y) := by unfold c16 ab; omega
theorem bounds_all (A0 : Option Addr) (c0 : Nat) (xs : List Int) (a b : Int) (w : World) (hr : Kd.C (Kd.int .i32) w A0 xs.length xs) (hc : xs.length ≤ c0) (hw : ∀ x ∈ xs, I32 x) (ha : I32 a) (hb : I32 b) (hmax : xs.length ≤ maxLen) :
    Calls Try.prog 5 #[.slice A0 xs.length c0, .int .i32 a, .int .i32 b] w fun e w' => e = .returned (.bool true) ∧ Below w.heap.size w w' := by
  by_cases hn : xs.length ≤ 200
  · have hoff : (0 ≤ a - b ∧ ab (a - b) = a - b) ∨ (a - b < 0 ∧ ab (a - b) = -(a - b)) := by unfold ab; omega
    have hco : co (ab (a - b)) = ab (a - b) := by unfold I32 at ha hb; unfold co ab; omega
    have key : ∀ j : Nat, j < xs.length → ab (la (xs.take (j + 1)) a - la (xs.take (j + 1)) b) ≤ bi (cs ((j : Int) + 1)) (co (ab (a - b))) := by
      intro j hj
      have h := la_near (xs.take (j + 1)) a b
      have hl : (xs.take (j + 1)).length = j + 1 := by rw [List.length_take]; omega
      have hcs : cs ((j : Int) + 1) = j + 1 := by unfold cs; omega
      rw [hl] at h
      rw [hcs, hco]
      exact h
    refine bounds_any A0 c0 xs a b w hr hc hn hw ha hb (ab (a - b)) hoff (fun j => bi (cs ((j : Int) + 1)) (co (ab (a - b)))) ?_ ?_ ?_ ?_
    · intro j w hj
      exact emph_Bound.calls 1001 _ _ _ w (bound_is _ _ 1001 (by decide))
    · intro j hj
      have h := key j hj
      unfold ab at h ⊢
      omega
    · intro j hj
      have h := key j hj
      rw [so_last xs a j hj, so_last xs b j hj]
      have h2 := c16_near (la (xs.take (j + 1)) a) (la (xs.take (j + 1)) b)
      generalize bi (cs ((j : Int) + 1)) (co (ab (a - b))) = E at *
      unfold ab at h h2
      omega
    · intro j m hj
      rw [so_last xs m j hj]
      unfold c16; omega
  · have hn' : (200 : Int) < (xs.length : Int) := by omega
    unfold maxLen at hmax
    have HB := Aside0.mk (Below.refl w.heap.size w)
    clear hr hw ha hb hn
    go_enter Try.func5, Try.ntmps5
    go_wp2_with (first | (go_at_call 8; (with_reducible refine (awake_any _).mono ?_); rintro e w1 ⟨rfl, hb⟩; have n0 := Aside0.mk (below_step HB.out hb); clear HB hb; have HB := n0; clear n0))
    go_ret
    exact ⟨rfl, HB.out⟩
theorem bounds_row (a0 : Option Addr) (len0 cap0 : Nat) (z0 : List Int) (a1 a2 : Int) (w : World) (w0 : (a0 = none ∧ len0 = 0 ∧ cap0 = 0 ∧ z0 = []) ∨ ∃ x, a0 = some x ∧ len0 ≤ cap0 ∧ cap0 ≤ maxLen ∧ z0.length = cap0 ∧ (∀ i, i < z0.length → w.cell? (x.add i) = some (.int .i32 (z0.getD i 0))) ∧ ∀ n ∈ z0, (Lit.int .i32 n).wf = true)
    (w1 : (Lit.int .i32 a1).wf = true) (w2 : (Lit.int .i32 a2).wf = true) :
    Calls Try.prog 5 #[.slice a0 len0 cap0, .int .i32 a1, .int .i32 a2] w fun e w' => e = .returned (.bool true) ∧ Below w.heap.size w w' := by
  obtain ⟨l0, rfl, hr0, hm0, hw0, hc0⟩ := ReadsInt.ofRowC w0
  exact bounds_all a0 cap0 l0 a1 a2 w (Kd.C_of_reads (d := (0 : Int)) (h1 := fun _ => rfl) hr0) hc0 (fun x h => wf_i32 (hw0 x h)) (wf_i32 w1) (wf_i32 w2) hm0
end Go.Proofs.Ytcmkejlkcfhklaa.Bounds
