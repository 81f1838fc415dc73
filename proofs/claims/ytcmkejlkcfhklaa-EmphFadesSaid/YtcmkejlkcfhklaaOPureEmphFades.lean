/- The bound is what the document says; more steps never lead further out; behind 200 steps it is 6 at most. Conditions: none but that each number fits its type. -/
import Derived.Test.YtcmkejlkcfhklaaOEmphFadesx1
import Derived.Test.YtcmkejlkcfhklaaMath
namespace Go.Proofs.Ytcmkejlkcfhklaa.Pure
open Go.RowKit Go.Proofs.Ytcmkejlkcfhklaa.OEmphFades Go.Proofs.YtcmkejlkcfhklaaW.PrintWords Go.Proofs.YtcmkejlkcfhklaaW.PrintLast Go.Proofs.YtcmkejlkcfhklaaW.PrintMore
open Go.Proofs.Ytcmkejlkcfhklaa.Math
set_option linter.unusedVariables false
/-- One step of the bound. -/
def bs (x : Int) : Int := (27853 * x + 32767) / 32768
def bi : Nat → Int → Int
  | 0, x => x
  | n + 1, x => bi n (bs x)
theorem bs_range {x : Int} (h0 : 0 ≤ x) : 0 ≤ bs x ∧ bs x ≤ x := by unfold bs; omega
theorem bs_mono {x y : Int} (h : x ≤ y) : bs x ≤ bs y := by unfold bs; omega
theorem bi_range : ∀ (n : Nat) {x : Int}, 0 ≤ x → 0 ≤ bi n x ∧ bi n x ≤ x
  | 0, x, h => ⟨h, Int.le_refl _⟩
  | n + 1, x, h => by
    have h1 := bs_range h
    have h2 := bi_range n h1.1
    unfold bi; omega
theorem bi_mono : ∀ (n : Nat) {x y : Int}, x ≤ y → bi n x ≤ bi n y
  | 0, _, _, h => h
  | n + 1, _, _, h => by unfold bi; exact bi_mono n (bs_mono h)
theorem bi_add : ∀ (m n : Nat) (x : Int), bi (m + n) x = bi n (bi m x)
  | 0, n, x => by rw [Nat.zero_add]; rfl
  | m + 1, n, x => by rw [show m + 1 + n = (m + n) + 1 by omega]; exact bi_add m n (bs x)
theorem bi_more {m n : Nat} (h : m ≤ n) {x : Int} (hx : 0 ≤ x) : bi n x ≤ bi m x := by
  obtain ⟨d, rfl⟩ : ∃ d, n = m + d := ⟨n - m, by omega⟩
  rw [bi_add]
  exact (bi_range d (bi_range m hx).1).2
theorem bound_loop (n : Nat) (hn : n ≤ 1000) (d : Nat) : ∀ (k j : Nat) (x : Int), j + d = n → d < k → 0 ≤ x → x ≤ 1099511627776 → emph_Bound.l0 k x n j = some (bi d x) := by
  induction d with
  | zero =>
    intro k j x hj hk h0 h1
    obtain ⟨k, rfl⟩ : ∃ m, k = m + 1 := ⟨k - 1, by omega⟩
    simp only [emph_Bound.l0]
    rw [if_neg (by omega)]; rfl
  | succ d ih =>
    intro k j x hj hk h0 h1
    obtain ⟨k, rfl⟩ : ∃ m, k = m + 1 := ⟨k - 1, by omega⟩
    simp only [emph_Bound.l0]
    have hr := bs_range h0
    have e : wrap64 (Int.tdiv (wrap64 (wrap64 (wrap64 (27853 * x) + 32768) - 1)) 32768) = bs x := by
      rw [w64 (n := 27853 * x) (by omega) (by omega), w64 (n := 27853 * x + 32768) (by omega) (by omega), w64 (n := 27853 * x + 32768 - 1) (by omega) (by omega), Int.tdiv_eq_ediv_of_nonneg (by omega)]
      unfold bs at hr ⊢
      have : 27853 * x + 32768 - 1 = 27853 * x + 32767 := by omega
      rw [this, w64 (by omega) (by omega)]
    rw [if_pos (by omega), e, step64 (n := n) (by omega) (by omega)]
    exact ih k (j + 1) (bs x) (by omega) (by omega) hr.1 (by omega)
/-- How many steps count, and how far apart one begins. -/
def cs (s : Int) : Nat := (min (max s 0) 1000).toNat
def co (x : Int) : Int := min (max x 0) 1099511627776
theorem bound_is (off s : Int) (k : Nat) (hk : 1000 < k) : emph_Bound.f k off s = some (bi (cs s) (co off)) := by
  unfold emph_Bound.f
  have e1 : mn (mx off 0) 1099511627776 = co off := by rw [mx_eq, mn_eq]; rfl
  have e2 : mn (mx s 0) 1000 = (cs s : Int) := by rw [mx_eq, mn_eq]; unfold cs; omega
  have hc : cs s ≤ 1000 := by unfold cs; omega
  rw [e1, e2]
  exact bound_loop (cs s) hc (cs s) k 0 (co off) (by omega) (by omega) (by unfold co; omega) (by unfold co; omega)

theorem ref_bound_loop (s : Int) (d : Nat) : ∀ (k j : Nat) (x : Int), j + d = cs s → 2 * d + 2 < k → 0 ≤ x → x ≤ 1099511627776 → spinetref24_Bound.l0 k x s j = some (bi d x) := by
  induction d with
  | zero =>
    intro k j x hj hk h0 h1
    obtain ⟨k, rfl⟩ : ∃ m, k = m + 2 := ⟨k - 2, by omega⟩
    have hc : ¬((j : Int) < s ∧ (j : Int) < 1000) := by unfold cs at hj; omega
    simp only [spinetref24_Bound.l0]
    by_cases h : (j : Int) < s
    · rw [if_pos h, decide_eq_false (by omega)]
      simp only [spinetref24_Bound.j1]
      rfl
    · rw [if_neg h]
      simp only [spinetref24_Bound.j1]
      rfl
  | succ d ih =>
    intro k j x hj hk h0 h1
    obtain ⟨k, rfl⟩ : ∃ m, k = m + 2 := ⟨k - 2, by omega⟩
    have hc : (j : Int) < s ∧ (j : Int) < 1000 := by unfold cs at hj; omega
    simp only [spinetref24_Bound.l0]
    rw [if_pos hc.1, decide_eq_true hc.2]
    simp only [spinetref24_Bound.j1, if_true]
    have hr := bs_range h0
    rw [w64 (n := 27853 * x) (by omega) (by omega), Int.tdiv_eq_ediv_of_nonneg (by omega), w64 (n := 27853 * x / 32768) (by omega) (by omega), w64 (n := 27853 * x / 32768 * 32768) (by omega) (by omega), step64 (n := 1000) (by omega) (by omega)]
    have hi := ih k (j + 1) (bs x) (by omega) (by omega) hr.1 (by omega)
    by_cases h : 27853 * x / 32768 * 32768 < 27853 * x
    · rw [if_pos h]
      have e : wrap64 (27853 * x / 32768 + 1) = bs x := by rw [w64 (by omega) (by omega)]; unfold bs; omega
      rw [e]; exact hi
    · rw [if_neg h]
      have e : 27853 * x / 32768 = bs x := by unfold bs; omega
      rw [e]; exact hi
theorem ref_bound (off s : Int) (k : Nat) (hk : 2002 < k) : spinetref24_Bound.f k off s = some (bi (cs s) (co off)) := by
  unfold spinetref24_Bound.f spinetref01_Held.f
  have hc : cs s ≤ 1000 := by unfold cs; omega
  have e : (if off < 0 then some (0 : Int) else if off > 1099511627776 then some 1099511627776 else some off) = some (co off) := by
    unfold co
    (repeat' split) <;> (congr 1; omega)
  rw [e]
  simp only [Option.bind_some]
  exact ref_bound_loop s (cs s) k 0 (co off) (by omega) (by omega) (by unfold co; omega) (by unfold co; omega)
theorem awake_fades (k : Nat) (hk : 2 < k) : spinetlaw24_awake.f k = some true := by
  have h : spinetlaw24_awake.f 3 = some true := by decide +kernel
  exact at_rounds (g := fun k => spinetlaw24_awake.f k) (fun k => spinetlaw24_awake.mono k) (by omega) h
theorem bi_200 : bi 200 1099511627776 ≤ 6 := by decide +kernel
theorem EmphFades : spinetlaw24_EmphFades.Pure := by
  intro off s _ _
  refine ⟨2100, ?_⟩
  have h0 : 0 ≤ co off := by unfold co; omega
  have h1 : co off ≤ 1099511627776 := by unfold co; omega
  unfold spinetlaw24_EmphFades.f
  rw [awake_fades 2100 (by decide), bound_is off s 2100 (by decide), ref_bound off s 2100 (by decide), bound_is off 0 2100 (by decide), bound_is off _ 2100 (by decide)]
  simp only [Option.bind_some, if_true]
  have ez : bi (cs 0) (co off) = co off := rfl
  rw [ez, if_pos (bi_range _ h0).2]
  have em : mn (mx s 0) 999 + 1 = min (max s 0) 999 + 1 := by rw [mx_eq, mn_eq]
  have hcs : cs s ≤ cs (mn (mx s 0) 999 + 1) := by rw [em]; unfold cs; omega
  have hle := bi_more hcs h0
  by_cases h2 : s < 200
  · rw [if_pos h2, decide_eq_true hle]
  · have h3 : bi (cs s) (co off) ≤ 6 := by
      have a := bi_more (m := 200) (n := cs s) (by unfold cs; omega) h0
      have b := bi_mono 200 h1
      have c := bi_200
      omega
    rw [if_neg h2, if_pos h3, decide_eq_true hle]

end Go.Proofs.Ytcmkejlkcfhklaa.Pure
