import Derived.Test.YtgjanpbpggblmaaDoorSpread
import Derived.Test.YtgjanpbpggblmaaDoorPSpreadTellsx1
import Derived.Test.YtgjanpbpggblmaaDoorPSpreadTellsx2
import Derived.LoopTactic
namespace Go.Proofs.YtgjanpbpggblmaaDoor.Spread
open Go.RowKit Go.Proofs.YtgjanpbpggblmaaDoorW.PrintWords Go.Proofs.YtgjanpbpggblmaaDoorW.PrintLast Go.Proofs.YtgjanpbpggblmaaDoorW.PrintMore
set_option linter.unusedVariables false
set_option linter.unusedSimpArgs false
/-- A product's sum, rounded and held. -/
def rnd (x : Int) : Int := (PSpreadTells.fix_Round.f x 15).getD 0
theorem rnd_is (x : Int) : PSpreadTells.fix_Round.f x 15 = some (rnd x) := by
  unfold rnd PSpreadTells.fix_Round.f
  rw [if_neg (by decide), if_pos (by decide), if_pos (by decide +kernel)]
  rfl
def s32 (x : Int) : Int := mn (mx x (-2147483648)) 2147483647
def ta (c s a b : Int) : Int := s32 (rnd (wrap64 ((wrap64 (c * (wrap64 a))) - (wrap64 (s * (wrap64 b))))))
def tb (c s a b : Int) : Int := s32 (rnd (wrap64 ((wrap64 (s * (wrap64 a))) + (wrap64 (c * (wrap64 b))))))
/-- A pair is turned. -/
def tn (c s : Int) (i : Nat) (xs : List Int) : List Int := (xs.set i (ta c s (rd xs i) (rd xs ((i : Int) + 1)))).set (i + 1) (tb c s (rd xs i) (rd xs ((i : Int) + 1)))
theorem tn_len (c s : Int) (i : Nat) (xs : List Int) : (tn c s i xs).length = xs.length := by simp [tn]
theorem turn_is (c s : Int) (i : Nat) (xs : List Int) (hi : i + 1 < xs.length) (hl : xs.length ≤ 1000) : PSpreadTells.spread_turn.f xs i c s = some (tn c s i xs) := by
  have e1 : wrap64 ((i : Int) + 1) = (i : Int) + 1 := by rw [← i64_w]; exact IntWalk.i64_in _ (by omega)
  unfold PSpreadTells.spread_turn.f
  rw [e1, if_pos (by omega), if_pos (by omega), if_pos (by omega), if_pos (by omega), rnd_is, Option.bind_some, PSpreadTells.fix_Sat32.f, Option.bind_some, rnd_is, Option.bind_some, PSpreadTells.fix_Sat32.f, Option.bind_some]
  have e2 : ((i : Int) + 1).toNat = i + 1 := by omega
  rw [e2, Int.toNat_natCast]
  rfl
abbrev Own (w0 w : World) (u : Value) (xs : List Int) : Prop := Kd.R (Kd.int .i32) 21 w w0.heap.size (fun k => some k = u.ownBlock) u xs
theorem turn_any (c s : Int) (i : Nat) (xs : List Int) (u : Value) (w0 w : World) (hi : i + 1 < xs.length) (hl : xs.length ≤ 1000) (hB : Below w0.heap.size w0 w) (hR : Own w0 w u xs) :
    Calls Tryd.prog 18 #[u, .int .i64 i, .int .i64 c, .int .i64 s] w fun e w' => e = .returned (.tuple #[]) ∧ Own w0 w' u (tn c s i xs) ∧ Below w0.heap.size w0 w' ∧ Kept w w' (fun k => some k = u.ownBlock) :=
  (PSpreadTells.spread_turn.calls (fun k => some k = u.ownBlock) u xs i c s _ w0 w hB hR (turn_is c s i xs hi hl)).mono fun e w' h => ⟨h.1, Kd.R_reok rfl h.2.1 (fun k hk => hk.symm), h.2.2.1, h.2.2.2⟩
/-- Turned from one place upwards. -/
def upw (c s : Int) : Nat → Nat → List Int → List Int
  | 0, _, xs => xs
  | d + 1, i, xs => upw c s d (i + 1) (tn c s i xs)
/-- Turned from one place downwards. -/
def dnw (c s : Int) : Nat → List Int → List Int
  | 0, xs => xs
  | m + 1, xs => dnw c s m (tn c s m xs)
theorem upw_len (c s : Int) : ∀ (d i : Nat) (xs : List Int), (upw c s d i xs).length = xs.length
  | 0, _, _ => rfl
  | d + 1, i, xs => by rw [upw, upw_len, tn_len]
theorem dnw_len (c s : Int) : ∀ (m : Nat) (xs : List Int), (dnw c s m xs).length = xs.length
  | 0, _ => rfl
  | m + 1, xs => by rw [dnw, dnw_len, tn_len]
/-- Spread out. -/
def sp (a : Int) (xs : List Int) : List Int := if si a = 0 then xs else dnw (co a) (si a) (xs.length - 2) (upw (co a) (si a) (xs.length - 1) 0 xs)
theorem sp_len (a : Int) (xs : List Int) : (sp a xs).length = xs.length := by
  unfold sp; split
  · rfl
  · rw [dnw_len, upw_len]
set_option maxHeartbeats 2000000 in
set_option maxRecDepth 100000 in
theorem in_no (a : Int) (xs : List Int) (u : Value) (w0 w : World) (hB : Below w0.heap.size w0 w) (hR : Own w0 w u xs) (hL : Laid w0) (h0 : si a = 0) :
    Calls Tryd.prog 12 #[u, .int .i64 a] w fun e w' => e = .returned (.tuple #[]) ∧ Own w0 w' u xs ∧ Below w0.heap.size w0 w' ∧ Kept w w' (fun k => some k = u.ownBlock) := by
  have HA := Aside0.mk (fun w hL => h0 ▸ angle_any a w hL : ∀ w, Laid w → Calls Tryd.prog 13 #[.int .i64 a] w fun e w' => e = .returned (.tuple #[.int .i64 (co a), .int .i64 0]) ∧ Below w.heap.size w w')
  have HR := Aside0.mk hR
  have HB := Aside0.mk hB
  have HL := Aside0.mk hL
  clear hR hB hL h0
  go_enter Tryd.func12, Tryd.ntmps12
  go_wp2_with (first | (go_at_call 13; (with_reducible refine (HA.out _ (HL.out.below HB.out)).mono ?_); rintro e w1 ⟨rfl, hb⟩))
  first | go_end0 | ((try simp only [Exit.inBlock, Exit.then]); refine bodyPost_ret (results_none rfl _ _ _) rfl ?_)
  exact ⟨rfl, Kd.R_below HR.out hb, below_step HB.out hb, Kept.of_below hb _⟩
set_option maxHeartbeats 2000000 in
set_option maxRecDepth 100000 in
theorem in_yes (c s : Int) (a : Int) (xs : List Int) (A : Option Addr) (cap : Nat) (w0 w : World) (hl : xs.length ≤ 1000) (hB : Below w0.heap.size w0 w) (hR : Own w0 w (.slice A xs.length cap) xs) (hL : Laid w0) (h0 : s ≠ 0)
    (ha : ∀ w, Laid w → Calls Tryd.prog 13 #[.int .i64 a] w fun e w' => e = .returned (.tuple #[.int .i64 c, .int .i64 s]) ∧ Below w.heap.size w w') :
    Calls Tryd.prog 12 #[.slice A xs.length cap, .int .i64 a] w fun e w' => e = .returned (.tuple #[]) ∧ Own w0 w' (.slice A xs.length cap) (dnw c s (xs.length - 2) (upw c s (xs.length - 1) 0 xs)) ∧ Below w0.heap.size w0 w' ∧ Kept w w' (fun k => some k = (Value.slice A xs.length cap).ownBlock) := by
  have HA := Aside0.mk ha
  have HR := Aside0.mk hR
  have HB := Aside0.mk hB
  have HL := Aside0.mk hL
  clear hR hB hL ha
  obtain ⟨n, hn⟩ : ∃ n, xs.length = n := ⟨_, rfl⟩
  have HN := Aside0.mk hn
  rw [hn] at hl HR ⊢
  clear hn
  have hb0 : (s == 0) = false := beq_eq_false_iff_ne.mpr h0
  go_enter Tryd.func12, Tryd.ntmps12
  go_wp2_with (first | (go_at_call 13; (with_reducible refine (HA.out _ (HL.out.below HB.out)).mono ?_); rintro e w1 ⟨rfl, hb⟩; have HK := Aside0.mk (Kept.of_below hb (fun k => some k = (Value.slice A n cap).ownBlock)); have m0 := Aside0.mk (Kd.R_below HR.out hb); have m1 := Aside0.mk (below_step HB.out hb); clear HR HB hb; have HR := m0; have HB := m1; clear m0 m1))
  go_loopw [6] (fun i wr => ∃ (m : Nat) (cur : List Int), m ≤ n ∧ i = .int .i64 m ∧ Aside0 (cur.length = n) ∧ Aside0 (upw c s (n - 1 - m) m cur = upw c s (n - 1) 0 xs) ∧ Aside0 (Own w0 wr (.slice A n cap) cur) ∧ Aside0 (Below w0.heap.size w0 wr) ∧ Aside0 (Kept w wr (fun k => some k = (Value.slice A n cap).ownBlock))) (fun i _ => (n - intOf i).toNat)
  case atStart => exact ⟨0, xs, by omega, rfl, HN, ⟨rfl⟩, HR, HB, HK⟩
  case round =>
    obtain ⟨m, cur, hm, rfl, HC, HU, HR2, HB2, HK2⟩ := hrel
    clear HR HB HK
    have HR := HR2
    have HB := HB2
    have HK := HK2
    clear HR2 HB2 HK2
    by_cases ht : (m : Int) + 1 < n
    · have HT : Aside0 (∀ w, Below w0.heap.size w0 w → Own w0 w (.slice A n cap) cur → Calls Tryd.prog 18 #[.slice A n cap, .int .i64 m, .int .i64 c, .int .i64 s] w fun e w' => e = .returned (.tuple #[]) ∧ Own w0 w' (.slice A n cap) (tn c s m cur) ∧ Below w0.heap.size w0 w' ∧ Kept w w' (fun k => some k = (Value.slice A n cap).ownBlock)) :=
        ⟨fun w hB hR => turn_any c s m cur _ w0 w (by have := HC.out; omega) (by have := HC.out; omega) hB hR⟩
      go_wp2_with (first | (go_at_call 18; (with_reducible refine (HT.out _ HB.out HR.out).mono ?_); rintro e w2 ⟨rfl, hR, hB, hK⟩; have m0 := Aside0.mk hR; have m1 := Aside0.mk hB; have m2 := Aside0.mk (HK.out.then_ hK (fun _ h => .inl h)); clear HR HB HK hR hB hK; have HR := m0; have HB := m1; have HK := m2; clear m0 m1 m2))
      go_roundw
      case rel => exact ⟨m + 1, tn c s m cur, by omega, by simp, ⟨(tn_len c s m cur).trans HC.out⟩, ⟨by have h := HU.out; rw [show n - 1 - m = (n - 1 - (m + 1)) + 1 by omega] at h; exact h⟩, HR, HB, HK⟩
      case measure => simp [intOf]; omega
    · have HD : Aside0 (cur = upw c s (n - 1) 0 xs) := ⟨by have h := HU.out; rw [show n - 1 - m = 0 by omega] at h; exact h⟩
      clear HU
      go_wp2
      go_loopw [7] (fun i wr => ∃ (j : Int) (cu : List Int), -3 ≤ j ∧ j + 3 ≤ n ∧ i = .int .i64 j ∧ Aside0 (cu.length = n) ∧ Aside0 (dnw c s (j + 1).toNat cu = dnw c s (n - 2) cur) ∧ Aside0 (Own w0 wr (.slice A n cap) cu) ∧ Aside0 (Below w0.heap.size w0 wr) ∧ Aside0 (Kept w wr (fun k => some k = (Value.slice A n cap).ownBlock))) (fun i _ => (intOf i + 4).toNat)
      case atStart => exact ⟨(n : Int) - 3, cur, by omega, by omega, by simp, HC, ⟨by rw [show ((n : Int) - 3 + 1).toNat = n - 2 by omega]⟩, HR, HB, HK⟩
      case round =>
        obtain ⟨j, cu, hj0, hj1, rfl, HC2, HU, HR2, HB2, HK2⟩ := hrel
        clear HR HB HK HC
        have HR := HR2
        have HB := HB2
        have HK := HK2
        clear HR2 HB2 HK2
        by_cases hj : 0 ≤ j
        · obtain ⟨q, rfl⟩ := Int.eq_ofNat_of_zero_le hj
          have HT : Aside0 (∀ w, Below w0.heap.size w0 w → Own w0 w (.slice A n cap) cu → Calls Tryd.prog 18 #[.slice A n cap, .int .i64 q, .int .i64 c, .int .i64 s] w fun e w' => e = .returned (.tuple #[]) ∧ Own w0 w' (.slice A n cap) (tn c s q cu) ∧ Below w0.heap.size w0 w' ∧ Kept w w' (fun k => some k = (Value.slice A n cap).ownBlock)) :=
            ⟨fun w hB hR => turn_any c s q cu _ w0 w (by have := HC2.out; omega) (by have := HC2.out; omega) hB hR⟩
          go_wp2_with (first | (go_at_call 18; (with_reducible refine (HT.out _ HB.out HR.out).mono ?_); rintro e w2 ⟨rfl, hR, hB, hK⟩; have m0 := Aside0.mk hR; have m1 := Aside0.mk hB; have m2 := Aside0.mk (HK.out.then_ hK (fun _ h => .inl h)); clear HR HB HK hR hB hK; have HR := m0; have HB := m1; have HK := m2; clear m0 m1 m2))
          go_roundw
          case rel => exact ⟨(q : Int) - 1, tn c s q cu, by omega, by omega, by simp, ⟨(tn_len c s q cu).trans HC2.out⟩, ⟨by have h := HU.out; rw [show ((q : Int) + 1).toNat = q + 1 by omega] at h; rw [show ((q : Int) - 1 + 1).toNat = q by omega]; exact h⟩, HR, HB, HK⟩
          case measure => simp [intOf]; omega
        · have HE : Aside0 (cu = dnw c s (n - 2) (upw c s (n - 1) 0 xs)) := ⟨by have h := HU.out; rw [show (j + 1).toNat = 0 by omega] at h; rw [← HD.out]; exact h⟩
          clear HU
          go_wp2
          first | go_end0 | ((try simp only [Exit.inBlock, Exit.then]); refine bodyPost_ret (results_none rfl _ _ _) rfl ?_)
          rw [← HE.out]
          exact ⟨rfl, HR.out, HB.out, HK.out⟩
theorem in_any (a : Int) (xs : List Int) (u : Value) (w0 w : World) (hl : xs.length ≤ 1000) (hB : Below w0.heap.size w0 w) (hR : Own w0 w u xs) (hL : Laid w0) :
    Calls Tryd.prog 12 #[u, .int .i64 a] w fun e w' => e = .returned (.tuple #[]) ∧ Own w0 w' u (sp a xs) ∧ Below w0.heap.size w0 w' ∧ Kept w w' (fun k => some k = u.ownBlock) := by
  unfold sp
  by_cases h0 : si a = 0
  · rw [if_pos h0]; exact in_no a xs u w0 w hB hR hL h0
  · rw [if_neg h0]
    obtain ⟨A, cap, rfl⟩ := Kd.R_slice hR
    exact in_yes (co a) (si a) a xs A cap w0 w hl hB hR hL h0 (angle_any a)
end Go.Proofs.YtgjanpbpggblmaaDoor.Spread
